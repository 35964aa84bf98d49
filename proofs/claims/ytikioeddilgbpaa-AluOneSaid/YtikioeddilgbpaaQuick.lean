/-
  The order of a great region: a small test, with numbers for sets, from which the library's own test of a region follows.
-/
import Derived.Test.YtikioeddilgbpaaProg
import Derived.Test.YtikioeddilgbpaaPlain
import Derived.Deep.RegionHeld3
import Derived.BigQuiet
namespace Go.Proofs.Ytikioeddilgbpaa
open Go.RowKit

/-- A set of temporaries as a number. -/
def maskL : List Nat → Nat
  | [] => 0
  | t :: ts => (1 <<< t) ||| maskL ts

theorem maskL_bit {l : List Nat} {t : Nat} (h : t ∈ l) : (maskL l).testBit t = true := by
  induction l with
  | nil => cases h
  | cons x xs ih =>
    rw [maskL, Nat.testBit_or]
    rcases List.mem_cons.1 h with rfl | h
    · simp [Nat.testBit_shiftLeft]
    · rw [ih h, Bool.or_true]

def dstL (o : Oper) : List Nat := match o.dst with | some d => [d] | none => []
def aftL (o : Oper) : List Nat := (o.after.toList.filter (Region.binds .any)).map (·.on)
/-- An operation's digest: where it writes, where it looks, behind which it stands. -/
def dig (ops : Array Oper) (o : Oper) : Nat × Nat × Nat := (maskL (dstL o), maskL (o.looksAt ops), maskL (aftL o))

def pairOk (k : Nat) (d l : Nat) (x : Nat × Nat × Nat) : Bool :=
  Nat.beq (x.2.2 >>> k &&& 1) 1 || (Nat.beq (d &&& (x.2.1 ||| x.1)) 0 && Nat.beq (x.1 &&& l) 0)

def quick : List (Nat × Nat × Nat) → Nat → Bool
  | [], _ => true
  | x :: rest, k => rest.all (pairOk k x.1 x.2.1) && Nat.blt x.2.2 (1 <<< k) && quick rest (k + 1)

theorem mask_apart {a b : Nat} (h : Nat.beq (a &&& b) 0 = true) (t : Nat) (ha : a.testBit t = true) (hb : b.testBit t = true) : False := by
  have h1 : a &&& b = 0 := Nat.eq_of_beq_eq_true h
  have h2 : (a &&& b).testBit t = true := by rw [Nat.testBit_and, ha, hb]; rfl
  rw [h1, Nat.zero_testBit] at h2
  cases h2

theorem maskL_sub {l : List Nat} {t : Nat} (h : (maskL l).testBit t = true) : t ∈ l := by
  induction l with
  | nil => rw [maskL, Nat.zero_testBit] at h; cases h
  | cons x xs ih =>
    rw [maskL, Nat.testBit_or, Bool.or_eq_true] at h
    rcases h with h | h
    · have : t = x := by
        rw [Nat.one_shiftLeft, Nat.testBit_two_pow] at h
        exact (of_decide_eq_true h).symm
      subst this
      exact List.mem_cons_self ..
    · exact List.mem_cons_of_mem _ (ih h)

theorem apart_of_pair {ops : Array Oper} {x y : Oper} {k : Nat} (h : pairOk k (dig ops x).1 (dig ops x).2.1 (dig ops y) = true) (hno : ∀ e ∈ y.after, Region.binds .any e = true → e.on ≠ k) :
    x.apart ops y = true := by
  unfold pairOk at h
  rw [Bool.or_eq_true] at h
  rcases h with h | h
  · exfalso
    have h1 : (maskL (aftL y)) >>> k &&& 1 = 1 := Nat.eq_of_beq_eq_true h
    have h2 : (maskL (aftL y)).testBit k = true := by
      rw [Nat.testBit, Nat.and_comm, h1]; rfl
    have h3 := maskL_sub h2
    obtain ⟨e, he, hk⟩ := List.mem_map.1 h3
    obtain ⟨he1, he2⟩ := List.mem_filter.1 he
    exact hno e (by simpa using he1) he2 hk
  · rw [Bool.and_eq_true] at h
    obtain ⟨h1, h2⟩ := h
    have a1 : ∀ d, x.dst = some d → d ∉ y.looksAt ops := fun d hd hm =>
      mask_apart h1 d (maskL_bit (by simp [dstL, hd])) (by rw [Nat.testBit_or]; simp [dig, maskL_bit hm])
    have a2 : ∀ d, x.dst = some d → y.dst ≠ some d := fun d hd hm =>
      mask_apart h1 d (maskL_bit (by simp [dstL, hd])) (by rw [Nat.testBit_or]; simp [dig, maskL_bit (l := dstL y) (t := d) (by simp [dstL, hm])])
    have a3 : ∀ d, y.dst = some d → d ∉ x.looksAt ops := fun d hd hm =>
      mask_apart h2 d (maskL_bit (by simp [dstL, hd])) (maskL_bit hm)
    unfold Oper.apart
    rw [Bool.and_eq_true]
    constructor
    · cases hx : x.dst with
      | none => rfl
      | some d => simp [a1 d hx, a2 d hx]
    · cases hy : y.dst with
      | none => rfl
      | some d => simp [a3 d hy]

/-- What is listed when the first k are. -/
def upTo (n k : Nat) (listed : Array Bool) : Prop := listed.size = n ∧ ∀ j, j < n → listed.getD j true = decide (j < k) ∧ listed.getD j false = decide (j < k)

theorem upTo_set {n k : Nat} {listed : Array Bool} (h : upTo n k listed) : upTo n (k + 1) (listed.setIfInBounds k true) := by
  refine ⟨by simp [h.1], fun j hj => ?_⟩
  obtain ⟨h1, h2⟩ := h.2 j hj
  have hs : j < listed.size := by rw [h.1]; exact hj
  by_cases e : k = j
  · subst e
    simp [Array.getD, hs]
  · have : (decide (j < k + 1)) = decide (j < k) := by
      by_cases hjk : j < k
      · simp [hjk, Nat.lt_succ_of_lt hjk]
      · have : ¬ j < k + 1 := by omega
        simp [hjk, this]
    rw [this]
    simp only [Array.getD, Array.size_setIfInBounds, hs, dif_pos] at h1 h2 ⊢
    simp only [Array.getInternal_eq_getElem] at h1 h2 ⊢
    rw [Array.getElem_setIfInBounds (by simpa using hs)]
    simp [e, h1]

theorem quick_ready {ops : Array Oper} {o : Oper} {k n : Nat} {listed : Array Bool} (ho : ops[k]? = some o) (hn : ops.size = n) (hu : upTo n k listed) (ha : Nat.blt (maskL (aftL o)) (1 <<< k) = true) :
    k ∈ Region.ready .any ops listed := by
  have hk : k < n := by rw [← hn]; exact (Array.getElem?_eq_some_iff.1 ho).1
  refine mem_ready.2 ⟨by rw [(hu.2 k hk).1]; simp, o, ho, fun e he hb => ?_⟩
  have h1 : (maskL (aftL o)).testBit e.on = true := maskL_bit (List.mem_map.2 ⟨e, List.mem_filter.2 ⟨by simpa using he, hb⟩, rfl⟩)
  have h2 : maskL (aftL o) < 2 ^ k := by
    rw [Nat.blt_eq, Nat.one_shiftLeft] at ha
    exact ha
  have h3 : e.on < k := by
    rcases Nat.lt_or_ge e.on k with h | h
    · exact h
    · rw [Nat.testBit_lt_two_pow (Nat.lt_of_lt_of_le h2 (Nat.pow_le_pow_right (by decide) h))] at h1
      cases h1
  rw [(hu.2 e.on (by omega)).2]
  simp [h3]

theorem quick_free {ops : Array Oper} {o : Oper} {k n : Nat} {listed : Array Bool} (ho : ops[k]? = some o) (hn : ops.size = n) (hu : upTo n k listed)
    (h : ∀ j oj, k < j → ops[j]? = some oj → pairOk k (dig ops o).1 (dig ops o).2.1 (dig ops oj) = true) : Region.free .any ops listed k = true := by
  unfold Region.free
  rw [ho]
  simp only []
  rw [List.all_eq_true]
  intro j hj
  rw [List.mem_range] at hj
  by_cases e : j = k
  · simp [e]
  by_cases hjk : j < k
  · rw [(hu.2 j (by omega)).1]; simp [hjk]
  · cases hoj : ops[j]? with
    | none => simp
    | some oj =>
      simp only []
      rw [Bool.or_eq_true]
      right
      rw [Bool.or_eq_true]
      by_cases hx : ∀ e ∈ oj.after, Region.binds .any e = true → e.on ≠ k
      · right
        exact apart_of_pair (h j oj (by omega) hoj) hx
      · left
        rw [Array.any_eq_true']
        obtain ⟨e, hx⟩ := Classical.not_forall.1 hx
        obtain ⟨he, hx⟩ := Classical.not_imp.1 hx
        obtain ⟨hb, hk⟩ := Classical.not_imp.1 hx
        replace hk := Classical.not_not.1 hk
        exact ⟨e, he, by rw [hb, hk]; simp⟩

theorem quick_lex {ops : Array Oper} {n : Nat} (hn : ops.size = n) : ∀ (l : List Oper) (k : Nat) (listed : Array Bool), (∀ j, l[j]? = ops[k + j]?) → k + l.length = n → upTo n k listed →
    quick (l.map (dig ops)) k = true → Region.lexFrom .any ops l.length k listed = true
  | [], k, listed, _, hl, hu, _ => by
    show (Region.ready .any ops listed).isEmpty = true
    rw [List.isEmpty_iff]
    refine List.eq_nil_iff_forall_not_mem.2 fun j hj => ?_
    obtain ⟨h1, o, ho, _⟩ := mem_ready.1 hj
    have hjn : j < n := by rw [← hn]; exact (Array.getElem?_eq_some_iff.1 ho).1
    have hkn : k = n := by simpa using hl
    rw [(hu.2 j hjn).1] at h1
    simp [hkn, hjn] at h1
  | o :: l, k, listed, he, hl, hu, h => by
    have h0 : ops[k]? = some o := by simpa using (he 0).symm
    have hk : k < n := by rw [← hn]; exact (Array.getElem?_eq_some_iff.1 h0).1
    simp only [List.map_cons, quick, Bool.and_eq_true] at h
    obtain ⟨⟨h1, h2⟩, h3⟩ := h
    have he' : ∀ j, l[j]? = ops[k + 1 + j]? := fun j => by
      have := he (j + 1)
      simpa [Nat.add_assoc, Nat.add_comm 1 j] using this
    simp only [List.length_cons, Region.lexFrom, Bool.and_eq_true]
    refine ⟨⟨by simpa using quick_ready h0 hn hu h2, quick_free h0 hn hu fun j oj hj hoj => ?_⟩, quick_lex hn l (k + 1) _ he' (by simp at hl; omega) (upTo_set hu) h3⟩
    rw [List.all_eq_true] at h1
    refine h1 _ (List.mem_map.2 ⟨oj, ?_, rfl⟩)
    have h5 := he' (j - (k + 1))
    rw [show k + 1 + (j - (k + 1)) = j by omega, hoj] at h5
    exact List.mem_of_getElem? h5

/-- **The small test, for the library's.** -/
theorem lexB_quick {l : List Oper} (hs : Region.noSelect l.toArray = true) (h : quick (l.map (dig l.toArray)) 0 = true) : Region.lexB .any l.toArray = true := by
  unfold Region.lexB
  rw [hs, Bool.true_and]
  have := quick_lex (ops := l.toArray) (n := l.length) (by simp) l 0 (Array.replicate l.toArray.size false) (fun j => by simp) (by simp) ⟨by simp, fun j hj => by simp [Array.getD, hj]⟩ h
  simpa using this
end Go.Proofs.Ytikioeddilgbpaa
