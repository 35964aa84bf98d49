/-
  Relaxing, as plain Lean: where items begin, which branches are long, and what follows. No program in sight.
-/
import Derived.WalkKit
namespace Go.Proofs.Ytakhpibolhijoaa
namespace Rx

structure It where
  size : Int
  to_ : Int
  br : Bool
deriving Inhabited

def one (b : Bool) : Int := if b then 1 else 0
theorem one_mono {a b : Bool} (h : a = true → b = true) : one a ≤ one b := by
  cases a <;> cases b <;> simp_all [one]
theorem one_nonneg (b : Bool) : 0 ≤ one b := by cases b <;> simp [one]
theorem one_le (b : Bool) : one b ≤ 1 := by cases b <;> simp [one]

/-- where each begins, from a on, and where all ends -/
def pl : Int → List It → List Bool → List Int
  | a, x :: l, b :: bs => a :: pl (a + x.size + one b) l bs
  | a, _, _ => [a]

theorem pl_length : ∀ (a : Int) (l : List It) (bs : List Bool), bs.length = l.length → (pl a l bs).length = l.length + 1
  | a, [], [], _ => rfl
  | a, x :: l, b :: bs, h => by simp only [pl, List.length_cons, pl_length _ l bs (by simpa using h)]
  | a, [], b :: bs, h => by simp at h
  | a, x :: l, [], h => by simp at h

theorem pl_zero (a : Int) (l : List It) (bs : List Bool) : (pl a l bs).getD 0 0 = a := by
  cases l <;> cases bs <;> simp [pl]

theorem pl_succ : ∀ (a : Int) (l : List It) (bs : List Bool) (j : Nat), bs.length = l.length → j < l.length →
    (pl a l bs).getD (j + 1) 0 = (pl a l bs).getD j 0 + (l.getD j default).size + one (bs.getD j false)
  | a, x :: l, b :: bs, 0, h, hj => by
    simp only [pl, List.getD_cons_succ, List.getD_cons_zero, pl_zero]
  | a, x :: l, b :: bs, j + 1, h, hj => by
    simp only [pl, List.getD_cons_succ]
    exact pl_succ _ l bs j (by simpa using h) (by simpa using hj)
  | a, [], bs, j, h, hj => by simp at hj
  | a, x :: l, [], j, h, hj => by simp at h

def bad (n : Int) : Bool := decide (n < -128) || decide (127 < n)
theorem bad_iff (n : Int) : bad n = true ↔ n < -128 ∨ 127 < n := by simp [bad]
theorem bad_no {n : Int} (h1 : -128 ≤ n) (h2 : n ≤ 127) : (!bad n) = true := by simp [bad]; omega
theorem bad_low {n : Int} (h1 : ¬ -128 ≤ n) : (!bad n) = false := by simp [bad]; omega
theorem bad_high {n : Int} (h2 : ¬ n ≤ 127) : (!bad n) = false := by simp [bad]; omega
def gap (p : List Int) (x : It) (i : Nat) : Int := p.getD x.to_.toNat 0 - p.getD i 0

/-- the branches that are long behind a round -/
def marks (p : List Int) : Nat → List It → List Bool → List Bool
  | i, x :: l, b :: bs => (b || (x.br && bad (gap p x i))) :: marks p (i + 1) l bs
  | _, _, _ => []
theorem marks_length (p : List Int) : ∀ (i : Nat) (l : List It) (bs : List Bool), bs.length = l.length → (marks p i l bs).length = l.length
  | i, [], [], _ => rfl
  | i, x :: l, b :: bs, h => by simp only [marks, List.length_cons, marks_length p _ l bs (by simpa using h)]
  | i, [], b :: bs, h => by simp at h
  | i, x :: l, [], h => by simp at h
theorem marks_get (p : List Int) : ∀ (i : Nat) (l : List It) (bs : List Bool) (j : Nat), bs.length = l.length → j < l.length →
    (marks p i l bs).getD j false = (bs.getD j false || ((l.getD j default).br && bad (gap p (l.getD j default) (i + j))))
  | i, x :: l, b :: bs, 0, h, hj => by simp [marks]
  | i, x :: l, b :: bs, j + 1, h, hj => by
    simp only [marks, List.getD_cons_succ]
    rw [marks_get p (i + 1) l bs j (by simpa using h) (by simpa using hj), show i + 1 + j = i + (j + 1) by omega]
  | i, [], bs, j, h, hj => by simp at hj
  | i, x :: l, [], j, h, hj => by simp at h

def step (l : List It) (bs : List Bool) : List Bool := marks (pl 0 l bs) 0 l bs
theorem step_length (l : List It) (bs : List Bool) (h : bs.length = l.length) : (step l bs).length = l.length := marks_length _ _ _ _ h
theorem step_get (l : List It) (bs : List Bool) (j : Nat) (h : bs.length = l.length) (hj : j < l.length) :
    (step l bs).getD j false = (bs.getD j false || ((l.getD j default).br && bad (gap (pl 0 l bs) (l.getD j default) j))) := by
  have := marks_get (pl 0 l bs) 0 l bs j h hj
  rwa [Nat.zero_add] at this

/-- k rounds -/
def it (l : List It) : Nat → List Bool
  | 0 => List.replicate l.length false
  | k + 1 => step l (it l k)
theorem it_length (l : List It) : ∀ k, (it l k).length = l.length
  | 0 => by simp [it]
  | k + 1 => step_length l _ (it_length l k)

/-- what Do answers -/
structure IsDo (l : List It) (a : List Bool) (k : Nat) : Prop where
  eq : a = it l k
  fix : step l a = a
  least : ∀ j, j < k → step l (it l j) ≠ it l j
theorem IsDo.unique {l : List It} {a b : List Bool} {k m : Nat} (h : IsDo l a k) (h' : IsDo l b m) : a = b ∧ k = m := by
  have : k = m := by
    rcases Nat.lt_trichotomy k m with hlt | he | hlt
    · have := h.fix
      rw [h.eq] at this
      exact absurd this (h'.least k hlt)
    · exact he
    · have := h'.fix
      rw [h'.eq] at this
      exact absurd this (h.least m hlt)
  subst this
  exact ⟨h.eq.trans h'.eq.symm, rfl⟩
theorem IsDo.length {l : List It} {a : List Bool} {k : Nat} (h : IsDo l a k) : a.length = l.length := by rw [h.eq]; exact it_length l k

/-- lists of bools, place by place -/
theorem bools_ext {a b : List Bool} (hl : a.length = b.length) (h : ∀ j, j < a.length → a.getD j false = b.getD j false) : a = b := by
  apply List.ext_getElem hl
  intro i h1 h2
  have := h i h1
  simpa [List.getD_eq_getElem?_getD, h1, h2] using this

/-- how many are true -/
def cnt (l : List Bool) : Nat := (l.filter id).length
theorem cnt_le (l : List Bool) : cnt l ≤ l.length := List.length_filter_le _ _
theorem cnt_mono : ∀ {a b : List Bool}, a.length = b.length → (∀ j, a.getD j false = true → b.getD j false = true) → cnt a ≤ cnt b
  | [], [], _, _ => Nat.le_refl _
  | x :: a, y :: b, hl, h => by
    have h0 := h 0
    simp only [List.getD_cons_zero] at h0
    have ht := cnt_mono (a := a) (b := b) (by simpa using hl) (fun j hj => by have := h (j + 1); simp only [List.getD_cons_succ] at this; exact this hj)
    simp only [cnt] at ht ⊢
    cases x <;> cases y <;> simp_all [List.filter_cons] <;> omega
  | [], _ :: _, hl, _ => by simp at hl
  | _ :: _, [], hl, _ => by simp at hl
theorem cnt_lt : ∀ {a b : List Bool}, a.length = b.length → (∀ j, a.getD j false = true → b.getD j false = true) → a ≠ b → cnt a < cnt b
  | [], [], _, _, hne => (hne rfl).elim
  | x :: a, y :: b, hl, h, hne => by
    have h0 := h 0
    simp only [List.getD_cons_zero] at h0
    have hrest : ∀ j, a.getD j false = true → b.getD j false = true := fun j hj => by have := h (j + 1); simp only [List.getD_cons_succ] at this; exact this hj
    have hl' : a.length = b.length := by simpa using hl
    have hm := cnt_mono hl' hrest
    by_cases hab : a = b
    · subst hab
      cases x <;> cases y <;> simp_all [cnt, List.filter_cons]
    · have ht := cnt_lt hl' hrest hab
      simp only [cnt] at ht ⊢
      cases x <;> cases y <;> simp_all [List.filter_cons] <;> omega
  | [], _ :: _, hl, _, _ => by simp at hl
  | _ :: _, [], hl, _, _ => by simp at hl

theorem step_ge (l : List It) (bs : List Bool) (h : bs.length = l.length) (j : Nat) (hj : bs.getD j false = true) : (step l bs).getD j false = true := by
  by_cases hlt : j < l.length
  · rw [step_get l bs j h hlt, hj]; rfl
  · rw [List.getD_eq_getElem?_getD, List.getElem?_eq_none (by omega)] at hj
    cases hj
theorem step_cnt (l : List It) (bs : List Bool) (h : bs.length = l.length) (hne : step l bs ≠ bs) : cnt bs < cnt (step l bs) :=
  cnt_lt (by rw [step_length l bs h, h]) (step_ge l bs h) (fun e => hne e.symm)

/-- sizes are fair -/
def Fair (l : List It) : Prop := ∀ j, j < l.length → 0 ≤ (l.getD j default).size ∧ (l.getD j default).size ≤ 2048 ∧ ((l.getD j default).br = true → 0 ≤ (l.getD j default).to_ ∧ (l.getD j default).to_ ≤ l.length)

theorem pl_diff (l l' : List It) (bs bs' : List Bool) (hb : bs.length = l.length) (hb' : bs'.length = l'.length) (hl : l'.length = l.length)
    (hs : ∀ j, j < l.length → (l.getD j default).size ≤ (l'.getD j default).size) (hm : ∀ j, bs.getD j false = true → bs'.getD j false = true) (i : Nat) :
    ∀ d, i + d ≤ l.length → (pl 0 l bs).getD (i + d) 0 - (pl 0 l bs).getD i 0 ≤ (pl 0 l' bs').getD (i + d) 0 - (pl 0 l' bs').getD i 0
  | 0, _ => by simp
  | d + 1, h => by
    have ih := pl_diff l l' bs bs' hb hb' hl hs hm i d (by omega)
    have e1 := pl_succ 0 l bs (i + d) hb (by omega)
    have e2 := pl_succ 0 l' bs' (i + d) hb' (by omega)
    have e3 := hs (i + d) (by omega)
    have e4 := one_mono (hm (i + d))
    rw [show i + (d + 1) = i + d + 1 by omega, e1, e2]
    omega
theorem pl_rise (l : List It) (bs : List Bool) (hb : bs.length = l.length) (hf : Fair l) (i : Nat) :
    ∀ d, i + d ≤ l.length → (pl 0 l bs).getD i 0 ≤ (pl 0 l bs).getD (i + d) 0
  | 0, _ => by simp
  | d + 1, h => by
    have ih := pl_rise l bs hb hf i d (by omega)
    have e1 := pl_succ 0 l bs (i + d) hb (by omega)
    have e3 := (hf (i + d) (by omega)).1
    have e4 := one_nonneg (bs.getD (i + d) false)
    rw [show i + (d + 1) = i + d + 1 by omega, e1]
    omega
theorem pl_bound (l : List It) (bs : List Bool) (hb : bs.length = l.length) (hf : Fair l) : ∀ j, j ≤ l.length → 0 ≤ (pl 0 l bs).getD j 0 ∧ (pl 0 l bs).getD j 0 ≤ 2049 * j
  | 0, _ => by rw [pl_zero]; omega
  | j + 1, h => by
    have ih := pl_bound l bs hb hf j (by omega)
    have e1 := pl_succ 0 l bs j hb (by omega)
    have e3 := hf j (by omega)
    have e4 := one_nonneg (bs.getD j false)
    have e5 := one_le (bs.getD j false)
    rw [e1]
    omega

/-- what is too far stays too far where all is at least as great -/
theorem bad_mono (l l' : List It) (bs bs' : List Bool) (hb : bs.length = l.length) (hb' : bs'.length = l'.length) (hl : l'.length = l.length) (hf : Fair l) (hf' : Fair l')
    (hs : ∀ j, j < l.length → (l.getD j default).size ≤ (l'.getD j default).size) (hm : ∀ j, bs.getD j false = true → bs'.getD j false = true)
    (x : It) (hx : 0 ≤ x.to_ ∧ x.to_ ≤ l.length) (i : Nat) (hi : i ≤ l.length) (h : bad (gap (pl 0 l bs) x i) = true) : bad (gap (pl 0 l' bs') x i) = true := by
  rw [bad_iff] at h ⊢
  unfold gap at h ⊢
  rcases Nat.le_total i x.to_.toNat with hle | hle
  · obtain ⟨d, hd⟩ : ∃ d, x.to_.toNat = i + d := ⟨x.to_.toNat - i, by omega⟩
    rw [hd] at h ⊢
    have h1 := pl_diff l l' bs bs' hb hb' hl hs hm i d (by omega)
    have h2 := pl_rise l bs hb hf i d (by omega)
    omega
  · obtain ⟨d, hd⟩ : ∃ d, i = x.to_.toNat + d := ⟨i - x.to_.toNat, by omega⟩
    rw [hd] at h ⊢
    have h1 := pl_diff l l' bs bs' hb hb' hl hs hm x.to_.toNat d (by omega)
    have h2 := pl_rise l bs hb hf x.to_.toNat d (by omega)
    omega

/-- whatever else fits is long wherever Do's is -/
theorem it_least (l l' : List It) (hl : l'.length = l.length) (hf : Fair l) (hf' : Fair l') (hs : ∀ j, j < l.length → (l.getD j default).size ≤ (l'.getD j default).size)
    (hx : ∀ j, j < l.length → (l.getD j default).br = true → (l'.getD j default).br = true ∧ (l'.getD j default).to_ = (l.getD j default).to_)
    (bs : List Bool) (hb : bs.length = l'.length) (hfix : ∀ j, j < l'.length → (l'.getD j default).br = true → bs.getD j false = false → bad (gap (pl 0 l' bs) (l'.getD j default) j) = false) :
    ∀ k j, (it l k).getD j false = true → bs.getD j false = true
  | 0, j, h => by
    simp only [it, List.getD_eq_getElem?_getD, List.getElem?_replicate] at h
    by_cases hj : j < l.length
    · rw [if_pos hj] at h; cases h
    · rw [if_neg hj] at h; cases h
  | k + 1, j, h => by
    have ih := it_least l l' hl hf hf' hs hx bs hb hfix k
    have hlen := it_length l k
    by_cases hj : j < l.length
    · simp only [it] at h
      rw [step_get l _ j hlen hj] at h
      simp only [Bool.or_eq_true, Bool.and_eq_true] at h
      rcases h with h | ⟨hbr, hbad⟩
      · exact ih j h
      · obtain ⟨hbr', hto⟩ := hx j hj hbr
        cases hbj : bs.getD j false with
        | true => rfl
        | false =>
          have h1 := hfix j (by omega) hbr' hbj
          have h2 := bad_mono l l' (it l k) bs hlen hb hl hf hf' hs ih (l.getD j default) ((hf j hj).2.2 hbr) j (by omega) hbad
          have h3 : gap (pl 0 l' bs) (l'.getD j default) j = gap (pl 0 l' bs) (l.getD j default) j := by simp only [gap, hto]
          rw [h3, h2] at h1
          cases h1
    · rw [List.getD_eq_getElem?_getD, List.getElem?_eq_none (by rw [it_length]; omega)] at h
      cases h

theorem it_br (l : List It) : ∀ k j, (it l k).getD j false = true → (l.getD j default).br = true
  | 0, j, h => by
    simp only [it, List.getD_eq_getElem?_getD, List.getElem?_replicate] at h
    by_cases hj : j < l.length
    · rw [if_pos hj] at h; cases h
    · rw [if_neg hj] at h; cases h
  | k + 1, j, h => by
    by_cases hj : j < l.length
    · simp only [it] at h
      rw [step_get l _ j (it_length l k) hj] at h
      simp only [Bool.or_eq_true, Bool.and_eq_true] at h
      rcases h with h | ⟨hbr, _⟩
      · exact it_br l k j h
      · exact hbr
    · rw [List.getD_eq_getElem?_getD, List.getElem?_eq_none (by rw [it_length]; omega)] at h
      cases h

/-- there are no more rounds than branches -/
theorem it_cnt (l : List It) : ∀ k, (∀ j, j < k → step l (it l j) ≠ it l j) → k ≤ cnt (it l k)
  | 0, _ => Nat.zero_le _
  | k + 1, h => by
    have ih := it_cnt l k (fun j hj => h j (by omega))
    have := step_cnt l (it l k) (it_length l k) (h k (by omega))
    simp only [it]
    omega
theorem rounds_le {l : List It} {a : List Bool} {k : Nat} (h : IsDo l a k) : k ≤ cnt (l.map (·.br)) := by
  have h1 := it_cnt l k h.least
  have h2 : cnt (it l k) ≤ cnt (l.map (·.br)) := cnt_mono (by rw [it_length]; simp) (fun j hj => by
    have := it_br l k j hj
    have hj' : j < l.length := by
      rcases Nat.lt_or_ge j l.length with h | h
      · exact h
      · rw [List.getD_eq_getElem?_getD, List.getElem?_eq_none (by rw [it_length]; omega)] at hj; cases hj
    simp only [List.getD_eq_getElem?_getD, List.getElem?_map, List.getElem?_eq_getElem hj', Option.map_some, Option.getD_some] at this ⊢
    exact this)
  omega

/-- the branches that are not long fit -/
theorem fix_fits {l : List It} {a : List Bool} (hl : a.length = l.length) (h : step l a = a) : ∀ j, j < l.length → (l.getD j default).br = true → a.getD j false = false → bad (gap (pl 0 l a) (l.getD j default) j) = false := by
  intro j hj hbr ha
  have := step_get l a j hl hj
  rw [h, ha, hbr] at this
  simpa using this.symm
end Rx
end Go.Proofs.Ytakhpibolhijoaa
