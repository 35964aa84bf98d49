/-
  Parts of one proof, one behind the other.
-/
import Derived.WalkKit
import Derived.WalkSpells
import Derived.WalkLawsBesides
import Derived.Lib.Hide
import Derived.WalkSmall
import Derived.Maps.AppendAt
import Derived.Test.YtnhocmmgdkiepaaDoorRows
import Derived.ProofKit
import Derived.OpenShut
import Derived.Lib.SmallJoins
import Derived.LaidMore
import Derived.LaidEql
import Derived.Stop.LaidErr
/-
  Plain facts on 32-bit words and on results: no program in sight.
-/
namespace Go.Proofs.YtnhocmmgdkiepaaDoor
open Go Go.RowKit

theorem ret_bool {a b : Bool} (h : a = b) : Ending.returned (.bool a) = .returned (.bool b) := by rw [h]

theorem bcell {W w1 : World} (hb : Below W.heap.size W w1) : (∀ b o, b < W.heap.size → w1.cell? ⟨b, o, none⟩ = W.cell? ⟨b, o, none⟩) ∧ (∀ b o, b < W.heap.size → w1.frozen? ⟨b, o, none⟩ = W.frozen? ⟨b, o, none⟩) :=
  ⟨fun b o h => hb.cell (p := ⟨b, o, none⟩) h, fun b o h => hb.frozen (p := ⟨b, o, none⟩) h⟩

/-! A block known whole: its cells, none of them frozen; how it is carried on. -/
theorem blk_cell {w : World} {b : Nat} {cs : Array Value} {t : TypeId} {fr : Nat × Nat} (h : w.heap[b]? = some (.cells cs t fr)) (o : Nat) : w.cell? ⟨b, o, none⟩ = cs[o]? := by
  simp [World.cell?, h]
theorem blk_free {w : World} {b : Nat} {cs : Array Value} {t : TypeId} (h : w.heap[b]? = some (.cells cs t (0, 0))) (o : Nat) : w.frozen? ⟨b, o, none⟩ = false := by
  simp [World.frozen?, h]
theorem blk_new (w : World) (o : Obj) : (w.alloc o).heap[w.heap.size]? = some o := by
  show (w.heap.push o)[w.heap.size]? = some o
  simp
theorem blk_lt {w : World} {b : Nat} {x : Obj} (h : w.heap[b]? = some x) : b < w.heap.size := by
  rcases Nat.lt_or_ge b w.heap.size with h1 | h1
  · exact h1
  · rw [Array.getElem?_eq_none h1] at h; cases h
theorem blk_old {w : World} {b : Nat} {x : Obj} (h : w.heap[b]? = some x) (o : Obj) : (w.alloc o).heap[b]? = some x := by
  rw [Below.heap_alloc _ _ _ (blk_lt h)]; exact h
theorem blk_set {w : World} {b : Nat} {x : Obj} (h : w.heap[b]? = some x) {a : Addr} (ha : b ≠ a.block) (v : Value) : (w.setCell a v).heap[b]? = some x := by
  rw [Below.heap_setCell _ _ _ _ ha]; exact h
theorem blk_drew {w : World} {b : Nat} {x : Obj} (h : w.heap[b]? = some x) : w.drew.heap[b]? = some x := h
theorem blk_below {B : Nat} {w w' : World} {b : Nat} {x : Obj} (h : w.heap[b]? = some x) (hb : Below B w w') (hlt : b < B) : w'.heap[b]? = some x := by
  rw [hb.block b hlt]; exact h
theorem blk_put {w : World} {b : Nat} {cs : Array Value} {t : TypeId} {fr : Nat × Nat} (h : w.heap[b]? = some (.cells cs t fr)) (o : Nat) (v : Value) :
    (w.setCell ⟨b, o, none⟩ v).heap[b]? = some (.cells (cs.setIfInBounds o v) t fr) := by
  simp [World.setCell, Array.getElem?_modify, h]

theorem wrap_u32 {n : Int} (h : 0 ≤ n) (h2 : n ≤ 4294967295) : IntKind.u32.wrap n = n := by
  simp [IntKind.wrap, IntKind.signed, IntKind.bits]
  omega
theorem ofInt_u32 (n : Nat) : (BitVec.ofInt 32 (n : Int)) = BitVec.ofNat 32 n := by
  simp
theorem or_nat (a b : Nat) (h : a < 4294967296) (h2 : b < 4294967296) : bits BinOp.or IntKind.u32 a b = ((a ||| b : Nat) : Int) := by
  have hlt : a ||| b < 2 ^ 32 := Nat.or_lt_two_pow (by simpa using h) (by simpa using h2)
  show IntKind.u32.wrap ((BitVec.ofInt 32 (a : Int) ||| BitVec.ofInt 32 (b : Int)).toNat : Int) = _
  rw [ofInt_u32, ofInt_u32, BitVec.toNat_or, BitVec.toNat_ofNat, BitVec.toNat_ofNat, Nat.mod_eq_of_lt (by simpa using h), Nat.mod_eq_of_lt (by simpa using h2)]
  exact wrap_u32 (by omega) (by omega)
theorem and_nat (a b : Nat) (h : a < 4294967296) (h2 : b < 4294967296) : bits BinOp.and IntKind.u32 a b = ((a &&& b : Nat) : Int) := by
  have hlt : a &&& b < 2 ^ 32 := Nat.and_lt_two_pow a (by simpa using h2)
  show IntKind.u32.wrap ((BitVec.ofInt 32 (a : Int) &&& BitVec.ofInt 32 (b : Int)).toNat : Int) = _
  rw [ofInt_u32, ofInt_u32, BitVec.toNat_and, BitVec.toNat_ofNat, BitVec.toNat_ofNat, Nat.mod_eq_of_lt (by simpa using h), Nat.mod_eq_of_lt (by simpa using h2)]
  exact wrap_u32 (by omega) (by omega)
end Go.Proofs.YtnhocmmgdkiepaaDoor

/-
  A heap in a list: what its steps do. Plain laws.
-/
namespace Go.Proofs.YtnhocmmgdkiepaaDoor

/-- somebody whose turn may come, and where he lies -/
structure On where
  id : Int
  wt : Int
  us : Int
  sl : Bool
  un : Int
  blk : Nat
instance : Inhabited On := ⟨⟨0, 0, 0, false, 0, 0⟩⟩
/-- is a ahead of b -/
def On.lt (a b : On) : Bool := decide ((if a.sl = true then a.un else a.us) < (if a.sl = true then b.un else b.us)) || (decide ((if a.sl = true then a.un else a.us) = (if a.sl = true then b.un else b.us)) && decide (a.id < b.id))
def On.ky (s : Bool) (a : On) : Int := if s = true then a.un else a.us
theorem lt_iff (s : Bool) {a : On} (b : On) (h : a.sl = s) : On.lt a b = true ↔ (a.ky s < b.ky s ∨ (a.ky s = b.ky s ∧ a.id < b.id)) := by
  unfold On.lt On.ky
  rw [h]
  simp
theorem lt_false (s : Bool) {a : On} (b : On) (h : a.sl = s) : On.lt a b = false ↔ (b.ky s < a.ky s ∨ (b.ky s = a.ky s ∧ b.id ≤ a.id)) := by
  have := lt_iff s b h
  cases hb : On.lt a b with
  | true =>
    have := this.1 hb
    constructor
    · intro h; cases h
    · intro h; omega
  | false =>
    have hn : ¬ (a.ky s < b.ky s ∨ (a.ky s = b.ky s ∧ a.id < b.id)) := fun hh => by rw [this.2 hh] at hb; cases hb
    constructor
    · intro _; omega
    · intro _; rfl
theorem nlt_trans (s : Bool) {a b c : On} (ha : a.sl = s) (hb : b.sl = s) (h1 : On.lt a b = false) (h2 : On.lt b c = false) : On.lt a c = false := by
  rw [lt_false s _ ha] at h1 ⊢
  rw [lt_false s _ hb] at h2
  omega
theorem nlt_of_lt (s : Bool) {a b : On} (ha : a.sl = s) (hb : b.sl = s) (h1 : On.lt a b = true) : On.lt b a = false := by
  rw [lt_iff s _ ha] at h1
  rw [lt_false s _ hb]
  omega
theorem nlt_self (s : Bool) {a : On} (ha : a.sl = s) : On.lt a a = false := by
  rw [lt_false s _ ha]
  omega

abbrev og (l : List On) (i : Nat) : On := l.getD i default
def swp (l : List On) (i k : Nat) : List On := (l.set i (og l k)).set k (og l i)
theorem on_setD (l : List On) (a i : Nat) (x : On) (ha : a < l.length) : og (l.set a x) i = if i = a then x else og l i := by
  unfold og
  rw [List.getD_eq_getElem?_getD, List.getElem?_set]
  by_cases h : a = i
  · subst h
    simp [ha]
  · rw [if_neg h, if_neg (fun e => h e.symm), ← List.getD_eq_getElem?_getD]
theorem swp_len (l : List On) (i k : Nat) : (swp l i k).length = l.length := by simp [swp]
theorem swp_get (l : List On) (i k c : Nat) (hi : i < l.length) (hk : k < l.length) : og (swp l i k) c = if c = k then og l i else if c = i then og l k else og l c := by
  unfold swp
  rw [on_setD _ _ _ _ (by rw [List.length_set]; exact hk), on_setD _ _ _ _ hi]
theorem on_ext {xs ys : List On} (hl : xs.length = ys.length) (h : ∀ i, i < xs.length → og xs i = og ys i) : xs = ys := by
  apply List.ext_getElem hl
  intro i h1 h2
  have := h i h1
  unfold og at this
  rw [List.getD_eq_getElem?_getD, List.getD_eq_getElem?_getD, List.getElem?_eq_getElem h1, List.getElem?_eq_getElem h2] at this
  exact this
/-- the same ones, at other places -/
structure Same (l l' : List On) : Prop where
  len : l'.length = l.length
  fro : ∀ i, i < l'.length → ∃ j, j < l.length ∧ og l' i = og l j
  to : ∀ j, j < l.length → ∃ i, i < l'.length ∧ og l' i = og l j
  nd : (∀ i j, i < l.length → j < l.length → (og l i).blk = (og l j).blk → i = j) → ∀ i j, i < l'.length → j < l'.length → (og l' i).blk = (og l' j).blk → i = j
theorem Same.rfl' (l : List On) : Same l l := ⟨rfl, fun i h => ⟨i, h, rfl⟩, fun i h => ⟨i, h, rfl⟩, fun h => h⟩
theorem Same.trans {a b c : List On} (h : Same a b) (k : Same b c) : Same a c :=
  ⟨k.len.trans h.len, fun i hi => by
    obtain ⟨j, hj, e⟩ := k.fro i hi
    obtain ⟨q, hq, e2⟩ := h.fro j hj
    exact ⟨q, hq, e.trans e2⟩, fun i hi => by
    obtain ⟨j, hj, e⟩ := h.to i hi
    obtain ⟨q, hq, e2⟩ := k.to j hj
    exact ⟨q, hq, e2.trans e⟩, fun h0 => k.nd (h.nd h0)⟩
theorem Same.swp (l : List On) (i k : Nat) (hi : i < l.length) (hk : k < l.length) : Same l (swp l i k) := by
  have hg := fun c => swp_get l i k c hi hk
  have hl := swp_len l i k
  have ix : ∀ c, c < l.length → ∃ j, j < l.length ∧ og (Go.Proofs.YtnhocmmgdkiepaaDoor.swp l i k) c = og l j ∧ (c = k → j = i) ∧ (c ≠ k → c = i → j = k) ∧ (c ≠ k → c ≠ i → j = c) := fun c hc => by
    rw [hg]
    by_cases h1 : c = k
    · exact ⟨i, hi, if_pos h1, fun _ => rfl, fun h => absurd h1 h, fun h => absurd h1 h⟩
    · by_cases h2 : c = i
      · exact ⟨k, hk, by rw [if_neg h1, if_pos h2], fun h => absurd h h1, fun _ _ => rfl, fun _ h => absurd h2 h⟩
      · exact ⟨c, hc, by rw [if_neg h1, if_neg h2], fun h => absurd h h1, fun _ h => absurd h h2, fun _ _ => rfl⟩
  refine ⟨hl, fun c hc => ?_, fun c hc => ?_, fun nd a b ha hb e => ?_⟩
  · obtain ⟨j, hj, e, -⟩ := ix c (by omega)
    exact ⟨j, hj, e⟩
  · by_cases h1 : c = i
    · exact ⟨k, by omega, by rw [hg, if_pos rfl, h1]⟩
    · by_cases h2 : c = k
      · refine ⟨i, by omega, ?_⟩
        rw [hg]
        by_cases h3 : i = k
        · exact absurd (h2.trans h3.symm) h1
        · rw [if_neg h3, if_pos rfl, h2]
      · exact ⟨c, by omega, by rw [hg, if_neg h2, if_neg h1]⟩
  · obtain ⟨x, hx, ex, x1, x2, x3⟩ := ix a (by omega)
    obtain ⟨y, hy, ey, y1, y2, y3⟩ := ix b (by omega)
    rw [ex, ey] at e
    have hxy := nd x y hx hy e
    by_cases a1 : a = k
    · by_cases b1 : b = k
      · omega
      · by_cases b2 : b = i
        · have := x1 a1; have := y2 b1 b2; omega
        · have := x1 a1; have := y3 b1 b2; omega
    · by_cases a2 : a = i
      · by_cases b1 : b = k
        · have := x2 a1 a2; have := y1 b1; omega
        · by_cases b2 : b = i
          · omega
          · have := x2 a1 a2; have := y3 b1 b2; omega
      · by_cases b1 : b = k
        · have := x3 a1 a2; have := y1 b1; omega
        · by_cases b2 : b = i
          · have := x3 a1 a2; have := y2 b1 b2; omega
          · have := x3 a1 a2; have := y3 b1 b2; omega

/-- up: j goes towards the root -/
def hUp : Nat → List On → Nat → List On
  | 0, l, _ => l
  | f + 1, l, j => if (j - 1) / 2 = j then l else if On.lt (og l j) (og l ((j - 1) / 2)) = true then hUp f (swp l ((j - 1) / 2) j) ((j - 1) / 2) else l
/-- the child that is ahead -/
def hKid (l : List On) (i n : Nat) : Nat := if 2 * i + 1 + 1 < n then (if On.lt (og l (2 * i + 1 + 1)) (og l (2 * i + 1)) = true then 2 * i + 1 + 1 else 2 * i + 1) else 2 * i + 1
/-- down: i goes away from the root -/
def hDown : Nat → List On → Nat → Nat → List On × Nat
  | 0, l, i, _ => (l, i)
  | f + 1, l, i, n => if n ≤ 2 * i + 1 then (l, i) else if On.lt (og l (hKid l i n)) (og l i) = true then hDown f (swp l i (hKid l i n)) (hKid l i n) n else (l, i)
theorem hKid_lt (l : List On) (i n : Nat) (h : 2 * i + 1 < n) : i < hKid l i n ∧ hKid l i n < n ∧ (hKid l i n - 1) / 2 = i := by
  unfold hKid
  split
  · split <;> omega
  · omega
theorem hUp_same : ∀ (f : Nat) (l : List On) (j : Nat), j < l.length → Same l (hUp f l j)
  | 0, l, _, _ => Same.rfl' l
  | f + 1, l, j, h => by
    unfold hUp
    split
    · exact Same.rfl' l
    · split
      · exact (Same.swp l _ _ (by omega) h).trans (hUp_same f _ _ (by rw [swp_len]; omega))
      · exact Same.rfl' l
theorem hDown_same : ∀ (f : Nat) (l : List On) (i n : Nat), i < l.length → n ≤ l.length → Same l (hDown f l i n).1
  | 0, l, _, _, _, _ => Same.rfl' l
  | f + 1, l, i, n, h, hn => by
    unfold hDown
    split
    · exact Same.rfl' l
    · rename_i h2
      have hk := hKid_lt l i n (by omega)
      split
      · exact (Same.swp l _ _ h (by omega)).trans (hDown_same f _ _ _ (by rw [swp_len]; omega) (by rw [swp_len]; exact hn))
      · exact Same.rfl' l
theorem hDown_ge : ∀ (f : Nat) (l : List On) (i n : Nat), i ≤ (hDown f l i n).2
  | 0, _, _, _ => Nat.le_refl _
  | f + 1, l, i, n => by
    unfold hDown
    split
    · exact Nat.le_refl _
    · rename_i h2
      have hk := hKid_lt l i n (by omega)
      split
      · exact Nat.le_trans (Nat.le_of_lt hk.1) (hDown_ge f _ _ _)
      · exact Nat.le_refl _
/-- places behind n stay -/
theorem hDown_out : ∀ (f : Nat) (l : List On) (i n c : Nat), i < n → n ≤ l.length → n ≤ c → og (hDown f l i n).1 c = og l c
  | 0, _, _, _, _, _, _, _ => rfl
  | f + 1, l, i, n, c, hi, hn, hc => by
    unfold hDown
    split
    · rfl
    · rename_i h2
      have hk := hKid_lt l i n (by omega)
      split
      · rw [hDown_out f _ _ n c (by omega) (by rw [swp_len]; exact hn) hc, swp_get _ _ _ _ (by omega) (by omega), if_neg (by omega), if_neg (by omega)]
      · rfl
theorem hUp_out : ∀ (f : Nat) (l : List On) (j c : Nat), j < l.length → j < c → og (hUp f l j) c = og l c
  | 0, _, _, _, _, _ => rfl
  | f + 1, l, j, c, hj, hc => by
    unfold hUp
    split
    · rfl
    · split
      · rw [hUp_out f _ _ c (by rw [swp_len]; omega) (by omega), swp_get _ _ _ _ (by omega) hj, if_neg (by omega), if_neg (by omega)]
      · rfl

/-- the first n are a heap -/
def Hp (l : List On) (n : Nat) : Prop := ∀ c, 0 < c → c < n → On.lt (og l c) (og l ((c - 1) / 2)) = false
def AllSl (s : Bool) (l : List On) : Prop := ∀ i, i < l.length → (og l i).sl = s
theorem Same.sl {s : Bool} {l l' : List On} (h : Same l l') (hs : AllSl s l) : AllSl s l' := fun i hi => by
  obtain ⟨j, hj, e⟩ := h.fro i hi
  rw [e]
  exact hs j hj
structure UpI (l : List On) (j n : Nat) : Prop where
  a : ∀ c, 0 < c → c < n → c ≠ j → On.lt (og l c) (og l ((c - 1) / 2)) = false
  b : ∀ c, 0 < c → c < n → (c - 1) / 2 = j → 0 < j → On.lt (og l c) (og l ((j - 1) / 2)) = false
structure FixI (l : List On) (i n : Nat) : Prop where
  a : ∀ c, 0 < c → c < n → c ≠ i → (c - 1) / 2 ≠ i → On.lt (og l c) (og l ((c - 1) / 2)) = false
  b : ∀ c, 0 < c → c < n → (c - 1) / 2 = i → 0 < i → On.lt (og l c) (og l ((i - 1) / 2)) = false
theorem hUp_heap (s : Bool) : ∀ (f : Nat) (l : List On) (j n : Nat), j < f → j < n → n ≤ l.length → AllSl s l → UpI l j n → Hp (hUp f l j) n
  | 0, _, _, _, h, _, _, _, _ => absurd h (by omega)
  | f + 1, l, j, n, hf, hj, hn, hs, hi => by
    unfold hUp
    split
    · rename_i h
      intro c h0 hc
      exact hi.a c h0 hc (by omega)
    · rename_i h
      obtain ⟨i, hie⟩ : ∃ i, (j - 1) / 2 = i := ⟨_, rfl⟩
      rw [hie]
      have hij : i < j := by omega
      have hj0 : 0 < j := by omega
      split
      · rename_i hlt
        have hg := fun c => swp_get l i j c (by omega) (by omega)
        refine hUp_heap s f _ i n (by omega) (by omega) (by rw [swp_len]; exact hn) ((Same.swp l i j (by omega) (by omega)).sl hs) ⟨fun c h0 hc hne => ?_, fun c h0 hc hp hi0 => ?_⟩
        · rw [hg, hg]
          by_cases h1 : c = j
          · subst h1
            rw [if_pos rfl, hie, if_neg (by omega), if_pos rfl]
            exact nlt_of_lt s (hs _ (by omega)) (hs _ (by omega)) hlt
          · rw [if_neg h1, if_neg hne]
            by_cases h2 : (c - 1) / 2 = j
            · rw [if_pos h2]
              have := hi.b c h0 hc h2 hj0
              rw [hie] at this
              exact this
            · rw [if_neg h2]
              by_cases h3 : (c - 1) / 2 = i
              · rw [if_pos h3]
                have h4 := hi.a c h0 hc h1
                rw [h3] at h4
                exact nlt_trans s (hs _ (by omega)) (hs _ (by omega)) h4 (nlt_of_lt s (hs _ (by omega)) (hs _ (by omega)) hlt)
              · rw [if_neg h3]
                exact hi.a c h0 hc h1
        · rw [hg, hg]
          have hpi : (i - 1) / 2 ≠ j ∧ (i - 1) / 2 ≠ i := by omega
          rw [if_neg hpi.1, if_neg hpi.2]
          have h5 := hi.a i hi0 (by omega) (by omega)
          by_cases h1 : c = j
          · rw [if_pos h1]
            exact h5
          · rw [if_neg h1, if_neg (by omega)]
            have h4 := hi.a c h0 hc h1
            rw [hp] at h4
            exact nlt_trans s (hs _ (by omega)) (hs _ (by omega)) h4 h5
      · rename_i hlt
        intro c h0 hc
        by_cases h1 : c = j
        · subst h1
          rw [hie]
          simpa using hlt
        · exact hi.a c h0 hc h1
theorem kid_least (s : Bool) (l : List On) (i n c : Nat) (hn : n ≤ l.length) (hs : AllSl s l) (h : 2 * i + 1 < n) (h0 : 0 < c) (hc : c < n) (hp : (c - 1) / 2 = i) : On.lt (og l c) (og l (hKid l i n)) = false := by
  have hcc : c = 2 * i + 1 ∨ c = 2 * i + 1 + 1 := by omega
  unfold hKid
  split
  · split
    · rename_i h2
      rcases hcc with rfl | rfl
      · exact nlt_of_lt s (hs _ (by omega)) (hs _ (by omega)) h2
      · exact nlt_self s (hs _ (by omega))
    · rename_i h2
      rcases hcc with rfl | rfl
      · exact nlt_self s (hs _ (by omega))
      · simpa using h2
  · rcases hcc with rfl | rfl
    · exact nlt_self s (hs _ (by omega))
    · omega
/-- behind a step down all stands but the child -/
theorem down_step (s : Bool) (l : List On) (i n : Nat) (hn : n ≤ l.length) (hs : AllSl s l) (h : 2 * i + 1 < n) (hlt : On.lt (og l (hKid l i n)) (og l i) = true) (hi : FixI l i n) : FixI (swp l i (hKid l i n)) (hKid l i n) n ∧ ∀ c, 0 < c → c < n → (c - 1) / 2 ≠ hKid l i n → On.lt (og (swp l i (hKid l i n)) c) (og (swp l i (hKid l i n)) ((c - 1) / 2)) = false := by
  obtain ⟨k1, k2, k3⟩ := hKid_lt l i n h
  have hkl := fun c h0 hc hp => kid_least s l i n c hn hs h h0 hc hp
  obtain ⟨k, hk⟩ : ∃ k, hKid l i n = k := ⟨_, rfl⟩
  rw [hk] at k1 k2 k3 hlt hkl ⊢
  have hg := fun c => swp_get l i k c (by omega) (by omega)
  have all : ∀ c, 0 < c → c < n → (c - 1) / 2 ≠ k → On.lt (og (swp l i k) c) (og (swp l i k) ((c - 1) / 2)) = false := fun c h0 hc hp => by
    rw [hg, hg, if_neg hp]
    by_cases h1 : c = k
    · rw [if_pos h1, h1, k3, if_pos rfl]
      exact nlt_of_lt s (hs _ (by omega)) (hs _ (by omega)) hlt
    · rw [if_neg h1]
      by_cases h2 : c = i
      · rw [if_pos h2, if_neg (by omega), h2]
        exact hi.b k (by omega) k2 k3 (by omega)
      · rw [if_neg h2]
        by_cases h3 : (c - 1) / 2 = i
        · rw [if_pos h3]
          exact hkl c h0 hc h3
        · rw [if_neg h3]
          exact hi.a c h0 hc h2 h3
  refine ⟨⟨fun c h0 hc _ hp => all c h0 hc hp, fun c h0 hc hp _ => ?_⟩, all⟩
  rw [hg, hg, k3, if_neg (by omega), if_neg (by omega), if_neg (by omega), if_pos rfl]
  have := hi.a c h0 hc (by omega) (by omega)
  rw [hp] at this
  exact this
theorem hDown_heap (s : Bool) : ∀ (f : Nat) (l : List On) (i n : Nat), n ≤ f + i → i < n → n ≤ l.length → AllSl s l → FixI l i n → (∀ c, 0 < c → c < n → (c - 1) / 2 ≠ i → On.lt (og l c) (og l ((c - 1) / 2)) = false) → Hp (hDown f l i n).1 n
  | 0, _, _, _, h, _, _, _, _, _ => absurd h (by omega)
  | f + 1, l, i, n, hf, hin, hn, hs, hi, ha => by
    unfold hDown
    split
    · rename_i h
      intro c h0 hc
      exact ha c h0 hc (by omega)
    · rename_i h
      have hk := hKid_lt l i n (by omega)
      split
      · rename_i hlt
        obtain ⟨d1, d2⟩ := down_step s l i n hn hs (by omega) hlt hi
        exact hDown_heap s f _ _ n (by omega) (by omega) (by rw [swp_len]; exact hn) ((Same.swp l _ _ (by omega) (by omega)).sl hs) d1 d2
      · rename_i hlt
        intro c h0 hc
        by_cases hp : (c - 1) / 2 = i
        · rw [hp]
          exact nlt_trans s (hs _ (by omega)) (hs _ (by omega)) (kid_least s l i n c hn hs (by omega) h0 hc hp) (by simpa using hlt)
        · exact ha c h0 hc hp
/-- one that may stand wrong: down, and up if it did not go down -/
theorem hDown_fix (s : Bool) (f : Nat) (l : List On) (i n : Nat) (hf : n ≤ f + i) (hin : i < n) (hn : n ≤ l.length) (hs : AllSl s l) (hi : FixI l i n) : (i < (hDown f l i n).2 → Hp (hDown f l i n).1 n) ∧ ((hDown f l i n).2 = i → (hDown f l i n).1 = l ∧ UpI l i n) := by
  cases f with
  | zero => exact absurd hf (by omega)
  | succ f =>
    unfold hDown
    split
    · rename_i h
      exact ⟨fun h => absurd h (Nat.lt_irrefl _), fun _ => ⟨rfl, fun c h0 hc hne => hi.a c h0 hc hne (by omega), hi.b⟩⟩
    · rename_i h
      have hk := hKid_lt l i n (by omega)
      split
      · rename_i hlt
        obtain ⟨d1, d2⟩ := down_step s l i n hn hs (by omega) hlt hi
        refine ⟨fun _ => hDown_heap s f _ _ n (by omega) (by omega) (by rw [swp_len]; exact hn) ((Same.swp l _ _ (by omega) (by omega)).sl hs) d1 d2, fun e => ?_⟩
        have := hDown_ge f (swp l i (hKid l i n)) (hKid l i n) n
        omega
      · rename_i hlt
        refine ⟨fun h => absurd h (Nat.lt_irrefl _), fun _ => ⟨rfl, fun c h0 hc hne => ?_, hi.b⟩⟩
        by_cases hp : (c - 1) / 2 = i
        · rw [hp]
          exact nlt_trans s (hs _ (by omega)) (hs _ (by omega)) (kid_least s l i n c hn hs (by omega) h0 hc hp) (by simpa using hlt)
        · exact hi.a c h0 hc hne hp
/-- heap.Fix -/
def hFix (l : List On) (i n : Nat) : List On := if i < (hDown (n + 1) l i n).2 then (hDown (n + 1) l i n).1 else hUp (n + 1) (hDown (n + 1) l i n).1 i
theorem hFix_same (l : List On) (i n : Nat) (hi : i < l.length) (hn : n ≤ l.length) : Same l (hFix l i n) := by
  have h1 := hDown_same (n + 1) l i n hi hn
  unfold hFix
  split
  · exact h1
  · exact h1.trans (hUp_same _ _ _ (by rw [h1.len]; exact hi))
theorem hFix_heap (s : Bool) (l : List On) (i n : Nat) (hin : i < n) (hn : n ≤ l.length) (hs : AllSl s l) (hi : FixI l i n) : Hp (hFix l i n) n := by
  obtain ⟨h1, h2⟩ := hDown_fix s (n + 1) l i n (by omega) hin hn hs hi
  unfold hFix
  split
  · rename_i h
    exact h1 h
  · rename_i h
    have hge := hDown_ge (n + 1) l i n
    obtain ⟨e, hu⟩ := h2 (by omega)
    rw [e]
    exact hUp_heap s _ _ _ _ (by omega) hin hn hs hu
theorem hFix_out (l : List On) (i n c : Nat) (hin : i < n) (hn : n ≤ l.length) (hc : n ≤ c) : og (hFix l i n) c = og l c := by
  have h1 := hDown_same (n + 1) l i n (by omega) hn
  unfold hFix
  split
  · exact hDown_out _ _ _ _ _ hin hn hc
  · rw [hUp_out _ _ _ _ (by rw [h1.len]; omega) (by omega)]
    exact hDown_out _ _ _ _ _ hin hn hc
/-- heap.Push: what stands there then -/
def hPush (l : List On) (o : On) : List On := hUp (l.length + 1) (l ++ [o]) l.length
/-- heap.Remove: all but the one at i -/
def hRem (l : List On) (i : Nat) : List On := if l.length - 1 = i then l else hFix (swp l i (l.length - 1)) i (l.length - 1)
theorem og_app (l : List On) (o : On) (c : Nat) (h : c < l.length) : og (l ++ [o]) c = og l c := by
  unfold og
  rw [List.getD_eq_getElem?_getD, List.getElem?_append_left h, ← List.getD_eq_getElem?_getD]
theorem og_last (l : List On) (o : On) : og (l ++ [o]) l.length = o := by
  unfold og
  simp
theorem hPush_heap (s : Bool) (l : List On) (o : On) (hs : AllSl s l) (ho : o.sl = s) (h : Hp l l.length) : Hp (hPush l o) (l.length + 1) := by
  unfold hPush
  refine hUp_heap s _ _ _ _ (by omega) (by omega) (by simp) (fun i hi => ?_) ⟨fun c h0 hc hne => ?_, fun c h0 hc hp _ => by omega⟩
  · rw [List.length_append] at hi
    have : [o].length = 1 := rfl
    by_cases e : i < l.length
    · rw [og_app _ _ _ e]; exact hs i e
    · rw [show i = l.length by omega, og_last]; exact ho
  · rw [og_app _ _ _ (by omega), og_app _ _ _ (by omega)]
    exact h c h0 (by omega)
theorem hPush_same (l : List On) (o : On) : Same (l ++ [o]) (hPush l o) := hUp_same _ _ _ (by simp)
theorem hRem_same (l : List On) (i : Nat) (hi : i < l.length) : Same l (hRem l i) := by
  unfold hRem
  split
  · exact Same.rfl' l
  · exact (Same.swp l i _ hi (by omega)).trans (hFix_same _ _ _ (by rw [swp_len]; exact hi) (by rw [swp_len]; omega))
/-- the one that goes stands last -/
theorem hRem_last (l : List On) (i : Nat) (hi : i < l.length) : og (hRem l i) (l.length - 1) = og l i := by
  unfold hRem
  split
  · rename_i h; rw [h]
  · rw [hFix_out _ _ _ _ (by omega) (by rw [swp_len]; omega) (Nat.le_refl _), swp_get _ _ _ _ hi (by omega), if_pos rfl]
theorem hRem_heap (s : Bool) (l : List On) (i : Nat) (hi : i < l.length) (hs : AllSl s l) (h : Hp l l.length) : Hp (hRem l i) (l.length - 1) := by
  unfold hRem
  split
  · exact fun c h0 hc => h c h0 (by omega)
  · rename_i hne
    have hg := fun c => swp_get l i (l.length - 1) c hi (by omega)
    refine hFix_heap s _ _ _ (by omega) (by rw [swp_len]; omega) ((Same.swp l i _ hi (by omega)).sl hs) ⟨fun c h0 hc h1 h2 => ?_, fun c h0 hc hp hi0 => ?_⟩
    · rw [hg, hg, if_neg (by omega), if_neg h1, if_neg (by omega), if_neg h2]
      exact h c h0 (by omega)
    · rw [hg, hg, if_neg (by omega), if_neg (by omega), if_neg (by omega), if_neg (by omega)]
      have h1 := h c h0 (by omega)
      rw [hp] at h1
      exact nlt_trans s (hs _ (by omega)) (hs _ (by omega)) h1 (h i hi0 (by omega))
/-- the root is ahead of all -/
theorem hp_root (s : Bool) (l : List On) (n : Nat) (hn : n ≤ l.length) (hs : AllSl s l) (h : Hp l n) : ∀ c, c < n → On.lt (og l c) (og l 0) = false := by
  intro c
  induction c using Nat.strongRecOn with
  | _ c ih =>
    intro hc
    by_cases h0 : c = 0
    · rw [h0]; exact nlt_self s (hs 0 (by omega))
    · exact nlt_trans s (hs _ (by omega)) (hs _ (by omega)) (h c (by omega) hc) (ih ((c - 1) / 2) (by omega) (by omega))
end Go.Proofs.YtnhocmmgdkiepaaDoor

/-
  Rows of cells that a call owns, and what may change: plain facts on worlds, over any program.
-/
namespace Go.Proofs.YtnhocmmgdkiepaaDoor
open Go Go.RowKit

/-- words as values -/
def u32s (l : List Int) : List Value := l.map (Value.int .u32)
theorem u32s_one (l : List Int) : ∀ u ∈ u32s l, u.oneCell' = true := ints_oneCell _ _
theorem u32s_len (l : List Int) : (u32s l).length = l.length * 1 := by simp [u32s]

theorem u32s_take (xs : List Int) (k : Nat) (h : k < xs.length) : u32s (xs.take (k + 1)) = u32s (xs.take k) ++ [.int .u32 (xs.getD k 0)] := by
  rw [List.take_succ_eq_append_getElem h, List.getD_eq_getElem?_getD, List.getElem?_eq_getElem h]
  unfold u32s
  rw [List.map_append]
  rfl

/-- w' is w with new blocks, and with writes to blocks of F alone -/
structure Only (F : Nat → Prop) (w w' : World) : Prop where
  os : w'.os = w.os
  tape : w'.tape = w.tape
  output : w'.output = w.output
  size : w.heap.size ≤ w'.heap.size
  block : ∀ k, k < w.heap.size → ¬ F k → w'.heap[k]? = w.heap[k]?

theorem Only.refl (F : Nat → Prop) (w : World) : Only F w w := ⟨rfl, rfl, rfl, Nat.le_refl _, fun _ _ _ => rfl⟩
theorem Only.trans {F : Nat → Prop} {a b c : World} (h : Only F a b) (k : Only F b c) : Only F a c :=
  ⟨k.os.trans h.os, k.tape.trans h.tape, k.output.trans h.output, Nat.le_trans h.size k.size,
    fun i hi hf => (k.block i (Nat.lt_of_lt_of_le hi h.size) hf).trans (h.block i hi hf)⟩
/-- a second step may write to what is new -/
theorem Only.trans' {F G : Nat → Prop} {a b c : World} (h : Only F a b) (k : Only G b c) (hG : ∀ i, G i → F i ∨ a.heap.size ≤ i) : Only F a c :=
  ⟨k.os.trans h.os, k.tape.trans h.tape, k.output.trans h.output, Nat.le_trans h.size k.size,
    fun i hi hf => (k.block i (Nat.lt_of_lt_of_le hi h.size) (fun hg => by rcases hG i hg with h1 | h1; exact hf h1; omega)).trans (h.block i hi hf)⟩
theorem Only.mono {F G : Nat → Prop} {a b : World} (h : Only F a b) (hF : ∀ i, F i → G i ∨ a.heap.size ≤ i) : Only G a b :=
  ⟨h.os, h.tape, h.output, h.size, fun i hi hg => h.block i hi (fun hf => by rcases hF i hf with h1 | h1; exact hg h1; omega)⟩
theorem Only.alloc (F : Nat → Prop) (w : World) (o : Obj) : Only F w (w.alloc o) :=
  ⟨rfl, rfl, rfl, by simp, fun k hk _ => Below.heap_alloc _ _ _ hk⟩
theorem Only.setCell {F : Nat → Prop} {a w : World} (h : Only F a w) {p : Addr} (hp : F p.block ∨ a.heap.size ≤ p.block) (u : Value) : Only F a (w.setCell p u) :=
  ⟨h.os, h.tape, h.output, by simp [World.setCell]; exact h.size, fun k hk hf => by
    rw [Below.heap_setCell _ _ _ _ (fun e => by subst e; rcases hp with h1 | h1; exact hf h1; omega)]
    exact h.block k hk hf⟩
theorem Only.alloc' {F : Nat → Prop} {a w : World} (h : Only F a w) (o : Obj) : Only F a (w.alloc o) := h.trans (Only.alloc F w o)
theorem Only.drew {F : Nat → Prop} {a w : World} (h : Only F a w) : Only F a w.drew := ⟨h.os, h.tape, h.output, h.size, h.block⟩
theorem Only.of_below {F : Nat → Prop} {a w : World} (h : Below a.heap.size a w) : Only F a w := ⟨h.os, h.tape, h.output, h.size, fun k hk _ => h.block k hk⟩
theorem Only.below' {F : Nat → Prop} {a b c : World} (h : Only F a b) (k : Below b.heap.size b c) : Only F a c := h.trans (Only.of_below k)
theorem Only.grown {F : Nat → Prop} {a w w' : World} {row : Option Nat} (h : Only F a w) (hg : w.grownBy w' row) (hr : ∀ k, row = some k → F k ∨ a.heap.size ≤ k) : Only F a w' :=
  h.trans' (G := fun k => some k = row) ⟨hg.os, hg.tape, hg.output, hg.size, fun k hk hne => hg.block k hk hne⟩ (fun i hi => hr i hi.symm)
theorem Only.below {F : Nat → Prop} {a w : World} {B : Nat} (h : Only F a w) (hB : B ≤ a.heap.size) (hF : ∀ k, F k → B ≤ k) : Below B a w :=
  ⟨h.os, h.tape, h.output, h.size, fun k hk => h.block k (by omega) (fun hf => by have := hF k hf; omega)⟩
theorem Only.blk {F : Nat → Prop} {a w : World} {b : Nat} {x : Obj} (h : Only F a w) (hb : a.heap[b]? = some x) (hF : ¬ F b) : w.heap[b]? = some x := by
  rw [h.block b (blk_lt hb) hF]; exact hb

/-- the blocks of a slice value -/
def inRow (v : Value) (k : Nat) : Prop := v.ownBlock = some k

theorem own_frame {w w' : World} {e : TypeId} {size : Nat} {v : Value} {n : Nat} {xs : List Value} (h : w.ownsRow 0 e size v n xs) (hb : ∀ k, inRow v k → w'.heap[k]? = w.heap[k]?) : w'.ownsRow 0 e size v n xs := by
  obtain ⟨h1, h2⟩ := h
  refine ⟨h1, ?_⟩
  rcases h2 with h2 | ⟨g, cap, cur, rfl, hg, hh, r⟩
  · exact .inl h2
  · exact .inr ⟨g, cap, cur, rfl, hg, by rw [hb g rfl]; exact hh, r⟩
theorem own_only {F : Nat → Prop} {w w' : World} {e : TypeId} {size : Nat} {v : Value} {n : Nat} {xs : List Value} (h : w.ownsRow 0 e size v n xs) (ho : Only F w w') (hF : ∀ k, inRow v k → ¬ F k) : w'.ownsRow 0 e size v n xs :=
  own_frame h fun k hk => ho.block k (h.lt k hk).2 (hF k hk)
theorem own_lt {w : World} {e : TypeId} {size : Nat} {v : Value} {n : Nat} {xs : List Value} (h : w.ownsRow 0 e size v n xs) {k : Nat} (hk : inRow v k) : k < w.heap.size := (h.lt k hk).2
theorem own_nil (w : World) (e : TypeId) (size : Nat) : w.ownsRow 0 e size (.slice none 0 0) 0 [] := World.ownsRow_nil w 0 e size
/-- a row's block is of its elements' type -/
theorem own_type {w : World} {e : TypeId} {size : Nat} {v : Value} {n : Nat} {xs : List Value} (h : w.ownsRow 0 e size v n xs) {k : Nat} (hk : inRow v k) : ∃ cur, w.heap[k]? = some (.cells cur e (0, 0)) := by
  rcases h.2 with ⟨rfl, _⟩ | ⟨g, cap, cur, rfl, hg, hh, r⟩
  · simp [inRow, Value.ownBlock] at hk
  · simp [inRow, Value.ownBlock] at hk; subst hk; exact ⟨cur, hh⟩
/-- the shape of an owned value -/
theorem own_shape {w : World} {e : TypeId} {size : Nat} {v : Value} {n : Nat} {xs : List Value} (h : w.ownsRow 0 e size v n xs) : (v = .slice none 0 0 ∧ n = 0 ∧ xs = []) ∨ ∃ g cap, v = .slice (some ⟨g, 0, none⟩) n cap ∧ n ≤ cap ∧ cap ≤ maxLen := by
  rcases h.2 with ⟨rfl, rfl⟩ | ⟨g, cap, cur, rfl, hg, hh, h1, h2, _⟩
  · exact .inl ⟨rfl, rfl, List.eq_nil_of_length_eq_zero (by simpa using h.1)⟩
  · exact .inr ⟨g, cap, rfl, h1, h2⟩
theorem own_slice {w : World} {e : TypeId} {size : Nat} {v : Value} {n : Nat} {xs : List Value} (h : w.ownsRow 0 e size v n xs) : ∃ ao cap, v = .slice ao n cap := by
  rcases own_shape h with ⟨rfl, rfl, rfl⟩ | ⟨g, cap, rfl, -, -⟩
  · exact ⟨_, _, rfl⟩
  · exact ⟨_, _, rfl⟩
/-- rows of unlike types, a row and a block of another type, are apart -/
theorem own_apart {w : World} {e e' : TypeId} {size size' : Nat} {v v' : Value} {n n' : Nat} {xs xs' : List Value} (h : w.ownsRow 0 e size v n xs) (h' : w.ownsRow 0 e' size' v' n' xs') (he : e ≠ e') {k : Nat} (hk : inRow v k) : ¬ inRow v' k := by
  intro hk'
  obtain ⟨c, hc⟩ := own_type h hk
  obtain ⟨c', hc'⟩ := own_type h' hk'
  rw [hc] at hc'
  simp only [Option.some.injEq, Obj.cells.injEq] at hc'
  exact he hc'.2.1
theorem own_not {w : World} {e t : TypeId} {size : Nat} {v : Value} {n : Nat} {xs : List Value} {b : Nat} {cs : Array Value} {fr : Nat × Nat} (h : w.ownsRow 0 e size v n xs) (hb : w.heap[b]? = some (.cells cs t fr)) (he : t ≠ e) : ¬ inRow v b := by
  intro hk
  obtain ⟨c, hc⟩ := own_type h hk
  rw [hb] at hc
  simp only [Option.some.injEq, Obj.cells.injEq] at hc
  exact he hc.2.1
theorem own_set {w : World} {e t : TypeId} {size : Nat} {v : Value} {n : Nat} {xs : List Value} {b : Nat} {cs : Array Value} {fr : Nat × Nat} (h : w.ownsRow 0 e size v n xs) (hb : w.heap[b]? = some (.cells cs t fr)) (he : t ≠ e) (o : Nat) (u : Value) : (w.setCell ⟨b, o, none⟩ u).ownsRow 0 e size v n xs :=
  own_frame h fun k hk => Below.heap_setCell _ _ _ _ (fun hkb => own_not h hb he (by subst hkb; exact hk))
theorem own_grown {w w' : World} {e : TypeId} {size : Nat} {v u : Value} {n : Nat} {xs : List Value} (h : w.ownsRow 0 e size v n xs) (hg : w.grownBy w' u.ownBlock) (hne : ∀ k, inRow v k → ¬ inRow u k) : w'.ownsRow 0 e size v n xs :=
  own_frame h fun k hk => hg.block k (own_lt h hk) (fun e => hne k hk e.symm)
theorem blk_grown {w w' : World} {b : Nat} {x : Obj} {u : Value} (h : w.heap[b]? = some x) (hg : w.grownBy w' u.ownBlock) (hne : ¬ inRow u b) : w'.heap[b]? = some x := by
  rw [hg.block b (blk_lt h) (fun e => hne e.symm)]; exact h

/-- its cells, read -/
theorem own_cell {w : World} {e : TypeId} {size : Nat} {n g cap : Nat} {xs : List Value} (h : w.ownsRow 0 e size (.slice (some ⟨g, 0, none⟩) n cap) n xs) (j : Nat) (hj : j < n * size) : w.cell? ⟨g, j, none⟩ = xs[j]? := h.cellAt j hj
theorem own_free {w : World} {e : TypeId} {size : Nat} {n g cap : Nat} {xs : List Value} (h : w.ownsRow 0 e size (.slice (some ⟨g, 0, none⟩) n cap) n xs) (j : Nat) : w.frozen? ⟨g, j, none⟩ = false := h.frozenAt j

/-- a cell that is there is there behind a new block -/
theorem blk_cell_old {w : World} {a : Addr} {u : Value} (h : w.cell? a = some u) {o : Obj} : (w.alloc o).heap[a.block]? = w.heap[a.block]? :=
  Below.heap_alloc _ _ _ (World.block_lt_of_cell? w a h)

/-- a slice value of n elements that reads as the cells xs (nil, or at an address) -/
def Reads (w : World) (v : Value) (n : Nat) (xs : List Value) : Prop :=
  (v = .slice none 0 0 ∧ n = 0 ∧ xs = []) ∨ ∃ a cap, v = .slice (some a) n cap ∧ ∀ j u, xs[j]? = some u → w.cell? (a.add j) = some u
theorem own_reads {w : World} {e : TypeId} {size : Nat} {v : Value} {n : Nat} {xs : List Value} (h : w.ownsRow 0 e size v n xs) : Reads w v n xs := by
  rcases own_shape h with ⟨rfl, rfl, rfl⟩ | ⟨g, cap, rfl, -, -⟩
  · exact .inl ⟨rfl, rfl, rfl⟩
  · exact .inr ⟨_, cap, rfl, h.cells (g := g) rfl⟩

theorem reads_at {w : World} {v : Value} {n : Nat} {xs : List Value} (h : Reads w v n xs) (hn : xs ≠ []) : ∃ b off cap, v = .slice (some ⟨b, off, none⟩) n cap ∧ ∀ j u, xs[j]? = some u → w.cell? ⟨b, off + j, none⟩ = some u := by
  rcases h with ⟨-, -, rfl⟩ | ⟨a, cap, rfl, hc⟩
  · exact (hn rfl).elim
  · obtain ⟨b, off, spot⟩ := a
    cases xs with
    | nil => exact (hn rfl).elim
    | cons x xs =>
      have h0 := hc 0 x rfl
      have hspot : spot = none := by simpa [Addr.add] using World.cell?_spot h0
      subst hspot
      exact ⟨b, off, cap, rfl, fun j u hj => by have := hc j u hj; rwa [Addr.add_lit] at this⟩

/-- a slice's shape, and its cells -/
theorem reads_cells {w : World} {v : Value} {n : Nat} {xs : List Value} (h : Reads w v n xs) : ∃ ao cap, v = .slice ao n cap ∧ ∀ j u, xs[j]? = some u → ∃ b off, ao = some ⟨b, off, none⟩ ∧ w.cell? ⟨b, off + j, none⟩ = some u ∧ b < w.heap.size := by
  by_cases hx : xs = []
  · subst hx
    rcases h with ⟨rfl, rfl, -⟩ | ⟨a, cap, rfl, -⟩
    · exact ⟨none, 0, rfl, fun j u hj => by simp at hj⟩
    · exact ⟨some a, cap, rfl, fun j u hj => by simp at hj⟩
  · obtain ⟨b, off, cap, rfl, hc⟩ := reads_at h hx
    exact ⟨_, cap, rfl, fun j u hj => ⟨b, off, rfl, hc j u hj, World.block_lt_of_cell? w ⟨b, off + j, none⟩ (hc j u hj)⟩⟩

section
variable {P : Program}

/-- append to an owned row: in place, or into a new block -/
theorem run_append_sep (w : World) (t ty e : TypeId) (i : TypeInfo) (z : Value) (size bytes : Nat) (ht : P.underlying t = some (.slice e)) (hi : P.info? e = some i) (hz : i.zero = some z)
    (hsize : i.size = size) (hby : i.bytes = bytes) (hzs : z.cells.size = size) (hsz : 0 < size)
    (v : Value) (n : Nat) (xs : List Value) (hown : w.ownsRow 0 e size v n xs)
    (a : Addr) (m c : Nat) (news : List Value) (hl : news.length = m * size) (hnews : ∀ j u, news[j]? = some u → w.cell? (a.add j) = some u) (h1 : ∀ u ∈ news, u.oneCell' = true)
    (h63 : n + m ≤ maxLen) (hbytes : (n + m) * bytes ≤ 140737488355328) :
    ∃ v' w', (Builtin.append_ #[t, t] ty #[v, .slice (some a) m c]).run P w = .ok v' w' ∧ w'.ownsRow 0 e size v' (n + m) (xs ++ news) ∧ w.grownBy w' v.ownBlock ∧
      (∀ k, inRow v' k → inRow v k ∨ w.heap.size ≤ k) := by
  by_cases hroom : ∃ g cap, v = .slice (some ⟨g, 0, none⟩) n cap ∧ n + m ≤ cap
  · obtain ⟨g, cap, rfl, hr⟩ := hroom
    obtain ⟨w', hrun, ho, hg⟩ := run_append_fits (P := P) w 0 t ty e i size ht hi hsize g n cap xs hown a m c news hl hnews h1 hr
    exact ⟨_, _, hrun, ho, hg, fun k hk => .inl hk⟩
  · -- it grows: every block of the new value lies behind the heap's end
    have hsmall : ((n + m : Nat) : Int) ≤ 9223372036854775807 := by simp only [maxLen] at h63; omega
    obtain ⟨v', w', hrun, ho, hg, hnil⟩ := run_append_own (P := P) w 0 t ty e i z size bytes ht hi hz hsize hby hzs hsz v n xs hown a m c news hl hnews h1 h63 hbytes (Nat.zero_le _)
    refine ⟨v', w', hrun, ho, hg, ?_⟩
    subst hsize
    subst hby
    rcases hown.2 with ⟨rfl, rfl⟩ | ⟨g, cap, cur, rfl, hbg, hgg, hnc, hcm, hcs, htake⟩
    · have hx : xs = [] := List.eq_nil_of_length_eq_zero (by simpa using hown.1)
      subst hx
      by_cases hm : m = 0
      · have := hnil.2 ⟨rfl, hm⟩
        subst this
        intro k hk
        simp [inRow, Value.ownBlock] at hk
      · have hr := run_append_nil (P := P) w t ty e i z ht hi hz a m c news hl hnews (by omega) (by omega) (by simp only [Nat.zero_add] at hbytes; omega)
        rw [hr] at hrun
        cases hrun
        intro k hk
        simp [inRow, Value.ownBlock] at hk
        exact .inr (by omega)
    · have hroom' : ¬ n + m ≤ cap := fun h => hroom ⟨g, cap, rfl, h⟩
      have holds : ∀ j u, xs[j]? = some u → w.cell? ((⟨g, 0, none⟩ : Addr).add j) = some u := hown.cells (g := g) rfl
      have hr := run_append_grow (P := P) w t ty e i z ht hi hz ⟨g, 0, none⟩ n cap xs hown.1 holds a m c news hl hnews (by omega) hsmall (growslice_fits (by omega) hbytes)
      rw [hr] at hrun
      cases hrun
      intro k hk
      simp [inRow, Value.ownBlock] at hk
      exact .inr (by omega)

theorem wpList_append_sep (w : World) {ops : Array Oper} {rest : List Oper} {o : Oper} {a : Act} {Q : Exit → Act → World → Prop} (hgd : o.guard = none) (s x : Operand) (t : TypeId)
    (ho : o.op = .call { callee := .builtin .append, args := #[s, x], argTypes := #[t, t] })
    (e : TypeId) (i : TypeInfo) (z : Value) (size bytes : Nat) (ht : P.underlying t = some (.slice e)) (hi : P.info? e = some i) (hz : i.zero = some z)
    (hsize : i.size = size) (hby : i.bytes = bytes) (hzs : z.cells.size = size) (hsz : 0 < size)
    (v : Value) (n : Nat) (xs : List Value) (hs : a.eval s = v) (hown : w.ownsRow 0 e size v n xs)
    (ad : Addr) (m c : Nat) (news : List Value) (hx : a.eval x = .slice (some ad) m c) (hl : news.length = m * size) (hnews : ∀ j u, news[j]? = some u → w.cell? (ad.add j) = some u) (h1 : ∀ u ∈ news, u.oneCell' = true)
    (h63 : n + m ≤ maxLen) (hbytes : (n + m) * bytes ≤ 140737488355328)
    (h : ∀ v' w', w'.ownsRow 0 e size v' (n + m) (xs ++ news) → w.grownBy w' v.ownBlock → (∀ k, inRow v' k → inRow v k ∨ w.heap.size ≤ k) → wpList P ops Q rest (a.put o.dst v') w') : wpList P ops Q (o :: rest) a w := by
  refine wpList_plain hgd fun K hK => ?_
  obtain ⟨v', w', hr, h2, h3, h4⟩ := run_append_sep (P := P) w t o.type e i z size bytes ht hi hz hsize hby hzs hsz v n xs hown ad m c news hl hnews h1 h63 hbytes
  unfold Oper.wp execOp
  simp only [ho, resolve, invoke, builtin, Sem.run_bind, Sem.run_pure, Result.andThen_ok, List.map_toArray, List.map_cons, List.map_nil, hs, hx, hr]
  exact hK _ _ (h v' w' h2 h3 h4)
end
end Go.Proofs.YtnhocmmgdkiepaaDoor

/-
  Lists of numbers and of bools as values, and slices that read as them. Plain facts, over any program.
-/
namespace Go.Proofs.YtnhocmmgdkiepaaDoor
open Go Go.RowKit

def ints (l : List Int) : List Value := l.map (Value.int .i64)
def bls (l : List Bool) : List Value := l.map Value.bool
theorem ints_one (l : List Int) : ∀ u ∈ ints l, u.oneCell' = true := ints_oneCell _ _
theorem bls_one (l : List Bool) : ∀ u ∈ bls l, u.oneCell' = true := by
  intro u hu
  simp only [bls, List.mem_map] at hu
  obtain ⟨b, -, rfl⟩ := hu
  rfl
theorem ints_len (l : List Int) : (ints l).length = l.length * 1 := by simp [ints]
theorem bls_len (l : List Bool) : (bls l).length = l.length * 1 := by simp [bls]
theorem ints_get (l : List Int) (k : Nat) (h : k < l.length) : (ints l)[k]? = some (.int .i64 (l.getD k 0)) := by simp [ints, h]
theorem bls_get (l : List Bool) (k : Nat) (h : k < l.length) : (bls l)[k]? = some (.bool (l.getD k false)) := by simp [bls, h]
theorem u32s_get (l : List Int) (k : Nat) (h : k < l.length) : (u32s l)[k]? = some (.int .u32 (l.getD k 0)) := by simp [u32s, h]
theorem ints_take (xs : List Int) (k : Nat) (h : k < xs.length) : ints (xs.take (k + 1)) = ints (xs.take k) ++ [.int .i64 (xs.getD k 0)] := by
  rw [List.take_succ_eq_append_getElem h, List.getD_eq_getElem?_getD, List.getElem?_eq_getElem h]
  unfold ints
  rw [List.map_append]
  rfl
theorem bls_take (xs : List Bool) (k : Nat) (h : k < xs.length) : bls (xs.take (k + 1)) = bls (xs.take k) ++ [.bool (xs.getD k false)] := by
  rw [List.take_succ_eq_append_getElem h, List.getD_eq_getElem?_getD, List.getElem?_eq_getElem h]
  unfold bls
  rw [List.map_append]
  rfl

theorem cell_one_new2 (w : World) (o : Obj) (x : Value) (t : TypeId) : ∀ j u, [x][j]? = some u → ((w.alloc o).alloc (.cells #[x] t)).cell? ((⟨w.heap.size + 1, 0, none⟩ : Addr).add j) = some u := by
  have := cell_one_new (w.alloc o) x t
  rw [World.size_alloc] at this
  exact this

/-- a cell that is there is there behind a new block -/
theorem cell_past {w : World} {a : Addr} {u : Value} (h : w.cell? a = some u) (o : Obj) : (w.alloc o).cell? a = some u :=
  (((Below.refl _ _).alloc (Nat.le_refl _) o).cell (World.block_lt_of_cell? w a h)).trans h
theorem cell_under {w w' : World} {a : Addr} {u : Value} (h : w.cell? a = some u) (hb : Below w.heap.size w w') : w'.cell? a = some u :=
  (hb.cell (World.block_lt_of_cell? w a h)).trans h

theorem take_eq {α : Type} [Inhabited α] (d : α) {xs ys : List α} {k : Nat} (hx : k < xs.length) (hy : k < ys.length) (h : xs.take k = ys.take k) (e : xs.getD k d = ys.getD k d) : xs.take (k + 1) = ys.take (k + 1) := by
  rw [List.take_succ_eq_append_getElem hx, List.take_succ_eq_append_getElem hy, h]
  rw [List.getD_eq_getElem?_getD, List.getElem?_eq_getElem hx, List.getD_eq_getElem?_getD, List.getElem?_eq_getElem hy] at e
  simp only [Option.getD_some] at e
  rw [e]

/-- a slice's cells, at an address that may be none -/
def AtL (w : World) (ao : Option Addr) (vs : List Value) : Prop := ∀ k u, vs[k]? = some u → ∃ b off, ao = some ⟨b, off, none⟩ ∧ w.cell? ⟨b, off + k, none⟩ = some u ∧ b < w.heap.size
theorem AtL.mono {W w : World} {ao : Option Addr} {vs : List Value} (h : AtL W ao vs) (hb : Below W.heap.size W w) : AtL w ao vs := fun k u hk => by
  obtain ⟨b, off, e, hc, hl⟩ := h k u hk
  exact ⟨b, off, e, (hb.cell (p := ⟨b, off + k, none⟩) hl).trans hc, Nat.lt_of_lt_of_le hl hb.size⟩
theorem AtL.mono' {W w : World} {ao : Option Addr} {vs : List Value} (h : AtL W ao vs) {B : Nat} (hb : Below B W w) (hB : W.heap.size ≤ B) : AtL w ao vs := fun k u hk => by
  obtain ⟨b, off, e, hc, hl⟩ := h k u hk
  exact ⟨b, off, e, (hb.cell (p := ⟨b, off + k, none⟩) (by exact Nat.lt_of_lt_of_le hl hB)).trans hc, Nat.lt_of_lt_of_le hl hb.size⟩
theorem AtL.drewN {W : World} {ao : Option Addr} {vs : List Value} (h : AtL W ao vs) (n : Nat) : AtL (W.drewN n) ao vs := h.mono (below_drewN (Below.refl _ _) n)
theorem atL_of_reads {w : World} {v : Value} {n : Nat} {xs : List Value} (h : Reads w v n xs) : ∃ ao cap, v = .slice ao n cap ∧ AtL w ao xs := reads_cells h
theorem atL_of_own {w : World} {e : TypeId} {size : Nat} {v : Value} {n : Nat} {xs : List Value} (h : w.ownsRow 0 e size v n xs) : ∃ ao cap, v = .slice ao n cap ∧ AtL w ao xs := reads_cells (own_reads h)
theorem atL_nil (w : World) (ao : Option Addr) : AtL w ao [] := fun k u hk => by simp at hk
theorem AtL.take {w : World} {ao : Option Addr} {vs : List Value} (h : AtL w ao vs) (n : Nat) : AtL w ao (vs.take n) := fun k u hk => h k u (by
  rw [List.getElem?_take] at hk
  split at hk
  · exact hk
  · cases hk)
theorem AtL.reads {w : World} {ao : Option Addr} {vs : List Value} {n cap : Nat} (h : AtL w ao vs) (hn : vs = [] → n = 0 ∧ cap = 0) : Reads w (.slice ao n cap) n vs := by
  cases vs with
  | nil =>
    obtain ⟨rfl, rfl⟩ := hn rfl
    cases ao with
    | none => exact .inl ⟨rfl, rfl, rfl⟩
    | some a => exact .inr ⟨a, 0, rfl, fun j u hj => by simp at hj⟩
  | cons x xs =>
    obtain ⟨b, off, rfl, -, -⟩ := h 0 x rfl
    refine .inr ⟨⟨b, off, none⟩, cap, rfl, fun j u hj => ?_⟩
    obtain ⟨b', off', e, hc, -⟩ := h j u hj
    cases e
    rw [Addr.add_lit]
    exact hc

theorem emod_of_tmod {n m : Int} (hn : n < 0) (hm : 0 < m) : (n.tmod m < 0 → n.tmod m + m = n % m) ∧ (¬ n.tmod m < 0 → n.tmod m = n % m) ∧ -m < n.tmod m ∧ n.tmod m ≤ 0 := by
  have h1 := Int.emod_nonneg n (show m ≠ 0 by omega)
  have h2 := Int.emod_lt_of_pos n hm
  have h3 := @Int.tmod_eq_emod n m
  by_cases hd : m ∣ n
  · rw [if_pos (.inr hd)] at h3
    have h4 := Int.emod_eq_zero_of_dvd hd
    omega
  · have hno : ¬ (0 ≤ n ∨ m ∣ n) := fun h => h.elim (fun h => by omega) hd
    rw [if_neg hno] at h3
    have h4 : n % m ≠ 0 := fun h => hd (Int.dvd_of_emod_eq_zero h)
    omega
end Go.Proofs.YtnhocmmgdkiepaaDoor

/-
  The step from a walk to a law's row: a call that answers true and turns nothing that was there leaves what the row says.
-/
namespace Go.Proofs.YtnhocmmgdkiepaaDoor
open Go.ChangeShapes Go.WideShapes Go.ChangeAt Go.RowKit

/-- every parameter type can be read, and is one of the program's -/
def parsOk (P : Program) (ts : List TypeId) : Bool := ts.all fun t => P.readableRec t && decide (t < P.types.size)

theorem trodAll_stays {H : Type} {enc : TypeId × Value → H} {P : Program} {W W' : World} (hl : laidOutB P = true) (hb : Below W.heap.size W W') :
    ∀ {ts : List TypeId} {vs : List Value} {ds : List (DataW H)} {ps : List MemPlace}, parsOk P ts = true →
      DataW.TrodAll enc P W 0 (fun _ => true) true ts vs ds ps → (∀ x ∈ ps, x.block < W.heap.size) →
      DataW.TrodAll enc P W' 0 (fun b => decide (b < W.heap.size)) true ts vs ds ps
  | [], _, _, _, _, h, _ => by
    obtain ⟨rfl, rfl, rfl⟩ := trodAll_nil h
    exact trodAll_mk0
  | t :: ts, _, _, _, hr, h, hlt => by
    obtain ⟨v, vs', d, ds', p, q, rfl, rfl, rfl, h0, h1⟩ := trodAll_cons h
    simp only [parsOk, List.all_cons, Bool.and_eq_true, decide_eq_true_eq] at hr
    exact trodAll_cons_mk (Below.trod hl hr.1.1 hr.1.2 h0 hb fun x hx => hlt x (by simp [hx])) (trodAll_stays hl hb hr.2 h1 fun x hx => hlt x (by simp [hx]))

theorem law_post {H : Type} {enc : TypeId × Value → H} {P : Program} {fn : Func} {s : ChangeSpec} {bt : TypeId} {W W' : World} {args : Array Value} {ds gs : List (DataW H)} {before : List MemPlace}
    (hl : laidOutB P = true) (hrec : parsOk P fn.params.toList = true) (hres : fn.resultTypes = #[bt]) (hbt : P.underlying bt = some .bool)
    (hvars : s.vars = []) (hW : DataW.Whole enc P fn.params.toList s.vars false W args.toList ds gs before)
    (hfn : s.fn H (ds ++ gs) = { results := [.lit (.bool true)], args := ds }) (hb : Below W.heap.size W W') :
    s.post enc P fn false true false false W args (.bool true) W' := by
  have hW' := hW
  obtain ⟨p, q, hA, hV, rfl, hfz, hnd⟩ := hW
  have hlt : ∀ x ∈ p, x.block < W.heap.size := fun x hx => hW'.lt x (by simp [hx])
  rw [hvars] at hV
  obtain ⟨rfl, rfl⟩ := trodVars_none hV
  refine ⟨ds, [], _, [], p, [], hW', ?_, ?_, ?_, hb.frame _, fun h => by cases h⟩
  · rw [hfn, hres]
    exact trodAll_mk1 (shut_bool hbt _)
  · rw [hfn]
    exact trodAll_stays hl hb hrec hA hlt
  · rw [hfn, hvars]; rfl

/-- a slice of integers that came in: the numbers zs -/
theorem open_reads {H : Type} {enc : TypeId × Value → H} {P : Program} {W : World} {t e : TypeId} {k : IntKind} {v : Value} {d : DataW H} {p : List MemPlace} {r : Reach} {b0 : Nat}
    (ht : P.underlying t = some (.slice e)) (he : P.underlying e = some (.int k)) (hc : P.cellsOf e = 1) (hv : Value.okWide P W r b0 t v) (h : DataW.Trod enc P W 0 (fun _ => true) true t v d p) :
    ∃ zs : List Int, Reads W v zs.length (zs.map (Value.int k)) ∧ zs.length ≤ maxLen ∧ ∀ z ∈ zs, (Lit.int k z).wf = true := by
  obtain ⟨a0, len, cap, rfl⟩ := okWide_slice ht hv
  obtain ⟨fuel, hf⟩ := h
  rcases open_ints ht he hc hf with ⟨hcs, _⟩ | ⟨x, l, c, zs, hcs, _, hl, hm, hz, _, hcell, hwz⟩
  · simp [Value.cells] at hcs
    obtain ⟨rfl, rfl, rfl⟩ := hcs
    exact ⟨[], .inl ⟨rfl, rfl, rfl⟩, by simp, by simp⟩
  · simp [Value.cells] at hcs
    obtain ⟨rfl, rfl, rfl⟩ := hcs
    have hzl : zs.length = cap := by simpa using hz
    have hlen : (zs.take len).length = len := by rw [List.length_take]; omega
    refine ⟨zs.take len, ?_, by omega, fun z hz => hwz z (List.mem_of_mem_take hz)⟩
    rw [hlen]
    refine .inr ⟨x, cap, rfl, fun j u hj => ?_⟩
    have hj' := (List.getElem?_eq_some_iff.1 hj).1
    simp only [List.length_map, hlen] at hj'
    rw [hcell j (by omega)]
    simp only [List.getElem?_map, List.getElem?_take_of_lt hj'] at hj
    rw [← hj, List.getD_eq_getElem?_getD, List.getElem?_eq_getElem (by omega)]
    simp
theorem own : ownKnob Tryd.prog.godebug = none := by kernel_rfl
theorem laidOut : laidOutB Tryd.prog = true := by kernel_rfl
end Go.Proofs.YtnhocmmgdkiepaaDoor

/-
  The program's sentinels: what the condition on them gives a walk: where each lies, and that no two are one.
-/
namespace Go.Proofs.YtnhocmmgdkiepaaDoor
open Go.ChangeShapes Go.WideShapes Go.ChangeAt Go.RowKit

/-- sentinel a is what variable g holds, and lies in a block of its own, not frozen -/
def SentAt (tp : TypeId) (W : World) (g : Nat) (a : Addr) : Prop := W.cell? ⟨g, 0, none⟩ = some (.iface tp (.pointer (some a))) ∧ ∃ c t, W.heap[a.block]? = some (.cells c t (0, 0))
theorem SentAt.mono {tp : TypeId} {W w : World} {g : Nat} {a : Addr} (h : SentAt tp W g a) (hb : Below W.heap.size W w) : SentAt tp w g a := by
  obtain ⟨h1, c, t, h2⟩ := h
  exact ⟨(hb.cell (World.block_lt_of_cell? W _ h1)).trans h1, c, t, by rw [hb.block _ (blk_lt h2)]; exact h2⟩

theorem sents {P : Program} {nm : String} {ti tp te ts : TypeId} {ms : Array (String × TypeId)} {f : Field} {W : World}
    (hi : P.underlying ti = some (.interface ms)) (hrow : ∀ u, P.typeName? 3 u = some nm → u = tp) (hp : P.underlying tp = some (.pointer te)) (he : P.underlying te = some (.struct #[f])) (hft : f.type = ts) (hfo : f.offset = 0)
    (hs : P.underlying ts = some .string) (hc : P.cellsOf te = 1) (hcs : P.cellsOf ts = 1) :
    ∀ (L : List (String × DataW Unit)) (ps : List MemPlace), DataW.LaidVars P W L ps → ps.Nodup →
      (∀ b off, MemPlace.cell b off ∈ ps → (∃ c t, W.heap[b]? = some (.cells c t (0, 0))) ∧ ∀ u v, W.cell? ⟨b, off, none⟩ = some (.iface u v) → Value.okWide P W .any 0 u v) →
      (∀ x ∈ L, (∃ text, x.2 = .iface nm (.ptr (.agg [.lit (.string text)]))) ∧ ∀ g, P.globalNamed x.1 = some g → (P.globals[g]?).map (·.type) = some ti) →
      ∃ A : List Addr, A.length = L.length ∧ A.Nodup ∧ (∀ a ∈ A, MemPlace.cell a.block a.off ∈ ps) ∧ ∀ (i : Nat) x a, L[i]? = some x → A[i]? = some a → ∃ g, P.globalNamed x.1 = some g ∧ SentAt tp W g a
  | [], ps, _, _, _, _ => ⟨[], rfl, by simp, by simp, by simp⟩
  | (n, d) :: L, ps, hv, hnd, hrows, hL => by
    obtain ⟨g, t, cs, fuel, p, q, hg, ht, hvar, hd, hq, rfl⟩ := hv
    obtain ⟨⟨text, hdt⟩, hty⟩ := hL (n, d) (by simp)
    have hdt' : d = .iface nm (.ptr (.agg [.lit (.string text)])) := hdt
    subst hdt'
    obtain rfl := Option.some.inj ((hty g hg).symm.trans ht)
    obtain ⟨l0⟩ := cs
    have hnd2 := List.nodup_append.1 hnd
    have ok0 : ∀ u v, l0 = [.iface u v] → Value.okWide P W .any 0 u v := fun u v e => by
      subst e
      exact (hrows g 0 (by simp [MemPlace.row])).2 u v (by simpa using World.var?_cell hg hvar 0)
    obtain ⟨a, s, rfl, hca, hsa, hza, rfl⟩ := errorString_of_trod hi hrow hp he hft hfo hs hc hcs hd ok0
    obtain ⟨A, h1, h2, h3, h4⟩ := sents hi hrow hp he hft hfo hs hc hcs L q hq hnd2.2.1 (fun b off hm => hrows b off (List.mem_append_right _ hm)) (fun x hx => hL x (by simp [hx]))
    have hin : MemPlace.cell a.block a.off ∈ MemPlace.row a 1 := by simp [MemPlace.row]
    refine ⟨a :: A, by simp [h1], ?_, ?_, ?_⟩
    · rw [List.nodup_cons]
      refine ⟨fun hm => ?_, h2⟩
      have hq' := h3 a hm
      exact hnd2.2.2 _ (List.mem_append_right _ hin) _ hq' rfl
    · intro b hb
      rcases List.mem_cons.1 hb with rfl | hb
      · exact List.mem_append_left _ (List.mem_append_right _ hin)
      · exact List.mem_append_right _ (h3 b hb)
    · intro i x b hx hb
      cases i with
      | zero =>
        simp only [List.getElem?_cons_zero, Option.some.injEq] at hx hb
        subst hx hb
        refine ⟨g, hg, by simpa using World.var?_cell hg hvar 0, ?_⟩
        exact (hrows a.block a.off (List.mem_append_left _ (List.mem_append_right _ hin))).1
      | succ i => exact h4 i x b (by simpa using hx) (by simpa using hb)

/-- the sentinels of the numbers S: sentinel k is at E k, variable G k holds it; no two are one -/
def ErrsAt (tp : TypeId) (G : Nat → Nat) (W : World) (E : Nat → Addr) (S : List Nat) : Prop := (∀ k ∈ S, SentAt tp W (G k) (E k)) ∧ ∀ i ∈ S, ∀ j ∈ S, i ≠ j → E i ≠ E j
theorem ErrsAt.mono {tp : TypeId} {G : Nat → Nat} {W w : World} {E : Nat → Addr} {S : List Nat} (h : ErrsAt tp G W E S) (hb : Below W.heap.size W w) : ErrsAt tp G w E S := ⟨fun k hk => (h.1 k hk).mono hb, h.2⟩

theorem errs_of {P : Program} {tp : TypeId} {G : Nat → Nat} {W : World} (L : List (String × DataW Unit)) (S : List Nat) (hS : S.Nodup) (hlen : L.length = S.length)
    (hG : ∀ (i : Nat) x k, L[i]? = some x → S[i]? = some k → P.globalNamed x.1 = some (G k))
    (h : ∃ A : List Addr, A.length = L.length ∧ A.Nodup ∧ ∀ (i : Nat) x a, L[i]? = some x → A[i]? = some a → ∃ g, P.globalNamed x.1 = some g ∧ SentAt tp W g a) : ∃ E, ErrsAt tp G W E S := by
  obtain ⟨A, h1, h2, h3⟩ := h
  have idx : ∀ k ∈ S, ∃ i, S[i]? = some k ∧ S.idxOf k = i ∧ i < S.length := fun k hk => ⟨S.idxOf k, by rw [List.getElem?_eq_getElem (List.idxOf_lt_length_of_mem hk)]; simp, rfl, List.idxOf_lt_length_of_mem hk⟩
  refine ⟨fun k => A.getD (S.idxOf k) ⟨0, 0, none⟩, fun k hk => ?_, fun i hi j hj hne he => ?_⟩
  · obtain ⟨i, e1, e2, e3⟩ := idx k hk
    have hAi : A[i]? = some (A.getD (S.idxOf k) ⟨0, 0, none⟩) := by
      rw [e2, List.getD_eq_getElem?_getD, List.getElem?_eq_getElem (by omega)]
      rfl
    obtain ⟨x, hx⟩ : ∃ x, L[i]? = some x := ⟨_, List.getElem?_eq_getElem (by omega)⟩
    obtain ⟨g, hg, hs⟩ := h3 i x _ hx hAi
    obtain rfl := Option.some.inj ((hG i x k hx e1).symm.trans hg)
    exact hs
  · obtain ⟨a, a1, a2, a3⟩ := idx i hi
    obtain ⟨b, b1, b2, b3⟩ := idx j hj
    have he' : A.getD (S.idxOf i) ⟨0, 0, none⟩ = A.getD (S.idxOf j) ⟨0, 0, none⟩ := he
    rw [a2, b2, List.getD_eq_getElem?_getD, List.getD_eq_getElem?_getD, List.getElem?_eq_getElem (by omega), List.getElem?_eq_getElem (by omega)] at he'
    simp only [Option.getD_some] at he'
    have hp := List.pairwise_iff_getElem.1 h2
    rcases Nat.lt_trichotomy a b with h | h | h
    · exact hp a b (by omega) (by omega) h he'
    · subst h
      rw [a1] at b1
      exact hne (Option.some.inj b1)
    · exact hp b a (by omega) (by omega) h he'.symm
end Go.Proofs.YtnhocmmgdkiepaaDoor

/-
  The sentinels of this seat: which variable holds which; what a list of them gives.
-/
namespace Go.Proofs.YtnhocmmgdkiepaaDoor
open Go.ChangeShapes Go.WideShapes Go.ChangeAt Go.RowKit

abbrev errT : TypeId := 213
def gOf : Nat → Nat
  | 0 => 9
  | 1 => 5
  | 2 => 0
  | 3 => 4
  | 4 => 10
  | 5 => 1
  | 6 => 2
  | 7 => 11
  | 8 => 12
  | 9 => 8
  | 10 => 7
  | 11 => 6
  | 12 => 3
  | 13 => 13
  | 14 => 14
  | 15 => 15
  | _ => 0
theorem err_star : "*" ++ "errors.errorString" = "*errors.errorString" := by decide
theorem err_row (u : TypeId) (h : Tryd.prog.typeName? 3 u = some "*errors.errorString") : u = errT :=
  typeName_ptr_named (nm := "errors.errorString") (by rw [err_star]; kernel_rfl) (by kernel_rfl) (by decide) u (by rw [err_star]; exact h)
theorem err_cells : Tryd.prog.cellsOf 230 = 1 := by kernel_rfl
theorem str_cells : Tryd.prog.cellsOf 9 = 1 := by kernel_rfl
theorem errs_sents {W : World} (L : List (String × DataW Unit)) (ps : List MemPlace) (hv : DataW.LaidVars Tryd.prog W L ps) (hnd : ps.Nodup)
    (hrows : ∀ b off, MemPlace.cell b off ∈ ps → (∃ c t, W.heap[b]? = some (.cells c t (0, 0))) ∧ ∀ u v, W.cell? ⟨b, off, none⟩ = some (.iface u v) → Value.okWide Tryd.prog W .any 0 u v)
    (hL : ∀ x ∈ L, (∃ text, x.2 = .iface "*errors.errorString" (.ptr (.agg [.lit (.string text)]))) ∧ ∀ g, Tryd.prog.globalNamed x.1 = some g → (Tryd.prog.globals[g]?).map (·.type) = some 27) :
    ∃ A : List Addr, A.length = L.length ∧ A.Nodup ∧ (∀ a ∈ A, MemPlace.cell a.block a.off ∈ ps) ∧ ∀ (i : Nat) x a, L[i]? = some x → A[i]? = some a → ∃ g, Tryd.prog.globalNamed x.1 = some g ∧ SentAt errT W g a :=
  sents Tryd.underlying27 err_row Tryd.underlying213 Tryd.underlying230 rfl rfl Tryd.underlying9 err_cells str_cells L ps hv hnd hrows hL
end Go.Proofs.YtnhocmmgdkiepaaDoor

