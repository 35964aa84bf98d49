/-
  p2m.Map: Put; what stays true whatever is told.
-/
import Derived.Test.YtnhocmmgdkiepaaDoorPm
namespace Go.Proofs.YtnhocmmgdkiepaaDoor
open Go.RowKit

theorem ints_set (l : List Int) (k : Nat) (x : Int) : (ints l).set k (.int .i64 x) = ints (l.set k x) := by simp [ints, List.map_set]
theorem set_getD (l : List Int) (n : Nat) (x : Int) (i : Nat) (hi : i < l.length) : (l.set n x).getD i 0 = if i = n then x else l.getD i 0 := by
  rw [List.getD_eq_getElem?_getD, List.getElem?_set]
  by_cases h : n = i
  · subst h
    simp [hi]
  · rw [if_neg h, if_neg (fun e => h e.symm), ← List.getD_eq_getElem?_getD]
theorem snoc_getD (l : List Int) (x : Int) (i : Nat) (hi : i ≤ l.length) : (l ++ [x]).getD i 0 = if i < l.length then l.getD i 0 else x := by
  by_cases h : i < l.length
  · rw [if_pos h, List.getD_eq_getElem?_getD, List.getElem?_append_left h, ← List.getD_eq_getElem?_getD]
  · obtain rfl : i = l.length := by omega
    simp

/-- no number twice, all fair, not too many -/
structure PGood (l : List Int) : Prop where
  few : l.length ≤ 512
  fair : ∀ i, i < l.length → fairP (l.getD i 0) = true
  once : ∀ i j, i < l.length → j < l.length → l.getD i 0 = l.getD j 0 → i = j
theorem PGood.nil : PGood [] := ⟨by simp, fun i hi => by simp at hi, fun i j hi => by simp at hi⟩
theorem PGood.snoc {l : List Int} (h : PGood l) {x : Int} (hx : fairP x = true) (hm : x ∉ l) (hf : l.length < 512) : PGood (l ++ [x]) := by
  have hno : ∀ j, j < l.length → l.getD j 0 ≠ x := fun j hj e => hm (mem_getD.2 ⟨j, hj, e⟩)
  refine ⟨by simp; omega, fun i hi => ?_, fun i j hi hj e => ?_⟩
  · simp at hi
    rw [snoc_getD l x i (by omega)]
    split
    · rename_i h'
      exact h.fair i h'
    · exact hx
  · simp at hi hj
    rw [snoc_getD l x i (by omega), snoc_getD l x j (by omega)] at e
    split at e <;> split at e
    · rename_i h1 h2
      exact h.once i j h1 h2 e
    · rename_i h1 h2
      exact (hno i h1 e).elim
    · rename_i h1 h2
      exact (hno j h2 e.symm).elim
    · omega
theorem PGood.put {l : List Int} (h : PGood l) {x : Int} {n : Nat} (hn : n < l.length) (hx : fairP x = true) {r : Int} (hr : IdxIs l x r) (hrn : r < 0 ∨ r = n) : PGood (l.set n x) := by
  have hno : ∀ j, j < l.length → j ≠ n → l.getD j 0 ≠ x := fun j hj hne e => by
    rcases hr with ⟨-, hr⟩ | ⟨k, hk, rfl, e2, -⟩
    · exact hr j hj e
    · have hkn : k = n := by omega
      exact hne (hkn ▸ h.once j k hj hk (e.trans e2.symm))
  refine ⟨by simpa using h.few, fun i hi => ?_, fun i j hi hj e => ?_⟩
  · simp at hi
    rw [set_getD l n x i hi]
    split
    · exact hx
    · exact h.fair i hi
  · simp at hi hj
    rw [set_getD l n x i hi, set_getD l n x j hj] at e
    split at e <;> split at e
    · omega
    · rename_i h1 h2
      exact (hno j hj h2 e.symm).elim
    · rename_i h1 h2
      exact (hno i hi h1 e).elim
    · exact h.once i j hi hj e
theorem PGood.idx {l : List Int} (h : PGood l) {i : Nat} (hi : i < l.length) {r : Int} (hr : IdxIs l (l.getD i 0) r) : r = i := by
  rcases hr with ⟨-, hr⟩ | ⟨k, hk, e1, e2, -⟩
  · exact (hr i hi rfl).elim
  · rw [e1, h.once k i hk hi e2]