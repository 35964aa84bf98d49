/-
  mem.Mem: a word within; lists and one place of theirs.
-/
import Derived.Test.YtnhocmmgdkiepaaDoorMm
namespace Go.Proofs.YtnhocmmgdkiepaaDoor
open Go.RowKit

theorem setD_get (l : List Int) (a k : Nat) (x : Int) (ha : a < l.length) : (l.set a x).getD k 0 = if k = a then x else l.getD k 0 := by
  by_cases h : k = a
  · subst h
    simp [List.getD_eq_getElem?_getD, ha]
  · rw [if_neg h]
    simp [List.getD_eq_getElem?_getD, List.getElem?_set_ne (fun e => h e.symm)]
theorem repD_get (n k : Nat) : (List.replicate n (0 : Int)).getD k 0 = 0 := by
  simp only [List.getD_eq_getElem?_getD, List.getElem?_replicate]
  split <;> rfl
theorem extD {xs ys : List Int} (hl : xs.length = ys.length) (h : ∀ j, j < xs.length → xs.getD j 0 = ys.getD j 0) : xs = ys := by
  apply List.ext_getElem hl
  intro j h1 h2
  have := h j h1
  simpa [List.getD_eq_getElem?_getD, h1, h2] using this
theorem mm_read_at (l : List Int) (b n j : Nat) (v : Value) (w : World) (h : MAt w b v n l) (hj : j < 16 * n) :
    Calls Tryd.prog 149 #[.pointer (some ⟨b, 0, none⟩), .int .i64 j] w fun e w' => e = .returned (.tuple #[.int .u32 (l.getD j 0), .bool true]) ∧ w = w' := by
  have hl := h.2.2
  have e1 : readAns l (j : Int) = .tuple #[.int .u32 (l.getD j 0), .bool true] := by unfold readAns; rw [if_pos (by omega), Int.toNat_natCast]
  have := mm_read l b n v (j : Int) w h
  rw [e1] at this
  exact this

theorem mm_write_at (l : List Int) (b n j : Nat) (v : Value) (x : Int) (w : World) (h : MAt w b v n l) (hj : j < 16 * n) :
    Calls Tryd.prog 102 #[.pointer (some ⟨b, 0, none⟩), .int .i64 j, .int .u32 x] w fun e w' => e = .returned (.bool true) ∧ MAt w' b v n (l.set j x) ∧ Only (fun k => inRow v k) w w' := by
  have hl := h.2.2
  have e1 : writeL l (j : Int) x = l.set j x := by unfold writeL; rw [if_pos (by omega), Int.toNat_natCast]
  have e2 : (decide (0 ≤ (j : Int)) && decide ((j : Int) < (l.length : Int))) = true := by simp; omega
  have := mm_write l b n v (j : Int) x w h
  rw [e1, e2] at this
  exact this
end Go.Proofs.YtnhocmmgdkiepaaDoor
