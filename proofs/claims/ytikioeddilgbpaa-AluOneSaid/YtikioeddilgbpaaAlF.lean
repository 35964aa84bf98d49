/-
  Small facts for alu.Do.
-/
import Derived.Test.YtikioeddilgbpaaAlu5
namespace Go.Proofs.Ytikioeddilgbpaa
open Go.RowKit
theorem tmod_16 (ic jc : Nat) (h : ic % 16 = jc) : (ic : Int).tmod 16 = (jc : Int) := by
  subst h
  rw [Int.tmod_eq_emod_of_nonneg (Int.natCast_nonneg ic)]
  exact (Int.natCast_emod ic 16).symm
theorem small_i64 (n : Nat) (h : n < 16) : IntKind.i64.wrap (n : Int) = n ∧ wrap64 (n : Int) = n ∧ (0 : Int) ≤ (n : Int) ∧ (n : Int) < 16 := ⟨IntWalk.i64_in _ (by omega), IntWalk.wrap64_in _ (by omega), by omega, by omega⟩
theorem neq_func (F : Nat) (x : Array Value) (W : World) : (binOp .neq 41 (.func (.func F) x #[]) .nilFunc).run Try.prog W = .ok (.bool true) W := by rfl
theorem neq_nil (W : World) : (binOp .neq 41 .nilFunc .nilFunc).run Try.prog W = .ok (.bool false) W := by rfl
theorem regs_at (r : List Int) (hl : r.length = 16) (i : Nat) (x : Int) (h : i < 16) (hx : r.getD i 0 = x) : (regCells r)[i]? = some (.int .u32 x) := by rw [regCells_get r i (by rw [hl]; exact h), hx]
theorem regs_size (r : List Int) (hl : r.length = 16) : (regCells r).size = 16 := by simp [regCells, u32s, hl]
theorem regs_set (r : List Int) (i : Nat) (x : Int) : (regCells r).setIfInBounds i (.int .u32 x) = regCells (r.set i x) := by simp [regCells, u32s, List.map_set]
theorem three_below (w : World) (o1 o2 o3 : Obj) : Below w.heap.size w (((w.alloc o1).alloc o2).alloc o3) := (((Below.refl w.heap.size w).alloc (Nat.le_refl _) _).alloc (by simp) _ |>.alloc (by simp; omega) _)
theorem three_0 {w w1 : World} {o1 o2 o3 : Obj} (h : Below (((w.alloc o1).alloc o2).alloc o3).heap.size (((w.alloc o1).alloc o2).alloc o3) w1) : w1.heap[w.heap.size]? = some o1 ∧ w1.heap[w.heap.size + 1]? = some o2 ∧ w1.heap[w.heap.size + 1 + 1]? = some o3 ∧ w.heap.size + 3 ≤ w1.heap.size := by
  have hs : (((w.alloc o1).alloc o2).alloc o3).heap.size = w.heap.size + 3 := by simp
  refine ⟨?_, ?_, ?_, by have := h.size; omega⟩
  · rw [h.block _ (by omega), Below.heap_alloc _ _ _ (by simp; omega), Below.heap_alloc _ _ _ (by simp)]
    exact blk_new _ _
  · rw [h.block _ (by omega), Below.heap_alloc _ _ _ (by simp)]
    simpa using blk_new (w.alloc o1) o2
  · rw [h.block _ (by omega)]
    simpa using blk_new ((w.alloc o1).alloc o2) o3
end Go.Proofs.Ytikioeddilgbpaa
