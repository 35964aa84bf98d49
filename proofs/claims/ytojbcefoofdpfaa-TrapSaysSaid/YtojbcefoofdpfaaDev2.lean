/-
  Devices: contracts of the other methods.
-/
import Derived.Test.YtojbcefoofdpfaaDev
namespace Go.Proofs.Ytojbcefoofdpfaa
open Go.RowKit

theorem cells_three_new (w : World) (x y z : Value) (t : TypeId) : ∀ j u, [x, y, z][j]? = some u → (w.alloc (.cells #[x, y, z] t)).cell? ((⟨w.heap.size, 0, none⟩ : Addr).add j) = some u := by
  intro j u hj
  rw [Addr.add_lit, Nat.zero_add, blk_cell (blk_new w _) j]
  simpa using hj