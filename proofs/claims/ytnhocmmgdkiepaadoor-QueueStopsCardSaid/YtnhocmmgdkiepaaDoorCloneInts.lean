/-
  slices.Clone at int: the copy is in new memory and reads as what was copied; nothing that was there is turned.
-/
import Derived.Test.YtnhocmmgdkiepaaDoorRows
import Derived.Test.YtnhocmmgdkiepaaDoorOwn
namespace Go.Proofs.YtnhocmmgdkiepaaDoor
open Go.RowKit
theorem infoI64c : (Tryd.prog.info? 3).map (fun i => (i.zero, i.size, i.bytes)) = some (some (.int .i64 0), 1, 8) := by kernel_rfl