/-
  slices.Clone at uint32: the copy is in new memory and reads as what was copied; nothing that was there is turned.
-/
import Derived.Test.YtnhocmmgdkiepaaDoorRows
import Derived.Test.YtnhocmmgdkiepaaDoorOwn
namespace Go.Proofs.YtnhocmmgdkiepaaDoor
open Go.RowKit
theorem infoU32 : (Tryd.prog.info? 43).map (fun i => (i.zero, i.size, i.bytes)) = some (some (.int .u32 0), 1, 4) := by kernel_rfl