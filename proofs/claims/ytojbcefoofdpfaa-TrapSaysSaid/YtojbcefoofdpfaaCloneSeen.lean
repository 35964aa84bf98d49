/-
  slices.Clone at facade/api.Seen: the copy is in new memory and reads as what was copied; nothing that was there is turned.
-/
import Derived.Test.YtojbcefoofdpfaaRows
import Derived.Test.YtojbcefoofdpfaaOwn
namespace Go.Proofs.Ytojbcefoofdpfaa
open Go.RowKit
theorem infoSeen : (Try.prog.info? 65).map (fun i => (i.zero, i.size, i.bytes)) = some (some (.agg #[.int .i64 0, .int .u32 0, .int .u32 0]), 3, 16) := by kernel_rfl