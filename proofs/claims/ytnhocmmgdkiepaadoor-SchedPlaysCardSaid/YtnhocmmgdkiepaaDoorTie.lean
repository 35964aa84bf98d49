/-
  DERIVED. GIVEN WITH THE SEED: THE PROGRAM's TIES (one call each: nine closed facts by the kernel) AND EACH ROW's TIE, after the 31st guide's Derived/Test/Toyas{Tie, Card}.lean. No idea stands in it: it is a product of the set-up. Laid BY PROGRAM, IN A SANDBOX (cutbox-door.mjs). By AI agents, Wed Nov 11 2026. No macro, syntax, notation, axiom, sorry.
-/
import Derived.Test.YtnhocmmgdkiepaaDoorRows
import Derived.LaidByTextLater
import Derived.SevenTiedAt
import Derived.LaidSub
import Derived.LaidOnce
namespace Go.Proofs.YtnhocmmgdkiepaaDoor
open Go
set_option maxRecDepth 100000
theorem seatTie1 : Tryd.prog.laidByTextLater [("facade/api.ErrEnd", Rows.laid_facade_api_ErrEnd), ("facade/api.ErrShape", Rows.laid_facade_api_ErrShape), ("facade/api.ErrRange", Rows.laid_facade_api_ErrRange), ("facade/api.ErrMany", Rows.laid_facade_api_ErrMany), ("facade/api.ErrOp", Rows.laid_facade_api_ErrOp), ("facade/api.ErrTwice", Rows.laid_facade_api_ErrTwice), ("facade/api.ErrNone", Rows.laid_facade_api_ErrNone), ("facade/api.ErrFar", Rows.laid_facade_api_ErrFar), ("facade/api.ErrMap", Rows.laid_facade_api_ErrMap), ("facade/api.ErrOwner", Rows.laid_facade_api_ErrOwner), ("facade/api.ErrType", Rows.laid_facade_api_ErrType), ("facade/api.ErrBusy", Rows.laid_facade_api_ErrBusy), ("facade/api.ErrFull", Rows.laid_facade_api_ErrFull), ("facade/api.ErrState", Rows.laid_facade_api_ErrState), ("facade/api.ErrWord", Rows.laid_facade_api_ErrWord), ("facade/api.ErrNumber", Rows.laid_facade_api_ErrNumber)] [.sentinel, .sentinel, .sentinel, .sentinel, .sentinel, .sentinel, .sentinel, .sentinel, .sentinel, .sentinel, .sentinel, .sentinel, .sentinel, .sentinel, .sentinel, .sentinel] true :=
  Program.laidByTextLater_by_one 313 8 2 (by kernel_rfl) (by kernel_rfl) (by kernel_rfl) (by kernel_rfl) (by kernel_rfl) (by kernel_rfl) (fun _ _ => by kernel_rfl)
theorem noOwnUnsafe : Tryd.pinned.checked.prog.headLifts.contains "ownunsafe" = false := by kernel_rfl
theorem tie : Tryd.prog.laidByTextLater [("facade/api.ErrEnd", Rows.laid_facade_api_ErrEnd), ("facade/api.ErrShape", Rows.laid_facade_api_ErrShape), ("facade/api.ErrRange", Rows.laid_facade_api_ErrRange), ("facade/api.ErrMany", Rows.laid_facade_api_ErrMany), ("facade/api.ErrOp", Rows.laid_facade_api_ErrOp), ("facade/api.ErrTwice", Rows.laid_facade_api_ErrTwice), ("facade/api.ErrNone", Rows.laid_facade_api_ErrNone), ("facade/api.ErrFar", Rows.laid_facade_api_ErrFar), ("facade/api.ErrMap", Rows.laid_facade_api_ErrMap), ("facade/api.ErrOwner", Rows.laid_facade_api_ErrOwner), ("facade/api.ErrType", Rows.laid_facade_api_ErrType), ("facade/api.ErrBusy", Rows.laid_facade_api_ErrBusy), ("facade/api.ErrFull", Rows.laid_facade_api_ErrFull), ("facade/api.ErrState", Rows.laid_facade_api_ErrState), ("facade/api.ErrWord", Rows.laid_facade_api_ErrWord), ("facade/api.ErrNumber", Rows.laid_facade_api_ErrNumber)] [.sentinel, .sentinel, .sentinel, .sentinel, .sentinel, .sentinel, .sentinel, .sentinel, .sentinel, .sentinel, .sentinel, .sentinel, .sentinel, .sentinel, .sentinel, .sentinel] true :=
  Program.laidByTextLater.sub seatTie1 ["facade/api.ErrEnd", "facade/api.ErrShape", "facade/api.ErrRange", "facade/api.ErrMany", "facade/api.ErrOp", "facade/api.ErrTwice", "facade/api.ErrNone", "facade/api.ErrFar", "facade/api.ErrMap", "facade/api.ErrOwner", "facade/api.ErrType", "facade/api.ErrBusy", "facade/api.ErrFull", "facade/api.ErrState", "facade/api.ErrWord", "facade/api.ErrNumber"] (by kernel_rfl) (by kernel_rfl)
theorem schedLate_row_tie : Rows.schedLateRow.laidByTextAt .later Tryd.pinned [.sentinel, .sentinel, .sentinel, .sentinel, .sentinel, .sentinel, .sentinel, .sentinel, .sentinel, .sentinel, .sentinel, .sentinel, .sentinel, .sentinel, .sentinel, .sentinel] true :=
  OpenClaim.laidByTextAt_later rfl rfl tie noOwnUnsafe
theorem queueStops_row_tie : Rows.queueStopsRow.laidByTextAt .later Tryd.pinned [.sentinel, .sentinel, .sentinel, .sentinel, .sentinel, .sentinel, .sentinel, .sentinel, .sentinel, .sentinel, .sentinel, .sentinel, .sentinel, .sentinel, .sentinel, .sentinel] true :=
  OpenClaim.laidByTextAt_later rfl rfl tie noOwnUnsafe
theorem queuePlays_row_tie : Rows.queuePlaysRow.laidByTextAt .later Tryd.pinned [.sentinel, .sentinel, .sentinel, .sentinel, .sentinel, .sentinel, .sentinel, .sentinel, .sentinel, .sentinel, .sentinel, .sentinel, .sentinel, .sentinel, .sentinel, .sentinel] true :=
  OpenClaim.laidByTextAt_later rfl rfl tie noOwnUnsafe
theorem schedSleeps_row_tie : Rows.schedSleepsRow.laidByTextAt .later Tryd.pinned [.sentinel, .sentinel, .sentinel, .sentinel, .sentinel, .sentinel, .sentinel, .sentinel, .sentinel, .sentinel, .sentinel, .sentinel, .sentinel, .sentinel, .sentinel, .sentinel] true :=
  OpenClaim.laidByTextAt_later rfl rfl tie noOwnUnsafe
theorem schedPlays_row_tie : Rows.schedPlaysRow.laidByTextAt .later Tryd.pinned [.sentinel, .sentinel, .sentinel, .sentinel, .sentinel, .sentinel, .sentinel, .sentinel, .sentinel, .sentinel, .sentinel, .sentinel, .sentinel, .sentinel, .sentinel, .sentinel] true :=
  OpenClaim.laidByTextAt_later rfl rfl tie noOwnUnsafe
theorem tie2 : Tryd.prog.laidByTextLater [("facade/api.ErrRange", Rows.laid_facade_api_ErrRange), ("facade/api.ErrTwice", Rows.laid_facade_api_ErrTwice), ("facade/api.ErrNone", Rows.laid_facade_api_ErrNone)] [.sentinel, .sentinel, .sentinel] true :=
  Program.laidByTextLater.sub seatTie1 ["facade/api.ErrRange", "facade/api.ErrTwice", "facade/api.ErrNone"] (by kernel_rfl) (by kernel_rfl)
theorem schedFair_row_tie : Rows.schedFairRow.laidByTextAt .later Tryd.pinned [.sentinel, .sentinel, .sentinel] true :=
  OpenClaim.laidByTextAt_later rfl rfl tie2 noOwnUnsafe
theorem schedCopies_row_tie : Rows.schedCopiesRow.laidByTextAt .later Tryd.pinned [.sentinel, .sentinel, .sentinel] true :=
  OpenClaim.laidByTextAt_later rfl rfl tie2 noOwnUnsafe
theorem tie3 : Tryd.prog.laidByTextLater [("facade/api.ErrShape", Rows.laid_facade_api_ErrShape), ("facade/api.ErrRange", Rows.laid_facade_api_ErrRange), ("facade/api.ErrMany", Rows.laid_facade_api_ErrMany), ("facade/api.ErrTwice", Rows.laid_facade_api_ErrTwice), ("facade/api.ErrNone", Rows.laid_facade_api_ErrNone), ("facade/api.ErrOwner", Rows.laid_facade_api_ErrOwner), ("facade/api.ErrType", Rows.laid_facade_api_ErrType), ("facade/api.ErrBusy", Rows.laid_facade_api_ErrBusy), ("facade/api.ErrFull", Rows.laid_facade_api_ErrFull)] [.sentinel, .sentinel, .sentinel, .sentinel, .sentinel, .sentinel, .sentinel, .sentinel, .sentinel] true :=
  Program.laidByTextLater.sub seatTie1 ["facade/api.ErrShape", "facade/api.ErrRange", "facade/api.ErrMany", "facade/api.ErrTwice", "facade/api.ErrNone", "facade/api.ErrOwner", "facade/api.ErrType", "facade/api.ErrBusy", "facade/api.ErrFull"] (by kernel_rfl) (by kernel_rfl)
theorem queueMay_row_tie : Rows.queueMayRow.laidByTextAt .later Tryd.pinned [.sentinel, .sentinel, .sentinel, .sentinel, .sentinel, .sentinel, .sentinel, .sentinel, .sentinel] true :=
  OpenClaim.laidByTextAt_later rfl rfl tie3 noOwnUnsafe
theorem queueLast_row_tie : Rows.queueLastRow.laidByTextAt .later Tryd.pinned [.sentinel, .sentinel, .sentinel, .sentinel, .sentinel, .sentinel, .sentinel, .sentinel, .sentinel] true :=
  OpenClaim.laidByTextAt_later rfl rfl tie3 noOwnUnsafe
theorem schedLateUpto_row_tie : Rows.schedLateUptoRow.laidByTextAt .later Tryd.pinned [.sentinel, .sentinel, .sentinel, .sentinel, .sentinel, .sentinel, .sentinel, .sentinel, .sentinel, .sentinel, .sentinel, .sentinel, .sentinel, .sentinel, .sentinel, .sentinel] true :=
  OpenClaim.laidByTextAt_later rfl rfl tie noOwnUnsafe
theorem schedFairUpto_row_tie : Rows.schedFairUptoRow.laidByTextAt .later Tryd.pinned [.sentinel, .sentinel, .sentinel] true :=
  OpenClaim.laidByTextAt_later rfl rfl tie2 noOwnUnsafe
theorem queueMayUpto_row_tie : Rows.queueMayUptoRow.laidByTextAt .later Tryd.pinned [.sentinel, .sentinel, .sentinel, .sentinel, .sentinel, .sentinel, .sentinel, .sentinel, .sentinel] true :=
  OpenClaim.laidByTextAt_later rfl rfl tie3 noOwnUnsafe
theorem queueStopsUpto_row_tie : Rows.queueStopsUptoRow.laidByTextAt .later Tryd.pinned [.sentinel, .sentinel, .sentinel, .sentinel, .sentinel, .sentinel, .sentinel, .sentinel, .sentinel, .sentinel, .sentinel, .sentinel, .sentinel, .sentinel, .sentinel, .sentinel] true :=
  OpenClaim.laidByTextAt_later rfl rfl tie noOwnUnsafe
theorem queueLastUpto_row_tie : Rows.queueLastUptoRow.laidByTextAt .later Tryd.pinned [.sentinel, .sentinel, .sentinel, .sentinel, .sentinel, .sentinel, .sentinel, .sentinel, .sentinel] true :=
  OpenClaim.laidByTextAt_later rfl rfl tie3 noOwnUnsafe
theorem queuePlaysUpto_row_tie : Rows.queuePlaysUptoRow.laidByTextAt .later Tryd.pinned [.sentinel, .sentinel, .sentinel, .sentinel, .sentinel, .sentinel, .sentinel, .sentinel, .sentinel, .sentinel, .sentinel, .sentinel, .sentinel, .sentinel, .sentinel, .sentinel] true :=
  OpenClaim.laidByTextAt_later rfl rfl tie noOwnUnsafe
theorem schedSleepsUpto_row_tie : Rows.schedSleepsUptoRow.laidByTextAt .later Tryd.pinned [.sentinel, .sentinel, .sentinel, .sentinel, .sentinel, .sentinel, .sentinel, .sentinel, .sentinel, .sentinel, .sentinel, .sentinel, .sentinel, .sentinel, .sentinel, .sentinel] true :=
  OpenClaim.laidByTextAt_later rfl rfl tie noOwnUnsafe
theorem schedCopiesUpto_row_tie : Rows.schedCopiesUptoRow.laidByTextAt .later Tryd.pinned [.sentinel, .sentinel, .sentinel] true :=
  OpenClaim.laidByTextAt_later rfl rfl tie2 noOwnUnsafe
theorem schedPlaysUpto_row_tie : Rows.schedPlaysUptoRow.laidByTextAt .later Tryd.pinned [.sentinel, .sentinel, .sentinel, .sentinel, .sentinel, .sentinel, .sentinel, .sentinel, .sentinel, .sentinel, .sentinel, .sentinel, .sentinel, .sentinel, .sentinel, .sentinel] true :=
  OpenClaim.laidByTextAt_later rfl rfl tie noOwnUnsafe
end Go.Proofs.YtnhocmmgdkiepaaDoor
