/-
  DERIVED. GIVEN WITH THE SEED: THE PROGRAM's TIES (one call each: nine closed facts by the kernel) AND EACH ROW's TIE, after the 31st guide's Derived/Test/Toyas{Tie, Card}.lean. No idea stands in it: it is a product of the set-up. Laid BY PROGRAM, IN A SANDBOX (cutbox-door.mjs). By AI agents, Wed Nov 11 2026. No macro, syntax, notation, axiom, sorry.
-/
import Derived.Test.YtmeljclaocgoaaaDoorRows
import Derived.LaidByTextLater
import Derived.SevenTiedAt
import Derived.LaidSub
import Derived.LaidOnce
namespace Go.Proofs.YtmeljclaocgoaaaDoor
open Go
set_option maxRecDepth 100000
theorem seatTie1 : Tryd.prog.laidByTextLater [("facade/api.ErrEnd", Rows.laid_facade_api_ErrEnd), ("facade/api.ErrShape", Rows.laid_facade_api_ErrShape), ("facade/api.ErrRange", Rows.laid_facade_api_ErrRange), ("facade/api.ErrMany", Rows.laid_facade_api_ErrMany), ("facade/api.ErrOp", Rows.laid_facade_api_ErrOp), ("facade/api.ErrTwice", Rows.laid_facade_api_ErrTwice), ("facade/api.ErrNone", Rows.laid_facade_api_ErrNone), ("facade/api.ErrFar", Rows.laid_facade_api_ErrFar), ("facade/api.ErrMap", Rows.laid_facade_api_ErrMap), ("facade/api.ErrOwner", Rows.laid_facade_api_ErrOwner), ("facade/api.ErrType", Rows.laid_facade_api_ErrType), ("facade/api.ErrBusy", Rows.laid_facade_api_ErrBusy), ("facade/api.ErrFull", Rows.laid_facade_api_ErrFull), ("facade/api.ErrState", Rows.laid_facade_api_ErrState), ("facade/api.ErrWord", Rows.laid_facade_api_ErrWord), ("facade/api.ErrNumber", Rows.laid_facade_api_ErrNumber)] [.sentinel, .sentinel, .sentinel, .sentinel, .sentinel, .sentinel, .sentinel, .sentinel, .sentinel, .sentinel, .sentinel, .sentinel, .sentinel, .sentinel, .sentinel, .sentinel] true :=
  Program.laidByTextLater_by_one 313 8 2 (by kernel_rfl) (by kernel_rfl) (by kernel_rfl) (by kernel_rfl) (by kernel_rfl) (by kernel_rfl) (fun _ _ => by kernel_rfl)
theorem noOwnUnsafe : Tryd.pinned.checked.prog.headLifts.contains "ownunsafe" = false := by kernel_rfl
theorem tie : Tryd.prog.laidByTextLater [("facade/api.ErrEnd", Rows.laid_facade_api_ErrEnd), ("facade/api.ErrShape", Rows.laid_facade_api_ErrShape), ("facade/api.ErrRange", Rows.laid_facade_api_ErrRange), ("facade/api.ErrMany", Rows.laid_facade_api_ErrMany), ("facade/api.ErrOp", Rows.laid_facade_api_ErrOp), ("facade/api.ErrTwice", Rows.laid_facade_api_ErrTwice), ("facade/api.ErrNone", Rows.laid_facade_api_ErrNone), ("facade/api.ErrFar", Rows.laid_facade_api_ErrFar), ("facade/api.ErrMap", Rows.laid_facade_api_ErrMap), ("facade/api.ErrOwner", Rows.laid_facade_api_ErrOwner), ("facade/api.ErrType", Rows.laid_facade_api_ErrType), ("facade/api.ErrBusy", Rows.laid_facade_api_ErrBusy), ("facade/api.ErrFull", Rows.laid_facade_api_ErrFull), ("facade/api.ErrState", Rows.laid_facade_api_ErrState), ("facade/api.ErrWord", Rows.laid_facade_api_ErrWord), ("facade/api.ErrNumber", Rows.laid_facade_api_ErrNumber)] [.sentinel, .sentinel, .sentinel, .sentinel, .sentinel, .sentinel, .sentinel, .sentinel, .sentinel, .sentinel, .sentinel, .sentinel, .sentinel, .sentinel, .sentinel, .sentinel] true :=
  Program.laidByTextLater.sub seatTie1 ["facade/api.ErrEnd", "facade/api.ErrShape", "facade/api.ErrRange", "facade/api.ErrMany", "facade/api.ErrOp", "facade/api.ErrTwice", "facade/api.ErrNone", "facade/api.ErrFar", "facade/api.ErrMap", "facade/api.ErrOwner", "facade/api.ErrType", "facade/api.ErrBusy", "facade/api.ErrFull", "facade/api.ErrState", "facade/api.ErrWord", "facade/api.ErrNumber"] (by kernel_rfl) (by kernel_rfl)
theorem infoSays_row_tie : Rows.infoSaysRow.laidByTextAt .later Tryd.pinned [.sentinel, .sentinel, .sentinel, .sentinel, .sentinel, .sentinel, .sentinel, .sentinel, .sentinel, .sentinel, .sentinel, .sentinel, .sentinel, .sentinel, .sentinel, .sentinel] true :=
  OpenClaim.laidByTextAt_later rfl rfl tie noOwnUnsafe
theorem mapMany_row_tie : Rows.mapManyRow.laidByTextAt .later Tryd.pinned [.sentinel, .sentinel, .sentinel, .sentinel, .sentinel, .sentinel, .sentinel, .sentinel, .sentinel, .sentinel, .sentinel, .sentinel, .sentinel, .sentinel, .sentinel, .sentinel] true :=
  OpenClaim.laidByTextAt_later rfl rfl tie noOwnUnsafe
theorem grantLent_row_tie : Rows.grantLentRow.laidByTextAt .later Tryd.pinned [.sentinel, .sentinel, .sentinel, .sentinel, .sentinel, .sentinel, .sentinel, .sentinel, .sentinel, .sentinel, .sentinel, .sentinel, .sentinel, .sentinel, .sentinel, .sentinel] true :=
  OpenClaim.laidByTextAt_later rfl rfl tie noOwnUnsafe
theorem mapPlays_row_tie : Rows.mapPlaysRow.laidByTextAt .later Tryd.pinned [.sentinel, .sentinel, .sentinel, .sentinel, .sentinel, .sentinel, .sentinel, .sentinel, .sentinel, .sentinel, .sentinel, .sentinel, .sentinel, .sentinel, .sentinel, .sentinel] true :=
  OpenClaim.laidByTextAt_later rfl rfl tie noOwnUnsafe
theorem grantOnce_row_tie : Rows.grantOnceRow.laidByTextAt .later Tryd.pinned [.sentinel, .sentinel, .sentinel, .sentinel, .sentinel, .sentinel, .sentinel, .sentinel, .sentinel, .sentinel, .sentinel, .sentinel, .sentinel, .sentinel, .sentinel, .sentinel] true :=
  OpenClaim.laidByTextAt_later rfl rfl tie noOwnUnsafe
theorem memPlays_row_tie : Rows.memPlaysRow.laidByTextAt .later Tryd.pinned [.sentinel, .sentinel, .sentinel, .sentinel, .sentinel, .sentinel, .sentinel, .sentinel, .sentinel, .sentinel, .sentinel, .sentinel, .sentinel, .sentinel, .sentinel, .sentinel] true :=
  OpenClaim.laidByTextAt_later rfl rfl tie noOwnUnsafe
theorem grantPlays_row_tie : Rows.grantPlaysRow.laidByTextAt .later Tryd.pinned [.sentinel, .sentinel, .sentinel, .sentinel, .sentinel, .sentinel, .sentinel, .sentinel, .sentinel, .sentinel, .sentinel, .sentinel, .sentinel, .sentinel, .sentinel, .sentinel] true :=
  OpenClaim.laidByTextAt_later rfl rfl tie noOwnUnsafe
theorem tie2 : Tryd.prog.laidByTextLater [("facade/api.ErrShape", Rows.laid_facade_api_ErrShape)] [.sentinel] true :=
  Program.laidByTextLater.sub seatTie1 ["facade/api.ErrShape"] (by kernel_rfl) (by kernel_rfl)
theorem infoBack_row_tie : Rows.infoBackRow.laidByTextAt .later Tryd.pinned [.sentinel] true :=
  OpenClaim.laidByTextAt_later rfl rfl tie2 noOwnUnsafe
theorem tie3 : Tryd.prog.laidByTextLater [("facade/api.ErrRange", Rows.laid_facade_api_ErrRange)] [.sentinel] true :=
  Program.laidByTextLater.sub seatTie1 ["facade/api.ErrRange"] (by kernel_rfl) (by kernel_rfl)
theorem memCopies_row_tie : Rows.memCopiesRow.laidByTextAt .later Tryd.pinned [.sentinel] true :=
  OpenClaim.laidByTextAt_later rfl rfl tie3 noOwnUnsafe
theorem memWords_row_tie : Rows.memWordsRow.laidByTextAt .later Tryd.pinned [.sentinel] true :=
  OpenClaim.laidByTextAt_later rfl rfl tie3 noOwnUnsafe
theorem memFills_row_tie : Rows.memFillsRow.laidByTextAt .later Tryd.pinned [.sentinel] true :=
  OpenClaim.laidByTextAt_later rfl rfl tie3 noOwnUnsafe
theorem tie4 : Tryd.prog.laidByTextLater [("facade/api.ErrRange", Rows.laid_facade_api_ErrRange), ("facade/api.ErrMany", Rows.laid_facade_api_ErrMany), ("facade/api.ErrTwice", Rows.laid_facade_api_ErrTwice), ("facade/api.ErrNone", Rows.laid_facade_api_ErrNone)] [.sentinel, .sentinel, .sentinel, .sentinel] true :=
  Program.laidByTextLater.sub seatTie1 ["facade/api.ErrRange", "facade/api.ErrMany", "facade/api.ErrTwice", "facade/api.ErrNone"] (by kernel_rfl) (by kernel_rfl)
theorem mapOnce_row_tie : Rows.mapOnceRow.laidByTextAt .later Tryd.pinned [.sentinel, .sentinel, .sentinel, .sentinel] true :=
  OpenClaim.laidByTextAt_later rfl rfl tie4 noOwnUnsafe
theorem infoSaysUpto_row_tie : Rows.infoSaysUptoRow.laidByTextAt .later Tryd.pinned [.sentinel, .sentinel, .sentinel, .sentinel, .sentinel, .sentinel, .sentinel, .sentinel, .sentinel, .sentinel, .sentinel, .sentinel, .sentinel, .sentinel, .sentinel, .sentinel] true :=
  OpenClaim.laidByTextAt_later rfl rfl tie noOwnUnsafe
theorem infoBackUpto_row_tie : Rows.infoBackUptoRow.laidByTextAt .later Tryd.pinned [.sentinel] true :=
  OpenClaim.laidByTextAt_later rfl rfl tie2 noOwnUnsafe
theorem mapManyUpto_row_tie : Rows.mapManyUptoRow.laidByTextAt .later Tryd.pinned [.sentinel, .sentinel, .sentinel, .sentinel, .sentinel, .sentinel, .sentinel, .sentinel, .sentinel, .sentinel, .sentinel, .sentinel, .sentinel, .sentinel, .sentinel, .sentinel] true :=
  OpenClaim.laidByTextAt_later rfl rfl tie noOwnUnsafe
theorem grantLentUpto_row_tie : Rows.grantLentUptoRow.laidByTextAt .later Tryd.pinned [.sentinel, .sentinel, .sentinel, .sentinel, .sentinel, .sentinel, .sentinel, .sentinel, .sentinel, .sentinel, .sentinel, .sentinel, .sentinel, .sentinel, .sentinel, .sentinel] true :=
  OpenClaim.laidByTextAt_later rfl rfl tie noOwnUnsafe
theorem memCopiesUpto_row_tie : Rows.memCopiesUptoRow.laidByTextAt .later Tryd.pinned [.sentinel] true :=
  OpenClaim.laidByTextAt_later rfl rfl tie3 noOwnUnsafe
theorem memWordsUpto_row_tie : Rows.memWordsUptoRow.laidByTextAt .later Tryd.pinned [.sentinel] true :=
  OpenClaim.laidByTextAt_later rfl rfl tie3 noOwnUnsafe
theorem mapOnceUpto_row_tie : Rows.mapOnceUptoRow.laidByTextAt .later Tryd.pinned [.sentinel, .sentinel, .sentinel, .sentinel] true :=
  OpenClaim.laidByTextAt_later rfl rfl tie4 noOwnUnsafe
theorem mapPlaysUpto_row_tie : Rows.mapPlaysUptoRow.laidByTextAt .later Tryd.pinned [.sentinel, .sentinel, .sentinel, .sentinel, .sentinel, .sentinel, .sentinel, .sentinel, .sentinel, .sentinel, .sentinel, .sentinel, .sentinel, .sentinel, .sentinel, .sentinel] true :=
  OpenClaim.laidByTextAt_later rfl rfl tie noOwnUnsafe
theorem memFillsUpto_row_tie : Rows.memFillsUptoRow.laidByTextAt .later Tryd.pinned [.sentinel] true :=
  OpenClaim.laidByTextAt_later rfl rfl tie3 noOwnUnsafe
theorem grantOnceUpto_row_tie : Rows.grantOnceUptoRow.laidByTextAt .later Tryd.pinned [.sentinel, .sentinel, .sentinel, .sentinel, .sentinel, .sentinel, .sentinel, .sentinel, .sentinel, .sentinel, .sentinel, .sentinel, .sentinel, .sentinel, .sentinel, .sentinel] true :=
  OpenClaim.laidByTextAt_later rfl rfl tie noOwnUnsafe
theorem memPlaysUpto_row_tie : Rows.memPlaysUptoRow.laidByTextAt .later Tryd.pinned [.sentinel, .sentinel, .sentinel, .sentinel, .sentinel, .sentinel, .sentinel, .sentinel, .sentinel, .sentinel, .sentinel, .sentinel, .sentinel, .sentinel, .sentinel, .sentinel] true :=
  OpenClaim.laidByTextAt_later rfl rfl tie noOwnUnsafe
theorem grantPlaysUpto_row_tie : Rows.grantPlaysUptoRow.laidByTextAt .later Tryd.pinned [.sentinel, .sentinel, .sentinel, .sentinel, .sentinel, .sentinel, .sentinel, .sentinel, .sentinel, .sentinel, .sentinel, .sentinel, .sentinel, .sentinel, .sentinel, .sentinel] true :=
  OpenClaim.laidByTextAt_later rfl rfl tie noOwnUnsafe
end Go.Proofs.YtmeljclaocgoaaaDoor
