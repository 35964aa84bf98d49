/-
  Parts of one proof, one behind the other.
-/
import Derived.Test.YtbigilbbbmanjaaGreatDoorRows
import Derived.Test.YtbigilbbbmanjaaGreatDoorCards
import Derived.KernelRfl
import Derived.JoinedOf
import Derived.SevenTiedAt
import Derived.ProofKit
import Derived.LaidMore
import Derived.LaidHandle
import Derived.Lay
/-
  WholeRings: closed facts of the program's text.
-/
set_option maxRecDepth 100000
namespace Go.Proofs.YtbigilbbbmanjaaGreatDoor.wholeRings
theorem f_lifted : (Rows.wholeRingsRow.lifted == Tryz.prog.liftsFinal) = true := by kernel_rfl
theorem f_main : Tryz.pinned.checked.prog.mainIs = some (Rows.wholeRingsCard.stood.harness.fst, Rows.wholeRingsCard.stood.harness.snd.toList) := by kernel_rfl
end Go.Proofs.YtbigilbbbmanjaaGreatDoor.wholeRings

