/-
  Parts of one proof, one behind the other.
-/
import Derived.Test.YtbigilbbbmanjaaGreatDoorRows
import Derived.Test.YtbigilbbbmanjaaGreatDoorCards
import Derived.KernelRfl
import Derived.JoinedOf
import Derived.SevenTiedAt
import Derived.ProofKit
import Derived.LaidMore
import Derived.LaidHandle
import Derived.Lay
/-
  WholeRings: closed facts of the program's text.
-/
set_option maxRecDepth 100000
namespace Go.Proofs.YtbigilbbbmanjaaGreatDoor.wholeRings
theorem f_func : Tryz.prog.funcNamed "facade/facadetop.WholeRings" = some 8 := by kernel_rfl
theorem f_inits : Tryz.checked.prog.inits.idxOf? 8 = none := by kernel_rfl
end Go.Proofs.YtbigilbbbmanjaaGreatDoor.wholeRings

