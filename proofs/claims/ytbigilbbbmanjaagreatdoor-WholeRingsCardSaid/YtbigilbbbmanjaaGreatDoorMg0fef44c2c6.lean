/-
  Parts of one proof, one behind the other.
-/
import Derived.Test.YtbigilbbbmanjaaGreatDoorRows
import Derived.Test.YtbigilbbbmanjaaGreatDoorCards
import Derived.KernelRfl
import Derived.JoinedOf
import Derived.SevenTiedAt
import Derived.ProofKit
import Derived.LaidMore
import Derived.LaidHandle
import Derived.Lay
/-
  facadetop: closed facts of the program's text.
-/
set_option maxRecDepth 100000
namespace Go.Proofs.YtbigilbbbmanjaaGreatDoor.topFacts
theorem rowed : mapsRowed Tryz.prog = true := by kernel_rfl
end Go.Proofs.YtbigilbbbmanjaaGreatDoor.topFacts

