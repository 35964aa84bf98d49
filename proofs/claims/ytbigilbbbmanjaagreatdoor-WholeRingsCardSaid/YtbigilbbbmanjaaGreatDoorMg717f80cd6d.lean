/-
  Parts of one proof, one behind the other.
-/
import Derived.Test.YtbigilbbbmanjaaGreatDoorRows
import Derived.Test.YtbigilbbbmanjaaGreatDoorCards
import Derived.KernelRfl
import Derived.JoinedOf
import Derived.SevenTiedAt
import Derived.ProofKit
import Derived.LaidMore
import Derived.LaidHandle
import Derived.Lay
import Derived.Test.YtbigilbbbmanjaaGreatDoorMga3ecf1c8ff
import Derived.Test.YtbigilbbbmanjaaGreatDoorMg3beac72d69
import Derived.Test.YtbigilbbbmanjaaGreatDoorMg97584ae563
import Derived.Test.YtbigilbbbmanjaaGreatDoorMg5f7d54e464
import Derived.Test.YtbigilbbbmanjaaGreatDoorMga5c4dd1140
import Derived.Test.YtbigilbbbmanjaaGreatDoorMgc1b21e10b0
import Derived.Test.YtbigilbbbmanjaaGreatDoorMg01302b5562
import Derived.Test.YtbigilbbbmanjaaGreatDoorMgaf45d9890c
import Derived.Test.YtbigilbbbmanjaaGreatDoorMge7a726d12a
import Derived.Test.YtbigilbbbmanjaaGreatDoorMg346addd8e1
import Derived.Test.YtbigilbbbmanjaaGreatDoorMga0c562c122
import Derived.Test.YtbigilbbbmanjaaGreatDoorMg0fef44c2c6
import Derived.Test.YtbigilbbbmanjaaGreatDoorMg2dc74c7e78
import Derived.Test.YtbigilbbbmanjaaGreatDoorMg4ec5b3f332
import Derived.Test.YtbigilbbbmanjaaGreatDoorMgf94f2ecc3b
/-
  WholeRings: closed facts of the program's text.
-/
set_option maxRecDepth 100000
namespace Go.Proofs.YtbigilbbbmanjaaGreatDoor.wholeRings
theorem closed : joinedFacts Tryz.prog 8 Tryz.f8 Rows.wholeRingsSpec Rows.wholeRingsRow = true := by
  unfold joinedFacts
  rw [f_inPlace, f_unfollowed, f_recurses, f_named, f_lifted, f_plainKeys, topFacts.rowed, topFacts.mayEnter, topFacts.stopsHeard, laidOut]
  kernel_rfl
end Go.Proofs.YtbigilbbbmanjaaGreatDoor.wholeRings

