/-
  Parts of one proof, one behind the other.
-/
import Derived.Test.YtbigilbbbmanjaaGreatDoorRows
import Derived.Test.YtbigilbbbmanjaaGreatDoorCards
import Derived.KernelRfl
import Derived.JoinedOf
import Derived.SevenTiedAt
import Derived.ProofKit
import Derived.LaidMore
import Derived.LaidHandle
import Derived.Lay
import Derived.Test.YtbigilbbbmanjaaGreatDoorMga87a8c5d1f
import Derived.Test.YtbigilbbbmanjaaGreatDoorMg0f0dede2c3
import Derived.Test.YtbigilbbbmanjaaGreatDoorMgcae30d6479
import Derived.Test.YtbigilbbbmanjaaGreatDoorMg68e7bc12dd
import Derived.Test.YtbigilbbbmanjaaGreatDoorMg6f28097963
import Derived.Test.YtbigilbbbmanjaaGreatDoorMg856d8fa4b5
import Derived.Test.YtbigilbbbmanjaaGreatDoorMg43c800dcd0
import Derived.Test.YtbigilbbbmanjaaGreatDoorMg95138346d2
import Derived.Test.YtbigilbbbmanjaaGreatDoorMg93d667d50f
import Derived.Test.YtbigilbbbmanjaaGreatDoorMgac5a2213e1
import Derived.Test.YtbigilbbbmanjaaGreatDoorMgf6c99609d7
import Derived.Test.YtbigilbbbmanjaaGreatDoorMg0fef44c2c6
import Derived.Test.YtbigilbbbmanjaaGreatDoorMg2dc74c7e78
import Derived.Test.YtbigilbbbmanjaaGreatDoorMg4ec5b3f332
import Derived.Test.YtbigilbbbmanjaaGreatDoorMgdc6aa31e85
/-
  WholeEvents: closed facts of the program's text.
-/
set_option maxRecDepth 100000
namespace Go.Proofs.YtbigilbbbmanjaaGreatDoor.wholeEvents
theorem closed : joinedFacts Tryz.prog 5 Tryz.f5 Rows.wholeEventsSpec Rows.wholeEventsRow = true := by
  unfold joinedFacts
  rw [f_inPlace, f_unfollowed, f_recurses, f_named, f_lifted, f_plainKeys, topFacts.rowed, topFacts.mayEnter, topFacts.stopsHeard, laidOut]
  kernel_rfl
end Go.Proofs.YtbigilbbbmanjaaGreatDoor.wholeEvents

