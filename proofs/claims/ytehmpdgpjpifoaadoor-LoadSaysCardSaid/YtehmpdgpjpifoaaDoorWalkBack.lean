/-
  WalkBack returns true for every pair of entries and every word; nothing that was there is turned. No conditions.
-/
import Derived.Test.YtehmpdgpjpifoaaDoorLaw
import Derived.Test.YtehmpdgpjpifoaaDoorWalkLaws
namespace Go.Proofs.YtehmpdgpjpifoaaDoor
open Go.ChangeShapes Go.WideShapes Go.ChangeAt Go.RowKit Go.Joins