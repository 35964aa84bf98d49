/-
  Parts of one proof, one behind the other.
-/
import Derived.Test.YtbigilbbbmanjaaGreatDoorMg33c314d72b
/-
  works(), evaluated (for WholeRings).
-/
set_option linter.unusedVariables false
set_option linter.unusedSimpArgs false
set_option maxRecDepth 1000000
namespace Go.Ev
theorem worksR_ev : evF rtab 60 fWorksR [] (.mk .l (ofN 12 64)) (fun v _ => v.onBool true false) = true := by kernel_rfl
end Go.Ev

