/-
  Parts of one proof, one behind the other.
-/
import Derived.Test.YtbigilbbbmanjaaGreatDoorMg892d52ebca
/-
  works(), evaluated.
-/
set_option linter.unusedVariables false
set_option linter.unusedSimpArgs false
set_option maxRecDepth 1000000
namespace Go.Ev
theorem works_ev : evF etab 60 fWorks [] (.mk .l nStart) (fun v _ => v.onBool true false) = true := by kernel_rfl
end Go.Ev

