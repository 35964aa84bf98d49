/-
  Parts of one proof, one behind the other.
-/
import Derived.Test.YtbigilbbbmanjaaGreatDoorMg892d52ebca
/-
  WholeEvents, evaluated: cases.
-/
set_option linter.unusedVariables false
set_option linter.unusedSimpArgs false
set_option maxRecDepth 1000000
namespace Go.Ev
theorem events_2_true : evF (tabN 2) 60 fEvents [.opq (xNum 2), .bool true] (.mk .l nStart) (fun v _ => v.onBool true false) = true := by kernel_rfl
theorem events_2_false : evF (tabN 2) 60 fEvents [.opq (xNum 2), .bool false] (.mk .l nStart) (fun v _ => v.onBool true false) = true := by kernel_rfl
theorem events_3_true : evF (tabN 3) 60 fEvents [.opq (xNum 3), .bool true] (.mk .l nStart) (fun v _ => v.onBool true false) = true := by kernel_rfl
theorem events_3_false : evF (tabN 3) 60 fEvents [.opq (xNum 3), .bool false] (.mk .l nStart) (fun v _ => v.onBool true false) = true := by kernel_rfl
end Go.Ev

