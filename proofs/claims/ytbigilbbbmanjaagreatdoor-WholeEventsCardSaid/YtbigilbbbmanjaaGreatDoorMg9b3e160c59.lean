/-
  Parts of one proof, one behind the other.
-/
import Derived.Test.YtbigilbbbmanjaaGreatDoorMg892d52ebca
/-
  WholeEvents, evaluated: cases.
-/
set_option linter.unusedVariables false
set_option linter.unusedSimpArgs false
set_option maxRecDepth 1000000
namespace Go.Ev
theorem events_8_true : evF (tabN 8) 60 fEvents [.opq (xNum 8), .bool true] (.mk .l nStart) (fun v _ => v.onBool true false) = true := by kernel_rfl
theorem events_8_false : evF (tabN 8) 60 fEvents [.opq (xNum 8), .bool false] (.mk .l nStart) (fun v _ => v.onBool true false) = true := by kernel_rfl
theorem events_9_true : evF (tabN 9) 60 fEvents [.opq (xNum 9), .bool true] (.mk .l nStart) (fun v _ => v.onBool true false) = true := by kernel_rfl
theorem events_9_false : evF (tabN 9) 60 fEvents [.opq (xNum 9), .bool false] (.mk .l nStart) (fun v _ => v.onBool true false) = true := by kernel_rfl
end Go.Ev

