/-
  Parts of one proof, one behind the other.
-/
import Derived.Test.YtbigilbbbmanjaaGreatDoorMg892d52ebca
/-
  WholeEvents, evaluated: cases.
-/
set_option linter.unusedVariables false
set_option linter.unusedSimpArgs false
set_option maxRecDepth 1000000
namespace Go.Ev
theorem events_0_true : evF (tabN 0) 60 fEvents [.opq (xNum 0), .bool true] (.mk .l nStart) (fun v _ => v.onBool true false) = true := by kernel_rfl
theorem events_0_false : evF (tabN 0) 60 fEvents [.opq (xNum 0), .bool false] (.mk .l nStart) (fun v _ => v.onBool true false) = true := by kernel_rfl
theorem events_1_true : evF (tabN 1) 60 fEvents [.opq (xNum 1), .bool true] (.mk .l nStart) (fun v _ => v.onBool true false) = true := by kernel_rfl
theorem events_1_false : evF (tabN 1) 60 fEvents [.opq (xNum 1), .bool false] (.mk .l nStart) (fun v _ => v.onBool true false) = true := by kernel_rfl
end Go.Ev

