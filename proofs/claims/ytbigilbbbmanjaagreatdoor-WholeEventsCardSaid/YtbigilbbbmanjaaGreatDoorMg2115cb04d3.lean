/-
  Parts of one proof, one behind the other.
-/
import Derived.Test.YtbigilbbbmanjaaGreatDoorMg892d52ebca
/-
  WholeEvents, evaluated: cases.
-/
set_option linter.unusedVariables false
set_option linter.unusedSimpArgs false
set_option maxRecDepth 1000000
namespace Go.Ev
theorem events_6_true : evF (tabN 6) 60 fEvents [.opq (xNum 6), .bool true] (.mk .l nStart) (fun v _ => v.onBool true false) = true := by kernel_rfl
theorem events_6_false : evF (tabN 6) 60 fEvents [.opq (xNum 6), .bool false] (.mk .l nStart) (fun v _ => v.onBool true false) = true := by kernel_rfl
theorem events_7_true : evF (tabN 7) 60 fEvents [.opq (xNum 7), .bool true] (.mk .l nStart) (fun v _ => v.onBool true false) = true := by kernel_rfl
theorem events_7_false : evF (tabN 7) 60 fEvents [.opq (xNum 7), .bool false] (.mk .l nStart) (fun v _ => v.onBool true false) = true := by kernel_rfl
end Go.Ev

