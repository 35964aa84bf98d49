/-
  Parts of one proof, one behind the other.
-/
import Derived.Test.YtbigilbbbmanjaaGreatDoorMg892d52ebca
/-
  WholeEvents, evaluated: cases.
-/
set_option linter.unusedVariables false
set_option linter.unusedSimpArgs false
set_option maxRecDepth 1000000
namespace Go.Ev
theorem events_4_true : evF (tabN 4) 60 fEvents [.opq (xNum 4), .bool true] (.mk .l nStart) (fun v _ => v.onBool true false) = true := by kernel_rfl
theorem events_4_false : evF (tabN 4) 60 fEvents [.opq (xNum 4), .bool false] (.mk .l nStart) (fun v _ => v.onBool true false) = true := by kernel_rfl
theorem events_5_true : evF (tabN 5) 60 fEvents [.opq (xNum 5), .bool true] (.mk .l nStart) (fun v _ => v.onBool true false) = true := by kernel_rfl
theorem events_5_false : evF (tabN 5) 60 fEvents [.opq (xNum 5), .bool false] (.mk .l nStart) (fun v _ => v.onBool true false) = true := by kernel_rfl
end Go.Ev

