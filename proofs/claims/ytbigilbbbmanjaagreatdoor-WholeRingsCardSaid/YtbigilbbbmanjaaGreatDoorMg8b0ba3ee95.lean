/-
  Parts of one proof, one behind the other.
-/
import Derived.Test.YtbigilbbbmanjaaGreatDoorMg33c314d72b
/-
  WholeRings, evaluated: cases.
-/
set_option linter.unusedVariables false
set_option linter.unusedSimpArgs false
set_option maxRecDepth 1000000
namespace Go.Ev
theorem rings_7_6_false : evF tabR 60 fRings [(sliceV 7), .bool false, .opq (fromN 6)] (ringH 7) (fun v _ => v.onBool true false) = true := by kernel_rfl
theorem rings_7_6_true : evF tabR 60 fRings [(sliceV 7), .bool true, .opq (fromN 6)] (ringH 7) (fun v _ => v.onBool true false) = true := by kernel_rfl
theorem rings_7_7_false : evF tabR 60 fRings [(sliceV 7), .bool false, .opq (fromN 7)] (ringH 7) (fun v _ => v.onBool true false) = true := by kernel_rfl
theorem rings_7_7_true : evF tabR 60 fRings [(sliceV 7), .bool true, .opq (fromN 7)] (ringH 7) (fun v _ => v.onBool true false) = true := by kernel_rfl
theorem rings_8_0_false : evF tabR 60 fRings [(sliceV 8), .bool false, .opq (fromN 0)] (ringH 8) (fun v _ => v.onBool true false) = true := by kernel_rfl
theorem rings_8_0_true : evF tabR 60 fRings [(sliceV 8), .bool true, .opq (fromN 0)] (ringH 8) (fun v _ => v.onBool true false) = true := by kernel_rfl
theorem rings_8_1_false : evF tabR 60 fRings [(sliceV 8), .bool false, .opq (fromN 1)] (ringH 8) (fun v _ => v.onBool true false) = true := by kernel_rfl
theorem rings_8_1_true : evF tabR 60 fRings [(sliceV 8), .bool true, .opq (fromN 1)] (ringH 8) (fun v _ => v.onBool true false) = true := by kernel_rfl
theorem rings_8_2_false : evF tabR 60 fRings [(sliceV 8), .bool false, .opq (fromN 2)] (ringH 8) (fun v _ => v.onBool true false) = true := by kernel_rfl
theorem rings_8_2_true : evF tabR 60 fRings [(sliceV 8), .bool true, .opq (fromN 2)] (ringH 8) (fun v _ => v.onBool true false) = true := by kernel_rfl
end Go.Ev

/-
  WholeRings, evaluated: cases.
-/
set_option linter.unusedVariables false
set_option linter.unusedSimpArgs false
set_option maxRecDepth 1000000
namespace Go.Ev
theorem rings_8_3_false : evF tabR 60 fRings [(sliceV 8), .bool false, .opq (fromN 3)] (ringH 8) (fun v _ => v.onBool true false) = true := by kernel_rfl
theorem rings_8_3_true : evF tabR 60 fRings [(sliceV 8), .bool true, .opq (fromN 3)] (ringH 8) (fun v _ => v.onBool true false) = true := by kernel_rfl
theorem rings_8_4_false : evF tabR 60 fRings [(sliceV 8), .bool false, .opq (fromN 4)] (ringH 8) (fun v _ => v.onBool true false) = true := by kernel_rfl
theorem rings_8_4_true : evF tabR 60 fRings [(sliceV 8), .bool true, .opq (fromN 4)] (ringH 8) (fun v _ => v.onBool true false) = true := by kernel_rfl
theorem rings_8_5_false : evF tabR 60 fRings [(sliceV 8), .bool false, .opq (fromN 5)] (ringH 8) (fun v _ => v.onBool true false) = true := by kernel_rfl
theorem rings_8_5_true : evF tabR 60 fRings [(sliceV 8), .bool true, .opq (fromN 5)] (ringH 8) (fun v _ => v.onBool true false) = true := by kernel_rfl
theorem rings_8_6_false : evF tabR 60 fRings [(sliceV 8), .bool false, .opq (fromN 6)] (ringH 8) (fun v _ => v.onBool true false) = true := by kernel_rfl
theorem rings_8_6_true : evF tabR 60 fRings [(sliceV 8), .bool true, .opq (fromN 6)] (ringH 8) (fun v _ => v.onBool true false) = true := by kernel_rfl
theorem rings_8_7_false : evF tabR 60 fRings [(sliceV 8), .bool false, .opq (fromN 7)] (ringH 8) (fun v _ => v.onBool true false) = true := by kernel_rfl
theorem rings_8_7_true : evF tabR 60 fRings [(sliceV 8), .bool true, .opq (fromN 7)] (ringH 8) (fun v _ => v.onBool true false) = true := by kernel_rfl
end Go.Ev

