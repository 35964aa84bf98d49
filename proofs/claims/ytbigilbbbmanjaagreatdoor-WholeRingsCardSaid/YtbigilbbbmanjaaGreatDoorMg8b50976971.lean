/-
  Parts of one proof, one behind the other.
-/
import Derived.Test.YtbigilbbbmanjaaGreatDoorMg33c314d72b
/-
  WholeRings, evaluated: cases.
-/
set_option linter.unusedVariables false
set_option linter.unusedSimpArgs false
set_option maxRecDepth 1000000
namespace Go.Ev
theorem rings_0_2_false : evF tabR 60 fRings [(sliceV 0), .bool false, .opq (fromN 2)] (ringH 0) (fun v _ => v.onBool true false) = true := by kernel_rfl
theorem rings_0_2_true : evF tabR 60 fRings [(sliceV 0), .bool true, .opq (fromN 2)] (ringH 0) (fun v _ => v.onBool true false) = true := by kernel_rfl
theorem rings_0_3_false : evF tabR 60 fRings [(sliceV 0), .bool false, .opq (fromN 3)] (ringH 0) (fun v _ => v.onBool true false) = true := by kernel_rfl
theorem rings_0_3_true : evF tabR 60 fRings [(sliceV 0), .bool true, .opq (fromN 3)] (ringH 0) (fun v _ => v.onBool true false) = true := by kernel_rfl
theorem rings_0_4_false : evF tabR 60 fRings [(sliceV 0), .bool false, .opq (fromN 4)] (ringH 0) (fun v _ => v.onBool true false) = true := by kernel_rfl
theorem rings_0_4_true : evF tabR 60 fRings [(sliceV 0), .bool true, .opq (fromN 4)] (ringH 0) (fun v _ => v.onBool true false) = true := by kernel_rfl
theorem rings_0_5_false : evF tabR 60 fRings [(sliceV 0), .bool false, .opq (fromN 5)] (ringH 0) (fun v _ => v.onBool true false) = true := by kernel_rfl
theorem rings_0_5_true : evF tabR 60 fRings [(sliceV 0), .bool true, .opq (fromN 5)] (ringH 0) (fun v _ => v.onBool true false) = true := by kernel_rfl
theorem rings_0_6_false : evF tabR 60 fRings [(sliceV 0), .bool false, .opq (fromN 6)] (ringH 0) (fun v _ => v.onBool true false) = true := by kernel_rfl
theorem rings_0_6_true : evF tabR 60 fRings [(sliceV 0), .bool true, .opq (fromN 6)] (ringH 0) (fun v _ => v.onBool true false) = true := by kernel_rfl
end Go.Ev

/-
  WholeRings, evaluated: cases.
-/
set_option linter.unusedVariables false
set_option linter.unusedSimpArgs false
set_option maxRecDepth 1000000
namespace Go.Ev
theorem rings_0_7_false : evF tabR 60 fRings [(sliceV 0), .bool false, .opq (fromN 7)] (ringH 0) (fun v _ => v.onBool true false) = true := by kernel_rfl
theorem rings_0_7_true : evF tabR 60 fRings [(sliceV 0), .bool true, .opq (fromN 7)] (ringH 0) (fun v _ => v.onBool true false) = true := by kernel_rfl
theorem rings_1_0_false : evF tabR 60 fRings [(sliceV 1), .bool false, .opq (fromN 0)] (ringH 1) (fun v _ => v.onBool true false) = true := by kernel_rfl
theorem rings_1_0_true : evF tabR 60 fRings [(sliceV 1), .bool true, .opq (fromN 0)] (ringH 1) (fun v _ => v.onBool true false) = true := by kernel_rfl
theorem rings_1_1_false : evF tabR 60 fRings [(sliceV 1), .bool false, .opq (fromN 1)] (ringH 1) (fun v _ => v.onBool true false) = true := by kernel_rfl
theorem rings_1_1_true : evF tabR 60 fRings [(sliceV 1), .bool true, .opq (fromN 1)] (ringH 1) (fun v _ => v.onBool true false) = true := by kernel_rfl
theorem rings_1_2_false : evF tabR 60 fRings [(sliceV 1), .bool false, .opq (fromN 2)] (ringH 1) (fun v _ => v.onBool true false) = true := by kernel_rfl
theorem rings_1_2_true : evF tabR 60 fRings [(sliceV 1), .bool true, .opq (fromN 2)] (ringH 1) (fun v _ => v.onBool true false) = true := by kernel_rfl
theorem rings_1_3_false : evF tabR 60 fRings [(sliceV 1), .bool false, .opq (fromN 3)] (ringH 1) (fun v _ => v.onBool true false) = true := by kernel_rfl
theorem rings_1_3_true : evF tabR 60 fRings [(sliceV 1), .bool true, .opq (fromN 3)] (ringH 1) (fun v _ => v.onBool true false) = true := by kernel_rfl
end Go.Ev

