/-
  Parts of one proof, one behind the other.
-/
import Derived.Test.YtbigilbbbmanjaaGreatDoorMg33c314d72b
/-
  WholeRings, evaluated: cases.
-/
set_option linter.unusedVariables false
set_option linter.unusedSimpArgs false
set_option maxRecDepth 1000000
namespace Go.Ev
theorem rings_2_6_false : evF tabR 60 fRings [(sliceV 2), .bool false, .opq (fromN 6)] (ringH 2) (fun v _ => v.onBool true false) = true := by kernel_rfl
theorem rings_2_6_true : evF tabR 60 fRings [(sliceV 2), .bool true, .opq (fromN 6)] (ringH 2) (fun v _ => v.onBool true false) = true := by kernel_rfl
theorem rings_2_7_false : evF tabR 60 fRings [(sliceV 2), .bool false, .opq (fromN 7)] (ringH 2) (fun v _ => v.onBool true false) = true := by kernel_rfl
theorem rings_2_7_true : evF tabR 60 fRings [(sliceV 2), .bool true, .opq (fromN 7)] (ringH 2) (fun v _ => v.onBool true false) = true := by kernel_rfl
theorem rings_3_0_false : evF tabR 60 fRings [(sliceV 3), .bool false, .opq (fromN 0)] (ringH 3) (fun v _ => v.onBool true false) = true := by kernel_rfl
theorem rings_3_0_true : evF tabR 60 fRings [(sliceV 3), .bool true, .opq (fromN 0)] (ringH 3) (fun v _ => v.onBool true false) = true := by kernel_rfl
theorem rings_3_1_false : evF tabR 60 fRings [(sliceV 3), .bool false, .opq (fromN 1)] (ringH 3) (fun v _ => v.onBool true false) = true := by kernel_rfl
theorem rings_3_1_true : evF tabR 60 fRings [(sliceV 3), .bool true, .opq (fromN 1)] (ringH 3) (fun v _ => v.onBool true false) = true := by kernel_rfl
theorem rings_3_2_false : evF tabR 60 fRings [(sliceV 3), .bool false, .opq (fromN 2)] (ringH 3) (fun v _ => v.onBool true false) = true := by kernel_rfl
theorem rings_3_2_true : evF tabR 60 fRings [(sliceV 3), .bool true, .opq (fromN 2)] (ringH 3) (fun v _ => v.onBool true false) = true := by kernel_rfl
end Go.Ev

/-
  WholeRings, evaluated: cases.
-/
set_option linter.unusedVariables false
set_option linter.unusedSimpArgs false
set_option maxRecDepth 1000000
namespace Go.Ev
theorem rings_3_3_false : evF tabR 60 fRings [(sliceV 3), .bool false, .opq (fromN 3)] (ringH 3) (fun v _ => v.onBool true false) = true := by kernel_rfl
theorem rings_3_3_true : evF tabR 60 fRings [(sliceV 3), .bool true, .opq (fromN 3)] (ringH 3) (fun v _ => v.onBool true false) = true := by kernel_rfl
theorem rings_3_4_false : evF tabR 60 fRings [(sliceV 3), .bool false, .opq (fromN 4)] (ringH 3) (fun v _ => v.onBool true false) = true := by kernel_rfl
theorem rings_3_4_true : evF tabR 60 fRings [(sliceV 3), .bool true, .opq (fromN 4)] (ringH 3) (fun v _ => v.onBool true false) = true := by kernel_rfl
theorem rings_3_5_false : evF tabR 60 fRings [(sliceV 3), .bool false, .opq (fromN 5)] (ringH 3) (fun v _ => v.onBool true false) = true := by kernel_rfl
theorem rings_3_5_true : evF tabR 60 fRings [(sliceV 3), .bool true, .opq (fromN 5)] (ringH 3) (fun v _ => v.onBool true false) = true := by kernel_rfl
theorem rings_3_6_false : evF tabR 60 fRings [(sliceV 3), .bool false, .opq (fromN 6)] (ringH 3) (fun v _ => v.onBool true false) = true := by kernel_rfl
theorem rings_3_6_true : evF tabR 60 fRings [(sliceV 3), .bool true, .opq (fromN 6)] (ringH 3) (fun v _ => v.onBool true false) = true := by kernel_rfl
theorem rings_3_7_false : evF tabR 60 fRings [(sliceV 3), .bool false, .opq (fromN 7)] (ringH 3) (fun v _ => v.onBool true false) = true := by kernel_rfl
theorem rings_3_7_true : evF tabR 60 fRings [(sliceV 3), .bool true, .opq (fromN 7)] (ringH 3) (fun v _ => v.onBool true false) = true := by kernel_rfl
end Go.Ev

