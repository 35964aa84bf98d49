/-
  Parts of one proof, one behind the other.
-/
import Derived.Test.YtbigilbbbmanjaaGreatDoorMg33c314d72b
/-
  WholeRings, evaluated: cases.
-/
set_option linter.unusedVariables false
set_option linter.unusedSimpArgs false
set_option maxRecDepth 1000000
namespace Go.Ev
theorem rings_6_4_false : evF tabR 60 fRings [(sliceV 6), .bool false, .opq (fromN 4)] (ringH 6) (fun v _ => v.onBool true false) = true := by kernel_rfl
theorem rings_6_4_true : evF tabR 60 fRings [(sliceV 6), .bool true, .opq (fromN 4)] (ringH 6) (fun v _ => v.onBool true false) = true := by kernel_rfl
theorem rings_6_5_false : evF tabR 60 fRings [(sliceV 6), .bool false, .opq (fromN 5)] (ringH 6) (fun v _ => v.onBool true false) = true := by kernel_rfl
theorem rings_6_5_true : evF tabR 60 fRings [(sliceV 6), .bool true, .opq (fromN 5)] (ringH 6) (fun v _ => v.onBool true false) = true := by kernel_rfl
theorem rings_6_6_false : evF tabR 60 fRings [(sliceV 6), .bool false, .opq (fromN 6)] (ringH 6) (fun v _ => v.onBool true false) = true := by kernel_rfl
theorem rings_6_6_true : evF tabR 60 fRings [(sliceV 6), .bool true, .opq (fromN 6)] (ringH 6) (fun v _ => v.onBool true false) = true := by kernel_rfl
theorem rings_6_7_false : evF tabR 60 fRings [(sliceV 6), .bool false, .opq (fromN 7)] (ringH 6) (fun v _ => v.onBool true false) = true := by kernel_rfl
theorem rings_6_7_true : evF tabR 60 fRings [(sliceV 6), .bool true, .opq (fromN 7)] (ringH 6) (fun v _ => v.onBool true false) = true := by kernel_rfl
theorem rings_7_0_false : evF tabR 60 fRings [(sliceV 7), .bool false, .opq (fromN 0)] (ringH 7) (fun v _ => v.onBool true false) = true := by kernel_rfl
theorem rings_7_0_true : evF tabR 60 fRings [(sliceV 7), .bool true, .opq (fromN 0)] (ringH 7) (fun v _ => v.onBool true false) = true := by kernel_rfl
end Go.Ev

/-
  WholeRings, evaluated: cases.
-/
set_option linter.unusedVariables false
set_option linter.unusedSimpArgs false
set_option maxRecDepth 1000000
namespace Go.Ev
theorem rings_7_1_false : evF tabR 60 fRings [(sliceV 7), .bool false, .opq (fromN 1)] (ringH 7) (fun v _ => v.onBool true false) = true := by kernel_rfl
theorem rings_7_1_true : evF tabR 60 fRings [(sliceV 7), .bool true, .opq (fromN 1)] (ringH 7) (fun v _ => v.onBool true false) = true := by kernel_rfl
theorem rings_7_2_false : evF tabR 60 fRings [(sliceV 7), .bool false, .opq (fromN 2)] (ringH 7) (fun v _ => v.onBool true false) = true := by kernel_rfl
theorem rings_7_2_true : evF tabR 60 fRings [(sliceV 7), .bool true, .opq (fromN 2)] (ringH 7) (fun v _ => v.onBool true false) = true := by kernel_rfl
theorem rings_7_3_false : evF tabR 60 fRings [(sliceV 7), .bool false, .opq (fromN 3)] (ringH 7) (fun v _ => v.onBool true false) = true := by kernel_rfl
theorem rings_7_3_true : evF tabR 60 fRings [(sliceV 7), .bool true, .opq (fromN 3)] (ringH 7) (fun v _ => v.onBool true false) = true := by kernel_rfl
theorem rings_7_4_false : evF tabR 60 fRings [(sliceV 7), .bool false, .opq (fromN 4)] (ringH 7) (fun v _ => v.onBool true false) = true := by kernel_rfl
theorem rings_7_4_true : evF tabR 60 fRings [(sliceV 7), .bool true, .opq (fromN 4)] (ringH 7) (fun v _ => v.onBool true false) = true := by kernel_rfl
theorem rings_7_5_false : evF tabR 60 fRings [(sliceV 7), .bool false, .opq (fromN 5)] (ringH 7) (fun v _ => v.onBool true false) = true := by kernel_rfl
theorem rings_7_5_true : evF tabR 60 fRings [(sliceV 7), .bool true, .opq (fromN 5)] (ringH 7) (fun v _ => v.onBool true false) = true := by kernel_rfl
end Go.Ev

