/-
  Parts of one proof, one behind the other.
-/
import Derived.Test.YtbigilbbbmanjaaGreatDoorMg33c314d72b
/-
  WholeRings, evaluated: cases.
-/
set_option linter.unusedVariables false
set_option linter.unusedSimpArgs false
set_option maxRecDepth 1000000
namespace Go.Ev
theorem rings_4_0_false : evF tabR 60 fRings [(sliceV 4), .bool false, .opq (fromN 0)] (ringH 4) (fun v _ => v.onBool true false) = true := by kernel_rfl
theorem rings_4_0_true : evF tabR 60 fRings [(sliceV 4), .bool true, .opq (fromN 0)] (ringH 4) (fun v _ => v.onBool true false) = true := by kernel_rfl
theorem rings_4_1_false : evF tabR 60 fRings [(sliceV 4), .bool false, .opq (fromN 1)] (ringH 4) (fun v _ => v.onBool true false) = true := by kernel_rfl
theorem rings_4_1_true : evF tabR 60 fRings [(sliceV 4), .bool true, .opq (fromN 1)] (ringH 4) (fun v _ => v.onBool true false) = true := by kernel_rfl
theorem rings_4_2_false : evF tabR 60 fRings [(sliceV 4), .bool false, .opq (fromN 2)] (ringH 4) (fun v _ => v.onBool true false) = true := by kernel_rfl
theorem rings_4_2_true : evF tabR 60 fRings [(sliceV 4), .bool true, .opq (fromN 2)] (ringH 4) (fun v _ => v.onBool true false) = true := by kernel_rfl
theorem rings_4_3_false : evF tabR 60 fRings [(sliceV 4), .bool false, .opq (fromN 3)] (ringH 4) (fun v _ => v.onBool true false) = true := by kernel_rfl
theorem rings_4_3_true : evF tabR 60 fRings [(sliceV 4), .bool true, .opq (fromN 3)] (ringH 4) (fun v _ => v.onBool true false) = true := by kernel_rfl
theorem rings_4_4_false : evF tabR 60 fRings [(sliceV 4), .bool false, .opq (fromN 4)] (ringH 4) (fun v _ => v.onBool true false) = true := by kernel_rfl
theorem rings_4_4_true : evF tabR 60 fRings [(sliceV 4), .bool true, .opq (fromN 4)] (ringH 4) (fun v _ => v.onBool true false) = true := by kernel_rfl
end Go.Ev

/-
  WholeRings, evaluated: cases.
-/
set_option linter.unusedVariables false
set_option linter.unusedSimpArgs false
set_option maxRecDepth 1000000
namespace Go.Ev
theorem rings_4_5_false : evF tabR 60 fRings [(sliceV 4), .bool false, .opq (fromN 5)] (ringH 4) (fun v _ => v.onBool true false) = true := by kernel_rfl
theorem rings_4_5_true : evF tabR 60 fRings [(sliceV 4), .bool true, .opq (fromN 5)] (ringH 4) (fun v _ => v.onBool true false) = true := by kernel_rfl
theorem rings_4_6_false : evF tabR 60 fRings [(sliceV 4), .bool false, .opq (fromN 6)] (ringH 4) (fun v _ => v.onBool true false) = true := by kernel_rfl
theorem rings_4_6_true : evF tabR 60 fRings [(sliceV 4), .bool true, .opq (fromN 6)] (ringH 4) (fun v _ => v.onBool true false) = true := by kernel_rfl
theorem rings_4_7_false : evF tabR 60 fRings [(sliceV 4), .bool false, .opq (fromN 7)] (ringH 4) (fun v _ => v.onBool true false) = true := by kernel_rfl
theorem rings_4_7_true : evF tabR 60 fRings [(sliceV 4), .bool true, .opq (fromN 7)] (ringH 4) (fun v _ => v.onBool true false) = true := by kernel_rfl
theorem rings_5_0_false : evF tabR 60 fRings [(sliceV 5), .bool false, .opq (fromN 0)] (ringH 5) (fun v _ => v.onBool true false) = true := by kernel_rfl
theorem rings_5_0_true : evF tabR 60 fRings [(sliceV 5), .bool true, .opq (fromN 0)] (ringH 5) (fun v _ => v.onBool true false) = true := by kernel_rfl
theorem rings_5_1_false : evF tabR 60 fRings [(sliceV 5), .bool false, .opq (fromN 1)] (ringH 5) (fun v _ => v.onBool true false) = true := by kernel_rfl
theorem rings_5_1_true : evF tabR 60 fRings [(sliceV 5), .bool true, .opq (fromN 1)] (ringH 5) (fun v _ => v.onBool true false) = true := by kernel_rfl
end Go.Ev

