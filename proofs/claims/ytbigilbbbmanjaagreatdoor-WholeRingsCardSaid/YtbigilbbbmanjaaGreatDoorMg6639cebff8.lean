/-
  Parts of one proof, one behind the other.
-/
import Derived.Test.YtbigilbbbmanjaaGreatDoorMg33c314d72b
/-
  WholeRings, evaluated: cases.
-/
set_option linter.unusedVariables false
set_option linter.unusedSimpArgs false
set_option maxRecDepth 1000000
namespace Go.Ev
theorem rings_5_2_false : evF tabR 60 fRings [(sliceV 5), .bool false, .opq (fromN 2)] (ringH 5) (fun v _ => v.onBool true false) = true := by kernel_rfl
theorem rings_5_2_true : evF tabR 60 fRings [(sliceV 5), .bool true, .opq (fromN 2)] (ringH 5) (fun v _ => v.onBool true false) = true := by kernel_rfl
theorem rings_5_3_false : evF tabR 60 fRings [(sliceV 5), .bool false, .opq (fromN 3)] (ringH 5) (fun v _ => v.onBool true false) = true := by kernel_rfl
theorem rings_5_3_true : evF tabR 60 fRings [(sliceV 5), .bool true, .opq (fromN 3)] (ringH 5) (fun v _ => v.onBool true false) = true := by kernel_rfl
theorem rings_5_4_false : evF tabR 60 fRings [(sliceV 5), .bool false, .opq (fromN 4)] (ringH 5) (fun v _ => v.onBool true false) = true := by kernel_rfl
theorem rings_5_4_true : evF tabR 60 fRings [(sliceV 5), .bool true, .opq (fromN 4)] (ringH 5) (fun v _ => v.onBool true false) = true := by kernel_rfl
theorem rings_5_5_false : evF tabR 60 fRings [(sliceV 5), .bool false, .opq (fromN 5)] (ringH 5) (fun v _ => v.onBool true false) = true := by kernel_rfl
theorem rings_5_5_true : evF tabR 60 fRings [(sliceV 5), .bool true, .opq (fromN 5)] (ringH 5) (fun v _ => v.onBool true false) = true := by kernel_rfl
theorem rings_5_6_false : evF tabR 60 fRings [(sliceV 5), .bool false, .opq (fromN 6)] (ringH 5) (fun v _ => v.onBool true false) = true := by kernel_rfl
theorem rings_5_6_true : evF tabR 60 fRings [(sliceV 5), .bool true, .opq (fromN 6)] (ringH 5) (fun v _ => v.onBool true false) = true := by kernel_rfl
end Go.Ev

/-
  WholeRings, evaluated: cases.
-/
set_option linter.unusedVariables false
set_option linter.unusedSimpArgs false
set_option maxRecDepth 1000000
namespace Go.Ev
theorem rings_5_7_false : evF tabR 60 fRings [(sliceV 5), .bool false, .opq (fromN 7)] (ringH 5) (fun v _ => v.onBool true false) = true := by kernel_rfl
theorem rings_5_7_true : evF tabR 60 fRings [(sliceV 5), .bool true, .opq (fromN 7)] (ringH 5) (fun v _ => v.onBool true false) = true := by kernel_rfl
theorem rings_6_0_false : evF tabR 60 fRings [(sliceV 6), .bool false, .opq (fromN 0)] (ringH 6) (fun v _ => v.onBool true false) = true := by kernel_rfl
theorem rings_6_0_true : evF tabR 60 fRings [(sliceV 6), .bool true, .opq (fromN 0)] (ringH 6) (fun v _ => v.onBool true false) = true := by kernel_rfl
theorem rings_6_1_false : evF tabR 60 fRings [(sliceV 6), .bool false, .opq (fromN 1)] (ringH 6) (fun v _ => v.onBool true false) = true := by kernel_rfl
theorem rings_6_1_true : evF tabR 60 fRings [(sliceV 6), .bool true, .opq (fromN 1)] (ringH 6) (fun v _ => v.onBool true false) = true := by kernel_rfl
theorem rings_6_2_false : evF tabR 60 fRings [(sliceV 6), .bool false, .opq (fromN 2)] (ringH 6) (fun v _ => v.onBool true false) = true := by kernel_rfl
theorem rings_6_2_true : evF tabR 60 fRings [(sliceV 6), .bool true, .opq (fromN 2)] (ringH 6) (fun v _ => v.onBool true false) = true := by kernel_rfl
theorem rings_6_3_false : evF tabR 60 fRings [(sliceV 6), .bool false, .opq (fromN 3)] (ringH 6) (fun v _ => v.onBool true false) = true := by kernel_rfl
theorem rings_6_3_true : evF tabR 60 fRings [(sliceV 6), .bool true, .opq (fromN 3)] (ringH 6) (fun v _ => v.onBool true false) = true := by kernel_rfl
end Go.Ev

