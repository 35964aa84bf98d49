/-
  Parts of one proof, one behind the other.
-/
import Derived.Test.YtbigilbbbmanjaaGreatDoorMg33c314d72b
/-
  WholeRings, evaluated: cases.
-/
set_option linter.unusedVariables false
set_option linter.unusedSimpArgs false
set_option maxRecDepth 1000000
namespace Go.Ev
theorem rings_z_0_false : evF tabR 60 fRings [.nils, .bool false, .opq (fromN 0)] (ringH 0) (fun v _ => v.onBool true false) = true := by kernel_rfl
theorem rings_z_0_true : evF tabR 60 fRings [.nils, .bool true, .opq (fromN 0)] (ringH 0) (fun v _ => v.onBool true false) = true := by kernel_rfl
theorem rings_z_1_false : evF tabR 60 fRings [.nils, .bool false, .opq (fromN 1)] (ringH 0) (fun v _ => v.onBool true false) = true := by kernel_rfl
theorem rings_z_1_true : evF tabR 60 fRings [.nils, .bool true, .opq (fromN 1)] (ringH 0) (fun v _ => v.onBool true false) = true := by kernel_rfl
theorem rings_z_2_false : evF tabR 60 fRings [.nils, .bool false, .opq (fromN 2)] (ringH 0) (fun v _ => v.onBool true false) = true := by kernel_rfl
theorem rings_z_2_true : evF tabR 60 fRings [.nils, .bool true, .opq (fromN 2)] (ringH 0) (fun v _ => v.onBool true false) = true := by kernel_rfl
theorem rings_z_3_false : evF tabR 60 fRings [.nils, .bool false, .opq (fromN 3)] (ringH 0) (fun v _ => v.onBool true false) = true := by kernel_rfl
theorem rings_z_3_true : evF tabR 60 fRings [.nils, .bool true, .opq (fromN 3)] (ringH 0) (fun v _ => v.onBool true false) = true := by kernel_rfl
theorem rings_z_4_false : evF tabR 60 fRings [.nils, .bool false, .opq (fromN 4)] (ringH 0) (fun v _ => v.onBool true false) = true := by kernel_rfl
theorem rings_z_4_true : evF tabR 60 fRings [.nils, .bool true, .opq (fromN 4)] (ringH 0) (fun v _ => v.onBool true false) = true := by kernel_rfl
end Go.Ev

/-
  WholeRings, evaluated: cases.
-/
set_option linter.unusedVariables false
set_option linter.unusedSimpArgs false
set_option maxRecDepth 1000000
namespace Go.Ev
theorem rings_z_5_false : evF tabR 60 fRings [.nils, .bool false, .opq (fromN 5)] (ringH 0) (fun v _ => v.onBool true false) = true := by kernel_rfl
theorem rings_z_5_true : evF tabR 60 fRings [.nils, .bool true, .opq (fromN 5)] (ringH 0) (fun v _ => v.onBool true false) = true := by kernel_rfl
theorem rings_z_6_false : evF tabR 60 fRings [.nils, .bool false, .opq (fromN 6)] (ringH 0) (fun v _ => v.onBool true false) = true := by kernel_rfl
theorem rings_z_6_true : evF tabR 60 fRings [.nils, .bool true, .opq (fromN 6)] (ringH 0) (fun v _ => v.onBool true false) = true := by kernel_rfl
theorem rings_z_7_false : evF tabR 60 fRings [.nils, .bool false, .opq (fromN 7)] (ringH 0) (fun v _ => v.onBool true false) = true := by kernel_rfl
theorem rings_z_7_true : evF tabR 60 fRings [.nils, .bool true, .opq (fromN 7)] (ringH 0) (fun v _ => v.onBool true false) = true := by kernel_rfl
theorem rings_0_0_false : evF tabR 60 fRings [(sliceV 0), .bool false, .opq (fromN 0)] (ringH 0) (fun v _ => v.onBool true false) = true := by kernel_rfl
theorem rings_0_0_true : evF tabR 60 fRings [(sliceV 0), .bool true, .opq (fromN 0)] (ringH 0) (fun v _ => v.onBool true false) = true := by kernel_rfl
theorem rings_0_1_false : evF tabR 60 fRings [(sliceV 0), .bool false, .opq (fromN 1)] (ringH 0) (fun v _ => v.onBool true false) = true := by kernel_rfl
theorem rings_0_1_true : evF tabR 60 fRings [(sliceV 0), .bool true, .opq (fromN 1)] (ringH 0) (fun v _ => v.onBool true false) = true := by kernel_rfl
end Go.Ev

