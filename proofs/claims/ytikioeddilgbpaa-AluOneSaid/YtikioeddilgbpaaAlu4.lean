/-
  Chapter 1: isa.Word and the document's: one answer.
-/
import Derived.Test.YtikioeddilgbpaaAlu3a
import Derived.Test.YtikioeddilgbpaaAlu3b
import Derived.Test.YtikioeddilgbpaaAlu3c
import Derived.Test.YtikioeddilgbpaaAlu3d
namespace Go.Proofs.Ytikioeddilgbpaa
open Go.RowKit

theorem word_any (i : Ins) (w : World) : Calls Try.prog 16 #[insV i] w fun e w' => ∃ u, e = .returned (.tuple #[.int .u32 u, .bool (wok i)]) ∧ Below w.heap.size w w' := by
  by_cases g0 : cls i.op = 0
  · exact word_cl0 i w g0
  · cases g1 : fit i.a (opk i.op).1
    · exact word_fa0 i w g0 g1
    · cases g2 : fit i.b (opk i.op).2.1
      · exact word_fb0 i w g0 g1 g2
      · cases g3 : fit i.c (opk i.op).2.2
        · exact word_fc0 i w g0 g1 g2 g3
        · by_cases g4 : i.imm = 0
          · exact word_im0 i w g0 g1 g2 g3 g4
          · cases g5 : two i.op
            · exact word_tw0 i w g0 g1 g2 g3 g4 g5
            · exact word_tw1 i w g0 g1 g2 g3 g4 g5

def rwok (i : Ins) : Bool := !(cls i.op == 0) && rreg i.a (usk i.op).1 && rreg i.b (usk i.op).2.1 && (two i.op || (i.imm == 0)) && (if (usk i.op).2.2.2 then decide (0 ≤ i.c) && decide (i.c ≤ 255) else rreg i.c (usk i.op).2.2.1)
def lkX : List Int := [1, 2, 3, 4, 5, 6, 7, 8, 9, 10, 11, 12, 13, 14, 15, 16, 17, 18, 19, 20, 21, 22, 23, 24, 32, 33, 34, 35, 36, 37, 38, 39, 40, 41, 42, 43, 44, 64, 65, 66, 67, 96]
theorem fit0 (n : Int) : fit n 0 = rreg n false := by
  have e : most 0 = 0 := rfl
  unfold fit rreg
  rw [e, Bool.eq_iff_iff]
  simp only [Bool.and_eq_true, Bool.or_eq_true, decide_eq_true_eq, Bool.false_and, Bool.false_eq_true, or_false]
  omega
theorem fit1 (n : Int) : fit n 1 = rreg n true := by
  have e : most 1 = 15 := rfl
  unfold fit rreg
  rw [e, Bool.eq_iff_iff]
  simp only [Bool.and_eq_true, Bool.or_eq_true, decide_eq_true_eq, Bool.true_and]
  omega
theorem fit2 (n : Int) : fit n 2 = (decide (0 ≤ n) && decide (n ≤ 255)) := rfl
theorem imm_two (t z : Bool) : (t || z) = (z || t) := by cases t <;> cases z <;> rfl
theorem wok_one (i : Ins) (k1 k2 k3 : Int) (u1 u2 u3 nu : Bool) (h1 : opk i.op = (k1, k2, k3)) (h2 : usk i.op = (u1, u2, u3, nu)) (e1 : fit i.a k1 = rreg i.a u1) (e2 : fit i.b k2 = rreg i.b u2)
    (e3 : fit i.c k3 = if nu then decide (0 ≤ i.c) && decide (i.c ≤ 255) else rreg i.c u3) : wok i = rwok i := by
  unfold wok rwok
  rw [h1, h2]
  dsimp only
  rw [e1, e2, e3, imm_two (two i.op)]
  generalize (!(cls i.op == 0)) = x1
  generalize rreg i.a u1 = x2
  generalize rreg i.b u2 = x3
  generalize ((i.imm == 0) || two i.op) = x4
  generalize (if nu then decide (0 ≤ i.c) && decide (i.c ≤ 255) else rreg i.c u3) = x5
  cases x1 <;> cases x2 <;> cases x3 <;> cases x4 <;> cases x5 <;> rfl
theorem cls_in {op : Int} (h : cls op ≠ 0) : op ∈ lkX := by
  simp only [lkX, List.mem_cons, List.not_mem_nil, or_false]
  unfold cls at h
  by_cases c1 : 1 ≤ op ∧ op ≤ 24
  · omega
  · rw [if_neg c1] at h
    by_cases c2 : 32 ≤ op ∧ op ≤ 44
    · omega
    · rw [if_neg c2] at h
      by_cases c3 : 64 ≤ op ∧ op ≤ 67
      · omega
      · rw [if_neg c3] at h
        by_cases c4 : op = 96
        · omega
        · rw [if_neg c4] at h
          exact absurd rfl h
set_option maxRecDepth 100000 in
set_option maxHeartbeats 4000000 in
theorem wok_same (i : Ins) : wok i = rwok i := by
  by_cases h0 : cls i.op = 0
  · unfold wok rwok
    rw [h0]
    rfl
  · obtain ⟨op, a, b, c, imm⟩ := i
    have h := cls_in h0
    clear h0
    simp only [lkX, List.mem_cons, List.not_mem_nil, or_false] at h
    rcases h with rfl | rfl | rfl | rfl | rfl | rfl | rfl | rfl | rfl | rfl | rfl | rfl | rfl | rfl | rfl | rfl | rfl | rfl | rfl | rfl | rfl | rfl | rfl | rfl | rfl | rfl | rfl | rfl | rfl | rfl | rfl | rfl | rfl | rfl | rfl | rfl | rfl | rfl | rfl | rfl | rfl | rfl
    all_goals exact wok_one _ _ _ _ _ _ _ _ rfl rfl (by first | exact fit0 _ | exact fit1 _) (by first | exact fit0 _ | exact fit1 _) (by first | exact fit0 _ | exact fit1 _ | exact fit2 _)

set_option maxRecDepth 100000 in
set_option maxHeartbeats 8000000 in
theorem rword_any (i : Ins) (w : World) : Calls Try.prog 18 #[insV i] w fun e w' => ∃ u, e = .returned (.tuple #[.int .u32 u, .bool (wok i)]) ∧ Below w.heap.size w w' := by
  rw [wok_same]
  obtain ⟨op, a, b, c, imm⟩ := i
  have HW : Hid (rwok ⟨op, a, b, c, imm⟩ = (!(cls op == 0) && rreg a (usk op).1 && rreg b (usk op).2.1 && (two op || (imm == 0)) && (if (usk op).2.2.2 then decide (0 ≤ c) && decide (c ≤ 255) else rreg c (usk op).2.2.1))) := Lib.hid rfl
  have HV : Hid (uskV op = .tuple #[.bool (usk op).1, .bool (usk op).2.1, .bool (usk op).2.2.1, .bool (usk op).2.2.2]) := Lib.hid rfl
  obtain ⟨⟨ua, ub, uc, nu⟩, hk⟩ : ∃ x, usk op = x := ⟨_, rfl⟩
  rw [hk] at HW HV
  dsimp only at HW HV
  clear hk
  have HB0 : Hid (∀ o : Obj, Below w.heap.size w (w.alloc o)) := Lib.hid fun o => (Below.refl _ _).alloc (Nat.le_refl _) o
  obtain ⟨cl, hcl⟩ : ∃ x, cls op = x := ⟨_, rfl⟩
  obtain ⟨tw, htw⟩ : ∃ x, two op = x := ⟨_, rfl⟩
  obtain ⟨ra, hra⟩ : ∃ x, rreg a ua = x := ⟨_, rfl⟩
  obtain ⟨rb, hrb⟩ : ∃ x, rreg b ub = x := ⟨_, rfl⟩
  obtain ⟨rc, hrc⟩ : ∃ x, rreg c uc = x := ⟨_, rfl⟩
  rw [hcl, htw, hra, hrb, hrc] at HW
  have HCL := Lib.hid hcl
  have HTW := Lib.hid htw
  have HRA := Lib.hid hra
  have HRB := Lib.hid hrb
  have HRC := Lib.hid hrc
  clear hcl htw hra hrb hrc
  by_cases hc0 : cl = 0
  · have hc1 : (cl == 0) = true := by rw [hc0]; rfl
    have hc2 : (cl != 0) = false := by rw [hc0]; rfl
    rw [hc1] at HW
    clear hc0 hc1
    cases nu
    · have HOK : Hid (rwok ⟨op, a, b, c, imm⟩ = false) := Lib.hid (by rw [HW.out]; rfl)
      clear HW
      go_enter Try.func18, Try.ntmps18
      go_wp2_with (first
        | (go_at_call 38; refine (uses_any _ _).mono ?_; rintro e wq ⟨rfl, rfl⟩; rw [HV.out])
        | (go_at_call 39; refine (rclass_any _ _).mono ?_; rintro e wq ⟨rfl, rfl⟩; rw [HCL.out])
        | (go_at_call 41; refine (rtwo_any _ _).mono ?_; rintro e wq ⟨rfl, rfl⟩; rw [HTW.out])
        | (go_at_call 40; refine (rreg_any _ _ _).mono ?_; rintro e wq ⟨rfl, rfl⟩; first | rw [HRA.out] | rw [HRB.out] | rw [HRC.out]))
      all_goals first
        | (exfalso; rename_i hh; simp at hh; omega)
        | (go_ret2; exact ⟨_, (congrArg (fun x => Ending.returned (.tuple #[_, .bool x])) HOK.out.symm), HB0.out _⟩)
        | (go_ret2; exact ⟨⟨_, (congrArg (fun x => Ending.returned (.tuple #[_, .bool x])) HOK.out.symm)⟩, HB0.out _⟩)
    · have HOK : Hid (rwok ⟨op, a, b, c, imm⟩ = false) := Lib.hid (by rw [HW.out]; rfl)
      clear HW
      go_enter Try.func18, Try.ntmps18
      go_wp2_with (first
        | (go_at_call 38; refine (uses_any _ _).mono ?_; rintro e wq ⟨rfl, rfl⟩; rw [HV.out])
        | (go_at_call 39; refine (rclass_any _ _).mono ?_; rintro e wq ⟨rfl, rfl⟩; rw [HCL.out])
        | (go_at_call 41; refine (rtwo_any _ _).mono ?_; rintro e wq ⟨rfl, rfl⟩; rw [HTW.out])
        | (go_at_call 40; refine (rreg_any _ _ _).mono ?_; rintro e wq ⟨rfl, rfl⟩; first | rw [HRA.out] | rw [HRB.out] | rw [HRC.out]))
      all_goals first
        | (exfalso; rename_i hh; simp at hh; omega)
        | (go_ret2; exact ⟨_, (congrArg (fun x => Ending.returned (.tuple #[_, .bool x])) HOK.out.symm), HB0.out _⟩)
        | (go_ret2; exact ⟨⟨_, (congrArg (fun x => Ending.returned (.tuple #[_, .bool x])) HOK.out.symm)⟩, HB0.out _⟩)
  have hc1 : (cl == 0) = false := by rw [beq_eq_false_iff_ne]; exact hc0
  have hc2 : (cl != 0) = true := by rw [bne_iff_ne]; exact hc0
  rw [hc1] at HW
  clear hc0 hc1
  cases ra
  · cases nu
    · have HOK : Hid (rwok ⟨op, a, b, c, imm⟩ = false) := Lib.hid (by rw [HW.out]; rfl)
      clear HW
      go_enter Try.func18, Try.ntmps18
      go_wp2_with (first
        | (go_at_call 38; refine (uses_any _ _).mono ?_; rintro e wq ⟨rfl, rfl⟩; rw [HV.out])
        | (go_at_call 39; refine (rclass_any _ _).mono ?_; rintro e wq ⟨rfl, rfl⟩; rw [HCL.out])
        | (go_at_call 41; refine (rtwo_any _ _).mono ?_; rintro e wq ⟨rfl, rfl⟩; rw [HTW.out])
        | (go_at_call 40; refine (rreg_any _ _ _).mono ?_; rintro e wq ⟨rfl, rfl⟩; first | rw [HRA.out] | rw [HRB.out] | rw [HRC.out]))
      all_goals first
        | (exfalso; rename_i hh; simp at hh; omega)
        | (go_ret2; exact ⟨_, (congrArg (fun x => Ending.returned (.tuple #[_, .bool x])) HOK.out.symm), HB0.out _⟩)
        | (go_ret2; exact ⟨⟨_, (congrArg (fun x => Ending.returned (.tuple #[_, .bool x])) HOK.out.symm)⟩, HB0.out _⟩)
    · have HOK : Hid (rwok ⟨op, a, b, c, imm⟩ = false) := Lib.hid (by rw [HW.out]; rfl)
      clear HW
      go_enter Try.func18, Try.ntmps18
      go_wp2_with (first
        | (go_at_call 38; refine (uses_any _ _).mono ?_; rintro e wq ⟨rfl, rfl⟩; rw [HV.out])
        | (go_at_call 39; refine (rclass_any _ _).mono ?_; rintro e wq ⟨rfl, rfl⟩; rw [HCL.out])
        | (go_at_call 41; refine (rtwo_any _ _).mono ?_; rintro e wq ⟨rfl, rfl⟩; rw [HTW.out])
        | (go_at_call 40; refine (rreg_any _ _ _).mono ?_; rintro e wq ⟨rfl, rfl⟩; first | rw [HRA.out] | rw [HRB.out] | rw [HRC.out]))
      all_goals first
        | (exfalso; rename_i hh; simp at hh; omega)
        | (go_ret2; exact ⟨_, (congrArg (fun x => Ending.returned (.tuple #[_, .bool x])) HOK.out.symm), HB0.out _⟩)
        | (go_ret2; exact ⟨⟨_, (congrArg (fun x => Ending.returned (.tuple #[_, .bool x])) HOK.out.symm)⟩, HB0.out _⟩)
  cases rb
  · cases nu
    · have HOK : Hid (rwok ⟨op, a, b, c, imm⟩ = false) := Lib.hid (by rw [HW.out]; rfl)
      clear HW
      go_enter Try.func18, Try.ntmps18
      go_wp2_with (first
        | (go_at_call 38; refine (uses_any _ _).mono ?_; rintro e wq ⟨rfl, rfl⟩; rw [HV.out])
        | (go_at_call 39; refine (rclass_any _ _).mono ?_; rintro e wq ⟨rfl, rfl⟩; rw [HCL.out])
        | (go_at_call 41; refine (rtwo_any _ _).mono ?_; rintro e wq ⟨rfl, rfl⟩; rw [HTW.out])
        | (go_at_call 40; refine (rreg_any _ _ _).mono ?_; rintro e wq ⟨rfl, rfl⟩; first | rw [HRA.out] | rw [HRB.out] | rw [HRC.out]))
      all_goals first
        | (exfalso; rename_i hh; simp at hh; omega)
        | (go_ret2; exact ⟨_, (congrArg (fun x => Ending.returned (.tuple #[_, .bool x])) HOK.out.symm), HB0.out _⟩)
        | (go_ret2; exact ⟨⟨_, (congrArg (fun x => Ending.returned (.tuple #[_, .bool x])) HOK.out.symm)⟩, HB0.out _⟩)
    · have HOK : Hid (rwok ⟨op, a, b, c, imm⟩ = false) := Lib.hid (by rw [HW.out]; rfl)
      clear HW
      go_enter Try.func18, Try.ntmps18
      go_wp2_with (first
        | (go_at_call 38; refine (uses_any _ _).mono ?_; rintro e wq ⟨rfl, rfl⟩; rw [HV.out])
        | (go_at_call 39; refine (rclass_any _ _).mono ?_; rintro e wq ⟨rfl, rfl⟩; rw [HCL.out])
        | (go_at_call 41; refine (rtwo_any _ _).mono ?_; rintro e wq ⟨rfl, rfl⟩; rw [HTW.out])
        | (go_at_call 40; refine (rreg_any _ _ _).mono ?_; rintro e wq ⟨rfl, rfl⟩; first | rw [HRA.out] | rw [HRB.out] | rw [HRC.out]))
      all_goals first
        | (exfalso; rename_i hh; simp at hh; omega)
        | (go_ret2; exact ⟨_, (congrArg (fun x => Ending.returned (.tuple #[_, .bool x])) HOK.out.symm), HB0.out _⟩)
        | (go_ret2; exact ⟨⟨_, (congrArg (fun x => Ending.returned (.tuple #[_, .bool x])) HOK.out.symm)⟩, HB0.out _⟩)
  cases tw
  · by_cases hi0 : imm = 0
    · have hi1 : (imm == 0) = true := by rw [hi0]; rfl
      rw [hi1] at HW
      clear hi0
      cases nu
      · cases rc
        · have HOK : Hid (rwok ⟨op, a, b, c, imm⟩ = false) := Lib.hid (by rw [HW.out]; rfl)
          clear HW
          go_enter Try.func18, Try.ntmps18
          go_wp2_with (first
            | (go_at_call 38; refine (uses_any _ _).mono ?_; rintro e wq ⟨rfl, rfl⟩; rw [HV.out])
            | (go_at_call 39; refine (rclass_any _ _).mono ?_; rintro e wq ⟨rfl, rfl⟩; rw [HCL.out])
            | (go_at_call 41; refine (rtwo_any _ _).mono ?_; rintro e wq ⟨rfl, rfl⟩; rw [HTW.out])
            | (go_at_call 40; refine (rreg_any _ _ _).mono ?_; rintro e wq ⟨rfl, rfl⟩; first | rw [HRA.out] | rw [HRB.out] | rw [HRC.out]))
          all_goals first
            | (exfalso; rename_i hh; simp at hh; omega)
            | (go_ret2; exact ⟨_, (congrArg (fun x => Ending.returned (.tuple #[_, .bool x])) HOK.out.symm), HB0.out _⟩)
            | (go_ret2; exact ⟨⟨_, (congrArg (fun x => Ending.returned (.tuple #[_, .bool x])) HOK.out.symm)⟩, HB0.out _⟩)
        · have HOK : Hid (rwok ⟨op, a, b, c, imm⟩ = true) := Lib.hid (by rw [HW.out]; rfl)
          clear HW
          go_enter Try.func18, Try.ntmps18
          go_wp2_with (first
            | (go_at_call 38; refine (uses_any _ _).mono ?_; rintro e wq ⟨rfl, rfl⟩; rw [HV.out])
            | (go_at_call 39; refine (rclass_any _ _).mono ?_; rintro e wq ⟨rfl, rfl⟩; rw [HCL.out])
            | (go_at_call 41; refine (rtwo_any _ _).mono ?_; rintro e wq ⟨rfl, rfl⟩; rw [HTW.out])
            | (go_at_call 40; refine (rreg_any _ _ _).mono ?_; rintro e wq ⟨rfl, rfl⟩; first | rw [HRA.out] | rw [HRB.out] | rw [HRC.out]))
          all_goals first
            | (exfalso; rename_i hh; simp at hh; omega)
            | (go_ret2; exact ⟨_, (congrArg (fun x => Ending.returned (.tuple #[_, .bool x])) HOK.out.symm), HB0.out _⟩)
            | (go_ret2; exact ⟨⟨_, (congrArg (fun x => Ending.returned (.tuple #[_, .bool x])) HOK.out.symm)⟩, HB0.out _⟩)
      · by_cases h0 : (0 : Int) ≤ c
        · by_cases h255 : c ≤ 255
          · have HOK : Hid (rwok ⟨op, a, b, c, imm⟩ = true) := Lib.hid (by rw [HW.out, decide_eq_true h0, decide_eq_true h255]; rfl)
            clear HW
            go_enter Try.func18, Try.ntmps18
            go_wp2_with (first
              | (go_at_call 38; refine (uses_any _ _).mono ?_; rintro e wq ⟨rfl, rfl⟩; rw [HV.out])
              | (go_at_call 39; refine (rclass_any _ _).mono ?_; rintro e wq ⟨rfl, rfl⟩; rw [HCL.out])
              | (go_at_call 41; refine (rtwo_any _ _).mono ?_; rintro e wq ⟨rfl, rfl⟩; rw [HTW.out])
              | (go_at_call 40; refine (rreg_any _ _ _).mono ?_; rintro e wq ⟨rfl, rfl⟩; first | rw [HRA.out] | rw [HRB.out] | rw [HRC.out]))
            all_goals first
              | (exfalso; rename_i hh; simp at hh; omega)
              | (go_ret2; exact ⟨_, (congrArg (fun x => Ending.returned (.tuple #[_, .bool x])) HOK.out.symm), HB0.out _⟩)
              | (go_ret2; exact ⟨⟨_, (congrArg (fun x => Ending.returned (.tuple #[_, .bool x])) HOK.out.symm)⟩, HB0.out _⟩)
          · have HOK : Hid (rwok ⟨op, a, b, c, imm⟩ = false) := Lib.hid (by rw [HW.out, decide_eq_true h0, decide_eq_false h255]; rfl)
            clear HW
            go_enter Try.func18, Try.ntmps18
            go_wp2_with (first
              | (go_at_call 38; refine (uses_any _ _).mono ?_; rintro e wq ⟨rfl, rfl⟩; rw [HV.out])
              | (go_at_call 39; refine (rclass_any _ _).mono ?_; rintro e wq ⟨rfl, rfl⟩; rw [HCL.out])
              | (go_at_call 41; refine (rtwo_any _ _).mono ?_; rintro e wq ⟨rfl, rfl⟩; rw [HTW.out])
              | (go_at_call 40; refine (rreg_any _ _ _).mono ?_; rintro e wq ⟨rfl, rfl⟩; first | rw [HRA.out] | rw [HRB.out] | rw [HRC.out]))
            all_goals first
              | (exfalso; rename_i hh; simp at hh; omega)
              | (go_ret2; exact ⟨_, (congrArg (fun x => Ending.returned (.tuple #[_, .bool x])) HOK.out.symm), HB0.out _⟩)
              | (go_ret2; exact ⟨⟨_, (congrArg (fun x => Ending.returned (.tuple #[_, .bool x])) HOK.out.symm)⟩, HB0.out _⟩)
        · have HOK : Hid (rwok ⟨op, a, b, c, imm⟩ = false) := Lib.hid (by rw [HW.out, decide_eq_false h0]; rfl)
          clear HW
          go_enter Try.func18, Try.ntmps18
          go_wp2_with (first
            | (go_at_call 38; refine (uses_any _ _).mono ?_; rintro e wq ⟨rfl, rfl⟩; rw [HV.out])
            | (go_at_call 39; refine (rclass_any _ _).mono ?_; rintro e wq ⟨rfl, rfl⟩; rw [HCL.out])
            | (go_at_call 41; refine (rtwo_any _ _).mono ?_; rintro e wq ⟨rfl, rfl⟩; rw [HTW.out])
            | (go_at_call 40; refine (rreg_any _ _ _).mono ?_; rintro e wq ⟨rfl, rfl⟩; first | rw [HRA.out] | rw [HRB.out] | rw [HRC.out]))
          all_goals first
            | (exfalso; rename_i hh; simp at hh; omega)
            | (go_ret2; exact ⟨_, (congrArg (fun x => Ending.returned (.tuple #[_, .bool x])) HOK.out.symm), HB0.out _⟩)
            | (go_ret2; exact ⟨⟨_, (congrArg (fun x => Ending.returned (.tuple #[_, .bool x])) HOK.out.symm)⟩, HB0.out _⟩)
    · have hi1 : (imm == 0) = false := by rw [beq_eq_false_iff_ne]; exact hi0
      rw [hi1] at HW
      clear hi0
      cases nu
      · have HOK : Hid (rwok ⟨op, a, b, c, imm⟩ = false) := Lib.hid (by rw [HW.out]; rfl)
        clear HW
        go_enter Try.func18, Try.ntmps18
        go_wp2_with (first
          | (go_at_call 38; refine (uses_any _ _).mono ?_; rintro e wq ⟨rfl, rfl⟩; rw [HV.out])
          | (go_at_call 39; refine (rclass_any _ _).mono ?_; rintro e wq ⟨rfl, rfl⟩; rw [HCL.out])
          | (go_at_call 41; refine (rtwo_any _ _).mono ?_; rintro e wq ⟨rfl, rfl⟩; rw [HTW.out])
          | (go_at_call 40; refine (rreg_any _ _ _).mono ?_; rintro e wq ⟨rfl, rfl⟩; first | rw [HRA.out] | rw [HRB.out] | rw [HRC.out]))
        all_goals first
          | (exfalso; rename_i hh; simp at hh; omega)
          | (go_ret2; exact ⟨_, (congrArg (fun x => Ending.returned (.tuple #[_, .bool x])) HOK.out.symm), HB0.out _⟩)
          | (go_ret2; exact ⟨⟨_, (congrArg (fun x => Ending.returned (.tuple #[_, .bool x])) HOK.out.symm)⟩, HB0.out _⟩)
      · have HOK : Hid (rwok ⟨op, a, b, c, imm⟩ = false) := Lib.hid (by rw [HW.out]; rfl)
        clear HW
        go_enter Try.func18, Try.ntmps18
        go_wp2_with (first
          | (go_at_call 38; refine (uses_any _ _).mono ?_; rintro e wq ⟨rfl, rfl⟩; rw [HV.out])
          | (go_at_call 39; refine (rclass_any _ _).mono ?_; rintro e wq ⟨rfl, rfl⟩; rw [HCL.out])
          | (go_at_call 41; refine (rtwo_any _ _).mono ?_; rintro e wq ⟨rfl, rfl⟩; rw [HTW.out])
          | (go_at_call 40; refine (rreg_any _ _ _).mono ?_; rintro e wq ⟨rfl, rfl⟩; first | rw [HRA.out] | rw [HRB.out] | rw [HRC.out]))
        all_goals first
          | (exfalso; rename_i hh; simp at hh; omega)
          | (go_ret2; exact ⟨_, (congrArg (fun x => Ending.returned (.tuple #[_, .bool x])) HOK.out.symm), HB0.out _⟩)
          | (go_ret2; exact ⟨⟨_, (congrArg (fun x => Ending.returned (.tuple #[_, .bool x])) HOK.out.symm)⟩, HB0.out _⟩)
  · have HW : Hid (rwok ⟨op, a, b, c, imm⟩ = (if nu = true then decide (0 ≤ c) && decide (c ≤ 255) else rc)) := Lib.hid (by rw [HW.out]; cases (imm == 0) <;> cases (if nu = true then decide (0 ≤ c) && decide (c ≤ 255) else rc) <;> rfl)
    cases nu
    · cases rc
      · have HOK : Hid (rwok ⟨op, a, b, c, imm⟩ = false) := Lib.hid (by rw [HW.out]; rfl)
        clear HW
        go_enter Try.func18, Try.ntmps18
        go_wp2_with (first
          | (go_at_call 38; refine (uses_any _ _).mono ?_; rintro e wq ⟨rfl, rfl⟩; rw [HV.out])
          | (go_at_call 39; refine (rclass_any _ _).mono ?_; rintro e wq ⟨rfl, rfl⟩; rw [HCL.out])
          | (go_at_call 41; refine (rtwo_any _ _).mono ?_; rintro e wq ⟨rfl, rfl⟩; rw [HTW.out])
          | (go_at_call 40; refine (rreg_any _ _ _).mono ?_; rintro e wq ⟨rfl, rfl⟩; first | rw [HRA.out] | rw [HRB.out] | rw [HRC.out]))
        all_goals first
          | (exfalso; rename_i hh; simp at hh; omega)
          | (go_ret2; exact ⟨_, (congrArg (fun x => Ending.returned (.tuple #[_, .bool x])) HOK.out.symm), HB0.out _⟩)
          | (go_ret2; exact ⟨⟨_, (congrArg (fun x => Ending.returned (.tuple #[_, .bool x])) HOK.out.symm)⟩, HB0.out _⟩)
      · have HOK : Hid (rwok ⟨op, a, b, c, imm⟩ = true) := Lib.hid (by rw [HW.out]; rfl)
        clear HW
        go_enter Try.func18, Try.ntmps18
        go_wp2_with (first
          | (go_at_call 38; refine (uses_any _ _).mono ?_; rintro e wq ⟨rfl, rfl⟩; rw [HV.out])
          | (go_at_call 39; refine (rclass_any _ _).mono ?_; rintro e wq ⟨rfl, rfl⟩; rw [HCL.out])
          | (go_at_call 41; refine (rtwo_any _ _).mono ?_; rintro e wq ⟨rfl, rfl⟩; rw [HTW.out])
          | (go_at_call 40; refine (rreg_any _ _ _).mono ?_; rintro e wq ⟨rfl, rfl⟩; first | rw [HRA.out] | rw [HRB.out] | rw [HRC.out]))
        all_goals first
          | (exfalso; rename_i hh; simp at hh; omega)
          | (go_ret2; exact ⟨_, (congrArg (fun x => Ending.returned (.tuple #[_, .bool x])) HOK.out.symm), HB0.out _⟩)
          | (go_ret2; exact ⟨⟨_, (congrArg (fun x => Ending.returned (.tuple #[_, .bool x])) HOK.out.symm)⟩, HB0.out _⟩)
    · by_cases h0 : (0 : Int) ≤ c
      · by_cases h255 : c ≤ 255
        · have HOK : Hid (rwok ⟨op, a, b, c, imm⟩ = true) := Lib.hid (by rw [HW.out, decide_eq_true h0, decide_eq_true h255]; rfl)
          clear HW
          go_enter Try.func18, Try.ntmps18
          go_wp2_with (first
            | (go_at_call 38; refine (uses_any _ _).mono ?_; rintro e wq ⟨rfl, rfl⟩; rw [HV.out])
            | (go_at_call 39; refine (rclass_any _ _).mono ?_; rintro e wq ⟨rfl, rfl⟩; rw [HCL.out])
            | (go_at_call 41; refine (rtwo_any _ _).mono ?_; rintro e wq ⟨rfl, rfl⟩; rw [HTW.out])
            | (go_at_call 40; refine (rreg_any _ _ _).mono ?_; rintro e wq ⟨rfl, rfl⟩; first | rw [HRA.out] | rw [HRB.out] | rw [HRC.out]))
          all_goals first
            | (exfalso; rename_i hh; simp at hh; omega)
            | (go_ret2; exact ⟨_, (congrArg (fun x => Ending.returned (.tuple #[_, .bool x])) HOK.out.symm), HB0.out _⟩)
            | (go_ret2; exact ⟨⟨_, (congrArg (fun x => Ending.returned (.tuple #[_, .bool x])) HOK.out.symm)⟩, HB0.out _⟩)
        · have HOK : Hid (rwok ⟨op, a, b, c, imm⟩ = false) := Lib.hid (by rw [HW.out, decide_eq_true h0, decide_eq_false h255]; rfl)
          clear HW
          go_enter Try.func18, Try.ntmps18
          go_wp2_with (first
            | (go_at_call 38; refine (uses_any _ _).mono ?_; rintro e wq ⟨rfl, rfl⟩; rw [HV.out])
            | (go_at_call 39; refine (rclass_any _ _).mono ?_; rintro e wq ⟨rfl, rfl⟩; rw [HCL.out])
            | (go_at_call 41; refine (rtwo_any _ _).mono ?_; rintro e wq ⟨rfl, rfl⟩; rw [HTW.out])
            | (go_at_call 40; refine (rreg_any _ _ _).mono ?_; rintro e wq ⟨rfl, rfl⟩; first | rw [HRA.out] | rw [HRB.out] | rw [HRC.out]))
          all_goals first
            | (exfalso; rename_i hh; simp at hh; omega)
            | (go_ret2; exact ⟨_, (congrArg (fun x => Ending.returned (.tuple #[_, .bool x])) HOK.out.symm), HB0.out _⟩)
            | (go_ret2; exact ⟨⟨_, (congrArg (fun x => Ending.returned (.tuple #[_, .bool x])) HOK.out.symm)⟩, HB0.out _⟩)
      · have HOK : Hid (rwok ⟨op, a, b, c, imm⟩ = false) := Lib.hid (by rw [HW.out, decide_eq_false h0]; rfl)
        clear HW
        go_enter Try.func18, Try.ntmps18
        go_wp2_with (first
          | (go_at_call 38; refine (uses_any _ _).mono ?_; rintro e wq ⟨rfl, rfl⟩; rw [HV.out])
          | (go_at_call 39; refine (rclass_any _ _).mono ?_; rintro e wq ⟨rfl, rfl⟩; rw [HCL.out])
          | (go_at_call 41; refine (rtwo_any _ _).mono ?_; rintro e wq ⟨rfl, rfl⟩; rw [HTW.out])
          | (go_at_call 40; refine (rreg_any _ _ _).mono ?_; rintro e wq ⟨rfl, rfl⟩; first | rw [HRA.out] | rw [HRB.out] | rw [HRC.out]))
        all_goals first
          | (exfalso; rename_i hh; simp at hh; omega)
          | (go_ret2; exact ⟨_, (congrArg (fun x => Ending.returned (.tuple #[_, .bool x])) HOK.out.symm), HB0.out _⟩)
          | (go_ret2; exact ⟨⟨_, (congrArg (fun x => Ending.returned (.tuple #[_, .bool x])) HOK.out.symm)⟩, HB0.out _⟩)
end Go.Proofs.Ytikioeddilgbpaa
