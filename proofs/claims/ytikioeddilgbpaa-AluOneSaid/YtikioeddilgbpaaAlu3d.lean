/-
  Chapter 1: what an instruction's word is, or that it has none.
-/
import Derived.Test.YtikioeddilgbpaaAlu3a
import Derived.Test.YtikioeddilgbpaaHeld
namespace Go.Proofs.Ytikioeddilgbpaa
open Go.RowKit

set_option maxRecDepth 100000 in
set_option maxHeartbeats 40000000 in
theorem word_tw1 (i : Ins) (w : World) (g0 : cls i.op ≠ 0) (g1 : fit i.a (opk i.op).1 = true) (g2 : fit i.b (opk i.op).2.1 = true) (g3 : fit i.c (opk i.op).2.2 = true) (g4 : i.imm ≠ 0) (g5 : two i.op = true) : Calls Try.prog 16 #[insV i] w fun e w' => ∃ u, e = .returned (.tuple #[.int .u32 u, .bool (wok i)]) ∧ Below w.heap.size w w' := by
  obtain ⟨op, a, b, c, imm⟩ := i
  dsimp only at *
  obtain ⟨k1, k2, k3⟩ := opk_kind op
  have HW : Hid (wok ⟨op, a, b, c, imm⟩ = (!(cls op == 0) && fit a (opk op).1 && fit b (opk op).2.1 && fit c (opk op).2.2 && ((imm == 0) || two op))) := Lib.hid rfl
  have HV : Hid (opkV op = .tuple #[.int .i64 (opk op).1, .int .i64 (opk op).2.1, .int .i64 (opk op).2.2]) := Lib.hid rfl
  obtain ⟨⟨ka, kb, kc⟩, hk⟩ : ∃ x, opk op = x := ⟨_, rfl⟩
  rw [hk] at k1 k2 k3 HW HV g1 g2 g3
  dsimp only at k1 k2 k3 HW HV g1 g2 g3
  have K1 := Lib.hid k1
  have K2 := Lib.hid k2
  have K3 := Lib.hid k3
  clear hk k1 k2 k3
  obtain ⟨cl, hcl⟩ : ∃ x, cls op = x := ⟨_, rfl⟩
  obtain ⟨tw, htw⟩ : ∃ x, two op = x := ⟨_, rfl⟩
  obtain ⟨fa, hfa⟩ : ∃ x, fit a ka = x := ⟨_, rfl⟩
  obtain ⟨fb, hfb⟩ : ∃ x, fit b kb = x := ⟨_, rfl⟩
  obtain ⟨fc, hfc⟩ : ∃ x, fit c kc = x := ⟨_, rfl⟩
  rw [hcl, htw, hfa, hfb, hfc] at HW
  have HB0 : Hid (Below w.heap.size w (w.alloc (.cells #[.int .i64 op, .int .i64 a, .int .i64 b, .int .i64 c, .int .u32 imm] 29))) := Lib.hid ((Below.refl _ _).alloc (Nat.le_refl _) _)
  have HBT : Hid (∀ wx, Below (w.alloc (.cells #[.int .i64 op, .int .i64 a, .int .i64 b, .int .i64 c, .int .u32 imm] 29)).heap.size (w.alloc (.cells #[.int .i64 op, .int .i64 a, .int .i64 b, .int .i64 c, .int .u32 imm] 29)) wx → Below w.heap.size w wx) := Lib.hid fun wx h => HB0.out.trans (h.mono (by simp))
  have HK : Hid (∀ wx, Below (w.alloc (.cells #[.int .i64 op, .int .i64 a, .int .i64 b, .int .i64 c, .int .u32 imm] 29)).heap.size (w.alloc (.cells #[.int .i64 op, .int .i64 a, .int .i64 b, .int .i64 c, .int .u32 imm] 29)) wx → Below (w.alloc (.cells #[.int .i64 op, .int .i64 a, .int .i64 b, .int .i64 c, .int .u32 imm] 29)).heap.size (w.alloc (.cells #[.int .i64 op, .int .i64 a, .int .i64 b, .int .i64 c, .int .u32 imm] 29)) wx ∧ wx.cell? ⟨w.heap.size, 0, none⟩ = some (.int .i64 op) ∧ wx.cell? ⟨w.heap.size, 1, none⟩ = some (.int .i64 a) ∧ wx.cell? ⟨w.heap.size, 2, none⟩ = some (.int .i64 b) ∧ wx.cell? ⟨w.heap.size, 3, none⟩ = some (.int .i64 c) ∧ wx.cell? ⟨w.heap.size, 4, none⟩ = some (.int .u32 imm)) := Lib.hid fun wx h => by
    have hb : wx.heap[w.heap.size]? = some (.cells #[.int .i64 op, .int .i64 a, .int .i64 b, .int .i64 c, .int .u32 imm] 29 (0, 0)) := by
      rw [h.block _ (by simp)]
      exact blk_new w _
    exact ⟨h, blk_cell hb 0, blk_cell hb 1, blk_cell hb 2, blk_cell hb 3, blk_cell hb 4⟩
  have HTB : Hid (∀ wx, Below (w.alloc (.cells #[.int .i64 op, .int .i64 a, .int .i64 b, .int .i64 c, .int .u32 imm] 29)).heap.size (w.alloc (.cells #[.int .i64 op, .int .i64 a, .int .i64 b, .int .i64 c, .int .u32 imm] 29)) wx → Calls Try.prog 20 #[] wx fun e w' => e = .returned (.agg #[]) ∧ Below (w.alloc (.cells #[.int .i64 op, .int .i64 a, .int .i64 b, .int .i64 c, .int .u32 imm] 29)).heap.size (w.alloc (.cells #[.int .i64 op, .int .i64 a, .int .i64 b, .int .i64 c, .int .u32 imm] 29)) w') := Lib.hid fun wx h => (tables_any wx).mono fun e w' ⟨he, hb⟩ => ⟨he, h.trans (hb.mono h.size)⟩
  have HCL : Hid (∀ wx, Below (w.alloc (.cells #[.int .i64 op, .int .i64 a, .int .i64 b, .int .i64 c, .int .u32 imm] 29)).heap.size (w.alloc (.cells #[.int .i64 op, .int .i64 a, .int .i64 b, .int .i64 c, .int .u32 imm] 29)) wx → Calls Try.prog 25 #[.agg #[], .int .i64 op] wx fun e w' => e = .returned (.int .i64 cl) ∧ Below (w.alloc (.cells #[.int .i64 op, .int .i64 a, .int .i64 b, .int .i64 c, .int .u32 imm] 29)).heap.size (w.alloc (.cells #[.int .i64 op, .int .i64 a, .int .i64 b, .int .i64 c, .int .u32 imm] 29)) w') := Lib.hid fun wx h => (class_any op wx).mono fun e w' ⟨he, hb⟩ => ⟨by rw [← hcl]; exact he, h.trans (hb.mono h.size)⟩
  have HTW : Hid (∀ wx, Below (w.alloc (.cells #[.int .i64 op, .int .i64 a, .int .i64 b, .int .i64 c, .int .u32 imm] 29)).heap.size (w.alloc (.cells #[.int .i64 op, .int .i64 a, .int .i64 b, .int .i64 c, .int .u32 imm] 29)) wx → Calls Try.prog 24 #[.agg #[], .int .i64 op] wx fun e w' => e = .returned (.bool tw) ∧ Below (w.alloc (.cells #[.int .i64 op, .int .i64 a, .int .i64 b, .int .i64 c, .int .u32 imm] 29)).heap.size (w.alloc (.cells #[.int .i64 op, .int .i64 a, .int .i64 b, .int .i64 c, .int .u32 imm] 29)) w') := Lib.hid fun wx h => (two_any op wx).mono fun e w' ⟨he, hb⟩ => ⟨by rw [← htw]; exact he, h.trans (hb.mono h.size)⟩
  have HFI : Hid (∀ wx n k, (k = 0 ∨ k = 1 ∨ k = 2) → Below (w.alloc (.cells #[.int .i64 op, .int .i64 a, .int .i64 b, .int .i64 c, .int .u32 imm] 29)).heap.size (w.alloc (.cells #[.int .i64 op, .int .i64 a, .int .i64 b, .int .i64 c, .int .u32 imm] 29)) wx → Calls Try.prog 26 #[.int .i64 n, .int .i64 k] wx fun e w' => e = .returned (.bool (fit n k)) ∧ Below (w.alloc (.cells #[.int .i64 op, .int .i64 a, .int .i64 b, .int .i64 c, .int .u32 imm] 29)).heap.size (w.alloc (.cells #[.int .i64 op, .int .i64 a, .int .i64 b, .int .i64 c, .int .u32 imm] 29)) w') := Lib.hid fun wx n k hk h => (fits_any n k hk wx).mono fun e w' ⟨he, hb⟩ => ⟨he, h.trans (hb.mono h.size)⟩
  rw [hcl] at g0
  have hc1 : (cl == 0) = false := by rw [beq_eq_false_iff_ne]; exact g0
  rw [hc1] at HW
  obtain rfl := g1.symm.trans hfa
  obtain rfl := g2.symm.trans hfb
  obtain rfl := g3.symm.trans hfc
  have hi1 : (imm == 0) = false := by rw [beq_eq_false_iff_ne]; exact g4
  rw [hi1] at HW
  have hi2 : (imm != 0) = true := by rw [bne_iff_ne]; exact g4
  clear g4 hi1
  obtain rfl := g5.symm.trans htw
  have HFA := Lib.hid hfa
  have HFB := Lib.hid hfb
  have HFC := Lib.hid hfc
  have hbd : Below (w.alloc (.cells #[.int .i64 op, .int .i64 a, .int .i64 b, .int .i64 c, .int .u32 imm] 29)).heap.size (w.alloc (.cells #[.int .i64 op, .int .i64 a, .int .i64 b, .int .i64 c, .int .u32 imm] 29)) (w.alloc (.cells #[.int .i64 op, .int .i64 a, .int .i64 b, .int .i64 c, .int .u32 imm] 29)).drew := (Below.refl _ _).drew
  have HOK : Hid (wok ⟨op, a, b, c, imm⟩ = true) := Lib.hid (by rw [HW.out]; rfl)
  clear HW
  go_enter Try.func16, Try.ntmps16
  go_wp2_with fail
  refine (operands_any op _).mono ?_
  rintro e w1 ⟨rfl, rfl⟩
  rw [HV.out]
  go_wp2_with fail
  refine wp_region_noPanic ?_
  refine wp_region_held_drew (S := (fun wx => Below (w.alloc (.cells #[.int .i64 op, .int .i64 a, .int .i64 b, .int .i64 c, .int .u32 imm] 29)).heap.size (w.alloc (.cells #[.int .i64 op, .int .i64 a, .int .i64 b, .int .i64 c, .int .u32 imm] 29)) wx ∧ wx.cell? ⟨w.heap.size, 0, none⟩ = some (.int .i64 op) ∧ wx.cell? ⟨w.heap.size, 1, none⟩ = some (.int .i64 a) ∧ wx.cell? ⟨w.heap.size, 2, none⟩ = some (.int .i64 b) ∧ wx.cell? ⟨w.heap.size, 3, none⟩ = some (.int .i64 c) ∧ wx.cell? ⟨w.heap.size, 4, none⟩ = some (.int .u32 imm))) (by kernel_rfl) ?_ (fun hHeld => ?_)
  · exact HK.out _ (by assumption)
  refine heldTake 1 (v := ?_) (by kernel_rfl) (by kernel_rfl) (by kernel_rfl) (by kernel_rfl) (fun _ _ _ _ _ h => h) (by assumption) (fun oi ho => by (simp only [List.getElem?_toArray, List.getElem?_cons_zero, List.getElem?_cons_succ, Option.some.injEq] at ho; subst ho); rfl) (fun oi ho => ?_) (fun oi ho => ?_)
  rotate_left
  · ((simp only [List.getElem?_toArray, List.getElem?_cons_zero, List.getElem?_cons_succ, Option.some.injEq] at ho; subst ho); intro wx hSx; (try dsimp only at hSx); go_simp; all_goals (with_reducible rfl))
  (simp only [List.getElem?_toArray, List.getElem?_cons_zero, List.getElem?_cons_succ, Option.some.injEq] at ho; subst ho)
  try simp only [Act.put, List.setIfInBounds_toArray, List.set_cons_zero, List.set_cons_succ]
  refine heldTake 2 (v := ?_) (by kernel_rfl) (by kernel_rfl) (by kernel_rfl) (by kernel_rfl) (fun _ _ _ _ _ h => h) (by assumption) (fun oi ho => by (simp only [List.getElem?_toArray, List.getElem?_cons_zero, List.getElem?_cons_succ, Option.some.injEq] at ho; subst ho); rfl) (fun oi ho => ?_) (fun oi ho => ?_)
  rotate_left
  · ((simp only [List.getElem?_toArray, List.getElem?_cons_zero, List.getElem?_cons_succ, Option.some.injEq] at ho; subst ho); intro wx hSx; (try dsimp only at hSx); go_simp; all_goals (with_reducible rfl))
  (simp only [List.getElem?_toArray, List.getElem?_cons_zero, List.getElem?_cons_succ, Option.some.injEq] at ho; subst ho)
  try simp only [Act.put, List.setIfInBounds_toArray, List.set_cons_zero, List.set_cons_succ]
  refine wpAnyH_ready (rs := [0]) (by kernel_rfl) (by simp) ?_
  refine heldOne (by kernel_rfl) (fun oi ho K hK => ?_) AllReadyH.nil
  (simp only [List.getElem?_toArray, List.getElem?_cons_zero, List.getElem?_cons_succ, Option.some.injEq] at ho; subst ho)
  go_simp
  refine (HTB.out _ (by assumption)).mono ?_; rintro e wt ⟨rfl, hbT⟩
  first | (refine hK.out _ _ ?_ (fun hHeld => ?_)) | (go_wp2_with fail; refine hK.out _ _ ?_ (fun hHeld => ?_))
  · first | (exact HK.out _ (by assumption)) | ((try dsimp only); exact HK.out _ (by assumption))
  clear hK K
  try simp only [Act.put, List.setIfInBounds_toArray, List.set_cons_zero, List.set_cons_succ]
  refine wpAnyH_ready (rs := [3]) (by kernel_rfl) (by simp) ?_
  refine heldOne (by kernel_rfl) (fun oi ho K hK => ?_) AllReadyH.nil
  (simp only [List.getElem?_toArray, List.getElem?_cons_zero, List.getElem?_cons_succ, Option.some.injEq] at ho; subst ho)
  go_simp
  refine (HCL.out _ (by assumption)).mono ?_; rintro e wc ⟨rfl, hbC⟩
  first | (refine hK.out _ _ ?_ (fun hHeld => ?_)) | (go_wp2_with fail; refine hK.out _ _ ?_ (fun hHeld => ?_))
  · first | (exact HK.out _ (by assumption)) | ((try dsimp only); exact HK.out _ (by assumption))
  clear hK K
  try simp only [Act.put, List.setIfInBounds_toArray, List.set_cons_zero, List.set_cons_succ]
  refine heldTake 4 (v := ?_) (by kernel_rfl) (by kernel_rfl) (by kernel_rfl) (by kernel_rfl) (fun _ _ _ _ _ h => h) (by assumption) (fun oi ho => by (simp only [List.getElem?_toArray, List.getElem?_cons_zero, List.getElem?_cons_succ, Option.some.injEq] at ho; subst ho); rfl) (fun oi ho => ?_) (fun oi ho => ?_)
  rotate_left
  · ((simp only [List.getElem?_toArray, List.getElem?_cons_zero, List.getElem?_cons_succ, Option.some.injEq] at ho; subst ho); intro wx hSx; (try dsimp only at hSx); go_simp; all_goals (with_reducible rfl))
  (simp only [List.getElem?_toArray, List.getElem?_cons_zero, List.getElem?_cons_succ, Option.some.injEq] at ho; subst ho)
  try simp only [Act.put, List.setIfInBounds_toArray, List.set_cons_zero, List.set_cons_succ]
  refine heldTake 5 (v := ?_) (by kernel_rfl) (by kernel_rfl) (by kernel_rfl) (by kernel_rfl) (fun _ _ _ _ _ h => h) (by assumption) (fun oi ho => by (simp only [List.getElem?_toArray, List.getElem?_cons_zero, List.getElem?_cons_succ, Option.some.injEq] at ho; subst ho); rfl) (fun oi ho => ?_) (fun oi ho => ?_)
  rotate_left
  · ((simp only [List.getElem?_toArray, List.getElem?_cons_zero, List.getElem?_cons_succ, Option.some.injEq] at ho; subst ho); intro wx hSx; (try dsimp only at hSx); go_simp; all_goals (with_reducible rfl))
  (simp only [List.getElem?_toArray, List.getElem?_cons_zero, List.getElem?_cons_succ, Option.some.injEq] at ho; subst ho)
  try simp only [Act.put, List.setIfInBounds_toArray, List.set_cons_zero, List.set_cons_succ]
  refine heldTake 6 (v := ?_) (by kernel_rfl) (by kernel_rfl) (by kernel_rfl) (by kernel_rfl) (fun _ _ _ _ _ h => h) (by assumption) (fun oi ho => by (simp only [List.getElem?_toArray, List.getElem?_cons_zero, List.getElem?_cons_succ, Option.some.injEq] at ho; subst ho); rfl) (fun oi ho => ?_) (fun oi ho => ?_)
  rotate_left
  · ((simp only [List.getElem?_toArray, List.getElem?_cons_zero, List.getElem?_cons_succ, Option.some.injEq] at ho; subst ho); intro wx hSx; (try dsimp only at hSx); go_simp; all_goals (with_reducible rfl))
  (simp only [List.getElem?_toArray, List.getElem?_cons_zero, List.getElem?_cons_succ, Option.some.injEq] at ho; subst ho)
  try simp only [Act.put, List.setIfInBounds_toArray, List.set_cons_zero, List.set_cons_succ]
  refine heldTake 7 (v := ?_) (by kernel_rfl) (by kernel_rfl) (by kernel_rfl) (by kernel_rfl) (fun _ _ _ _ _ h => h) (by assumption) (fun oi ho => by (simp only [List.getElem?_toArray, List.getElem?_cons_zero, List.getElem?_cons_succ, Option.some.injEq] at ho; subst ho); rfl) (fun oi ho => ?_) (fun oi ho => ?_)
  rotate_left
  · ((simp only [List.getElem?_toArray, List.getElem?_cons_zero, List.getElem?_cons_succ, Option.some.injEq] at ho; subst ho); intro wx hSx; (try dsimp only at hSx); go_simp; all_goals (with_reducible rfl))
  (simp only [List.getElem?_toArray, List.getElem?_cons_zero, List.getElem?_cons_succ, Option.some.injEq] at ho; subst ho)
  try simp only [Act.put, List.setIfInBounds_toArray, List.set_cons_zero, List.set_cons_succ]
  refine heldTake 8 (v := ?_) (by kernel_rfl) (by kernel_rfl) (by kernel_rfl) (by kernel_rfl) (fun _ _ _ _ _ h => h) (by assumption) (fun oi ho => by (simp only [List.getElem?_toArray, List.getElem?_cons_zero, List.getElem?_cons_succ, Option.some.injEq] at ho; subst ho); rfl) (fun oi ho => ?_) (fun oi ho => ?_)
  rotate_left
  · ((simp only [List.getElem?_toArray, List.getElem?_cons_zero, List.getElem?_cons_succ, Option.some.injEq] at ho; subst ho); intro wx hSx; (try dsimp only at hSx); go_simp; all_goals (with_reducible rfl))
  (simp only [List.getElem?_toArray, List.getElem?_cons_zero, List.getElem?_cons_succ, Option.some.injEq] at ho; subst ho)
  try simp only [Act.put, List.setIfInBounds_toArray, List.set_cons_zero, List.set_cons_succ]
  refine wpAnyH_ready (rs := [9]) (by kernel_rfl) (by simp) ?_
  refine heldOne (by kernel_rfl) (fun oi ho K hK => ?_) AllReadyH.nil
  (simp only [List.getElem?_toArray, List.getElem?_cons_zero, List.getElem?_cons_succ, Option.some.injEq] at ho; subst ho)
  go_simp
  refine (HFI.out _ _ _ K1.out (by assumption)).mono ?_; rintro e wf ⟨rfl, hbF⟩; rw [HFA.out]
  first | (refine hK.out _ _ ?_ (fun hHeld => ?_)) | (go_wp2_with fail; refine hK.out _ _ ?_ (fun hHeld => ?_))
  · first | (exact HK.out _ (by assumption)) | ((try dsimp only); exact HK.out _ (by assumption))
  clear hK K
  try simp only [Act.put, List.setIfInBounds_toArray, List.set_cons_zero, List.set_cons_succ]
  refine heldTake 10 (v := ?_) (by kernel_rfl) (by kernel_rfl) (by kernel_rfl) (by kernel_rfl) (fun _ _ _ _ _ h => h) (by assumption) (fun oi ho => by (simp only [List.getElem?_toArray, List.getElem?_cons_zero, List.getElem?_cons_succ, Option.some.injEq] at ho; subst ho); rfl) (fun oi ho => ?_) (fun oi ho => ?_)
  rotate_left
  · ((simp only [List.getElem?_toArray, List.getElem?_cons_zero, List.getElem?_cons_succ, Option.some.injEq] at ho; subst ho); intro wx hSx; (try dsimp only at hSx); go_simp; all_goals (with_reducible rfl))
  (simp only [List.getElem?_toArray, List.getElem?_cons_zero, List.getElem?_cons_succ, Option.some.injEq] at ho; subst ho)
  try simp only [Act.put, List.setIfInBounds_toArray, List.set_cons_zero, List.set_cons_succ]
  refine heldTake 11 (v := ?_) (by kernel_rfl) (by kernel_rfl) (by kernel_rfl) (by kernel_rfl) (fun _ _ _ _ _ h => h) (by assumption) (fun oi ho => by (simp only [List.getElem?_toArray, List.getElem?_cons_zero, List.getElem?_cons_succ, Option.some.injEq] at ho; subst ho); rfl) (fun oi ho => ?_) (fun oi ho => ?_)
  rotate_left
  · ((simp only [List.getElem?_toArray, List.getElem?_cons_zero, List.getElem?_cons_succ, Option.some.injEq] at ho; subst ho); intro wx hSx; (try dsimp only at hSx); go_simp; all_goals (with_reducible rfl))
  (simp only [List.getElem?_toArray, List.getElem?_cons_zero, List.getElem?_cons_succ, Option.some.injEq] at ho; subst ho)
  try simp only [Act.put, List.setIfInBounds_toArray, List.set_cons_zero, List.set_cons_succ]
  refine heldTake 12 (v := ?_) (by kernel_rfl) (by kernel_rfl) (by kernel_rfl) (by kernel_rfl) (fun _ _ _ _ _ h => h) (by assumption) (fun oi ho => by (simp only [List.getElem?_toArray, List.getElem?_cons_zero, List.getElem?_cons_succ, Option.some.injEq] at ho; subst ho); rfl) (fun oi ho => ?_) (fun oi ho => ?_)
  rotate_left
  · ((simp only [List.getElem?_toArray, List.getElem?_cons_zero, List.getElem?_cons_succ, Option.some.injEq] at ho; subst ho); intro wx hSx; (try dsimp only at hSx); go_simp; all_goals (with_reducible rfl))
  (simp only [List.getElem?_toArray, List.getElem?_cons_zero, List.getElem?_cons_succ, Option.some.injEq] at ho; subst ho)
  try simp only [Act.put, List.setIfInBounds_toArray, List.set_cons_zero, List.set_cons_succ]
  refine heldTake 13 (v := ?_) (by kernel_rfl) (by kernel_rfl) (by kernel_rfl) (by kernel_rfl) (fun _ _ _ _ _ h => h) (by assumption) (fun oi ho => by (simp only [List.getElem?_toArray, List.getElem?_cons_zero, List.getElem?_cons_succ, Option.some.injEq] at ho; subst ho); rfl) (fun oi ho => ?_) (fun oi ho => ?_)
  rotate_left
  · ((simp only [List.getElem?_toArray, List.getElem?_cons_zero, List.getElem?_cons_succ, Option.some.injEq] at ho; subst ho); intro wx hSx; (try dsimp only at hSx); go_simp; all_goals (with_reducible rfl))
  (simp only [List.getElem?_toArray, List.getElem?_cons_zero, List.getElem?_cons_succ, Option.some.injEq] at ho; subst ho)
  try simp only [Act.put, List.setIfInBounds_toArray, List.set_cons_zero, List.set_cons_succ]
  refine heldTake 14 (v := ?_) (by kernel_rfl) (by kernel_rfl) (by kernel_rfl) (by kernel_rfl) (fun _ _ _ _ _ h => h) (by assumption) (fun oi ho => by (simp only [List.getElem?_toArray, List.getElem?_cons_zero, List.getElem?_cons_succ, Option.some.injEq] at ho; subst ho); rfl) (fun oi ho => ?_) (fun oi ho => ?_)
  rotate_left
  · ((simp only [List.getElem?_toArray, List.getElem?_cons_zero, List.getElem?_cons_succ, Option.some.injEq] at ho; subst ho); intro wx hSx; (try dsimp only at hSx); go_simp; all_goals (with_reducible rfl))
  (simp only [List.getElem?_toArray, List.getElem?_cons_zero, List.getElem?_cons_succ, Option.some.injEq] at ho; subst ho)
  try simp only [Act.put, List.setIfInBounds_toArray, List.set_cons_zero, List.set_cons_succ]
  refine heldTake 15 (v := ?_) (by kernel_rfl) (by kernel_rfl) (by kernel_rfl) (by kernel_rfl) (fun _ _ _ _ _ h => h) (by assumption) (fun oi ho => by (simp only [List.getElem?_toArray, List.getElem?_cons_zero, List.getElem?_cons_succ, Option.some.injEq] at ho; subst ho); rfl) (fun oi ho => ?_) (fun oi ho => ?_)
  rotate_left
  · ((simp only [List.getElem?_toArray, List.getElem?_cons_zero, List.getElem?_cons_succ, Option.some.injEq] at ho; subst ho); intro wx hSx; (try dsimp only at hSx); go_simp; all_goals (with_reducible rfl))
  (simp only [List.getElem?_toArray, List.getElem?_cons_zero, List.getElem?_cons_succ, Option.some.injEq] at ho; subst ho)
  try simp only [Act.put, List.setIfInBounds_toArray, List.set_cons_zero, List.set_cons_succ]
  refine wpAnyH_ready (rs := [16]) (by kernel_rfl) (by simp) ?_
  refine heldOne (by kernel_rfl) (fun oi ho K hK => ?_) AllReadyH.nil
  (simp only [List.getElem?_toArray, List.getElem?_cons_zero, List.getElem?_cons_succ, Option.some.injEq] at ho; subst ho)
  go_simp
  refine (HFI.out _ _ _ K2.out (by assumption)).mono ?_; rintro e wf ⟨rfl, hbF⟩; rw [HFB.out]
  first | (refine hK.out _ _ ?_ (fun hHeld => ?_)) | (go_wp2_with fail; refine hK.out _ _ ?_ (fun hHeld => ?_))
  · first | (exact HK.out _ (by assumption)) | ((try dsimp only); exact HK.out _ (by assumption))
  clear hK K
  try simp only [Act.put, List.setIfInBounds_toArray, List.set_cons_zero, List.set_cons_succ]
  refine heldTake 17 (v := ?_) (by kernel_rfl) (by kernel_rfl) (by kernel_rfl) (by kernel_rfl) (fun _ _ _ _ _ h => h) (by assumption) (fun oi ho => by (simp only [List.getElem?_toArray, List.getElem?_cons_zero, List.getElem?_cons_succ, Option.some.injEq] at ho; subst ho); rfl) (fun oi ho => ?_) (fun oi ho => ?_)
  rotate_left
  · ((simp only [List.getElem?_toArray, List.getElem?_cons_zero, List.getElem?_cons_succ, Option.some.injEq] at ho; subst ho); intro wx hSx; (try dsimp only at hSx); go_simp; all_goals (with_reducible rfl))
  (simp only [List.getElem?_toArray, List.getElem?_cons_zero, List.getElem?_cons_succ, Option.some.injEq] at ho; subst ho)
  try simp only [Act.put, List.setIfInBounds_toArray, List.set_cons_zero, List.set_cons_succ]
  refine heldTake 18 (v := ?_) (by kernel_rfl) (by kernel_rfl) (by kernel_rfl) (by kernel_rfl) (fun _ _ _ _ _ h => h) (by assumption) (fun oi ho => by (simp only [List.getElem?_toArray, List.getElem?_cons_zero, List.getElem?_cons_succ, Option.some.injEq] at ho; subst ho); rfl) (fun oi ho => ?_) (fun oi ho => ?_)
  rotate_left
  · ((simp only [List.getElem?_toArray, List.getElem?_cons_zero, List.getElem?_cons_succ, Option.some.injEq] at ho; subst ho); intro wx hSx; (try dsimp only at hSx); go_simp; all_goals (with_reducible rfl))
  (simp only [List.getElem?_toArray, List.getElem?_cons_zero, List.getElem?_cons_succ, Option.some.injEq] at ho; subst ho)
  try simp only [Act.put, List.setIfInBounds_toArray, List.set_cons_zero, List.set_cons_succ]
  refine heldTake 19 (v := ?_) (by kernel_rfl) (by kernel_rfl) (by kernel_rfl) (by kernel_rfl) (fun _ _ _ _ _ h => h) (by assumption) (fun oi ho => by (simp only [List.getElem?_toArray, List.getElem?_cons_zero, List.getElem?_cons_succ, Option.some.injEq] at ho; subst ho); rfl) (fun oi ho => ?_) (fun oi ho => ?_)
  rotate_left
  · ((simp only [List.getElem?_toArray, List.getElem?_cons_zero, List.getElem?_cons_succ, Option.some.injEq] at ho; subst ho); intro wx hSx; (try dsimp only at hSx); go_simp; all_goals (with_reducible rfl))
  (simp only [List.getElem?_toArray, List.getElem?_cons_zero, List.getElem?_cons_succ, Option.some.injEq] at ho; subst ho)
  try simp only [Act.put, List.setIfInBounds_toArray, List.set_cons_zero, List.set_cons_succ]
  refine heldTake 20 (v := ?_) (by kernel_rfl) (by kernel_rfl) (by kernel_rfl) (by kernel_rfl) (fun _ _ _ _ _ h => h) (by assumption) (fun oi ho => by (simp only [List.getElem?_toArray, List.getElem?_cons_zero, List.getElem?_cons_succ, Option.some.injEq] at ho; subst ho); rfl) (fun oi ho => ?_) (fun oi ho => ?_)
  rotate_left
  · ((simp only [List.getElem?_toArray, List.getElem?_cons_zero, List.getElem?_cons_succ, Option.some.injEq] at ho; subst ho); intro wx hSx; (try dsimp only at hSx); go_simp; all_goals (with_reducible rfl))
  (simp only [List.getElem?_toArray, List.getElem?_cons_zero, List.getElem?_cons_succ, Option.some.injEq] at ho; subst ho)
  try simp only [Act.put, List.setIfInBounds_toArray, List.set_cons_zero, List.set_cons_succ]
  refine heldTake 21 (v := ?_) (by kernel_rfl) (by kernel_rfl) (by kernel_rfl) (by kernel_rfl) (fun _ _ _ _ _ h => h) (by assumption) (fun oi ho => by (simp only [List.getElem?_toArray, List.getElem?_cons_zero, List.getElem?_cons_succ, Option.some.injEq] at ho; subst ho); rfl) (fun oi ho => ?_) (fun oi ho => ?_)
  rotate_left
  · ((simp only [List.getElem?_toArray, List.getElem?_cons_zero, List.getElem?_cons_succ, Option.some.injEq] at ho; subst ho); intro wx hSx; (try dsimp only at hSx); go_simp; all_goals (with_reducible rfl))
  (simp only [List.getElem?_toArray, List.getElem?_cons_zero, List.getElem?_cons_succ, Option.some.injEq] at ho; subst ho)
  try simp only [Act.put, List.setIfInBounds_toArray, List.set_cons_zero, List.set_cons_succ]
  refine heldTake 22 (v := ?_) (by kernel_rfl) (by kernel_rfl) (by kernel_rfl) (by kernel_rfl) (fun _ _ _ _ _ h => h) (by assumption) (fun oi ho => by (simp only [List.getElem?_toArray, List.getElem?_cons_zero, List.getElem?_cons_succ, Option.some.injEq] at ho; subst ho); rfl) (fun oi ho => ?_) (fun oi ho => ?_)
  rotate_left
  · ((simp only [List.getElem?_toArray, List.getElem?_cons_zero, List.getElem?_cons_succ, Option.some.injEq] at ho; subst ho); intro wx hSx; (try dsimp only at hSx); go_simp; all_goals (with_reducible rfl))
  (simp only [List.getElem?_toArray, List.getElem?_cons_zero, List.getElem?_cons_succ, Option.some.injEq] at ho; subst ho)
  try simp only [Act.put, List.setIfInBounds_toArray, List.set_cons_zero, List.set_cons_succ]
  refine wpAnyH_ready (rs := [23]) (by kernel_rfl) (by simp) ?_
  refine heldOne (by kernel_rfl) (fun oi ho K hK => ?_) AllReadyH.nil
  (simp only [List.getElem?_toArray, List.getElem?_cons_zero, List.getElem?_cons_succ, Option.some.injEq] at ho; subst ho)
  go_simp
  refine (HFI.out _ _ _ K3.out (by assumption)).mono ?_; rintro e wf ⟨rfl, hbF⟩; rw [HFC.out]
  first | (refine hK.out _ _ ?_ (fun hHeld => ?_)) | (go_wp2_with fail; refine hK.out _ _ ?_ (fun hHeld => ?_))
  · first | (exact HK.out _ (by assumption)) | ((try dsimp only); exact HK.out _ (by assumption))
  clear hK K
  try simp only [Act.put, List.setIfInBounds_toArray, List.set_cons_zero, List.set_cons_succ]
  refine heldTake 24 (v := ?_) (by kernel_rfl) (by kernel_rfl) (by kernel_rfl) (by kernel_rfl) (fun _ _ _ _ _ h => h) (by assumption) (fun oi ho => by (simp only [List.getElem?_toArray, List.getElem?_cons_zero, List.getElem?_cons_succ, Option.some.injEq] at ho; subst ho); rfl) (fun oi ho => ?_) (fun oi ho => ?_)
  rotate_left
  · ((simp only [List.getElem?_toArray, List.getElem?_cons_zero, List.getElem?_cons_succ, Option.some.injEq] at ho; subst ho); intro wx hSx; (try dsimp only at hSx); go_simp; all_goals (with_reducible rfl))
  (simp only [List.getElem?_toArray, List.getElem?_cons_zero, List.getElem?_cons_succ, Option.some.injEq] at ho; subst ho)
  try simp only [Act.put, List.setIfInBounds_toArray, List.set_cons_zero, List.set_cons_succ]
  refine heldTake 25 (v := ?_) (by kernel_rfl) (by kernel_rfl) (by kernel_rfl) (by kernel_rfl) (fun _ _ _ _ _ h => h) (by assumption) (fun oi ho => by (simp only [List.getElem?_toArray, List.getElem?_cons_zero, List.getElem?_cons_succ, Option.some.injEq] at ho; subst ho); rfl) (fun oi ho => ?_) (fun oi ho => ?_)
  rotate_left
  · ((simp only [List.getElem?_toArray, List.getElem?_cons_zero, List.getElem?_cons_succ, Option.some.injEq] at ho; subst ho); intro wx hSx; (try dsimp only at hSx); go_simp; all_goals (with_reducible rfl))
  (simp only [List.getElem?_toArray, List.getElem?_cons_zero, List.getElem?_cons_succ, Option.some.injEq] at ho; subst ho)
  try simp only [Act.put, List.setIfInBounds_toArray, List.set_cons_zero, List.set_cons_succ]
  refine heldTake 26 (v := ?_) (by kernel_rfl) (by kernel_rfl) (by kernel_rfl) (by kernel_rfl) (fun _ _ _ _ _ h => h) (by assumption) (fun oi ho => by (simp only [List.getElem?_toArray, List.getElem?_cons_zero, List.getElem?_cons_succ, Option.some.injEq] at ho; subst ho); rfl) (fun oi ho => ?_) (fun oi ho => ?_)
  rotate_left
  · ((simp only [List.getElem?_toArray, List.getElem?_cons_zero, List.getElem?_cons_succ, Option.some.injEq] at ho; subst ho); intro wx hSx; (try dsimp only at hSx); go_simp; all_goals (with_reducible rfl))
  (simp only [List.getElem?_toArray, List.getElem?_cons_zero, List.getElem?_cons_succ, Option.some.injEq] at ho; subst ho)
  try simp only [Act.put, List.setIfInBounds_toArray, List.set_cons_zero, List.set_cons_succ]
  refine heldTake 27 (v := ?_) (by kernel_rfl) (by kernel_rfl) (by kernel_rfl) (by kernel_rfl) (fun _ _ _ _ _ h => h) (by assumption) (fun oi ho => by (simp only [List.getElem?_toArray, List.getElem?_cons_zero, List.getElem?_cons_succ, Option.some.injEq] at ho; subst ho); rfl) (fun oi ho => ?_) (fun oi ho => ?_)
  rotate_left
  · ((simp only [List.getElem?_toArray, List.getElem?_cons_zero, List.getElem?_cons_succ, Option.some.injEq] at ho; subst ho); intro wx hSx; (try dsimp only at hSx); go_simp; all_goals (with_reducible rfl))
  (simp only [List.getElem?_toArray, List.getElem?_cons_zero, List.getElem?_cons_succ, Option.some.injEq] at ho; subst ho)
  try simp only [Act.put, List.setIfInBounds_toArray, List.set_cons_zero, List.set_cons_succ]
  refine heldTake 28 (v := ?_) (by kernel_rfl) (by kernel_rfl) (by kernel_rfl) (by kernel_rfl) (fun _ _ _ _ _ h => h) (by assumption) (fun oi ho => by (simp only [List.getElem?_toArray, List.getElem?_cons_zero, List.getElem?_cons_succ, Option.some.injEq] at ho; subst ho); rfl) (fun oi ho => ?_) (fun oi ho => ?_)
  rotate_left
  · ((simp only [List.getElem?_toArray, List.getElem?_cons_zero, List.getElem?_cons_succ, Option.some.injEq] at ho; subst ho); intro wx hSx; (try dsimp only at hSx); go_simp; all_goals (with_reducible rfl))
  (simp only [List.getElem?_toArray, List.getElem?_cons_zero, List.getElem?_cons_succ, Option.some.injEq] at ho; subst ho)
  try simp only [Act.put, List.setIfInBounds_toArray, List.set_cons_zero, List.set_cons_succ]
  refine heldTake 29 (v := ?_) (by kernel_rfl) (by kernel_rfl) (by kernel_rfl) (by kernel_rfl) (fun _ _ _ _ _ h => h) (by assumption) (fun oi ho => by (simp only [List.getElem?_toArray, List.getElem?_cons_zero, List.getElem?_cons_succ, Option.some.injEq] at ho; subst ho); rfl) (fun oi ho => ?_) (fun oi ho => ?_)
  rotate_left
  · ((simp only [List.getElem?_toArray, List.getElem?_cons_zero, List.getElem?_cons_succ, Option.some.injEq] at ho; subst ho); intro wx hSx; (try dsimp only at hSx); go_simp; all_goals (with_reducible rfl))
  (simp only [List.getElem?_toArray, List.getElem?_cons_zero, List.getElem?_cons_succ, Option.some.injEq] at ho; subst ho)
  try simp only [Act.put, List.setIfInBounds_toArray, List.set_cons_zero, List.set_cons_succ]
  refine heldTake 30 (v := ?_) (by kernel_rfl) (by kernel_rfl) (by kernel_rfl) (by kernel_rfl) (fun _ _ _ _ _ h => h) (by assumption) (fun oi ho => by (simp only [List.getElem?_toArray, List.getElem?_cons_zero, List.getElem?_cons_succ, Option.some.injEq] at ho; subst ho); rfl) (fun oi ho => ?_) (fun oi ho => ?_)
  rotate_left
  · ((simp only [List.getElem?_toArray, List.getElem?_cons_zero, List.getElem?_cons_succ, Option.some.injEq] at ho; subst ho); intro wx hSx; (try dsimp only at hSx); go_simp; all_goals (with_reducible rfl))
  (simp only [List.getElem?_toArray, List.getElem?_cons_zero, List.getElem?_cons_succ, Option.some.injEq] at ho; subst ho)
  try simp only [Act.put, List.setIfInBounds_toArray, List.set_cons_zero, List.set_cons_succ]
  refine heldTake 31 (v := ?_) (by kernel_rfl) (by kernel_rfl) (by kernel_rfl) (by kernel_rfl) (fun _ _ _ _ _ h => h) (by assumption) (fun oi ho => by (simp only [List.getElem?_toArray, List.getElem?_cons_zero, List.getElem?_cons_succ, Option.some.injEq] at ho; subst ho); rfl) (fun oi ho => ?_) (fun oi ho => ?_)
  rotate_left
  · ((simp only [List.getElem?_toArray, List.getElem?_cons_zero, List.getElem?_cons_succ, Option.some.injEq] at ho; subst ho); intro wx hSx; (try dsimp only at hSx); go_simp; all_goals (with_reducible rfl))
  (simp only [List.getElem?_toArray, List.getElem?_cons_zero, List.getElem?_cons_succ, Option.some.injEq] at ho; subst ho)
  try simp only [Act.put, List.setIfInBounds_toArray, List.set_cons_zero, List.set_cons_succ]
  refine heldTake 33 (v := ?_) (by kernel_rfl) (by kernel_rfl) (by kernel_rfl) (by kernel_rfl) (fun _ _ _ _ _ h => h) (by assumption) (fun oi ho => by (simp only [List.getElem?_toArray, List.getElem?_cons_zero, List.getElem?_cons_succ, Option.some.injEq] at ho; subst ho); rfl) (fun oi ho => ?_) (fun oi ho => ?_)
  rotate_left
  · ((simp only [List.getElem?_toArray, List.getElem?_cons_zero, List.getElem?_cons_succ, Option.some.injEq] at ho; subst ho); intro wx hSx; (try dsimp only at hSx); go_simp; all_goals (with_reducible rfl))
  (simp only [List.getElem?_toArray, List.getElem?_cons_zero, List.getElem?_cons_succ, Option.some.injEq] at ho; subst ho)
  try simp only [Act.put, List.setIfInBounds_toArray, List.set_cons_zero, List.set_cons_succ]
  refine heldTake 34 (v := ?_) (by kernel_rfl) (by kernel_rfl) (by kernel_rfl) (by kernel_rfl) (fun _ _ _ _ _ h => h) (by assumption) (fun oi ho => by (simp only [List.getElem?_toArray, List.getElem?_cons_zero, List.getElem?_cons_succ, Option.some.injEq] at ho; subst ho); rfl) (fun oi ho => ?_) (fun oi ho => ?_)
  rotate_left
  · ((simp only [List.getElem?_toArray, List.getElem?_cons_zero, List.getElem?_cons_succ, Option.some.injEq] at ho; subst ho); intro wx hSx; (try dsimp only at hSx); go_simp; all_goals (with_reducible rfl))
  (simp only [List.getElem?_toArray, List.getElem?_cons_zero, List.getElem?_cons_succ, Option.some.injEq] at ho; subst ho)
  try simp only [Act.put, List.setIfInBounds_toArray, List.set_cons_zero, List.set_cons_succ]
  refine wpAnyH_ready (rs := [32]) (by kernel_rfl) (by simp) ?_
  refine heldOne (by kernel_rfl) (fun oi ho K hK => ?_) AllReadyH.nil
  (simp only [List.getElem?_toArray, List.getElem?_cons_zero, List.getElem?_cons_succ, Option.some.injEq] at ho; subst ho)
  go_simp
  refine (HTB.out _ (by assumption)).mono ?_; rintro e wt ⟨rfl, hbT⟩
  first | (refine hK.out _ _ ?_ (fun hHeld => ?_)) | (go_wp2_with fail; refine hK.out _ _ ?_ (fun hHeld => ?_))
  · first | (exact HK.out _ (by assumption)) | ((try dsimp only); exact HK.out _ (by assumption))
  clear hK K
  try simp only [Act.put, List.setIfInBounds_toArray, List.set_cons_zero, List.set_cons_succ]
  refine wpAnyH_ready (rs := [35]) (by kernel_rfl) (by simp) ?_
  refine heldOne (by kernel_rfl) (fun oi ho K hK => ?_) AllReadyH.nil
  (simp only [List.getElem?_toArray, List.getElem?_cons_zero, List.getElem?_cons_succ, Option.some.injEq] at ho; subst ho)
  go_simp
  refine (HTW.out _ (by assumption)).mono ?_; rintro e ww ⟨rfl, hbW⟩
  first | (refine hK.out _ _ ?_ (fun hHeld => ?_)) | (go_wp2_with fail; refine hK.out _ _ ?_ (fun hHeld => ?_))
  · first | (exact HK.out _ (by assumption)) | ((try dsimp only); exact HK.out _ (by assumption))
  clear hK K
  try simp only [Act.put, List.setIfInBounds_toArray, List.set_cons_zero, List.set_cons_succ]
  refine heldTake 36 (v := ?_) (by kernel_rfl) (by kernel_rfl) (by kernel_rfl) (by kernel_rfl) (fun _ _ _ _ _ h => h) (by assumption) (fun oi ho => by (simp only [List.getElem?_toArray, List.getElem?_cons_zero, List.getElem?_cons_succ, Option.some.injEq] at ho; subst ho); rfl) (fun oi ho => ?_) (fun oi ho => ?_)
  rotate_left
  · ((simp only [List.getElem?_toArray, List.getElem?_cons_zero, List.getElem?_cons_succ, Option.some.injEq] at ho; subst ho); intro wx hSx; (try dsimp only at hSx); go_simp; all_goals (with_reducible rfl))
  (simp only [List.getElem?_toArray, List.getElem?_cons_zero, List.getElem?_cons_succ, Option.some.injEq] at ho; subst ho)
  try simp only [Act.put, List.setIfInBounds_toArray, List.set_cons_zero, List.set_cons_succ]
  refine heldTake 37 (v := ?_) (by kernel_rfl) (by kernel_rfl) (by kernel_rfl) (by kernel_rfl) (fun _ _ _ _ _ h => h) (by assumption) (fun oi ho => by (simp only [List.getElem?_toArray, List.getElem?_cons_zero, List.getElem?_cons_succ, Option.some.injEq] at ho; subst ho); rfl) (fun oi ho => ?_) (fun oi ho => ?_)
  rotate_left
  · ((simp only [List.getElem?_toArray, List.getElem?_cons_zero, List.getElem?_cons_succ, Option.some.injEq] at ho; subst ho); intro wx hSx; (try dsimp only at hSx); go_simp; all_goals (with_reducible rfl))
  (simp only [List.getElem?_toArray, List.getElem?_cons_zero, List.getElem?_cons_succ, Option.some.injEq] at ho; subst ho)
  try simp only [Act.put, List.setIfInBounds_toArray, List.set_cons_zero, List.set_cons_succ]
  refine heldTake 38 (v := ?_) (by kernel_rfl) (by kernel_rfl) (by kernel_rfl) (by kernel_rfl) (fun _ _ _ _ _ h => h) (by assumption) (fun oi ho => by (simp only [List.getElem?_toArray, List.getElem?_cons_zero, List.getElem?_cons_succ, Option.some.injEq] at ho; subst ho); rfl) (fun oi ho => ?_) (fun oi ho => ?_)
  rotate_left
  · ((simp only [List.getElem?_toArray, List.getElem?_cons_zero, List.getElem?_cons_succ, Option.some.injEq] at ho; subst ho); intro wx hSx; (try dsimp only at hSx); go_simp; all_goals (with_reducible rfl))
  (simp only [List.getElem?_toArray, List.getElem?_cons_zero, List.getElem?_cons_succ, Option.some.injEq] at ho; subst ho)
  try simp only [Act.put, List.setIfInBounds_toArray, List.set_cons_zero, List.set_cons_succ]
  refine wpAnyH_done (by kernel_rfl) ?_ _
  refine NoPanic.normal ?_
  go_wp2
  go_ret2
  refine ⟨_, (congrArg (fun x => Ending.returned (.tuple #[_, .bool x])) HOK.out.symm), ?_⟩
  exact HBT.out _ hbW
set_option maxRecDepth 100000 in
set_option maxHeartbeats 40000000 in
theorem word_cl0 (i : Ins) (w : World) (g0 : cls i.op = 0) : Calls Try.prog 16 #[insV i] w fun e w' => ∃ u, e = .returned (.tuple #[.int .u32 u, .bool (wok i)]) ∧ Below w.heap.size w w' := by
  obtain ⟨op, a, b, c, imm⟩ := i
  dsimp only at *
  obtain ⟨k1, k2, k3⟩ := opk_kind op
  have HW : Hid (wok ⟨op, a, b, c, imm⟩ = (!(cls op == 0) && fit a (opk op).1 && fit b (opk op).2.1 && fit c (opk op).2.2 && ((imm == 0) || two op))) := Lib.hid rfl
  have HV : Hid (opkV op = .tuple #[.int .i64 (opk op).1, .int .i64 (opk op).2.1, .int .i64 (opk op).2.2]) := Lib.hid rfl
  obtain ⟨⟨ka, kb, kc⟩, hk⟩ : ∃ x, opk op = x := ⟨_, rfl⟩
  rw [hk] at k1 k2 k3 HW HV 
  dsimp only at k1 k2 k3 HW HV 
  have K1 := Lib.hid k1
  have K2 := Lib.hid k2
  have K3 := Lib.hid k3
  clear hk k1 k2 k3
  obtain ⟨cl, hcl⟩ : ∃ x, cls op = x := ⟨_, rfl⟩
  obtain ⟨tw, htw⟩ : ∃ x, two op = x := ⟨_, rfl⟩
  obtain ⟨fa, hfa⟩ : ∃ x, fit a ka = x := ⟨_, rfl⟩
  obtain ⟨fb, hfb⟩ : ∃ x, fit b kb = x := ⟨_, rfl⟩
  obtain ⟨fc, hfc⟩ : ∃ x, fit c kc = x := ⟨_, rfl⟩
  rw [hcl, htw, hfa, hfb, hfc] at HW
  have HB0 : Hid (Below w.heap.size w (w.alloc (.cells #[.int .i64 op, .int .i64 a, .int .i64 b, .int .i64 c, .int .u32 imm] 29))) := Lib.hid ((Below.refl _ _).alloc (Nat.le_refl _) _)
  have HBT : Hid (∀ wx, Below (w.alloc (.cells #[.int .i64 op, .int .i64 a, .int .i64 b, .int .i64 c, .int .u32 imm] 29)).heap.size (w.alloc (.cells #[.int .i64 op, .int .i64 a, .int .i64 b, .int .i64 c, .int .u32 imm] 29)) wx → Below w.heap.size w wx) := Lib.hid fun wx h => HB0.out.trans (h.mono (by simp))
  have HK : Hid (∀ wx, Below (w.alloc (.cells #[.int .i64 op, .int .i64 a, .int .i64 b, .int .i64 c, .int .u32 imm] 29)).heap.size (w.alloc (.cells #[.int .i64 op, .int .i64 a, .int .i64 b, .int .i64 c, .int .u32 imm] 29)) wx → Below (w.alloc (.cells #[.int .i64 op, .int .i64 a, .int .i64 b, .int .i64 c, .int .u32 imm] 29)).heap.size (w.alloc (.cells #[.int .i64 op, .int .i64 a, .int .i64 b, .int .i64 c, .int .u32 imm] 29)) wx ∧ wx.cell? ⟨w.heap.size, 0, none⟩ = some (.int .i64 op) ∧ wx.cell? ⟨w.heap.size, 1, none⟩ = some (.int .i64 a) ∧ wx.cell? ⟨w.heap.size, 2, none⟩ = some (.int .i64 b) ∧ wx.cell? ⟨w.heap.size, 3, none⟩ = some (.int .i64 c) ∧ wx.cell? ⟨w.heap.size, 4, none⟩ = some (.int .u32 imm)) := Lib.hid fun wx h => by
    have hb : wx.heap[w.heap.size]? = some (.cells #[.int .i64 op, .int .i64 a, .int .i64 b, .int .i64 c, .int .u32 imm] 29 (0, 0)) := by
      rw [h.block _ (by simp)]
      exact blk_new w _
    exact ⟨h, blk_cell hb 0, blk_cell hb 1, blk_cell hb 2, blk_cell hb 3, blk_cell hb 4⟩
  have HTB : Hid (∀ wx, Below (w.alloc (.cells #[.int .i64 op, .int .i64 a, .int .i64 b, .int .i64 c, .int .u32 imm] 29)).heap.size (w.alloc (.cells #[.int .i64 op, .int .i64 a, .int .i64 b, .int .i64 c, .int .u32 imm] 29)) wx → Calls Try.prog 20 #[] wx fun e w' => e = .returned (.agg #[]) ∧ Below (w.alloc (.cells #[.int .i64 op, .int .i64 a, .int .i64 b, .int .i64 c, .int .u32 imm] 29)).heap.size (w.alloc (.cells #[.int .i64 op, .int .i64 a, .int .i64 b, .int .i64 c, .int .u32 imm] 29)) w') := Lib.hid fun wx h => (tables_any wx).mono fun e w' ⟨he, hb⟩ => ⟨he, h.trans (hb.mono h.size)⟩
  have HCL : Hid (∀ wx, Below (w.alloc (.cells #[.int .i64 op, .int .i64 a, .int .i64 b, .int .i64 c, .int .u32 imm] 29)).heap.size (w.alloc (.cells #[.int .i64 op, .int .i64 a, .int .i64 b, .int .i64 c, .int .u32 imm] 29)) wx → Calls Try.prog 25 #[.agg #[], .int .i64 op] wx fun e w' => e = .returned (.int .i64 cl) ∧ Below (w.alloc (.cells #[.int .i64 op, .int .i64 a, .int .i64 b, .int .i64 c, .int .u32 imm] 29)).heap.size (w.alloc (.cells #[.int .i64 op, .int .i64 a, .int .i64 b, .int .i64 c, .int .u32 imm] 29)) w') := Lib.hid fun wx h => (class_any op wx).mono fun e w' ⟨he, hb⟩ => ⟨by rw [← hcl]; exact he, h.trans (hb.mono h.size)⟩
  have HTW : Hid (∀ wx, Below (w.alloc (.cells #[.int .i64 op, .int .i64 a, .int .i64 b, .int .i64 c, .int .u32 imm] 29)).heap.size (w.alloc (.cells #[.int .i64 op, .int .i64 a, .int .i64 b, .int .i64 c, .int .u32 imm] 29)) wx → Calls Try.prog 24 #[.agg #[], .int .i64 op] wx fun e w' => e = .returned (.bool tw) ∧ Below (w.alloc (.cells #[.int .i64 op, .int .i64 a, .int .i64 b, .int .i64 c, .int .u32 imm] 29)).heap.size (w.alloc (.cells #[.int .i64 op, .int .i64 a, .int .i64 b, .int .i64 c, .int .u32 imm] 29)) w') := Lib.hid fun wx h => (two_any op wx).mono fun e w' ⟨he, hb⟩ => ⟨by rw [← htw]; exact he, h.trans (hb.mono h.size)⟩
  have HFI : Hid (∀ wx n k, (k = 0 ∨ k = 1 ∨ k = 2) → Below (w.alloc (.cells #[.int .i64 op, .int .i64 a, .int .i64 b, .int .i64 c, .int .u32 imm] 29)).heap.size (w.alloc (.cells #[.int .i64 op, .int .i64 a, .int .i64 b, .int .i64 c, .int .u32 imm] 29)) wx → Calls Try.prog 26 #[.int .i64 n, .int .i64 k] wx fun e w' => e = .returned (.bool (fit n k)) ∧ Below (w.alloc (.cells #[.int .i64 op, .int .i64 a, .int .i64 b, .int .i64 c, .int .u32 imm] 29)).heap.size (w.alloc (.cells #[.int .i64 op, .int .i64 a, .int .i64 b, .int .i64 c, .int .u32 imm] 29)) w') := Lib.hid fun wx n k hk h => (fits_any n k hk wx).mono fun e w' ⟨he, hb⟩ => ⟨he, h.trans (hb.mono h.size)⟩
  rw [hcl] at g0
  subst g0
  clear hcl htw
  have HFA := Lib.hid hfa
  have HFB := Lib.hid hfb
  have HFC := Lib.hid hfc
  have hbd : Below (w.alloc (.cells #[.int .i64 op, .int .i64 a, .int .i64 b, .int .i64 c, .int .u32 imm] 29)).heap.size (w.alloc (.cells #[.int .i64 op, .int .i64 a, .int .i64 b, .int .i64 c, .int .u32 imm] 29)) (w.alloc (.cells #[.int .i64 op, .int .i64 a, .int .i64 b, .int .i64 c, .int .u32 imm] 29)).drew := (Below.refl _ _).drew
  have HOK : Hid (wok ⟨op, a, b, c, imm⟩ = false) := Lib.hid (by rw [HW.out]; rfl)
  clear HW
  go_enter Try.func16, Try.ntmps16
  go_wp2_with fail
  refine (operands_any op _).mono ?_
  rintro e w1 ⟨rfl, rfl⟩
  rw [HV.out]
  go_wp2_with fail
  refine wp_region_noPanic ?_
  refine wp_region_held_drew (S := (fun wx => Below (w.alloc (.cells #[.int .i64 op, .int .i64 a, .int .i64 b, .int .i64 c, .int .u32 imm] 29)).heap.size (w.alloc (.cells #[.int .i64 op, .int .i64 a, .int .i64 b, .int .i64 c, .int .u32 imm] 29)) wx ∧ wx.cell? ⟨w.heap.size, 0, none⟩ = some (.int .i64 op) ∧ wx.cell? ⟨w.heap.size, 1, none⟩ = some (.int .i64 a) ∧ wx.cell? ⟨w.heap.size, 2, none⟩ = some (.int .i64 b) ∧ wx.cell? ⟨w.heap.size, 3, none⟩ = some (.int .i64 c) ∧ wx.cell? ⟨w.heap.size, 4, none⟩ = some (.int .u32 imm))) (by kernel_rfl) ?_ (fun hHeld => ?_)
  · exact HK.out _ (by assumption)
  refine heldTake 1 (v := ?_) (by kernel_rfl) (by kernel_rfl) (by kernel_rfl) (by kernel_rfl) (fun _ _ _ _ _ h => h) (by assumption) (fun oi ho => by (simp only [List.getElem?_toArray, List.getElem?_cons_zero, List.getElem?_cons_succ, Option.some.injEq] at ho; subst ho); rfl) (fun oi ho => ?_) (fun oi ho => ?_)
  rotate_left
  · ((simp only [List.getElem?_toArray, List.getElem?_cons_zero, List.getElem?_cons_succ, Option.some.injEq] at ho; subst ho); intro wx hSx; (try dsimp only at hSx); go_simp; all_goals (with_reducible rfl))
  (simp only [List.getElem?_toArray, List.getElem?_cons_zero, List.getElem?_cons_succ, Option.some.injEq] at ho; subst ho)
  try simp only [Act.put, List.setIfInBounds_toArray, List.set_cons_zero, List.set_cons_succ]
  refine heldTake 2 (v := ?_) (by kernel_rfl) (by kernel_rfl) (by kernel_rfl) (by kernel_rfl) (fun _ _ _ _ _ h => h) (by assumption) (fun oi ho => by (simp only [List.getElem?_toArray, List.getElem?_cons_zero, List.getElem?_cons_succ, Option.some.injEq] at ho; subst ho); rfl) (fun oi ho => ?_) (fun oi ho => ?_)
  rotate_left
  · ((simp only [List.getElem?_toArray, List.getElem?_cons_zero, List.getElem?_cons_succ, Option.some.injEq] at ho; subst ho); intro wx hSx; (try dsimp only at hSx); go_simp; all_goals (with_reducible rfl))
  (simp only [List.getElem?_toArray, List.getElem?_cons_zero, List.getElem?_cons_succ, Option.some.injEq] at ho; subst ho)
  try simp only [Act.put, List.setIfInBounds_toArray, List.set_cons_zero, List.set_cons_succ]
  refine wpAnyH_ready (rs := [0]) (by kernel_rfl) (by simp) ?_
  refine heldOne (by kernel_rfl) (fun oi ho K hK => ?_) AllReadyH.nil
  (simp only [List.getElem?_toArray, List.getElem?_cons_zero, List.getElem?_cons_succ, Option.some.injEq] at ho; subst ho)
  go_simp
  refine (HTB.out _ (by assumption)).mono ?_; rintro e wt ⟨rfl, hbT⟩
  first | (refine hK.out _ _ ?_ (fun hHeld => ?_)) | (go_wp2_with fail; refine hK.out _ _ ?_ (fun hHeld => ?_))
  · first | (exact HK.out _ (by assumption)) | ((try dsimp only); exact HK.out _ (by assumption))
  clear hK K
  try simp only [Act.put, List.setIfInBounds_toArray, List.set_cons_zero, List.set_cons_succ]
  refine wpAnyH_ready (rs := [3]) (by kernel_rfl) (by simp) ?_
  refine heldOne (by kernel_rfl) (fun oi ho K hK => ?_) AllReadyH.nil
  (simp only [List.getElem?_toArray, List.getElem?_cons_zero, List.getElem?_cons_succ, Option.some.injEq] at ho; subst ho)
  go_simp
  refine (HCL.out _ (by assumption)).mono ?_; rintro e wc ⟨rfl, hbC⟩
  first | (refine hK.out _ _ ?_ (fun hHeld => ?_)) | (go_wp2_with fail; refine hK.out _ _ ?_ (fun hHeld => ?_))
  · first | (exact HK.out _ (by assumption)) | ((try dsimp only); exact HK.out _ (by assumption))
  clear hK K
  try simp only [Act.put, List.setIfInBounds_toArray, List.set_cons_zero, List.set_cons_succ]
  refine heldTake 4 (v := ?_) (by kernel_rfl) (by kernel_rfl) (by kernel_rfl) (by kernel_rfl) (fun _ _ _ _ _ h => h) (by assumption) (fun oi ho => by (simp only [List.getElem?_toArray, List.getElem?_cons_zero, List.getElem?_cons_succ, Option.some.injEq] at ho; subst ho); rfl) (fun oi ho => ?_) (fun oi ho => ?_)
  rotate_left
  · ((simp only [List.getElem?_toArray, List.getElem?_cons_zero, List.getElem?_cons_succ, Option.some.injEq] at ho; subst ho); intro wx hSx; (try dsimp only at hSx); go_simp; all_goals (with_reducible rfl))
  (simp only [List.getElem?_toArray, List.getElem?_cons_zero, List.getElem?_cons_succ, Option.some.injEq] at ho; subst ho)
  try simp only [Act.put, List.setIfInBounds_toArray, List.set_cons_zero, List.set_cons_succ]
  refine heldTake 5 (v := ?_) (by kernel_rfl) (by kernel_rfl) (by kernel_rfl) (by kernel_rfl) (fun _ _ _ _ _ h => h) (by assumption) (fun oi ho => by (simp only [List.getElem?_toArray, List.getElem?_cons_zero, List.getElem?_cons_succ, Option.some.injEq] at ho; subst ho); rfl) (fun oi ho => ?_) (fun oi ho => ?_)
  rotate_left
  · ((simp only [List.getElem?_toArray, List.getElem?_cons_zero, List.getElem?_cons_succ, Option.some.injEq] at ho; subst ho); intro wx hSx; (try dsimp only at hSx); go_simp; all_goals (with_reducible rfl))
  (simp only [List.getElem?_toArray, List.getElem?_cons_zero, List.getElem?_cons_succ, Option.some.injEq] at ho; subst ho)
  try simp only [Act.put, List.setIfInBounds_toArray, List.set_cons_zero, List.set_cons_succ]
  refine heldSkip 6 (by kernel_rfl) (by kernel_rfl) (by kernel_rfl) (by kernel_rfl) (fun _ _ _ _ _ h => h) (by assumption) (fun oi ho => by (simp only [List.getElem?_toArray, List.getElem?_cons_zero, List.getElem?_cons_succ, Option.some.injEq] at ho; subst ho); rfl) (fun oi ho => ?_)
  (simp only [List.getElem?_toArray, List.getElem?_cons_zero, List.getElem?_cons_succ, Option.some.injEq] at ho; subst ho)
  try simp only [Act.put, List.setIfInBounds_toArray, List.set_cons_zero, List.set_cons_succ]
  refine heldSkip 7 (by kernel_rfl) (by kernel_rfl) (by kernel_rfl) (by kernel_rfl) (fun _ _ _ _ _ h => h) (by assumption) (fun oi ho => by (simp only [List.getElem?_toArray, List.getElem?_cons_zero, List.getElem?_cons_succ, Option.some.injEq] at ho; subst ho); rfl) (fun oi ho => ?_)
  (simp only [List.getElem?_toArray, List.getElem?_cons_zero, List.getElem?_cons_succ, Option.some.injEq] at ho; subst ho)
  try simp only [Act.put, List.setIfInBounds_toArray, List.set_cons_zero, List.set_cons_succ]
  refine heldSkip 8 (by kernel_rfl) (by kernel_rfl) (by kernel_rfl) (by kernel_rfl) (fun _ _ _ _ _ h => h) (by assumption) (fun oi ho => by (simp only [List.getElem?_toArray, List.getElem?_cons_zero, List.getElem?_cons_succ, Option.some.injEq] at ho; subst ho); rfl) (fun oi ho => ?_)
  (simp only [List.getElem?_toArray, List.getElem?_cons_zero, List.getElem?_cons_succ, Option.some.injEq] at ho; subst ho)
  try simp only [Act.put, List.setIfInBounds_toArray, List.set_cons_zero, List.set_cons_succ]
  refine heldSkip 9 (by kernel_rfl) (by kernel_rfl) (by kernel_rfl) (by kernel_rfl) (fun _ _ _ _ _ h => h) (by assumption) (fun oi ho => by (simp only [List.getElem?_toArray, List.getElem?_cons_zero, List.getElem?_cons_succ, Option.some.injEq] at ho; subst ho); rfl) (fun oi ho => ?_)
  (simp only [List.getElem?_toArray, List.getElem?_cons_zero, List.getElem?_cons_succ, Option.some.injEq] at ho; subst ho)
  try simp only [Act.put, List.setIfInBounds_toArray, List.set_cons_zero, List.set_cons_succ]
  refine heldSkip 10 (by kernel_rfl) (by kernel_rfl) (by kernel_rfl) (by kernel_rfl) (fun _ _ _ _ _ h => h) (by assumption) (fun oi ho => by (simp only [List.getElem?_toArray, List.getElem?_cons_zero, List.getElem?_cons_succ, Option.some.injEq] at ho; subst ho); rfl) (fun oi ho => ?_)
  (simp only [List.getElem?_toArray, List.getElem?_cons_zero, List.getElem?_cons_succ, Option.some.injEq] at ho; subst ho)
  try simp only [Act.put, List.setIfInBounds_toArray, List.set_cons_zero, List.set_cons_succ]
  refine heldTake 11 (v := ?_) (by kernel_rfl) (by kernel_rfl) (by kernel_rfl) (by kernel_rfl) (fun _ _ _ _ _ h => h) (by assumption) (fun oi ho => by (simp only [List.getElem?_toArray, List.getElem?_cons_zero, List.getElem?_cons_succ, Option.some.injEq] at ho; subst ho); rfl) (fun oi ho => ?_) (fun oi ho => ?_)
  rotate_left
  · ((simp only [List.getElem?_toArray, List.getElem?_cons_zero, List.getElem?_cons_succ, Option.some.injEq] at ho; subst ho); intro wx hSx; (try dsimp only at hSx); go_simp; all_goals (with_reducible rfl))
  (simp only [List.getElem?_toArray, List.getElem?_cons_zero, List.getElem?_cons_succ, Option.some.injEq] at ho; subst ho)
  try simp only [Act.put, List.setIfInBounds_toArray, List.set_cons_zero, List.set_cons_succ]
  refine heldTake 12 (v := ?_) (by kernel_rfl) (by kernel_rfl) (by kernel_rfl) (by kernel_rfl) (fun _ _ _ _ _ h => h) (by assumption) (fun oi ho => by (simp only [List.getElem?_toArray, List.getElem?_cons_zero, List.getElem?_cons_succ, Option.some.injEq] at ho; subst ho); rfl) (fun oi ho => ?_) (fun oi ho => ?_)
  rotate_left
  · ((simp only [List.getElem?_toArray, List.getElem?_cons_zero, List.getElem?_cons_succ, Option.some.injEq] at ho; subst ho); intro wx hSx; (try dsimp only at hSx); go_simp; all_goals (with_reducible rfl))
  (simp only [List.getElem?_toArray, List.getElem?_cons_zero, List.getElem?_cons_succ, Option.some.injEq] at ho; subst ho)
  try simp only [Act.put, List.setIfInBounds_toArray, List.set_cons_zero, List.set_cons_succ]
  refine heldSkip 13 (by kernel_rfl) (by kernel_rfl) (by kernel_rfl) (by kernel_rfl) (fun _ _ _ _ _ h => h) (by assumption) (fun oi ho => by (simp only [List.getElem?_toArray, List.getElem?_cons_zero, List.getElem?_cons_succ, Option.some.injEq] at ho; subst ho); rfl) (fun oi ho => ?_)
  (simp only [List.getElem?_toArray, List.getElem?_cons_zero, List.getElem?_cons_succ, Option.some.injEq] at ho; subst ho)
  try simp only [Act.put, List.setIfInBounds_toArray, List.set_cons_zero, List.set_cons_succ]
  refine heldSkip 14 (by kernel_rfl) (by kernel_rfl) (by kernel_rfl) (by kernel_rfl) (fun _ _ _ _ _ h => h) (by assumption) (fun oi ho => by (simp only [List.getElem?_toArray, List.getElem?_cons_zero, List.getElem?_cons_succ, Option.some.injEq] at ho; subst ho); rfl) (fun oi ho => ?_)
  (simp only [List.getElem?_toArray, List.getElem?_cons_zero, List.getElem?_cons_succ, Option.some.injEq] at ho; subst ho)
  try simp only [Act.put, List.setIfInBounds_toArray, List.set_cons_zero, List.set_cons_succ]
  refine heldSkip 15 (by kernel_rfl) (by kernel_rfl) (by kernel_rfl) (by kernel_rfl) (fun _ _ _ _ _ h => h) (by assumption) (fun oi ho => by (simp only [List.getElem?_toArray, List.getElem?_cons_zero, List.getElem?_cons_succ, Option.some.injEq] at ho; subst ho); rfl) (fun oi ho => ?_)
  (simp only [List.getElem?_toArray, List.getElem?_cons_zero, List.getElem?_cons_succ, Option.some.injEq] at ho; subst ho)
  try simp only [Act.put, List.setIfInBounds_toArray, List.set_cons_zero, List.set_cons_succ]
  refine heldSkip 16 (by kernel_rfl) (by kernel_rfl) (by kernel_rfl) (by kernel_rfl) (fun _ _ _ _ _ h => h) (by assumption) (fun oi ho => by (simp only [List.getElem?_toArray, List.getElem?_cons_zero, List.getElem?_cons_succ, Option.some.injEq] at ho; subst ho); rfl) (fun oi ho => ?_)
  (simp only [List.getElem?_toArray, List.getElem?_cons_zero, List.getElem?_cons_succ, Option.some.injEq] at ho; subst ho)
  try simp only [Act.put, List.setIfInBounds_toArray, List.set_cons_zero, List.set_cons_succ]
  refine heldSkip 17 (by kernel_rfl) (by kernel_rfl) (by kernel_rfl) (by kernel_rfl) (fun _ _ _ _ _ h => h) (by assumption) (fun oi ho => by (simp only [List.getElem?_toArray, List.getElem?_cons_zero, List.getElem?_cons_succ, Option.some.injEq] at ho; subst ho); rfl) (fun oi ho => ?_)
  (simp only [List.getElem?_toArray, List.getElem?_cons_zero, List.getElem?_cons_succ, Option.some.injEq] at ho; subst ho)
  try simp only [Act.put, List.setIfInBounds_toArray, List.set_cons_zero, List.set_cons_succ]
  refine heldTake 18 (v := ?_) (by kernel_rfl) (by kernel_rfl) (by kernel_rfl) (by kernel_rfl) (fun _ _ _ _ _ h => h) (by assumption) (fun oi ho => by (simp only [List.getElem?_toArray, List.getElem?_cons_zero, List.getElem?_cons_succ, Option.some.injEq] at ho; subst ho); rfl) (fun oi ho => ?_) (fun oi ho => ?_)
  rotate_left
  · ((simp only [List.getElem?_toArray, List.getElem?_cons_zero, List.getElem?_cons_succ, Option.some.injEq] at ho; subst ho); intro wx hSx; (try dsimp only at hSx); go_simp; all_goals (with_reducible rfl))
  (simp only [List.getElem?_toArray, List.getElem?_cons_zero, List.getElem?_cons_succ, Option.some.injEq] at ho; subst ho)
  try simp only [Act.put, List.setIfInBounds_toArray, List.set_cons_zero, List.set_cons_succ]
  refine heldTake 19 (v := ?_) (by kernel_rfl) (by kernel_rfl) (by kernel_rfl) (by kernel_rfl) (fun _ _ _ _ _ h => h) (by assumption) (fun oi ho => by (simp only [List.getElem?_toArray, List.getElem?_cons_zero, List.getElem?_cons_succ, Option.some.injEq] at ho; subst ho); rfl) (fun oi ho => ?_) (fun oi ho => ?_)
  rotate_left
  · ((simp only [List.getElem?_toArray, List.getElem?_cons_zero, List.getElem?_cons_succ, Option.some.injEq] at ho; subst ho); intro wx hSx; (try dsimp only at hSx); go_simp; all_goals (with_reducible rfl))
  (simp only [List.getElem?_toArray, List.getElem?_cons_zero, List.getElem?_cons_succ, Option.some.injEq] at ho; subst ho)
  try simp only [Act.put, List.setIfInBounds_toArray, List.set_cons_zero, List.set_cons_succ]
  refine heldSkip 20 (by kernel_rfl) (by kernel_rfl) (by kernel_rfl) (by kernel_rfl) (fun _ _ _ _ _ h => h) (by assumption) (fun oi ho => by (simp only [List.getElem?_toArray, List.getElem?_cons_zero, List.getElem?_cons_succ, Option.some.injEq] at ho; subst ho); rfl) (fun oi ho => ?_)
  (simp only [List.getElem?_toArray, List.getElem?_cons_zero, List.getElem?_cons_succ, Option.some.injEq] at ho; subst ho)
  try simp only [Act.put, List.setIfInBounds_toArray, List.set_cons_zero, List.set_cons_succ]
  refine heldSkip 21 (by kernel_rfl) (by kernel_rfl) (by kernel_rfl) (by kernel_rfl) (fun _ _ _ _ _ h => h) (by assumption) (fun oi ho => by (simp only [List.getElem?_toArray, List.getElem?_cons_zero, List.getElem?_cons_succ, Option.some.injEq] at ho; subst ho); rfl) (fun oi ho => ?_)
  (simp only [List.getElem?_toArray, List.getElem?_cons_zero, List.getElem?_cons_succ, Option.some.injEq] at ho; subst ho)
  try simp only [Act.put, List.setIfInBounds_toArray, List.set_cons_zero, List.set_cons_succ]
  refine heldSkip 22 (by kernel_rfl) (by kernel_rfl) (by kernel_rfl) (by kernel_rfl) (fun _ _ _ _ _ h => h) (by assumption) (fun oi ho => by (simp only [List.getElem?_toArray, List.getElem?_cons_zero, List.getElem?_cons_succ, Option.some.injEq] at ho; subst ho); rfl) (fun oi ho => ?_)
  (simp only [List.getElem?_toArray, List.getElem?_cons_zero, List.getElem?_cons_succ, Option.some.injEq] at ho; subst ho)
  try simp only [Act.put, List.setIfInBounds_toArray, List.set_cons_zero, List.set_cons_succ]
  refine heldSkip 23 (by kernel_rfl) (by kernel_rfl) (by kernel_rfl) (by kernel_rfl) (fun _ _ _ _ _ h => h) (by assumption) (fun oi ho => by (simp only [List.getElem?_toArray, List.getElem?_cons_zero, List.getElem?_cons_succ, Option.some.injEq] at ho; subst ho); rfl) (fun oi ho => ?_)
  (simp only [List.getElem?_toArray, List.getElem?_cons_zero, List.getElem?_cons_succ, Option.some.injEq] at ho; subst ho)
  try simp only [Act.put, List.setIfInBounds_toArray, List.set_cons_zero, List.set_cons_succ]
  refine heldSkip 24 (by kernel_rfl) (by kernel_rfl) (by kernel_rfl) (by kernel_rfl) (fun _ _ _ _ _ h => h) (by assumption) (fun oi ho => by (simp only [List.getElem?_toArray, List.getElem?_cons_zero, List.getElem?_cons_succ, Option.some.injEq] at ho; subst ho); rfl) (fun oi ho => ?_)
  (simp only [List.getElem?_toArray, List.getElem?_cons_zero, List.getElem?_cons_succ, Option.some.injEq] at ho; subst ho)
  try simp only [Act.put, List.setIfInBounds_toArray, List.set_cons_zero, List.set_cons_succ]
  refine heldTake 25 (v := ?_) (by kernel_rfl) (by kernel_rfl) (by kernel_rfl) (by kernel_rfl) (fun _ _ _ _ _ h => h) (by assumption) (fun oi ho => by (simp only [List.getElem?_toArray, List.getElem?_cons_zero, List.getElem?_cons_succ, Option.some.injEq] at ho; subst ho); rfl) (fun oi ho => ?_) (fun oi ho => ?_)
  rotate_left
  · ((simp only [List.getElem?_toArray, List.getElem?_cons_zero, List.getElem?_cons_succ, Option.some.injEq] at ho; subst ho); intro wx hSx; (try dsimp only at hSx); go_simp; all_goals (with_reducible rfl))
  (simp only [List.getElem?_toArray, List.getElem?_cons_zero, List.getElem?_cons_succ, Option.some.injEq] at ho; subst ho)
  try simp only [Act.put, List.setIfInBounds_toArray, List.set_cons_zero, List.set_cons_succ]
  refine heldTake 26 (v := ?_) (by kernel_rfl) (by kernel_rfl) (by kernel_rfl) (by kernel_rfl) (fun _ _ _ _ _ h => h) (by assumption) (fun oi ho => by (simp only [List.getElem?_toArray, List.getElem?_cons_zero, List.getElem?_cons_succ, Option.some.injEq] at ho; subst ho); rfl) (fun oi ho => ?_) (fun oi ho => ?_)
  rotate_left
  · ((simp only [List.getElem?_toArray, List.getElem?_cons_zero, List.getElem?_cons_succ, Option.some.injEq] at ho; subst ho); intro wx hSx; (try dsimp only at hSx); go_simp; all_goals (with_reducible rfl))
  (simp only [List.getElem?_toArray, List.getElem?_cons_zero, List.getElem?_cons_succ, Option.some.injEq] at ho; subst ho)
  try simp only [Act.put, List.setIfInBounds_toArray, List.set_cons_zero, List.set_cons_succ]
  refine heldSkip 27 (by kernel_rfl) (by kernel_rfl) (by kernel_rfl) (by kernel_rfl) (fun _ _ _ _ _ h => h) (by assumption) (fun oi ho => by (simp only [List.getElem?_toArray, List.getElem?_cons_zero, List.getElem?_cons_succ, Option.some.injEq] at ho; subst ho); rfl) (fun oi ho => ?_)
  (simp only [List.getElem?_toArray, List.getElem?_cons_zero, List.getElem?_cons_succ, Option.some.injEq] at ho; subst ho)
  try simp only [Act.put, List.setIfInBounds_toArray, List.set_cons_zero, List.set_cons_succ]
  refine heldSkip 28 (by kernel_rfl) (by kernel_rfl) (by kernel_rfl) (by kernel_rfl) (fun _ _ _ _ _ h => h) (by assumption) (fun oi ho => by (simp only [List.getElem?_toArray, List.getElem?_cons_zero, List.getElem?_cons_succ, Option.some.injEq] at ho; subst ho); rfl) (fun oi ho => ?_)
  (simp only [List.getElem?_toArray, List.getElem?_cons_zero, List.getElem?_cons_succ, Option.some.injEq] at ho; subst ho)
  try simp only [Act.put, List.setIfInBounds_toArray, List.set_cons_zero, List.set_cons_succ]
  refine heldSkip 29 (by kernel_rfl) (by kernel_rfl) (by kernel_rfl) (by kernel_rfl) (fun _ _ _ _ _ h => h) (by assumption) (fun oi ho => by (simp only [List.getElem?_toArray, List.getElem?_cons_zero, List.getElem?_cons_succ, Option.some.injEq] at ho; subst ho); rfl) (fun oi ho => ?_)
  (simp only [List.getElem?_toArray, List.getElem?_cons_zero, List.getElem?_cons_succ, Option.some.injEq] at ho; subst ho)
  try simp only [Act.put, List.setIfInBounds_toArray, List.set_cons_zero, List.set_cons_succ]
  refine heldSkip 30 (by kernel_rfl) (by kernel_rfl) (by kernel_rfl) (by kernel_rfl) (fun _ _ _ _ _ h => h) (by assumption) (fun oi ho => by (simp only [List.getElem?_toArray, List.getElem?_cons_zero, List.getElem?_cons_succ, Option.some.injEq] at ho; subst ho); rfl) (fun oi ho => ?_)
  (simp only [List.getElem?_toArray, List.getElem?_cons_zero, List.getElem?_cons_succ, Option.some.injEq] at ho; subst ho)
  try simp only [Act.put, List.setIfInBounds_toArray, List.set_cons_zero, List.set_cons_succ]
  refine heldSkip 31 (by kernel_rfl) (by kernel_rfl) (by kernel_rfl) (by kernel_rfl) (fun _ _ _ _ _ h => h) (by assumption) (fun oi ho => by (simp only [List.getElem?_toArray, List.getElem?_cons_zero, List.getElem?_cons_succ, Option.some.injEq] at ho; subst ho); rfl) (fun oi ho => ?_)
  (simp only [List.getElem?_toArray, List.getElem?_cons_zero, List.getElem?_cons_succ, Option.some.injEq] at ho; subst ho)
  try simp only [Act.put, List.setIfInBounds_toArray, List.set_cons_zero, List.set_cons_succ]
  refine heldSkip 32 (by kernel_rfl) (by kernel_rfl) (by kernel_rfl) (by kernel_rfl) (fun _ _ _ _ _ h => h) (by assumption) (fun oi ho => by (simp only [List.getElem?_toArray, List.getElem?_cons_zero, List.getElem?_cons_succ, Option.some.injEq] at ho; subst ho); rfl) (fun oi ho => ?_)
  (simp only [List.getElem?_toArray, List.getElem?_cons_zero, List.getElem?_cons_succ, Option.some.injEq] at ho; subst ho)
  try simp only [Act.put, List.setIfInBounds_toArray, List.set_cons_zero, List.set_cons_succ]
  refine heldSkip 33 (by kernel_rfl) (by kernel_rfl) (by kernel_rfl) (by kernel_rfl) (fun _ _ _ _ _ h => h) (by assumption) (fun oi ho => by (simp only [List.getElem?_toArray, List.getElem?_cons_zero, List.getElem?_cons_succ, Option.some.injEq] at ho; subst ho); rfl) (fun oi ho => ?_)
  (simp only [List.getElem?_toArray, List.getElem?_cons_zero, List.getElem?_cons_succ, Option.some.injEq] at ho; subst ho)
  try simp only [Act.put, List.setIfInBounds_toArray, List.set_cons_zero, List.set_cons_succ]
  refine heldSkip 34 (by kernel_rfl) (by kernel_rfl) (by kernel_rfl) (by kernel_rfl) (fun _ _ _ _ _ h => h) (by assumption) (fun oi ho => by (simp only [List.getElem?_toArray, List.getElem?_cons_zero, List.getElem?_cons_succ, Option.some.injEq] at ho; subst ho); rfl) (fun oi ho => ?_)
  (simp only [List.getElem?_toArray, List.getElem?_cons_zero, List.getElem?_cons_succ, Option.some.injEq] at ho; subst ho)
  try simp only [Act.put, List.setIfInBounds_toArray, List.set_cons_zero, List.set_cons_succ]
  refine heldSkip 35 (by kernel_rfl) (by kernel_rfl) (by kernel_rfl) (by kernel_rfl) (fun _ _ _ _ _ h => h) (by assumption) (fun oi ho => by (simp only [List.getElem?_toArray, List.getElem?_cons_zero, List.getElem?_cons_succ, Option.some.injEq] at ho; subst ho); rfl) (fun oi ho => ?_)
  (simp only [List.getElem?_toArray, List.getElem?_cons_zero, List.getElem?_cons_succ, Option.some.injEq] at ho; subst ho)
  try simp only [Act.put, List.setIfInBounds_toArray, List.set_cons_zero, List.set_cons_succ]
  refine heldSkip 36 (by kernel_rfl) (by kernel_rfl) (by kernel_rfl) (by kernel_rfl) (fun _ _ _ _ _ h => h) (by assumption) (fun oi ho => by (simp only [List.getElem?_toArray, List.getElem?_cons_zero, List.getElem?_cons_succ, Option.some.injEq] at ho; subst ho); rfl) (fun oi ho => ?_)
  (simp only [List.getElem?_toArray, List.getElem?_cons_zero, List.getElem?_cons_succ, Option.some.injEq] at ho; subst ho)
  try simp only [Act.put, List.setIfInBounds_toArray, List.set_cons_zero, List.set_cons_succ]
  refine heldSkip 37 (by kernel_rfl) (by kernel_rfl) (by kernel_rfl) (by kernel_rfl) (fun _ _ _ _ _ h => h) (by assumption) (fun oi ho => by (simp only [List.getElem?_toArray, List.getElem?_cons_zero, List.getElem?_cons_succ, Option.some.injEq] at ho; subst ho); rfl) (fun oi ho => ?_)
  (simp only [List.getElem?_toArray, List.getElem?_cons_zero, List.getElem?_cons_succ, Option.some.injEq] at ho; subst ho)
  try simp only [Act.put, List.setIfInBounds_toArray, List.set_cons_zero, List.set_cons_succ]
  refine heldTake 38 (v := ?_) (by kernel_rfl) (by kernel_rfl) (by kernel_rfl) (by kernel_rfl) (fun _ _ _ _ _ h => h) (by assumption) (fun oi ho => by (simp only [List.getElem?_toArray, List.getElem?_cons_zero, List.getElem?_cons_succ, Option.some.injEq] at ho; subst ho); rfl) (fun oi ho => ?_) (fun oi ho => ?_)
  rotate_left
  · ((simp only [List.getElem?_toArray, List.getElem?_cons_zero, List.getElem?_cons_succ, Option.some.injEq] at ho; subst ho); intro wx hSx; (try dsimp only at hSx); go_simp; all_goals (with_reducible rfl))
  (simp only [List.getElem?_toArray, List.getElem?_cons_zero, List.getElem?_cons_succ, Option.some.injEq] at ho; subst ho)
  try simp only [Act.put, List.setIfInBounds_toArray, List.set_cons_zero, List.set_cons_succ]
  refine wpAnyH_done (by kernel_rfl) ?_ _
  refine NoPanic.normal ?_
  go_wp2
  go_ret2
  refine ⟨_, (congrArg (fun x => Ending.returned (.tuple #[_, .bool x])) HOK.out.symm), ?_⟩
  exact HBT.out _ hbC
end Go.Proofs.Ytikioeddilgbpaa
