/-
  AluOne: for every registers and numbers the call returns true.
-/
import Derived.Test.YtikioeddilgbpaaAluOne0
import Derived.Test.YtikioeddilgbpaaQuick
namespace Go.Proofs.Ytikioeddilgbpaa
open Go.RowKit

set_option linter.unusedSimpArgs false
set_option maxRecDepth 100000 in
set_option maxHeartbeats 8000000 in
theorem one_walk (r : List Int) (a b c : Int) (w : World) (hr : regsOk r) :
    Calls Try.prog 4 #[.agg (regCells r), .int .i64 a, .int .i64 b, .int .i64 c] w fun e w' => e = .returned (.bool true) ∧ Below w.heap.size w w' := by
  obtain ⟨ia, hia, hva⟩ := and15_n a
  obtain ⟨ib, hib, hvb⟩ := and15_n b
  obtain ⟨ic, hic, hvc⟩ := and15_n c
  obtain ⟨xb, hxb⟩ : ∃ x, r.getD ib 0 = x := ⟨_, rfl⟩
  obtain ⟨xc, hxc⟩ : ∃ x, r.getD ic 0 = x := ⟨_, rfl⟩
  have ub : U32 xb := by rw [← hxb]; exact getD_u32 hr.2 ib
  have uc : U32 xc := by rw [← hxc]; exact getD_u32 hr.2 ic
  obtain ⟨N, P1, Q1, P2, Q2, f0, f1, f2, f3, f4, f5, f6⟩ := one_facts xb xc ub uc Try.prog
  obtain ⟨g1, g2⟩ := sum_facts xb xc ub uc
  obtain ⟨j1, j2, j3, j4, j5⟩ := cmp_facts xb xc ub uc
  have HD4 : Hid (∀ wx, Calls Try.prog 10 #[insV ⟨4, ia, ib, ic, 0⟩, .agg (regCells r)] wx fun e w' => e = .returned (.tuple #[.agg (regCells (r.set ia ((xb - xc) % 4294967296))), .bool true]) ∧ Below wx.heap.size wx w') := Lib.hid fun wx => (do_any ⟨4, ia, ib, ic, 0⟩ r hr.1 hr.2 wx).mono fun e w' ⟨he, hb⟩ => ⟨by rw [he]; unfold aluV; rw [show aluR ⟨4, ia, ib, ic, 0⟩ r = (r.set ia ((xb - xc) % 4294967296), true) by rw [← hxb, ← hxc, aluR_fn (wok_fn 4 (by decide) ia ib ic hia hib hic) (by decide), Nat.mod_eq_of_lt hic]; rfl], hb⟩
  have HD11 : Hid (∀ wx, Calls Try.prog 10 #[insV ⟨11, ia, ib, ic, 0⟩, .agg (regCells r)] wx fun e w' => e = .returned (.tuple #[.agg (regCells (r.set ia (eqV xb xc))), .bool true]) ∧ Below wx.heap.size wx w') := Lib.hid fun wx => (do_any ⟨11, ia, ib, ic, 0⟩ r hr.1 hr.2 wx).mono fun e w' ⟨he, hb⟩ => ⟨by rw [he]; unfold aluV; rw [show aluR ⟨11, ia, ib, ic, 0⟩ r = (r.set ia (eqV xb xc), true) by rw [← hxb, ← hxc, aluR_fn (wok_fn 11 (by decide) ia ib ic hia hib hic) (by decide), Nat.mod_eq_of_lt hic]; rfl], hb⟩
  have HD10 : Hid (∀ wx, Calls Try.prog 10 #[insV ⟨10, ia, ib, ic, 0⟩, .agg (regCells r)] wx fun e w' => e = .returned (.tuple #[.agg (regCells (r.set ia (ltV xb xc))), .bool true]) ∧ Below wx.heap.size wx w') := Lib.hid fun wx => (do_any ⟨10, ia, ib, ic, 0⟩ r hr.1 hr.2 wx).mono fun e w' ⟨he, hb⟩ => ⟨by rw [he]; unfold aluV; rw [show aluR ⟨10, ia, ib, ic, 0⟩ r = (r.set ia (ltV xb xc), true) by rw [← hxb, ← hxc, aluR_fn (wok_fn 10 (by decide) ia ib ic hia hib hic) (by decide), Nat.mod_eq_of_lt hic]; rfl], hb⟩
  have HD3 : Hid (∀ wx, Calls Try.prog 10 #[insV ⟨3, ia, ib, ic, 0⟩, .agg (regCells r)] wx fun e w' => e = .returned (.tuple #[.agg (regCells (r.set ia ((xb + xc) % 4294967296))), .bool true]) ∧ Below wx.heap.size wx w') := Lib.hid fun wx => (do_any ⟨3, ia, ib, ic, 0⟩ r hr.1 hr.2 wx).mono fun e w' ⟨he, hb⟩ => ⟨by rw [he]; unfold aluV; rw [show aluR ⟨3, ia, ib, ic, 0⟩ r = (r.set ia ((xb + xc) % 4294967296), true) by rw [← hxb, ← hxc, aluR_fn (wok_fn 3 (by decide) ia ib ic hia hib hic) (by decide), Nat.mod_eq_of_lt hic]; rfl], hb⟩
  have HD5 : Hid (∀ wx, Calls Try.prog 10 #[insV ⟨5, ia, ib, ic, 0⟩, .agg (regCells r)] wx fun e w' => e = .returned (.tuple #[.agg (regCells (r.set ia (bits BinOp.and IntKind.u32 xb xc))), .bool true]) ∧ Below wx.heap.size wx w') := Lib.hid fun wx => (do_any ⟨5, ia, ib, ic, 0⟩ r hr.1 hr.2 wx).mono fun e w' ⟨he, hb⟩ => ⟨by rw [he]; unfold aluV; rw [show aluR ⟨5, ia, ib, ic, 0⟩ r = (r.set ia (bits BinOp.and IntKind.u32 xb xc), true) by rw [← hxb, ← hxc, aluR_fn (wok_fn 5 (by decide) ia ib ic hia hib hic) (by decide), Nat.mod_eq_of_lt hic]; rfl], hb⟩
  have HD6 : Hid (∀ wx, Calls Try.prog 10 #[insV ⟨6, ia, ib, ic, 0⟩, .agg (regCells r)] wx fun e w' => e = .returned (.tuple #[.agg (regCells (r.set ia (bits BinOp.or IntKind.u32 xb xc))), .bool true]) ∧ Below wx.heap.size wx w') := Lib.hid fun wx => (do_any ⟨6, ia, ib, ic, 0⟩ r hr.1 hr.2 wx).mono fun e w' ⟨he, hb⟩ => ⟨by rw [he]; unfold aluV; rw [show aluR ⟨6, ia, ib, ic, 0⟩ r = (r.set ia (bits BinOp.or IntKind.u32 xb xc), true) by rw [← hxb, ← hxc, aluR_fn (wok_fn 6 (by decide) ia ib ic hia hib hic) (by decide), Nat.mod_eq_of_lt hic]; rfl], hb⟩
  have HD7 : Hid (∀ wx, Calls Try.prog 10 #[insV ⟨7, ia, ib, ic, 0⟩, .agg (regCells r)] wx fun e w' => e = .returned (.tuple #[.agg (regCells (r.set ia (bits BinOp.xor IntKind.u32 xb xc))), .bool true]) ∧ Below wx.heap.size wx w') := Lib.hid fun wx => (do_any ⟨7, ia, ib, ic, 0⟩ r hr.1 hr.2 wx).mono fun e w' ⟨he, hb⟩ => ⟨by rw [he]; unfold aluV; rw [show aluR ⟨7, ia, ib, ic, 0⟩ r = (r.set ia (bits BinOp.xor IntKind.u32 xb xc), true) by rw [← hxb, ← hxc, aluR_fn (wok_fn 7 (by decide) ia ib ic hia hib hic) (by decide), Nat.mod_eq_of_lt hic]; rfl], hb⟩
  have HD8 : Hid (∀ wx, Calls Try.prog 10 #[insV ⟨8, ia, ib, ic, 0⟩, .agg (regCells r)] wx fun e w' => e = .returned (.tuple #[.agg (regCells (r.set ia (shlV xb xc))), .bool true]) ∧ Below wx.heap.size wx w') := Lib.hid fun wx => (do_any ⟨8, ia, ib, ic, 0⟩ r hr.1 hr.2 wx).mono fun e w' ⟨he, hb⟩ => ⟨by rw [he]; unfold aluV; rw [show aluR ⟨8, ia, ib, ic, 0⟩ r = (r.set ia (shlV xb xc), true) by rw [← hxb, ← hxc, aluR_fn (wok_fn 8 (by decide) ia ib ic hia hib hic) (by decide), Nat.mod_eq_of_lt hic]; rfl], hb⟩
  have HD9 : Hid (∀ wx, Calls Try.prog 10 #[insV ⟨9, ia, ib, ic, 0⟩, .agg (regCells r)] wx fun e w' => e = .returned (.tuple #[.agg (regCells (r.set ia (shrV xb xc))), .bool true]) ∧ Below wx.heap.size wx w') := Lib.hid fun wx => (do_any ⟨9, ia, ib, ic, 0⟩ r hr.1 hr.2 wx).mono fun e w' ⟨he, hb⟩ => ⟨by rw [he]; unfold aluV; rw [show aluR ⟨9, ia, ib, ic, 0⟩ r = (r.set ia (shrV xb xc), true) by rw [← hxb, ← hxc, aluR_fn (wok_fn 9 (by decide) ia ib ic hia hib hic) (by decide), Nat.mod_eq_of_lt hic]; rfl], hb⟩
  have HD24 : Hid (∀ wx, Calls Try.prog 10 #[insV ⟨24, ia, ib, ic, 0⟩, .agg (regCells r)] wx fun e w' => e = .returned (.tuple #[.agg (regCells (r.set ia (xb * xc % 4294967296))), .bool true]) ∧ Below wx.heap.size wx w') := Lib.hid fun wx => (do_any ⟨24, ia, ib, ic, 0⟩ r hr.1 hr.2 wx).mono fun e w' ⟨he, hb⟩ => ⟨by rw [he]; unfold aluV; rw [show aluR ⟨24, ia, ib, ic, 0⟩ r = (r.set ia (xb * xc % 4294967296), true) by rw [← hxb, ← hxc, aluR_fn (wok_fn 24 (by decide) ia ib ic hia hib hic) (by decide), Nat.mod_eq_of_lt hic]; rfl], hb⟩
  obtain ⟨SB, hSB⟩ : ∃ x, (xb - xc) % 4294967296 = x := ⟨_, rfl⟩
  rw [hSB] at HD4
  obtain ⟨EQ, hEQ⟩ : ∃ x, eqV xb xc = x := ⟨_, rfl⟩
  rw [hEQ] at HD11
  obtain ⟨LT, hLT⟩ : ∃ x, ltV xb xc = x := ⟨_, rfl⟩
  rw [hLT] at HD10
  obtain ⟨SM, hSM⟩ : ∃ x, (xb + xc) % 4294967296 = x := ⟨_, rfl⟩
  rw [hSM] at HD3
  obtain ⟨AN, hAN⟩ : ∃ x, bits BinOp.and IntKind.u32 xb xc = x := ⟨_, rfl⟩
  rw [hAN] at HD5
  obtain ⟨OR, hOR⟩ : ∃ x, bits BinOp.or IntKind.u32 xb xc = x := ⟨_, rfl⟩
  rw [hOR] at HD6
  obtain ⟨XO, hXO⟩ : ∃ x, bits BinOp.xor IntKind.u32 xb xc = x := ⟨_, rfl⟩
  rw [hXO] at HD7
  obtain ⟨SL, hSL⟩ : ∃ x, shlV xb xc = x := ⟨_, rfl⟩
  rw [hSL] at HD8
  obtain ⟨SR, hSR⟩ : ∃ x, shrV xb xc = x := ⟨_, rfl⟩
  rw [hSR] at HD9
  obtain ⟨MU, hMU⟩ : ∃ x, xb * xc % 4294967296 = x := ⟨_, rfl⟩
  rw [hMU] at HD24
  rw [hSL] at f1
  rw [hSR] at f4
  rw [hOR, hAN, hSM] at g1
  rw [hOR, hAN, hXO] at g2
  rw [hSB, hEQ] at j1
  rw [hEQ] at j2 j4
  rw [hLT] at j3 j4 j5
  obtain ⟨zb, hzb⟩ : ∃ x, (EQ == 1) = x := ⟨_, rfl⟩
  rw [hzb] at j1
  obtain ⟨lb, hlb⟩ : ∃ x, decide (xb < xc) = x := ⟨_, rfl⟩
  rw [hlb] at j5
  have HL := Lib.hid hr.1
  have HIA := Lib.hid hia
  have HGB := Lib.hid (regs_at r hr.1 ib xb hib hxb)
  have HGC := Lib.hid (regs_at r hr.1 ic xc hic hxc)
  have hsz := regs_size r hr.1
  have hib0 : (0 : Int) ≤ (ib : Int) := by omega
  have hib1 : (ib : Int) < 16 := by omega
  have hic0 : (0 : Int) ≤ (ic : Int) := by omega
  have hic1 : (ic : Int) < 16 := by omega
  have HF : Hid (bits BinOp.and IntKind.u32 xc 31 = (N : Int) ∧ (∀ W, (Op.shift BinOp.shr IntKind.u32 SL IntKind.u32 (N : Int)).run Try.prog W = .ok (.int .u32 P1) W) ∧ (∀ W, (Op.shift BinOp.shr IntKind.u32 4294967295 IntKind.u32 (N : Int)).run Try.prog W = .ok (.int .u32 Q1) W) ∧ bits BinOp.and IntKind.u32 xb Q1 = P1 ∧ (∀ W, (Op.shift BinOp.shl IntKind.u32 SR IntKind.u32 (N : Int)).run Try.prog W = .ok (.int .u32 P2) W) ∧ (∀ W, (Op.shift BinOp.shl IntKind.u32 4294967295 IntKind.u32 (N : Int)).run Try.prog W = .ok (.int .u32 Q2) W) ∧ bits BinOp.and IntKind.u32 xb Q2 = P2 ∧ (xb - xc) % 4294967296 = SB ∧ xb * xc % 4294967296 = MU ∧ (OR + AN) % 4294967296 = SM ∧ (OR - AN) % 4294967296 = XO ∧ (SB == 0) = zb ∧ (EQ == 1) = zb ∧ EQ ≤ 1 ∧ LT ≤ 1 ∧ (EQ + LT) % 4294967296 ≤ 1 ∧ (LT == 1) = lb ∧ decide (xb < xc) = lb) := Lib.hid ⟨f0, f1, f2, f3, f4, f5, f6, hSB, hMU, g1, g2, j1, hzb, j2, j3, j4, j5, hlb⟩
  clear f0 f1 f2 f3 f4 f5 f6 g1 g2 j1 j2 j3 j4 j5 hzb hlb ub uc hxb hxc hia hib hic hr hSB hEQ hLT hSM hAN hOR hXO hSL hSR hMU
  go_enter Try.func4, Try.ntmps4
  go_wp2_with fail
  refine (alu_first _).mono ?_
  rintro e w1 ⟨rfl, hb1⟩
  obtain ⟨k0, k1, k2, k3, hs1⟩ := four_0 hb1
  have HB1 : Hid (Below w.heap.size w w1) := Lib.hid ((four_below w _ _ _ _).trans (hb1.mono (four_below w _ _ _ _).size))
  have c1 := blk_cell k1 0
  have c2 := blk_cell k2 0
  have c3 := blk_cell k3 0
  have f1 := blk_free k1 0
  have f2 := blk_free k2 0
  have f3 := blk_free k3 0
  have HWB : Hid (Below w.heap.size w (((w1.setCell ⟨w.heap.size + 1, 0, none⟩ (.int .i64 ia)).setCell ⟨w.heap.size + 1 + 1, 0, none⟩ (.int .i64 ib)).setCell ⟨w.heap.size + 1 + 1 + 1, 0, none⟩ (.int .i64 ic))) := Lib.hid (((HB1.out.setCell (p := ⟨w.heap.size + 1, 0, none⟩) (Nat.le_succ _) _).setCell (p := ⟨w.heap.size + 1 + 1, 0, none⟩) (Nat.le_add_right w.heap.size 2) _).setCell (p := ⟨w.heap.size + 1 + 1 + 1, 0, none⟩) (Nat.le_add_right w.heap.size 3) _)
  have e0 : (((w1.setCell ⟨w.heap.size + 1, 0, none⟩ (.int .i64 ia)).setCell ⟨w.heap.size + 1 + 1, 0, none⟩ (.int .i64 ib)).setCell ⟨w.heap.size + 1 + 1 + 1, 0, none⟩ (.int .i64 ic)).heap[w.heap.size]? = some (.cells (regCells r) 24 (0, 0)) := blk_set (blk_set (blk_set k0 (by show ¬ w.heap.size = w.heap.size + 1; omega) _) (by show ¬ w.heap.size = w.heap.size + 1 + 1; omega) _) (by show ¬ w.heap.size = w.heap.size + 1 + 1 + 1; omega) _
  have e1 : (((w1.setCell ⟨w.heap.size + 1, 0, none⟩ (.int .i64 ia)).setCell ⟨w.heap.size + 1 + 1, 0, none⟩ (.int .i64 ib)).setCell ⟨w.heap.size + 1 + 1 + 1, 0, none⟩ (.int .i64 ic)).heap[w.heap.size + 1]? = some (.cells #[.int .i64 ia] 3 (0, 0)) := blk_set (blk_set (blk_put k1 0 _) (by show ¬ w.heap.size + 1 = w.heap.size + 1 + 1; omega) _) (by show ¬ w.heap.size + 1 = w.heap.size + 1 + 1 + 1; omega) _
  have e2 : (((w1.setCell ⟨w.heap.size + 1, 0, none⟩ (.int .i64 ia)).setCell ⟨w.heap.size + 1 + 1, 0, none⟩ (.int .i64 ib)).setCell ⟨w.heap.size + 1 + 1 + 1, 0, none⟩ (.int .i64 ic)).heap[w.heap.size + 1 + 1]? = some (.cells #[.int .i64 ib] 3 (0, 0)) := blk_set (blk_put (blk_set k2 (by show ¬ w.heap.size + 1 + 1 = w.heap.size + 1; omega) _) 0 _) (by show ¬ w.heap.size + 1 + 1 = w.heap.size + 1 + 1 + 1; omega) _
  have e3 : (((w1.setCell ⟨w.heap.size + 1, 0, none⟩ (.int .i64 ia)).setCell ⟨w.heap.size + 1 + 1, 0, none⟩ (.int .i64 ib)).setCell ⟨w.heap.size + 1 + 1 + 1, 0, none⟩ (.int .i64 ic)).heap[w.heap.size + 1 + 1 + 1]? = some (.cells #[.int .i64 ic] 3 (0, 0)) := blk_put (blk_set (blk_set k3 (by show ¬ w.heap.size + 1 + 1 + 1 = w.heap.size + 1; omega) _) (by show ¬ w.heap.size + 1 + 1 + 1 = w.heap.size + 1 + 1; omega) _) 0 _
  have HK : Hid (∀ wx, Below (((w1.setCell ⟨w.heap.size + 1, 0, none⟩ (.int .i64 ia)).setCell ⟨w.heap.size + 1 + 1, 0, none⟩ (.int .i64 ib)).setCell ⟨w.heap.size + 1 + 1 + 1, 0, none⟩ (.int .i64 ic)).heap.size (((w1.setCell ⟨w.heap.size + 1, 0, none⟩ (.int .i64 ia)).setCell ⟨w.heap.size + 1 + 1, 0, none⟩ (.int .i64 ib)).setCell ⟨w.heap.size + 1 + 1 + 1, 0, none⟩ (.int .i64 ic)) wx → wx.cell? ⟨w.heap.size + 1, 0, none⟩ = some (.int .i64 ia) ∧ wx.cell? ⟨w.heap.size + 1 + 1, 0, none⟩ = some (.int .i64 ib) ∧ wx.cell? ⟨w.heap.size + 1 + 1 + 1, 0, none⟩ = some (.int .i64 ic) ∧ wx.heap[w.heap.size]? = some (.cells (regCells r) 24 (0, 0))) := Lib.hid fun wx h => by
    have q0 : wx.heap[w.heap.size]? = _ := (h.block _ (blk_lt e0)).trans e0
    have q1 : wx.heap[w.heap.size + 1]? = _ := (h.block _ (blk_lt e1)).trans e1
    have q2 : wx.heap[w.heap.size + 1 + 1]? = _ := (h.block _ (blk_lt e2)).trans e2
    have q3 : wx.heap[w.heap.size + 1 + 1 + 1]? = _ := (h.block _ (blk_lt e3)).trans e3
    exact ⟨blk_cell q1 0, blk_cell q2 0, blk_cell q3 0, q0⟩
  have HM0 : Hid (Below (((w1.setCell ⟨w.heap.size + 1, 0, none⟩ (.int .i64 ia)).setCell ⟨w.heap.size + 1 + 1, 0, none⟩ (.int .i64 ib)).setCell ⟨w.heap.size + 1 + 1 + 1, 0, none⟩ (.int .i64 ic)).heap.size (((w1.setCell ⟨w.heap.size + 1, 0, none⟩ (.int .i64 ia)).setCell ⟨w.heap.size + 1 + 1, 0, none⟩ (.int .i64 ib)).setCell ⟨w.heap.size + 1 + 1 + 1, 0, none⟩ (.int .i64 ic)) (((w1.setCell ⟨w.heap.size + 1, 0, none⟩ (.int .i64 ia)).setCell ⟨w.heap.size + 1 + 1, 0, none⟩ (.int .i64 ib)).setCell ⟨w.heap.size + 1 + 1 + 1, 0, none⟩ (.int .i64 ic))) := Lib.hid (Below.refl _ _)
  clear hb1 k0 k1 k2 k3 hs1 e0 e1 e2 e3
  go_wp2_with fail
  obtain ⟨u1, u2, u3, u4⟩ := HK.out _ HM0.out
  refine (clo_any 4 ia ib ic r SB HL.out _ _ _ _ _ HD4 u1 u2 u3 u4 HIA.out).mono ?_
  rintro e v0 ⟨rfl, hb⟩
  have HM1 := Lib.hid (HM0.out.trans (hb.mono HM0.out.size))
  clear hb u1 u2 u3 u4 HM0
  go_wp2_with fail
  obtain ⟨u1, u2, u3, u4⟩ := HK.out _ HM1.out
  refine (clo_any 11 ia ib ic r EQ HL.out _ _ _ _ _ HD11 u1 u2 u3 u4 HIA.out).mono ?_
  rintro e v1 ⟨rfl, hb⟩
  have HM2 := Lib.hid (HM1.out.trans (hb.mono HM1.out.size))
  clear hb u1 u2 u3 u4 HM1
  go_wp2_with fail
  obtain ⟨u1, u2, u3, u4⟩ := HK.out _ HM2.out
  refine (clo_any 10 ia ib ic r LT HL.out _ _ _ _ _ HD10 u1 u2 u3 u4 HIA.out).mono ?_
  rintro e v2 ⟨rfl, hb⟩
  have HM3 := Lib.hid (HM2.out.trans (hb.mono HM2.out.size))
  clear hb u1 u2 u3 u4 HM2
  go_wp2_with fail
  obtain ⟨u1, u2, u3, u4⟩ := HK.out _ HM3.out
  refine (clo_any 3 ia ib ic r SM HL.out _ _ _ _ _ HD3 u1 u2 u3 u4 HIA.out).mono ?_
  rintro e v3 ⟨rfl, hb⟩
  have HM4 := Lib.hid (HM3.out.trans (hb.mono HM3.out.size))
  clear hb u1 u2 u3 u4 HM3
  go_wp2_with fail
  obtain ⟨u1, u2, u3, u4⟩ := HK.out _ HM4.out
  refine (clo_any 5 ia ib ic r AN HL.out _ _ _ _ _ HD5 u1 u2 u3 u4 HIA.out).mono ?_
  rintro e v4 ⟨rfl, hb⟩
  have HM5 := Lib.hid (HM4.out.trans (hb.mono HM4.out.size))
  clear hb u1 u2 u3 u4 HM4
  go_wp2_with fail
  obtain ⟨u1, u2, u3, u4⟩ := HK.out _ HM5.out
  refine (clo_any 6 ia ib ic r OR HL.out _ _ _ _ _ HD6 u1 u2 u3 u4 HIA.out).mono ?_
  rintro e v5 ⟨rfl, hb⟩
  have HM6 := Lib.hid (HM5.out.trans (hb.mono HM5.out.size))
  clear hb u1 u2 u3 u4 HM5
  go_wp2_with fail
  obtain ⟨u1, u2, u3, u4⟩ := HK.out _ HM6.out
  refine (clo_any 7 ia ib ic r XO HL.out _ _ _ _ _ HD7 u1 u2 u3 u4 HIA.out).mono ?_
  rintro e v6 ⟨rfl, hb⟩
  have HM7 := Lib.hid (HM6.out.trans (hb.mono HM6.out.size))
  clear hb u1 u2 u3 u4 HM6
  go_wp2_with fail
  obtain ⟨u1, u2, u3, u4⟩ := HK.out _ HM7.out
  refine (clo_any 8 ia ib ic r SL HL.out _ _ _ _ _ HD8 u1 u2 u3 u4 HIA.out).mono ?_
  rintro e v7 ⟨rfl, hb⟩
  have HM8 := Lib.hid (HM7.out.trans (hb.mono HM7.out.size))
  clear hb u1 u2 u3 u4 HM7
  go_wp2_with fail
  obtain ⟨u1, u2, u3, u4⟩ := HK.out _ HM8.out
  refine (clo_any 9 ia ib ic r SR HL.out _ _ _ _ _ HD9 u1 u2 u3 u4 HIA.out).mono ?_
  rintro e v8 ⟨rfl, hb⟩
  have HM9 := Lib.hid (HM8.out.trans (hb.mono HM8.out.size))
  clear hb u1 u2 u3 u4 HM8
  go_wp2_with fail
  obtain ⟨u1, u2, u3, u4⟩ := HK.out _ HM9.out
  refine (clo_any 24 ia ib ic r MU HL.out _ _ _ _ _ HD24 u1 u2 u3 u4 HIA.out).mono ?_
  rintro e v9 ⟨rfl, hb⟩
  have HM10 := Lib.hid (HM9.out.trans (hb.mono HM9.out.size))
  clear hb u1 u2 u3 u4 HM9
  obtain ⟨u1, u2, u3, u4⟩ := HK.out _ HM10.out
  have u5 := (blk_cell u4 ib).trans HGB.out
  have u6 := (blk_cell u4 ic).trans HGC.out
  have HB : Hid (Below w.heap.size w v9) := Lib.hid (HWB.out.trans (HM10.out.mono HWB.out.size))
  obtain ⟨f0, f1, f2, f3, f4, f5, f6, hSB, hMU, g1, g2, j1, hzb, j2, j3, j4, j5, hlb⟩ := HF.out
  clear u4
  go_wp2_with fail
  dsimp only [List.append]
  refine wp_region_quiet_lit (by kernel_rfl) (lexB_quick (by kernel_rfl) (by kernel_rfl)) ?_
  repeat (go_big_quiet_step (fail))
  refine wpQuiet_nil ?_
  intro _ hw'
  obtain ⟨nq, hw''⟩ := hw'
  subst hw''
  go_wp2
  go_ret
  exact ⟨rfl, below_drewN HB.out _⟩
end Go.Proofs.Ytikioeddilgbpaa
