/-
  Chapter 4: alu.Do: a move, a sum, a difference, what both have.
-/
import Derived.Test.YtikioeddilgbpaaAlF
namespace Go.Proofs.Ytikioeddilgbpaa
open Go.RowKit

set_option linter.unusedSimpArgs false
set_option maxRecDepth 100000 in
set_option maxHeartbeats 4000000 in
theorem do_2 (imm : Int) (ia ib ic : Nat) (r : List Int) (hl : r.length = 16) (w : World) (hok : wok ⟨2, ia, ib, ic, imm⟩ = true) (hia : ia < 16) (hib : ib < 16) (xb xc : Int) (hxb : r.getD ib 0 = xb) (hxc : r.getD (ic % 16) 0 = xc)  :
    Calls Try.prog 10 #[insV ⟨2, ia, ib, ic, imm⟩, .agg (regCells r)] w fun e w' => e = .returned (.tuple #[.agg (regCells (r.set ia (rk 2 xb xc))), .bool true]) ∧ Below w.heap.size w w' := by
  have HOK := Lib.hid hok
  have HXB : Hid ((regCells r)[ib]? = some (.int .u32 xb)) := Lib.hid (regs_at r hl ib xb hib hxb)
  have HXC : Hid ((regCells r)[ic % 16]? = some (.int .u32 xc)) := Lib.hid (regs_at r hl (ic % 16) xc (Nat.mod_lt _ (by decide)) hxc)
  have hib0 : (0 : Int) ≤ (ib : Int) := by omega
  have hib1 : (ib : Int) < 16 := by omega
  have hia0 : (0 : Int) ≤ (ia : Int) := by omega
  have hia1 : (ia : Int) < 16 := by omega
  have hsz := regs_size r hl
  have HL := Lib.hid hl
  obtain ⟨jc, hjc⟩ : ∃ jc, ic % 16 = jc := ⟨_, rfl⟩
  have hj16 : jc < 16 := by rw [← hjc]; exact Nat.mod_lt _ (by decide)
  have hct := tmod_16 ic jc hjc
  rw [hjc] at HXC
  obtain ⟨hcw, hcw2, hic0, hic1⟩ := small_i64 jc hj16
  clear hok hxb hxc hl hjc
  have HDV : Hid (doesV 2 xb xc = .func (.func 27) #[prV xb xc] #[]) := Lib.hid rfl
  obtain ⟨x, hx⟩ : ∃ x, rk 2 xb xc = x := ⟨_, rfl⟩
  have HX := Lib.hid hx
  have HF : Hid (∀ wx, Calls Try.prog 27 #[prV xb xc] wx fun e w' => e = .returned (.int .u32 x) ∧ Below wx.heap.size wx w') := Lib.hid fun wx => by rw [← hx]; exact pr_2 xb xc wx
  rw [hx]
  clear hx
  have hneq : ∀ W, (binOp .neq 41 (.func (.func 27) #[prV xb xc] #[]) .nilFunc).run Try.prog W = .ok (.bool true) W := fun W => neq_func _ _ W
  go_enter Try.func10, Try.ntmps10
  go_wp2_with fail
  refine (word_any ⟨2, ia, ib, ic, imm⟩ _).mono ?_
  rintro e w1 ⟨u, rfl, hb1⟩
  rw [HOK.out]
  obtain ⟨k0, k1, k2, hs1⟩ := three_0 hb1
  have HB1 : Hid (Below w.heap.size w w1) := Lib.hid ((three_below w _ _ _).trans (hb1.mono (three_below w _ _ _).size))
  have HS1 := Lib.hid hs1
  replace k2 : w1.heap[w.heap.size + 1 + 1]? = some (.cells (regCells zr) 24 (0, 0)) := k2
  have HK4 : Hid (∀ wx, Below w1.heap.size w1 wx → Below w1.heap.size w1 wx ∧ wx.cell? ⟨w.heap.size, 0, none⟩ = some (.int .i64 2) ∧ wx.cell? ⟨w.heap.size, 2, none⟩ = some (.int .i64 ib) ∧ wx.cell? ⟨w.heap.size, 3, none⟩ = some (.int .i64 ic) ∧ wx.cell? ⟨w.heap.size + 1, ib, none⟩ = some (.int .u32 xb) ∧ wx.cell? ⟨w.heap.size + 1, jc, none⟩ = some (.int .u32 xc)) := Lib.hid fun wx h => by
    have e0 : wx.heap[w.heap.size]? = _ := (h.block _ (by have := HS1.out; omega)).trans k0
    have e1 : wx.heap[w.heap.size + 1]? = _ := (h.block _ (by have := HS1.out; omega)).trans k1
    exact ⟨h, blk_cell e0 0, blk_cell e0 2, blk_cell e0 3, (blk_cell e1 ib).trans HXB.out, (blk_cell e1 jc).trans HXC.out⟩
  have HK5 : Hid (∀ wx, Below w1.heap.size w1 wx → wx.heap[w.heap.size]? = some (.cells #[.int .i64 2, .int .i64 ia, .int .i64 ib, .int .i64 ic, .int .u32 imm] 29 (0, 0)) ∧ wx.heap[w.heap.size + 1]? = some (.cells (regCells r) 24 (0, 0)) ∧ wx.heap[w.heap.size + 1 + 1]? = some (.cells (regCells zr) 24 (0, 0))) := Lib.hid fun wx h =>
    ⟨(h.block _ (by have := HS1.out; omega)).trans k0, (h.block _ (by have := HS1.out; omega)).trans k1, (h.block _ (by have := HS1.out; omega)).trans k2⟩
  have HDO : Hid (∀ wx, Below w1.heap.size w1 wx → Calls Try.prog 17 #[prV xb xc, .int .i64 2] wx fun e w' => e = .returned (doesV 2 xb xc) ∧ Below w1.heap.size w1 w') := Lib.hid fun wx h => (does_any 2 xb xc wx).mono fun e w' ⟨he, hb⟩ => ⟨he, h.trans (hb.mono h.size)⟩
  have hbd : Below w1.heap.size w1 w1.drew := (Below.refl _ _).drew
  clear hb1 k0 k1 k2 hs1
  go_wp2_with fail
  go_region_held3 (fun wx => Below w1.heap.size w1 wx ∧ wx.cell? ⟨w.heap.size, 0, none⟩ = some (.int .i64 2) ∧ wx.cell? ⟨w.heap.size, 2, none⟩ = some (.int .i64 ib) ∧ wx.cell? ⟨w.heap.size, 3, none⟩ = some (.int .i64 ic) ∧ wx.cell? ⟨w.heap.size + 1, ib, none⟩ = some (.int .u32 xb) ∧ wx.cell? ⟨w.heap.size + 1, jc, none⟩ = some (.int .u32 xc)) (exact HK4.out _ (by assumption))
    (first
      | (go_at_call 17; refine (HDO.out _ (by assumption)).mono ?_; rintro e w2 ⟨rfl, hb2⟩; rw [HDV.out]))
  obtain ⟨k0, k1, k2⟩ := HK5.out _ hb2
  have HB2 : Hid (Below w.heap.size w w2) := Lib.hid (HB1.out.trans (hb2.mono HB1.out.size))
  have hs2 : w.heap.size + 3 ≤ w2.heap.size := Nat.le_trans HS1.out hb2.size
  have c0 := blk_cell k0 0
  have c1 := blk_cell k0 1
  have c4 := blk_cell k0 4
  clear HK4 HK5 HDO hbd hb2 HB1 HS1
  have HK8 : Hid (∀ wx, Below w2.heap.size w2 wx → wx.cell? ⟨w.heap.size, 1, none⟩ = some (.int .i64 ia) ∧ Below (w.heap.size + 1) w2 wx) := Lib.hid fun wx h => ⟨(h.cell (p := ⟨w.heap.size, 1, none⟩) (by show w.heap.size < _; omega)).trans c1, h.mono (by omega)⟩
  have HK9 : Hid (∀ wx v, Below w2.heap.size w2 wx → (wx.setCell ⟨w.heap.size + 1, ia, none⟩ v).cell? ⟨w.heap.size, 1, none⟩ = some (.int .i64 ia) ∧ Below (w.heap.size + 1) w2 (wx.setCell ⟨w.heap.size + 1, ia, none⟩ v)) := Lib.hid fun wx v h => by
    have h1 := (HK8.out wx h)
    exact ⟨((Below.setCell (Below.refl (w.heap.size + 1) wx) (p := ⟨w.heap.size + 1, ia, none⟩) (Nat.le_refl _) v).cell (p := ⟨w.heap.size, 1, none⟩) (by show w.heap.size < _; omega)).trans h1.1, h1.2.setCell (p := ⟨w.heap.size + 1, ia, none⟩) (Nat.le_refl _) v⟩
  have HK3 : Hid (∀ wx, Below w2.heap.size w2 wx → wx.cell? ⟨w.heap.size + 1, ia, none⟩ = some (.int .u32 (r.getD ia 0)) ∧ wx.frozen? ⟨w.heap.size + 1, ia, none⟩ = false ∧ row? wx (w.heap.size + 1) = some (regCells r) ∧ row? wx (w.heap.size + 1 + 1) = some (regCells zr)) := Lib.hid fun wx h => by
    have e1 : wx.heap[w.heap.size + 1]? = _ := (h.block _ (by omega)).trans k1
    have e2 : wx.heap[w.heap.size + 1 + 1]? = _ := (h.block _ (by omega)).trans k2
    exact ⟨(blk_cell e1 ia).trans (regs_at r HL.out ia _ hia rfl), blk_free e1 ia, row?_of e1, row?_of e2⟩
  have HBF : Hid (∀ wx v cs, Below w2.heap.size w2 wx → Below w.heap.size w ((wx.setCell ⟨w.heap.size + 1, ia, none⟩ v).setRow (w.heap.size + 1 + 1) cs)) := Lib.hid fun wx v cs h =>
    below_setRow ((HB2.out.trans (h.mono HB2.out.size)).setCell (p := ⟨w.heap.size + 1, ia, none⟩) (Nat.le_succ _) v) (by omega)
  have HRS : Hid (∀ wx, row? wx (w.heap.size + 1 + 1) = some (regCells zr) → row? ((wx.setCell ⟨w.heap.size + 1, ia, none⟩ (.int .u32 x)).setRow (w.heap.size + 1 + 1) (regCells (r.set ia x))) (w.heap.size + 1 + 1) = some (regCells (r.set ia x))) := Lib.hid fun wx h =>
    row?_setRow (old := regCells zr) (by rw [row?_set_other _ _ _ (by show w.heap.size + 1 + 1 ≠ w.heap.size + 1; omega)]; exact h)
  have hset := regs_set r ia x
  have hsz2 : (regCells (r.set ia x)).size = 16 := regs_size _ (by rw [List.length_set]; exact HL.out)
  have hsz3 : (regCells zr).size = 16 := rfl
  have HL2 : Hid ((r.set ia x).length = 16) := Lib.hid (by rw [List.length_set]; exact HL.out)
  have hbd2 : Below w2.heap.size w2 w2.drew := (Below.refl _ _).drew
  clear k0 k1 k2 hs2
  go_wp2_with fail
  go_region_held3 (fun wx => wx.cell? ⟨w.heap.size, 1, none⟩ = some (.int .i64 ia) ∧ Below (w.heap.size + 1) w2 wx) (first | exact HK8.out _ (by assumption) | exact HK9.out _ _ (by assumption))
    (first
      | (go_at_call 27; refine (HF.out _).mono ?_; rintro e w3 ⟨rfl, hb3⟩; have hb4 : Below w2.heap.size w2 w3 := hbd2.trans hb3; obtain ⟨q0, q1, q2, q3⟩ := HK3.out _ hb4))
  go_wp2
  exact bodyPost_ret (regs_ret_tmp (r := r.set ia x) HL2.out rfl rfl (HRS.out _ q3)) rfl ⟨rfl, HBF.out _ _ _ hb4⟩
set_option maxRecDepth 100000 in
set_option maxHeartbeats 4000000 in
theorem do_3 (imm : Int) (ia ib ic : Nat) (r : List Int) (hl : r.length = 16) (w : World) (hok : wok ⟨3, ia, ib, ic, imm⟩ = true) (hia : ia < 16) (hib : ib < 16) (xb xc : Int) (hxb : r.getD ib 0 = xb) (hxc : r.getD (ic % 16) 0 = xc)  :
    Calls Try.prog 10 #[insV ⟨3, ia, ib, ic, imm⟩, .agg (regCells r)] w fun e w' => e = .returned (.tuple #[.agg (regCells (r.set ia (rk 3 xb xc))), .bool true]) ∧ Below w.heap.size w w' := by
  have HOK := Lib.hid hok
  have HXB : Hid ((regCells r)[ib]? = some (.int .u32 xb)) := Lib.hid (regs_at r hl ib xb hib hxb)
  have HXC : Hid ((regCells r)[ic % 16]? = some (.int .u32 xc)) := Lib.hid (regs_at r hl (ic % 16) xc (Nat.mod_lt _ (by decide)) hxc)
  have hib0 : (0 : Int) ≤ (ib : Int) := by omega
  have hib1 : (ib : Int) < 16 := by omega
  have hia0 : (0 : Int) ≤ (ia : Int) := by omega
  have hia1 : (ia : Int) < 16 := by omega
  have hsz := regs_size r hl
  have HL := Lib.hid hl
  obtain ⟨jc, hjc⟩ : ∃ jc, ic % 16 = jc := ⟨_, rfl⟩
  have hj16 : jc < 16 := by rw [← hjc]; exact Nat.mod_lt _ (by decide)
  have hct := tmod_16 ic jc hjc
  rw [hjc] at HXC
  obtain ⟨hcw, hcw2, hic0, hic1⟩ := small_i64 jc hj16
  clear hok hxb hxc hl hjc
  have HDV : Hid (doesV 3 xb xc = .func (.func 28) #[prV xb xc] #[]) := Lib.hid rfl
  obtain ⟨x, hx⟩ : ∃ x, rk 3 xb xc = x := ⟨_, rfl⟩
  have HX := Lib.hid hx
  have HF : Hid (∀ wx, Calls Try.prog 28 #[prV xb xc] wx fun e w' => e = .returned (.int .u32 x) ∧ Below wx.heap.size wx w') := Lib.hid fun wx => by rw [← hx]; exact pr_3 xb xc wx
  rw [hx]
  clear hx
  have hneq : ∀ W, (binOp .neq 41 (.func (.func 28) #[prV xb xc] #[]) .nilFunc).run Try.prog W = .ok (.bool true) W := fun W => neq_func _ _ W
  go_enter Try.func10, Try.ntmps10
  go_wp2_with fail
  refine (word_any ⟨3, ia, ib, ic, imm⟩ _).mono ?_
  rintro e w1 ⟨u, rfl, hb1⟩
  rw [HOK.out]
  obtain ⟨k0, k1, k2, hs1⟩ := three_0 hb1
  have HB1 : Hid (Below w.heap.size w w1) := Lib.hid ((three_below w _ _ _).trans (hb1.mono (three_below w _ _ _).size))
  have HS1 := Lib.hid hs1
  replace k2 : w1.heap[w.heap.size + 1 + 1]? = some (.cells (regCells zr) 24 (0, 0)) := k2
  have HK4 : Hid (∀ wx, Below w1.heap.size w1 wx → Below w1.heap.size w1 wx ∧ wx.cell? ⟨w.heap.size, 0, none⟩ = some (.int .i64 3) ∧ wx.cell? ⟨w.heap.size, 2, none⟩ = some (.int .i64 ib) ∧ wx.cell? ⟨w.heap.size, 3, none⟩ = some (.int .i64 ic) ∧ wx.cell? ⟨w.heap.size + 1, ib, none⟩ = some (.int .u32 xb) ∧ wx.cell? ⟨w.heap.size + 1, jc, none⟩ = some (.int .u32 xc)) := Lib.hid fun wx h => by
    have e0 : wx.heap[w.heap.size]? = _ := (h.block _ (by have := HS1.out; omega)).trans k0
    have e1 : wx.heap[w.heap.size + 1]? = _ := (h.block _ (by have := HS1.out; omega)).trans k1
    exact ⟨h, blk_cell e0 0, blk_cell e0 2, blk_cell e0 3, (blk_cell e1 ib).trans HXB.out, (blk_cell e1 jc).trans HXC.out⟩
  have HK5 : Hid (∀ wx, Below w1.heap.size w1 wx → wx.heap[w.heap.size]? = some (.cells #[.int .i64 3, .int .i64 ia, .int .i64 ib, .int .i64 ic, .int .u32 imm] 29 (0, 0)) ∧ wx.heap[w.heap.size + 1]? = some (.cells (regCells r) 24 (0, 0)) ∧ wx.heap[w.heap.size + 1 + 1]? = some (.cells (regCells zr) 24 (0, 0))) := Lib.hid fun wx h =>
    ⟨(h.block _ (by have := HS1.out; omega)).trans k0, (h.block _ (by have := HS1.out; omega)).trans k1, (h.block _ (by have := HS1.out; omega)).trans k2⟩
  have HDO : Hid (∀ wx, Below w1.heap.size w1 wx → Calls Try.prog 17 #[prV xb xc, .int .i64 3] wx fun e w' => e = .returned (doesV 3 xb xc) ∧ Below w1.heap.size w1 w') := Lib.hid fun wx h => (does_any 3 xb xc wx).mono fun e w' ⟨he, hb⟩ => ⟨he, h.trans (hb.mono h.size)⟩
  have hbd : Below w1.heap.size w1 w1.drew := (Below.refl _ _).drew
  clear hb1 k0 k1 k2 hs1
  go_wp2_with fail
  go_region_held3 (fun wx => Below w1.heap.size w1 wx ∧ wx.cell? ⟨w.heap.size, 0, none⟩ = some (.int .i64 3) ∧ wx.cell? ⟨w.heap.size, 2, none⟩ = some (.int .i64 ib) ∧ wx.cell? ⟨w.heap.size, 3, none⟩ = some (.int .i64 ic) ∧ wx.cell? ⟨w.heap.size + 1, ib, none⟩ = some (.int .u32 xb) ∧ wx.cell? ⟨w.heap.size + 1, jc, none⟩ = some (.int .u32 xc)) (exact HK4.out _ (by assumption))
    (first
      | (go_at_call 17; refine (HDO.out _ (by assumption)).mono ?_; rintro e w2 ⟨rfl, hb2⟩; rw [HDV.out]))
  obtain ⟨k0, k1, k2⟩ := HK5.out _ hb2
  have HB2 : Hid (Below w.heap.size w w2) := Lib.hid (HB1.out.trans (hb2.mono HB1.out.size))
  have hs2 : w.heap.size + 3 ≤ w2.heap.size := Nat.le_trans HS1.out hb2.size
  have c0 := blk_cell k0 0
  have c1 := blk_cell k0 1
  have c4 := blk_cell k0 4
  clear HK4 HK5 HDO hbd hb2 HB1 HS1
  have HK8 : Hid (∀ wx, Below w2.heap.size w2 wx → wx.cell? ⟨w.heap.size, 1, none⟩ = some (.int .i64 ia) ∧ Below (w.heap.size + 1) w2 wx) := Lib.hid fun wx h => ⟨(h.cell (p := ⟨w.heap.size, 1, none⟩) (by show w.heap.size < _; omega)).trans c1, h.mono (by omega)⟩
  have HK9 : Hid (∀ wx v, Below w2.heap.size w2 wx → (wx.setCell ⟨w.heap.size + 1, ia, none⟩ v).cell? ⟨w.heap.size, 1, none⟩ = some (.int .i64 ia) ∧ Below (w.heap.size + 1) w2 (wx.setCell ⟨w.heap.size + 1, ia, none⟩ v)) := Lib.hid fun wx v h => by
    have h1 := (HK8.out wx h)
    exact ⟨((Below.setCell (Below.refl (w.heap.size + 1) wx) (p := ⟨w.heap.size + 1, ia, none⟩) (Nat.le_refl _) v).cell (p := ⟨w.heap.size, 1, none⟩) (by show w.heap.size < _; omega)).trans h1.1, h1.2.setCell (p := ⟨w.heap.size + 1, ia, none⟩) (Nat.le_refl _) v⟩
  have HK3 : Hid (∀ wx, Below w2.heap.size w2 wx → wx.cell? ⟨w.heap.size + 1, ia, none⟩ = some (.int .u32 (r.getD ia 0)) ∧ wx.frozen? ⟨w.heap.size + 1, ia, none⟩ = false ∧ row? wx (w.heap.size + 1) = some (regCells r) ∧ row? wx (w.heap.size + 1 + 1) = some (regCells zr)) := Lib.hid fun wx h => by
    have e1 : wx.heap[w.heap.size + 1]? = _ := (h.block _ (by omega)).trans k1
    have e2 : wx.heap[w.heap.size + 1 + 1]? = _ := (h.block _ (by omega)).trans k2
    exact ⟨(blk_cell e1 ia).trans (regs_at r HL.out ia _ hia rfl), blk_free e1 ia, row?_of e1, row?_of e2⟩
  have HBF : Hid (∀ wx v cs, Below w2.heap.size w2 wx → Below w.heap.size w ((wx.setCell ⟨w.heap.size + 1, ia, none⟩ v).setRow (w.heap.size + 1 + 1) cs)) := Lib.hid fun wx v cs h =>
    below_setRow ((HB2.out.trans (h.mono HB2.out.size)).setCell (p := ⟨w.heap.size + 1, ia, none⟩) (Nat.le_succ _) v) (by omega)
  have HRS : Hid (∀ wx, row? wx (w.heap.size + 1 + 1) = some (regCells zr) → row? ((wx.setCell ⟨w.heap.size + 1, ia, none⟩ (.int .u32 x)).setRow (w.heap.size + 1 + 1) (regCells (r.set ia x))) (w.heap.size + 1 + 1) = some (regCells (r.set ia x))) := Lib.hid fun wx h =>
    row?_setRow (old := regCells zr) (by rw [row?_set_other _ _ _ (by show w.heap.size + 1 + 1 ≠ w.heap.size + 1; omega)]; exact h)
  have hset := regs_set r ia x
  have hsz2 : (regCells (r.set ia x)).size = 16 := regs_size _ (by rw [List.length_set]; exact HL.out)
  have hsz3 : (regCells zr).size = 16 := rfl
  have HL2 : Hid ((r.set ia x).length = 16) := Lib.hid (by rw [List.length_set]; exact HL.out)
  have hbd2 : Below w2.heap.size w2 w2.drew := (Below.refl _ _).drew
  clear k0 k1 k2 hs2
  go_wp2_with fail
  go_region_held3 (fun wx => wx.cell? ⟨w.heap.size, 1, none⟩ = some (.int .i64 ia) ∧ Below (w.heap.size + 1) w2 wx) (first | exact HK8.out _ (by assumption) | exact HK9.out _ _ (by assumption))
    (first
      | (go_at_call 28; refine (HF.out _).mono ?_; rintro e w3 ⟨rfl, hb3⟩; have hb4 : Below w2.heap.size w2 w3 := hbd2.trans hb3; obtain ⟨q0, q1, q2, q3⟩ := HK3.out _ hb4))
  go_wp2
  exact bodyPost_ret (regs_ret_tmp (r := r.set ia x) HL2.out rfl rfl (HRS.out _ q3)) rfl ⟨rfl, HBF.out _ _ _ hb4⟩
set_option maxRecDepth 100000 in
set_option maxHeartbeats 4000000 in
theorem do_4 (imm : Int) (ia ib ic : Nat) (r : List Int) (hl : r.length = 16) (w : World) (hok : wok ⟨4, ia, ib, ic, imm⟩ = true) (hia : ia < 16) (hib : ib < 16) (xb xc : Int) (hxb : r.getD ib 0 = xb) (hxc : r.getD (ic % 16) 0 = xc)  :
    Calls Try.prog 10 #[insV ⟨4, ia, ib, ic, imm⟩, .agg (regCells r)] w fun e w' => e = .returned (.tuple #[.agg (regCells (r.set ia (rk 4 xb xc))), .bool true]) ∧ Below w.heap.size w w' := by
  have HOK := Lib.hid hok
  have HXB : Hid ((regCells r)[ib]? = some (.int .u32 xb)) := Lib.hid (regs_at r hl ib xb hib hxb)
  have HXC : Hid ((regCells r)[ic % 16]? = some (.int .u32 xc)) := Lib.hid (regs_at r hl (ic % 16) xc (Nat.mod_lt _ (by decide)) hxc)
  have hib0 : (0 : Int) ≤ (ib : Int) := by omega
  have hib1 : (ib : Int) < 16 := by omega
  have hia0 : (0 : Int) ≤ (ia : Int) := by omega
  have hia1 : (ia : Int) < 16 := by omega
  have hsz := regs_size r hl
  have HL := Lib.hid hl
  obtain ⟨jc, hjc⟩ : ∃ jc, ic % 16 = jc := ⟨_, rfl⟩
  have hj16 : jc < 16 := by rw [← hjc]; exact Nat.mod_lt _ (by decide)
  have hct := tmod_16 ic jc hjc
  rw [hjc] at HXC
  obtain ⟨hcw, hcw2, hic0, hic1⟩ := small_i64 jc hj16
  clear hok hxb hxc hl hjc
  have HDV : Hid (doesV 4 xb xc = .func (.func 29) #[prV xb xc] #[]) := Lib.hid rfl
  obtain ⟨x, hx⟩ : ∃ x, rk 4 xb xc = x := ⟨_, rfl⟩
  have HX := Lib.hid hx
  have HF : Hid (∀ wx, Calls Try.prog 29 #[prV xb xc] wx fun e w' => e = .returned (.int .u32 x) ∧ Below wx.heap.size wx w') := Lib.hid fun wx => by rw [← hx]; exact pr_4 xb xc wx
  rw [hx]
  clear hx
  have hneq : ∀ W, (binOp .neq 41 (.func (.func 29) #[prV xb xc] #[]) .nilFunc).run Try.prog W = .ok (.bool true) W := fun W => neq_func _ _ W
  go_enter Try.func10, Try.ntmps10
  go_wp2_with fail
  refine (word_any ⟨4, ia, ib, ic, imm⟩ _).mono ?_
  rintro e w1 ⟨u, rfl, hb1⟩
  rw [HOK.out]
  obtain ⟨k0, k1, k2, hs1⟩ := three_0 hb1
  have HB1 : Hid (Below w.heap.size w w1) := Lib.hid ((three_below w _ _ _).trans (hb1.mono (three_below w _ _ _).size))
  have HS1 := Lib.hid hs1
  replace k2 : w1.heap[w.heap.size + 1 + 1]? = some (.cells (regCells zr) 24 (0, 0)) := k2
  have HK4 : Hid (∀ wx, Below w1.heap.size w1 wx → Below w1.heap.size w1 wx ∧ wx.cell? ⟨w.heap.size, 0, none⟩ = some (.int .i64 4) ∧ wx.cell? ⟨w.heap.size, 2, none⟩ = some (.int .i64 ib) ∧ wx.cell? ⟨w.heap.size, 3, none⟩ = some (.int .i64 ic) ∧ wx.cell? ⟨w.heap.size + 1, ib, none⟩ = some (.int .u32 xb) ∧ wx.cell? ⟨w.heap.size + 1, jc, none⟩ = some (.int .u32 xc)) := Lib.hid fun wx h => by
    have e0 : wx.heap[w.heap.size]? = _ := (h.block _ (by have := HS1.out; omega)).trans k0
    have e1 : wx.heap[w.heap.size + 1]? = _ := (h.block _ (by have := HS1.out; omega)).trans k1
    exact ⟨h, blk_cell e0 0, blk_cell e0 2, blk_cell e0 3, (blk_cell e1 ib).trans HXB.out, (blk_cell e1 jc).trans HXC.out⟩
  have HK5 : Hid (∀ wx, Below w1.heap.size w1 wx → wx.heap[w.heap.size]? = some (.cells #[.int .i64 4, .int .i64 ia, .int .i64 ib, .int .i64 ic, .int .u32 imm] 29 (0, 0)) ∧ wx.heap[w.heap.size + 1]? = some (.cells (regCells r) 24 (0, 0)) ∧ wx.heap[w.heap.size + 1 + 1]? = some (.cells (regCells zr) 24 (0, 0))) := Lib.hid fun wx h =>
    ⟨(h.block _ (by have := HS1.out; omega)).trans k0, (h.block _ (by have := HS1.out; omega)).trans k1, (h.block _ (by have := HS1.out; omega)).trans k2⟩
  have HDO : Hid (∀ wx, Below w1.heap.size w1 wx → Calls Try.prog 17 #[prV xb xc, .int .i64 4] wx fun e w' => e = .returned (doesV 4 xb xc) ∧ Below w1.heap.size w1 w') := Lib.hid fun wx h => (does_any 4 xb xc wx).mono fun e w' ⟨he, hb⟩ => ⟨he, h.trans (hb.mono h.size)⟩
  have hbd : Below w1.heap.size w1 w1.drew := (Below.refl _ _).drew
  clear hb1 k0 k1 k2 hs1
  go_wp2_with fail
  go_region_held3 (fun wx => Below w1.heap.size w1 wx ∧ wx.cell? ⟨w.heap.size, 0, none⟩ = some (.int .i64 4) ∧ wx.cell? ⟨w.heap.size, 2, none⟩ = some (.int .i64 ib) ∧ wx.cell? ⟨w.heap.size, 3, none⟩ = some (.int .i64 ic) ∧ wx.cell? ⟨w.heap.size + 1, ib, none⟩ = some (.int .u32 xb) ∧ wx.cell? ⟨w.heap.size + 1, jc, none⟩ = some (.int .u32 xc)) (exact HK4.out _ (by assumption))
    (first
      | (go_at_call 17; refine (HDO.out _ (by assumption)).mono ?_; rintro e w2 ⟨rfl, hb2⟩; rw [HDV.out]))
  obtain ⟨k0, k1, k2⟩ := HK5.out _ hb2
  have HB2 : Hid (Below w.heap.size w w2) := Lib.hid (HB1.out.trans (hb2.mono HB1.out.size))
  have hs2 : w.heap.size + 3 ≤ w2.heap.size := Nat.le_trans HS1.out hb2.size
  have c0 := blk_cell k0 0
  have c1 := blk_cell k0 1
  have c4 := blk_cell k0 4
  clear HK4 HK5 HDO hbd hb2 HB1 HS1
  have HK8 : Hid (∀ wx, Below w2.heap.size w2 wx → wx.cell? ⟨w.heap.size, 1, none⟩ = some (.int .i64 ia) ∧ Below (w.heap.size + 1) w2 wx) := Lib.hid fun wx h => ⟨(h.cell (p := ⟨w.heap.size, 1, none⟩) (by show w.heap.size < _; omega)).trans c1, h.mono (by omega)⟩
  have HK9 : Hid (∀ wx v, Below w2.heap.size w2 wx → (wx.setCell ⟨w.heap.size + 1, ia, none⟩ v).cell? ⟨w.heap.size, 1, none⟩ = some (.int .i64 ia) ∧ Below (w.heap.size + 1) w2 (wx.setCell ⟨w.heap.size + 1, ia, none⟩ v)) := Lib.hid fun wx v h => by
    have h1 := (HK8.out wx h)
    exact ⟨((Below.setCell (Below.refl (w.heap.size + 1) wx) (p := ⟨w.heap.size + 1, ia, none⟩) (Nat.le_refl _) v).cell (p := ⟨w.heap.size, 1, none⟩) (by show w.heap.size < _; omega)).trans h1.1, h1.2.setCell (p := ⟨w.heap.size + 1, ia, none⟩) (Nat.le_refl _) v⟩
  have HK3 : Hid (∀ wx, Below w2.heap.size w2 wx → wx.cell? ⟨w.heap.size + 1, ia, none⟩ = some (.int .u32 (r.getD ia 0)) ∧ wx.frozen? ⟨w.heap.size + 1, ia, none⟩ = false ∧ row? wx (w.heap.size + 1) = some (regCells r) ∧ row? wx (w.heap.size + 1 + 1) = some (regCells zr)) := Lib.hid fun wx h => by
    have e1 : wx.heap[w.heap.size + 1]? = _ := (h.block _ (by omega)).trans k1
    have e2 : wx.heap[w.heap.size + 1 + 1]? = _ := (h.block _ (by omega)).trans k2
    exact ⟨(blk_cell e1 ia).trans (regs_at r HL.out ia _ hia rfl), blk_free e1 ia, row?_of e1, row?_of e2⟩
  have HBF : Hid (∀ wx v cs, Below w2.heap.size w2 wx → Below w.heap.size w ((wx.setCell ⟨w.heap.size + 1, ia, none⟩ v).setRow (w.heap.size + 1 + 1) cs)) := Lib.hid fun wx v cs h =>
    below_setRow ((HB2.out.trans (h.mono HB2.out.size)).setCell (p := ⟨w.heap.size + 1, ia, none⟩) (Nat.le_succ _) v) (by omega)
  have HRS : Hid (∀ wx, row? wx (w.heap.size + 1 + 1) = some (regCells zr) → row? ((wx.setCell ⟨w.heap.size + 1, ia, none⟩ (.int .u32 x)).setRow (w.heap.size + 1 + 1) (regCells (r.set ia x))) (w.heap.size + 1 + 1) = some (regCells (r.set ia x))) := Lib.hid fun wx h =>
    row?_setRow (old := regCells zr) (by rw [row?_set_other _ _ _ (by show w.heap.size + 1 + 1 ≠ w.heap.size + 1; omega)]; exact h)
  have hset := regs_set r ia x
  have hsz2 : (regCells (r.set ia x)).size = 16 := regs_size _ (by rw [List.length_set]; exact HL.out)
  have hsz3 : (regCells zr).size = 16 := rfl
  have HL2 : Hid ((r.set ia x).length = 16) := Lib.hid (by rw [List.length_set]; exact HL.out)
  have hbd2 : Below w2.heap.size w2 w2.drew := (Below.refl _ _).drew
  clear k0 k1 k2 hs2
  go_wp2_with fail
  go_region_held3 (fun wx => wx.cell? ⟨w.heap.size, 1, none⟩ = some (.int .i64 ia) ∧ Below (w.heap.size + 1) w2 wx) (first | exact HK8.out _ (by assumption) | exact HK9.out _ _ (by assumption))
    (first
      | (go_at_call 29; refine (HF.out _).mono ?_; rintro e w3 ⟨rfl, hb3⟩; have hb4 : Below w2.heap.size w2 w3 := hbd2.trans hb3; obtain ⟨q0, q1, q2, q3⟩ := HK3.out _ hb4))
  go_wp2
  exact bodyPost_ret (regs_ret_tmp (r := r.set ia x) HL2.out rfl rfl (HRS.out _ q3)) rfl ⟨rfl, HBF.out _ _ _ hb4⟩
set_option maxRecDepth 100000 in
set_option maxHeartbeats 4000000 in
theorem do_5 (imm : Int) (ia ib ic : Nat) (r : List Int) (hl : r.length = 16) (w : World) (hok : wok ⟨5, ia, ib, ic, imm⟩ = true) (hia : ia < 16) (hib : ib < 16) (xb xc : Int) (hxb : r.getD ib 0 = xb) (hxc : r.getD (ic % 16) 0 = xc)  :
    Calls Try.prog 10 #[insV ⟨5, ia, ib, ic, imm⟩, .agg (regCells r)] w fun e w' => e = .returned (.tuple #[.agg (regCells (r.set ia (rk 5 xb xc))), .bool true]) ∧ Below w.heap.size w w' := by
  have HOK := Lib.hid hok
  have HXB : Hid ((regCells r)[ib]? = some (.int .u32 xb)) := Lib.hid (regs_at r hl ib xb hib hxb)
  have HXC : Hid ((regCells r)[ic % 16]? = some (.int .u32 xc)) := Lib.hid (regs_at r hl (ic % 16) xc (Nat.mod_lt _ (by decide)) hxc)
  have hib0 : (0 : Int) ≤ (ib : Int) := by omega
  have hib1 : (ib : Int) < 16 := by omega
  have hia0 : (0 : Int) ≤ (ia : Int) := by omega
  have hia1 : (ia : Int) < 16 := by omega
  have hsz := regs_size r hl
  have HL := Lib.hid hl
  obtain ⟨jc, hjc⟩ : ∃ jc, ic % 16 = jc := ⟨_, rfl⟩
  have hj16 : jc < 16 := by rw [← hjc]; exact Nat.mod_lt _ (by decide)
  have hct := tmod_16 ic jc hjc
  rw [hjc] at HXC
  obtain ⟨hcw, hcw2, hic0, hic1⟩ := small_i64 jc hj16
  clear hok hxb hxc hl hjc
  have HDV : Hid (doesV 5 xb xc = .func (.func 30) #[prV xb xc] #[]) := Lib.hid rfl
  obtain ⟨x, hx⟩ : ∃ x, rk 5 xb xc = x := ⟨_, rfl⟩
  have HX := Lib.hid hx
  have HF : Hid (∀ wx, Calls Try.prog 30 #[prV xb xc] wx fun e w' => e = .returned (.int .u32 x) ∧ Below wx.heap.size wx w') := Lib.hid fun wx => by rw [← hx]; exact pr_5 xb xc wx
  rw [hx]
  clear hx
  have hneq : ∀ W, (binOp .neq 41 (.func (.func 30) #[prV xb xc] #[]) .nilFunc).run Try.prog W = .ok (.bool true) W := fun W => neq_func _ _ W
  go_enter Try.func10, Try.ntmps10
  go_wp2_with fail
  refine (word_any ⟨5, ia, ib, ic, imm⟩ _).mono ?_
  rintro e w1 ⟨u, rfl, hb1⟩
  rw [HOK.out]
  obtain ⟨k0, k1, k2, hs1⟩ := three_0 hb1
  have HB1 : Hid (Below w.heap.size w w1) := Lib.hid ((three_below w _ _ _).trans (hb1.mono (three_below w _ _ _).size))
  have HS1 := Lib.hid hs1
  replace k2 : w1.heap[w.heap.size + 1 + 1]? = some (.cells (regCells zr) 24 (0, 0)) := k2
  have HK4 : Hid (∀ wx, Below w1.heap.size w1 wx → Below w1.heap.size w1 wx ∧ wx.cell? ⟨w.heap.size, 0, none⟩ = some (.int .i64 5) ∧ wx.cell? ⟨w.heap.size, 2, none⟩ = some (.int .i64 ib) ∧ wx.cell? ⟨w.heap.size, 3, none⟩ = some (.int .i64 ic) ∧ wx.cell? ⟨w.heap.size + 1, ib, none⟩ = some (.int .u32 xb) ∧ wx.cell? ⟨w.heap.size + 1, jc, none⟩ = some (.int .u32 xc)) := Lib.hid fun wx h => by
    have e0 : wx.heap[w.heap.size]? = _ := (h.block _ (by have := HS1.out; omega)).trans k0
    have e1 : wx.heap[w.heap.size + 1]? = _ := (h.block _ (by have := HS1.out; omega)).trans k1
    exact ⟨h, blk_cell e0 0, blk_cell e0 2, blk_cell e0 3, (blk_cell e1 ib).trans HXB.out, (blk_cell e1 jc).trans HXC.out⟩
  have HK5 : Hid (∀ wx, Below w1.heap.size w1 wx → wx.heap[w.heap.size]? = some (.cells #[.int .i64 5, .int .i64 ia, .int .i64 ib, .int .i64 ic, .int .u32 imm] 29 (0, 0)) ∧ wx.heap[w.heap.size + 1]? = some (.cells (regCells r) 24 (0, 0)) ∧ wx.heap[w.heap.size + 1 + 1]? = some (.cells (regCells zr) 24 (0, 0))) := Lib.hid fun wx h =>
    ⟨(h.block _ (by have := HS1.out; omega)).trans k0, (h.block _ (by have := HS1.out; omega)).trans k1, (h.block _ (by have := HS1.out; omega)).trans k2⟩
  have HDO : Hid (∀ wx, Below w1.heap.size w1 wx → Calls Try.prog 17 #[prV xb xc, .int .i64 5] wx fun e w' => e = .returned (doesV 5 xb xc) ∧ Below w1.heap.size w1 w') := Lib.hid fun wx h => (does_any 5 xb xc wx).mono fun e w' ⟨he, hb⟩ => ⟨he, h.trans (hb.mono h.size)⟩
  have hbd : Below w1.heap.size w1 w1.drew := (Below.refl _ _).drew
  clear hb1 k0 k1 k2 hs1
  go_wp2_with fail
  go_region_held3 (fun wx => Below w1.heap.size w1 wx ∧ wx.cell? ⟨w.heap.size, 0, none⟩ = some (.int .i64 5) ∧ wx.cell? ⟨w.heap.size, 2, none⟩ = some (.int .i64 ib) ∧ wx.cell? ⟨w.heap.size, 3, none⟩ = some (.int .i64 ic) ∧ wx.cell? ⟨w.heap.size + 1, ib, none⟩ = some (.int .u32 xb) ∧ wx.cell? ⟨w.heap.size + 1, jc, none⟩ = some (.int .u32 xc)) (exact HK4.out _ (by assumption))
    (first
      | (go_at_call 17; refine (HDO.out _ (by assumption)).mono ?_; rintro e w2 ⟨rfl, hb2⟩; rw [HDV.out]))
  obtain ⟨k0, k1, k2⟩ := HK5.out _ hb2
  have HB2 : Hid (Below w.heap.size w w2) := Lib.hid (HB1.out.trans (hb2.mono HB1.out.size))
  have hs2 : w.heap.size + 3 ≤ w2.heap.size := Nat.le_trans HS1.out hb2.size
  have c0 := blk_cell k0 0
  have c1 := blk_cell k0 1
  have c4 := blk_cell k0 4
  clear HK4 HK5 HDO hbd hb2 HB1 HS1
  have HK8 : Hid (∀ wx, Below w2.heap.size w2 wx → wx.cell? ⟨w.heap.size, 1, none⟩ = some (.int .i64 ia) ∧ Below (w.heap.size + 1) w2 wx) := Lib.hid fun wx h => ⟨(h.cell (p := ⟨w.heap.size, 1, none⟩) (by show w.heap.size < _; omega)).trans c1, h.mono (by omega)⟩
  have HK9 : Hid (∀ wx v, Below w2.heap.size w2 wx → (wx.setCell ⟨w.heap.size + 1, ia, none⟩ v).cell? ⟨w.heap.size, 1, none⟩ = some (.int .i64 ia) ∧ Below (w.heap.size + 1) w2 (wx.setCell ⟨w.heap.size + 1, ia, none⟩ v)) := Lib.hid fun wx v h => by
    have h1 := (HK8.out wx h)
    exact ⟨((Below.setCell (Below.refl (w.heap.size + 1) wx) (p := ⟨w.heap.size + 1, ia, none⟩) (Nat.le_refl _) v).cell (p := ⟨w.heap.size, 1, none⟩) (by show w.heap.size < _; omega)).trans h1.1, h1.2.setCell (p := ⟨w.heap.size + 1, ia, none⟩) (Nat.le_refl _) v⟩
  have HK3 : Hid (∀ wx, Below w2.heap.size w2 wx → wx.cell? ⟨w.heap.size + 1, ia, none⟩ = some (.int .u32 (r.getD ia 0)) ∧ wx.frozen? ⟨w.heap.size + 1, ia, none⟩ = false ∧ row? wx (w.heap.size + 1) = some (regCells r) ∧ row? wx (w.heap.size + 1 + 1) = some (regCells zr)) := Lib.hid fun wx h => by
    have e1 : wx.heap[w.heap.size + 1]? = _ := (h.block _ (by omega)).trans k1
    have e2 : wx.heap[w.heap.size + 1 + 1]? = _ := (h.block _ (by omega)).trans k2
    exact ⟨(blk_cell e1 ia).trans (regs_at r HL.out ia _ hia rfl), blk_free e1 ia, row?_of e1, row?_of e2⟩
  have HBF : Hid (∀ wx v cs, Below w2.heap.size w2 wx → Below w.heap.size w ((wx.setCell ⟨w.heap.size + 1, ia, none⟩ v).setRow (w.heap.size + 1 + 1) cs)) := Lib.hid fun wx v cs h =>
    below_setRow ((HB2.out.trans (h.mono HB2.out.size)).setCell (p := ⟨w.heap.size + 1, ia, none⟩) (Nat.le_succ _) v) (by omega)
  have HRS : Hid (∀ wx, row? wx (w.heap.size + 1 + 1) = some (regCells zr) → row? ((wx.setCell ⟨w.heap.size + 1, ia, none⟩ (.int .u32 x)).setRow (w.heap.size + 1 + 1) (regCells (r.set ia x))) (w.heap.size + 1 + 1) = some (regCells (r.set ia x))) := Lib.hid fun wx h =>
    row?_setRow (old := regCells zr) (by rw [row?_set_other _ _ _ (by show w.heap.size + 1 + 1 ≠ w.heap.size + 1; omega)]; exact h)
  have hset := regs_set r ia x
  have hsz2 : (regCells (r.set ia x)).size = 16 := regs_size _ (by rw [List.length_set]; exact HL.out)
  have hsz3 : (regCells zr).size = 16 := rfl
  have HL2 : Hid ((r.set ia x).length = 16) := Lib.hid (by rw [List.length_set]; exact HL.out)
  have hbd2 : Below w2.heap.size w2 w2.drew := (Below.refl _ _).drew
  clear k0 k1 k2 hs2
  go_wp2_with fail
  go_region_held3 (fun wx => wx.cell? ⟨w.heap.size, 1, none⟩ = some (.int .i64 ia) ∧ Below (w.heap.size + 1) w2 wx) (first | exact HK8.out _ (by assumption) | exact HK9.out _ _ (by assumption))
    (first
      | (go_at_call 30; refine (HF.out _).mono ?_; rintro e w3 ⟨rfl, hb3⟩; have hb4 : Below w2.heap.size w2 w3 := hbd2.trans hb3; obtain ⟨q0, q1, q2, q3⟩ := HK3.out _ hb4))
  go_wp2
  exact bodyPost_ret (regs_ret_tmp (r := r.set ia x) HL2.out rfl rfl (HRS.out _ q3)) rfl ⟨rfl, HBF.out _ _ _ hb4⟩
end Go.Proofs.Ytikioeddilgbpaa
