/-
  Chapter 4: alu.Do: nothing, a number, a place; what makes no registers.
-/
import Derived.Test.YtikioeddilgbpaaAlF
namespace Go.Proofs.Ytikioeddilgbpaa
open Go.RowKit

set_option linter.unusedSimpArgs false
set_option maxRecDepth 100000 in
set_option maxHeartbeats 4000000 in
theorem do_1 (imm : Int) (ia ib ic : Nat) (r : List Int) (hl : r.length = 16) (w : World) (hok : wok ⟨1, ia, ib, ic, imm⟩ = true) (hia : ia < 16) (hib : ib < 16) (xb xc : Int) (hxb : r.getD ib 0 = xb) (hxc : r.getD (ic % 16) 0 = xc)  :
    Calls Try.prog 10 #[insV ⟨1, ia, ib, ic, imm⟩, .agg (regCells r)] w fun e w' => e = .returned (.tuple #[.agg (regCells r), .bool true]) ∧ Below w.heap.size w w' := by
  have HOK := Lib.hid hok
  have HXB : Hid ((regCells r)[ib]? = some (.int .u32 xb)) := Lib.hid (regs_at r hl ib xb hib hxb)
  have HXC : Hid ((regCells r)[ic % 16]? = some (.int .u32 xc)) := Lib.hid (regs_at r hl (ic % 16) xc (Nat.mod_lt _ (by decide)) hxc)
  have hib0 : (0 : Int) ≤ (ib : Int) := by omega
  have hib1 : (ib : Int) < 16 := by omega
  have hia0 : (0 : Int) ≤ (ia : Int) := by omega
  have hia1 : (ia : Int) < 16 := by omega
  have hsz := regs_size r hl
  have HL := Lib.hid hl
  obtain ⟨jc, hjc⟩ : ∃ jc, ic % 16 = jc := ⟨_, rfl⟩
  have hj16 : jc < 16 := by rw [← hjc]; exact Nat.mod_lt _ (by decide)
  have hct := tmod_16 ic jc hjc
  rw [hjc] at HXC
  obtain ⟨hcw, hcw2, hic0, hic1⟩ := small_i64 jc hj16
  clear hok hxb hxc hl hjc
  have HDV : Hid (doesV 1 xb xc = .nilFunc) := Lib.hid rfl
  have hneq := neq_nil
  go_enter Try.func10, Try.ntmps10
  go_wp2_with fail
  refine (word_any ⟨1, ia, ib, ic, imm⟩ _).mono ?_
  rintro e w1 ⟨u, rfl, hb1⟩
  rw [HOK.out]
  obtain ⟨k0, k1, k2, hs1⟩ := three_0 hb1
  have HB1 : Hid (Below w.heap.size w w1) := Lib.hid ((three_below w _ _ _).trans (hb1.mono (three_below w _ _ _).size))
  have HS1 := Lib.hid hs1
  replace k2 : w1.heap[w.heap.size + 1 + 1]? = some (.cells (regCells zr) 24 (0, 0)) := k2
  have HK4 : Hid (∀ wx, Below w1.heap.size w1 wx → Below w1.heap.size w1 wx ∧ wx.cell? ⟨w.heap.size, 0, none⟩ = some (.int .i64 1) ∧ wx.cell? ⟨w.heap.size, 2, none⟩ = some (.int .i64 ib) ∧ wx.cell? ⟨w.heap.size, 3, none⟩ = some (.int .i64 ic) ∧ wx.cell? ⟨w.heap.size + 1, ib, none⟩ = some (.int .u32 xb) ∧ wx.cell? ⟨w.heap.size + 1, jc, none⟩ = some (.int .u32 xc)) := Lib.hid fun wx h => by
    have e0 : wx.heap[w.heap.size]? = _ := (h.block _ (by have := HS1.out; omega)).trans k0
    have e1 : wx.heap[w.heap.size + 1]? = _ := (h.block _ (by have := HS1.out; omega)).trans k1
    exact ⟨h, blk_cell e0 0, blk_cell e0 2, blk_cell e0 3, (blk_cell e1 ib).trans HXB.out, (blk_cell e1 jc).trans HXC.out⟩
  have HK5 : Hid (∀ wx, Below w1.heap.size w1 wx → wx.heap[w.heap.size]? = some (.cells #[.int .i64 1, .int .i64 ia, .int .i64 ib, .int .i64 ic, .int .u32 imm] 29 (0, 0)) ∧ wx.heap[w.heap.size + 1]? = some (.cells (regCells r) 24 (0, 0)) ∧ wx.heap[w.heap.size + 1 + 1]? = some (.cells (regCells zr) 24 (0, 0))) := Lib.hid fun wx h =>
    ⟨(h.block _ (by have := HS1.out; omega)).trans k0, (h.block _ (by have := HS1.out; omega)).trans k1, (h.block _ (by have := HS1.out; omega)).trans k2⟩
  have HDO : Hid (∀ wx, Below w1.heap.size w1 wx → Calls Try.prog 17 #[prV xb xc, .int .i64 1] wx fun e w' => e = .returned (doesV 1 xb xc) ∧ Below w1.heap.size w1 w') := Lib.hid fun wx h => (does_any 1 xb xc wx).mono fun e w' ⟨he, hb⟩ => ⟨he, h.trans (hb.mono h.size)⟩
  have hbd : Below w1.heap.size w1 w1.drew := (Below.refl _ _).drew
  clear hb1 k0 k1 k2 hs1
  go_wp2_with fail
  go_region_held3 (fun wx => Below w1.heap.size w1 wx ∧ wx.cell? ⟨w.heap.size, 0, none⟩ = some (.int .i64 1) ∧ wx.cell? ⟨w.heap.size, 2, none⟩ = some (.int .i64 ib) ∧ wx.cell? ⟨w.heap.size, 3, none⟩ = some (.int .i64 ic) ∧ wx.cell? ⟨w.heap.size + 1, ib, none⟩ = some (.int .u32 xb) ∧ wx.cell? ⟨w.heap.size + 1, jc, none⟩ = some (.int .u32 xc)) (exact HK4.out _ (by assumption))
    (first
      | (go_at_call 17; refine (HDO.out _ (by assumption)).mono ?_; rintro e w2 ⟨rfl, hb2⟩; rw [HDV.out]))
  obtain ⟨k0, k1, k2⟩ := HK5.out _ hb2
  have HB2 : Hid (Below w.heap.size w w2) := Lib.hid (HB1.out.trans (hb2.mono HB1.out.size))
  have hs2 : w.heap.size + 3 ≤ w2.heap.size := Nat.le_trans HS1.out hb2.size
  have c0 := blk_cell k0 0
  have c1 := blk_cell k0 1
  have c4 := blk_cell k0 4
  clear HK4 HK5 HDO hbd hb2 HB1 HS1
  have q0 : w2.cell? ⟨w.heap.size + 1, ia, none⟩ = some (.int .u32 (r.getD ia 0)) := (blk_cell k1 ia).trans (regs_at r HL.out ia _ hia rfl)
  have q1 : w2.frozen? ⟨w.heap.size + 1, ia, none⟩ = false := blk_free k1 ia
  have q2 := row?_of k1
  have q3 := row?_of k2
  have hsz3 : (regCells zr).size = 16 := rfl
  clear k0 k1 k2
  have HBF : Hid (∀ cs, Below w.heap.size w (w2.setRow (w.heap.size + 1 + 1) cs)) := Lib.hid fun cs => below_setRow HB2.out (by omega)
  have HRS : Hid (row? (w2.setRow (w.heap.size + 1 + 1) (regCells r)) (w.heap.size + 1 + 1) = some (regCells r)) := Lib.hid (row?_setRow q3)
  clear hs2
  go_wp2
  exact bodyPost_ret (regs_ret_tmp (r := r) HL.out rfl rfl HRS.out) rfl ⟨rfl, HBF.out _⟩
set_option maxRecDepth 100000 in
set_option maxHeartbeats 4000000 in
theorem do_14 (imm : Int) (ia ib ic : Nat) (r : List Int) (hl : r.length = 16) (w : World) (hok : wok ⟨14, ia, ib, ic, imm⟩ = true) (hia : ia < 16) (hib : ib < 16) (xb xc : Int) (hxb : r.getD ib 0 = xb) (hxc : r.getD (ic % 16) 0 = xc)  :
    Calls Try.prog 10 #[insV ⟨14, ia, ib, ic, imm⟩, .agg (regCells r)] w fun e w' => e = .returned (.tuple #[.agg (regCells (r.set ia imm)), .bool true]) ∧ Below w.heap.size w w' := by
  have HOK := Lib.hid hok
  have HXB : Hid ((regCells r)[ib]? = some (.int .u32 xb)) := Lib.hid (regs_at r hl ib xb hib hxb)
  have HXC : Hid ((regCells r)[ic % 16]? = some (.int .u32 xc)) := Lib.hid (regs_at r hl (ic % 16) xc (Nat.mod_lt _ (by decide)) hxc)
  have hib0 : (0 : Int) ≤ (ib : Int) := by omega
  have hib1 : (ib : Int) < 16 := by omega
  have hia0 : (0 : Int) ≤ (ia : Int) := by omega
  have hia1 : (ia : Int) < 16 := by omega
  have hsz := regs_size r hl
  have HL := Lib.hid hl
  obtain ⟨jc, hjc⟩ : ∃ jc, ic % 16 = jc := ⟨_, rfl⟩
  have hj16 : jc < 16 := by rw [← hjc]; exact Nat.mod_lt _ (by decide)
  have hct := tmod_16 ic jc hjc
  rw [hjc] at HXC
  obtain ⟨hcw, hcw2, hic0, hic1⟩ := small_i64 jc hj16
  clear hok hxb hxc hl hjc
  have HDV : Hid (doesV 14 xb xc = .nilFunc) := Lib.hid rfl
  go_enter Try.func10, Try.ntmps10
  go_wp2_with fail
  refine (word_any ⟨14, ia, ib, ic, imm⟩ _).mono ?_
  rintro e w1 ⟨u, rfl, hb1⟩
  rw [HOK.out]
  obtain ⟨k0, k1, k2, hs1⟩ := three_0 hb1
  have HB1 : Hid (Below w.heap.size w w1) := Lib.hid ((three_below w _ _ _).trans (hb1.mono (three_below w _ _ _).size))
  have HS1 := Lib.hid hs1
  replace k2 : w1.heap[w.heap.size + 1 + 1]? = some (.cells (regCells zr) 24 (0, 0)) := k2
  have HK4 : Hid (∀ wx, Below w1.heap.size w1 wx → Below w1.heap.size w1 wx ∧ wx.cell? ⟨w.heap.size, 0, none⟩ = some (.int .i64 14) ∧ wx.cell? ⟨w.heap.size, 2, none⟩ = some (.int .i64 ib) ∧ wx.cell? ⟨w.heap.size, 3, none⟩ = some (.int .i64 ic) ∧ wx.cell? ⟨w.heap.size + 1, ib, none⟩ = some (.int .u32 xb) ∧ wx.cell? ⟨w.heap.size + 1, jc, none⟩ = some (.int .u32 xc)) := Lib.hid fun wx h => by
    have e0 : wx.heap[w.heap.size]? = _ := (h.block _ (by have := HS1.out; omega)).trans k0
    have e1 : wx.heap[w.heap.size + 1]? = _ := (h.block _ (by have := HS1.out; omega)).trans k1
    exact ⟨h, blk_cell e0 0, blk_cell e0 2, blk_cell e0 3, (blk_cell e1 ib).trans HXB.out, (blk_cell e1 jc).trans HXC.out⟩
  have HK5 : Hid (∀ wx, Below w1.heap.size w1 wx → wx.heap[w.heap.size]? = some (.cells #[.int .i64 14, .int .i64 ia, .int .i64 ib, .int .i64 ic, .int .u32 imm] 29 (0, 0)) ∧ wx.heap[w.heap.size + 1]? = some (.cells (regCells r) 24 (0, 0)) ∧ wx.heap[w.heap.size + 1 + 1]? = some (.cells (regCells zr) 24 (0, 0))) := Lib.hid fun wx h =>
    ⟨(h.block _ (by have := HS1.out; omega)).trans k0, (h.block _ (by have := HS1.out; omega)).trans k1, (h.block _ (by have := HS1.out; omega)).trans k2⟩
  have HDO : Hid (∀ wx, Below w1.heap.size w1 wx → Calls Try.prog 17 #[prV xb xc, .int .i64 14] wx fun e w' => e = .returned (doesV 14 xb xc) ∧ Below w1.heap.size w1 w') := Lib.hid fun wx h => (does_any 14 xb xc wx).mono fun e w' ⟨he, hb⟩ => ⟨he, h.trans (hb.mono h.size)⟩
  have hbd : Below w1.heap.size w1 w1.drew := (Below.refl _ _).drew
  clear hb1 k0 k1 k2 hs1
  go_wp2_with fail
  go_region_held3 (fun wx => Below w1.heap.size w1 wx ∧ wx.cell? ⟨w.heap.size, 0, none⟩ = some (.int .i64 14) ∧ wx.cell? ⟨w.heap.size, 2, none⟩ = some (.int .i64 ib) ∧ wx.cell? ⟨w.heap.size, 3, none⟩ = some (.int .i64 ic) ∧ wx.cell? ⟨w.heap.size + 1, ib, none⟩ = some (.int .u32 xb) ∧ wx.cell? ⟨w.heap.size + 1, jc, none⟩ = some (.int .u32 xc)) (exact HK4.out _ (by assumption))
    (first
      | (go_at_call 17; refine (HDO.out _ (by assumption)).mono ?_; rintro e w2 ⟨rfl, hb2⟩; rw [HDV.out]))
  obtain ⟨k0, k1, k2⟩ := HK5.out _ hb2
  have HB2 : Hid (Below w.heap.size w w2) := Lib.hid (HB1.out.trans (hb2.mono HB1.out.size))
  have hs2 : w.heap.size + 3 ≤ w2.heap.size := Nat.le_trans HS1.out hb2.size
  have c0 := blk_cell k0 0
  have c1 := blk_cell k0 1
  have c4 := blk_cell k0 4
  clear HK4 HK5 HDO hbd hb2 HB1 HS1
  have q0 : w2.cell? ⟨w.heap.size + 1, ia, none⟩ = some (.int .u32 (r.getD ia 0)) := (blk_cell k1 ia).trans (regs_at r HL.out ia _ hia rfl)
  have q1 : w2.frozen? ⟨w.heap.size + 1, ia, none⟩ = false := blk_free k1 ia
  have q2 := row?_of k1
  have q3 := row?_of k2
  have hsz3 : (regCells zr).size = 16 := rfl
  clear k0 k1 k2
  have HBF : Hid (∀ cs, Below w.heap.size w ((w2.setCell ⟨w.heap.size + 1, ia, none⟩ (.int .u32 imm)).setRow (w.heap.size + 1 + 1) cs)) := Lib.hid fun cs =>
    below_setRow (HB2.out.setCell (p := ⟨w.heap.size + 1, ia, none⟩) (Nat.le_succ _) _) (by omega)
  have HRS : Hid (row? ((w2.setCell ⟨w.heap.size + 1, ia, none⟩ (.int .u32 imm)).setRow (w.heap.size + 1 + 1) (regCells (r.set ia imm))) (w.heap.size + 1 + 1) = some (regCells (r.set ia imm))) := Lib.hid
    (row?_setRow (old := regCells zr) (by rw [row?_set_other _ _ _ (by show w.heap.size + 1 + 1 ≠ w.heap.size + 1; omega)]; exact q3))
  have hset := regs_set r ia imm
  have hsz2 : (regCells (r.set ia imm)).size = 16 := regs_size _ (by rw [List.length_set]; exact HL.out)
  have HL2 : Hid ((r.set ia imm).length = 16) := Lib.hid (by rw [List.length_set]; exact HL.out)
  clear hs2
  go_wp2
  exact bodyPost_ret (regs_ret_tmp (r := r.set ia imm) HL2.out rfl rfl HRS.out) rfl ⟨rfl, HBF.out _⟩
set_option maxRecDepth 100000 in
set_option maxHeartbeats 4000000 in
theorem do_15 (imm : Int) (ia ib ic : Nat) (r : List Int) (hl : r.length = 16) (w : World) (hok : wok ⟨15, ia, ib, ic, imm⟩ = true) (hia : ia < 16) (hib : ib < 16) (xb xc : Int) (hxb : r.getD ib 0 = xb) (hxc : r.getD (ic % 16) 0 = xc)  :
    Calls Try.prog 10 #[insV ⟨15, ia, ib, ic, imm⟩, .agg (regCells r)] w fun e w' => e = .returned (.tuple #[.agg (regCells (r.set ia imm)), .bool true]) ∧ Below w.heap.size w w' := by
  have HOK := Lib.hid hok
  have HXB : Hid ((regCells r)[ib]? = some (.int .u32 xb)) := Lib.hid (regs_at r hl ib xb hib hxb)
  have HXC : Hid ((regCells r)[ic % 16]? = some (.int .u32 xc)) := Lib.hid (regs_at r hl (ic % 16) xc (Nat.mod_lt _ (by decide)) hxc)
  have hib0 : (0 : Int) ≤ (ib : Int) := by omega
  have hib1 : (ib : Int) < 16 := by omega
  have hia0 : (0 : Int) ≤ (ia : Int) := by omega
  have hia1 : (ia : Int) < 16 := by omega
  have hsz := regs_size r hl
  have HL := Lib.hid hl
  obtain ⟨jc, hjc⟩ : ∃ jc, ic % 16 = jc := ⟨_, rfl⟩
  have hj16 : jc < 16 := by rw [← hjc]; exact Nat.mod_lt _ (by decide)
  have hct := tmod_16 ic jc hjc
  rw [hjc] at HXC
  obtain ⟨hcw, hcw2, hic0, hic1⟩ := small_i64 jc hj16
  clear hok hxb hxc hl hjc
  have HDV : Hid (doesV 15 xb xc = .nilFunc) := Lib.hid rfl
  go_enter Try.func10, Try.ntmps10
  go_wp2_with fail
  refine (word_any ⟨15, ia, ib, ic, imm⟩ _).mono ?_
  rintro e w1 ⟨u, rfl, hb1⟩
  rw [HOK.out]
  obtain ⟨k0, k1, k2, hs1⟩ := three_0 hb1
  have HB1 : Hid (Below w.heap.size w w1) := Lib.hid ((three_below w _ _ _).trans (hb1.mono (three_below w _ _ _).size))
  have HS1 := Lib.hid hs1
  replace k2 : w1.heap[w.heap.size + 1 + 1]? = some (.cells (regCells zr) 24 (0, 0)) := k2
  have HK4 : Hid (∀ wx, Below w1.heap.size w1 wx → Below w1.heap.size w1 wx ∧ wx.cell? ⟨w.heap.size, 0, none⟩ = some (.int .i64 15) ∧ wx.cell? ⟨w.heap.size, 2, none⟩ = some (.int .i64 ib) ∧ wx.cell? ⟨w.heap.size, 3, none⟩ = some (.int .i64 ic) ∧ wx.cell? ⟨w.heap.size + 1, ib, none⟩ = some (.int .u32 xb) ∧ wx.cell? ⟨w.heap.size + 1, jc, none⟩ = some (.int .u32 xc)) := Lib.hid fun wx h => by
    have e0 : wx.heap[w.heap.size]? = _ := (h.block _ (by have := HS1.out; omega)).trans k0
    have e1 : wx.heap[w.heap.size + 1]? = _ := (h.block _ (by have := HS1.out; omega)).trans k1
    exact ⟨h, blk_cell e0 0, blk_cell e0 2, blk_cell e0 3, (blk_cell e1 ib).trans HXB.out, (blk_cell e1 jc).trans HXC.out⟩
  have HK5 : Hid (∀ wx, Below w1.heap.size w1 wx → wx.heap[w.heap.size]? = some (.cells #[.int .i64 15, .int .i64 ia, .int .i64 ib, .int .i64 ic, .int .u32 imm] 29 (0, 0)) ∧ wx.heap[w.heap.size + 1]? = some (.cells (regCells r) 24 (0, 0)) ∧ wx.heap[w.heap.size + 1 + 1]? = some (.cells (regCells zr) 24 (0, 0))) := Lib.hid fun wx h =>
    ⟨(h.block _ (by have := HS1.out; omega)).trans k0, (h.block _ (by have := HS1.out; omega)).trans k1, (h.block _ (by have := HS1.out; omega)).trans k2⟩
  have HDO : Hid (∀ wx, Below w1.heap.size w1 wx → Calls Try.prog 17 #[prV xb xc, .int .i64 15] wx fun e w' => e = .returned (doesV 15 xb xc) ∧ Below w1.heap.size w1 w') := Lib.hid fun wx h => (does_any 15 xb xc wx).mono fun e w' ⟨he, hb⟩ => ⟨he, h.trans (hb.mono h.size)⟩
  have hbd : Below w1.heap.size w1 w1.drew := (Below.refl _ _).drew
  clear hb1 k0 k1 k2 hs1
  go_wp2_with fail
  go_region_held3 (fun wx => Below w1.heap.size w1 wx ∧ wx.cell? ⟨w.heap.size, 0, none⟩ = some (.int .i64 15) ∧ wx.cell? ⟨w.heap.size, 2, none⟩ = some (.int .i64 ib) ∧ wx.cell? ⟨w.heap.size, 3, none⟩ = some (.int .i64 ic) ∧ wx.cell? ⟨w.heap.size + 1, ib, none⟩ = some (.int .u32 xb) ∧ wx.cell? ⟨w.heap.size + 1, jc, none⟩ = some (.int .u32 xc)) (exact HK4.out _ (by assumption))
    (first
      | (go_at_call 17; refine (HDO.out _ (by assumption)).mono ?_; rintro e w2 ⟨rfl, hb2⟩; rw [HDV.out]))
  obtain ⟨k0, k1, k2⟩ := HK5.out _ hb2
  have HB2 : Hid (Below w.heap.size w w2) := Lib.hid (HB1.out.trans (hb2.mono HB1.out.size))
  have hs2 : w.heap.size + 3 ≤ w2.heap.size := Nat.le_trans HS1.out hb2.size
  have c0 := blk_cell k0 0
  have c1 := blk_cell k0 1
  have c4 := blk_cell k0 4
  clear HK4 HK5 HDO hbd hb2 HB1 HS1
  have q0 : w2.cell? ⟨w.heap.size + 1, ia, none⟩ = some (.int .u32 (r.getD ia 0)) := (blk_cell k1 ia).trans (regs_at r HL.out ia _ hia rfl)
  have q1 : w2.frozen? ⟨w.heap.size + 1, ia, none⟩ = false := blk_free k1 ia
  have q2 := row?_of k1
  have q3 := row?_of k2
  have hsz3 : (regCells zr).size = 16 := rfl
  clear k0 k1 k2
  have HBF : Hid (∀ cs, Below w.heap.size w ((w2.setCell ⟨w.heap.size + 1, ia, none⟩ (.int .u32 imm)).setRow (w.heap.size + 1 + 1) cs)) := Lib.hid fun cs =>
    below_setRow (HB2.out.setCell (p := ⟨w.heap.size + 1, ia, none⟩) (Nat.le_succ _) _) (by omega)
  have HRS : Hid (row? ((w2.setCell ⟨w.heap.size + 1, ia, none⟩ (.int .u32 imm)).setRow (w.heap.size + 1 + 1) (regCells (r.set ia imm))) (w.heap.size + 1 + 1) = some (regCells (r.set ia imm))) := Lib.hid
    (row?_setRow (old := regCells zr) (by rw [row?_set_other _ _ _ (by show w.heap.size + 1 + 1 ≠ w.heap.size + 1; omega)]; exact q3))
  have hset := regs_set r ia imm
  have hsz2 : (regCells (r.set ia imm)).size = 16 := regs_size _ (by rw [List.length_set]; exact HL.out)
  have HL2 : Hid ((r.set ia imm).length = 16) := Lib.hid (by rw [List.length_set]; exact HL.out)
  clear hs2
  go_wp2
  exact bodyPost_ret (regs_ret_tmp (r := r.set ia imm) HL2.out rfl rfl HRS.out) rfl ⟨rfl, HBF.out _⟩
set_option maxRecDepth 100000 in
set_option maxHeartbeats 4000000 in
theorem do_other (op imm : Int) (ia ib ic : Nat) (r : List Int) (hl : r.length = 16) (w : World) (hok : wok ⟨op, ia, ib, ic, imm⟩ = true) (hia : ia < 16) (hib : ib < 16) (xb xc : Int) (hxb : r.getD ib 0 = xb) (hxc : r.getD (ic % 16) 0 = xc) (g : ¬ op ∈ lkR) (g14 : op ≠ 14) (g15 : op ≠ 15) (g1 : op ≠ 1) :
    Calls Try.prog 10 #[insV ⟨op, ia, ib, ic, imm⟩, .agg (regCells r)] w fun e w' => e = .returned (.tuple #[.agg (regCells zr), .bool false]) ∧ Below w.heap.size w w' := by
  have HOK := Lib.hid hok
  have HXB : Hid ((regCells r)[ib]? = some (.int .u32 xb)) := Lib.hid (regs_at r hl ib xb hib hxb)
  have HXC : Hid ((regCells r)[ic % 16]? = some (.int .u32 xc)) := Lib.hid (regs_at r hl (ic % 16) xc (Nat.mod_lt _ (by decide)) hxc)
  have hib0 : (0 : Int) ≤ (ib : Int) := by omega
  have hib1 : (ib : Int) < 16 := by omega
  have hia0 : (0 : Int) ≤ (ia : Int) := by omega
  have hia1 : (ia : Int) < 16 := by omega
  have hsz := regs_size r hl
  have HL := Lib.hid hl
  obtain ⟨jc, hjc⟩ : ∃ jc, ic % 16 = jc := ⟨_, rfl⟩
  have hj16 : jc < 16 := by rw [← hjc]; exact Nat.mod_lt _ (by decide)
  have hct := tmod_16 ic jc hjc
  rw [hjc] at HXC
  obtain ⟨hcw, hcw2, hic0, hic1⟩ := small_i64 jc hj16
  clear hok hxb hxc hl hjc
  have HDV : Hid (doesV op xb xc = .nilFunc) := Lib.hid (doesV_no g xb xc)
  have hneq := neq_nil
  have h14 : (op == 14) = false := by rw [beq_eq_false_iff_ne]; exact g14
  have h15 : (op == 15) = false := by rw [beq_eq_false_iff_ne]; exact g15
  have h1 : (op != 1) = true := by rw [bne_iff_ne]; exact g1
  clear g g14 g15 g1
  go_enter Try.func10, Try.ntmps10
  go_wp2_with fail
  refine (word_any ⟨op, ia, ib, ic, imm⟩ _).mono ?_
  rintro e w1 ⟨u, rfl, hb1⟩
  rw [HOK.out]
  obtain ⟨k0, k1, k2, hs1⟩ := three_0 hb1
  have HB1 : Hid (Below w.heap.size w w1) := Lib.hid ((three_below w _ _ _).trans (hb1.mono (three_below w _ _ _).size))
  have HS1 := Lib.hid hs1
  replace k2 : w1.heap[w.heap.size + 1 + 1]? = some (.cells (regCells zr) 24 (0, 0)) := k2
  have HK4 : Hid (∀ wx, Below w1.heap.size w1 wx → Below w1.heap.size w1 wx ∧ wx.cell? ⟨w.heap.size, 0, none⟩ = some (.int .i64 op) ∧ wx.cell? ⟨w.heap.size, 2, none⟩ = some (.int .i64 ib) ∧ wx.cell? ⟨w.heap.size, 3, none⟩ = some (.int .i64 ic) ∧ wx.cell? ⟨w.heap.size + 1, ib, none⟩ = some (.int .u32 xb) ∧ wx.cell? ⟨w.heap.size + 1, jc, none⟩ = some (.int .u32 xc)) := Lib.hid fun wx h => by
    have e0 : wx.heap[w.heap.size]? = _ := (h.block _ (by have := HS1.out; omega)).trans k0
    have e1 : wx.heap[w.heap.size + 1]? = _ := (h.block _ (by have := HS1.out; omega)).trans k1
    exact ⟨h, blk_cell e0 0, blk_cell e0 2, blk_cell e0 3, (blk_cell e1 ib).trans HXB.out, (blk_cell e1 jc).trans HXC.out⟩
  have HK5 : Hid (∀ wx, Below w1.heap.size w1 wx → wx.heap[w.heap.size]? = some (.cells #[.int .i64 op, .int .i64 ia, .int .i64 ib, .int .i64 ic, .int .u32 imm] 29 (0, 0)) ∧ wx.heap[w.heap.size + 1]? = some (.cells (regCells r) 24 (0, 0)) ∧ wx.heap[w.heap.size + 1 + 1]? = some (.cells (regCells zr) 24 (0, 0))) := Lib.hid fun wx h =>
    ⟨(h.block _ (by have := HS1.out; omega)).trans k0, (h.block _ (by have := HS1.out; omega)).trans k1, (h.block _ (by have := HS1.out; omega)).trans k2⟩
  have HDO : Hid (∀ wx, Below w1.heap.size w1 wx → Calls Try.prog 17 #[prV xb xc, .int .i64 op] wx fun e w' => e = .returned (doesV op xb xc) ∧ Below w1.heap.size w1 w') := Lib.hid fun wx h => (does_any op xb xc wx).mono fun e w' ⟨he, hb⟩ => ⟨he, h.trans (hb.mono h.size)⟩
  have hbd : Below w1.heap.size w1 w1.drew := (Below.refl _ _).drew
  clear hb1 k0 k1 k2 hs1
  go_wp2_with fail
  go_region_held3 (fun wx => Below w1.heap.size w1 wx ∧ wx.cell? ⟨w.heap.size, 0, none⟩ = some (.int .i64 op) ∧ wx.cell? ⟨w.heap.size, 2, none⟩ = some (.int .i64 ib) ∧ wx.cell? ⟨w.heap.size, 3, none⟩ = some (.int .i64 ic) ∧ wx.cell? ⟨w.heap.size + 1, ib, none⟩ = some (.int .u32 xb) ∧ wx.cell? ⟨w.heap.size + 1, jc, none⟩ = some (.int .u32 xc)) (exact HK4.out _ (by assumption))
    (first
      | (go_at_call 17; refine (HDO.out _ (by assumption)).mono ?_; rintro e w2 ⟨rfl, hb2⟩; rw [HDV.out]))
  obtain ⟨k0, k1, k2⟩ := HK5.out _ hb2
  have HB2 : Hid (Below w.heap.size w w2) := Lib.hid (HB1.out.trans (hb2.mono HB1.out.size))
  have hs2 : w.heap.size + 3 ≤ w2.heap.size := Nat.le_trans HS1.out hb2.size
  have c0 := blk_cell k0 0
  have c1 := blk_cell k0 1
  have c4 := blk_cell k0 4
  clear HK4 HK5 HDO hbd hb2 HB1 HS1
  have q0 : w2.cell? ⟨w.heap.size + 1, ia, none⟩ = some (.int .u32 (r.getD ia 0)) := (blk_cell k1 ia).trans (regs_at r HL.out ia _ hia rfl)
  have q1 : w2.frozen? ⟨w.heap.size + 1, ia, none⟩ = false := blk_free k1 ia
  have q2 := row?_of k1
  have q3 := row?_of k2
  have hsz3 : (regCells zr).size = 16 := rfl
  clear k0 k1 k2
  have HBF : Hid (∀ cs, Below w.heap.size w (w2.setRow (w.heap.size + 1 + 1) cs)) := Lib.hid fun cs => below_setRow HB2.out (by omega)
  have HRS : Hid (row? (w2.setRow (w.heap.size + 1 + 1) (regCells zr)) (w.heap.size + 1 + 1) = some (regCells zr)) := Lib.hid (row?_setRow q3)
  clear hs2
  go_wp2
  exact bodyPost_ret (regs_ret_tmp (r := zr) rfl rfl rfl HRS.out) rfl ⟨rfl, HBF.out _⟩
end Go.Proofs.Ytikioeddilgbpaa
