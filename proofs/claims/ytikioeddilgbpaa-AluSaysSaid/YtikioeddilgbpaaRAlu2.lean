/-
  The document's Alu: unlike bits, shifts, the product.
-/
import Derived.Test.YtikioeddilgbpaaRAlu0
namespace Go.Proofs.Ytikioeddilgbpaa
open Go.RowKit

set_option linter.unusedSimpArgs false
set_option maxRecDepth 100000 in
set_option maxHeartbeats 4000000 in
theorem ralu_7 (imm : Int) (ia ib ic : Nat) (r : List Int) (hl : r.length = 16) (w : World) (hok : wok ⟨7, ia, ib, ic, imm⟩ = true) (hia : ia < 16) (hib : ib < 16) (hic : ic < 256) (xb xc : Int) (hxb : r.getD ib 0 = xb) (hxc : r.getD (ic % 16) 0 = xc)  :
    Calls Try.prog 13 #[insV ⟨7, ia, ib, ic, imm⟩, .agg (regCells r)] w fun e w' => e = .returned (.tuple #[.agg (regCells (r.set ia (rk 7 xb xc))), .bool true]) ∧ Below w.heap.size w w' := by
  have HOK := Lib.hid hok
  have HXB : Hid ((regCells r)[ib]? = some (.int .u32 xb)) := Lib.hid (regs_at r hl ib xb hib hxb)
  have HXC : Hid ((regCells r)[ic % 16]? = some (.int .u32 xc)) := Lib.hid (regs_at r hl (ic % 16) xc (Nat.mod_lt _ (by decide)) hxc)
  have hib0 : (0 : Int) ≤ (ib : Int) := by omega
  have hib1 : (ib : Int) < 16 := by omega
  have hia0 : (0 : Int) ≤ (ia : Int) := by omega
  have hia1 : (ia : Int) < 16 := by omega
  have hsz := regs_size r hl
  have hsz3 : (regCells zr).size = 16 := rfl
  have HL := Lib.hid hl
  obtain ⟨jc, hjc⟩ : ∃ jc, ic % 16 = jc := ⟨_, rfl⟩
  have hj16 : jc < 16 := by rw [← hjc]; exact Nat.mod_lt _ (by decide)
  have hct := and_15 ic jc hic hjc
  rw [hjc] at HXC
  obtain ⟨hcw, hcw2, hic0, hic1⟩ := small_i64 jc hj16
  clear hok hxb hxc hl hjc hic
  obtain ⟨x, hx⟩ : ∃ x, rk 7 xb xc = x := ⟨_, rfl⟩
  rw [hx]
  have hx2 : bits BinOp.xor IntKind.u32 xb xc = x := hx
  clear hx
  go_enter Try.func13, Try.ntmps13
  go_wp2_with fail
  refine (rword_any ⟨7, ia, ib, ic, imm⟩ _).mono ?_
  rintro e w1 ⟨u, rfl, hb1⟩
  rw [HOK.out]
  obtain ⟨k0, k1, k2, hs1⟩ := three_0 hb1
  have HB1 : Hid (Below w.heap.size w w1) := Lib.hid ((three_below w _ _ _).trans (hb1.mono (three_below w _ _ _).size))
  replace k2 : w1.heap[w.heap.size + 1 + 1]? = some (.cells (regCells zr) 24 (0, 0)) := k2
  have c0 := blk_cell k0 0
  have c1 := blk_cell k0 1
  have c2 := blk_cell k0 2
  have c3 := blk_cell k0 3
  have c4 := blk_cell k0 4
  have cB := (blk_cell k1 ib).trans HXB.out
  have cC := (blk_cell k1 jc).trans HXC.out
  have q0 : w1.cell? ⟨w.heap.size + 1, ia, none⟩ = some (.int .u32 (r.getD ia 0)) := (blk_cell k1 ia).trans (regs_at r HL.out ia _ hia rfl)
  have q1 : w1.frozen? ⟨w.heap.size + 1, ia, none⟩ = false := blk_free k1 ia
  have q2 := row?_of k1
  have q3 := row?_of k2
  clear hb1 k0 k1 k2
  have HBF : Hid (∀ cs, Below w.heap.size w ((w1.setCell ⟨w.heap.size + 1, ia, none⟩ (.int .u32 x)).setRow (w.heap.size + 1 + 1) cs)) := Lib.hid fun cs =>
    below_setRow (HB1.out.setCell (p := ⟨w.heap.size + 1, ia, none⟩) (Nat.le_succ _) _) (by omega)
  have HRS : Hid (row? ((w1.setCell ⟨w.heap.size + 1, ia, none⟩ (.int .u32 x)).setRow (w.heap.size + 1 + 1) (regCells (r.set ia x))) (w.heap.size + 1 + 1) = some (regCells (r.set ia x))) := Lib.hid
    (row?_setRow (old := regCells zr) (by rw [row?_set_other _ _ _ (by show w.heap.size + 1 + 1 ≠ w.heap.size + 1; omega)]; exact q3))
  have hset := regs_set r ia x
  have hsz2 : (regCells (r.set ia x)).size = 16 := regs_size _ (by rw [List.length_set]; exact HL.out)
  have HL2 : Hid ((r.set ia x).length = 16) := Lib.hid (by rw [List.length_set]; exact HL.out)
  clear hs1
  go_wp2
  exact bodyPost_ret (regs_ret_tmp (r := r.set ia x) HL2.out rfl rfl HRS.out) rfl ⟨rfl, HBF.out _⟩
set_option maxRecDepth 100000 in
set_option maxHeartbeats 4000000 in
theorem ralu_8 (imm : Int) (ia ib ic : Nat) (r : List Int) (hl : r.length = 16) (w : World) (hok : wok ⟨8, ia, ib, ic, imm⟩ = true) (hia : ia < 16) (hib : ib < 16) (hic : ic < 256) (xb xc : Int) (hxb : r.getD ib 0 = xb) (hxc : r.getD (ic % 16) 0 = xc) (hu : U32 xc) :
    Calls Try.prog 13 #[insV ⟨8, ia, ib, ic, imm⟩, .agg (regCells r)] w fun e w' => e = .returned (.tuple #[.agg (regCells (r.set ia (rk 8 xb xc))), .bool true]) ∧ Below w.heap.size w w' := by
  have HOK := Lib.hid hok
  have HXB : Hid ((regCells r)[ib]? = some (.int .u32 xb)) := Lib.hid (regs_at r hl ib xb hib hxb)
  have HXC : Hid ((regCells r)[ic % 16]? = some (.int .u32 xc)) := Lib.hid (regs_at r hl (ic % 16) xc (Nat.mod_lt _ (by decide)) hxc)
  have hib0 : (0 : Int) ≤ (ib : Int) := by omega
  have hib1 : (ib : Int) < 16 := by omega
  have hia0 : (0 : Int) ≤ (ia : Int) := by omega
  have hia1 : (ia : Int) < 16 := by omega
  have hsz := regs_size r hl
  have hsz3 : (regCells zr).size = 16 := rfl
  have HL := Lib.hid hl
  obtain ⟨jc, hjc⟩ : ∃ jc, ic % 16 = jc := ⟨_, rfl⟩
  have hj16 : jc < 16 := by rw [← hjc]; exact Nat.mod_lt _ (by decide)
  have hct := and_15 ic jc hic hjc
  rw [hjc] at HXC
  obtain ⟨hcw, hcw2, hic0, hic1⟩ := small_i64 jc hj16
  clear hok hxb hxc hl hjc hic
  obtain ⟨x, hx⟩ : ∃ x, rk 8 xb xc = x := ⟨_, rfl⟩
  rw [hx]
  have hs := run_shl xb xc hu Try.prog
  have hx2 : shlV xb xc = x := hx
  rw [hx2] at hs
  clear hx hx2 hu
  go_enter Try.func13, Try.ntmps13
  go_wp2_with fail
  refine (rword_any ⟨8, ia, ib, ic, imm⟩ _).mono ?_
  rintro e w1 ⟨u, rfl, hb1⟩
  rw [HOK.out]
  obtain ⟨k0, k1, k2, hs1⟩ := three_0 hb1
  have HB1 : Hid (Below w.heap.size w w1) := Lib.hid ((three_below w _ _ _).trans (hb1.mono (three_below w _ _ _).size))
  replace k2 : w1.heap[w.heap.size + 1 + 1]? = some (.cells (regCells zr) 24 (0, 0)) := k2
  have c0 := blk_cell k0 0
  have c1 := blk_cell k0 1
  have c2 := blk_cell k0 2
  have c3 := blk_cell k0 3
  have c4 := blk_cell k0 4
  have cB := (blk_cell k1 ib).trans HXB.out
  have cC := (blk_cell k1 jc).trans HXC.out
  have q0 : w1.cell? ⟨w.heap.size + 1, ia, none⟩ = some (.int .u32 (r.getD ia 0)) := (blk_cell k1 ia).trans (regs_at r HL.out ia _ hia rfl)
  have q1 : w1.frozen? ⟨w.heap.size + 1, ia, none⟩ = false := blk_free k1 ia
  have q2 := row?_of k1
  have q3 := row?_of k2
  clear hb1 k0 k1 k2
  have HBF : Hid (∀ cs, Below w.heap.size w ((w1.setCell ⟨w.heap.size + 1, ia, none⟩ (.int .u32 x)).setRow (w.heap.size + 1 + 1) cs)) := Lib.hid fun cs =>
    below_setRow (HB1.out.setCell (p := ⟨w.heap.size + 1, ia, none⟩) (Nat.le_succ _) _) (by omega)
  have HRS : Hid (row? ((w1.setCell ⟨w.heap.size + 1, ia, none⟩ (.int .u32 x)).setRow (w.heap.size + 1 + 1) (regCells (r.set ia x))) (w.heap.size + 1 + 1) = some (regCells (r.set ia x))) := Lib.hid
    (row?_setRow (old := regCells zr) (by rw [row?_set_other _ _ _ (by show w.heap.size + 1 + 1 ≠ w.heap.size + 1; omega)]; exact q3))
  have hset := regs_set r ia x
  have hsz2 : (regCells (r.set ia x)).size = 16 := regs_size _ (by rw [List.length_set]; exact HL.out)
  have HL2 : Hid ((r.set ia x).length = 16) := Lib.hid (by rw [List.length_set]; exact HL.out)
  clear hs1
  go_wp2
  exact bodyPost_ret (regs_ret_tmp (r := r.set ia x) HL2.out rfl rfl HRS.out) rfl ⟨rfl, HBF.out _⟩
set_option maxRecDepth 100000 in
set_option maxHeartbeats 4000000 in
theorem ralu_9 (imm : Int) (ia ib ic : Nat) (r : List Int) (hl : r.length = 16) (w : World) (hok : wok ⟨9, ia, ib, ic, imm⟩ = true) (hia : ia < 16) (hib : ib < 16) (hic : ic < 256) (xb xc : Int) (hxb : r.getD ib 0 = xb) (hxc : r.getD (ic % 16) 0 = xc) (hu : U32 xc) :
    Calls Try.prog 13 #[insV ⟨9, ia, ib, ic, imm⟩, .agg (regCells r)] w fun e w' => e = .returned (.tuple #[.agg (regCells (r.set ia (rk 9 xb xc))), .bool true]) ∧ Below w.heap.size w w' := by
  have HOK := Lib.hid hok
  have HXB : Hid ((regCells r)[ib]? = some (.int .u32 xb)) := Lib.hid (regs_at r hl ib xb hib hxb)
  have HXC : Hid ((regCells r)[ic % 16]? = some (.int .u32 xc)) := Lib.hid (regs_at r hl (ic % 16) xc (Nat.mod_lt _ (by decide)) hxc)
  have hib0 : (0 : Int) ≤ (ib : Int) := by omega
  have hib1 : (ib : Int) < 16 := by omega
  have hia0 : (0 : Int) ≤ (ia : Int) := by omega
  have hia1 : (ia : Int) < 16 := by omega
  have hsz := regs_size r hl
  have hsz3 : (regCells zr).size = 16 := rfl
  have HL := Lib.hid hl
  obtain ⟨jc, hjc⟩ : ∃ jc, ic % 16 = jc := ⟨_, rfl⟩
  have hj16 : jc < 16 := by rw [← hjc]; exact Nat.mod_lt _ (by decide)
  have hct := and_15 ic jc hic hjc
  rw [hjc] at HXC
  obtain ⟨hcw, hcw2, hic0, hic1⟩ := small_i64 jc hj16
  clear hok hxb hxc hl hjc hic
  obtain ⟨x, hx⟩ : ∃ x, rk 9 xb xc = x := ⟨_, rfl⟩
  rw [hx]
  have hs := run_shr xb xc hu Try.prog
  have hx2 : shrV xb xc = x := hx
  rw [hx2] at hs
  clear hx hx2 hu
  go_enter Try.func13, Try.ntmps13
  go_wp2_with fail
  refine (rword_any ⟨9, ia, ib, ic, imm⟩ _).mono ?_
  rintro e w1 ⟨u, rfl, hb1⟩
  rw [HOK.out]
  obtain ⟨k0, k1, k2, hs1⟩ := three_0 hb1
  have HB1 : Hid (Below w.heap.size w w1) := Lib.hid ((three_below w _ _ _).trans (hb1.mono (three_below w _ _ _).size))
  replace k2 : w1.heap[w.heap.size + 1 + 1]? = some (.cells (regCells zr) 24 (0, 0)) := k2
  have c0 := blk_cell k0 0
  have c1 := blk_cell k0 1
  have c2 := blk_cell k0 2
  have c3 := blk_cell k0 3
  have c4 := blk_cell k0 4
  have cB := (blk_cell k1 ib).trans HXB.out
  have cC := (blk_cell k1 jc).trans HXC.out
  have q0 : w1.cell? ⟨w.heap.size + 1, ia, none⟩ = some (.int .u32 (r.getD ia 0)) := (blk_cell k1 ia).trans (regs_at r HL.out ia _ hia rfl)
  have q1 : w1.frozen? ⟨w.heap.size + 1, ia, none⟩ = false := blk_free k1 ia
  have q2 := row?_of k1
  have q3 := row?_of k2
  clear hb1 k0 k1 k2
  have HBF : Hid (∀ cs, Below w.heap.size w ((w1.setCell ⟨w.heap.size + 1, ia, none⟩ (.int .u32 x)).setRow (w.heap.size + 1 + 1) cs)) := Lib.hid fun cs =>
    below_setRow (HB1.out.setCell (p := ⟨w.heap.size + 1, ia, none⟩) (Nat.le_succ _) _) (by omega)
  have HRS : Hid (row? ((w1.setCell ⟨w.heap.size + 1, ia, none⟩ (.int .u32 x)).setRow (w.heap.size + 1 + 1) (regCells (r.set ia x))) (w.heap.size + 1 + 1) = some (regCells (r.set ia x))) := Lib.hid
    (row?_setRow (old := regCells zr) (by rw [row?_set_other _ _ _ (by show w.heap.size + 1 + 1 ≠ w.heap.size + 1; omega)]; exact q3))
  have hset := regs_set r ia x
  have hsz2 : (regCells (r.set ia x)).size = 16 := regs_size _ (by rw [List.length_set]; exact HL.out)
  have HL2 : Hid ((r.set ia x).length = 16) := Lib.hid (by rw [List.length_set]; exact HL.out)
  clear hs1
  go_wp2
  exact bodyPost_ret (regs_ret_tmp (r := r.set ia x) HL2.out rfl rfl HRS.out) rfl ⟨rfl, HBF.out _⟩
set_option maxRecDepth 100000 in
set_option maxHeartbeats 4000000 in
theorem ralu_24 (imm : Int) (ia ib ic : Nat) (r : List Int) (hl : r.length = 16) (w : World) (hok : wok ⟨24, ia, ib, ic, imm⟩ = true) (hia : ia < 16) (hib : ib < 16) (hic : ic < 256) (xb xc : Int) (hxb : r.getD ib 0 = xb) (hxc : r.getD (ic % 16) 0 = xc)  :
    Calls Try.prog 13 #[insV ⟨24, ia, ib, ic, imm⟩, .agg (regCells r)] w fun e w' => e = .returned (.tuple #[.agg (regCells (r.set ia (rk 24 xb xc))), .bool true]) ∧ Below w.heap.size w w' := by
  have HOK := Lib.hid hok
  have HXB : Hid ((regCells r)[ib]? = some (.int .u32 xb)) := Lib.hid (regs_at r hl ib xb hib hxb)
  have HXC : Hid ((regCells r)[ic % 16]? = some (.int .u32 xc)) := Lib.hid (regs_at r hl (ic % 16) xc (Nat.mod_lt _ (by decide)) hxc)
  have hib0 : (0 : Int) ≤ (ib : Int) := by omega
  have hib1 : (ib : Int) < 16 := by omega
  have hia0 : (0 : Int) ≤ (ia : Int) := by omega
  have hia1 : (ia : Int) < 16 := by omega
  have hsz := regs_size r hl
  have hsz3 : (regCells zr).size = 16 := rfl
  have HL := Lib.hid hl
  obtain ⟨jc, hjc⟩ : ∃ jc, ic % 16 = jc := ⟨_, rfl⟩
  have hj16 : jc < 16 := by rw [← hjc]; exact Nat.mod_lt _ (by decide)
  have hct := and_15 ic jc hic hjc
  rw [hjc] at HXC
  obtain ⟨hcw, hcw2, hic0, hic1⟩ := small_i64 jc hj16
  clear hok hxb hxc hl hjc hic
  obtain ⟨x, hx⟩ : ∃ x, rk 24 xb xc = x := ⟨_, rfl⟩
  rw [hx]
  have hx2 : xb * xc % 4294967296 = x := hx
  clear hx
  go_enter Try.func13, Try.ntmps13
  go_wp2_with fail
  refine (rword_any ⟨24, ia, ib, ic, imm⟩ _).mono ?_
  rintro e w1 ⟨u, rfl, hb1⟩
  rw [HOK.out]
  obtain ⟨k0, k1, k2, hs1⟩ := three_0 hb1
  have HB1 : Hid (Below w.heap.size w w1) := Lib.hid ((three_below w _ _ _).trans (hb1.mono (three_below w _ _ _).size))
  replace k2 : w1.heap[w.heap.size + 1 + 1]? = some (.cells (regCells zr) 24 (0, 0)) := k2
  have c0 := blk_cell k0 0
  have c1 := blk_cell k0 1
  have c2 := blk_cell k0 2
  have c3 := blk_cell k0 3
  have c4 := blk_cell k0 4
  have cB := (blk_cell k1 ib).trans HXB.out
  have cC := (blk_cell k1 jc).trans HXC.out
  have q0 : w1.cell? ⟨w.heap.size + 1, ia, none⟩ = some (.int .u32 (r.getD ia 0)) := (blk_cell k1 ia).trans (regs_at r HL.out ia _ hia rfl)
  have q1 : w1.frozen? ⟨w.heap.size + 1, ia, none⟩ = false := blk_free k1 ia
  have q2 := row?_of k1
  have q3 := row?_of k2
  clear hb1 k0 k1 k2
  have HBF : Hid (∀ cs, Below w.heap.size w ((w1.setCell ⟨w.heap.size + 1, ia, none⟩ (.int .u32 x)).setRow (w.heap.size + 1 + 1) cs)) := Lib.hid fun cs =>
    below_setRow (HB1.out.setCell (p := ⟨w.heap.size + 1, ia, none⟩) (Nat.le_succ _) _) (by omega)
  have HRS : Hid (row? ((w1.setCell ⟨w.heap.size + 1, ia, none⟩ (.int .u32 x)).setRow (w.heap.size + 1 + 1) (regCells (r.set ia x))) (w.heap.size + 1 + 1) = some (regCells (r.set ia x))) := Lib.hid
    (row?_setRow (old := regCells zr) (by rw [row?_set_other _ _ _ (by show w.heap.size + 1 + 1 ≠ w.heap.size + 1; omega)]; exact q3))
  have hset := regs_set r ia x
  have hsz2 : (regCells (r.set ia x)).size = 16 := regs_size _ (by rw [List.length_set]; exact HL.out)
  have HL2 : Hid ((r.set ia x).length = 16) := Lib.hid (by rw [List.length_set]; exact HL.out)
  clear hs1
  go_wp2
  exact bodyPost_ret (regs_ret_tmp (r := r.set ia x) HL2.out rfl rfl HRS.out) rfl ⟨rfl, HBF.out _⟩
end Go.Proofs.Ytikioeddilgbpaa
