/-
  The document's Alu: less, same, numbers, the others.
-/
import Derived.Test.YtikioeddilgbpaaRAlu0
namespace Go.Proofs.Ytikioeddilgbpaa
open Go.RowKit

set_option linter.unusedSimpArgs false
set_option maxRecDepth 100000 in
set_option maxHeartbeats 4000000 in
theorem ralu_10 (imm : Int) (ia ib ic : Nat) (r : List Int) (hl : r.length = 16) (w : World) (hok : wok ⟨10, ia, ib, ic, imm⟩ = true) (hia : ia < 16) (hib : ib < 16) (hic : ic < 256) (xb xc : Int) (hxb : r.getD ib 0 = xb) (hxc : r.getD (ic % 16) 0 = xc)  :
    Calls Try.prog 13 #[insV ⟨10, ia, ib, ic, imm⟩, .agg (regCells r)] w fun e w' => e = .returned (.tuple #[.agg (regCells (r.set ia (rk 10 xb xc))), .bool true]) ∧ Below w.heap.size w w' := by
  have HOK := Lib.hid hok
  have HXB : Hid ((regCells r)[ib]? = some (.int .u32 xb)) := Lib.hid (regs_at r hl ib xb hib hxb)
  have HXC : Hid ((regCells r)[ic % 16]? = some (.int .u32 xc)) := Lib.hid (regs_at r hl (ic % 16) xc (Nat.mod_lt _ (by decide)) hxc)
  have hib0 : (0 : Int) ≤ (ib : Int) := by omega
  have hib1 : (ib : Int) < 16 := by omega
  have hia0 : (0 : Int) ≤ (ia : Int) := by omega
  have hia1 : (ia : Int) < 16 := by omega
  have hsz := regs_size r hl
  have hsz3 : (regCells zr).size = 16 := rfl
  have HL := Lib.hid hl
  obtain ⟨jc, hjc⟩ : ∃ jc, ic % 16 = jc := ⟨_, rfl⟩
  have hj16 : jc < 16 := by rw [← hjc]; exact Nat.mod_lt _ (by decide)
  have hct := and_15 ic jc hic hjc
  rw [hjc] at HXC
  obtain ⟨hcw, hcw2, hic0, hic1⟩ := small_i64 jc hj16
  clear hok hxb hxc hl hjc hic
  obtain ⟨x, hx⟩ : ∃ x, rk 10 xb xc = x := ⟨_, rfl⟩
  rw [hx]
  have HO : Hid (∀ wx, Calls Try.prog 19 #[.bool (decide (xb < xc))] wx fun e w' => e = .returned (.int .u32 x) ∧ wx = w') := Lib.hid fun wx => (one_any (decide (xb < xc)) wx).mono fun e w' hh => ⟨by rw [hh.1, ← hx]; show _ = Ending.returned (.int .u32 (ltV xb xc)); unfold ltV; by_cases h : xb < xc <;> simp [h], hh.2⟩
  clear hx
  go_enter Try.func13, Try.ntmps13
  go_wp2_with fail
  refine (rword_any ⟨10, ia, ib, ic, imm⟩ _).mono ?_
  rintro e w1 ⟨u, rfl, hb1⟩
  rw [HOK.out]
  obtain ⟨k0, k1, k2, hs1⟩ := three_0 hb1
  have HB1 : Hid (Below w.heap.size w w1) := Lib.hid ((three_below w _ _ _).trans (hb1.mono (three_below w _ _ _).size))
  replace k2 : w1.heap[w.heap.size + 1 + 1]? = some (.cells (regCells zr) 24 (0, 0)) := k2
  have c0 := blk_cell k0 0
  have c1 := blk_cell k0 1
  have c2 := blk_cell k0 2
  have c3 := blk_cell k0 3
  have c4 := blk_cell k0 4
  have cB := (blk_cell k1 ib).trans HXB.out
  have cC := (blk_cell k1 jc).trans HXC.out
  have q0 : w1.cell? ⟨w.heap.size + 1, ia, none⟩ = some (.int .u32 (r.getD ia 0)) := (blk_cell k1 ia).trans (regs_at r HL.out ia _ hia rfl)
  have q1 : w1.frozen? ⟨w.heap.size + 1, ia, none⟩ = false := blk_free k1 ia
  have q2 := row?_of k1
  have q3 := row?_of k2
  clear hb1 k0 k1 k2
  have HBF : Hid (∀ cs, Below w.heap.size w ((w1.setCell ⟨w.heap.size + 1, ia, none⟩ (.int .u32 x)).setRow (w.heap.size + 1 + 1) cs)) := Lib.hid fun cs =>
    below_setRow (HB1.out.setCell (p := ⟨w.heap.size + 1, ia, none⟩) (Nat.le_succ _) _) (by omega)
  have HRS : Hid (row? ((w1.setCell ⟨w.heap.size + 1, ia, none⟩ (.int .u32 x)).setRow (w.heap.size + 1 + 1) (regCells (r.set ia x))) (w.heap.size + 1 + 1) = some (regCells (r.set ia x))) := Lib.hid
    (row?_setRow (old := regCells zr) (by rw [row?_set_other _ _ _ (by show w.heap.size + 1 + 1 ≠ w.heap.size + 1; omega)]; exact q3))
  have hset := regs_set r ia x
  have hsz2 : (regCells (r.set ia x)).size = 16 := regs_size _ (by rw [List.length_set]; exact HL.out)
  have HL2 : Hid ((r.set ia x).length = 16) := Lib.hid (by rw [List.length_set]; exact HL.out)
  clear hs1
  go_wp2_with fail
  refine (HO.out _).mono ?_
  rintro e wq ⟨rfl, rfl⟩
  go_wp2
  exact bodyPost_ret (regs_ret_tmp (r := r.set ia x) HL2.out rfl rfl HRS.out) rfl ⟨rfl, HBF.out _⟩
set_option maxRecDepth 100000 in
set_option maxHeartbeats 4000000 in
theorem ralu_11 (imm : Int) (ia ib ic : Nat) (r : List Int) (hl : r.length = 16) (w : World) (hok : wok ⟨11, ia, ib, ic, imm⟩ = true) (hia : ia < 16) (hib : ib < 16) (hic : ic < 256) (xb xc : Int) (hxb : r.getD ib 0 = xb) (hxc : r.getD (ic % 16) 0 = xc)  :
    Calls Try.prog 13 #[insV ⟨11, ia, ib, ic, imm⟩, .agg (regCells r)] w fun e w' => e = .returned (.tuple #[.agg (regCells (r.set ia (rk 11 xb xc))), .bool true]) ∧ Below w.heap.size w w' := by
  have HOK := Lib.hid hok
  have HXB : Hid ((regCells r)[ib]? = some (.int .u32 xb)) := Lib.hid (regs_at r hl ib xb hib hxb)
  have HXC : Hid ((regCells r)[ic % 16]? = some (.int .u32 xc)) := Lib.hid (regs_at r hl (ic % 16) xc (Nat.mod_lt _ (by decide)) hxc)
  have hib0 : (0 : Int) ≤ (ib : Int) := by omega
  have hib1 : (ib : Int) < 16 := by omega
  have hia0 : (0 : Int) ≤ (ia : Int) := by omega
  have hia1 : (ia : Int) < 16 := by omega
  have hsz := regs_size r hl
  have hsz3 : (regCells zr).size = 16 := rfl
  have HL := Lib.hid hl
  obtain ⟨jc, hjc⟩ : ∃ jc, ic % 16 = jc := ⟨_, rfl⟩
  have hj16 : jc < 16 := by rw [← hjc]; exact Nat.mod_lt _ (by decide)
  have hct := and_15 ic jc hic hjc
  rw [hjc] at HXC
  obtain ⟨hcw, hcw2, hic0, hic1⟩ := small_i64 jc hj16
  clear hok hxb hxc hl hjc hic
  obtain ⟨x, hx⟩ : ∃ x, rk 11 xb xc = x := ⟨_, rfl⟩
  rw [hx]
  have HO : Hid (∀ wx, Calls Try.prog 19 #[.bool (xb == xc)] wx fun e w' => e = .returned (.int .u32 x) ∧ wx = w') := Lib.hid fun wx => (one_any (xb == xc) wx).mono fun e w' hh => ⟨by rw [hh.1, ← hx]; show _ = Ending.returned (.int .u32 (eqV xb xc)); unfold eqV; by_cases h : xb = xc <;> simp [h], hh.2⟩
  clear hx
  go_enter Try.func13, Try.ntmps13
  go_wp2_with fail
  refine (rword_any ⟨11, ia, ib, ic, imm⟩ _).mono ?_
  rintro e w1 ⟨u, rfl, hb1⟩
  rw [HOK.out]
  obtain ⟨k0, k1, k2, hs1⟩ := three_0 hb1
  have HB1 : Hid (Below w.heap.size w w1) := Lib.hid ((three_below w _ _ _).trans (hb1.mono (three_below w _ _ _).size))
  replace k2 : w1.heap[w.heap.size + 1 + 1]? = some (.cells (regCells zr) 24 (0, 0)) := k2
  have c0 := blk_cell k0 0
  have c1 := blk_cell k0 1
  have c2 := blk_cell k0 2
  have c3 := blk_cell k0 3
  have c4 := blk_cell k0 4
  have cB := (blk_cell k1 ib).trans HXB.out
  have cC := (blk_cell k1 jc).trans HXC.out
  have q0 : w1.cell? ⟨w.heap.size + 1, ia, none⟩ = some (.int .u32 (r.getD ia 0)) := (blk_cell k1 ia).trans (regs_at r HL.out ia _ hia rfl)
  have q1 : w1.frozen? ⟨w.heap.size + 1, ia, none⟩ = false := blk_free k1 ia
  have q2 := row?_of k1
  have q3 := row?_of k2
  clear hb1 k0 k1 k2
  have HBF : Hid (∀ cs, Below w.heap.size w ((w1.setCell ⟨w.heap.size + 1, ia, none⟩ (.int .u32 x)).setRow (w.heap.size + 1 + 1) cs)) := Lib.hid fun cs =>
    below_setRow (HB1.out.setCell (p := ⟨w.heap.size + 1, ia, none⟩) (Nat.le_succ _) _) (by omega)
  have HRS : Hid (row? ((w1.setCell ⟨w.heap.size + 1, ia, none⟩ (.int .u32 x)).setRow (w.heap.size + 1 + 1) (regCells (r.set ia x))) (w.heap.size + 1 + 1) = some (regCells (r.set ia x))) := Lib.hid
    (row?_setRow (old := regCells zr) (by rw [row?_set_other _ _ _ (by show w.heap.size + 1 + 1 ≠ w.heap.size + 1; omega)]; exact q3))
  have hset := regs_set r ia x
  have hsz2 : (regCells (r.set ia x)).size = 16 := regs_size _ (by rw [List.length_set]; exact HL.out)
  have HL2 : Hid ((r.set ia x).length = 16) := Lib.hid (by rw [List.length_set]; exact HL.out)
  clear hs1
  go_wp2_with fail
  refine (HO.out _).mono ?_
  rintro e wq ⟨rfl, rfl⟩
  go_wp2
  exact bodyPost_ret (regs_ret_tmp (r := r.set ia x) HL2.out rfl rfl HRS.out) rfl ⟨rfl, HBF.out _⟩
set_option maxRecDepth 100000 in
set_option maxHeartbeats 4000000 in
theorem ralu_14 (imm : Int) (ia ib ic : Nat) (r : List Int) (hl : r.length = 16) (w : World) (hok : wok ⟨14, ia, ib, ic, imm⟩ = true) (hia : ia < 16) (hib : ib < 16) (hic : ic < 256) (xb xc : Int) (hxb : r.getD ib 0 = xb) (hxc : r.getD (ic % 16) 0 = xc)  :
    Calls Try.prog 13 #[insV ⟨14, ia, ib, ic, imm⟩, .agg (regCells r)] w fun e w' => e = .returned (.tuple #[.agg (regCells (r.set ia imm)), .bool true]) ∧ Below w.heap.size w w' := by
  have HOK := Lib.hid hok
  have HXB : Hid ((regCells r)[ib]? = some (.int .u32 xb)) := Lib.hid (regs_at r hl ib xb hib hxb)
  have HXC : Hid ((regCells r)[ic % 16]? = some (.int .u32 xc)) := Lib.hid (regs_at r hl (ic % 16) xc (Nat.mod_lt _ (by decide)) hxc)
  have hib0 : (0 : Int) ≤ (ib : Int) := by omega
  have hib1 : (ib : Int) < 16 := by omega
  have hia0 : (0 : Int) ≤ (ia : Int) := by omega
  have hia1 : (ia : Int) < 16 := by omega
  have hsz := regs_size r hl
  have hsz3 : (regCells zr).size = 16 := rfl
  have HL := Lib.hid hl
  obtain ⟨jc, hjc⟩ : ∃ jc, ic % 16 = jc := ⟨_, rfl⟩
  have hj16 : jc < 16 := by rw [← hjc]; exact Nat.mod_lt _ (by decide)
  have hct := and_15 ic jc hic hjc
  rw [hjc] at HXC
  obtain ⟨hcw, hcw2, hic0, hic1⟩ := small_i64 jc hj16
  clear hok hxb hxc hl hjc hic
  go_enter Try.func13, Try.ntmps13
  go_wp2_with fail
  refine (rword_any ⟨14, ia, ib, ic, imm⟩ _).mono ?_
  rintro e w1 ⟨u, rfl, hb1⟩
  rw [HOK.out]
  obtain ⟨k0, k1, k2, hs1⟩ := three_0 hb1
  have HB1 : Hid (Below w.heap.size w w1) := Lib.hid ((three_below w _ _ _).trans (hb1.mono (three_below w _ _ _).size))
  replace k2 : w1.heap[w.heap.size + 1 + 1]? = some (.cells (regCells zr) 24 (0, 0)) := k2
  have c0 := blk_cell k0 0
  have c1 := blk_cell k0 1
  have c2 := blk_cell k0 2
  have c3 := blk_cell k0 3
  have c4 := blk_cell k0 4
  have cB := (blk_cell k1 ib).trans HXB.out
  have cC := (blk_cell k1 jc).trans HXC.out
  have q0 : w1.cell? ⟨w.heap.size + 1, ia, none⟩ = some (.int .u32 (r.getD ia 0)) := (blk_cell k1 ia).trans (regs_at r HL.out ia _ hia rfl)
  have q1 : w1.frozen? ⟨w.heap.size + 1, ia, none⟩ = false := blk_free k1 ia
  have q2 := row?_of k1
  have q3 := row?_of k2
  clear hb1 k0 k1 k2
  have HBF : Hid (∀ cs, Below w.heap.size w ((w1.setCell ⟨w.heap.size + 1, ia, none⟩ (.int .u32 imm)).setRow (w.heap.size + 1 + 1) cs)) := Lib.hid fun cs =>
    below_setRow (HB1.out.setCell (p := ⟨w.heap.size + 1, ia, none⟩) (Nat.le_succ _) _) (by omega)
  have HRS : Hid (row? ((w1.setCell ⟨w.heap.size + 1, ia, none⟩ (.int .u32 imm)).setRow (w.heap.size + 1 + 1) (regCells (r.set ia imm))) (w.heap.size + 1 + 1) = some (regCells (r.set ia imm))) := Lib.hid
    (row?_setRow (old := regCells zr) (by rw [row?_set_other _ _ _ (by show w.heap.size + 1 + 1 ≠ w.heap.size + 1; omega)]; exact q3))
  have hset := regs_set r ia imm
  have hsz2 : (regCells (r.set ia imm)).size = 16 := regs_size _ (by rw [List.length_set]; exact HL.out)
  have HL2 : Hid ((r.set ia imm).length = 16) := Lib.hid (by rw [List.length_set]; exact HL.out)
  clear hs1
  go_wp2
  exact bodyPost_ret (regs_ret_tmp (r := r.set ia imm) HL2.out rfl rfl HRS.out) rfl ⟨rfl, HBF.out _⟩
set_option maxRecDepth 100000 in
set_option maxHeartbeats 4000000 in
theorem ralu_15 (imm : Int) (ia ib ic : Nat) (r : List Int) (hl : r.length = 16) (w : World) (hok : wok ⟨15, ia, ib, ic, imm⟩ = true) (hia : ia < 16) (hib : ib < 16) (hic : ic < 256) (xb xc : Int) (hxb : r.getD ib 0 = xb) (hxc : r.getD (ic % 16) 0 = xc)  :
    Calls Try.prog 13 #[insV ⟨15, ia, ib, ic, imm⟩, .agg (regCells r)] w fun e w' => e = .returned (.tuple #[.agg (regCells (r.set ia imm)), .bool true]) ∧ Below w.heap.size w w' := by
  have HOK := Lib.hid hok
  have HXB : Hid ((regCells r)[ib]? = some (.int .u32 xb)) := Lib.hid (regs_at r hl ib xb hib hxb)
  have HXC : Hid ((regCells r)[ic % 16]? = some (.int .u32 xc)) := Lib.hid (regs_at r hl (ic % 16) xc (Nat.mod_lt _ (by decide)) hxc)
  have hib0 : (0 : Int) ≤ (ib : Int) := by omega
  have hib1 : (ib : Int) < 16 := by omega
  have hia0 : (0 : Int) ≤ (ia : Int) := by omega
  have hia1 : (ia : Int) < 16 := by omega
  have hsz := regs_size r hl
  have hsz3 : (regCells zr).size = 16 := rfl
  have HL := Lib.hid hl
  obtain ⟨jc, hjc⟩ : ∃ jc, ic % 16 = jc := ⟨_, rfl⟩
  have hj16 : jc < 16 := by rw [← hjc]; exact Nat.mod_lt _ (by decide)
  have hct := and_15 ic jc hic hjc
  rw [hjc] at HXC
  obtain ⟨hcw, hcw2, hic0, hic1⟩ := small_i64 jc hj16
  clear hok hxb hxc hl hjc hic
  go_enter Try.func13, Try.ntmps13
  go_wp2_with fail
  refine (rword_any ⟨15, ia, ib, ic, imm⟩ _).mono ?_
  rintro e w1 ⟨u, rfl, hb1⟩
  rw [HOK.out]
  obtain ⟨k0, k1, k2, hs1⟩ := three_0 hb1
  have HB1 : Hid (Below w.heap.size w w1) := Lib.hid ((three_below w _ _ _).trans (hb1.mono (three_below w _ _ _).size))
  replace k2 : w1.heap[w.heap.size + 1 + 1]? = some (.cells (regCells zr) 24 (0, 0)) := k2
  have c0 := blk_cell k0 0
  have c1 := blk_cell k0 1
  have c2 := blk_cell k0 2
  have c3 := blk_cell k0 3
  have c4 := blk_cell k0 4
  have cB := (blk_cell k1 ib).trans HXB.out
  have cC := (blk_cell k1 jc).trans HXC.out
  have q0 : w1.cell? ⟨w.heap.size + 1, ia, none⟩ = some (.int .u32 (r.getD ia 0)) := (blk_cell k1 ia).trans (regs_at r HL.out ia _ hia rfl)
  have q1 : w1.frozen? ⟨w.heap.size + 1, ia, none⟩ = false := blk_free k1 ia
  have q2 := row?_of k1
  have q3 := row?_of k2
  clear hb1 k0 k1 k2
  have HBF : Hid (∀ cs, Below w.heap.size w ((w1.setCell ⟨w.heap.size + 1, ia, none⟩ (.int .u32 imm)).setRow (w.heap.size + 1 + 1) cs)) := Lib.hid fun cs =>
    below_setRow (HB1.out.setCell (p := ⟨w.heap.size + 1, ia, none⟩) (Nat.le_succ _) _) (by omega)
  have HRS : Hid (row? ((w1.setCell ⟨w.heap.size + 1, ia, none⟩ (.int .u32 imm)).setRow (w.heap.size + 1 + 1) (regCells (r.set ia imm))) (w.heap.size + 1 + 1) = some (regCells (r.set ia imm))) := Lib.hid
    (row?_setRow (old := regCells zr) (by rw [row?_set_other _ _ _ (by show w.heap.size + 1 + 1 ≠ w.heap.size + 1; omega)]; exact q3))
  have hset := regs_set r ia imm
  have hsz2 : (regCells (r.set ia imm)).size = 16 := regs_size _ (by rw [List.length_set]; exact HL.out)
  have HL2 : Hid ((r.set ia imm).length = 16) := Lib.hid (by rw [List.length_set]; exact HL.out)
  clear hs1
  go_wp2
  exact bodyPost_ret (regs_ret_tmp (r := r.set ia imm) HL2.out rfl rfl HRS.out) rfl ⟨rfl, HBF.out _⟩
set_option maxRecDepth 100000 in
set_option maxHeartbeats 4000000 in
theorem ralu_other (op imm : Int) (ia ib ic : Nat) (r : List Int) (hl : r.length = 16) (w : World) (hok : wok ⟨op, ia, ib, ic, imm⟩ = true) (hia : ia < 16) (hib : ib < 16) (hic : ic < 256) (xb xc : Int) (hxb : r.getD ib 0 = xb) (hxc : r.getD (ic % 16) 0 = xc) (g : ¬ op ∈ lkR) (g14 : op ≠ 14) (g15 : op ≠ 15) (g1 : op ≠ 1) :
    Calls Try.prog 13 #[insV ⟨op, ia, ib, ic, imm⟩, .agg (regCells r)] w fun e w' => e = .returned (.tuple #[.agg (regCells zr), .bool false]) ∧ Below w.heap.size w w' := by
  have HOK := Lib.hid hok
  have HXB : Hid ((regCells r)[ib]? = some (.int .u32 xb)) := Lib.hid (regs_at r hl ib xb hib hxb)
  have HXC : Hid ((regCells r)[ic % 16]? = some (.int .u32 xc)) := Lib.hid (regs_at r hl (ic % 16) xc (Nat.mod_lt _ (by decide)) hxc)
  have hib0 : (0 : Int) ≤ (ib : Int) := by omega
  have hib1 : (ib : Int) < 16 := by omega
  have hia0 : (0 : Int) ≤ (ia : Int) := by omega
  have hia1 : (ia : Int) < 16 := by omega
  have hsz := regs_size r hl
  have hsz3 : (regCells zr).size = 16 := rfl
  have HL := Lib.hid hl
  obtain ⟨jc, hjc⟩ : ∃ jc, ic % 16 = jc := ⟨_, rfl⟩
  have hj16 : jc < 16 := by rw [← hjc]; exact Nat.mod_lt _ (by decide)
  have hct := and_15 ic jc hic hjc
  rw [hjc] at HXC
  obtain ⟨hcw, hcw2, hic0, hic1⟩ := small_i64 jc hj16
  clear hok hxb hxc hl hjc hic
  simp only [lkR, List.mem_cons, List.not_mem_nil, or_false, not_or] at g
  obtain ⟨g2, g3, g4, g5, g6, g7, g8, g9, g10, g11, g24⟩ := g
  have h1 : (op == 1) = false := by rw [beq_eq_false_iff_ne]; exact g1
  have h2 : (op == 2) = false := by rw [beq_eq_false_iff_ne]; exact g2
  have h3 : (op == 3) = false := by rw [beq_eq_false_iff_ne]; exact g3
  have h4 : (op == 4) = false := by rw [beq_eq_false_iff_ne]; exact g4
  have h5 : (op == 5) = false := by rw [beq_eq_false_iff_ne]; exact g5
  have h6 : (op == 6) = false := by rw [beq_eq_false_iff_ne]; exact g6
  have h7 : (op == 7) = false := by rw [beq_eq_false_iff_ne]; exact g7
  have h8 : (op == 8) = false := by rw [beq_eq_false_iff_ne]; exact g8
  have h9 : (op == 9) = false := by rw [beq_eq_false_iff_ne]; exact g9
  have h10 : (op == 10) = false := by rw [beq_eq_false_iff_ne]; exact g10
  have h11 : (op == 11) = false := by rw [beq_eq_false_iff_ne]; exact g11
  have h14 : (op == 14) = false := by rw [beq_eq_false_iff_ne]; exact g14
  have h15 : (op == 15) = false := by rw [beq_eq_false_iff_ne]; exact g15
  have h24 : (op == 24) = false := by rw [beq_eq_false_iff_ne]; exact g24
  clear g1 g2 g3 g4 g5 g6 g7 g8 g9 g10 g11 g14 g15 g24
  go_enter Try.func13, Try.ntmps13
  go_wp2_with fail
  refine (rword_any ⟨op, ia, ib, ic, imm⟩ _).mono ?_
  rintro e w1 ⟨u, rfl, hb1⟩
  rw [HOK.out]
  obtain ⟨k0, k1, k2, hs1⟩ := three_0 hb1
  have HB1 : Hid (Below w.heap.size w w1) := Lib.hid ((three_below w _ _ _).trans (hb1.mono (three_below w _ _ _).size))
  replace k2 : w1.heap[w.heap.size + 1 + 1]? = some (.cells (regCells zr) 24 (0, 0)) := k2
  have c0 := blk_cell k0 0
  have c1 := blk_cell k0 1
  have c2 := blk_cell k0 2
  have c3 := blk_cell k0 3
  have c4 := blk_cell k0 4
  have cB := (blk_cell k1 ib).trans HXB.out
  have cC := (blk_cell k1 jc).trans HXC.out
  have q0 : w1.cell? ⟨w.heap.size + 1, ia, none⟩ = some (.int .u32 (r.getD ia 0)) := (blk_cell k1 ia).trans (regs_at r HL.out ia _ hia rfl)
  have q1 : w1.frozen? ⟨w.heap.size + 1, ia, none⟩ = false := blk_free k1 ia
  have q2 := row?_of k1
  have q3 := row?_of k2
  clear hb1 k0 k1 k2
  have HBF : Hid (∀ cs, Below w.heap.size w (w1.setRow (w.heap.size + 1 + 1) cs)) := Lib.hid fun cs => below_setRow HB1.out (by omega)
  have HRS : Hid (row? (w1.setRow (w.heap.size + 1 + 1) (regCells zr)) (w.heap.size + 1 + 1) = some (regCells zr)) := Lib.hid (row?_setRow q3)
  clear hs1
  go_wp2
  exact bodyPost_ret (regs_ret_tmp (r := zr) rfl rfl rfl HRS.out) rfl ⟨rfl, HBF.out _⟩
end Go.Proofs.Ytikioeddilgbpaa
