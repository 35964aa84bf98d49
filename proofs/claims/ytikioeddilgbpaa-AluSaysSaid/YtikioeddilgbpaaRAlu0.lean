/-
  The document's Alu: nothing; no word.
-/
import Derived.Test.YtikioeddilgbpaaAlu7
namespace Go.Proofs.Ytikioeddilgbpaa
open Go.RowKit

set_option linter.unusedSimpArgs false
theorem and_15 (ic jc : Nat) (hic : ic < 256) (h : ic % 16 = jc) : bits BinOp.and IntKind.i64 (ic : Int) 15 = (jc : Int) := by
  have o1 : BitVec.ofInt 64 (ic : Int) = BitVec.ofNat 64 ic := by apply BitVec.eq_of_toNat_eq; simp
  show IntKind.i64.wrap ((BitVec.ofInt 64 (ic : Int) &&& BitVec.ofInt 64 15).toNat : Int) = _
  have o2 : BitVec.ofInt 64 15 = BitVec.ofNat 64 15 := rfl
  have e : ic &&& 15 = ic % 16 := Nat.and_two_pow_sub_one_eq_mod ic 4
  rw [o1, o2, BitVec.toNat_and, BitVec.toNat_ofNat, BitVec.toNat_ofNat, Nat.mod_eq_of_lt (by omega), Nat.mod_eq_of_lt (by omega), e, h]
  exact IntWalk.i64_in _ (by omega)
set_option maxRecDepth 100000 in
set_option maxHeartbeats 4000000 in
theorem ralu_bad (i : Ins) (r : List Int) (hl : r.length = 16) (w : World) (hno : wok i = false) : Calls Try.prog 13 #[insV i, .agg (regCells r)] w fun e w' => e = .returned (.tuple #[.agg (regCells zr), .bool false]) ∧ Below w.heap.size w w' := by
  obtain ⟨op, a, b, c, imm⟩ := i
  have HNO := Lib.hid hno
  have hsz := regs_size r hl
  have hzs : (regCells zr).size = 16 := rfl
  clear hno hl
  go_enter Try.func13, Try.ntmps13
  go_wp2_with fail
  refine (rword_any ⟨op, a, b, c, imm⟩ _).mono ?_
  rintro e w1 ⟨u, rfl, hb1⟩
  rw [HNO.out]
  obtain ⟨-, -, k2, hs1⟩ := three_0 hb1
  have HB : Hid (Below w.heap.size w w1) := Lib.hid ((three_below w _ _ _).trans (hb1.mono (three_below w _ _ _).size))
  replace k2 : w1.heap[w.heap.size + 1 + 1]? = some (.cells (regCells zr) 24 (0, 0)) := k2
  have hz := row?_of k2
  clear hb1 k2
  go_wp2
  refine bodyPost_ret (regs_ret_tmp (r := zr) rfl rfl rfl (row?_setRow hz)) rfl ⟨rfl, below_setRow HB.out (by omega)⟩
set_option maxRecDepth 100000 in
set_option maxHeartbeats 4000000 in
theorem ralu_1 (imm : Int) (ia ib ic : Nat) (r : List Int) (hl : r.length = 16) (w : World) (hok : wok ⟨1, ia, ib, ic, imm⟩ = true) (hia : ia < 16) (hib : ib < 16) (hic : ic < 256) (xb xc : Int) (hxb : r.getD ib 0 = xb) (hxc : r.getD (ic % 16) 0 = xc)  :
    Calls Try.prog 13 #[insV ⟨1, ia, ib, ic, imm⟩, .agg (regCells r)] w fun e w' => e = .returned (.tuple #[.agg (regCells r), .bool true]) ∧ Below w.heap.size w w' := by
  have HOK := Lib.hid hok
  have HXB : Hid ((regCells r)[ib]? = some (.int .u32 xb)) := Lib.hid (regs_at r hl ib xb hib hxb)
  have HXC : Hid ((regCells r)[ic % 16]? = some (.int .u32 xc)) := Lib.hid (regs_at r hl (ic % 16) xc (Nat.mod_lt _ (by decide)) hxc)
  have hib0 : (0 : Int) ≤ (ib : Int) := by omega
  have hib1 : (ib : Int) < 16 := by omega
  have hia0 : (0 : Int) ≤ (ia : Int) := by omega
  have hia1 : (ia : Int) < 16 := by omega
  have hsz := regs_size r hl
  have hsz3 : (regCells zr).size = 16 := rfl
  have HL := Lib.hid hl
  obtain ⟨jc, hjc⟩ : ∃ jc, ic % 16 = jc := ⟨_, rfl⟩
  have hj16 : jc < 16 := by rw [← hjc]; exact Nat.mod_lt _ (by decide)
  have hct := and_15 ic jc hic hjc
  rw [hjc] at HXC
  obtain ⟨hcw, hcw2, hic0, hic1⟩ := small_i64 jc hj16
  clear hok hxb hxc hl hjc hic
  go_enter Try.func13, Try.ntmps13
  go_wp2_with fail
  refine (rword_any ⟨1, ia, ib, ic, imm⟩ _).mono ?_
  rintro e w1 ⟨u, rfl, hb1⟩
  rw [HOK.out]
  obtain ⟨k0, k1, k2, hs1⟩ := three_0 hb1
  have HB1 : Hid (Below w.heap.size w w1) := Lib.hid ((three_below w _ _ _).trans (hb1.mono (three_below w _ _ _).size))
  replace k2 : w1.heap[w.heap.size + 1 + 1]? = some (.cells (regCells zr) 24 (0, 0)) := k2
  have c0 := blk_cell k0 0
  have c1 := blk_cell k0 1
  have c2 := blk_cell k0 2
  have c3 := blk_cell k0 3
  have c4 := blk_cell k0 4
  have cB := (blk_cell k1 ib).trans HXB.out
  have cC := (blk_cell k1 jc).trans HXC.out
  have q0 : w1.cell? ⟨w.heap.size + 1, ia, none⟩ = some (.int .u32 (r.getD ia 0)) := (blk_cell k1 ia).trans (regs_at r HL.out ia _ hia rfl)
  have q1 : w1.frozen? ⟨w.heap.size + 1, ia, none⟩ = false := blk_free k1 ia
  have q2 := row?_of k1
  have q3 := row?_of k2
  clear hb1 k0 k1 k2
  have HBF : Hid (∀ cs, Below w.heap.size w (w1.setRow (w.heap.size + 1 + 1) cs)) := Lib.hid fun cs => below_setRow HB1.out (by omega)
  have HRS : Hid (row? (w1.setRow (w.heap.size + 1 + 1) (regCells r)) (w.heap.size + 1 + 1) = some (regCells r)) := Lib.hid (row?_setRow q3)
  clear hs1
  go_wp2
  exact bodyPost_ret (regs_ret_tmp (r := r) HL.out rfl rfl HRS.out) rfl ⟨rfl, HBF.out _⟩
end Go.Proofs.Ytikioeddilgbpaa
