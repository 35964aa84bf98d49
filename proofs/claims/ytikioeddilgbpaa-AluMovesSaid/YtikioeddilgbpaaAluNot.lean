/-
  AluNot: for every instruction and registers the call returns true.
-/
import Derived.Test.YtikioeddilgbpaaAlu8
import Derived.Test.YtikioeddilgbpaaAlu9
import Derived.Test.YtikioeddilgbpaaAluOpen
namespace Go.Proofs.Ytikioeddilgbpaa
open Go.RowKit

set_option linter.unusedSimpArgs false
theorem aluR_len' (i : Ins) (r : List Int) (hl : r.length = 16) : (aluR i r).1.length = 16 := by
  unfold aluR
  repeat' split
  all_goals first | rfl | exact hl | (rw [List.length_set]; exact hl)
theorem and15_in (a : Int) : ∃ n : Nat, n < 16 ∧ bits BinOp.and IntKind.i64 a 15 = (n : Int) := by
  have h : (BitVec.ofInt 64 a &&& BitVec.ofInt 64 15).toNat < 16 := by
    rw [BitVec.toNat_and]
    exact Nat.lt_of_le_of_lt Nat.and_le_right (by decide)
  obtain ⟨n, hn⟩ : ∃ n, (BitVec.ofInt 64 a &&& BitVec.ofInt 64 15).toNat = n := ⟨_, rfl⟩
  rw [hn] at h
  refine ⟨n, h, ?_⟩
  show IntKind.i64.wrap (((BitVec.ofInt 64 a &&& BitVec.ofInt 64 15).toNat : Nat) : Int) = _
  rw [hn]
  exact IntWalk.i64_in _ (by omega)
theorem wok_brz (n : Nat) (h : n < 16) : wok ⟨17, n, 0, 0, 0⟩ = true := by
  have e : fit (n : Int) 1 = true := by
    unfold fit
    rw [show most 1 = 15 from rfl, decide_eq_true (show (0 : Int) ≤ n by omega), decide_eq_true (show (n : Int) ≤ 15 by omega)]
    rfl
  unfold wok
  dsimp only
  rw [show opk 17 = (1, 0, 2) from rfl]
  dsimp only
  rw [e]
  rfl
theorem wok_brn (n : Nat) (h : n < 16) : wok ⟨18, n, 0, 0, 0⟩ = true := by
  have e : fit (n : Int) 1 = true := by
    unfold fit
    rw [show most 1 = 15 from rfl, decide_eq_true (show (0 : Int) ≤ n by omega), decide_eq_true (show (n : Int) ≤ 15 by omega)]
    rfl
  unfold wok
  dsimp only
  rw [show opk 18 = (1, 0, 2) from rfl]
  dsimp only
  rw [e]
  rfl
theorem takR_brz (n : Nat) (h : n < 16) (r : List Int) : takR ⟨17, n, 0, 0, 0⟩ r = (r.getD n 0 == 0, true) := by
  unfold takR
  rw [if_pos (by rw [wok_brz n h]; rfl)]
  dsimp only
  rw [Int.toNat_natCast]
  rfl
theorem takR_brn (n : Nat) (h : n < 16) (r : List Int) : takR ⟨18, n, 0, 0, 0⟩ r = (r.getD n 0 != 0, true) := by
  unfold takR
  rw [if_pos (by rw [wok_brn n h]; rfl)]
  dsimp only
  rw [Int.toNat_natCast]
  rfl
theorem alu_is {i : Ins} {r : List Int} (h : (aluR i r).2 = true) : (1 ≤ i.op ∧ i.op ≤ 11) ∨ i.op = 14 ∨ i.op = 15 ∨ i.op = 24 := by
  unfold aluR at h
  by_cases h0 : wok i = true
  · rw [if_pos h0] at h
    by_cases h1 : i.op = 14 ∨ i.op = 15
    · omega
    · rw [if_neg h1] at h
      by_cases h2 : i.op ∈ lkR
      · simp only [lkR, List.mem_cons, List.not_mem_nil, or_false] at h2
        omega
      · rw [if_neg h2] at h
        by_cases h3 : i.op = 1
        · omega
        · rw [if_neg h3] at h
          cases h
  · rw [if_neg h0] at h
    cases h
theorem tak_is {i : Ins} {r : List Int} (h : (takR i r).2 = true) : 16 ≤ i.op ∧ i.op ≤ 23 := by
  unfold takR at h
  by_cases h0 : (wok i && jmp i.op) = true
  · simp only [Bool.and_eq_true] at h0
    have := of_decide_eq_true h0.2
    simp only [lkJ, List.mem_cons, List.not_mem_nil, or_false] at this
    omega
  · rw [if_neg h0] at h
    cases h

set_option maxRecDepth 100000 in
set_option maxHeartbeats 8000000 in
theorem not_walk (i : Ins) (r : List Int) (w : World) (hr : regsOk r) :
    Calls Try.prog 7 #[insV i, .agg (regCells r)] w fun e w' => e = .returned (.bool true) ∧ Below w.heap.size w w' := by
  have HL := Lib.hid hr.1
  have HA : Hid (∀ wx, Calls Try.prog 10 #[insV i, .agg (regCells r)] wx fun e w' => e = .returned (aluV i r) ∧ Below wx.heap.size wx w') := Lib.hid fun wx => do_any i r hr.1 hr.2 wx
  have HC : Hid (∀ wx, Calls Try.prog 14 #[insV i, .agg (regCells r)] wx fun e w' => e = .returned (takV i r) ∧ Below wx.heap.size wx w') := Lib.hid fun wx => taken_any i r hr.1 wx
  have hlen := aluR_len' i r hr.1
  have hav : aluV i r = .tuple #[.agg (regCells (aluR i r).1), .bool (aluR i r).2] := rfl
  have htv : takV i r = .tuple #[.bool (takR i r).1, .bool (takR i r).2] := rfl
  have his : (aluR i r).2 = true → (1 ≤ i.op ∧ i.op ≤ 11) ∨ i.op = 14 ∨ i.op = 15 ∨ i.op = 24 := alu_is
  have hjs : (takR i r).2 = true → 16 ≤ i.op ∧ i.op ≤ 23 := tak_is
  obtain ⟨⟨ra, ba⟩, hra⟩ : ∃ x, aluR i r = x := ⟨_, rfl⟩
  obtain ⟨⟨ta, tb⟩, hta⟩ : ∃ x, takR i r = x := ⟨_, rfl⟩
  rw [hra] at hav hlen his
  rw [hta] at htv hjs
  dsimp only at hav htv hlen his hjs
  have HAV := Lib.hid hav
  have HTV := Lib.hid htv
  have hsz := regs_size r hr.1
  have hsz2 := regs_size ra hlen
  obtain ⟨op, a, b, c, imm⟩ := i
  dsimp only at his hjs
  obtain ⟨iv, hiv, hva⟩ := and15_in a
  obtain ⟨xv, hxv⟩ : ∃ x, r.getD iv 0 = x := ⟨_, rfl⟩
  obtain ⟨zb, hzb⟩ : ∃ x, (xv == 0) = x := ⟨_, rfl⟩
  have hnb : (xv != 0) = !zb := by rw [← hzb]; rfl
  have HV : Hid ((regCells r)[iv]? = some (.int .u32 xv)) := Lib.hid (regs_at r hr.1 iv xv hiv hxv)
  have HZ : Hid (∀ wx, Calls Try.prog 14 #[insV ⟨17, iv, 0, 0, 0⟩, .agg (regCells r)] wx fun e w' => e = .returned (.tuple #[.bool zb, .bool true]) ∧ Below wx.heap.size wx w') := Lib.hid fun wx => (taken_any ⟨17, iv, 0, 0, 0⟩ r hr.1 wx).mono fun e w' ⟨he, hb⟩ => ⟨by rw [he]; unfold takV; rw [takR_brz iv hiv, hxv, hzb], hb⟩
  have HN : Hid (∀ wx, Calls Try.prog 14 #[insV ⟨18, iv, 0, 0, 0⟩, .agg (regCells r)] wx fun e w' => e = .returned (.tuple #[.bool (!zb), .bool true]) ∧ Below wx.heap.size wx w') := Lib.hid fun wx => (taken_any ⟨18, iv, 0, 0, 0⟩ r hr.1 wx).mono fun e w' ⟨he, hb⟩ => ⟨by rw [he]; unfold takV; rw [takR_brn iv hiv, hxv, hnb], hb⟩
  have hv0 : (0 : Int) ≤ (iv : Int) := by omega
  have hv1 : (iv : Int) < 16 := by omega
  have HZB := Lib.hid hzb
  clear hav htv hra hta hlen hr hxv hnb hiv hzb
  cases ba
  · cases tb
    · clear his hjs
      have hop : ¬ (1 : Int) ≤ op ∨ (1 ≤ op ∧ op ≤ 11) ∨ op = 14 ∨ op = 15 ∨ op = 24 ∨ (¬ op ≤ 11 ∧ op ≠ 14 ∧ op ≠ 15 ∧ op ≠ 24) := by omega
      rcases hop with hop | hop | hop | hop | hop | hop
      · have f0 : ¬ (1 : Int) ≤ op := by omega
        have f1 : (op == 14) = false := by rw [beq_eq_false_iff_ne]; omega
        have f2 : (op == 15) = false := by rw [beq_eq_false_iff_ne]; omega
        have f3 : (op == 24) = false := by rw [beq_eq_false_iff_ne]; omega
        clear hop
        go_enter Try.func7, Try.ntmps7
        go_wp2_with fail
        refine (alu_first _).mono ?_
        rintro e w1 ⟨rfl, hb1⟩
        obtain ⟨k0, k1, hs1⟩ := two_0 hb1
        have HB1 : Hid (Below w.heap.size w w1) := Lib.hid ((two_belowI w _ _).trans (hb1.mono (two_belowI w _ _).size))
        have HK : Hid (∀ wx, Below w1.heap.size w1 wx → wx.cell? ⟨w.heap.size, 0, none⟩ = some (.int .i64 op) ∧ wx.cell? ⟨w.heap.size, 1, none⟩ = some (.int .i64 a) ∧ wx.cell? ⟨w.heap.size, 2, none⟩ = some (.int .i64 b) ∧ wx.cell? ⟨w.heap.size, 3, none⟩ = some (.int .i64 c) ∧ wx.cell? ⟨w.heap.size, 4, none⟩ = some (.int .u32 imm) ∧ row? wx (w.heap.size + 1) = some (regCells r) ∧ wx.cell? ⟨w.heap.size + 1, iv, none⟩ = some (.int .u32 xv) ∧ w.heap.size + 2 ≤ wx.heap.size) := Lib.hid fun wx h => by
          have e0 : wx.heap[w.heap.size]? = _ := (h.block _ (by omega)).trans k0
          have e1 : wx.heap[w.heap.size + 1]? = _ := (h.block _ (by omega)).trans k1
          exact ⟨blk_cell e0 0, blk_cell e0 1, blk_cell e0 2, blk_cell e0 3, blk_cell e0 4, row?_of e1, (blk_cell e1 iv).trans HV.out, Nat.le_trans hs1 h.size⟩
        obtain ⟨c0, c1, c2, c3, c4, c5, c6, c7⟩ := HK.out w1 (Below.refl _ _)
        clear hb1 k0 k1 hs1
        go_wp2_with fail
        refine (HA.out _).mono ?_
        rintro e w2 ⟨rfl, hb2⟩
        rw [HAV.out]
        have hb2' : Below w1.heap.size w1 (w2.alloc (.cells (regCells ra) 24)) := hb2.alloc hb2.size _
        have HM2 := Lib.hid hb2'
        clear c0 c1 c2 c3 c4 c5 c6 c7
        obtain ⟨c0, c1, c2, c3, c4, c5, c6, c7⟩ := HK.out _ hb2
        have l0 : w.heap.size < w2.heap.size := by omega
        have l1 : w.heap.size + 1 < w2.heap.size := by omega
        clear hb2 hb2' c7
        go_wp2_with fail
        refine (HC.out _).mono ?_
        rintro e w3 ⟨rfl, hb3⟩
        rw [HTV.out]
        have hm3 := HM2.out.trans (hb3.mono HM2.out.size)
        have HM3 := Lib.hid hm3
        clear c0 c1 c2 c3 c4 c5 c6 l0 l1
        obtain ⟨c0, c1, c2, c3, c4, c5, c6, c7⟩ := HK.out _ hm3
        clear hb3 hm3 c7
        go_wp2_with fail
        refine (HZ.out _).mono ?_
        rintro e w4 ⟨rfl, hb4⟩
        have hm4 := HM3.out.trans (hb4.mono HM3.out.size)
        have HM4 := Lib.hid hm4
        clear c0 c1 c2 c3 c4 c5 c6
        obtain ⟨c0, c1, c2, c3, c4, c5, c6, c7⟩ := HK.out _ hm4
        clear hb4 hm4 c7
        go_wp2_with fail
        refine (HN.out _).mono ?_
        rintro e w5 ⟨rfl, hb5⟩
        have hm5 := HM4.out.trans (hb5.mono HM4.out.size)
        have HB5 : Hid (Below w.heap.size w w5) := Lib.hid (HB1.out.trans (hm5.mono HB1.out.size))
        clear c0 c1 c2 c3 c4 c5 c6
        obtain ⟨c0, c1, c2, c3, c4, c5, c6, c7⟩ := HK.out _ hm5
        clear hb5 hm5 c7
        have hzb := HZB.out
        cases zb
        all_goals
          go_wp2
          go_ret
          exact ⟨rfl, HB5.out⟩
      · have f0 : (1 : Int) ≤ op := by omega
        have f1 : op ≤ 11 := by omega
        clear hop
        go_enter Try.func7, Try.ntmps7
        go_wp2_with fail
        refine (alu_first _).mono ?_
        rintro e w1 ⟨rfl, hb1⟩
        obtain ⟨k0, k1, hs1⟩ := two_0 hb1
        have HB1 : Hid (Below w.heap.size w w1) := Lib.hid ((two_belowI w _ _).trans (hb1.mono (two_belowI w _ _).size))
        have HK : Hid (∀ wx, Below w1.heap.size w1 wx → wx.cell? ⟨w.heap.size, 0, none⟩ = some (.int .i64 op) ∧ wx.cell? ⟨w.heap.size, 1, none⟩ = some (.int .i64 a) ∧ wx.cell? ⟨w.heap.size, 2, none⟩ = some (.int .i64 b) ∧ wx.cell? ⟨w.heap.size, 3, none⟩ = some (.int .i64 c) ∧ wx.cell? ⟨w.heap.size, 4, none⟩ = some (.int .u32 imm) ∧ row? wx (w.heap.size + 1) = some (regCells r) ∧ wx.cell? ⟨w.heap.size + 1, iv, none⟩ = some (.int .u32 xv) ∧ w.heap.size + 2 ≤ wx.heap.size) := Lib.hid fun wx h => by
          have e0 : wx.heap[w.heap.size]? = _ := (h.block _ (by omega)).trans k0
          have e1 : wx.heap[w.heap.size + 1]? = _ := (h.block _ (by omega)).trans k1
          exact ⟨blk_cell e0 0, blk_cell e0 1, blk_cell e0 2, blk_cell e0 3, blk_cell e0 4, row?_of e1, (blk_cell e1 iv).trans HV.out, Nat.le_trans hs1 h.size⟩
        obtain ⟨c0, c1, c2, c3, c4, c5, c6, c7⟩ := HK.out w1 (Below.refl _ _)
        clear hb1 k0 k1 hs1
        go_wp2_with fail
        refine (HA.out _).mono ?_
        rintro e w2 ⟨rfl, hb2⟩
        rw [HAV.out]
        have hb2' : Below w1.heap.size w1 (w2.alloc (.cells (regCells ra) 24)) := hb2.alloc hb2.size _
        have HM2 := Lib.hid hb2'
        clear c0 c1 c2 c3 c4 c5 c6 c7
        obtain ⟨c0, c1, c2, c3, c4, c5, c6, c7⟩ := HK.out _ hb2
        have l0 : w.heap.size < w2.heap.size := by omega
        have l1 : w.heap.size + 1 < w2.heap.size := by omega
        clear hb2 hb2' c7
        go_wp2_with fail
        refine (HC.out _).mono ?_
        rintro e w3 ⟨rfl, hb3⟩
        rw [HTV.out]
        have hm3 := HM2.out.trans (hb3.mono HM2.out.size)
        have HM3 := Lib.hid hm3
        clear c0 c1 c2 c3 c4 c5 c6 l0 l1
        obtain ⟨c0, c1, c2, c3, c4, c5, c6, c7⟩ := HK.out _ hm3
        clear hb3 hm3 c7
        go_wp2_with fail
        refine (HZ.out _).mono ?_
        rintro e w4 ⟨rfl, hb4⟩
        have hm4 := HM3.out.trans (hb4.mono HM3.out.size)
        have HM4 := Lib.hid hm4
        clear c0 c1 c2 c3 c4 c5 c6
        obtain ⟨c0, c1, c2, c3, c4, c5, c6, c7⟩ := HK.out _ hm4
        clear hb4 hm4 c7
        go_wp2_with fail
        refine (HN.out _).mono ?_
        rintro e w5 ⟨rfl, hb5⟩
        have hm5 := HM4.out.trans (hb5.mono HM4.out.size)
        have HB5 : Hid (Below w.heap.size w w5) := Lib.hid (HB1.out.trans (hm5.mono HB1.out.size))
        clear c0 c1 c2 c3 c4 c5 c6
        obtain ⟨c0, c1, c2, c3, c4, c5, c6, c7⟩ := HK.out _ hm5
        clear hb5 hm5 c7
        have hzb := HZB.out
        cases zb
        all_goals
          go_wp2
          go_ret
          exact ⟨rfl, HB5.out⟩
      · have f0 : (1 : Int) ≤ op := by omega
        have f1 : ¬ op ≤ 11 := by omega
        have f2 : (op == 14) = true := by rw [beq_iff_eq]; omega
        clear hop
        go_enter Try.func7, Try.ntmps7
        go_wp2_with fail
        refine (alu_first _).mono ?_
        rintro e w1 ⟨rfl, hb1⟩
        obtain ⟨k0, k1, hs1⟩ := two_0 hb1
        have HB1 : Hid (Below w.heap.size w w1) := Lib.hid ((two_belowI w _ _).trans (hb1.mono (two_belowI w _ _).size))
        have HK : Hid (∀ wx, Below w1.heap.size w1 wx → wx.cell? ⟨w.heap.size, 0, none⟩ = some (.int .i64 op) ∧ wx.cell? ⟨w.heap.size, 1, none⟩ = some (.int .i64 a) ∧ wx.cell? ⟨w.heap.size, 2, none⟩ = some (.int .i64 b) ∧ wx.cell? ⟨w.heap.size, 3, none⟩ = some (.int .i64 c) ∧ wx.cell? ⟨w.heap.size, 4, none⟩ = some (.int .u32 imm) ∧ row? wx (w.heap.size + 1) = some (regCells r) ∧ wx.cell? ⟨w.heap.size + 1, iv, none⟩ = some (.int .u32 xv) ∧ w.heap.size + 2 ≤ wx.heap.size) := Lib.hid fun wx h => by
          have e0 : wx.heap[w.heap.size]? = _ := (h.block _ (by omega)).trans k0
          have e1 : wx.heap[w.heap.size + 1]? = _ := (h.block _ (by omega)).trans k1
          exact ⟨blk_cell e0 0, blk_cell e0 1, blk_cell e0 2, blk_cell e0 3, blk_cell e0 4, row?_of e1, (blk_cell e1 iv).trans HV.out, Nat.le_trans hs1 h.size⟩
        obtain ⟨c0, c1, c2, c3, c4, c5, c6, c7⟩ := HK.out w1 (Below.refl _ _)
        clear hb1 k0 k1 hs1
        go_wp2_with fail
        refine (HA.out _).mono ?_
        rintro e w2 ⟨rfl, hb2⟩
        rw [HAV.out]
        have hb2' : Below w1.heap.size w1 (w2.alloc (.cells (regCells ra) 24)) := hb2.alloc hb2.size _
        have HM2 := Lib.hid hb2'
        clear c0 c1 c2 c3 c4 c5 c6 c7
        obtain ⟨c0, c1, c2, c3, c4, c5, c6, c7⟩ := HK.out _ hb2
        have l0 : w.heap.size < w2.heap.size := by omega
        have l1 : w.heap.size + 1 < w2.heap.size := by omega
        clear hb2 hb2' c7
        go_wp2_with fail
        refine (HC.out _).mono ?_
        rintro e w3 ⟨rfl, hb3⟩
        rw [HTV.out]
        have hm3 := HM2.out.trans (hb3.mono HM2.out.size)
        have HM3 := Lib.hid hm3
        clear c0 c1 c2 c3 c4 c5 c6 l0 l1
        obtain ⟨c0, c1, c2, c3, c4, c5, c6, c7⟩ := HK.out _ hm3
        clear hb3 hm3 c7
        go_wp2_with fail
        refine (HZ.out _).mono ?_
        rintro e w4 ⟨rfl, hb4⟩
        have hm4 := HM3.out.trans (hb4.mono HM3.out.size)
        have HM4 := Lib.hid hm4
        clear c0 c1 c2 c3 c4 c5 c6
        obtain ⟨c0, c1, c2, c3, c4, c5, c6, c7⟩ := HK.out _ hm4
        clear hb4 hm4 c7
        go_wp2_with fail
        refine (HN.out _).mono ?_
        rintro e w5 ⟨rfl, hb5⟩
        have hm5 := HM4.out.trans (hb5.mono HM4.out.size)
        have HB5 : Hid (Below w.heap.size w w5) := Lib.hid (HB1.out.trans (hm5.mono HB1.out.size))
        clear c0 c1 c2 c3 c4 c5 c6
        obtain ⟨c0, c1, c2, c3, c4, c5, c6, c7⟩ := HK.out _ hm5
        clear hb5 hm5 c7
        have hzb := HZB.out
        cases zb
        all_goals
          go_wp2
          go_ret
          exact ⟨rfl, HB5.out⟩
      · have f0 : (1 : Int) ≤ op := by omega
        have f1 : ¬ op ≤ 11 := by omega
        have f2 : (op == 14) = false := by rw [beq_eq_false_iff_ne]; omega
        have f3 : (op == 15) = true := by rw [beq_iff_eq]; omega
        clear hop
        go_enter Try.func7, Try.ntmps7
        go_wp2_with fail
        refine (alu_first _).mono ?_
        rintro e w1 ⟨rfl, hb1⟩
        obtain ⟨k0, k1, hs1⟩ := two_0 hb1
        have HB1 : Hid (Below w.heap.size w w1) := Lib.hid ((two_belowI w _ _).trans (hb1.mono (two_belowI w _ _).size))
        have HK : Hid (∀ wx, Below w1.heap.size w1 wx → wx.cell? ⟨w.heap.size, 0, none⟩ = some (.int .i64 op) ∧ wx.cell? ⟨w.heap.size, 1, none⟩ = some (.int .i64 a) ∧ wx.cell? ⟨w.heap.size, 2, none⟩ = some (.int .i64 b) ∧ wx.cell? ⟨w.heap.size, 3, none⟩ = some (.int .i64 c) ∧ wx.cell? ⟨w.heap.size, 4, none⟩ = some (.int .u32 imm) ∧ row? wx (w.heap.size + 1) = some (regCells r) ∧ wx.cell? ⟨w.heap.size + 1, iv, none⟩ = some (.int .u32 xv) ∧ w.heap.size + 2 ≤ wx.heap.size) := Lib.hid fun wx h => by
          have e0 : wx.heap[w.heap.size]? = _ := (h.block _ (by omega)).trans k0
          have e1 : wx.heap[w.heap.size + 1]? = _ := (h.block _ (by omega)).trans k1
          exact ⟨blk_cell e0 0, blk_cell e0 1, blk_cell e0 2, blk_cell e0 3, blk_cell e0 4, row?_of e1, (blk_cell e1 iv).trans HV.out, Nat.le_trans hs1 h.size⟩
        obtain ⟨c0, c1, c2, c3, c4, c5, c6, c7⟩ := HK.out w1 (Below.refl _ _)
        clear hb1 k0 k1 hs1
        go_wp2_with fail
        refine (HA.out _).mono ?_
        rintro e w2 ⟨rfl, hb2⟩
        rw [HAV.out]
        have hb2' : Below w1.heap.size w1 (w2.alloc (.cells (regCells ra) 24)) := hb2.alloc hb2.size _
        have HM2 := Lib.hid hb2'
        clear c0 c1 c2 c3 c4 c5 c6 c7
        obtain ⟨c0, c1, c2, c3, c4, c5, c6, c7⟩ := HK.out _ hb2
        have l0 : w.heap.size < w2.heap.size := by omega
        have l1 : w.heap.size + 1 < w2.heap.size := by omega
        clear hb2 hb2' c7
        go_wp2_with fail
        refine (HC.out _).mono ?_
        rintro e w3 ⟨rfl, hb3⟩
        rw [HTV.out]
        have hm3 := HM2.out.trans (hb3.mono HM2.out.size)
        have HM3 := Lib.hid hm3
        clear c0 c1 c2 c3 c4 c5 c6 l0 l1
        obtain ⟨c0, c1, c2, c3, c4, c5, c6, c7⟩ := HK.out _ hm3
        clear hb3 hm3 c7
        go_wp2_with fail
        refine (HZ.out _).mono ?_
        rintro e w4 ⟨rfl, hb4⟩
        have hm4 := HM3.out.trans (hb4.mono HM3.out.size)
        have HM4 := Lib.hid hm4
        clear c0 c1 c2 c3 c4 c5 c6
        obtain ⟨c0, c1, c2, c3, c4, c5, c6, c7⟩ := HK.out _ hm4
        clear hb4 hm4 c7
        go_wp2_with fail
        refine (HN.out _).mono ?_
        rintro e w5 ⟨rfl, hb5⟩
        have hm5 := HM4.out.trans (hb5.mono HM4.out.size)
        have HB5 : Hid (Below w.heap.size w w5) := Lib.hid (HB1.out.trans (hm5.mono HB1.out.size))
        clear c0 c1 c2 c3 c4 c5 c6
        obtain ⟨c0, c1, c2, c3, c4, c5, c6, c7⟩ := HK.out _ hm5
        clear hb5 hm5 c7
        have hzb := HZB.out
        cases zb
        all_goals
          go_wp2
          go_ret
          exact ⟨rfl, HB5.out⟩
      · have f0 : (1 : Int) ≤ op := by omega
        have f1 : ¬ op ≤ 11 := by omega
        have f2 : (op == 14) = false := by rw [beq_eq_false_iff_ne]; omega
        have f3 : (op == 15) = false := by rw [beq_eq_false_iff_ne]; omega
        have f4 : (op == 24) = true := by rw [beq_iff_eq]; omega
        clear hop
        go_enter Try.func7, Try.ntmps7
        go_wp2_with fail
        refine (alu_first _).mono ?_
        rintro e w1 ⟨rfl, hb1⟩
        obtain ⟨k0, k1, hs1⟩ := two_0 hb1
        have HB1 : Hid (Below w.heap.size w w1) := Lib.hid ((two_belowI w _ _).trans (hb1.mono (two_belowI w _ _).size))
        have HK : Hid (∀ wx, Below w1.heap.size w1 wx → wx.cell? ⟨w.heap.size, 0, none⟩ = some (.int .i64 op) ∧ wx.cell? ⟨w.heap.size, 1, none⟩ = some (.int .i64 a) ∧ wx.cell? ⟨w.heap.size, 2, none⟩ = some (.int .i64 b) ∧ wx.cell? ⟨w.heap.size, 3, none⟩ = some (.int .i64 c) ∧ wx.cell? ⟨w.heap.size, 4, none⟩ = some (.int .u32 imm) ∧ row? wx (w.heap.size + 1) = some (regCells r) ∧ wx.cell? ⟨w.heap.size + 1, iv, none⟩ = some (.int .u32 xv) ∧ w.heap.size + 2 ≤ wx.heap.size) := Lib.hid fun wx h => by
          have e0 : wx.heap[w.heap.size]? = _ := (h.block _ (by omega)).trans k0
          have e1 : wx.heap[w.heap.size + 1]? = _ := (h.block _ (by omega)).trans k1
          exact ⟨blk_cell e0 0, blk_cell e0 1, blk_cell e0 2, blk_cell e0 3, blk_cell e0 4, row?_of e1, (blk_cell e1 iv).trans HV.out, Nat.le_trans hs1 h.size⟩
        obtain ⟨c0, c1, c2, c3, c4, c5, c6, c7⟩ := HK.out w1 (Below.refl _ _)
        clear hb1 k0 k1 hs1
        go_wp2_with fail
        refine (HA.out _).mono ?_
        rintro e w2 ⟨rfl, hb2⟩
        rw [HAV.out]
        have hb2' : Below w1.heap.size w1 (w2.alloc (.cells (regCells ra) 24)) := hb2.alloc hb2.size _
        have HM2 := Lib.hid hb2'
        clear c0 c1 c2 c3 c4 c5 c6 c7
        obtain ⟨c0, c1, c2, c3, c4, c5, c6, c7⟩ := HK.out _ hb2
        have l0 : w.heap.size < w2.heap.size := by omega
        have l1 : w.heap.size + 1 < w2.heap.size := by omega
        clear hb2 hb2' c7
        go_wp2_with fail
        refine (HC.out _).mono ?_
        rintro e w3 ⟨rfl, hb3⟩
        rw [HTV.out]
        have hm3 := HM2.out.trans (hb3.mono HM2.out.size)
        have HM3 := Lib.hid hm3
        clear c0 c1 c2 c3 c4 c5 c6 l0 l1
        obtain ⟨c0, c1, c2, c3, c4, c5, c6, c7⟩ := HK.out _ hm3
        clear hb3 hm3 c7
        go_wp2_with fail
        refine (HZ.out _).mono ?_
        rintro e w4 ⟨rfl, hb4⟩
        have hm4 := HM3.out.trans (hb4.mono HM3.out.size)
        have HM4 := Lib.hid hm4
        clear c0 c1 c2 c3 c4 c5 c6
        obtain ⟨c0, c1, c2, c3, c4, c5, c6, c7⟩ := HK.out _ hm4
        clear hb4 hm4 c7
        go_wp2_with fail
        refine (HN.out _).mono ?_
        rintro e w5 ⟨rfl, hb5⟩
        have hm5 := HM4.out.trans (hb5.mono HM4.out.size)
        have HB5 : Hid (Below w.heap.size w w5) := Lib.hid (HB1.out.trans (hm5.mono HB1.out.size))
        clear c0 c1 c2 c3 c4 c5 c6
        obtain ⟨c0, c1, c2, c3, c4, c5, c6, c7⟩ := HK.out _ hm5
        clear hb5 hm5 c7
        have hzb := HZB.out
        cases zb
        all_goals
          go_wp2
          go_ret
          exact ⟨rfl, HB5.out⟩
      · have f0 : (1 : Int) ≤ op := by omega
        have f1 : ¬ op ≤ 11 := by omega
        have f2 : (op == 14) = false := by rw [beq_eq_false_iff_ne]; omega
        have f3 : (op == 15) = false := by rw [beq_eq_false_iff_ne]; omega
        have f4 : (op == 24) = false := by rw [beq_eq_false_iff_ne]; omega
        clear hop
        go_enter Try.func7, Try.ntmps7
        go_wp2_with fail
        refine (alu_first _).mono ?_
        rintro e w1 ⟨rfl, hb1⟩
        obtain ⟨k0, k1, hs1⟩ := two_0 hb1
        have HB1 : Hid (Below w.heap.size w w1) := Lib.hid ((two_belowI w _ _).trans (hb1.mono (two_belowI w _ _).size))
        have HK : Hid (∀ wx, Below w1.heap.size w1 wx → wx.cell? ⟨w.heap.size, 0, none⟩ = some (.int .i64 op) ∧ wx.cell? ⟨w.heap.size, 1, none⟩ = some (.int .i64 a) ∧ wx.cell? ⟨w.heap.size, 2, none⟩ = some (.int .i64 b) ∧ wx.cell? ⟨w.heap.size, 3, none⟩ = some (.int .i64 c) ∧ wx.cell? ⟨w.heap.size, 4, none⟩ = some (.int .u32 imm) ∧ row? wx (w.heap.size + 1) = some (regCells r) ∧ wx.cell? ⟨w.heap.size + 1, iv, none⟩ = some (.int .u32 xv) ∧ w.heap.size + 2 ≤ wx.heap.size) := Lib.hid fun wx h => by
          have e0 : wx.heap[w.heap.size]? = _ := (h.block _ (by omega)).trans k0
          have e1 : wx.heap[w.heap.size + 1]? = _ := (h.block _ (by omega)).trans k1
          exact ⟨blk_cell e0 0, blk_cell e0 1, blk_cell e0 2, blk_cell e0 3, blk_cell e0 4, row?_of e1, (blk_cell e1 iv).trans HV.out, Nat.le_trans hs1 h.size⟩
        obtain ⟨c0, c1, c2, c3, c4, c5, c6, c7⟩ := HK.out w1 (Below.refl _ _)
        clear hb1 k0 k1 hs1
        go_wp2_with fail
        refine (HA.out _).mono ?_
        rintro e w2 ⟨rfl, hb2⟩
        rw [HAV.out]
        have hb2' : Below w1.heap.size w1 (w2.alloc (.cells (regCells ra) 24)) := hb2.alloc hb2.size _
        have HM2 := Lib.hid hb2'
        clear c0 c1 c2 c3 c4 c5 c6 c7
        obtain ⟨c0, c1, c2, c3, c4, c5, c6, c7⟩ := HK.out _ hb2
        have l0 : w.heap.size < w2.heap.size := by omega
        have l1 : w.heap.size + 1 < w2.heap.size := by omega
        clear hb2 hb2' c7
        go_wp2_with fail
        refine (HC.out _).mono ?_
        rintro e w3 ⟨rfl, hb3⟩
        rw [HTV.out]
        have hm3 := HM2.out.trans (hb3.mono HM2.out.size)
        have HM3 := Lib.hid hm3
        clear c0 c1 c2 c3 c4 c5 c6 l0 l1
        obtain ⟨c0, c1, c2, c3, c4, c5, c6, c7⟩ := HK.out _ hm3
        clear hb3 hm3 c7
        go_wp2_with fail
        refine (HZ.out _).mono ?_
        rintro e w4 ⟨rfl, hb4⟩
        have hm4 := HM3.out.trans (hb4.mono HM3.out.size)
        have HM4 := Lib.hid hm4
        clear c0 c1 c2 c3 c4 c5 c6
        obtain ⟨c0, c1, c2, c3, c4, c5, c6, c7⟩ := HK.out _ hm4
        clear hb4 hm4 c7
        go_wp2_with fail
        refine (HN.out _).mono ?_
        rintro e w5 ⟨rfl, hb5⟩
        have hm5 := HM4.out.trans (hb5.mono HM4.out.size)
        have HB5 : Hid (Below w.heap.size w w5) := Lib.hid (HB1.out.trans (hm5.mono HB1.out.size))
        clear c0 c1 c2 c3 c4 c5 c6
        obtain ⟨c0, c1, c2, c3, c4, c5, c6, c7⟩ := HK.out _ hm5
        clear hb5 hm5 c7
        have hzb := HZB.out
        cases zb
        all_goals
          go_wp2
          go_ret
          exact ⟨rfl, HB5.out⟩
    · have hop := hjs rfl
      clear his hjs
      have f0 : (1 : Int) ≤ op := by omega
      have f1 : ¬ op ≤ 11 := by omega
      have f2 : (op == 14) = false := by rw [beq_eq_false_iff_ne]; omega
      have f3 : (op == 15) = false := by rw [beq_eq_false_iff_ne]; omega
      have f4 : (op == 24) = false := by rw [beq_eq_false_iff_ne]; omega
      have f5 : (16 : Int) ≤ op := by omega
      have f6 : op ≤ 23 := by omega
      have f7 : ¬ op < (16 : Int) := by omega
      have f8 : ¬ (23 : Int) < op := by omega
      clear hop
      go_enter Try.func7, Try.ntmps7
      go_wp2_with fail
      refine (alu_first _).mono ?_
      rintro e w1 ⟨rfl, hb1⟩
      obtain ⟨k0, k1, hs1⟩ := two_0 hb1
      have HB1 : Hid (Below w.heap.size w w1) := Lib.hid ((two_belowI w _ _).trans (hb1.mono (two_belowI w _ _).size))
      have HK : Hid (∀ wx, Below w1.heap.size w1 wx → wx.cell? ⟨w.heap.size, 0, none⟩ = some (.int .i64 op) ∧ wx.cell? ⟨w.heap.size, 1, none⟩ = some (.int .i64 a) ∧ wx.cell? ⟨w.heap.size, 2, none⟩ = some (.int .i64 b) ∧ wx.cell? ⟨w.heap.size, 3, none⟩ = some (.int .i64 c) ∧ wx.cell? ⟨w.heap.size, 4, none⟩ = some (.int .u32 imm) ∧ row? wx (w.heap.size + 1) = some (regCells r) ∧ wx.cell? ⟨w.heap.size + 1, iv, none⟩ = some (.int .u32 xv) ∧ w.heap.size + 2 ≤ wx.heap.size) := Lib.hid fun wx h => by
        have e0 : wx.heap[w.heap.size]? = _ := (h.block _ (by omega)).trans k0
        have e1 : wx.heap[w.heap.size + 1]? = _ := (h.block _ (by omega)).trans k1
        exact ⟨blk_cell e0 0, blk_cell e0 1, blk_cell e0 2, blk_cell e0 3, blk_cell e0 4, row?_of e1, (blk_cell e1 iv).trans HV.out, Nat.le_trans hs1 h.size⟩
      obtain ⟨c0, c1, c2, c3, c4, c5, c6, c7⟩ := HK.out w1 (Below.refl _ _)
      clear hb1 k0 k1 hs1
      go_wp2_with fail
      refine (HA.out _).mono ?_
      rintro e w2 ⟨rfl, hb2⟩
      rw [HAV.out]
      have hb2' : Below w1.heap.size w1 (w2.alloc (.cells (regCells ra) 24)) := hb2.alloc hb2.size _
      have HM2 := Lib.hid hb2'
      clear c0 c1 c2 c3 c4 c5 c6 c7
      obtain ⟨c0, c1, c2, c3, c4, c5, c6, c7⟩ := HK.out _ hb2
      have l0 : w.heap.size < w2.heap.size := by omega
      have l1 : w.heap.size + 1 < w2.heap.size := by omega
      clear hb2 hb2' c7
      go_wp2_with fail
      refine (HC.out _).mono ?_
      rintro e w3 ⟨rfl, hb3⟩
      rw [HTV.out]
      have hm3 := HM2.out.trans (hb3.mono HM2.out.size)
      have HM3 := Lib.hid hm3
      clear c0 c1 c2 c3 c4 c5 c6 l0 l1
      obtain ⟨c0, c1, c2, c3, c4, c5, c6, c7⟩ := HK.out _ hm3
      clear hb3 hm3 c7
      go_wp2_with fail
      refine (HZ.out _).mono ?_
      rintro e w4 ⟨rfl, hb4⟩
      have hm4 := HM3.out.trans (hb4.mono HM3.out.size)
      have HM4 := Lib.hid hm4
      clear c0 c1 c2 c3 c4 c5 c6
      obtain ⟨c0, c1, c2, c3, c4, c5, c6, c7⟩ := HK.out _ hm4
      clear hb4 hm4 c7
      go_wp2_with fail
      refine (HN.out _).mono ?_
      rintro e w5 ⟨rfl, hb5⟩
      have hm5 := HM4.out.trans (hb5.mono HM4.out.size)
      have HB5 : Hid (Below w.heap.size w w5) := Lib.hid (HB1.out.trans (hm5.mono HB1.out.size))
      clear c0 c1 c2 c3 c4 c5 c6
      obtain ⟨c0, c1, c2, c3, c4, c5, c6, c7⟩ := HK.out _ hm5
      clear hb5 hm5 c7
      have hzb := HZB.out
      cases zb
      all_goals
        go_wp2
        go_ret
        exact ⟨rfl, HB5.out⟩
  · have hop := his rfl
    have htb : tb = false := by
      cases tb
      · rfl
      · have := hjs rfl
        omega
    subst htb
    clear his hjs
    rcases hop with hop | hop | hop | hop
    · have f0 : (1 : Int) ≤ op := by omega
      have f1 : op ≤ 11 := by omega
      clear hop
      go_enter Try.func7, Try.ntmps7
      go_wp2_with fail
      refine (alu_first _).mono ?_
      rintro e w1 ⟨rfl, hb1⟩
      obtain ⟨k0, k1, hs1⟩ := two_0 hb1
      have HB1 : Hid (Below w.heap.size w w1) := Lib.hid ((two_belowI w _ _).trans (hb1.mono (two_belowI w _ _).size))
      have HK : Hid (∀ wx, Below w1.heap.size w1 wx → wx.cell? ⟨w.heap.size, 0, none⟩ = some (.int .i64 op) ∧ wx.cell? ⟨w.heap.size, 1, none⟩ = some (.int .i64 a) ∧ wx.cell? ⟨w.heap.size, 2, none⟩ = some (.int .i64 b) ∧ wx.cell? ⟨w.heap.size, 3, none⟩ = some (.int .i64 c) ∧ wx.cell? ⟨w.heap.size, 4, none⟩ = some (.int .u32 imm) ∧ row? wx (w.heap.size + 1) = some (regCells r) ∧ wx.cell? ⟨w.heap.size + 1, iv, none⟩ = some (.int .u32 xv) ∧ w.heap.size + 2 ≤ wx.heap.size) := Lib.hid fun wx h => by
        have e0 : wx.heap[w.heap.size]? = _ := (h.block _ (by omega)).trans k0
        have e1 : wx.heap[w.heap.size + 1]? = _ := (h.block _ (by omega)).trans k1
        exact ⟨blk_cell e0 0, blk_cell e0 1, blk_cell e0 2, blk_cell e0 3, blk_cell e0 4, row?_of e1, (blk_cell e1 iv).trans HV.out, Nat.le_trans hs1 h.size⟩
      obtain ⟨c0, c1, c2, c3, c4, c5, c6, c7⟩ := HK.out w1 (Below.refl _ _)
      clear hb1 k0 k1 hs1
      go_wp2_with fail
      refine (HA.out _).mono ?_
      rintro e w2 ⟨rfl, hb2⟩
      rw [HAV.out]
      have hb2' : Below w1.heap.size w1 (w2.alloc (.cells (regCells ra) 24)) := hb2.alloc hb2.size _
      have HM2 := Lib.hid hb2'
      clear c0 c1 c2 c3 c4 c5 c6 c7
      obtain ⟨c0, c1, c2, c3, c4, c5, c6, c7⟩ := HK.out _ hb2
      have l0 : w.heap.size < w2.heap.size := by omega
      have l1 : w.heap.size + 1 < w2.heap.size := by omega
      clear hb2 hb2' c7
      go_wp2_with fail
      refine (HC.out _).mono ?_
      rintro e w3 ⟨rfl, hb3⟩
      rw [HTV.out]
      have hm3 := HM2.out.trans (hb3.mono HM2.out.size)
      have HM3 := Lib.hid hm3
      clear c0 c1 c2 c3 c4 c5 c6 l0 l1
      obtain ⟨c0, c1, c2, c3, c4, c5, c6, c7⟩ := HK.out _ hm3
      clear hb3 hm3 c7
      go_wp2_with fail
      refine (HZ.out _).mono ?_
      rintro e w4 ⟨rfl, hb4⟩
      have hm4 := HM3.out.trans (hb4.mono HM3.out.size)
      have HM4 := Lib.hid hm4
      clear c0 c1 c2 c3 c4 c5 c6
      obtain ⟨c0, c1, c2, c3, c4, c5, c6, c7⟩ := HK.out _ hm4
      clear hb4 hm4 c7
      go_wp2_with fail
      refine (HN.out _).mono ?_
      rintro e w5 ⟨rfl, hb5⟩
      have hm5 := HM4.out.trans (hb5.mono HM4.out.size)
      have HB5 : Hid (Below w.heap.size w w5) := Lib.hid (HB1.out.trans (hm5.mono HB1.out.size))
      clear c0 c1 c2 c3 c4 c5 c6
      obtain ⟨c0, c1, c2, c3, c4, c5, c6, c7⟩ := HK.out _ hm5
      clear hb5 hm5 c7
      have hzb := HZB.out
      cases zb
      all_goals
        go_wp2
        go_ret
        exact ⟨rfl, HB5.out⟩
    · have f0 : (1 : Int) ≤ op := by omega
      have f1 : ¬ op ≤ 11 := by omega
      have f2 : (op == 14) = true := by rw [beq_iff_eq]; omega
      clear hop
      go_enter Try.func7, Try.ntmps7
      go_wp2_with fail
      refine (alu_first _).mono ?_
      rintro e w1 ⟨rfl, hb1⟩
      obtain ⟨k0, k1, hs1⟩ := two_0 hb1
      have HB1 : Hid (Below w.heap.size w w1) := Lib.hid ((two_belowI w _ _).trans (hb1.mono (two_belowI w _ _).size))
      have HK : Hid (∀ wx, Below w1.heap.size w1 wx → wx.cell? ⟨w.heap.size, 0, none⟩ = some (.int .i64 op) ∧ wx.cell? ⟨w.heap.size, 1, none⟩ = some (.int .i64 a) ∧ wx.cell? ⟨w.heap.size, 2, none⟩ = some (.int .i64 b) ∧ wx.cell? ⟨w.heap.size, 3, none⟩ = some (.int .i64 c) ∧ wx.cell? ⟨w.heap.size, 4, none⟩ = some (.int .u32 imm) ∧ row? wx (w.heap.size + 1) = some (regCells r) ∧ wx.cell? ⟨w.heap.size + 1, iv, none⟩ = some (.int .u32 xv) ∧ w.heap.size + 2 ≤ wx.heap.size) := Lib.hid fun wx h => by
        have e0 : wx.heap[w.heap.size]? = _ := (h.block _ (by omega)).trans k0
        have e1 : wx.heap[w.heap.size + 1]? = _ := (h.block _ (by omega)).trans k1
        exact ⟨blk_cell e0 0, blk_cell e0 1, blk_cell e0 2, blk_cell e0 3, blk_cell e0 4, row?_of e1, (blk_cell e1 iv).trans HV.out, Nat.le_trans hs1 h.size⟩
      obtain ⟨c0, c1, c2, c3, c4, c5, c6, c7⟩ := HK.out w1 (Below.refl _ _)
      clear hb1 k0 k1 hs1
      go_wp2_with fail
      refine (HA.out _).mono ?_
      rintro e w2 ⟨rfl, hb2⟩
      rw [HAV.out]
      have hb2' : Below w1.heap.size w1 (w2.alloc (.cells (regCells ra) 24)) := hb2.alloc hb2.size _
      have HM2 := Lib.hid hb2'
      clear c0 c1 c2 c3 c4 c5 c6 c7
      obtain ⟨c0, c1, c2, c3, c4, c5, c6, c7⟩ := HK.out _ hb2
      have l0 : w.heap.size < w2.heap.size := by omega
      have l1 : w.heap.size + 1 < w2.heap.size := by omega
      clear hb2 hb2' c7
      go_wp2_with fail
      refine (HC.out _).mono ?_
      rintro e w3 ⟨rfl, hb3⟩
      rw [HTV.out]
      have hm3 := HM2.out.trans (hb3.mono HM2.out.size)
      have HM3 := Lib.hid hm3
      clear c0 c1 c2 c3 c4 c5 c6 l0 l1
      obtain ⟨c0, c1, c2, c3, c4, c5, c6, c7⟩ := HK.out _ hm3
      clear hb3 hm3 c7
      go_wp2_with fail
      refine (HZ.out _).mono ?_
      rintro e w4 ⟨rfl, hb4⟩
      have hm4 := HM3.out.trans (hb4.mono HM3.out.size)
      have HM4 := Lib.hid hm4
      clear c0 c1 c2 c3 c4 c5 c6
      obtain ⟨c0, c1, c2, c3, c4, c5, c6, c7⟩ := HK.out _ hm4
      clear hb4 hm4 c7
      go_wp2_with fail
      refine (HN.out _).mono ?_
      rintro e w5 ⟨rfl, hb5⟩
      have hm5 := HM4.out.trans (hb5.mono HM4.out.size)
      have HB5 : Hid (Below w.heap.size w w5) := Lib.hid (HB1.out.trans (hm5.mono HB1.out.size))
      clear c0 c1 c2 c3 c4 c5 c6
      obtain ⟨c0, c1, c2, c3, c4, c5, c6, c7⟩ := HK.out _ hm5
      clear hb5 hm5 c7
      have hzb := HZB.out
      cases zb
      all_goals
        go_wp2
        go_ret
        exact ⟨rfl, HB5.out⟩
    · have f0 : (1 : Int) ≤ op := by omega
      have f1 : ¬ op ≤ 11 := by omega
      have f2 : (op == 14) = false := by rw [beq_eq_false_iff_ne]; omega
      have f3 : (op == 15) = true := by rw [beq_iff_eq]; omega
      clear hop
      go_enter Try.func7, Try.ntmps7
      go_wp2_with fail
      refine (alu_first _).mono ?_
      rintro e w1 ⟨rfl, hb1⟩
      obtain ⟨k0, k1, hs1⟩ := two_0 hb1
      have HB1 : Hid (Below w.heap.size w w1) := Lib.hid ((two_belowI w _ _).trans (hb1.mono (two_belowI w _ _).size))
      have HK : Hid (∀ wx, Below w1.heap.size w1 wx → wx.cell? ⟨w.heap.size, 0, none⟩ = some (.int .i64 op) ∧ wx.cell? ⟨w.heap.size, 1, none⟩ = some (.int .i64 a) ∧ wx.cell? ⟨w.heap.size, 2, none⟩ = some (.int .i64 b) ∧ wx.cell? ⟨w.heap.size, 3, none⟩ = some (.int .i64 c) ∧ wx.cell? ⟨w.heap.size, 4, none⟩ = some (.int .u32 imm) ∧ row? wx (w.heap.size + 1) = some (regCells r) ∧ wx.cell? ⟨w.heap.size + 1, iv, none⟩ = some (.int .u32 xv) ∧ w.heap.size + 2 ≤ wx.heap.size) := Lib.hid fun wx h => by
        have e0 : wx.heap[w.heap.size]? = _ := (h.block _ (by omega)).trans k0
        have e1 : wx.heap[w.heap.size + 1]? = _ := (h.block _ (by omega)).trans k1
        exact ⟨blk_cell e0 0, blk_cell e0 1, blk_cell e0 2, blk_cell e0 3, blk_cell e0 4, row?_of e1, (blk_cell e1 iv).trans HV.out, Nat.le_trans hs1 h.size⟩
      obtain ⟨c0, c1, c2, c3, c4, c5, c6, c7⟩ := HK.out w1 (Below.refl _ _)
      clear hb1 k0 k1 hs1
      go_wp2_with fail
      refine (HA.out _).mono ?_
      rintro e w2 ⟨rfl, hb2⟩
      rw [HAV.out]
      have hb2' : Below w1.heap.size w1 (w2.alloc (.cells (regCells ra) 24)) := hb2.alloc hb2.size _
      have HM2 := Lib.hid hb2'
      clear c0 c1 c2 c3 c4 c5 c6 c7
      obtain ⟨c0, c1, c2, c3, c4, c5, c6, c7⟩ := HK.out _ hb2
      have l0 : w.heap.size < w2.heap.size := by omega
      have l1 : w.heap.size + 1 < w2.heap.size := by omega
      clear hb2 hb2' c7
      go_wp2_with fail
      refine (HC.out _).mono ?_
      rintro e w3 ⟨rfl, hb3⟩
      rw [HTV.out]
      have hm3 := HM2.out.trans (hb3.mono HM2.out.size)
      have HM3 := Lib.hid hm3
      clear c0 c1 c2 c3 c4 c5 c6 l0 l1
      obtain ⟨c0, c1, c2, c3, c4, c5, c6, c7⟩ := HK.out _ hm3
      clear hb3 hm3 c7
      go_wp2_with fail
      refine (HZ.out _).mono ?_
      rintro e w4 ⟨rfl, hb4⟩
      have hm4 := HM3.out.trans (hb4.mono HM3.out.size)
      have HM4 := Lib.hid hm4
      clear c0 c1 c2 c3 c4 c5 c6
      obtain ⟨c0, c1, c2, c3, c4, c5, c6, c7⟩ := HK.out _ hm4
      clear hb4 hm4 c7
      go_wp2_with fail
      refine (HN.out _).mono ?_
      rintro e w5 ⟨rfl, hb5⟩
      have hm5 := HM4.out.trans (hb5.mono HM4.out.size)
      have HB5 : Hid (Below w.heap.size w w5) := Lib.hid (HB1.out.trans (hm5.mono HB1.out.size))
      clear c0 c1 c2 c3 c4 c5 c6
      obtain ⟨c0, c1, c2, c3, c4, c5, c6, c7⟩ := HK.out _ hm5
      clear hb5 hm5 c7
      have hzb := HZB.out
      cases zb
      all_goals
        go_wp2
        go_ret
        exact ⟨rfl, HB5.out⟩
    · have f0 : (1 : Int) ≤ op := by omega
      have f1 : ¬ op ≤ 11 := by omega
      have f2 : (op == 14) = false := by rw [beq_eq_false_iff_ne]; omega
      have f3 : (op == 15) = false := by rw [beq_eq_false_iff_ne]; omega
      have f4 : (op == 24) = true := by rw [beq_iff_eq]; omega
      clear hop
      go_enter Try.func7, Try.ntmps7
      go_wp2_with fail
      refine (alu_first _).mono ?_
      rintro e w1 ⟨rfl, hb1⟩
      obtain ⟨k0, k1, hs1⟩ := two_0 hb1
      have HB1 : Hid (Below w.heap.size w w1) := Lib.hid ((two_belowI w _ _).trans (hb1.mono (two_belowI w _ _).size))
      have HK : Hid (∀ wx, Below w1.heap.size w1 wx → wx.cell? ⟨w.heap.size, 0, none⟩ = some (.int .i64 op) ∧ wx.cell? ⟨w.heap.size, 1, none⟩ = some (.int .i64 a) ∧ wx.cell? ⟨w.heap.size, 2, none⟩ = some (.int .i64 b) ∧ wx.cell? ⟨w.heap.size, 3, none⟩ = some (.int .i64 c) ∧ wx.cell? ⟨w.heap.size, 4, none⟩ = some (.int .u32 imm) ∧ row? wx (w.heap.size + 1) = some (regCells r) ∧ wx.cell? ⟨w.heap.size + 1, iv, none⟩ = some (.int .u32 xv) ∧ w.heap.size + 2 ≤ wx.heap.size) := Lib.hid fun wx h => by
        have e0 : wx.heap[w.heap.size]? = _ := (h.block _ (by omega)).trans k0
        have e1 : wx.heap[w.heap.size + 1]? = _ := (h.block _ (by omega)).trans k1
        exact ⟨blk_cell e0 0, blk_cell e0 1, blk_cell e0 2, blk_cell e0 3, blk_cell e0 4, row?_of e1, (blk_cell e1 iv).trans HV.out, Nat.le_trans hs1 h.size⟩
      obtain ⟨c0, c1, c2, c3, c4, c5, c6, c7⟩ := HK.out w1 (Below.refl _ _)
      clear hb1 k0 k1 hs1
      go_wp2_with fail
      refine (HA.out _).mono ?_
      rintro e w2 ⟨rfl, hb2⟩
      rw [HAV.out]
      have hb2' : Below w1.heap.size w1 (w2.alloc (.cells (regCells ra) 24)) := hb2.alloc hb2.size _
      have HM2 := Lib.hid hb2'
      clear c0 c1 c2 c3 c4 c5 c6 c7
      obtain ⟨c0, c1, c2, c3, c4, c5, c6, c7⟩ := HK.out _ hb2
      have l0 : w.heap.size < w2.heap.size := by omega
      have l1 : w.heap.size + 1 < w2.heap.size := by omega
      clear hb2 hb2' c7
      go_wp2_with fail
      refine (HC.out _).mono ?_
      rintro e w3 ⟨rfl, hb3⟩
      rw [HTV.out]
      have hm3 := HM2.out.trans (hb3.mono HM2.out.size)
      have HM3 := Lib.hid hm3
      clear c0 c1 c2 c3 c4 c5 c6 l0 l1
      obtain ⟨c0, c1, c2, c3, c4, c5, c6, c7⟩ := HK.out _ hm3
      clear hb3 hm3 c7
      go_wp2_with fail
      refine (HZ.out _).mono ?_
      rintro e w4 ⟨rfl, hb4⟩
      have hm4 := HM3.out.trans (hb4.mono HM3.out.size)
      have HM4 := Lib.hid hm4
      clear c0 c1 c2 c3 c4 c5 c6
      obtain ⟨c0, c1, c2, c3, c4, c5, c6, c7⟩ := HK.out _ hm4
      clear hb4 hm4 c7
      go_wp2_with fail
      refine (HN.out _).mono ?_
      rintro e w5 ⟨rfl, hb5⟩
      have hm5 := HM4.out.trans (hb5.mono HM4.out.size)
      have HB5 : Hid (Below w.heap.size w w5) := Lib.hid (HB1.out.trans (hm5.mono HB1.out.size))
      clear c0 c1 c2 c3 c4 c5 c6
      obtain ⟨c0, c1, c2, c3, c4, c5, c6, c7⟩ := HK.out _ hm5
      clear hb5 hm5 c7
      have hzb := HZB.out
      cases zb
      all_goals
        go_wp2
        go_ret
        exact ⟨rfl, HB5.out⟩
end Go.Proofs.Ytikioeddilgbpaa
