/-
  AluSays: for every instruction and registers the call returns true.
-/
import Derived.Test.YtikioeddilgbpaaRAlu
import Derived.Test.YtikioeddilgbpaaAlu8
import Derived.Test.YtikioeddilgbpaaAlu9
import Derived.Test.YtikioeddilgbpaaAluOpen
namespace Go.Proofs.Ytikioeddilgbpaa
open Go.RowKit

set_option linter.unusedSimpArgs false
theorem aluR_len (i : Ins) (r : List Int) (hl : r.length = 16) : (aluR i r).1.length = 16 := by
  unfold aluR
  repeat' split
  all_goals first | rfl | exact hl | (rw [List.length_set]; exact hl)
set_option maxRecDepth 100000 in
set_option maxHeartbeats 4000000 in
theorem says_walk (i : Ins) (r : List Int) (w : World) (hr : regsOk r) :
    Calls Try.prog 6 #[insV i, .agg (regCells r)] w fun e w' => e = .returned (.bool true) ∧ Below w.heap.size w w' := by
  have HL := Lib.hid hr.1
  have HU := Lib.hid hr.2
  have HA : Hid (∀ wx, Calls Try.prog 10 #[insV i, .agg (regCells r)] wx fun e w' => e = .returned (aluV i r) ∧ Below wx.heap.size wx w') := Lib.hid fun wx => do_any i r hr.1 hr.2 wx
  have HB : Hid (∀ wx, Calls Try.prog 13 #[insV i, .agg (regCells r)] wx fun e w' => e = .returned (aluV i r) ∧ Below wx.heap.size wx w') := Lib.hid fun wx => ralu_any i r hr.1 hr.2 wx
  have HC : Hid (∀ wx, Calls Try.prog 14 #[insV i, .agg (regCells r)] wx fun e w' => e = .returned (takV i r) ∧ Below wx.heap.size wx w') := Lib.hid fun wx => taken_any i r hr.1 wx
  have HD : Hid (∀ wx, Calls Try.prog 15 #[insV i, .agg (regCells r)] wx fun e w' => e = .returned (takV i r) ∧ Below wx.heap.size wx w') := Lib.hid fun wx => rtaken_any i r hr.1 wx
  have hlen := aluR_len i r hr.1
  have hav : aluV i r = .tuple #[.agg (regCells (aluR i r).1), .bool (aluR i r).2] := rfl
  have htv : takV i r = .tuple #[.bool (takR i r).1, .bool (takR i r).2] := rfl
  obtain ⟨⟨ra, ba⟩, hra⟩ : ∃ x, aluR i r = x := ⟨_, rfl⟩
  obtain ⟨⟨ta, tb⟩, hta⟩ : ∃ x, takR i r = x := ⟨_, rfl⟩
  rw [hra] at hav hlen
  rw [hta] at htv
  dsimp only at hav htv hlen
  have HAV := Lib.hid hav
  have HTV := Lib.hid htv
  have HLR := Lib.hid hlen
  have hsz := regs_size r hr.1
  have hsz2 := regs_size ra hlen
  clear hav htv hra hta hlen hr
  obtain ⟨op, a, b, c, imm⟩ := i
  go_enter Try.func6, Try.ntmps6
  go_wp2_with fail
  refine (alu_first _).mono ?_
  rintro e w1 ⟨rfl, hb1⟩
  obtain ⟨k0, k1, hs1⟩ := two_0 hb1
  have HB1 : Hid (Below w.heap.size w w1) := Lib.hid ((two_belowI w _ _).trans (hb1.mono (two_belowI w _ _).size))
  have HK : Hid (∀ wx, Below w1.heap.size w1 wx → wx.cell? ⟨w.heap.size, 0, none⟩ = some (.int .i64 op) ∧ wx.cell? ⟨w.heap.size, 1, none⟩ = some (.int .i64 a) ∧ wx.cell? ⟨w.heap.size, 2, none⟩ = some (.int .i64 b) ∧ wx.cell? ⟨w.heap.size, 3, none⟩ = some (.int .i64 c) ∧ wx.cell? ⟨w.heap.size, 4, none⟩ = some (.int .u32 imm) ∧ row? wx (w.heap.size + 1) = some (regCells r) ∧ w.heap.size + 2 ≤ wx.heap.size) := Lib.hid fun wx h => by
    have e0 : wx.heap[w.heap.size]? = _ := (h.block _ (by omega)).trans k0
    have e1 : wx.heap[w.heap.size + 1]? = _ := (h.block _ (by omega)).trans k1
    exact ⟨blk_cell e0 0, blk_cell e0 1, blk_cell e0 2, blk_cell e0 3, blk_cell e0 4, row?_of e1, Nat.le_trans hs1 h.size⟩
  obtain ⟨c0, c1, c2, c3, c4, c5, c6⟩ := HK.out w1 (Below.refl _ _)
  clear hb1 k0 k1 hs1
  go_wp2_with fail
  refine (HA.out _).mono ?_
  rintro e w2 ⟨rfl, hb2⟩
  rw [HAV.out]
  have hb2' : Below w1.heap.size w1 (w2.alloc (.cells (regCells ra) 24)) := hb2.alloc hb2.size _
  have HM2 := Lib.hid hb2'
  have HR6 : Hid (∀ wx, Below (w2.alloc (.cells (regCells ra) 24)).heap.size (w2.alloc (.cells (regCells ra) 24)) wx → row? wx w2.heap.size = some (regCells ra) ∧ w2.heap.size < wx.heap.size) := Lib.hid fun wx h => by
    have e : wx.heap[w2.heap.size]? = _ := (h.block _ (by simp)).trans (blk_new w2 _)
    exact ⟨row?_of e, blk_lt e⟩
  clear c0 c1 c2 c3 c4 c5 c6
  obtain ⟨c0, c1, c2, c3, c4, c5, c6⟩ := HK.out _ hb2
  have l0 : w.heap.size < w2.heap.size := by omega
  have l1 : w.heap.size + 1 < w2.heap.size := by omega
  clear hb2 hb2' c6
  go_wp2_with fail
  refine (HB.out _).mono ?_
  rintro e w3 ⟨rfl, hb3⟩
  rw [HAV.out]
  have hm3 := HM2.out.trans (hb3.mono HM2.out.size)
  have hm3' : Below w1.heap.size w1 (w3.alloc (.cells (regCells ra) 24)) := hm3.alloc hm3.size _
  have hn3' : Below (w2.alloc (.cells (regCells ra) 24)).heap.size (w2.alloc (.cells (regCells ra) 24)) (w3.alloc (.cells (regCells ra) 24)) := hb3.alloc hb3.size _
  have HM3 := Lib.hid hm3'
  have HN3 := Lib.hid hn3'
  have HR8 : Hid (∀ wx, Below (w3.alloc (.cells (regCells ra) 24)).heap.size (w3.alloc (.cells (regCells ra) 24)) wx → row? wx w3.heap.size = some (regCells ra) ∧ w3.heap.size < wx.heap.size) := Lib.hid fun wx h => by
    have e : wx.heap[w3.heap.size]? = _ := (h.block _ (by simp)).trans (blk_new w3 _)
    exact ⟨row?_of e, blk_lt e⟩
  clear c0 c1 c2 c3 c4 c5 l0 l1
  obtain ⟨c0, c1, c2, c3, c4, c5, c6⟩ := HK.out _ hm3
  have l0 : w.heap.size < w3.heap.size := by omega
  have l1 : w.heap.size + 1 < w3.heap.size := by omega
  clear hb3 hm3 hm3' hn3' c6
  go_wp2_with fail
  refine (HC.out _).mono ?_
  rintro e w4 ⟨rfl, hb4⟩
  rw [HTV.out]
  have hm4 := HM3.out.trans (hb4.mono HM3.out.size)
  have HN4 := Lib.hid (HN3.out.trans (hb4.mono HN3.out.size))
  have HM4 := Lib.hid hm4
  have HQ4 := Lib.hid hb4
  clear c0 c1 c2 c3 c4 c5 l0 l1
  obtain ⟨c0, c1, c2, c3, c4, c5, c6⟩ := HK.out _ hm4
  clear hb4 hm4 c6
  go_wp2_with fail
  refine (HD.out _).mono ?_
  rintro e w5 ⟨rfl, hb5⟩
  rw [HTV.out]
  obtain ⟨r6, -⟩ := HR6.out _ (HN4.out.trans (hb5.mono HN4.out.size))
  obtain ⟨r8, -⟩ := HR8.out _ (HQ4.out.trans (hb5.mono HQ4.out.size))
  have HB5 : Hid (Below w.heap.size w w5) := Lib.hid (HB1.out.trans ((HM4.out.trans (hb5.mono HM4.out.size)).mono HB1.out.size))
  clear c0 c1 c2 c3 c4 c5 hb5
  go_wp2_with fail
  refine (regs_same ra ra HLR.out HLR.out _).mono ?_
  rintro e w6 ⟨rfl, hb6⟩
  rw [decide_eq_true (rfl : ra = ra)]
  have HB6 : Hid (Below w.heap.size w w6) := Lib.hid (HB5.out.trans (hb6.mono HB5.out.size))
  clear hb6 r6 r8
  go_wp2
  go_ret
  exact ⟨rfl, HB6.out⟩
end Go.Proofs.Ytikioeddilgbpaa
