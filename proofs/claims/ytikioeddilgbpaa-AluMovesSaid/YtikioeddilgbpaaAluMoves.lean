/-
  AluMoves: for every registers and numbers the call returns true.
-/
import Derived.Test.YtikioeddilgbpaaAlu8
import Derived.Test.YtikioeddilgbpaaAluNot
import Derived.Test.YtikioeddilgbpaaHeld
namespace Go.Proofs.Ytikioeddilgbpaa
open Go.RowKit

set_option linter.unusedSimpArgs false
theorem fit_nat (n : Nat) (h : n < 16) : fit (n : Int) 1 = true := by
  unfold fit
  rw [show most 1 = 15 from rfl, decide_eq_true (show (0 : Int) ≤ n by omega), decide_eq_true (show (n : Int) ≤ 15 by omega)]
  rfl
theorem wok_mov (a b : Nat) (ha : a < 16) (hb : b < 16) : wok ⟨2, a, b, (0 : Nat), 0⟩ = true := by
  unfold wok
  dsimp only
  rw [show opk 2 = (1, 1, 0) from rfl]
  dsimp only
  rw [fit_nat a ha, fit_nat b hb]
  rfl
theorem wok_li (a : Nat) (ha : a < 16) (n : Int) : wok ⟨14, a, (0 : Nat), (0 : Nat), n⟩ = true := by
  unfold wok
  dsimp only
  rw [show opk 14 = (1, 0, 0) from rfl, show two 14 = true from rfl]
  dsimp only
  rw [fit_nat a ha, Bool.or_true]
  rfl
theorem wok_la (a : Nat) (ha : a < 16) (n : Int) : wok ⟨15, a, (0 : Nat), (0 : Nat), n⟩ = true := by
  unfold wok
  dsimp only
  rw [show opk 15 = (1, 0, 0) from rfl, show two 15 = true from rfl]
  dsimp only
  rw [fit_nat a ha, Bool.or_true]
  rfl
theorem wok_mov16 (a : Nat) (ha : a < 16) : wok ⟨2, a, 16, 0, 0⟩ = false := by
  unfold wok
  dsimp only
  rw [show opk 2 = (1, 1, 0) from rfl]
  dsimp only
  rw [fit_nat a ha]
  rfl
theorem wok_nop : wok ⟨1, (0 : Nat), (0 : Nat), (0 : Nat), 0⟩ = true := by decide
theorem set_u32r {r : List Int} (hr : ∀ z ∈ r, U32 z) {x : Int} (hx : U32 x) (k : Nat) : ∀ z ∈ r.set k x, U32 z := fun z hz => by
  rcases List.mem_or_eq_of_mem_set hz with h | rfl
  · exact hr z h
  · exact hx
theorem set_set (r : List Int) (k : Nat) (x : Int) : (r.set k x).set k x = r.set k x := by simp
theorem getD_set (r : List Int) (k : Nat) (x : Int) (h : k < r.length) : (r.set k x).getD k 0 = x := by simp [h]

set_option maxRecDepth 100000 in
set_option maxHeartbeats 8000000 in
theorem moves_walk (r : List Int) (a b n : Int) (w : World) (hr : regsOk r) (hn : U32 n) :
    Calls Try.prog 5 #[.agg (regCells r), .int .i64 a, .int .i64 b, .int .u32 n] w fun e w' => e = .returned (.bool true) ∧ Below w.heap.size w w' := by
  obtain ⟨ia, hia, hva⟩ := and15_in a
  obtain ⟨ib, hib, hvb⟩ := and15_in b
  obtain ⟨xb, hxb⟩ : ∃ x, r.getD ib 0 = x := ⟨_, rfl⟩
  have HA0 : Hid (∀ wx, Calls Try.prog 10 #[insV ⟨2, ia, ib, (0 : Nat), 0⟩, .agg (regCells r)] wx fun e w' => e = .returned (.tuple #[.agg (regCells (r.set ia xb)), .bool true]) ∧ Below wx.heap.size wx w') := Lib.hid fun wx => (do_any ⟨2, ia, ib, (0 : Nat), 0⟩ r hr.1 hr.2 wx).mono fun e w' ⟨he, hb⟩ => ⟨by rw [he]; unfold aluV; rw [show aluR ⟨2, ia, ib, (0 : Nat), 0⟩ r = ((r.set ia xb), true) from by rw [← hxb]; exact aluR_fn (wok_mov ia ib hia hib) (by decide)], hb⟩
  have HA1 : Hid (∀ wx, Calls Try.prog 10 #[insV ⟨14, ia, (0 : Nat), (0 : Nat), n⟩, .agg (regCells r)] wx fun e w' => e = .returned (.tuple #[.agg (regCells (r.set ia n)), .bool true]) ∧ Below wx.heap.size wx w') := Lib.hid fun wx => (do_any ⟨14, ia, (0 : Nat), (0 : Nat), n⟩ r hr.1 hr.2 wx).mono fun e w' ⟨he, hb⟩ => ⟨by rw [he]; unfold aluV; rw [show aluR ⟨14, ia, (0 : Nat), (0 : Nat), n⟩ r = ((r.set ia n), true) from aluR_li (wok_li ia hia n) (.inl rfl)], hb⟩
  have HA2 : Hid (∀ wx, Calls Try.prog 10 #[insV ⟨15, ia, (0 : Nat), (0 : Nat), n⟩, .agg (regCells r)] wx fun e w' => e = .returned (.tuple #[.agg (regCells (r.set ia n)), .bool true]) ∧ Below wx.heap.size wx w') := Lib.hid fun wx => (do_any ⟨15, ia, (0 : Nat), (0 : Nat), n⟩ r hr.1 hr.2 wx).mono fun e w' ⟨he, hb⟩ => ⟨by rw [he]; unfold aluV; rw [show aluR ⟨15, ia, (0 : Nat), (0 : Nat), n⟩ r = ((r.set ia n), true) from aluR_li (wok_la ia hia n) (.inr rfl)], hb⟩
  have HA3 : Hid (∀ wx, Calls Try.prog 10 #[insV ⟨1, (0 : Nat), (0 : Nat), (0 : Nat), 0⟩, .agg (regCells r)] wx fun e w' => e = .returned (.tuple #[.agg (regCells r), .bool true]) ∧ Below wx.heap.size wx w') := Lib.hid fun wx => (do_any ⟨1, (0 : Nat), (0 : Nat), (0 : Nat), 0⟩ r hr.1 hr.2 wx).mono fun e w' ⟨he, hb⟩ => ⟨by rw [he]; unfold aluV; rw [show aluR ⟨1, (0 : Nat), (0 : Nat), (0 : Nat), 0⟩ r = (r, true) from aluR_1 wok_nop], hb⟩
  have HA4 : Hid (∀ wx, Calls Try.prog 10 #[insV ⟨14, ia, (0 : Nat), (0 : Nat), n⟩, .agg (regCells (r.set ia n))] wx fun e w' => e = .returned (.tuple #[.agg (regCells (r.set ia n)), .bool true]) ∧ Below wx.heap.size wx w') := Lib.hid fun wx => (do_any ⟨14, ia, (0 : Nat), (0 : Nat), n⟩ (r.set ia n) (by rw [List.length_set]; exact hr.1) (set_u32r hr.2 hn ia) wx).mono fun e w' ⟨he, hb⟩ => ⟨by rw [he]; unfold aluV; rw [show aluR ⟨14, ia, (0 : Nat), (0 : Nat), n⟩ (r.set ia n) = ((r.set ia n), true) from (aluR_li (wok_li ia hia n) (.inl rfl)).trans (by rw [set_set])], hb⟩
  have HA5 : Hid (∀ wx, Calls Try.prog 10 #[insV ⟨2, ia, 16, 0, 0⟩, .agg (regCells r)] wx fun e w' => e = .returned (.tuple #[.agg (regCells zr), .bool false]) ∧ Below wx.heap.size wx w') := Lib.hid fun wx => (do_any ⟨2, ia, 16, 0, 0⟩ r hr.1 hr.2 wx).mono fun e w' ⟨he, hb⟩ => ⟨by rw [he]; unfold aluV; rw [show aluR ⟨2, ia, 16, 0, 0⟩ r = (zr, false) from aluR_bad (wok_mov16 ia hia)], hb⟩
  have HL := Lib.hid hr.1
  have hl1 : (r.set ia xb).length = 16 := by rw [List.length_set]; exact hr.1
  have hl2 : (r.set ia n).length = 16 := by rw [List.length_set]; exact hr.1
  have HL1 := Lib.hid hl1
  have HL2 := Lib.hid hl2
  have HG0 := Lib.hid (regs_at r hr.1 ib xb hib hxb)
  have HG1 := Lib.hid (regs_at (r.set ia xb) hl1 ia xb hia (getD_set r ia xb (by rw [hr.1]; exact hia)))
  have HG2 := Lib.hid (regs_at (r.set ia n) hl2 ia n hia (getD_set r ia n (by rw [hr.1]; exact hia)))
  have hsz := regs_size r hr.1
  have hsz1 := regs_size _ hl1
  have hsz2 := regs_size _ hl2
  have hsz3 : (regCells zr).size = 16 := rfl
  have ha0 : (0 : Int) ≤ (ia : Int) := by omega
  have ha1 : (ia : Int) < 16 := by omega
  have hb0 : (0 : Int) ≤ (ib : Int) := by omega
  have hb1' : (ib : Int) < 16 := by omega
  clear hl1 hl2 hia hib hxb hn hr
  go_enter Try.func5, Try.ntmps5
  go_wp2_with fail
  refine (alu_first _).mono ?_
  rintro e w1 ⟨rfl, hb1⟩
  have k0 : w1.heap[w.heap.size]? = some (.cells (regCells r) 24 (0, 0)) := (hb1.block _ (by simp)).trans (blk_new _ _)
  have HB1 : Hid (Below w.heap.size w w1) := Lib.hid (((Below.refl w.heap.size w).alloc (Nat.le_refl _) (.cells (regCells r) 24)).trans (hb1.mono (by simp)))
  have HQ0 : Hid (∀ wx, Below w1.heap.size w1 wx → row? wx w.heap.size = some (regCells r) ∧ wx.cell? ⟨w.heap.size, ib, none⟩ = some (.int .u32 xb) ∧ w.heap.size < wx.heap.size) := Lib.hid fun wx h => by
    have e0 : wx.heap[w.heap.size]? = _ := (h.block _ (blk_lt k0)).trans k0
    exact ⟨row?_of e0, (blk_cell e0 ib).trans HG0.out, blk_lt e0⟩
  have HM : Hid (Below w1.heap.size w1 w1) := Lib.hid (Below.refl _ _)
  obtain ⟨d0, -, d1⟩ := HQ0.out _ HM.out
  clear hb1 k0
  go_wp2_with fail
  refine (HA0.out _).mono ?_
  rintro e v0 ⟨rfl, hb⟩
  have hm := HM.out.trans (hb.mono HM.out.size)
  have hm' : Below w1.heap.size w1 (v0.alloc (.cells (regCells (r.set ia xb)) 24)) := hm.alloc hm.size _
  have HN12 : Hid (Below (v0.alloc (.cells (regCells (r.set ia xb)) 24)).heap.size (v0.alloc (.cells (regCells (r.set ia xb)) 24)) (v0.alloc (.cells (regCells (r.set ia xb)) 24))) := Lib.hid (Below.refl _ _)
  have HQ1 : Hid (∀ wx, Below (v0.alloc (.cells (regCells (r.set ia xb)) 24)).heap.size (v0.alloc (.cells (regCells (r.set ia xb)) 24)) wx → row? wx v0.heap.size = some (regCells (r.set ia xb)) ∧ v0.heap.size < wx.heap.size ∧ ∀ i u, (regCells (r.set ia xb))[i]? = some u → wx.cell? ⟨v0.heap.size, i, none⟩ = some u) := Lib.hid fun wx h => by
    have e : wx.heap[v0.heap.size]? = _ := (h.block _ (by simp)).trans (blk_new v0 _)
    exact ⟨row?_of e, blk_lt e, fun i u hu => (blk_cell e i).trans hu⟩
  clear d0 d1
  obtain ⟨d0, -, d1⟩ := HQ0.out _ hm
  have HM2 := Lib.hid hm'
  clear hm hm' hb HM
  have HM := HM2
  clear HM2
  have HN1 := HN12
  clear HN12
  go_wp2_with fail
  refine (HA1.out _).mono ?_
  rintro e v1 ⟨rfl, hb⟩
  have hm := HM.out.trans (hb.mono HM.out.size)
  have HN1' := Lib.hid (HN1.out.trans (hb.mono HN1.out.size))
  have hm' : Below w1.heap.size w1 (v1.alloc (.cells (regCells (r.set ia n)) 24)) := hm.alloc hm.size _
  have HN12 := Lib.hid (HN1'.out.alloc HN1'.out.size (.cells (regCells (r.set ia n)) 24))
  have HN22 : Hid (Below (v1.alloc (.cells (regCells (r.set ia n)) 24)).heap.size (v1.alloc (.cells (regCells (r.set ia n)) 24)) (v1.alloc (.cells (regCells (r.set ia n)) 24))) := Lib.hid (Below.refl _ _)
  have HQ2 : Hid (∀ wx, Below (v1.alloc (.cells (regCells (r.set ia n)) 24)).heap.size (v1.alloc (.cells (regCells (r.set ia n)) 24)) wx → row? wx v1.heap.size = some (regCells (r.set ia n)) ∧ v1.heap.size < wx.heap.size ∧ ∀ i u, (regCells (r.set ia n))[i]? = some u → wx.cell? ⟨v1.heap.size, i, none⟩ = some u) := Lib.hid fun wx h => by
    have e : wx.heap[v1.heap.size]? = _ := (h.block _ (by simp)).trans (blk_new v1 _)
    exact ⟨row?_of e, blk_lt e, fun i u hu => (blk_cell e i).trans hu⟩
  clear d0 d1
  obtain ⟨d0, -, d1⟩ := HQ0.out _ hm
  have HM2 := Lib.hid hm'
  clear hm hm' hb HM HN1 HN1'
  have HM := HM2
  clear HM2
  have HN1 := HN12
  have HN2 := HN22
  clear HN12 HN22
  go_wp2_with fail
  refine (HA2.out _).mono ?_
  rintro e v2 ⟨rfl, hb⟩
  have hm := HM.out.trans (hb.mono HM.out.size)
  have HN1' := Lib.hid (HN1.out.trans (hb.mono HN1.out.size))
  have HN2' := Lib.hid (HN2.out.trans (hb.mono HN2.out.size))
  have hm' : Below w1.heap.size w1 (v2.alloc (.cells (regCells (r.set ia n)) 24)) := hm.alloc hm.size _
  have HN12 := Lib.hid (HN1'.out.alloc HN1'.out.size (.cells (regCells (r.set ia n)) 24))
  have HN22 := Lib.hid (HN2'.out.alloc HN2'.out.size (.cells (regCells (r.set ia n)) 24))
  have HN32 : Hid (Below (v2.alloc (.cells (regCells (r.set ia n)) 24)).heap.size (v2.alloc (.cells (regCells (r.set ia n)) 24)) (v2.alloc (.cells (regCells (r.set ia n)) 24))) := Lib.hid (Below.refl _ _)
  have HQ3 : Hid (∀ wx, Below (v2.alloc (.cells (regCells (r.set ia n)) 24)).heap.size (v2.alloc (.cells (regCells (r.set ia n)) 24)) wx → row? wx v2.heap.size = some (regCells (r.set ia n)) ∧ v2.heap.size < wx.heap.size ∧ ∀ i u, (regCells (r.set ia n))[i]? = some u → wx.cell? ⟨v2.heap.size, i, none⟩ = some u) := Lib.hid fun wx h => by
    have e : wx.heap[v2.heap.size]? = _ := (h.block _ (by simp)).trans (blk_new v2 _)
    exact ⟨row?_of e, blk_lt e, fun i u hu => (blk_cell e i).trans hu⟩
  clear d0 d1
  obtain ⟨d0, -, d1⟩ := HQ0.out _ hm
  have HM2 := Lib.hid hm'
  clear hm hm' hb HM HN1 HN1' HN2 HN2'
  have HM := HM2
  clear HM2
  have HN1 := HN12
  have HN2 := HN22
  have HN3 := HN32
  clear HN12 HN22 HN32
  go_wp2_with fail
  refine (HA3.out _).mono ?_
  rintro e v3 ⟨rfl, hb⟩
  have hm := HM.out.trans (hb.mono HM.out.size)
  have HN1' := Lib.hid (HN1.out.trans (hb.mono HN1.out.size))
  have HN2' := Lib.hid (HN2.out.trans (hb.mono HN2.out.size))
  have HN3' := Lib.hid (HN3.out.trans (hb.mono HN3.out.size))
  have hm' : Below w1.heap.size w1 (v3.alloc (.cells (regCells r) 24)) := hm.alloc hm.size _
  have HN12 := Lib.hid (HN1'.out.alloc HN1'.out.size (.cells (regCells r) 24))
  have HN22 := Lib.hid (HN2'.out.alloc HN2'.out.size (.cells (regCells r) 24))
  have HN32 := Lib.hid (HN3'.out.alloc HN3'.out.size (.cells (regCells r) 24))
  have HN42 : Hid (Below (v3.alloc (.cells (regCells r) 24)).heap.size (v3.alloc (.cells (regCells r) 24)) (v3.alloc (.cells (regCells r) 24))) := Lib.hid (Below.refl _ _)
  have HQ4 : Hid (∀ wx, Below (v3.alloc (.cells (regCells r) 24)).heap.size (v3.alloc (.cells (regCells r) 24)) wx → row? wx v3.heap.size = some (regCells r) ∧ v3.heap.size < wx.heap.size ∧ ∀ i u, (regCells r)[i]? = some u → wx.cell? ⟨v3.heap.size, i, none⟩ = some u) := Lib.hid fun wx h => by
    have e : wx.heap[v3.heap.size]? = _ := (h.block _ (by simp)).trans (blk_new v3 _)
    exact ⟨row?_of e, blk_lt e, fun i u hu => (blk_cell e i).trans hu⟩
  clear d0 d1
  obtain ⟨d0, -, d1⟩ := HQ0.out _ hm
  obtain ⟨d2, d3, -⟩ := HQ2.out _ HN2'.out
  have HM2 := Lib.hid hm'
  clear hm hm' hb HM HN1 HN1' HN2 HN2' HN3 HN3'
  have HM := HM2
  clear HM2
  have HN1 := HN12
  have HN2 := HN22
  have HN3 := HN32
  have HN4 := HN42
  clear HN12 HN22 HN32 HN42
  go_wp2_with fail
  refine (HA4.out _).mono ?_
  rintro e v4 ⟨rfl, hb⟩
  have hm := HM.out.trans (hb.mono HM.out.size)
  have HN1' := Lib.hid (HN1.out.trans (hb.mono HN1.out.size))
  have HN2' := Lib.hid (HN2.out.trans (hb.mono HN2.out.size))
  have HN3' := Lib.hid (HN3.out.trans (hb.mono HN3.out.size))
  have HN4' := Lib.hid (HN4.out.trans (hb.mono HN4.out.size))
  have hm' : Below w1.heap.size w1 (v4.alloc (.cells (regCells (r.set ia n)) 24)) := hm.alloc hm.size _
  have HN12 := Lib.hid (HN1'.out.alloc HN1'.out.size (.cells (regCells (r.set ia n)) 24))
  have HN22 := Lib.hid (HN2'.out.alloc HN2'.out.size (.cells (regCells (r.set ia n)) 24))
  have HN32 := Lib.hid (HN3'.out.alloc HN3'.out.size (.cells (regCells (r.set ia n)) 24))
  have HN42 := Lib.hid (HN4'.out.alloc HN4'.out.size (.cells (regCells (r.set ia n)) 24))
  have HN52 : Hid (Below (v4.alloc (.cells (regCells (r.set ia n)) 24)).heap.size (v4.alloc (.cells (regCells (r.set ia n)) 24)) (v4.alloc (.cells (regCells (r.set ia n)) 24))) := Lib.hid (Below.refl _ _)
  have HQ5 : Hid (∀ wx, Below (v4.alloc (.cells (regCells (r.set ia n)) 24)).heap.size (v4.alloc (.cells (regCells (r.set ia n)) 24)) wx → row? wx v4.heap.size = some (regCells (r.set ia n)) ∧ v4.heap.size < wx.heap.size ∧ ∀ i u, (regCells (r.set ia n))[i]? = some u → wx.cell? ⟨v4.heap.size, i, none⟩ = some u) := Lib.hid fun wx h => by
    have e : wx.heap[v4.heap.size]? = _ := (h.block _ (by simp)).trans (blk_new v4 _)
    exact ⟨row?_of e, blk_lt e, fun i u hu => (blk_cell e i).trans hu⟩
  clear d0 d1 d2 d3
  obtain ⟨d0, -, d1⟩ := HQ0.out _ hm
  have HM2 := Lib.hid hm'
  clear hm hm' hb HM HN1 HN1' HN2 HN2' HN3 HN3' HN4 HN4'
  have HM := HM2
  clear HM2
  have HN1 := HN12
  have HN2 := HN22
  have HN3 := HN32
  have HN4 := HN42
  have HN5 := HN52
  clear HN12 HN22 HN32 HN42 HN52
  go_wp2_with fail
  refine (HA5.out _).mono ?_
  rintro e v5 ⟨rfl, hb⟩
  have hm := HM.out.trans (hb.mono HM.out.size)
  have HN1' := Lib.hid (HN1.out.trans (hb.mono HN1.out.size))
  have HN2' := Lib.hid (HN2.out.trans (hb.mono HN2.out.size))
  have HN3' := Lib.hid (HN3.out.trans (hb.mono HN3.out.size))
  have HN4' := Lib.hid (HN4.out.trans (hb.mono HN4.out.size))
  have HN5' := Lib.hid (HN5.out.trans (hb.mono HN5.out.size))
  have hm' : Below w1.heap.size w1 (v5.alloc (.cells (regCells zr) 24)) := hm.alloc hm.size _
  have HN12 := Lib.hid (HN1'.out.alloc HN1'.out.size (.cells (regCells zr) 24))
  have HN22 := Lib.hid (HN2'.out.alloc HN2'.out.size (.cells (regCells zr) 24))
  have HN32 := Lib.hid (HN3'.out.alloc HN3'.out.size (.cells (regCells zr) 24))
  have HN42 := Lib.hid (HN4'.out.alloc HN4'.out.size (.cells (regCells zr) 24))
  have HN52 := Lib.hid (HN5'.out.alloc HN5'.out.size (.cells (regCells zr) 24))
  clear d0 d1
  obtain ⟨d0, -, d1⟩ := HQ0.out _ hm
  have HM2 := Lib.hid hm'
  clear hm hm' hb HM HN1 HN1' HN2 HN2' HN3 HN3' HN4 HN4' HN5 HN5'
  have HM := HM2
  clear HM2
  have HN1 := HN12
  have HN2 := HN22
  have HN3 := HN32
  have HN4 := HN42
  have HN5 := HN52
  clear HN12 HN22 HN32 HN42 HN52
  have HK : Hid (∀ wx, Below (v5.alloc (.cells (regCells zr) 24)).heap.size (v5.alloc (.cells (regCells zr) 24)) wx → Below (v5.alloc (.cells (regCells zr) 24)).heap.size (v5.alloc (.cells (regCells zr) 24)) wx ∧ row? wx w.heap.size = some (regCells r) ∧ wx.cell? ⟨w.heap.size, ib, none⟩ = some (.int .u32 xb) ∧ wx.cell? ⟨v0.heap.size, ia, none⟩ = some (.int .u32 xb) ∧ wx.cell? ⟨v1.heap.size, ia, none⟩ = some (.int .u32 n) ∧ row? wx v1.heap.size = some (regCells (r.set ia n)) ∧ row? wx v2.heap.size = some (regCells (r.set ia n)) ∧ row? wx v3.heap.size = some (regCells r) ∧ row? wx v4.heap.size = some (regCells (r.set ia n))) := Lib.hid fun wx h => by
    obtain ⟨e0, e1, -⟩ := HQ0.out _ (HM.out.trans (h.mono HM.out.size))
    obtain ⟨-, -, g1⟩ := HQ1.out _ (HN1.out.trans (h.mono HN1.out.size))
    obtain ⟨e2, -, g2⟩ := HQ2.out _ (HN2.out.trans (h.mono HN2.out.size))
    obtain ⟨e3, -, -⟩ := HQ3.out _ (HN3.out.trans (h.mono HN3.out.size))
    obtain ⟨e4, -, -⟩ := HQ4.out _ (HN4.out.trans (h.mono HN4.out.size))
    obtain ⟨e5, -, -⟩ := HQ5.out _ (HN5.out.trans (h.mono HN5.out.size))
    exact ⟨h, e0, e1, g1 ia _ HG1.out, g2 ia _ HG2.out, e2, e3, e4, e5⟩
  have HSR : Hid (∀ wx (x : List Int), x.length = 16 → Below (v5.alloc (.cells (regCells zr) 24)).heap.size (v5.alloc (.cells (regCells zr) 24)) wx → Calls Try.prog 12 #[.agg (regCells x), .agg (regCells x)] wx fun e w' => e = .returned (.bool true) ∧ Below (v5.alloc (.cells (regCells zr) 24)).heap.size (v5.alloc (.cells (regCells zr) 24)) w') := Lib.hid fun wx x hx h => (regs_same x x hx hx wx).mono fun e w' ⟨he, hb⟩ => ⟨by rw [he, decide_eq_true rfl], h.trans (hb.mono h.size)⟩
  have HE : Hid (∀ wx, Below (v5.alloc (.cells (regCells zr) 24)).heap.size (v5.alloc (.cells (regCells zr) 24)) wx → Below w.heap.size w wx) := Lib.hid fun wx h => HB1.out.trans ((HM.out.trans (h.mono HM.out.size)).mono HB1.out.size)
  have hbd : Below (v5.alloc (.cells (regCells zr) 24)).heap.size (v5.alloc (.cells (regCells zr) 24)) (v5.alloc (.cells (regCells zr) 24)).drew := (Below.refl _ _).drew
  clear d0 d1 HQ0 HQ1 HQ2 HQ3 HQ4 HQ5 HN1 HN2 HN3 HN4 HN5
  go_wp2_with fail
  refine wp_region_noPanic ?_
  refine wp_region_held_drew (S := (fun wx => Below (v5.alloc (.cells (regCells zr) 24)).heap.size (v5.alloc (.cells (regCells zr) 24)) wx ∧ row? wx w.heap.size = some (regCells r) ∧ wx.cell? ⟨w.heap.size, ib, none⟩ = some (.int .u32 xb) ∧ wx.cell? ⟨v0.heap.size, ia, none⟩ = some (.int .u32 xb) ∧ wx.cell? ⟨v1.heap.size, ia, none⟩ = some (.int .u32 n) ∧ row? wx v1.heap.size = some (regCells (r.set ia n)) ∧ row? wx v2.heap.size = some (regCells (r.set ia n)) ∧ row? wx v3.heap.size = some (regCells r) ∧ row? wx v4.heap.size = some (regCells (r.set ia n)))) (by kernel_rfl) ?_ (fun hHeld => ?_)
  · exact HK.out _ (by assumption)
  refine heldTake 0 (v := ?_) (by kernel_rfl) (by kernel_rfl) (by kernel_rfl) (by kernel_rfl) (fun _ _ _ _ _ h => h) (by assumption) (fun oi ho => by (simp only [List.getElem?_toArray, List.getElem?_cons_zero, List.getElem?_cons_succ, Option.some.injEq] at ho; subst ho); rfl) (fun oi ho => ?_) (fun oi ho => ?_)
  rotate_left
  · ((simp only [List.getElem?_toArray, List.getElem?_cons_zero, List.getElem?_cons_succ, Option.some.injEq] at ho; subst ho); intro wx hSx; (try dsimp only at hSx); go_simp; all_goals (with_reducible rfl))
  (simp only [List.getElem?_toArray, List.getElem?_cons_zero, List.getElem?_cons_succ, Option.some.injEq] at ho; subst ho)
  try simp only [Act.put, List.setIfInBounds_toArray, List.set_cons_zero, List.set_cons_succ]
  refine heldTake 1 (v := ?_) (by kernel_rfl) (by kernel_rfl) (by kernel_rfl) (by kernel_rfl) (fun _ _ _ _ _ h => h) (by assumption) (fun oi ho => by (simp only [List.getElem?_toArray, List.getElem?_cons_zero, List.getElem?_cons_succ, Option.some.injEq] at ho; subst ho); rfl) (fun oi ho => ?_) (fun oi ho => ?_)
  rotate_left
  · ((simp only [List.getElem?_toArray, List.getElem?_cons_zero, List.getElem?_cons_succ, Option.some.injEq] at ho; subst ho); intro wx hSx; (try dsimp only at hSx); go_simp; all_goals (with_reducible rfl))
  (simp only [List.getElem?_toArray, List.getElem?_cons_zero, List.getElem?_cons_succ, Option.some.injEq] at ho; subst ho)
  try simp only [Act.put, List.setIfInBounds_toArray, List.set_cons_zero, List.set_cons_succ]
  refine heldTake 2 (v := ?_) (by kernel_rfl) (by kernel_rfl) (by kernel_rfl) (by kernel_rfl) (fun _ _ _ _ _ h => h) (by assumption) (fun oi ho => by (simp only [List.getElem?_toArray, List.getElem?_cons_zero, List.getElem?_cons_succ, Option.some.injEq] at ho; subst ho); rfl) (fun oi ho => ?_) (fun oi ho => ?_)
  rotate_left
  · ((simp only [List.getElem?_toArray, List.getElem?_cons_zero, List.getElem?_cons_succ, Option.some.injEq] at ho; subst ho); intro wx hSx; (try dsimp only at hSx); go_simp; all_goals (with_reducible rfl))
  (simp only [List.getElem?_toArray, List.getElem?_cons_zero, List.getElem?_cons_succ, Option.some.injEq] at ho; subst ho)
  try simp only [Act.put, List.setIfInBounds_toArray, List.set_cons_zero, List.set_cons_succ]
  refine heldTake 3 (v := ?_) (by kernel_rfl) (by kernel_rfl) (by kernel_rfl) (by kernel_rfl) (fun _ _ _ _ _ h => h) (by assumption) (fun oi ho => by (simp only [List.getElem?_toArray, List.getElem?_cons_zero, List.getElem?_cons_succ, Option.some.injEq] at ho; subst ho); rfl) (fun oi ho => ?_) (fun oi ho => ?_)
  rotate_left
  · ((simp only [List.getElem?_toArray, List.getElem?_cons_zero, List.getElem?_cons_succ, Option.some.injEq] at ho; subst ho); intro wx hSx; (try dsimp only at hSx); go_simp; all_goals (with_reducible rfl))
  (simp only [List.getElem?_toArray, List.getElem?_cons_zero, List.getElem?_cons_succ, Option.some.injEq] at ho; subst ho)
  try simp only [Act.put, List.setIfInBounds_toArray, List.set_cons_zero, List.set_cons_succ]
  refine heldTake 4 (v := ?_) (by kernel_rfl) (by kernel_rfl) (by kernel_rfl) (by kernel_rfl) (fun _ _ _ _ _ h => h) (by assumption) (fun oi ho => by (simp only [List.getElem?_toArray, List.getElem?_cons_zero, List.getElem?_cons_succ, Option.some.injEq] at ho; subst ho); rfl) (fun oi ho => ?_) (fun oi ho => ?_)
  rotate_left
  · ((simp only [List.getElem?_toArray, List.getElem?_cons_zero, List.getElem?_cons_succ, Option.some.injEq] at ho; subst ho); intro wx hSx; (try dsimp only at hSx); go_simp; all_goals (with_reducible rfl))
  (simp only [List.getElem?_toArray, List.getElem?_cons_zero, List.getElem?_cons_succ, Option.some.injEq] at ho; subst ho)
  try simp only [Act.put, List.setIfInBounds_toArray, List.set_cons_zero, List.set_cons_succ]
  refine heldTake 5 (v := ?_) (by kernel_rfl) (by kernel_rfl) (by kernel_rfl) (by kernel_rfl) (fun _ _ _ _ _ h => h) (by assumption) (fun oi ho => by (simp only [List.getElem?_toArray, List.getElem?_cons_zero, List.getElem?_cons_succ, Option.some.injEq] at ho; subst ho); rfl) (fun oi ho => ?_) (fun oi ho => ?_)
  rotate_left
  · ((simp only [List.getElem?_toArray, List.getElem?_cons_zero, List.getElem?_cons_succ, Option.some.injEq] at ho; subst ho); intro wx hSx; (try dsimp only at hSx); go_simp; all_goals (with_reducible rfl))
  (simp only [List.getElem?_toArray, List.getElem?_cons_zero, List.getElem?_cons_succ, Option.some.injEq] at ho; subst ho)
  try simp only [Act.put, List.setIfInBounds_toArray, List.set_cons_zero, List.set_cons_succ]
  refine heldTake 6 (v := ?_) (by kernel_rfl) (by kernel_rfl) (by kernel_rfl) (by kernel_rfl) (fun _ _ _ _ _ h => h) (by assumption) (fun oi ho => by (simp only [List.getElem?_toArray, List.getElem?_cons_zero, List.getElem?_cons_succ, Option.some.injEq] at ho; subst ho); rfl) (fun oi ho => ?_) (fun oi ho => ?_)
  rotate_left
  · ((simp only [List.getElem?_toArray, List.getElem?_cons_zero, List.getElem?_cons_succ, Option.some.injEq] at ho; subst ho); intro wx hSx; (try dsimp only at hSx); go_simp; all_goals (with_reducible rfl))
  (simp only [List.getElem?_toArray, List.getElem?_cons_zero, List.getElem?_cons_succ, Option.some.injEq] at ho; subst ho)
  try simp only [Act.put, List.setIfInBounds_toArray, List.set_cons_zero, List.set_cons_succ]
  refine heldTake 7 (v := ?_) (by kernel_rfl) (by kernel_rfl) (by kernel_rfl) (by kernel_rfl) (fun _ _ _ _ _ h => h) (by assumption) (fun oi ho => by (simp only [List.getElem?_toArray, List.getElem?_cons_zero, List.getElem?_cons_succ, Option.some.injEq] at ho; subst ho); rfl) (fun oi ho => ?_) (fun oi ho => ?_)
  rotate_left
  · ((simp only [List.getElem?_toArray, List.getElem?_cons_zero, List.getElem?_cons_succ, Option.some.injEq] at ho; subst ho); intro wx hSx; (try dsimp only at hSx); go_simp; all_goals (with_reducible rfl))
  (simp only [List.getElem?_toArray, List.getElem?_cons_zero, List.getElem?_cons_succ, Option.some.injEq] at ho; subst ho)
  try simp only [Act.put, List.setIfInBounds_toArray, List.set_cons_zero, List.set_cons_succ]
  refine heldTake 8 (v := ?_) (by kernel_rfl) (by kernel_rfl) (by kernel_rfl) (by kernel_rfl) (fun _ _ _ _ _ h => h) (by assumption) (fun oi ho => by (simp only [List.getElem?_toArray, List.getElem?_cons_zero, List.getElem?_cons_succ, Option.some.injEq] at ho; subst ho); rfl) (fun oi ho => ?_) (fun oi ho => ?_)
  rotate_left
  · ((simp only [List.getElem?_toArray, List.getElem?_cons_zero, List.getElem?_cons_succ, Option.some.injEq] at ho; subst ho); intro wx hSx; (try dsimp only at hSx); go_simp; all_goals (with_reducible rfl))
  (simp only [List.getElem?_toArray, List.getElem?_cons_zero, List.getElem?_cons_succ, Option.some.injEq] at ho; subst ho)
  try simp only [Act.put, List.setIfInBounds_toArray, List.set_cons_zero, List.set_cons_succ]
  refine heldTake 9 (v := ?_) (by kernel_rfl) (by kernel_rfl) (by kernel_rfl) (by kernel_rfl) (fun _ _ _ _ _ h => h) (by assumption) (fun oi ho => by (simp only [List.getElem?_toArray, List.getElem?_cons_zero, List.getElem?_cons_succ, Option.some.injEq] at ho; subst ho); rfl) (fun oi ho => ?_) (fun oi ho => ?_)
  rotate_left
  · ((simp only [List.getElem?_toArray, List.getElem?_cons_zero, List.getElem?_cons_succ, Option.some.injEq] at ho; subst ho); intro wx hSx; (try dsimp only at hSx); go_simp; all_goals (with_reducible rfl))
  (simp only [List.getElem?_toArray, List.getElem?_cons_zero, List.getElem?_cons_succ, Option.some.injEq] at ho; subst ho)
  try simp only [Act.put, List.setIfInBounds_toArray, List.set_cons_zero, List.set_cons_succ]
  refine heldTake 10 (v := ?_) (by kernel_rfl) (by kernel_rfl) (by kernel_rfl) (by kernel_rfl) (fun _ _ _ _ _ h => h) (by assumption) (fun oi ho => by (simp only [List.getElem?_toArray, List.getElem?_cons_zero, List.getElem?_cons_succ, Option.some.injEq] at ho; subst ho); rfl) (fun oi ho => ?_) (fun oi ho => ?_)
  rotate_left
  · ((simp only [List.getElem?_toArray, List.getElem?_cons_zero, List.getElem?_cons_succ, Option.some.injEq] at ho; subst ho); intro wx hSx; (try dsimp only at hSx); go_simp; all_goals (with_reducible rfl))
  (simp only [List.getElem?_toArray, List.getElem?_cons_zero, List.getElem?_cons_succ, Option.some.injEq] at ho; subst ho)
  try simp only [Act.put, List.setIfInBounds_toArray, List.set_cons_zero, List.set_cons_succ]
  refine heldTake 11 (v := ?_) (by kernel_rfl) (by kernel_rfl) (by kernel_rfl) (by kernel_rfl) (fun _ _ _ _ _ h => h) (by assumption) (fun oi ho => by (simp only [List.getElem?_toArray, List.getElem?_cons_zero, List.getElem?_cons_succ, Option.some.injEq] at ho; subst ho); rfl) (fun oi ho => ?_) (fun oi ho => ?_)
  rotate_left
  · ((simp only [List.getElem?_toArray, List.getElem?_cons_zero, List.getElem?_cons_succ, Option.some.injEq] at ho; subst ho); intro wx hSx; (try dsimp only at hSx); go_simp; all_goals (with_reducible rfl))
  (simp only [List.getElem?_toArray, List.getElem?_cons_zero, List.getElem?_cons_succ, Option.some.injEq] at ho; subst ho)
  try simp only [Act.put, List.setIfInBounds_toArray, List.set_cons_zero, List.set_cons_succ]
  refine heldTake 12 (v := ?_) (by kernel_rfl) (by kernel_rfl) (by kernel_rfl) (by kernel_rfl) (fun _ _ _ _ _ h => h) (by assumption) (fun oi ho => by (simp only [List.getElem?_toArray, List.getElem?_cons_zero, List.getElem?_cons_succ, Option.some.injEq] at ho; subst ho); rfl) (fun oi ho => ?_) (fun oi ho => ?_)
  rotate_left
  · ((simp only [List.getElem?_toArray, List.getElem?_cons_zero, List.getElem?_cons_succ, Option.some.injEq] at ho; subst ho); intro wx hSx; (try dsimp only at hSx); go_simp; all_goals (with_reducible rfl))
  (simp only [List.getElem?_toArray, List.getElem?_cons_zero, List.getElem?_cons_succ, Option.some.injEq] at ho; subst ho)
  try simp only [Act.put, List.setIfInBounds_toArray, List.set_cons_zero, List.set_cons_succ]
  refine heldTake 13 (v := ?_) (by kernel_rfl) (by kernel_rfl) (by kernel_rfl) (by kernel_rfl) (fun _ _ _ _ _ h => h) (by assumption) (fun oi ho => by (simp only [List.getElem?_toArray, List.getElem?_cons_zero, List.getElem?_cons_succ, Option.some.injEq] at ho; subst ho); rfl) (fun oi ho => ?_) (fun oi ho => ?_)
  rotate_left
  · ((simp only [List.getElem?_toArray, List.getElem?_cons_zero, List.getElem?_cons_succ, Option.some.injEq] at ho; subst ho); intro wx hSx; (try dsimp only at hSx); go_simp; all_goals (with_reducible rfl))
  (simp only [List.getElem?_toArray, List.getElem?_cons_zero, List.getElem?_cons_succ, Option.some.injEq] at ho; subst ho)
  try simp only [Act.put, List.setIfInBounds_toArray, List.set_cons_zero, List.set_cons_succ]
  refine heldTake 14 (v := ?_) (by kernel_rfl) (by kernel_rfl) (by kernel_rfl) (by kernel_rfl) (fun _ _ _ _ _ h => h) (by assumption) (fun oi ho => by (simp only [List.getElem?_toArray, List.getElem?_cons_zero, List.getElem?_cons_succ, Option.some.injEq] at ho; subst ho); rfl) (fun oi ho => ?_) (fun oi ho => ?_)
  rotate_left
  · ((simp only [List.getElem?_toArray, List.getElem?_cons_zero, List.getElem?_cons_succ, Option.some.injEq] at ho; subst ho); intro wx hSx; (try dsimp only at hSx); go_simp; all_goals (with_reducible rfl))
  (simp only [List.getElem?_toArray, List.getElem?_cons_zero, List.getElem?_cons_succ, Option.some.injEq] at ho; subst ho)
  try simp only [Act.put, List.setIfInBounds_toArray, List.set_cons_zero, List.set_cons_succ]
  refine heldTake 15 (v := ?_) (by kernel_rfl) (by kernel_rfl) (by kernel_rfl) (by kernel_rfl) (fun _ _ _ _ _ h => h) (by assumption) (fun oi ho => by (simp only [List.getElem?_toArray, List.getElem?_cons_zero, List.getElem?_cons_succ, Option.some.injEq] at ho; subst ho); rfl) (fun oi ho => ?_) (fun oi ho => ?_)
  rotate_left
  · ((simp only [List.getElem?_toArray, List.getElem?_cons_zero, List.getElem?_cons_succ, Option.some.injEq] at ho; subst ho); intro wx hSx; (try dsimp only at hSx); go_simp; all_goals (with_reducible rfl))
  (simp only [List.getElem?_toArray, List.getElem?_cons_zero, List.getElem?_cons_succ, Option.some.injEq] at ho; subst ho)
  try simp only [Act.put, List.setIfInBounds_toArray, List.set_cons_zero, List.set_cons_succ]
  refine heldTake 16 (v := ?_) (by kernel_rfl) (by kernel_rfl) (by kernel_rfl) (by kernel_rfl) (fun _ _ _ _ _ h => h) (by assumption) (fun oi ho => by (simp only [List.getElem?_toArray, List.getElem?_cons_zero, List.getElem?_cons_succ, Option.some.injEq] at ho; subst ho); rfl) (fun oi ho => ?_) (fun oi ho => ?_)
  rotate_left
  · ((simp only [List.getElem?_toArray, List.getElem?_cons_zero, List.getElem?_cons_succ, Option.some.injEq] at ho; subst ho); intro wx hSx; (try dsimp only at hSx); go_simp; all_goals (with_reducible rfl))
  (simp only [List.getElem?_toArray, List.getElem?_cons_zero, List.getElem?_cons_succ, Option.some.injEq] at ho; subst ho)
  try simp only [Act.put, List.setIfInBounds_toArray, List.set_cons_zero, List.set_cons_succ]
  refine heldTake 17 (v := ?_) (by kernel_rfl) (by kernel_rfl) (by kernel_rfl) (by kernel_rfl) (fun _ _ _ _ _ h => h) (by assumption) (fun oi ho => by (simp only [List.getElem?_toArray, List.getElem?_cons_zero, List.getElem?_cons_succ, Option.some.injEq] at ho; subst ho); rfl) (fun oi ho => ?_) (fun oi ho => ?_)
  rotate_left
  · ((simp only [List.getElem?_toArray, List.getElem?_cons_zero, List.getElem?_cons_succ, Option.some.injEq] at ho; subst ho); intro wx hSx; (try dsimp only at hSx); go_simp; all_goals (with_reducible rfl))
  (simp only [List.getElem?_toArray, List.getElem?_cons_zero, List.getElem?_cons_succ, Option.some.injEq] at ho; subst ho)
  try simp only [Act.put, List.setIfInBounds_toArray, List.set_cons_zero, List.set_cons_succ]
  refine heldTake 18 (v := ?_) (by kernel_rfl) (by kernel_rfl) (by kernel_rfl) (by kernel_rfl) (fun _ _ _ _ _ h => h) (by assumption) (fun oi ho => by (simp only [List.getElem?_toArray, List.getElem?_cons_zero, List.getElem?_cons_succ, Option.some.injEq] at ho; subst ho); rfl) (fun oi ho => ?_) (fun oi ho => ?_)
  rotate_left
  · ((simp only [List.getElem?_toArray, List.getElem?_cons_zero, List.getElem?_cons_succ, Option.some.injEq] at ho; subst ho); intro wx hSx; (try dsimp only at hSx); go_simp; all_goals (with_reducible rfl))
  (simp only [List.getElem?_toArray, List.getElem?_cons_zero, List.getElem?_cons_succ, Option.some.injEq] at ho; subst ho)
  try simp only [Act.put, List.setIfInBounds_toArray, List.set_cons_zero, List.set_cons_succ]
  refine heldTake 19 (v := ?_) (by kernel_rfl) (by kernel_rfl) (by kernel_rfl) (by kernel_rfl) (fun _ _ _ _ _ h => h) (by assumption) (fun oi ho => by (simp only [List.getElem?_toArray, List.getElem?_cons_zero, List.getElem?_cons_succ, Option.some.injEq] at ho; subst ho); rfl) (fun oi ho => ?_) (fun oi ho => ?_)
  rotate_left
  · ((simp only [List.getElem?_toArray, List.getElem?_cons_zero, List.getElem?_cons_succ, Option.some.injEq] at ho; subst ho); intro wx hSx; (try dsimp only at hSx); go_simp; all_goals (with_reducible rfl))
  (simp only [List.getElem?_toArray, List.getElem?_cons_zero, List.getElem?_cons_succ, Option.some.injEq] at ho; subst ho)
  try simp only [Act.put, List.setIfInBounds_toArray, List.set_cons_zero, List.set_cons_succ]
  refine heldTake 20 (v := ?_) (by kernel_rfl) (by kernel_rfl) (by kernel_rfl) (by kernel_rfl) (fun _ _ _ _ _ h => h) (by assumption) (fun oi ho => by (simp only [List.getElem?_toArray, List.getElem?_cons_zero, List.getElem?_cons_succ, Option.some.injEq] at ho; subst ho); rfl) (fun oi ho => ?_) (fun oi ho => ?_)
  rotate_left
  · ((simp only [List.getElem?_toArray, List.getElem?_cons_zero, List.getElem?_cons_succ, Option.some.injEq] at ho; subst ho); intro wx hSx; (try dsimp only at hSx); go_simp; all_goals (with_reducible rfl))
  (simp only [List.getElem?_toArray, List.getElem?_cons_zero, List.getElem?_cons_succ, Option.some.injEq] at ho; subst ho)
  try simp only [Act.put, List.setIfInBounds_toArray, List.set_cons_zero, List.set_cons_succ]
  refine heldTake 21 (v := ?_) (by kernel_rfl) (by kernel_rfl) (by kernel_rfl) (by kernel_rfl) (fun _ _ _ _ _ h => h) (by assumption) (fun oi ho => by (simp only [List.getElem?_toArray, List.getElem?_cons_zero, List.getElem?_cons_succ, Option.some.injEq] at ho; subst ho); rfl) (fun oi ho => ?_) (fun oi ho => ?_)
  rotate_left
  · ((simp only [List.getElem?_toArray, List.getElem?_cons_zero, List.getElem?_cons_succ, Option.some.injEq] at ho; subst ho); intro wx hSx; (try dsimp only at hSx); go_simp; all_goals (with_reducible rfl))
  (simp only [List.getElem?_toArray, List.getElem?_cons_zero, List.getElem?_cons_succ, Option.some.injEq] at ho; subst ho)
  try simp only [Act.put, List.setIfInBounds_toArray, List.set_cons_zero, List.set_cons_succ]
  refine heldTake 22 (v := ?_) (by kernel_rfl) (by kernel_rfl) (by kernel_rfl) (by kernel_rfl) (fun _ _ _ _ _ h => h) (by assumption) (fun oi ho => by (simp only [List.getElem?_toArray, List.getElem?_cons_zero, List.getElem?_cons_succ, Option.some.injEq] at ho; subst ho); rfl) (fun oi ho => ?_) (fun oi ho => ?_)
  rotate_left
  · ((simp only [List.getElem?_toArray, List.getElem?_cons_zero, List.getElem?_cons_succ, Option.some.injEq] at ho; subst ho); intro wx hSx; (try dsimp only at hSx); go_simp; all_goals (with_reducible rfl))
  (simp only [List.getElem?_toArray, List.getElem?_cons_zero, List.getElem?_cons_succ, Option.some.injEq] at ho; subst ho)
  try simp only [Act.put, List.setIfInBounds_toArray, List.set_cons_zero, List.set_cons_succ]
  refine heldTake 23 (v := ?_) (by kernel_rfl) (by kernel_rfl) (by kernel_rfl) (by kernel_rfl) (fun _ _ _ _ _ h => h) (by assumption) (fun oi ho => by (simp only [List.getElem?_toArray, List.getElem?_cons_zero, List.getElem?_cons_succ, Option.some.injEq] at ho; subst ho); rfl) (fun oi ho => ?_) (fun oi ho => ?_)
  rotate_left
  · ((simp only [List.getElem?_toArray, List.getElem?_cons_zero, List.getElem?_cons_succ, Option.some.injEq] at ho; subst ho); intro wx hSx; (try dsimp only at hSx); go_simp; all_goals (with_reducible rfl))
  (simp only [List.getElem?_toArray, List.getElem?_cons_zero, List.getElem?_cons_succ, Option.some.injEq] at ho; subst ho)
  try simp only [Act.put, List.setIfInBounds_toArray, List.set_cons_zero, List.set_cons_succ]
  refine heldTake 24 (v := ?_) (by kernel_rfl) (by kernel_rfl) (by kernel_rfl) (by kernel_rfl) (fun _ _ _ _ _ h => h) (by assumption) (fun oi ho => by (simp only [List.getElem?_toArray, List.getElem?_cons_zero, List.getElem?_cons_succ, Option.some.injEq] at ho; subst ho); rfl) (fun oi ho => ?_) (fun oi ho => ?_)
  rotate_left
  · ((simp only [List.getElem?_toArray, List.getElem?_cons_zero, List.getElem?_cons_succ, Option.some.injEq] at ho; subst ho); intro wx hSx; (try dsimp only at hSx); go_simp; all_goals (with_reducible rfl))
  (simp only [List.getElem?_toArray, List.getElem?_cons_zero, List.getElem?_cons_succ, Option.some.injEq] at ho; subst ho)
  try simp only [Act.put, List.setIfInBounds_toArray, List.set_cons_zero, List.set_cons_succ]
  refine heldTake 25 (v := ?_) (by kernel_rfl) (by kernel_rfl) (by kernel_rfl) (by kernel_rfl) (fun _ _ _ _ _ h => h) (by assumption) (fun oi ho => by (simp only [List.getElem?_toArray, List.getElem?_cons_zero, List.getElem?_cons_succ, Option.some.injEq] at ho; subst ho); rfl) (fun oi ho => ?_) (fun oi ho => ?_)
  rotate_left
  · ((simp only [List.getElem?_toArray, List.getElem?_cons_zero, List.getElem?_cons_succ, Option.some.injEq] at ho; subst ho); intro wx hSx; (try dsimp only at hSx); go_simp; all_goals (with_reducible rfl))
  (simp only [List.getElem?_toArray, List.getElem?_cons_zero, List.getElem?_cons_succ, Option.some.injEq] at ho; subst ho)
  try simp only [Act.put, List.setIfInBounds_toArray, List.set_cons_zero, List.set_cons_succ]
  refine heldTake 26 (v := ?_) (by kernel_rfl) (by kernel_rfl) (by kernel_rfl) (by kernel_rfl) (fun _ _ _ _ _ h => h) (by assumption) (fun oi ho => by (simp only [List.getElem?_toArray, List.getElem?_cons_zero, List.getElem?_cons_succ, Option.some.injEq] at ho; subst ho); rfl) (fun oi ho => ?_) (fun oi ho => ?_)
  rotate_left
  · ((simp only [List.getElem?_toArray, List.getElem?_cons_zero, List.getElem?_cons_succ, Option.some.injEq] at ho; subst ho); intro wx hSx; (try dsimp only at hSx); go_simp; all_goals (with_reducible rfl))
  (simp only [List.getElem?_toArray, List.getElem?_cons_zero, List.getElem?_cons_succ, Option.some.injEq] at ho; subst ho)
  try simp only [Act.put, List.setIfInBounds_toArray, List.set_cons_zero, List.set_cons_succ]
  refine heldTake 27 (v := ?_) (by kernel_rfl) (by kernel_rfl) (by kernel_rfl) (by kernel_rfl) (fun _ _ _ _ _ h => h) (by assumption) (fun oi ho => by (simp only [List.getElem?_toArray, List.getElem?_cons_zero, List.getElem?_cons_succ, Option.some.injEq] at ho; subst ho); rfl) (fun oi ho => ?_) (fun oi ho => ?_)
  rotate_left
  · ((simp only [List.getElem?_toArray, List.getElem?_cons_zero, List.getElem?_cons_succ, Option.some.injEq] at ho; subst ho); intro wx hSx; (try dsimp only at hSx); go_simp; all_goals (with_reducible rfl))
  (simp only [List.getElem?_toArray, List.getElem?_cons_zero, List.getElem?_cons_succ, Option.some.injEq] at ho; subst ho)
  try simp only [Act.put, List.setIfInBounds_toArray, List.set_cons_zero, List.set_cons_succ]
  refine heldTake 28 (v := ?_) (by kernel_rfl) (by kernel_rfl) (by kernel_rfl) (by kernel_rfl) (fun _ _ _ _ _ h => h) (by assumption) (fun oi ho => by (simp only [List.getElem?_toArray, List.getElem?_cons_zero, List.getElem?_cons_succ, Option.some.injEq] at ho; subst ho); rfl) (fun oi ho => ?_) (fun oi ho => ?_)
  rotate_left
  · ((simp only [List.getElem?_toArray, List.getElem?_cons_zero, List.getElem?_cons_succ, Option.some.injEq] at ho; subst ho); intro wx hSx; (try dsimp only at hSx); go_simp; all_goals (with_reducible rfl))
  (simp only [List.getElem?_toArray, List.getElem?_cons_zero, List.getElem?_cons_succ, Option.some.injEq] at ho; subst ho)
  try simp only [Act.put, List.setIfInBounds_toArray, List.set_cons_zero, List.set_cons_succ]
  refine heldTake 29 (v := ?_) (by kernel_rfl) (by kernel_rfl) (by kernel_rfl) (by kernel_rfl) (fun _ _ _ _ _ h => h) (by assumption) (fun oi ho => by (simp only [List.getElem?_toArray, List.getElem?_cons_zero, List.getElem?_cons_succ, Option.some.injEq] at ho; subst ho); rfl) (fun oi ho => ?_) (fun oi ho => ?_)
  rotate_left
  · ((simp only [List.getElem?_toArray, List.getElem?_cons_zero, List.getElem?_cons_succ, Option.some.injEq] at ho; subst ho); intro wx hSx; (try dsimp only at hSx); go_simp; all_goals (with_reducible rfl))
  (simp only [List.getElem?_toArray, List.getElem?_cons_zero, List.getElem?_cons_succ, Option.some.injEq] at ho; subst ho)
  try simp only [Act.put, List.setIfInBounds_toArray, List.set_cons_zero, List.set_cons_succ]
  refine heldTake 30 (v := ?_) (by kernel_rfl) (by kernel_rfl) (by kernel_rfl) (by kernel_rfl) (fun _ _ _ _ _ h => h) (by assumption) (fun oi ho => by (simp only [List.getElem?_toArray, List.getElem?_cons_zero, List.getElem?_cons_succ, Option.some.injEq] at ho; subst ho); rfl) (fun oi ho => ?_) (fun oi ho => ?_)
  rotate_left
  · ((simp only [List.getElem?_toArray, List.getElem?_cons_zero, List.getElem?_cons_succ, Option.some.injEq] at ho; subst ho); intro wx hSx; (try dsimp only at hSx); go_simp; all_goals (with_reducible rfl))
  (simp only [List.getElem?_toArray, List.getElem?_cons_zero, List.getElem?_cons_succ, Option.some.injEq] at ho; subst ho)
  try simp only [Act.put, List.setIfInBounds_toArray, List.set_cons_zero, List.set_cons_succ]
  refine heldTake 31 (v := ?_) (by kernel_rfl) (by kernel_rfl) (by kernel_rfl) (by kernel_rfl) (fun _ _ _ _ _ h => h) (by assumption) (fun oi ho => by (simp only [List.getElem?_toArray, List.getElem?_cons_zero, List.getElem?_cons_succ, Option.some.injEq] at ho; subst ho); rfl) (fun oi ho => ?_) (fun oi ho => ?_)
  rotate_left
  · ((simp only [List.getElem?_toArray, List.getElem?_cons_zero, List.getElem?_cons_succ, Option.some.injEq] at ho; subst ho); intro wx hSx; (try dsimp only at hSx); go_simp; all_goals (with_reducible rfl))
  (simp only [List.getElem?_toArray, List.getElem?_cons_zero, List.getElem?_cons_succ, Option.some.injEq] at ho; subst ho)
  try simp only [Act.put, List.setIfInBounds_toArray, List.set_cons_zero, List.set_cons_succ]
  refine heldTake 32 (v := ?_) (by kernel_rfl) (by kernel_rfl) (by kernel_rfl) (by kernel_rfl) (fun _ _ _ _ _ h => h) (by assumption) (fun oi ho => by (simp only [List.getElem?_toArray, List.getElem?_cons_zero, List.getElem?_cons_succ, Option.some.injEq] at ho; subst ho); rfl) (fun oi ho => ?_) (fun oi ho => ?_)
  rotate_left
  · ((simp only [List.getElem?_toArray, List.getElem?_cons_zero, List.getElem?_cons_succ, Option.some.injEq] at ho; subst ho); intro wx hSx; (try dsimp only at hSx); go_simp; all_goals (with_reducible rfl))
  (simp only [List.getElem?_toArray, List.getElem?_cons_zero, List.getElem?_cons_succ, Option.some.injEq] at ho; subst ho)
  try simp only [Act.put, List.setIfInBounds_toArray, List.set_cons_zero, List.set_cons_succ]
  refine heldTake 33 (v := ?_) (by kernel_rfl) (by kernel_rfl) (by kernel_rfl) (by kernel_rfl) (fun _ _ _ _ _ h => h) (by assumption) (fun oi ho => by (simp only [List.getElem?_toArray, List.getElem?_cons_zero, List.getElem?_cons_succ, Option.some.injEq] at ho; subst ho); rfl) (fun oi ho => ?_) (fun oi ho => ?_)
  rotate_left
  · ((simp only [List.getElem?_toArray, List.getElem?_cons_zero, List.getElem?_cons_succ, Option.some.injEq] at ho; subst ho); intro wx hSx; (try dsimp only at hSx); go_simp; all_goals (with_reducible rfl))
  (simp only [List.getElem?_toArray, List.getElem?_cons_zero, List.getElem?_cons_succ, Option.some.injEq] at ho; subst ho)
  try simp only [Act.put, List.setIfInBounds_toArray, List.set_cons_zero, List.set_cons_succ]
  refine heldTake 34 (v := ?_) (by kernel_rfl) (by kernel_rfl) (by kernel_rfl) (by kernel_rfl) (fun _ _ _ _ _ h => h) (by assumption) (fun oi ho => by (simp only [List.getElem?_toArray, List.getElem?_cons_zero, List.getElem?_cons_succ, Option.some.injEq] at ho; subst ho); rfl) (fun oi ho => ?_) (fun oi ho => ?_)
  rotate_left
  · ((simp only [List.getElem?_toArray, List.getElem?_cons_zero, List.getElem?_cons_succ, Option.some.injEq] at ho; subst ho); intro wx hSx; (try dsimp only at hSx); go_simp; all_goals (with_reducible rfl))
  (simp only [List.getElem?_toArray, List.getElem?_cons_zero, List.getElem?_cons_succ, Option.some.injEq] at ho; subst ho)
  try simp only [Act.put, List.setIfInBounds_toArray, List.set_cons_zero, List.set_cons_succ]
  refine heldTake 35 (v := ?_) (by kernel_rfl) (by kernel_rfl) (by kernel_rfl) (by kernel_rfl) (fun _ _ _ _ _ h => h) (by assumption) (fun oi ho => by (simp only [List.getElem?_toArray, List.getElem?_cons_zero, List.getElem?_cons_succ, Option.some.injEq] at ho; subst ho); rfl) (fun oi ho => ?_) (fun oi ho => ?_)
  rotate_left
  · ((simp only [List.getElem?_toArray, List.getElem?_cons_zero, List.getElem?_cons_succ, Option.some.injEq] at ho; subst ho); intro wx hSx; (try dsimp only at hSx); go_simp; all_goals (with_reducible rfl))
  (simp only [List.getElem?_toArray, List.getElem?_cons_zero, List.getElem?_cons_succ, Option.some.injEq] at ho; subst ho)
  try simp only [Act.put, List.setIfInBounds_toArray, List.set_cons_zero, List.set_cons_succ]
  refine wpAnyH_ready (rs := [36]) (by kernel_rfl) (by simp) ?_
  refine heldOne (by kernel_rfl) (fun oi ho K hK => ?_) AllReadyH.nil
  (simp only [List.getElem?_toArray, List.getElem?_cons_zero, List.getElem?_cons_succ, Option.some.injEq] at ho; subst ho)
  go_simp
  refine (HSR.out _ _ HL2.out (by assumption)).mono ?_; rintro e vv36 ⟨rfl, hbv⟩
  first | (refine hK.out _ _ ?_ (fun hHeld => ?_)) | (go_wp2_with fail; refine hK.out _ _ ?_ (fun hHeld => ?_))
  · first | (exact HK.out _ (by assumption)) | ((try dsimp only); exact HK.out _ (by assumption))
  clear hK K
  try simp only [Act.put, List.setIfInBounds_toArray, List.set_cons_zero, List.set_cons_succ]
  refine heldTake 37 (v := ?_) (by kernel_rfl) (by kernel_rfl) (by kernel_rfl) (by kernel_rfl) (fun _ _ _ _ _ h => h) (by assumption) (fun oi ho => by (simp only [List.getElem?_toArray, List.getElem?_cons_zero, List.getElem?_cons_succ, Option.some.injEq] at ho; subst ho); rfl) (fun oi ho => ?_) (fun oi ho => ?_)
  rotate_left
  · ((simp only [List.getElem?_toArray, List.getElem?_cons_zero, List.getElem?_cons_succ, Option.some.injEq] at ho; subst ho); intro wx hSx; (try dsimp only at hSx); go_simp; all_goals (with_reducible rfl))
  (simp only [List.getElem?_toArray, List.getElem?_cons_zero, List.getElem?_cons_succ, Option.some.injEq] at ho; subst ho)
  try simp only [Act.put, List.setIfInBounds_toArray, List.set_cons_zero, List.set_cons_succ]
  refine heldTake 38 (v := ?_) (by kernel_rfl) (by kernel_rfl) (by kernel_rfl) (by kernel_rfl) (fun _ _ _ _ _ h => h) (by assumption) (fun oi ho => by (simp only [List.getElem?_toArray, List.getElem?_cons_zero, List.getElem?_cons_succ, Option.some.injEq] at ho; subst ho); rfl) (fun oi ho => ?_) (fun oi ho => ?_)
  rotate_left
  · ((simp only [List.getElem?_toArray, List.getElem?_cons_zero, List.getElem?_cons_succ, Option.some.injEq] at ho; subst ho); intro wx hSx; (try dsimp only at hSx); go_simp; all_goals (with_reducible rfl))
  (simp only [List.getElem?_toArray, List.getElem?_cons_zero, List.getElem?_cons_succ, Option.some.injEq] at ho; subst ho)
  try simp only [Act.put, List.setIfInBounds_toArray, List.set_cons_zero, List.set_cons_succ]
  refine heldTake 39 (v := ?_) (by kernel_rfl) (by kernel_rfl) (by kernel_rfl) (by kernel_rfl) (fun _ _ _ _ _ h => h) (by assumption) (fun oi ho => by (simp only [List.getElem?_toArray, List.getElem?_cons_zero, List.getElem?_cons_succ, Option.some.injEq] at ho; subst ho); rfl) (fun oi ho => ?_) (fun oi ho => ?_)
  rotate_left
  · ((simp only [List.getElem?_toArray, List.getElem?_cons_zero, List.getElem?_cons_succ, Option.some.injEq] at ho; subst ho); intro wx hSx; (try dsimp only at hSx); go_simp; all_goals (with_reducible rfl))
  (simp only [List.getElem?_toArray, List.getElem?_cons_zero, List.getElem?_cons_succ, Option.some.injEq] at ho; subst ho)
  try simp only [Act.put, List.setIfInBounds_toArray, List.set_cons_zero, List.set_cons_succ]
  refine heldTake 40 (v := ?_) (by kernel_rfl) (by kernel_rfl) (by kernel_rfl) (by kernel_rfl) (fun _ _ _ _ _ h => h) (by assumption) (fun oi ho => by (simp only [List.getElem?_toArray, List.getElem?_cons_zero, List.getElem?_cons_succ, Option.some.injEq] at ho; subst ho); rfl) (fun oi ho => ?_) (fun oi ho => ?_)
  rotate_left
  · ((simp only [List.getElem?_toArray, List.getElem?_cons_zero, List.getElem?_cons_succ, Option.some.injEq] at ho; subst ho); intro wx hSx; (try dsimp only at hSx); go_simp; all_goals (with_reducible rfl))
  (simp only [List.getElem?_toArray, List.getElem?_cons_zero, List.getElem?_cons_succ, Option.some.injEq] at ho; subst ho)
  try simp only [Act.put, List.setIfInBounds_toArray, List.set_cons_zero, List.set_cons_succ]
  refine wpAnyH_ready (rs := [41]) (by kernel_rfl) (by simp) ?_
  refine heldOne (by kernel_rfl) (fun oi ho K hK => ?_) AllReadyH.nil
  (simp only [List.getElem?_toArray, List.getElem?_cons_zero, List.getElem?_cons_succ, Option.some.injEq] at ho; subst ho)
  go_simp
  refine (HSR.out _ _ HL.out (by assumption)).mono ?_; rintro e vv41 ⟨rfl, hbv⟩
  first | (refine hK.out _ _ ?_ (fun hHeld => ?_)) | (go_wp2_with fail; refine hK.out _ _ ?_ (fun hHeld => ?_))
  · first | (exact HK.out _ (by assumption)) | ((try dsimp only); exact HK.out _ (by assumption))
  clear hK K
  try simp only [Act.put, List.setIfInBounds_toArray, List.set_cons_zero, List.set_cons_succ]
  refine heldTake 42 (v := ?_) (by kernel_rfl) (by kernel_rfl) (by kernel_rfl) (by kernel_rfl) (fun _ _ _ _ _ h => h) (by assumption) (fun oi ho => by (simp only [List.getElem?_toArray, List.getElem?_cons_zero, List.getElem?_cons_succ, Option.some.injEq] at ho; subst ho); rfl) (fun oi ho => ?_) (fun oi ho => ?_)
  rotate_left
  · ((simp only [List.getElem?_toArray, List.getElem?_cons_zero, List.getElem?_cons_succ, Option.some.injEq] at ho; subst ho); intro wx hSx; (try dsimp only at hSx); go_simp; all_goals (with_reducible rfl))
  (simp only [List.getElem?_toArray, List.getElem?_cons_zero, List.getElem?_cons_succ, Option.some.injEq] at ho; subst ho)
  try simp only [Act.put, List.setIfInBounds_toArray, List.set_cons_zero, List.set_cons_succ]
  refine heldTake 43 (v := ?_) (by kernel_rfl) (by kernel_rfl) (by kernel_rfl) (by kernel_rfl) (fun _ _ _ _ _ h => h) (by assumption) (fun oi ho => by (simp only [List.getElem?_toArray, List.getElem?_cons_zero, List.getElem?_cons_succ, Option.some.injEq] at ho; subst ho); rfl) (fun oi ho => ?_) (fun oi ho => ?_)
  rotate_left
  · ((simp only [List.getElem?_toArray, List.getElem?_cons_zero, List.getElem?_cons_succ, Option.some.injEq] at ho; subst ho); intro wx hSx; (try dsimp only at hSx); go_simp; all_goals (with_reducible rfl))
  (simp only [List.getElem?_toArray, List.getElem?_cons_zero, List.getElem?_cons_succ, Option.some.injEq] at ho; subst ho)
  try simp only [Act.put, List.setIfInBounds_toArray, List.set_cons_zero, List.set_cons_succ]
  refine heldTake 44 (v := ?_) (by kernel_rfl) (by kernel_rfl) (by kernel_rfl) (by kernel_rfl) (fun _ _ _ _ _ h => h) (by assumption) (fun oi ho => by (simp only [List.getElem?_toArray, List.getElem?_cons_zero, List.getElem?_cons_succ, Option.some.injEq] at ho; subst ho); rfl) (fun oi ho => ?_) (fun oi ho => ?_)
  rotate_left
  · ((simp only [List.getElem?_toArray, List.getElem?_cons_zero, List.getElem?_cons_succ, Option.some.injEq] at ho; subst ho); intro wx hSx; (try dsimp only at hSx); go_simp; all_goals (with_reducible rfl))
  (simp only [List.getElem?_toArray, List.getElem?_cons_zero, List.getElem?_cons_succ, Option.some.injEq] at ho; subst ho)
  try simp only [Act.put, List.setIfInBounds_toArray, List.set_cons_zero, List.set_cons_succ]
  refine heldTake 45 (v := ?_) (by kernel_rfl) (by kernel_rfl) (by kernel_rfl) (by kernel_rfl) (fun _ _ _ _ _ h => h) (by assumption) (fun oi ho => by (simp only [List.getElem?_toArray, List.getElem?_cons_zero, List.getElem?_cons_succ, Option.some.injEq] at ho; subst ho); rfl) (fun oi ho => ?_) (fun oi ho => ?_)
  rotate_left
  · ((simp only [List.getElem?_toArray, List.getElem?_cons_zero, List.getElem?_cons_succ, Option.some.injEq] at ho; subst ho); intro wx hSx; (try dsimp only at hSx); go_simp; all_goals (with_reducible rfl))
  (simp only [List.getElem?_toArray, List.getElem?_cons_zero, List.getElem?_cons_succ, Option.some.injEq] at ho; subst ho)
  try simp only [Act.put, List.setIfInBounds_toArray, List.set_cons_zero, List.set_cons_succ]
  refine wpAnyH_ready (rs := [46]) (by kernel_rfl) (by simp) ?_
  refine heldOne (by kernel_rfl) (fun oi ho K hK => ?_) AllReadyH.nil
  (simp only [List.getElem?_toArray, List.getElem?_cons_zero, List.getElem?_cons_succ, Option.some.injEq] at ho; subst ho)
  go_simp
  refine (HSR.out _ _ HL2.out (by assumption)).mono ?_; rintro e vv46 ⟨rfl, hbv⟩
  first | (refine hK.out _ _ ?_ (fun hHeld => ?_)) | (go_wp2_with fail; refine hK.out _ _ ?_ (fun hHeld => ?_))
  · first | (exact HK.out _ (by assumption)) | ((try dsimp only); exact HK.out _ (by assumption))
  clear hK K
  try simp only [Act.put, List.setIfInBounds_toArray, List.set_cons_zero, List.set_cons_succ]
  refine heldTake 47 (v := ?_) (by kernel_rfl) (by kernel_rfl) (by kernel_rfl) (by kernel_rfl) (fun _ _ _ _ _ h => h) (by assumption) (fun oi ho => by (simp only [List.getElem?_toArray, List.getElem?_cons_zero, List.getElem?_cons_succ, Option.some.injEq] at ho; subst ho); rfl) (fun oi ho => ?_) (fun oi ho => ?_)
  rotate_left
  · ((simp only [List.getElem?_toArray, List.getElem?_cons_zero, List.getElem?_cons_succ, Option.some.injEq] at ho; subst ho); intro wx hSx; (try dsimp only at hSx); go_simp; all_goals (with_reducible rfl))
  (simp only [List.getElem?_toArray, List.getElem?_cons_zero, List.getElem?_cons_succ, Option.some.injEq] at ho; subst ho)
  try simp only [Act.put, List.setIfInBounds_toArray, List.set_cons_zero, List.set_cons_succ]
  refine heldTake 48 (v := ?_) (by kernel_rfl) (by kernel_rfl) (by kernel_rfl) (by kernel_rfl) (fun _ _ _ _ _ h => h) (by assumption) (fun oi ho => by (simp only [List.getElem?_toArray, List.getElem?_cons_zero, List.getElem?_cons_succ, Option.some.injEq] at ho; subst ho); rfl) (fun oi ho => ?_) (fun oi ho => ?_)
  rotate_left
  · ((simp only [List.getElem?_toArray, List.getElem?_cons_zero, List.getElem?_cons_succ, Option.some.injEq] at ho; subst ho); intro wx hSx; (try dsimp only at hSx); go_simp; all_goals (with_reducible rfl))
  (simp only [List.getElem?_toArray, List.getElem?_cons_zero, List.getElem?_cons_succ, Option.some.injEq] at ho; subst ho)
  try simp only [Act.put, List.setIfInBounds_toArray, List.set_cons_zero, List.set_cons_succ]
  refine wpAnyH_done (by kernel_rfl) ?_ _
  refine NoPanic.normal ?_
  go_wp2
  go_ret
  exact ⟨rfl, HE.out _ hbv⟩
end Go.Proofs.Ytikioeddilgbpaa
