/-
  LoadPages: for every image and page the call returns true. No conditions.
-/
import Derived.Test.YtehmpdgpjpifoaaLoadPage
namespace Go.Proofs.Ytehmpdgpjpifoaa
open Go.RowKit

theorem pageWords_at (l : List Int) (a k : Nat) (hk : k < 16) : (u32s (pageWords l a))[k]? = some (.int .u32 (if 16 * a + k < l.length then l.getD (16 * a + k) 0 else 0)) := by
  have hlen : ((l.drop (a * 16)).take 16).length = min 16 (l.length - a * 16) := by rw [List.length_take, List.length_drop]
  rw [u32s, List.getElem?_map, pageWords]
  by_cases h : 16 * a + k < l.length
  · rw [if_pos h, List.getElem?_append_left (by rw [hlen]; omega), List.getElem?_take_of_lt hk, List.getElem?_drop, show a * 16 + k = 16 * a + k by omega, List.getD_eq_getElem?_getD, List.getElem?_eq_getElem h]
    rfl
  · rw [if_neg h, List.getElem?_append_right (by rw [hlen]; omega), List.getElem?_replicate, if_pos (by rw [hlen]; omega)]
    rfl

theorem cell_below {w w' : World} {p : Addr} {v : Value} {B : Nat} (hb : Below B w w') (hp : p.block < B) (h : w.cell? p = some v) : w'.cell? p = some v :=
  (hb.cell hp).trans h

set_option maxRecDepth 100000 in
set_option maxHeartbeats 1000000 in
theorem there_none (n : Nat) (e page : Int) (ao ac : Option Addr) (cap m cap2 : Nat) (rv pv sv : Value) (w : World) (hn : n ≤ 100000) (ha : (pg n : Int) + 128 ≤ page) (hi : page ≤ 9223372036854775807) :
    Calls Try.prog 9 #[.agg #[.int .u32 e, .slice ac m cap2, .slice ao n cap, rv, pv, sv], .int .i64 page] w fun e w' => e = .returned (.bool false) ∧ Below w.heap.size w w' := by
  go_enter Try.func9, Try.ntmps9
  go_wp2_with fail
  refine (page_high_none n _ _ _ _ _ _ _ _ _ _ _ hn ha hi).mono ?_
  rintro e w1 ⟨rfl, hb⟩
  go_wp2
  go_ret
  exact ⟨rfl, (by repeat (first | exact Below.refl _ _ | refine Below.alloc ?_ (by simp) _) : Below w.heap.size w (w.alloc _)).trans (hb.mono (by simp))⟩
def imgCells (e : Int) (dv cv rv pv sv : Value) : Array Value := #[.int .u32 e, dv, cv, rv, pv, sv]

def Turned (n : Nat) (w : World) (v : Value) (wr : World) : Prop := ∃ p : Nat, p ≤ n ∧ v = .int .i64 p ∧ Below w.heap.size w wr
def Stood (w : World) (v : Value) (wr : World) : Prop := ∃ p : Nat, p ≤ 16 ∧ v = .int .i64 p ∧ wr = w

set_option maxRecDepth 100000 in
set_option maxRecDepth 100000 in
set_option maxHeartbeats 80000000 in
theorem lp_some (e page : Int) (d c : List Int) (r p s : Nat) (a1 a2 a3 a4 a5 : Option Addr) (k1 k2 k3 k4 k5 : Nat) (w : World) (hd : d.length ≤ 300) (hc : c.length ≤ 300) (hr : r ≤ 300) (hp : p ≤ 300) (hs : s ≤ 300)
    (hk1 : d.length ≤ k1) (hk2 : c.length ≤ k2) (hpg : page ≤ 9223372036854775807)
    (hcd : ∀ j u, (u32s d)[j]? = some u → ∃ b off, a1 = some ⟨b, off, none⟩ ∧ w.cell? ⟨b, off + j, none⟩ = some u ∧ b < w.heap.size)
    (hcc : ∀ j u, (u32s c)[j]? = some u → ∃ b off, a2 = some ⟨b, off, none⟩ ∧ w.cell? ⟨b, off + j, none⟩ = some u ∧ b < w.heap.size) :
    Calls Try.prog 3 #[.agg #[.int .u32 e, .slice a1 d.length k1, .slice a2 c.length k2, .slice a3 r k3, .slice a4 p k4, .slice a5 s k5], .int .i64 page] w fun e w' => e = .returned (.bool true) ∧ Below w.heap.size w w' := by
  have HCD := Lib.hid hcd
  have HCC := Lib.hid hcc
  have hb0 : Below w.heap.size w (w.alloc (.cells #[.int .u32 e, .slice a1 d.length k1, .slice a2 c.length k2, .slice a3 r k3, .slice a4 p k4, .slice a5 s k5] 26)) := (Below.refl _ _).alloc (Nat.le_refl _) _
  have hbk := blk_new w (.cells #[.int .u32 e, .slice a1 d.length k1, .slice a2 c.length k2, .slice a3 r k3, .slice a4 p k4, .slice a5 s k5] 26)
  have HB0 := Lib.hid hb0
  have HBK := Lib.hid hbk
  clear hcd hcc hb0 hbk
  go_enter Try.func3, Try.ntmps3
  go_wp2_with fail
  refine (first_true _).mono ?_
  rintro e1 w1 ⟨rfl, hb1⟩
  have HB1 := Lib.hid hb1
  have HK1 := Lib.hid (blk_below HBK.out hb1 (by simp))
  clear hb1
  have HQ : Hid (∀ wx, Below w1.heap.size w1 wx → wx.cell? ⟨w.heap.size, 0, none⟩ = some (.int .u32 e) ∧ wx.cell? ⟨w.heap.size, 1, none⟩ = some (.slice a1 d.length k1) ∧ wx.cell? ⟨w.heap.size, 2, none⟩ = some (.slice a2 c.length k2) ∧ wx.cell? ⟨w.heap.size, 3, none⟩ = some (.slice a3 r k3) ∧ wx.cell? ⟨w.heap.size, 4, none⟩ = some (.slice a4 p k4) ∧ wx.cell? ⟨w.heap.size, 5, none⟩ = some (.slice a5 s k5)) := Lib.hid fun wx hx => by
    have h := blk_below HK1.out hx (blk_lt HK1.out)
    exact ⟨blk_cell h 0, blk_cell h 1, blk_cell h 2, blk_cell h 3, blk_cell h 4, blk_cell h 5⟩
  have HW : Hid (Below w.heap.size w w1) := Lib.hid (HB0.out.trans (HB1.out.mono (by simp)))
  have HCD1 : Hid (∀ wx, Below w1.heap.size w1 wx → ∀ j u, (u32s d)[j]? = some u → ∃ b off, a1 = some ⟨b, off, none⟩ ∧ wx.cell? ⟨b, off + j, none⟩ = some u) := Lib.hid fun wx hx j u hj => by
    obtain ⟨b, off, h1, h2, h3⟩ := HCD.out j u hj
    exact ⟨b, off, h1, cell_below hx (Nat.lt_of_lt_of_le h3 HW.out.size) (cell_below HW.out h3 h2)⟩
  have HCC1 : Hid (∀ wx, Below w1.heap.size w1 wx → ∀ j u, (u32s c)[j]? = some u → ∃ b off, a2 = some ⟨b, off, none⟩ ∧ wx.cell? ⟨b, off + j, none⟩ = some u) := Lib.hid fun wx hx j u hj => by
    obtain ⟨b, off, h1, h2, h3⟩ := HCC.out j u hj
    exact ⟨b, off, h1, cell_below hx (Nat.lt_of_lt_of_le h3 HW.out.size) (cell_below HW.out h3 h2)⟩
  obtain ⟨q0, q1, q2, q3, q4, q5⟩ := HQ.out w1 (Below.refl _ _)
  have hall : (decide ((d.length : Int) ≤ 300) && decide ((c.length : Int) ≤ 300) && decide ((r : Int) ≤ 300) && decide ((p : Int) ≤ 300) && decide ((s : Int) ≤ 300)) = true := by
    simp only [Bool.and_eq_true, decide_eq_true_eq]
    omega
  have HALL := Lib.hid hall
  clear hall
  go_wp2_with fail
  refine (image_any _ _ _ _ _ _ _ _ _ _ _ _ _ _ _ _ _ _).mono ?_
  rintro e2 w2 ⟨rfl, hb2⟩
  rw [HALL.out]
  obtain ⟨q0', q1', q2', q3', q4', q5'⟩ := HQ.out w2 hb2
  have HB2 := Lib.hid hb2
  clear q0 q1 q2 q3 q4 q5 hb2
  go_wp2_with fail
  refine (Pages_any _ _ _ _ _ _ _ _ _ _ _ (by omega) (by omega)).mono ?_
  rintro e3 w3 ⟨rfl, hb3⟩
  have HB3 := Lib.hid (HB2.out.trans (hb3.mono HB2.out.size))
  obtain ⟨q0, q1, q2, q3, q4, q5⟩ := HQ.out w3 HB3.out
  clear q0' q1' q2' q3' q4' q5' hb3
  have hpd : d.length ≤ 16 * pg d.length ∧ 16 * pg d.length < d.length + 16 := by unfold pg; omega
  have hpc : c.length ≤ 16 * pg c.length ∧ 16 * pg c.length < c.length + 16 := by unfold pg; omega
  obtain ⟨nd, hnd⟩ : ∃ n, pg d.length = n := ⟨_, rfl⟩
  obtain ⟨nc, hnc⟩ : ∃ n, pg c.length = n := ⟨_, rfl⟩
  rw [hnd] at hpd
  rw [hnc] at hpc
  rw [hnd, hnc]
  have HND := Lib.hid hnd
  have HNC := Lib.hid hnc
  clear hnd hnc
  have f1 := IntWalk.i64_in (16 * (nd : Int)) (by omega)
  have f2 := IntWalk.i64_in (16 * (nc : Int)) (by omega)
  have f3 := IntWalk.i64_in ((d.length : Int) + 16) (by omega)
  have f4 := IntWalk.i64_in ((c.length : Int) + 16) (by omega)
  have f5 : ¬ (16 * (nd : Int) < (d.length : Int)) := by omega
  have f6 : ¬ ((d.length : Int) + 16 ≤ 16 * (nd : Int)) := by omega
  have f7 : ¬ (16 * (nc : Int) < (c.length : Int)) := by omega
  have f8 : ¬ ((c.length : Int) + 16 ≤ 16 * (nc : Int)) := by omega
  have f9 := IntWalk.i64_in (17 + (nd : Int)) (by omega)
  go_wp2_with fail
  refine (quota_any _ _ _ _ _ _ _ _ _ _ _ (by omega)).mono ?_
  rintro e4 w4 ⟨rfl, hb4⟩
  rw [HND.out]
  have HB4 := Lib.hid (HB3.out.trans (hb4.mono HB3.out.size))
  clear q0 q1 q2 q3 q4 q5 hb4 HB1 HB2 HB3
  go_wp2_with fail
  clear f1 f2 f3 f4 f5 f6 f7 f8 f9 hr hp hs
  go_loopw [8] (fun v wr => Turned 150 w4 v wr) (fun v _ => 150 - (intOf v).toNat)
  case atStart => exact ⟨0, Nat.zero_le _, rfl, Below.refl _ _⟩
  case round =>
    obtain ⟨q, hq, rfl, hB⟩ := hrel
    have HBr := Lib.hid (HB4.out.trans (hB.mono HB4.out.size))
    obtain ⟨q0, q1, q2, q3, q4, q5⟩ := HQ.out wr HBr.out
    have HBq := Lib.hid hB
    clear hB HB4
    by_cases hlt : q < 150
    · by_cases hlow : q < 128
      · by_cases hin : q < nd
        · skip
          have hu0 : (u32s d)[0]? = some (.int .u32 (d.getD 0 0)) := by
            rw [u32s, List.getElem?_map, List.getElem?_eq_getElem (by omega), List.getD_eq_getElem?_getD, List.getElem?_eq_getElem (by omega)]
            rfl
          obtain ⟨b, off, rfl, -⟩ := HCD1.out wr HBr.out 0 _ hu0
          have hcells : ∀ wx, Below w1.heap.size w1 wx → ∀ j u, (u32s d)[j]? = some u → wx.cell? ⟨b, off + j, none⟩ = some u := fun wx hx j u hj => by
            obtain ⟨b', off', he, h⟩ := HCD1.out wx hx j u hj
            cases he
            exact h
          have HCE := Lib.hid hcells
          clear hcells hu0
          have g1 : (q : Int) < (nd : Int) := by omega
          have g2 : (q : Int) < 128 := by omega
          go_wp2_with fail
          refine (page_low d q e b off _ _ _ _ _ _ _ _ (by omega) (by rw [HND.out]; omega) hlow hk1 (HCE.out _ HBr.out)).mono ?_
          rintro e5 w5 ⟨g, rfl, hg, hb5, hblk⟩
          have HB5 := Lib.hid (HBq.out.trans (hb5.mono HBq.out.size))
          have HB5' := Lib.hid (HBr.out.trans (hb5.mono HBr.out.size))
          have HBLK := Lib.hid hblk
          clear hb5 hblk q0 q1 q2 q3 q4 q5
          obtain ⟨q0, q1, q2, q3, q4, q5⟩ := HQ.out w5 HB5'.out
          go_wp2_with fail
          go_loopw [11] (fun v wr => Stood w5 v wr) (fun v _ => 16 - (intOf v).toNat)
          case atStart => exact ⟨0, Nat.zero_le _, rfl, rfl⟩
          case round =>
            obtain ⟨k, hk, rfl, rfl⟩ := hrel
            by_cases hkl : k < 16
            · have lk := (blk_cell HBLK.out k).trans ((List.getElem?_toArray).trans (pageWords_at d q k hkl))
              have g5 := IntWalk.i64_in (16 * (q : Int)) (by omega)
              have g6 := IntWalk.i64_in (16 * (q : Int) + (k : Int)) (by omega)
              have g6' := IntWalk.i64_in (16 * (q : Int) + (k : Int)) (by omega)
              have g7 : (k : Int) < 16 := by omega
              by_cases hin2 : 16 * q + k < d.length
              · rw [if_pos hin2] at lk
                have hu : (u32s d)[16 * q + k]? = some (.int .u32 (d.getD (16 * q + k) 0)) := by
                  rw [u32s, List.getElem?_map, List.getElem?_eq_getElem hin2, List.getD_eq_getElem?_getD, List.getElem?_eq_getElem hin2]
                  rfl
                have lf := HCE.out _ HB5'.out _ _ hu
                obtain ⟨x, hx⟩ : ∃ x, d.getD (16 * q + k) 0 = x := ⟨_, rfl⟩
                rw [hx] at lk lf
                have g8 : (0 : Int) ≤ 16 * (q : Int) + (k : Int) := by omega
                have g9 : 16 * (q : Int) + (k : Int) < (d.length : Int) := by omega
                have g10 : (16 * (q : Int) + (k : Int)).toNat = 16 * q + k := by omega
                clear hx hu
                go_wp2_with fail
                go_roundw
                case rel => exact ⟨k + 1, hkl, rfl, rfl⟩
                · simp only [intOf]
                  omega
              · rw [if_neg hin2] at lk
                have g9 : ¬ (16 * (q : Int) + (k : Int) < (d.length : Int)) := by omega
                go_wp2_with fail
                go_roundw
                case rel => exact ⟨k + 1, hkl, rfl, rfl⟩
                · simp only [intOf]
                  omega
            · obtain rfl : k = 16 := by omega
              go_wp2_with fail
              go_roundw
              case rel => exact ⟨q + 1, by omega, rfl, HB5.out⟩
              · simp only [intOf]
                omega
        · have g1 : (nd : Int) ≤ (q : Int) := by omega
          go_wp2_with fail
          refine (page_low_none _ _ _ _ _ _ _ _ _ _ _ _ (by omega) (.inr (by rw [HND.out]; omega)) (by omega)).mono ?_
          rintro e5 w5 ⟨rfl, hb5⟩
          have HB5 := Lib.hid (HBq.out.trans (hb5.mono HBq.out.size))
          clear hb5
          go_wp2_with fail
          refine wp_loop_rounds 1 ?_
          rw [rounds_succ]
          go_wp2
          go_roundw
          case rel => exact ⟨q + 1, by omega, rfl, HB5.out⟩
          · simp only [intOf]
            omega
      · by_cases hin : q < 128 + nc
        · skip
          obtain ⟨at_, hat⟩ : ∃ a, q - 128 = a := ⟨_, rfl⟩
          have hat2 : q = at_ + 128 := by omega
          have HAT2 := Lib.hid hat2
          clear hat hat2
          have hu0 : (u32s c)[0]? = some (.int .u32 (c.getD 0 0)) := by
            rw [u32s, List.getElem?_map, List.getElem?_eq_getElem (by have := HAT2.out; omega), List.getD_eq_getElem?_getD, List.getElem?_eq_getElem (by have := HAT2.out; omega)]
            rfl
          obtain ⟨b, off, rfl, -⟩ := HCC1.out wr HBr.out 0 _ hu0
          have hcells : ∀ wx, Below w1.heap.size w1 wx → ∀ j u, (u32s c)[j]? = some u → wx.cell? ⟨b, off + j, none⟩ = some u := fun wx hx j u hj => by
            obtain ⟨b', off', he, h⟩ := HCC1.out wx hx j u hj
            cases he
            exact h
          have HCE := Lib.hid hcells
          clear hcells hu0
          have g1 : (q : Int) < 128 + (nc : Int) := by have := HAT2.out; omega
          have g2 : (128 : Int) ≤ (q : Int) := by have := HAT2.out; omega
          have g3 : ¬ ((q : Int) < (nd : Int)) := by have := HAT2.out; omega
          have g4 := IntWalk.i64_in (128 + (nc : Int)) (by have := HAT2.out; omega)
          go_wp2_with fail
          refine (page_high c at_ e _ b off _ _ _ _ _ _ _ _ (by have := HAT2.out; omega) (by rw [HNC.out]; have := HAT2.out; omega) (by have := HAT2.out; omega) hk2 (HCE.out _ HBr.out)).mono ?_
          rintro e5 w5 ⟨g, rfl, hg, hb5, hblk⟩
          have HB5 := Lib.hid (HBq.out.trans (hb5.mono HBq.out.size))
          have HB5' := Lib.hid (HBr.out.trans (hb5.mono HBr.out.size))
          have HBLK := Lib.hid hblk
          clear hb5 hblk q0 q1 q2 q3 q4 q5
          obtain ⟨q0, q1, q2, q3, q4, q5⟩ := HQ.out w5 HB5'.out
          go_wp2_with fail
          go_loopw [11] (fun v wr => Stood w5 v wr) (fun v _ => 16 - (intOf v).toNat)
          case atStart => exact ⟨0, Nat.zero_le _, rfl, rfl⟩
          case round =>
            obtain ⟨k, hk, rfl, rfl⟩ := hrel
            by_cases hkl : k < 16
            · have lk := (blk_cell HBLK.out k).trans ((List.getElem?_toArray).trans (pageWords_at c at_ k hkl))
              have g5 := IntWalk.i64_in (16 * (q : Int)) (by have := HAT2.out; omega)
              have g6 := IntWalk.i64_in (16 * (q : Int) + (k : Int)) (by have := HAT2.out; omega)
              have g6' := IntWalk.i64_in (16 * (q : Int) + (k : Int) - 2048) (by have := HAT2.out; omega)
              have g7 : (k : Int) < 16 := by have := HAT2.out; omega
              by_cases hin2 : 16 * at_ + k < c.length
              · rw [if_pos hin2] at lk
                have hu : (u32s c)[16 * at_ + k]? = some (.int .u32 (c.getD (16 * at_ + k) 0)) := by
                  rw [u32s, List.getElem?_map, List.getElem?_eq_getElem hin2, List.getD_eq_getElem?_getD, List.getElem?_eq_getElem hin2]
                  rfl
                have lf := HCE.out _ HB5'.out _ _ hu
                obtain ⟨x, hx⟩ : ∃ x, c.getD (16 * at_ + k) 0 = x := ⟨_, rfl⟩
                rw [hx] at lk lf
                have g8 : (0 : Int) ≤ 16 * (q : Int) + (k : Int) - 2048 := by have := HAT2.out; omega
                have g9 : 16 * (q : Int) + (k : Int) - 2048 < (c.length : Int) := by have := HAT2.out; omega
                have g10 : (16 * (q : Int) + (k : Int) - 2048).toNat = 16 * at_ + k := by have := HAT2.out; omega
                clear hx hu
                go_wp2_with fail
                go_roundw
                case rel => exact ⟨k + 1, hkl, rfl, rfl⟩
                · simp only [intOf]
                  omega
              · rw [if_neg hin2] at lk
                have g9 : ¬ (16 * (q : Int) + (k : Int) - 2048 < (c.length : Int)) := by have := HAT2.out; omega
                go_wp2_with fail
                go_roundw
                case rel => exact ⟨k + 1, hkl, rfl, rfl⟩
                · simp only [intOf]
                  omega
            · obtain rfl : k = 16 := by have := HAT2.out; omega
              go_wp2_with fail
              go_roundw
              case rel => exact ⟨q + 1, by omega, rfl, HB5.out⟩
              · simp only [intOf]
                omega
        · have g1 : (nc : Int) + 128 ≤ (q : Int) := by omega
          have g2 : ¬ ((q : Int) < 128 + (nc : Int)) := by omega
          have g3 : ¬ ((q : Int) < (nd : Int)) := by omega
          have g4 := IntWalk.i64_in (128 + (nc : Int)) (by omega)
          go_wp2_with fail
          refine (page_high_none _ _ _ _ _ _ _ _ _ _ _ _ (by omega) (by rw [HNC.out]; omega) (by omega)).mono ?_
          rintro e5 w5 ⟨rfl, hb5⟩
          have HB5 := Lib.hid (HBq.out.trans (hb5.mono HBq.out.size))
          clear hb5
          go_wp2_with fail
          refine wp_loop_rounds 1 ?_
          rw [rounds_succ]
          go_wp2
          go_roundw
          case rel => exact ⟨q + 1, by omega, rfl, HB5.out⟩
          · simp only [intOf]
            omega
    · go_wp2_with fail
      refine (page_low_none _ _ _ _ _ _ _ _ _ _ _ _ (by omega) (.inl (by omega)) (by omega)).mono ?_
      rintro e5 w5 ⟨rfl, hb5⟩
      have HB5 := Lib.hid (HBr.out.trans (hb5.mono HBr.out.size))
      clear hb5 q0 q1 q2 q3 q4 q5
      obtain ⟨q0, q1, q2, q3, q4, q5⟩ := HQ.out w5 HB5.out
      have g4 := IntWalk.i64_in (128 + (nc : Int)) (by omega)
      by_cases hpage : page < 128 + (nc : Int)
      · go_wp2
        go_ret
        exact ⟨rfl, HW.out.trans (HB5.out.mono HW.out.size)⟩
      · go_wp2_with fail
        refine (there_none _ _ _ _ _ _ _ _ _ _ _ _ (show c.length ≤ 100000 by omega) (by rw [HNC.out]; omega) hpg).mono ?_
        rintro e6 w6 ⟨rfl, hb6⟩
        go_wp2
        go_ret
        exact ⟨rfl, (HW.out.trans (HB5.out.mono HW.out.size)).trans (hb6.mono (Nat.le_trans HW.out.size HB5.out.size))⟩
end Go.Proofs.Ytehmpdgpjpifoaa
