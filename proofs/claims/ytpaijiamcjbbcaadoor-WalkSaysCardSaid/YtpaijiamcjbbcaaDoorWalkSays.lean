/-
  WalkSays: for every words, entry, word, root, page, address the call returns true; nothing that was there is turned.
-/
import Derived.Test.YtpaijiamcjbbcaaDoorWkMem
namespace Go.Proofs.YtpaijiamcjbbcaaDoor
open Go.RowKit

set_option maxRecDepth 100000 in
set_option maxHeartbeats 1600000 in
theorem walkSays_many (q : Nat) (ao : Option Addr) (c1 : Nat) (e : Ent) (x : Int) (root page addr : Int) (wr us : Bool) (w : World) (h : 320 < q) :
    Calls Tryd.prog 4 #[.slice ao q c1, e.v, .int .u32 x, .int .i64 root, .int .i64 page, .int .u32 addr, .bool wr, .bool us] w fun e w' => e = .returned (.bool true) ∧ Below w.heap.size w w' := by
  have h2 : (320 : Int) < (q : Int) := by omega
  clear h
  unfold Ent.v
  go_enter Tryd.func4, Tryd.ntmps4
  go_wp2_with fail
  refine (first_true _).mono ?_
  rintro e w1 ⟨rfl, hb1⟩
  have HB1 : Hid (Below w.heap.size w w1) := Lib.hid (((Below.refl _ _).alloc (Nat.le_refl _) _).trans (hb1.mono (by simp)))
  clear hb1
  go_wp2
  go_ret
  exact ⟨rfl, HB1.out⟩

set_option maxRecDepth 100000 in
set_option maxHeartbeats 8000000 in
theorem walkSays_some (xs : List Int) (ao : Option Addr) (c1 : Nat) (e : Ent) (x : Int) (root page addr : Int) (wr us : Bool) (w : World) (hr : AtL w ao (u32s xs)) (hn : xs.length ≤ 320) (hx : W32 x) (hl : ∀ j, W32 (xs.getD j 0)) (ha : W32 addr) :
    Calls Tryd.prog 4 #[.slice ao xs.length c1, e.v, .int .u32 x, .int .i64 root, .int .i64 page, .int .u32 addr, .bool wr, .bool us] w fun e w' => e = .returned (.bool true) ∧ Below w.heap.size w w' := by
  have HR := Lib.hid hr
  have HX := Lib.hid hx
  have HA := Lib.hid ha
  have hni : ¬ (320 : Int) < (xs.length : Int) := by omega
  clear hr hx ha
  obtain ⟨⟨bx, bk⟩, hbx⟩ : ∃ q, bitsA e = q := ⟨_, rfl⟩
  have HE1 := Lib.hid (bits_any e)
  have HE2 := Lib.hid (rbits_any e)
  rw [hbx] at HE1 HE2
  obtain ⟨⟨ox, ok⟩, hox⟩ : ∃ q, ofA x = q := ⟨_, rfl⟩
  have HO1 := Lib.hid (fun wx => of_any x wx HX.out)
  have HO2 := Lib.hid (fun wx => rof_any x wx HX.out)
  rw [hox] at HO1 HO2
  obtain ⟨ef, et, ew, eu⟩ := e
  unfold Ent.v at HE1 HE2
  unfold wordV at HE1 HE2
  unfold Ent.v
  clear hbx hox
  go_enter Tryd.func4, Tryd.ntmps4
  go_wp2_with fail
  refine (first_true _).mono ?_
  rintro e w1 ⟨rfl, hb1⟩
  have k1 : w1.heap[w.heap.size]? = _ := (hb1.block w.heap.size (by simp)).trans (blk_new w _)
  have HK1 := Lib.hid k1
  have HB1 : Hid (Below w.heap.size w w1) := Lib.hid (((Below.refl _ _).alloc (Nat.le_refl _) _).trans (hb1.mono (by simp)))
  clear hb1 k1
  go_wp2_with fail
  refine (memory_any xs ao c1 _ (HR.out.mono HB1.out) hn).mono ?_
  rintro e w2 ⟨b, v, xb, xv, l, rfl, hm, hmx, hll, -, hb2⟩
  have HM := Lib.hid hm
  have HMX := Lib.hid hmx
  have HW : Hid (∀ j, W32 (l.getD j 0)) := Lib.hid fun j => by rw [hll j]; exact hl j
  have HK2 := Lib.hid ((hb2.block _ (blk_lt HK1.out)).trans HK1.out)
  have HB2 := Lib.hid (HB1.out.trans (hb2.mono HB1.out.size))
  have c0 := blk_cell HK2.out 0
  have c1 := blk_cell HK2.out 1
  have c2 := blk_cell HK2.out 2
  have c3 := blk_cell HK2.out 3
  clear hm hmx hll hb2
  have HP1 := Lib.hid (fun wx hm => page_any l b 20 v root page wx hm (by decide) HW.out)
  have HP2 := Lib.hid (fun wx hm => rpage_any l xb 20 xv root page wx hm (by decide) HW.out)
  have HS1 := Lib.hid (fun wx hm => walk_any l b 20 v root addr wr us wx hm (by decide) HW.out HA.out)
  have HS2 := Lib.hid (fun wx hm => rwalk_any l xb 20 xv root addr wr us wx hm (by decide) HW.out HA.out)
  obtain ⟨⟨⟨pf, pt, pw, pu⟩, pk⟩, hp⟩ : ∃ q, pageA l 20 root page = q := ⟨_, rfl⟩
  obtain ⟨⟨sx, sk⟩, hs⟩ : ∃ q, walkA l 20 root addr wr us = q := ⟨_, rfl⟩
  rw [hp] at HP1 HP2
  rw [hs] at HS1 HS2
  clear hp hs
  unfold Ent.v at HP1 HP2
  unfold pairV at HS1 HS2
  go_wp2_with fail
  refine (HE1.out _).mono ?_
  rintro e w3 ⟨rfl, hb3⟩
  have HK3 := Lib.hid ((hb3.block _ (blk_lt HK2.out)).trans HK2.out)
  have HX3 := Lib.hid hb3
  have c0 := blk_cell HK3.out 0
  have c1 := blk_cell HK3.out 1
  have c2 := blk_cell HK3.out 2
  have c3 := blk_cell HK3.out 3
  clear hb3
  go_wp2_with fail
  refine (HE2.out _).mono ?_
  rintro e w4 ⟨rfl, hb4⟩
  have HX4 := Lib.hid (HX3.out.trans (hb4.mono HX3.out.size))
  clear hb4
  go_wp2_with fail
  refine (HO1.out _).mono ?_
  rintro e w5 ⟨rfl, hb5⟩
  obtain ⟨of, ot, ow, ou⟩ := ox
  unfold Ent.v at HO2
  unfold Ent.v
  have HX5 := Lib.hid (HX4.out.trans (hb5.mono HX4.out.size))
  clear hb5
  go_wp2_with fail
  refine (HO2.out _).mono ?_
  rintro e w6 ⟨rfl, hb6⟩
  have KC6 := Lib.hid ((hb6.block w5.heap.size (by simp)).trans (blk_new w5 _))
  have HX6 := Lib.hid (HX5.out.trans ((((Below.refl _ _).alloc (Nat.le_refl _) _).trans (hb6.mono (by simp))).mono HX5.out.size))
  clear hb6
  go_wp2_with fail
  refine (HP1.out _ (HM.out.below (HX6.out.alloc HX6.out.size _))).mono ?_
  rintro e w7 ⟨rfl, hb7⟩
  have KD7 := Lib.hid ((hb7.block w6.heap.size (by simp)).trans (blk_new w6 _))
  have KC7 := Lib.hid ((hb7.block _ (blk_lt (blk_old KC6.out _))).trans (blk_old KC6.out _))
  have HX7 := Lib.hid (HX6.out.trans ((((Below.refl _ _).alloc (Nat.le_refl _) _).trans (hb7.mono (by simp))).mono HX6.out.size))
  clear hb7
  go_wp2_with fail
  refine (HP2.out _ (HMX.out.below (HX7.out.alloc HX7.out.size _))).mono ?_
  rintro e w8 ⟨rfl, hb8⟩
  have KP8 := Lib.hid ((hb8.block w7.heap.size (by simp)).trans (blk_new w7 _))
  have KD8 := Lib.hid ((hb8.block _ (blk_lt (blk_old KD7.out _))).trans (blk_old KD7.out _))
  have KC8 := Lib.hid ((hb8.block _ (blk_lt (blk_old KC7.out _))).trans (blk_old KC7.out _))
  have HX8 := Lib.hid (HX7.out.trans ((((Below.refl _ _).alloc (Nat.le_refl _) _).trans (hb8.mono (by simp))).mono HX7.out.size))
  clear hb8
  go_wp2_with fail
  refine (HS1.out _ (HM.out.below (HX8.out.alloc HX8.out.size _))).mono ?_
  rintro e w9 ⟨rfl, hb9⟩
  have KQ9 := Lib.hid ((hb9.block w8.heap.size (by simp)).trans (blk_new w8 _))
  have KP9 := Lib.hid ((hb9.block _ (blk_lt (blk_old KP8.out _))).trans (blk_old KP8.out _))
  have KD9 := Lib.hid ((hb9.block _ (blk_lt (blk_old KD8.out _))).trans (blk_old KD8.out _))
  have KC9 := Lib.hid ((hb9.block _ (blk_lt (blk_old KC8.out _))).trans (blk_old KC8.out _))
  have HX9 := Lib.hid (HX8.out.trans ((((Below.refl _ _).alloc (Nat.le_refl _) _).trans (hb9.mono (by simp))).mono HX8.out.size))
  clear hb9
  go_wp2_with fail
  refine (HS2.out _ (HMX.out.below HX9.out)).mono ?_
  rintro e w10 ⟨rfl, hb10⟩
  have KQ10 := Lib.hid ((hb10.block _ (blk_lt KQ9.out)).trans KQ9.out)
  have KP10 := Lib.hid ((hb10.block _ (blk_lt KP9.out)).trans KP9.out)
  have KD10 := Lib.hid ((hb10.block _ (blk_lt KD9.out)).trans KD9.out)
  have KC10 := Lib.hid ((hb10.block _ (blk_lt KC9.out)).trans KC9.out)
  have HX10 := Lib.hid (HX9.out.trans (hb10.mono HX9.out.size))
  clear hb10
  have a0 := blk_cell KC10.out 0
  have a1 := blk_cell KC10.out 1
  have a2 := blk_cell KC10.out 2
  have a3 := blk_cell KC10.out 3
  have b0 := blk_cell KD10.out 0
  have b1 := blk_cell KD10.out 1
  have b2 := blk_cell KD10.out 2
  have b3 := blk_cell KD10.out 3
  have HB10 := Lib.hid (HB2.out.trans (HX10.out.mono HB2.out.size))
  cases bk <;> cases ok <;> cases pk <;> cases sk
  all_goals
    go_wp2_with fail
    refine (same_ent ⟨of, ot, ow, ou⟩ _).mono ?_
    rintro e w11 ⟨rfl, hb11⟩
    have KQ11 := (hb11.block _ (blk_lt KQ10.out)).trans KQ10.out
    have KP11 := (hb11.block _ (blk_lt KP10.out)).trans KP10.out
    have HB11 := Lib.hid (HB10.out.trans (hb11.mono HB10.out.size))
    have a0 := blk_cell KQ11 0
    have a1 := blk_cell KQ11 1
    have a2 := blk_cell KQ11 2
    have a3 := blk_cell KQ11 3
    have b0 := blk_cell KP11 0
    have b1 := blk_cell KP11 1
    have b2 := blk_cell KP11 2
    have b3 := blk_cell KP11 3
    clear hb11 KQ11 KP11
    go_wp2_with fail
    refine (same_ent ⟨pf, pt, pw, pu⟩ _).mono ?_
    rintro e w12 ⟨rfl, hb12⟩
    have HB12 := Lib.hid (HB11.out.trans (hb12.mono HB11.out.size))
    clear hb12
    go_wp2
    go_ret
    exact ⟨rfl, HB12.out⟩
theorem walkSays_walk (xs : List Int) (v : Value) (e : Ent) (x : Int) (root page addr : Int) (wr us : Bool) (w : World) (hr : Reads w v xs.length (u32s xs)) (hl : ∀ z ∈ xs, 0 ≤ z ∧ z ≤ 4294967295) (hx : 0 ≤ x ∧ x ≤ 4294967295) (ha : 0 ≤ addr ∧ addr ≤ 4294967295) :
    Calls Tryd.prog 4 #[v, e.v, .int .u32 x, .int .i64 root, .int .i64 page, .int .u32 addr, .bool wr, .bool us] w fun e w' => e = .returned (.bool true) ∧ Below w.heap.size w w' := by
  obtain ⟨ao, cap, rfl, hat⟩ := atL_of_reads hr
  by_cases h : 320 < xs.length
  · exact walkSays_many xs.length ao cap e x root page addr wr us w h
  · exact walkSays_some xs ao cap e x root page addr wr us w hat (by omega) hx (fun j => by
      rcases Nat.lt_or_ge j xs.length with h | h
      · rw [List.getD_eq_getElem?_getD, List.getElem?_eq_getElem h]
        exact hl _ (List.getElem_mem _)
      · rw [List.getD_eq_getElem?_getD, List.getElem?_eq_none h]
        exact ⟨by decide, by decide⟩) ha
end Go.Proofs.YtpaijiamcjbbcaaDoor
