/-
  load.Bare.
-/
import Derived.Test.YtehmpdgpjpifoaaDoorLdBare2
import Derived.Test.YtehmpdgpjpifoaaDoorMach
import Derived.BigQuiet
namespace Go.Proofs.YtehmpdgpjpifoaaDoor
open Go.RowKit

theorem img_cells {wx : World} {b : Nat} {v0 v1 v2 v3 v4 v5 : Value} {t : TypeId} {fr : Nat × Nat} (h : wx.heap[b]? = some (.cells #[v0, v1, v2, v3, v4, v5] t fr)) :
    wx.cell? ⟨b, 0, none⟩ = some v0 ∧ wx.cell? ⟨b, 1, none⟩ = some v1 ∧ wx.cell? ⟨b, 2, none⟩ = some v2 ∧ wx.cell? ⟨b, 3, none⟩ = some v3 ∧ wx.cell? ⟨b, 4, none⟩ = some v4 ∧ wx.cell? ⟨b, 5, none⟩ = some v5 :=
  ⟨blk_cell h 0, blk_cell h 1, blk_cell h 2, blk_cell h 3, blk_cell h 4, blk_cell h 5⟩

set_option maxRecDepth 100000 in
set_option maxHeartbeats 3200000 in
theorem bare_bad (E : Nat → Addr) (e : Int) (D C : List Int) (a1 a2 : Option Addr) (k1 k2 : Nat) (rv pv sv : Value) (x : Int) (k : Nat) (w : World) (hE : ErrsAt errT gOf w E two23) (he : 0 ≤ e ∧ e ≤ 4294967295) (hC : C.length ≤ 1000000) (hk : errNo E (validC e D.length C.length) = errV (E k)) :
    Calls Tryd.prog 9 #[imgV e D C a1 a2 k1 k2 rv pv sv, .int .i64 x] w fun y w' => y = .returned (.tuple #[.pointer none, errV (E k)]) ∧ Below w.heap.size w w' := by
  have hb0 : Below w.heap.size w (w.alloc (.cells #[.int .u32 e, .slice a1 D.length k1, .slice a2 C.length k2, rv, pv, sv] 28)) := (Below.refl _ _).alloc (Nat.le_refl _) _
  have HB0 := Lib.hid hb0
  have HV := Lib.hid (valid_any E e a1 a2 D.length C.length k1 k2 rv pv sv _ (hE.mono hb0) he hC)
  rw [hk] at HV
  obtain ⟨c0, c1, c2, c3, c4, c5⟩ := img_cells (blk_new w (.cells #[.int .u32 e, .slice a1 D.length k1, .slice a2 C.length k2, rv, pv, sv] 28))
  clear hb0 hE hk
  unfold imgV
  go_enter Tryd.func9, Tryd.ntmps9
  go_wp2_with fail
  refine HV.out.mono ?_
  rintro y w1 ⟨rfl, hb1⟩
  have HB1 := Lib.hid (HB0.out.trans (hb1.mono HB0.out.size))
  clear hb1
  go_wp2
  go_ret2
  exact ⟨rfl, HB1.out⟩

set_option maxRecDepth 100000 in
set_option maxHeartbeats 3200000 in
theorem bare_range (E : Nat → Addr) (e : Int) (D C : List Int) (a1 a2 : Option Addr) (k1 k2 : Nat) (rv pv sv : Value) (x : Int) (w : World) (hE : ErrsAt errT gOf w E two23) (he : 0 ≤ e ∧ e ≤ 4294967295) (hD : D.length ≤ 2048) (hC : C.length ≤ 2048) (hk : validC e D.length C.length = 0) (hx : x < 17 + (pg D.length : Nat) ∨ 256 < x) :
    Calls Tryd.prog 9 #[imgV e D C a1 a2 k1 k2 rv pv sv, .int .i64 x] w fun y w' => y = .returned (.tuple #[.pointer none, errV (E 2)]) ∧ Below w.heap.size w w' := by
  have hb0 : Below w.heap.size w (w.alloc (.cells #[.int .u32 e, .slice a1 D.length k1, .slice a2 C.length k2, rv, pv, sv] 28)) := (Below.refl _ _).alloc (Nat.le_refl _) _
  have HB0 := Lib.hid hb0
  have HV := Lib.hid (valid_any E e a1 a2 D.length C.length k1 k2 rv pv sv _ (hE.mono hb0) he (by omega))
  rw [hk] at HV
  have HE : Hid (∀ wx, Below w.heap.size w wx → wx.cell? ⟨1, 0, none⟩ = some (errV (E 2)) ∧ 1 < wx.heap.size) := Lib.hid fun wx hx => ⟨((hE.mono hx).1 2 (by decide)).1, World.block_lt_of_cell? _ _ ((hE.mono hx).1 2 (by decide)).1⟩
  have HI : Hid (∀ wx, Below (w.alloc (.cells #[.int .u32 e, .slice a1 D.length k1, .slice a2 C.length k2, rv, pv, sv] 28)).heap.size (w.alloc (.cells #[.int .u32 e, .slice a1 D.length k1, .slice a2 C.length k2, rv, pv, sv] 28)) wx → wx.heap[w.heap.size]? = some (.cells #[.int .u32 e, .slice a1 D.length k1, .slice a2 C.length k2, rv, pv, sv] 28 (0, 0))) := Lib.hid fun wx hx => blk_below (blk_new w (.cells #[.int .u32 e, .slice a1 D.length k1, .slice a2 C.length k2, rv, pv, sv] 28)) hx (by simp)
  have HQ := Lib.hid (fun wx => quota_any e a1 a2 D.length k1 C.length k2 rv pv sv wx (by omega))
  have hpgd : pg D.length ≤ 128 := by unfold pg; omega
  obtain ⟨pd, hpd⟩ : ∃ p, pg D.length = p := ⟨_, rfl⟩
  rw [hpd] at HQ hx hpgd
  obtain ⟨c0, c1, c2, c3, c4, c5⟩ := img_cells (blk_new w (.cells #[.int .u32 e, .slice a1 D.length k1, .slice a2 C.length k2, rv, pv, sv] 28))
  clear hb0 hE hk hpd
  have hcase : (x < 17 + (pd : Int)) ∨ (¬ x < 17 + (pd : Int) ∧ 256 < x) := by omega
  clear hx
  unfold imgV
  rcases hcase with h1 | ⟨h1, h2⟩
  all_goals
    go_enter Tryd.func9, Tryd.ntmps9
    go_wp2_with fail
    refine HV.out.mono ?_
    rintro y w1 ⟨rfl, hb1⟩
    have HB1 := Lib.hid (HB0.out.trans (hb1.mono HB0.out.size))
    obtain ⟨d0, d1, d2, d3, d4, d5⟩ := img_cells (HI.out _ hb1)
    clear hb1 c0 c1 c2 c3 c4 c5
    unfold errNo
    rw [if_pos rfl]
    go_wp2_with fail
    refine (HQ.out _).mono ?_
    rintro y w2 ⟨rfl, hb2⟩
    have HB2 := Lib.hid (HB1.out.trans (hb2.mono HB1.out.size))
    obtain ⟨e2, g2⟩ := HE.out _ HB2.out
    clear hb2 d0 d1 d2 d3 d4 d5
    go_wp2_with fail
    go_quiet (fail)
    go_wp2
    go_ret2
    exact ⟨rfl, below_drewN HB2.out _⟩

set_option maxRecDepth 100000 in
set_option maxHeartbeats 6400000 in
theorem bare_ok (E : Nat → Addr) (e : Int) (D C : List Int) (a1 a2 : Option Addr) (k1 k2 : Nat) (rv pv sv : Value) (q : Nat) (w : World) (hE : ErrsAt errT gOf w E two23) (he : 0 ≤ e ∧ e ≤ 4294967295) (hD : D.length ≤ 2048) (hC : C.length ≤ 2048) (hk : validC e D.length C.length = 0) (hq : 17 + pg D.length ≤ q) (hq2 : q ≤ 256) (h1 : D.length ≤ k1) (h2 : C.length ≤ k2) (hd : AtL w a1 (u32s D)) (hc : AtL w a2 (u32s C)) :
    Calls Tryd.prog 9 #[imgV e D C a1 a2 k1 k2 rv pv sv, .int .i64 (q : Int)] w fun y w' => ∃ bb mb mv, y = .returned (.tuple #[.pointer (some ⟨bb, 0, none⟩), .nilIface]) ∧ MachAt w' bb mb (ldC e q (17 + (pg D.length : Nat))) q 0 false ∧ MAt w' mb mv (q + pg C.length) (loadL D C q (List.replicate (16 * (q + pg C.length)) 0)) ∧ w.heap.size ≤ mb ∧ w.heap.size ≤ bb ∧ bb ≠ mb ∧ (∀ k, inRow mv k → w.heap.size ≤ k) ∧ Below w.heap.size w w' := by
  have hb0 : Below w.heap.size w (w.alloc (.cells #[.int .u32 e, .slice a1 D.length k1, .slice a2 C.length k2, rv, pv, sv] 28)) := (Below.refl _ _).alloc (Nat.le_refl _) _
  have HB0 := Lib.hid hb0
  have HV := Lib.hid (valid_any E e a1 a2 D.length C.length k1 k2 rv pv sv _ (hE.mono hb0) he (by omega))
  rw [hk] at HV
  have HI : Hid (∀ wx, Below (w.alloc (.cells #[.int .u32 e, .slice a1 D.length k1, .slice a2 C.length k2, rv, pv, sv] 28)).heap.size (w.alloc (.cells #[.int .u32 e, .slice a1 D.length k1, .slice a2 C.length k2, rv, pv, sv] 28)) wx → wx.heap[w.heap.size]? = some (.cells #[.int .u32 e, .slice a1 D.length k1, .slice a2 C.length k2, rv, pv, sv] 28 (0, 0))) := Lib.hid fun wx hx => blk_below (blk_new w (.cells #[.int .u32 e, .slice a1 D.length k1, .slice a2 C.length k2, rv, pv, sv] 28)) hx (by simp)
  have HQ := Lib.hid (fun wx => quota_any e a1 a2 D.length k1 C.length k2 rv pv sv wx (by omega))
  have hpgd : pg D.length ≤ 128 := by unfold pg; omega
  have hpgc : pg C.length ≤ 128 := by unfold pg; omega
  have HP := Lib.hid (fun wx => pages_any a2 C.length k2 wx (by omega))
  obtain ⟨n, hn⟩ : ∃ n, q + pg C.length = n := ⟨_, rfl⟩
  have hn1 : 1 ≤ n := by omega
  have hn2 : n ≤ 1024 := by omega
  have HNEW := Lib.hid (fun wx => mm_new n wx hn1 hn2)
  have HFILL : Hid (∀ wx b v, MAt wx b v n (List.replicate (16 * n) 0) → Below w.heap.size w wx → (∀ k, inRow v k → w.heap.size ≤ k) → Calls Tryd.prog 33 #[.pointer (some ⟨b, 0, none⟩), imgV e D C a1 a2 k1 k2 rv pv sv, .int .i64 (q : Int)] wx fun y w' => y = .returned (.tuple #[]) ∧ MAt w' b v n (loadL D C q (List.replicate (16 * n) 0)) ∧ Only (fun k => inRow v k) wx w') := Lib.hid fun wx b v hm hb hv =>
    fill_any e D C a1 a2 k1 k2 rv pv sv _ b n q v wx hm hn.symm hq hq2 hD hC h1 h2 (hd.mono hb) (hc.mono hb)
      (fun h0 p hp hr => by obtain ⟨b', off, e', -, hl⟩ := hd 0 _ (u32s_get D 0 h0); rw [hp] at e'; cases e'; have := hv _ hr; dsimp only at this; omega)
      (fun h0 p hp hr => by obtain ⟨b', off, e', -, hl⟩ := hc 0 _ (u32s_get C 0 h0); rw [hp] at e'; cases e'; have := hv _ hr; dsimp only at this; omega)
  have HCPU := Lib.hid (fun wx => cpu_any e a1 a2 D.length C.length k1 k2 rv pv sv (q : Int) (q : Int) (17 + ((pg D.length : Nat) : Int)) wx (by omega) (IntWalk.u32_in (q : Int) (by omega)) rfl)
  rw [hn]
  have wn := IntWalk.i64_in ((q : Int) + ((pg C.length : Nat) : Int)) (by omega)
  have HN : Hid ((q : Int) + ((pg C.length : Nat) : Int) = (n : Int)) := Lib.hid (by omega)
  obtain ⟨pd, hpd⟩ : ∃ p, pg D.length = p := ⟨_, rfl⟩
  rw [hpd] at HQ HCPU hpgd hq
  rw [hpd]
  obtain ⟨pc, hpc⟩ : ∃ p, pg C.length = p := ⟨_, rfl⟩
  rw [hpc] at HP HN wn
  have hq1 : ¬ (q : Int) < 17 + (pd : Int) := by omega
  have hq3 : ¬ (256 : Int) < (q : Int) := by omega
  have h17 : 17 ≤ q := by omega
  obtain ⟨c0, c1, c2, c3, c4, c5⟩ := img_cells (blk_new w (.cells #[.int .u32 e, .slice a1 D.length k1, .slice a2 C.length k2, rv, pv, sv] 28))
  clear hb0 hE hk hpd hpc hn hd hc h1 h2 hq hpgc hpgd hD hC hn1
  unfold imgV at HFILL ⊢
  go_enter Tryd.func9, Tryd.ntmps9
  go_wp2_with fail
  refine HV.out.mono ?_
  rintro y w1 ⟨rfl, hb1⟩
  have HB1 := Lib.hid hb1
  obtain ⟨d0, d1, d2, d3, d4, d5⟩ := img_cells (HI.out _ hb1)
  clear hb1 c0 c1 c2 c3 c4 c5
  unfold errNo
  rw [if_pos rfl]
  go_wp2_with fail
  refine (HQ.out _).mono ?_
  rintro y w2 ⟨rfl, hb2⟩
  have HB2 := Lib.hid (HB1.out.trans (hb2.mono HB1.out.size))
  obtain ⟨e0, e1, e2, e3, e4, e5⟩ := img_cells (HI.out _ HB2.out)
  clear hb2 d0 d1 d2 d3 d4 d5
  go_wp2_with fail
  refine (HP.out _).mono ?_
  rintro y w2' ⟨rfl, rfl⟩
  go_wp2_with fail
  rw [HN.out]
  refine (HNEW.out _).mono ?_
  rintro y w3 ⟨b, v, rfl, hm3, hbs, hvs, hb3⟩
  have HM3 := Lib.hid hm3
  have hs2 := HB2.out.size
  have HBS : Hid (w.heap.size < b) := Lib.hid (by simp at hs2; omega)
  have HVS : Hid (∀ k, inRow v k → w.heap.size < k) := Lib.hid (fun k hk => by have := hvs k hk; simp at hs2; omega)
  have HB3 := Lib.hid (HB2.out.trans (hb3.mono HB2.out.size))
  obtain ⟨f0, f1, f2, f3, f4, f5⟩ := img_cells (HI.out _ HB3.out)
  clear hm3 hbs hvs hb3 hs2 e0 e1 e2 e3 e4 e5
  go_wp2_with fail
  refine (HFILL.out _ b v HM3.out (HB0.out.trans (HB3.out.mono HB0.out.size)) (fun k hk => Nat.le_of_lt (HVS.out k hk))).mono ?_
  rintro y w4 ⟨rfl, hm4, ho4⟩
  have HM4 := Lib.hid hm4
  have HI4 := Lib.hid (ho4.blk (HI.out _ HB3.out) (fun e => by have := HVS.out _ e; omega))
  have hb30 := HB0.out.trans (HB3.out.mono HB0.out.size)
  have HB4 : Hid (Below w.heap.size w w4) := Lib.hid (hb30.trans (ho4.below (B := w.heap.size) hb30.size (fun k hk => Nat.le_of_lt (HVS.out k hk))))
  obtain ⟨g0, g1, g2, g3, g4, g5⟩ := img_cells HI4.out
  clear hm4 ho4 hb30 f0 f1 f2 f3 f4 f5
  go_wp2_with fail
  refine (HCPU.out _).mono ?_
  rintro y w5 ⟨rfl, hb5⟩
  have HM5 := Lib.hid (HM4.out.below hb5)
  have HB5 := Lib.hid (HB4.out.trans (hb5.mono HB4.out.size))
  clear hb5 g0 g1 g2 g3 g4 g5
  go_wp2_with fail
  refine (bnew_ok _ _ b n v q w5 HM5.out hn2 h17 hq2).mono ?_
  rintro y w6 ⟨bb, mb, mv, rfl, hma, hm6, hs1, hs2, hne, hv6, hb6⟩
  have HS5 := Lib.hid HB5.out.size
  have HFIN := Lib.hid (And.intro hma (And.intro hm6 (And.intro (Nat.le_trans HS5.out hs1) (And.intro (Nat.le_trans HS5.out hs2) (And.intro hne (And.intro (fun k hk => Nat.le_trans HS5.out (hv6 k hk)) (HB5.out.trans (hb6.mono HB5.out.size))))))))
  clear hma hm6 hs1 hs2 hne hv6 hb6
  go_wp2
  go_ret2
  exact ⟨bb, mb, mv, rfl, HFIN.out⟩
end Go.Proofs.YtehmpdgpjpifoaaDoor
