/-
  LoadSays: the walk. Given where the sixteen sentinels lie.
-/
import Derived.Test.YtehmpdgpjpifoaaDoorLdSame
import Derived.Test.YtehmpdgpjpifoaaDoorLdLoadR
namespace Go.Proofs.YtehmpdgpjpifoaaDoor
open Go.RowKit

theorem lpage_int (e : Int) (D C : List Int) (a1 a2 : Option Addr) (k1 k2 : Nat) (p : Int) (rv pv sv : Value) (w : World) (hD : D.length ≤ 2048) (hC : C.length ≤ 2048) (h1 : D.length ≤ k1) (h2 : C.length ≤ k2) (hd : AtL w a1 (u32s D)) (hc : AtL w a2 (u32s C)) (hp : p ≤ 9223372036854775807 ∧ -9223372036854775808 ≤ p) :
    Calls Tryd.prog 21 #[.agg #[.int .u32 e, .slice a1 D.length k1, .slice a2 C.length k2, rv, pv, sv], .int .i64 p] w (PgR (pageI D C p) w) := by
  by_cases hr : 0 ≤ p ∧ p < 256
  · obtain ⟨j, rfl⟩ : ∃ j : Nat, p = (j : Int) := ⟨p.toNat, by omega⟩
    have := page_one e D C a1 a2 k1 k2 j rv pv sv w hD hC h1 h2 hd hc (by omega)
    rw [pageI_nat D C j (by omega)]
    refine this.mono ?_
    rintro x w' ⟨hb, hP⟩
    cases hq : pageOf D C j with
    | none =>
      rw [hq] at hP
      obtain rfl : x = _ := hP
      exact pgR_none hb
    | some ws =>
      rw [hq] at hP
      obtain ⟨g, rfl, hg, hrow⟩ := hP
      exact pgR_some (pageOf_len hq) hb (fun i u hi => ⟨g, 0, rfl, by rw [blk_cell hrow, Nat.zero_add, List.getElem?_toArray]; exact hi, blk_lt hrow⟩) hg
  · have hn : pageI D C p = none := by unfold pageI; rw [if_neg hr]
    rw [hn]
    have hpd : pg D.length ≤ 128 := by unfold pg; omega
    have hpc : pg C.length ≤ 128 := by unfold pg; omega
    by_cases h0 : p < 0
    · refine (page_low_none D.length e p a1 a2 k1 C.length k2 rv pv sv w (by omega) (by omega) (by omega)).mono ?_
      rintro x w' ⟨rfl, hb⟩
      exact pgR_none hb
    · refine (page_high_none C.length e p a2 a1 k2 D.length k1 rv pv sv w (by omega) (by omega) (by omega)).mono ?_
      rintro x w' ⟨rfl, hb⟩
      exact pgR_none hb

/-- what both answer that refuse -/
theorem says_no (E : Nat → Addr) (e : Int) (D C : List Int) (a1 a2 : Option Addr) (k1 k2 : Nat) (rv pv sv : Value) (x : Int) (he : 0 ≤ e ∧ e ≤ 4294967295) (hD : D.length ≤ 2048) (hC : C.length ≤ 2048) :
    (∃ k : Nat, k < 16 ∧ (∀ w : World, ErrsAt errT gOf w E two23 → Calls Tryd.prog 9 #[imgV e D C a1 a2 k1 k2 rv pv sv, .int .i64 x] w fun y w' => y = .returned (.tuple #[.pointer none, errV (E k)]) ∧ Below w.heap.size w w') ∧ ∀ w : World, Calls Tryd.prog 29 #[imgV e D C a1 a2 k1 k2 rv pv sv, .int .i64 x] w fun y w' => y = .returned (.tuple #[.pointer none, .int .i64 ((101 + k : Nat) : Int)]) ∧ Below w.heap.size w w') ∨
    (validC e D.length C.length = 0 ∧ ∃ q : Nat, x = (q : Int) ∧ 17 + pg D.length ≤ q ∧ q ≤ 256) := by
  rcases validC_cases e D.length C.length with h | h | h
  · by_cases hx : x < 17 + (pg D.length : Nat) ∨ 256 < x
    · exact .inl ⟨2, by decide, fun w hE => bare_range E e D C a1 a2 k1 k2 rv pv sv x w hE he hD hC h hx, fun w => rload_range e D C a1 a2 k1 k2 rv pv sv x w he hD hC h hx⟩
    · exact .inr ⟨h, x.toNat, by omega, by omega, by omega⟩
  · refine .inl ⟨2, by decide, fun w hE => bare_bad E e D C a1 a2 k1 k2 rv pv sv x 2 w hE he (by omega) (by rw [h]; rfl), fun w => ?_⟩
    have := rload_bad e D C a1 a2 k1 k2 rv pv sv x w he (by omega) (by rw [h]; decide)
    rw [h] at this
    exact this
  · refine .inl ⟨3, by decide, fun w hE => bare_bad E e D C a1 a2 k1 k2 rv pv sv x 3 w hE he (by omega) (by rw [h]; rfl), fun w => ?_⟩
    have := rload_bad e D C a1 a2 k1 k2 rv pv sv x w he (by omega) (by rw [h]; decide)
    rw [h] at this
    exact this
theorem validC_num (E : Nat → Addr) (e : Int) (d c : Nat) : errNum (errNo E (validC e d c)) E (validC e d c) := errNo_num E _ (by
  rcases validC_cases e d c with h | h | h
  · exact .inl h
  · exact .inr (by rw [h]; decide)
  · exact .inr (by rw [h]; decide))

set_option maxRecDepth 100000 in
set_option maxHeartbeats 32000000 in
theorem loadSays_walk (E : Nat → Addr) (e x1 x2 : Int) (D C : List Int) (a1 a2 a3 a4 a5 : Option Addr) (k1 k2 k3 k4 k5 r p s : Nat) (w : World) (hE : ErrsAt errT gOf w E all16) (hk : D.length ≤ k1 ∧ C.length ≤ k2) (hd : AtL w a1 (u32s D)) (hc : AtL w a2 (u32s C)) (he : 0 ≤ e ∧ e ≤ 4294967295)
    (hx1 : -9223372036854775808 ≤ x1 ∧ x1 ≤ 9223372036854775807) (hx2 : -9223372036854775808 ≤ x2 ∧ x2 ≤ 9223372036854775807) :
    Calls Tryd.prog 5 #[.agg #[.int .u32 e, .slice a1 D.length k1, .slice a2 C.length k2, .slice a3 r k3, .slice a4 p k4, .slice a5 s k5], .int .i64 x1, .int .i64 x2] w fun y w' => y = .returned (.bool true) ∧ Below w.heap.size w w' := by
  have hb0 : Below w.heap.size w (w.alloc (.cells #[.int .u32 e, .slice a1 D.length k1, .slice a2 C.length k2, .slice a3 r k3, .slice a4 p k4, .slice a5 s k5] 28)) := (Below.refl _ _).alloc (Nat.le_refl _) _
  have HB0 := Lib.hid hb0
  have HI : Hid (∀ wx, Below (w.alloc (.cells #[.int .u32 e, .slice a1 D.length k1, .slice a2 C.length k2, .slice a3 r k3, .slice a4 p k4, .slice a5 s k5] 28)).heap.size (w.alloc (.cells #[.int .u32 e, .slice a1 D.length k1, .slice a2 C.length k2, .slice a3 r k3, .slice a4 p k4, .slice a5 s k5] 28)) wx → wx.heap[w.heap.size]? = some (.cells #[.int .u32 e, .slice a1 D.length k1, .slice a2 C.length k2, .slice a3 r k3, .slice a4 p k4, .slice a5 s k5] 28 (0, 0))) := Lib.hid fun wx hx => blk_below (blk_new w (.cells #[.int .u32 e, .slice a1 D.length k1, .slice a2 C.length k2, .slice a3 r k3, .slice a4 p k4, .slice a5 s k5] 28)) hx (by simp)
  have HEK : Hid (∀ wx, Below w.heap.size w wx → ErrsAt errT gOf wx E all16) := Lib.hid fun wx h => hE.mono h
  have HIMG := Lib.hid (fun wx => image_any e D.length C.length r p s a1 a2 a3 a4 a5 k1 k2 k3 k4 k5 300 wx)
  obtain ⟨B, hB⟩ : ∃ B, (decide ((D.length : Int) ≤ 300) && decide ((C.length : Int) ≤ 300) && decide ((r : Int) ≤ 300) && decide ((p : Int) ≤ 300) && decide ((s : Int) ≤ 300)) = B := ⟨_, rfl⟩
  rw [hB] at HIMG
  have HBB := Lib.hid hB
  have HDD := Lib.hid hd
  have HCC := Lib.hid hc
  have HK := Lib.hid hk
  clear hb0 hE hB hd hc hk
  obtain ⟨c0, c1, c2, c3, c4, c5⟩ := img_cells (blk_new w (.cells #[.int .u32 e, .slice a1 D.length k1, .slice a2 C.length k2, .slice a3 r k3, .slice a4 p k4, .slice a5 s k5] 28))
  cases B with
  | false =>
    clear he hx2 hx1
    go_enter Tryd.func5, Tryd.ntmps5
    go_wp2_with fail
    refine (first_true _).mono ?_
    rintro y w1 ⟨rfl, hb1⟩
    have HB1 := Lib.hid hb1
    obtain ⟨d0, d1, d2, d3, d4, d5⟩ := img_cells (HI.out _ hb1)
    clear hb1 c0 c1 c2 c3 c4 c5
    go_wp2_with fail
    refine (HIMG.out _).mono ?_
    rintro y w2 ⟨rfl, hb2⟩
    have HB2 := Lib.hid (HB0.out.trans ((HB1.out.trans (hb2.mono HB1.out.size)).mono HB0.out.size))
    clear hb2 d0 d1 d2 d3 d4 d5
    go_wp2
    go_ret
    exact ⟨rfl, HB2.out⟩
  | true =>
    have hlen : D.length ≤ 300 ∧ C.length ≤ 300 := by
      have := HBB.out
      simp only [Bool.and_eq_true, decide_eq_true_eq] at this
      omega
    have hno := says_no E e D C a1 a2 k1 k2 (.slice a3 r k3) (.slice a4 p k4) (.slice a5 s k5) x1 he (by omega) (by omega)
    unfold imgV at hno
    have HRV := Lib.hid (fun wx => rvalid_any e a1 a2 D.length C.length k1 k2 (.slice a3 r k3) (.slice a4 p k4) (.slice a5 s k5) wx he (by omega))
    have HV := Lib.hid (fun wx hE => valid_any E e a1 a2 D.length C.length k1 k2 (.slice a3 r k3) (.slice a4 p k4) (.slice a5 s k5) wx hE he (by omega))
    have HPG := Lib.hid (fun wx => Pages_any e a1 a2 D.length k1 C.length k2 (.slice a3 r k3) (.slice a4 p k4) (.slice a5 s k5) wx (by omega) (by omega))
    have HRPG := Lib.hid (fun wx => rpages_any e a1 a2 D.length C.length k1 k2 (.slice a3 r k3) (.slice a4 p k4) (.slice a5 s k5) wx (by omega) (by omega))
    have HQ := Lib.hid (fun wx => quota_any e a1 a2 D.length k1 C.length k2 (.slice a3 r k3) (.slice a4 p k4) (.slice a5 s k5) wx (by omega))
    have HRQ := Lib.hid (fun wx => rquota_any e a1 a2 D.length C.length k1 k2 (.slice a3 r k3) (.slice a4 p k4) (.slice a5 s k5) wx (by omega) (by omega))
    have HCP := Lib.hid (fun wx => cpu_any e a1 a2 D.length C.length k1 k2 (.slice a3 r k3) (.slice a4 p k4) (.slice a5 s k5) x1 _ _ wx (by omega) rfl rfl)
    have HRCP := Lib.hid (fun wx => rcpu_any e a1 a2 D.length C.length k1 k2 (.slice a3 r k3) (.slice a4 p k4) (.slice a5 s k5) x1 _ _ wx (by omega) (by omega) rfl rfl)
    have HLP : Hid (∀ wx, Below w.heap.size w wx → Calls Tryd.prog 21 #[.agg #[.int .u32 e, .slice a1 D.length k1, .slice a2 C.length k2, .slice a3 r k3, .slice a4 p k4, .slice a5 s k5], .int .i64 x2] wx (PgR (pageI D C x2) wx)) := Lib.hid fun wx hb => lpage_int e D C a1 a2 k1 k2 x2 (.slice a3 r k3) (.slice a4 p k4) (.slice a5 s k5) wx (by omega) (by omega) HK.out.1 HK.out.2 (HDD.out.mono hb) (HCC.out.mono hb) ⟨hx2.2, hx2.1⟩
    have HRP : Hid (∀ wx, Below w.heap.size w wx → Calls Tryd.prog 22 #[.agg #[.int .u32 e, .slice a1 D.length k1, .slice a2 C.length k2, .slice a3 r k3, .slice a4 p k4, .slice a5 s k5], .int .i64 x2] wx (PgR (pageI D C x2) wx)) := Lib.hid fun wx hb => rpage_int e D C a1 a2 k1 k2 x2 (.slice a3 r k3) (.slice a4 p k4) (.slice a5 s k5) wx (by omega) (by omega) HK.out.1 HK.out.2 (HDD.out.mono hb) (HCC.out.mono hb) ⟨hx2.2, hx2.1⟩
    have HNUM := Lib.hid (validC_num E e D.length C.length)
    obtain ⟨vc, hvc⟩ : ∃ vc, validC e D.length C.length = vc := ⟨_, rfl⟩
    rw [hvc] at HNUM HRV HV
    obtain ⟨Pp, hPp⟩ : ∃ P, pageI D C x2 = P := ⟨_, rfl⟩
    rw [hPp] at HLP HRP
    have HPL : Hid ((Pp.getD []).length ≤ 16) := Lib.hid (by
      rw [← hPp]
      unfold pageI
      split
      · cases hq : pageOf D C x2.toNat with
        | none => simp
        | some ws => rw [Option.getD_some, pageOf_len hq]; exact Nat.le_refl _
      · simp)
    obtain ⟨ws, hws⟩ : ∃ ws, Pp.getD [] = ws := ⟨_, rfl⟩
    obtain ⟨pis, hpis⟩ : ∃ b, Pp.isSome = b := ⟨_, rfl⟩
    unfold PgR at HLP HRP
    rw [hws] at HLP HRP HPL
    rw [hpis] at HLP HRP
    have HHD := Lib.hid (And.intro hlen (And.intro he hx1))
    clear hx2 hPp hws hpis hlen he hx1
    go_enter Tryd.func5, Tryd.ntmps5
    go_wp2_with fail
    refine (first_true _).mono ?_
    rintro y w1 ⟨rfl, hb1⟩
    have HC1 := Lib.hid hb1
    obtain ⟨d0, d1, d2, d3, d4, d5⟩ := img_cells (HI.out _ hb1)
    clear hb1 c0 c1 c2 c3 c4 c5
    go_wp2_with fail
    refine (HIMG.out _).mono ?_
    rintro y w2 ⟨rfl, hb2⟩
    have HC2 := Lib.hid (HC1.out.trans (hb2.mono HC1.out.size))
    obtain ⟨c0, c1, c2, c3, c4, c5⟩ := img_cells (HI.out _ HC2.out)
    clear hb2 d0 d1 d2 d3 d4 d5
    go_wp2_with fail
    refine (HRV.out _).mono ?_
    rintro y w3 ⟨rfl, hb3⟩
    have HC3 := Lib.hid (HC2.out.trans (hb3.mono HC2.out.size))
    obtain ⟨d0, d1, d2, d3, d4, d5⟩ := img_cells (HI.out _ HC3.out)
    clear hb3 c0 c1 c2 c3 c4 c5
    go_wp2_with fail
    refine (HPG.out _).mono ?_
    rintro y w4 ⟨rfl, hb4⟩
    have HC4 := Lib.hid (HC3.out.trans (hb4.mono HC3.out.size))
    obtain ⟨c0, c1, c2, c3, c4, c5⟩ := img_cells (HI.out _ HC4.out)
    clear hb4 d0 d1 d2 d3 d4 d5
    go_wp2_with fail
    refine (HRPG.out _).mono ?_
    rintro y w5 ⟨rfl, hb5⟩
    have HC5 := Lib.hid (HC4.out.trans (hb5.mono HC4.out.size))
    obtain ⟨d0, d1, d2, d3, d4, d5⟩ := img_cells (HI.out _ HC5.out)
    clear hb5 c0 c1 c2 c3 c4 c5
    go_wp2_with fail
    refine (HLP.out _ (HB0.out.trans (HC5.out.mono HB0.out.size))).mono ?_
    rintro y w6 ⟨hb6, av1, cap1, rfl, hat1, -⟩
    have HC6 := Lib.hid (HC5.out.trans (hb6.mono HC5.out.size))
    obtain ⟨c0, c1, c2, c3, c4, c5⟩ := img_cells (HI.out _ HC6.out)
    have HAT1 := Lib.hid hat1
    clear hat1 hb6 d0 d1 d2 d3 d4 d5
    go_wp2_with fail
    refine (HRP.out _ (HB0.out.trans (HC6.out.mono HB0.out.size))).mono ?_
    rintro y w7 ⟨hb7, av2, cap2, rfl, hat2, -⟩
    have HAT2 := Lib.hid hat2
    have HAT1b := Lib.hid (HAT1.out.mono hb7)
    have HC7 := Lib.hid (HC6.out.trans (hb7.mono HC6.out.size))
    clear hat2 hb7 c0 c1 c2 c3 c4 c5
    have HINV : Hid (∀ wx, Below w7.heap.size w7 wx → Below w7.heap.size w7 wx ∧ wx.cell? ⟨w.heap.size, 0, none⟩ = some (.int .u32 e) ∧ wx.cell? ⟨w.heap.size, 1, none⟩ = some (.slice a1 D.length k1) ∧ wx.cell? ⟨w.heap.size, 2, none⟩ = some (.slice a2 C.length k2) ∧ wx.cell? ⟨w.heap.size, 3, none⟩ = some (.slice a3 r k3) ∧ wx.cell? ⟨w.heap.size, 4, none⟩ = some (.slice a4 p k4) ∧ wx.cell? ⟨w.heap.size, 5, none⟩ = some (.slice a5 s k5)) := Lib.hid fun wx h => ⟨h, img_cells (HI.out _ (HC7.out.trans (h.mono HC7.out.size)))⟩
    have HBW : Hid (∀ wx, Below w7.heap.size w7 wx → Below w.heap.size w wx) := Lib.hid fun wx h => HB0.out.trans ((HC7.out.trans (h.mono HC7.out.size)).mono HB0.out.size)
    have HSW : Hid (∀ wx, Below w7.heap.size w7 wx → Calls Tryd.prog 25 #[.slice av1 ws.length cap1, .slice av2 ws.length cap2] wx fun e w' => e = .returned (.bool true) ∧ ∃ n, w' = wx.drewN n) := Lib.hid fun wx h => by
      have := sameWords_any ws ws av1 av2 cap1 cap2 wx (HAT1b.out.mono h) (HAT2.out.mono h) (by have := HPL.out; omega) (by have := HPL.out; omega)
      rw [decide_eq_true rfl] at this
      exact this
    have HST1 := Lib.hid (HINV.out _ (Below.refl _ _).drew)
    have hP0 := HST1.out
    go_wp2_with fail
    go_region_held3 (fun wx => Below w7.heap.size w7 wx ∧ wx.cell? ⟨w.heap.size, 0, none⟩ = some (.int .u32 e) ∧ wx.cell? ⟨w.heap.size, 1, none⟩ = some (.slice a1 D.length k1) ∧ wx.cell? ⟨w.heap.size, 2, none⟩ = some (.slice a2 C.length k2) ∧ wx.cell? ⟨w.heap.size, 3, none⟩ = some (.slice a3 r k3) ∧ wx.cell? ⟨w.heap.size, 4, none⟩ = some (.slice a4 p k4) ∧ wx.cell? ⟨w.heap.size, 5, none⟩ = some (.slice a5 s k5)) (first | exact HST1.out | exact HINV.out _ (And.left (by assumption)) | exact HINV.out _ (sm_next (And.left (by assumption)) (by assumption)) | exact HINV.out _ (below_drewN (And.left (by assumption)) _) | assumption)
      (first | (go_at_call 8; refine (HV.out _ (errs23 (HEK.out _ (HBW.out _ (And.left (by assumption)))))).mono ?_; rintro e w8 ⟨rfl, hb8⟩) | (go_at_call 10; refine (is_any E _ vc vc HNUM.out _ (HEK.out _ (HBW.out _ (And.left (by assumption))))).mono ?_; rintro e w8 ⟨rfl, hb8⟩) | (go_at_call 23; refine (HQ.out _).mono ?_; rintro e w8 ⟨rfl, hb8⟩) | (go_at_call 24; refine (HRQ.out _).mono ?_; rintro e w8 ⟨rfl, hb8⟩) | (go_at_call 25; refine (HSW.out _ (And.left (by assumption))).mono ?_; rintro e w8 ⟨rfl, n8, rfl⟩) | (go_at_call 27; refine (HCP.out _).mono ?_; rintro e w8 ⟨rfl, hb8⟩) | (go_at_call 28; refine (HRCP.out _).mono ?_; rintro e w8 ⟨rfl, hb8⟩) | (go_at_call 26; refine (cpu_self _ _).mono ?_; rintro e w8 ⟨rfl, hb8⟩))
    all_goals
      have HW8 : Hid (Below w7.heap.size w7 w8) := Lib.hid (And.left (by assumption))
      have HC8 := Lib.hid (HC7.out.trans (HW8.out.mono HC7.out.size))
      have HB8 := Lib.hid (HB0.out.trans (HC8.out.mono HB0.out.size))
      clear hP0 HST1
      obtain ⟨c0, c1, c2, c3, c4, c5⟩ := img_cells (HI.out _ HC8.out)
      rcases hno with ⟨k, hk16, hbad, hrbad⟩ | ⟨hvc0, q, rfl, hq, hq2⟩
      · have HBAD := Lib.hid hbad
        have HRBAD := Lib.hid hrbad
        have HK16 := Lib.hid hk16
        clear hbad hrbad hk16
        go_wp2_with fail
        refine (HBAD.out _ (errs23 (HEK.out _ HB8.out))).mono ?_
        rintro y w9 ⟨rfl, hb9⟩
        have HC9 := Lib.hid (HC8.out.trans (hb9.mono HC8.out.size))
        obtain ⟨d0, d1, d2, d3, d4, d5⟩ := img_cells (HI.out _ HC9.out)
        clear hb9 c0 c1 c2 c3 c4 c5
        go_wp2_with fail
        refine (HRBAD.out _).mono ?_
        rintro y w10 ⟨rfl, hb10⟩
        have HC10 := Lib.hid (HC9.out.trans (hb10.mono HC9.out.size))
        have HB10 := Lib.hid (HB0.out.trans (HC10.out.mono HB0.out.size))
        clear hb10 d0 d1 d2 d3 d4 d5
        go_wp2_with fail
        refine (is_any E (errV (E k)) _ _ (.inr ⟨k, HK16.out, rfl, rfl⟩) _ (HEK.out _ HB10.out)).mono ?_
        rintro y w11 ⟨rfl, hb11⟩
        have HB11 := Lib.hid (HB10.out.trans (hb11.mono HB10.out.size))
        clear hb11
        go_wp2
        go_ret
        exact ⟨rfl, HB11.out⟩
      · have hlen := HHD.out.1
        have hpd : pg D.length ≤ 128 := by unfold pg; omega
        have hpc : pg C.length ≤ 128 := by unfold pg; omega
        have HOK := Lib.hid (bare_ok E e D C a1 a2 k1 k2 (.slice a3 r k3) (.slice a4 p k4) (.slice a5 s k5) q w8 (errs23 (HEK.out _ HB8.out)) HHD.out.2.1 (by omega) (by omega) hvc0 hq hq2 HK.out.1 HK.out.2 (HDD.out.mono HB8.out) (HCC.out.mono HB8.out))
        unfold imgV at HOK
        have HLD : Hid (∀ wx, Below w.heap.size w wx → _) := Lib.hid (fun wx hb => rload_ok e D C a1 a2 k1 k2 (.slice a3 r k3) (.slice a4 p k4) (.slice a5 s k5) q wx HHD.out.2.1 (by omega) (by omega) hvc0 hq hq2 HK.out.1 HK.out.2 (HDD.out.mono hb) (HCC.out.mono hb))
        have HN : Hid (q + pg C.length ≤ 1024) := Lib.hid (by omega)
        clear hlen hpd hpc hvc0 hq hq2
        go_wp2_with fail
        refine HOK.out.mono ?_
        rintro y w9 ⟨bb, mb, mv, rfl, hma, hm9, -, -, -, -, hb9⟩
        have HMA : Hid (∀ wx, Below w9.heap.size w9 wx → MachAt wx bb mb (ldC e q (17 + (pg D.length : Nat))) q 0 false) := Lib.hid fun wx h => by
          obtain ⟨db, hb⟩ := hma
          exact ⟨db, blk_below hb h (blk_lt hb)⟩
        have HM9 := Lib.hid hm9
        have HC9 := Lib.hid (HC8.out.trans (hb9.mono HC8.out.size))
        have HB9 := Lib.hid (HB0.out.trans (HC9.out.mono HB0.out.size))
        obtain ⟨d0, d1, d2, d3, d4, d5⟩ := img_cells (HI.out _ HC9.out)
        clear hma hm9 hb9 c0 c1 c2 c3 c4 c5
        go_wp2_with fail
        refine (HLD.out _ HB9.out).mono ?_
        rintro y w10 ⟨xb, yb, yv, rfl, hx, hy, -, -, -, -, hb10⟩
        have HX : Hid (∀ wx, Below w10.heap.size w10 wx → MachR wx xb yb (ldC e q (17 + (pg D.length : Nat))) q) := Lib.hid fun wx h => by
          obtain ⟨db, hb⟩ := hx
          exact ⟨db, blk_below hb h (blk_lt hb)⟩
        have HY := Lib.hid hy
        have HM10 := Lib.hid (HM9.out.below hb10)
        have HMA10 := Lib.hid (HMA.out _ hb10)
        have HB10 := Lib.hid (HB9.out.trans (hb10.mono HB9.out.size))
        clear hx hy hb10 d0 d1 d2 d3 d4 d5
        go_wp2_with fail
        refine (is_any E .nilIface 0 0 (.inl ⟨rfl, rfl⟩) _ (HEK.out _ HB10.out)).mono ?_
        rintro y w11 ⟨rfl, hb11⟩
        have HMA11 : Hid (MachAt w11 bb mb (ldC e q (17 + (pg D.length : Nat))) q 0 false) := Lib.hid (by
          obtain ⟨db, hb⟩ := HMA10.out
          exact ⟨db, blk_below hb hb11 (blk_lt hb)⟩)
        have HSM := Lib.hid (msame_any w11 bb mb xb yb _ _ _ mv yv _ HMA11.out (HM10.out.below hb11) (HX.out _ hb11) (HY.out.below hb11) HN.out)
        have HB11 := Lib.hid (HB10.out.trans (hb11.mono HB10.out.size))
        clear hb11
        go_wp2_with fail
        refine HSM.out.mono ?_
        rintro y w12 ⟨rfl, hb12⟩
        have HB12 := Lib.hid (HB11.out.trans (hb12.mono HB11.out.size))
        clear hb12
        go_wp2
        go_ret
        exact ⟨rfl, HB12.out⟩
end Go.Proofs.YtehmpdgpjpifoaaDoor
