/-
  facaderef9.Load: a machine that an image is loaded into, by the document.
-/
import Derived.Test.YtehmpdgpjpifoaaDoorLdRef2
import Derived.Test.YtehmpdgpjpifoaaDoorLdNewR
import Derived.Test.YtehmpdgpjpifoaaDoorMr2
namespace Go.Proofs.YtehmpdgpjpifoaaDoor
open Go.RowKit

set_option maxRecDepth 100000 in
set_option maxHeartbeats 3200000 in
theorem rload_bad (e : Int) (D C : List Int) (a1 a2 : Option Addr) (k1 k2 : Nat) (rv pv sv : Value) (x : Int) (w : World) (he : 0 ≤ e ∧ e ≤ 4294967295) (hC : C.length ≤ 1000000) (hk : validC e D.length C.length ≠ 0) :
    Calls Tryd.prog 29 #[.agg #[.int .u32 e, .slice a1 D.length k1, .slice a2 C.length k2, rv, pv, sv], .int .i64 x] w fun y w' => y = .returned (.tuple #[.pointer none, .int .i64 (validC e D.length C.length)]) ∧ Below w.heap.size w w' := by
  have hb0 : Below w.heap.size w (w.alloc (.cells #[.int .u32 e, .slice a1 D.length k1, .slice a2 C.length k2, rv, pv, sv] 28)) := (Below.refl _ _).alloc (Nat.le_refl _) _
  have HB0 := Lib.hid hb0
  have HI : Hid (∀ wx, Below (w.alloc (.cells #[.int .u32 e, .slice a1 D.length k1, .slice a2 C.length k2, rv, pv, sv] 28)).heap.size (w.alloc (.cells #[.int .u32 e, .slice a1 D.length k1, .slice a2 C.length k2, rv, pv, sv] 28)) wx → wx.heap[w.heap.size]? = some (.cells #[.int .u32 e, .slice a1 D.length k1, .slice a2 C.length k2, rv, pv, sv] 28 (0, 0))) := Lib.hid fun wx hx => blk_below (blk_new w (.cells #[.int .u32 e, .slice a1 D.length k1, .slice a2 C.length k2, rv, pv, sv] 28)) hx (by simp)
  obtain ⟨c0, c1, c2, c3, c4, c5⟩ := img_cells (blk_new w (.cells #[.int .u32 e, .slice a1 D.length k1, .slice a2 C.length k2, rv, pv, sv] 28))
  have HV := Lib.hid (rvalid_any e a1 a2 D.length C.length k1 k2 rv pv sv (w.alloc (.cells #[.int .u32 e, .slice a1 D.length k1, .slice a2 C.length k2, rv, pv, sv] 28)) he hC)
  obtain ⟨z, hz⟩ : ∃ z, validC e D.length C.length = z := ⟨_, rfl⟩
  rw [hz] at HV hk ⊢
  have hk' : (z == 0) = false := by simp [hk]
  clear hb0 hz
  go_enter Tryd.func29, Tryd.ntmps29
  go_wp2_with fail
  refine HV.out.mono ?_
  rintro y w1 ⟨rfl, hb1⟩
  have HB1 := Lib.hid (HB0.out.trans (hb1.mono HB0.out.size))
  clear hb1
  go_wp2
  go_ret2
  exact ⟨rfl, HB1.out⟩

set_option maxRecDepth 100000 in
set_option maxHeartbeats 3200000 in
theorem rload_range (e : Int) (D C : List Int) (a1 a2 : Option Addr) (k1 k2 : Nat) (rv pv sv : Value) (x : Int) (w : World) (he : 0 ≤ e ∧ e ≤ 4294967295) (hD : D.length ≤ 2048) (hC : C.length ≤ 2048) (hk : validC e D.length C.length = 0) (hx : x < 17 + (pg D.length : Nat) ∨ 256 < x) :
    Calls Tryd.prog 29 #[.agg #[.int .u32 e, .slice a1 D.length k1, .slice a2 C.length k2, rv, pv, sv], .int .i64 x] w fun y w' => y = .returned (.tuple #[.pointer none, .int .i64 103]) ∧ Below w.heap.size w w' := by
  have hb0 : Below w.heap.size w (w.alloc (.cells #[.int .u32 e, .slice a1 D.length k1, .slice a2 C.length k2, rv, pv, sv] 28)) := (Below.refl _ _).alloc (Nat.le_refl _) _
  have HB0 := Lib.hid hb0
  have HI : Hid (∀ wx, Below (w.alloc (.cells #[.int .u32 e, .slice a1 D.length k1, .slice a2 C.length k2, rv, pv, sv] 28)).heap.size (w.alloc (.cells #[.int .u32 e, .slice a1 D.length k1, .slice a2 C.length k2, rv, pv, sv] 28)) wx → wx.heap[w.heap.size]? = some (.cells #[.int .u32 e, .slice a1 D.length k1, .slice a2 C.length k2, rv, pv, sv] 28 (0, 0))) := Lib.hid fun wx hx => blk_below (blk_new w (.cells #[.int .u32 e, .slice a1 D.length k1, .slice a2 C.length k2, rv, pv, sv] 28)) hx (by simp)
  obtain ⟨c0, c1, c2, c3, c4, c5⟩ := img_cells (blk_new w (.cells #[.int .u32 e, .slice a1 D.length k1, .slice a2 C.length k2, rv, pv, sv] 28))
  have HV := Lib.hid (rvalid_any e a1 a2 D.length C.length k1 k2 rv pv sv (w.alloc (.cells #[.int .u32 e, .slice a1 D.length k1, .slice a2 C.length k2, rv, pv, sv] 28)) he (by omega))
  rw [hk] at HV
  have HQ := Lib.hid (fun wx => rquota_any e a1 a2 D.length C.length k1 k2 rv pv sv wx (by omega) (by omega))
  have hpgd : pg D.length ≤ 128 := by unfold pg; omega
  obtain ⟨pd, hpd⟩ : ∃ p, pg D.length = p := ⟨_, rfl⟩
  rw [hpd] at HQ hx hpgd
  clear hb0 hk hpd
  have hcase : (x < 17 + (pd : Int)) ∨ (¬ x < 17 + (pd : Int) ∧ 256 < x) := by omega
  clear hx
  rcases hcase with h1 | ⟨h1, h2⟩
  all_goals
    go_enter Tryd.func29, Tryd.ntmps29
    go_wp2_with fail
    refine HV.out.mono ?_
    rintro y w1 ⟨rfl, hb1⟩
    have HB1 := Lib.hid (HB0.out.trans (hb1.mono HB0.out.size))
    obtain ⟨d0, d1, d2, d3, d4, d5⟩ := img_cells (HI.out _ hb1)
    clear hb1 c0 c1 c2 c3 c4 c5
    go_wp2_with fail
    refine (HQ.out _).mono ?_
    rintro y w2 ⟨rfl, hb2⟩
    have HB2 := Lib.hid (HB1.out.trans (hb2.mono HB1.out.size))
    clear hb2 d0 d1 d2 d3 d4 d5
    go_wp2
    go_ret2
    exact ⟨rfl, HB2.out⟩

/-- the entries of the first level, so far -/
def RtTo (n xb : Nat) (xv : Value) (w0 : World) (i : Value) (wr : World) : Prop := ∃ k : Nat, k ≤ 16 ∧ i = .int .i64 (k : Int) ∧ MAr wr xb xv n (tabL (List.replicate (16 * n) 0) k) ∧ Only (fun k => inRow xv k) w0 wr
/-- the pages, so far -/
def RpTo (D C : List Int) (q n xb : Nat) (xv : Value) (w0 : World) (base lim : Nat) (i : Value) (wr : World) : Prop := ∃ (j : Nat) (X : List Int), j ≤ lim ∧ i = .int .i64 (j : Int) ∧ MAr wr xb xv n X ∧ (∀ t, X.getD t 0 = memK D C q (base + j) t) ∧ Only (fun k => inRow xv k) w0 wr
theorem memK_skip (D C : List Int) (q t : Nat) (hD : D.length ≤ 2048) (a b : Nat) (h : ∀ k, a ≤ k → k < b → pageOf D C k = none) (hab : a ≤ b) : memK D C q a t = memK D C q b t := by
  obtain ⟨m, rfl⟩ : ∃ m, b = a + m := ⟨b - a, by omega⟩
  clear hab
  induction m with
  | zero => rfl
  | succ m ih => rw [ih (fun k h1 h2 => h k h1 (by omega)), show a + (m + 1) = (a + m) + 1 by omega, memK_none D C q (a + m) t hD (h (a + m) (by omega) (by omega))]
/-- a page more: its entry, its words -/
theorem kp_step {D C X ws : List Int} {q n k f at_ : Nat} {z : Int} (hX : X.length = 16 * n) (hg : ∀ t, X.getD t 0 = memK D C q k t) (hP : pageOf D C k = some ws) (hD : D.length ≤ 2048) (hn : n = q + pg C.length) (hq : 17 + pg D.length ≤ q) (hk : k < 256) (hf : pgF q k = f) (ha : at_ = 16 + k) (hz : z = entW (f : Nat) true (decide (k < 128)) true) :
    f < n ∧ at_ < 16 * n ∧ ∀ t, (fillL (writeL X (at_ : Int) z) f ws).getD t 0 = memK D C q (k + 1) t := by
  subst hf ha hz
  have hlt : pgF q k < n := by rw [hn]; exact pgF_lt hP hq
  refine ⟨hlt, by omega, fun t => ?_⟩
  rw [fillL_get _ n _ _ _ (by rw [wl_len]; exact hX) hlt (by rw [pageOf_len hP]; omega), wl_get _ _ _ _ (by omega), hg t, memK_some D C q k t ws hD hq hk hP]
  have h17 : 17 ≤ pgF q k := by unfold pgF; split <;> omega
  by_cases h1 : t = 16 + k
  · rw [if_pos h1, if_pos h1, if_neg (by omega)]
  · rw [if_neg h1, if_neg h1]

set_option maxRecDepth 100000 in
set_option maxHeartbeats 16000000 in
theorem rload_ok (e : Int) (D C : List Int) (a1 a2 : Option Addr) (k1 k2 : Nat) (rv pv sv : Value) (q : Nat) (w : World) (he : 0 ≤ e ∧ e ≤ 4294967295) (hD : D.length ≤ 2048) (hC : C.length ≤ 2048) (hk : validC e D.length C.length = 0) (hq : 17 + pg D.length ≤ q) (hq2 : q ≤ 256) (h1 : D.length ≤ k1) (h2 : C.length ≤ k2) (hd : AtL w a1 (u32s D)) (hc : AtL w a2 (u32s C)) :
    Calls Tryd.prog 29 #[.agg #[.int .u32 e, .slice a1 D.length k1, .slice a2 C.length k2, rv, pv, sv], .int .i64 (q : Int)] w fun y w' => ∃ bb mb mv, y = .returned (.tuple #[.pointer (some ⟨bb, 0, none⟩), .int .i64 0]) ∧ MachR w' bb mb (ldC e q (17 + (pg D.length : Nat))) q ∧ MAr w' mb mv (q + pg C.length) (loadL D C q (List.replicate (16 * (q + pg C.length)) 0)) ∧ w.heap.size ≤ mb ∧ w.heap.size ≤ bb ∧ bb ≠ mb ∧ (∀ k, inRow mv k → w.heap.size ≤ k) ∧ Below w.heap.size w w' := by
  have hb0 : Below w.heap.size w (w.alloc (.cells #[.int .u32 e, .slice a1 D.length k1, .slice a2 C.length k2, rv, pv, sv] 28)) := (Below.refl _ _).alloc (Nat.le_refl _) _
  have HB0 := Lib.hid hb0
  have HI : Hid (∀ wx, Below (w.alloc (.cells #[.int .u32 e, .slice a1 D.length k1, .slice a2 C.length k2, rv, pv, sv] 28)).heap.size (w.alloc (.cells #[.int .u32 e, .slice a1 D.length k1, .slice a2 C.length k2, rv, pv, sv] 28)) wx → wx.heap[w.heap.size]? = some (.cells #[.int .u32 e, .slice a1 D.length k1, .slice a2 C.length k2, rv, pv, sv] 28 (0, 0))) := Lib.hid fun wx hx => blk_below (blk_new w (.cells #[.int .u32 e, .slice a1 D.length k1, .slice a2 C.length k2, rv, pv, sv] 28)) hx (by simp)
  obtain ⟨c0, c1, c2, c3, c4, c5⟩ := img_cells (blk_new w (.cells #[.int .u32 e, .slice a1 D.length k1, .slice a2 C.length k2, rv, pv, sv] 28))
  have HV := Lib.hid (rvalid_any e a1 a2 D.length C.length k1 k2 rv pv sv (w.alloc (.cells #[.int .u32 e, .slice a1 D.length k1, .slice a2 C.length k2, rv, pv, sv] 28)) he (by omega))
  rw [hk] at HV
  have HQ := Lib.hid (fun wx => rquota_any e a1 a2 D.length C.length k1 k2 rv pv sv wx (by omega) (by omega))
  have HPG := Lib.hid (fun wx => rpages_any e a1 a2 D.length C.length k1 k2 rv pv sv wx (by omega) (by omega))
  have HCPU := Lib.hid (fun wx => rcpu_any e a1 a2 D.length C.length k1 k2 rv pv sv (q : Int) (q : Int) (17 + ((pg D.length : Nat) : Int)) wx (by omega) (by omega) (IntWalk.u32_in (q : Int) (by omega)) rfl)
  have HPO : Hid (∀ wx, AtL wx a1 (u32s D) → AtL wx a2 (u32s C) → ∀ (p : Nat) (ws : List Int), p < 256 → pageOf D C p = some ws → Calls Tryd.prog 22 #[.agg #[.int .u32 e, .slice a1 D.length k1, .slice a2 C.length k2, rv, pv, sv], .int .i64 (p : Int)] wx fun y w' => ∃ av cap, y = .returned (.tuple #[.slice av ws.length cap, .bool true]) ∧ AtL w' av (u32s ws) ∧ (∀ a, av = some a → wx.heap.size ≤ a.block) ∧ Below wx.heap.size wx w') := Lib.hid fun wx hd hc p ws hp hP => by
    have := rpage_int e D C a1 a2 k1 k2 (p : Int) rv pv sv wx hD hC h1 h2 hd hc (by omega)
    rw [pageI_nat D C p hp, hP] at this
    refine this.mono ?_
    rintro y w' ⟨hb, av, cap, e1, h1, h2⟩
    exact ⟨av, cap, e1, h1, h2, hb⟩
  have hpgd : pg D.length ≤ 128 := by unfold pg; omega
  have hpgc : pg C.length ≤ 128 := by unfold pg; omega
  obtain ⟨n, hn⟩ : ∃ n, q + pg C.length = n := ⟨_, rfl⟩
  have hn1 : 1 ≤ n := by omega
  have hn2 : n ≤ 1024 := by omega
  have HLOAD : Hid (∀ X : List Int, X.length = 16 * n → (∀ t, X.getD t 0 = memK D C q 256 t) → X = loadL D C q (List.replicate (16 * n) 0)) := Lib.hid fun X hX hg =>
    extD (by rw [hX, load_len D C q n hD hC hn.symm hq]) fun j _ => by rw [hg j, load_get D C q n hD hC hn.symm hq hq2 j, memK_all D C q j hq2 hC]
  have HPD : Hid (∀ p, p < pg D.length → pageOf D C p = some (pageWords D p)) := Lib.hid fun p hp => by unfold pageOf; rw [if_pos (by omega), if_pos hp]
  have HPC : Hid (∀ p, p < pg C.length → pageOf D C (128 + p) = some (pageWords C p)) := Lib.hid fun p hp => by unfold pageOf; rw [if_neg (by omega), if_pos (by omega), show 128 + p - 128 = p by omega]
  have HSK1 : Hid (∀ t, memK D C q (pg D.length) t = memK D C q (128 + 0) t) := Lib.hid fun t => memK_skip D C q t hD _ _ (fun k h1 h2 => by unfold pageOf; rw [if_pos (by omega), if_neg (by omega)]) (by omega)
  have HSK2 : Hid (∀ t, memK D C q (128 + pg C.length) t = memK D C q 256 t) := Lib.hid fun t => memK_skip D C q t hD _ _ (fun k h1 h2 => by unfold pageOf; rw [if_neg (by omega), if_neg (by omega)]) (by omega)
  have HK0 : Hid (∀ t, (tabL (List.replicate (16 * n) 0) 16).getD t 0 = memK D C q (0 + 0) t) := Lib.hid fun t => (pgL_inv D C q n hD hC hn.symm hq 0 (by omega)).2 t
  have HST1 : Hid (∀ (X ws : List Int) (k f at_ : Nat) (z : Int), X.length = 16 * n → (∀ t, X.getD t 0 = memK D C q k t) → pageOf D C k = some ws → k < 256 → pgF q k = f → at_ = 16 + k → z = entW (f : Nat) true (decide (k < 128)) true → f < n ∧ at_ < 16 * n ∧ ∀ t, (fillL (writeL X (at_ : Int) z) f ws).getD t 0 = memK D C q (k + 1) t) := Lib.hid fun X ws k f at_ z hX hg hP hk hf ha hz => kp_step hX hg hP hD hn.symm hq hk hf ha hz
  have HWL := Lib.hid (fun (l : List Int) (a : Nat) => pageWords_len l a)
  have HDD := Lib.hid hd
  have HCC := Lib.hid hc
  rw [hn]
  have wn := IntWalk.i64_in ((q : Int) + ((pg C.length : Nat) : Int)) (by omega)
  have HN : Hid ((q : Int) + ((pg C.length : Nat) : Int) = (n : Int)) := Lib.hid (by omega)
  obtain ⟨pd, hpd⟩ : ∃ p, pg D.length = p := ⟨_, rfl⟩
  rw [hpd] at HQ HCPU HPG HPD HSK1 hpgd hq ⊢
  obtain ⟨pc, hpc⟩ : ∃ p, pg C.length = p := ⟨_, rfl⟩
  rw [hpc] at HPG HN wn HPC HSK2 hpgc hn
  have hq1 : decide ((q : Int) < 17 + (pd : Int)) = false := decide_eq_false (by omega)
  have hq3 : decide ((256 : Int) < (q : Int)) = false := decide_eq_false (by omega)
  clear hb0 hk hpd hpc hd hc h1 h2 hD hC
  go_enter Tryd.func29, Tryd.ntmps29
  go_wp2_with fail
  refine HV.out.mono ?_
  rintro y w1 ⟨rfl, hb1⟩
  have HB1 := Lib.hid hb1
  obtain ⟨d0, d1, d2, d3, d4, d5⟩ := img_cells (HI.out _ hb1)
  clear hb1 c0 c1 c2 c3 c4 c5
  go_wp2_with fail
  refine (HQ.out _).mono ?_
  rintro y w2 ⟨rfl, hb2⟩
  have HB2 := Lib.hid (HB1.out.trans (hb2.mono HB1.out.size))
  obtain ⟨c0, c1, c2, c3, c4, c5⟩ := img_cells (HI.out _ HB2.out)
  clear hb2 d0 d1 d2 d3 d4 d5
  go_wp2_with fail
  refine (HPG.out _).mono ?_
  rintro y w3 ⟨rfl, hb3⟩
  have HB3 := Lib.hid (HB2.out.trans (hb3.mono HB2.out.size))
  clear hb3 c0 c1 c2 c3 c4 c5
  go_wp2_with fail
  rw [HN.out]
  refine (mr_new n _ hn1 hn2).mono ?_
  rintro y w4 ⟨xb, xv, rfl, hm4, hs4, hv4, hb4⟩
  have hz3 := HB3.out.size
  have HB4 := Lib.hid (HB3.out.trans (hb4.mono HB3.out.size))
  have HXB : Hid (w.heap.size < xb) := Lib.hid (by simp at hz3; omega)
  have HXV : Hid (∀ k, inRow xv k → w.heap.size < k) := Lib.hid fun k hk => by have := hv4 k hk; simp at hz3; omega
  have HW4 := Lib.hid (HB0.out.trans (HB4.out.mono HB0.out.size))
  have HI4 := Lib.hid (HI.out _ HB4.out)
  have HDX : Hid (∀ wx, Only (fun k => inRow xv k) w4 wx → AtL wx a1 (u32s D) ∧ AtL wx a2 (u32s C)) := Lib.hid fun wx ho =>
    ⟨(HDD.out.mono HW4.out).only ho (fun h0 p hp hr => by obtain ⟨b', off, e', -, hl⟩ := HDD.out 0 _ (List.getElem?_eq_getElem h0); rw [hp] at e'; cases e'; have := HXV.out _ hr; dsimp only at this; omega),
     (HCC.out.mono HW4.out).only ho (fun h0 p hp hr => by obtain ⟨b', off, e', -, hl⟩ := HCC.out 0 _ (List.getElem?_eq_getElem h0); rw [hp] at e'; cases e'; have := HXV.out _ hr; dsimp only at this; omega)⟩
  have HST : Hid (RtTo n xb xv w4 (.int .i64 0) w4) := Lib.hid ⟨0, Nat.zero_le _, rfl, hm4, Only.refl _ _⟩
  have HROW : Hid (∀ k, inRow xv k → k < w4.heap.size) := Lib.hid fun k hk => own_lt hm4.2.1 hk
  clear hm4 hs4 hv4 hb4 hz3
  go_wp2_with fail
  go_loopw [10] (fun i wr => RtTo n xb xv w4 i wr) (fun i _ => 16 - (intOf i).toNat)
  case atStart => exact HST.out
  case round =>
    obtain ⟨k, hk, rfl, hm, ho⟩ := hrel
    have HM := Lib.hid hm
    have HO := Lib.hid ho
    clear hm ho HST
    by_cases hlt : k < 16
    · have hki : (k : Int) < 16 := by omega
      go_wp2_with fail
      refine (rbits9_any ((k : Int) + 1) true _ ⟨by omega, by omega⟩).mono ?_
      rintro y w5 ⟨rfl, hb5⟩
      have HM5 := Lib.hid (HM.out.below hb5)
      have HO5 := Lib.hid (HO.out.below' hb5)
      clear hb5
      go_wp2_with fail
      refine (mr_write _ xb n xv (k : Int) _ _ HM5.out).mono ?_
      rintro y w6 ⟨rfl, hm6, ho6⟩
      have HM6 := Lib.hid hm6
      have HO6 := Lib.hid (HO5.out.trans ho6)
      clear hm6 ho6
      go_wp2_with fail
      go_roundw
      case rel => exact ⟨k + 1, by omega, by go_num, HM6.out, HO6.out⟩
      case measure => simp [intOf]; omega
    · have hk16 : k = 16 := by omega
      have hkn : ¬ (k : Int) < 16 := by omega
      have HST2 : Hid (RpTo D C q n xb xv w4 0 pd (.int .i64 0) wr) := Lib.hid ⟨0, _, Nat.zero_le _, rfl, hk16 ▸ HM.out, HK0.out, HO.out⟩
      clear HM HO hlt hk hk16
      go_wp2_with fail
      go_loopw [11] (fun i wr => RpTo D C q n xb xv w4 0 pd i wr) (fun i _ => pd - (intOf i).toNat)
      case atStart => exact HST2.out
      case round =>
        obtain ⟨j, X, hj, rfl, hx, hg, ho⟩ := hrel
        have HX := Lib.hid hx
        have HG := Lib.hid hg
        have HO := Lib.hid ho
        have HIK : Hid (∀ wx, Only (fun k => inRow xv k) w4 wx → wx.heap[w.heap.size]? = some (.cells #[.int .u32 e, .slice a1 D.length k1, .slice a2 C.length k2, rv, pv, sv] 28 (0, 0))) := Lib.hid fun wx ho => ho.blk HI4.out (fun h => by have := HXV.out _ h; omega)
        clear hx hg ho HST2
        by_cases hlt : j < pd
        · have hji : (j : Int) < (pd : Int) := by omega
          have wj1 := IntWalk.i64_in ((16 : Int) + (j : Int)) (by omega)
          have wj2 := IntWalk.i64_in ((17 : Int) + (j : Int)) (by omega)
          go_wp2_with fail
          refine (rbits9_any ((17 : Int) + (j : Int)) true _ ⟨by omega, by omega⟩).mono ?_
          rintro y w5 ⟨rfl, hb5⟩
          have HX5 := Lib.hid (HX.out.below hb5)
          have HO5 := Lib.hid (HO.out.below' hb5)
          clear hb5
          have HE1 : Hid ((16 : Int) + (j : Int) = ((16 + j : Nat) : Int)) := Lib.hid (by omega)
          have HE2 : Hid ((17 : Int) + (j : Int) = ((17 + j : Nat) : Int)) := Lib.hid (by omega)
          obtain ⟨hs1, hs2, hs3⟩ := HST1.out X (pageWords D j) j (17 + j) (16 + j) (entW ((17 + j : Nat) : Int) true true true) HX.out.2.2 (fun t => by rw [HG.out t, Nat.zero_add]) (HPD.out j hlt) (by omega) (by unfold pgF; rw [if_pos (by omega)]) rfl (by rw [decide_eq_true (by omega)])
          have HS3 := Lib.hid hs3
          clear hs3
          go_wp2_with fail
          rw [HE1.out, HE2.out]
          refine (mr_write X xb n xv ((16 + j : Nat) : Int) _ _ HX5.out).mono ?_
          rintro y w6 ⟨rfl, hx6, ho6⟩
          have HX6 := Lib.hid hx6
          have HO6 := Lib.hid (HO5.out.trans ho6)
          obtain ⟨c0, c1, c2, c3, c4, c5⟩ := img_cells (HIK.out _ HO6.out)
          clear hx6 ho6
          go_wp2_with fail
          refine (HPO.out _ (HDX.out _ HO6.out).1 (HDX.out _ HO6.out).2 j _ (by omega) (HPD.out j hlt)).mono ?_
          rintro y w7 ⟨av, cap, rfl, hat, hfr, hb7⟩
          have HX7 := Lib.hid (HX6.out.below hb7)
          have HO7 := Lib.hid (HO6.out.below' hb7)
          have HAT := Lib.hid hat
          have HAP : Hid (∀ a, 0 < 16 → av = some a → ¬ inRow xv a.block) := Lib.hid fun a _ ha hr => by have := hfr a ha; have := HROW.out _ hr; have := HO6.out.size; omega
          rw [HWL.out]
          clear hb7 hat hfr c0 c1 c2 c3 c4 c5
          go_wp2_with fail
          rw [HE2.out]
          refine (mr_fill_ok _ (pageWords D j) xb n (17 + j) 16 cap av xv _ HX7.out hn2 hs1 HAT.out (HWL.out _ _) (by omega) HAP.out).mono ?_
          rintro y w8 ⟨rfl, hx8, ho8⟩
          have HX8 := Lib.hid hx8
          have HO8 := Lib.hid (HO7.out.trans ho8)
          clear hx8 ho8
          go_wp2_with fail
          go_roundw
          case rel => exact ⟨j + 1, _, by omega, by go_num, HX8.out, fun t => by rw [HS3.out t, Nat.zero_add], HO8.out⟩
          case measure => simp [intOf]; omega
        · obtain rfl : j = pd := by omega
          have HST3 : Hid (RpTo D C q n xb xv w4 128 pc (.int .i64 0) wr) := Lib.hid ⟨0, X, Nat.zero_le _, rfl, HX.out, fun t => by rw [HG.out t, Nat.zero_add, HSK1.out t], HO.out⟩
          clear HX HG HO hlt hj
          go_wp2_with fail
          go_loopw [14] (fun i wr => RpTo D C q n xb xv w4 128 pc i wr) (fun i _ => pc - (intOf i).toNat)
          case atStart => exact HST3.out
          case round =>
            obtain ⟨j, X, hj, rfl, hx, hg, ho⟩ := hrel
            have HX := Lib.hid hx
            have HG := Lib.hid hg
            have HO := Lib.hid ho
            clear hx hg ho HST3
            by_cases hlt : j < pc
            · have hji : (j : Int) < (pc : Int) := by omega
              have wj1 := IntWalk.i64_in ((144 : Int) + (j : Int)) (by omega)
              have wj2 := IntWalk.i64_in ((q : Int) + (j : Int)) (by omega)
              have wj3 := IntWalk.i64_in ((128 : Int) + (j : Int)) (by omega)
              go_wp2_with fail
              refine (rbits9_any ((q : Int) + (j : Int)) false _ ⟨by omega, by omega⟩).mono ?_
              rintro y w5 ⟨rfl, hb5⟩
              have HX5 := Lib.hid (HX.out.below hb5)
              have HO5 := Lib.hid (HO.out.below' hb5)
              clear hb5
              have HE1 : Hid ((144 : Int) + (j : Int) = ((144 + j : Nat) : Int)) := Lib.hid (by omega)
              have HE2 : Hid ((q : Int) + (j : Int) = ((q + j : Nat) : Int)) := Lib.hid (by omega)
              have HE3 : Hid ((128 : Int) + (j : Int) = ((128 + j : Nat) : Int)) := Lib.hid (by omega)
              obtain ⟨hs1, hs2, hs3⟩ := HST1.out X (pageWords C j) (128 + j) (q + j) (144 + j) (entW ((q + j : Nat) : Int) true false true) HX.out.2.2 HG.out (HPC.out j hlt) (by omega) (by unfold pgF; rw [if_neg (by omega)]; omega) (by omega) (by rw [decide_eq_false (by omega)])
              have HS3 := Lib.hid hs3
              clear hs3
              go_wp2_with fail
              rw [HE1.out, HE2.out]
              refine (mr_write X xb n xv ((144 + j : Nat) : Int) _ _ HX5.out).mono ?_
              rintro y w6 ⟨rfl, hx6, ho6⟩
              have HX6 := Lib.hid hx6
              have HO6 := Lib.hid (HO5.out.trans ho6)
              obtain ⟨c0, c1, c2, c3, c4, c5⟩ := img_cells (HIK.out _ HO6.out)
              clear hx6 ho6
              go_wp2_with fail
              rw [HE3.out]
              refine (HPO.out _ (HDX.out _ HO6.out).1 (HDX.out _ HO6.out).2 (128 + j) _ (by omega) (HPC.out j hlt)).mono ?_
              rintro y w7 ⟨av, cap, rfl, hat, hfr, hb7⟩
              have HX7 := Lib.hid (HX6.out.below hb7)
              have HO7 := Lib.hid (HO6.out.below' hb7)
              have HAT := Lib.hid hat
              have HAP : Hid (∀ a, 0 < 16 → av = some a → ¬ inRow xv a.block) := Lib.hid fun a _ ha hr => by have := hfr a ha; have := HROW.out _ hr; have := HO6.out.size; omega
              rw [HWL.out]
              clear hb7 hat hfr c0 c1 c2 c3 c4 c5
              go_wp2_with fail
              rw [HE2.out]
              refine (mr_fill_ok _ (pageWords C j) xb n (q + j) 16 cap av xv _ HX7.out hn2 hs1 HAT.out (HWL.out _ _) (by omega) HAP.out).mono ?_
              rintro y w8 ⟨rfl, hx8, ho8⟩
              have HX8 := Lib.hid hx8
              have HO8 := Lib.hid (HO7.out.trans ho8)
              clear hx8 ho8
              go_wp2_with fail
              go_roundw
              case rel => exact ⟨j + 1, _, by omega, by go_num, HX8.out, fun t => by rw [HS3.out t]; rfl, HO8.out⟩
              case measure => simp [intOf]; omega
            · obtain rfl : j = pc := by omega
              have HXE : Hid (X = loadL D C q (List.replicate (16 * n) 0)) := Lib.hid (HLOAD.out X HX.out.2.2 fun t => by rw [HG.out t, HSK2.out t])
              obtain ⟨c0, c1, c2, c3, c4, c5⟩ := img_cells (HIK.out _ HO.out)
              have HBR : Hid (Below w.heap.size w wr) := Lib.hid (HW4.out.trans (HO.out.below (B := w.heap.size) HW4.out.size (fun k hk => Nat.le_of_lt (HXV.out _ hk))))
              go_wp2_with fail
              refine (HCPU.out _).mono ?_
              rintro y w5 ⟨rfl, hb5⟩
              have HX5 := Lib.hid (HX.out.below hb5)
              have HB5 := Lib.hid (HBR.out.trans (hb5.mono HBR.out.size))
              clear hb5 c0 c1 c2 c3 c4 c5
              go_wp2_with fail
              refine (rnewm_ok _ X xb n xv q _ HX5.out hn2 hq2).mono ?_
              rintro y w6 ⟨bb, mb, mv, rfl, h1, h2, h3, h4, h5, h6, h7⟩
              have HF := Lib.hid (And.intro h1 (And.intro (HXE.out ▸ h2) (And.intro (Nat.le_trans HB5.out.size h3) (And.intro (Nat.le_trans HB5.out.size h4) (And.intro h5 (And.intro (fun k hk => Nat.le_trans HB5.out.size (h6 k hk)) (HB5.out.trans (h7.mono HB5.out.size))))))))
              clear h1 h2 h3 h4 h5 h6 h7
              go_wp2
              go_ret2
              exact ⟨bb, mb, mv, rfl, HF.out⟩
end Go.Proofs.YtehmpdgpjpifoaaDoor
