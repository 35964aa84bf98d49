/-
  LoadLies: the walk. Given where the two sentinels lie.
-/
import Derived.Test.YtehmpdgpjpifoaaDoorLdBare3
import Derived.Test.YtehmpdgpjpifoaaDoorLdLaw
namespace Go.Proofs.YtehmpdgpjpifoaaDoor
open Go.RowKit

set_option maxHeartbeats 1600000 in
theorem bmem_any (w : World) (bb mb n : Nat) (c : Cpu) (q now : Int) (over : Bool) (mv : Value) (l : List Int) (hma : MachAt w bb mb c q now over) (hm : MAt w mb mv n l) (hn : n ≤ 1024) :
    Calls Tryd.prog 12 #[.pointer (some ⟨bb, 0, none⟩)] w fun y w' => ∃ cb cv, y = .returned (.pointer (some ⟨cb, 0, none⟩)) ∧ MAt w' cb cv n l ∧ w.heap.size ≤ cb ∧ (∀ k, inRow cv k → w.heap.size ≤ k) ∧ Below w.heap.size w w' := by
  obtain ⟨db, hb⟩ := hma
  have c0 : w.cell? ⟨bb, 0, none⟩ = some (.pointer (some ⟨mb, 0, none⟩)) := (blk_cell hb 0).trans rfl
  have HM := Lib.hid (mm_clone l mb n mv w hm hn)
  clear hb hm
  go_enter Tryd.func12, Tryd.ntmps12
  go_wp2_with fail
  refine HM.out.mono ?_
  rintro y w1 ⟨cb, cv, rfl, h1, h2, h3, h4⟩
  have HF := Lib.hid (And.intro h1 (And.intro h2 (And.intro h3 h4)))
  clear h1 h2 h3 h4
  go_wp2
  go_ret
  exact ⟨cb, cv, rfl, HF.out⟩

theorem mr_write_at' (l : List Int) (b n j : Nat) (v : Value) (x : Int) (w : World) (h : MAr w b v n l) (hj : j < 16 * n) :
    Calls Tryd.prog 16 #[.pointer (some ⟨b, 0, none⟩), .int .i64 j, .int .u32 x] w fun e w' => e = .returned (.bool true) ∧ MAr w' b v n (l.set j x) ∧ Only (fun k => inRow v k) w w' := by
  have hl := h.2.2
  have e1 : writeL l (j : Int) x = l.set j x := by unfold writeL; rw [if_pos (by omega), Int.toNat_natCast]
  have e2 : (decide (0 ≤ (j : Int)) && decide ((j : Int) < (l.length : Int))) = true := by simp; omega
  have := mr_write l b n v (j : Int) x w h
  rw [e1, e2] at this
  exact this

/-- a memory copied word by word, so far -/
def CpTo (w0 : World) (cb xb n : Nat) (cv xv : Value) (L : List Int) (i : Value) (wr : World) : Prop :=
  ∃ (j : Nat) (X : List Int), j ≤ 16 * n ∧ i = .int .i64 (j : Int) ∧ MAt wr cb cv n L ∧ MAr wr xb xv n X ∧ (∀ k, X.getD k 0 = if k < j then L.getD k 0 else 0) ∧ Only (fun k => inRow xv k) w0 wr
theorem cp_step {L X : List Int} {j n : Nat} (h : ∀ k, X.getD k 0 = if k < j then L.getD k 0 else 0) (hj : j < 16 * n) (hl : X.length = 16 * n) : ∀ k, (X.set j (L.getD j 0)).getD k 0 = if k < j + 1 then L.getD k 0 else 0 := fun k => by
  rw [setD_get X j k _ (by omega), h k]
  by_cases h1 : k = j
  · rw [if_pos h1, if_pos (by omega), h1]
  · rw [if_neg h1]
    by_cases h2 : k < j
    · rw [if_pos h2, if_pos (by omega)]
    · rw [if_neg h2, if_neg (by omega)]
theorem cp_end {L X : List Int} {n : Nat} (h : ∀ k, X.getD k 0 = if k < 16 * n then L.getD k 0 else 0) (hl : L.length = 16 * n) : ∀ k, X.getD k 0 = L.getD k 0 := fun k => by
  rw [h k]
  split
  · rfl
  · rw [getD_end L k (by omega)]
theorem validC_cases (e : Int) (d c : Nat) : validC e d c = 0 ∨ validC e d c = 103 ∨ validC e d c = 104 := by
  unfold validC
  split
  · exact .inr (.inr rfl)
  · split
    · exact .inr (.inl rfl)
    · exact .inl rfl
/-- what Bare answers -/
theorem bare_no (E : Nat → Addr) (e : Int) (D C : List Int) (a1 a2 : Option Addr) (k1 k2 : Nat) (rv pv sv : Value) (x : Int) (he : 0 ≤ e ∧ e ≤ 4294967295) (hD : D.length ≤ 2048) (hC : C.length ≤ 2048) :
    (∃ k, ∀ w : World, ErrsAt errT gOf w E two23 → Calls Tryd.prog 9 #[imgV e D C a1 a2 k1 k2 rv pv sv, .int .i64 x] w fun y w' => y = .returned (.tuple #[.pointer none, errV (E k)]) ∧ Below w.heap.size w w') ∨
    (validC e D.length C.length = 0 ∧ ∃ q : Nat, x = (q : Int) ∧ 17 + pg D.length ≤ q ∧ q ≤ 256) := by
  rcases validC_cases e D.length C.length with h | h | h
  · by_cases hx : x < 17 + (pg D.length : Nat) ∨ 256 < x
    · exact .inl ⟨2, fun w hE => bare_range E e D C a1 a2 k1 k2 rv pv sv x w hE he hD hC h hx⟩
    · exact .inr ⟨h, x.toNat, by omega, by omega, by omega⟩
  · exact .inl ⟨2, fun w hE => bare_bad E e D C a1 a2 k1 k2 rv pv sv x 2 w hE he (by omega) (by rw [h]; rfl)⟩
  · exact .inl ⟨3, fun w hE => bare_bad E e D C a1 a2 k1 k2 rv pv sv x 3 w hE he (by omega) (by rw [h]; rfl)⟩

set_option maxRecDepth 100000 in
set_option maxHeartbeats 16000000 in
theorem loadLies_walk (E : Nat → Addr) (e x1 x2 : Int) (D C : List Int) (a1 a2 a3 a4 a5 : Option Addr) (k1 k2 k3 k4 k5 r p s : Nat) (w : World) (hE : ErrsAt errT gOf w E two23) (hk : D.length ≤ k1 ∧ C.length ≤ k2) (hd : AtL w a1 (u32s D)) (hc : AtL w a2 (u32s C)) (he : 0 ≤ e ∧ e ≤ 4294967295)
    (hD32 : ∀ z ∈ D, 0 ≤ z ∧ z ≤ 4294967295) (hC32 : ∀ z ∈ C, 0 ≤ z ∧ z ≤ 4294967295) (hx2 : 0 ≤ x2 ∧ x2 ≤ 4294967295) :
    Calls Tryd.prog 4 #[.agg #[.int .u32 e, .slice a1 D.length k1, .slice a2 C.length k2, .slice a3 r k3, .slice a4 p k4, .slice a5 s k5], .int .i64 x1, .int .u32 x2] w fun y w' => y = .returned (.bool true) ∧ Below w.heap.size w w' := by
  have hb0 : Below w.heap.size w (w.alloc (.cells #[.int .u32 e, .slice a1 D.length k1, .slice a2 C.length k2, .slice a3 r k3, .slice a4 p k4, .slice a5 s k5] 28)) := (Below.refl _ _).alloc (Nat.le_refl _) _
  have HB0 := Lib.hid hb0
  have HI : Hid (∀ wx, Below (w.alloc (.cells #[.int .u32 e, .slice a1 D.length k1, .slice a2 C.length k2, .slice a3 r k3, .slice a4 p k4, .slice a5 s k5] 28)).heap.size (w.alloc (.cells #[.int .u32 e, .slice a1 D.length k1, .slice a2 C.length k2, .slice a3 r k3, .slice a4 p k4, .slice a5 s k5] 28)) wx → wx.heap[w.heap.size]? = some (.cells #[.int .u32 e, .slice a1 D.length k1, .slice a2 C.length k2, .slice a3 r k3, .slice a4 p k4, .slice a5 s k5] 28 (0, 0))) := Lib.hid fun wx hx => blk_below (blk_new w (.cells #[.int .u32 e, .slice a1 D.length k1, .slice a2 C.length k2, .slice a3 r k3, .slice a4 p k4, .slice a5 s k5] 28)) hx (by simp)
  have HEK : Hid (∀ wx, Below w.heap.size w wx → ErrsAt errT gOf wx E two23) := Lib.hid fun wx h => hE.mono h
  have HIMG := Lib.hid (fun wx => image_any e D.length C.length r p s a1 a2 a3 a4 a5 k1 k2 k3 k4 k5 300 wx)
  obtain ⟨B, hB⟩ : ∃ B, (decide ((D.length : Int) ≤ 300) && decide ((C.length : Int) ≤ 300) && decide ((r : Int) ≤ 300) && decide ((p : Int) ≤ 300) && decide ((s : Int) ≤ 300)) = B := ⟨_, rfl⟩
  rw [hB] at HIMG
  have HBB := Lib.hid hB
  have HDD := Lib.hid hd
  have HCC := Lib.hid hc
  have HK := Lib.hid hk
  have HD32 := Lib.hid hD32
  have HC32 := Lib.hid hC32
  clear hb0 hE hB hd hc hk hD32 hC32
  obtain ⟨c0, c1, c2, c3, c4, c5⟩ := img_cells (blk_new w (.cells #[.int .u32 e, .slice a1 D.length k1, .slice a2 C.length k2, .slice a3 r k3, .slice a4 p k4, .slice a5 s k5] 28))
  cases B with
  | false =>
    clear he hx2
    go_enter Tryd.func4, Tryd.ntmps4
    go_wp2_with fail
    refine (first_true _).mono ?_
    rintro y w1 ⟨rfl, hb1⟩
    have HB1 := Lib.hid hb1
    obtain ⟨d0, d1, d2, d3, d4, d5⟩ := img_cells (HI.out _ hb1)
    clear hb1 c0 c1 c2 c3 c4 c5
    go_wp2_with fail
    refine (HIMG.out _).mono ?_
    rintro y w2 ⟨rfl, hb2⟩
    have HB2 := Lib.hid (HB0.out.trans ((HB1.out.trans (hb2.mono HB1.out.size)).mono HB0.out.size))
    clear hb2 d0 d1 d2 d3 d4 d5
    go_wp2
    go_ret
    exact ⟨rfl, HB2.out⟩
  | true =>
    have hlen : D.length ≤ 300 ∧ C.length ≤ 300 := by
      have := HBB.out
      simp only [Bool.and_eq_true, decide_eq_true_eq] at this
      omega
    have hno := bare_no E e D C a1 a2 k1 k2 (.slice a3 r k3) (.slice a4 p k4) (.slice a5 s k5) x1 he (by omega) (by omega)
    unfold imgV at hno
    go_enter Tryd.func4, Tryd.ntmps4
    go_wp2_with fail
    refine (first_true _).mono ?_
    rintro y w1 ⟨rfl, hb1⟩
    have HB1 := Lib.hid hb1
    obtain ⟨d0, d1, d2, d3, d4, d5⟩ := img_cells (HI.out _ hb1)
    clear hb1 c0 c1 c2 c3 c4 c5
    go_wp2_with fail
    refine (HIMG.out _).mono ?_
    rintro y w2 ⟨rfl, hb2⟩
    have HC2 := Lib.hid (HB1.out.trans (hb2.mono HB1.out.size))
    have HB2 := Lib.hid (HB0.out.trans (HC2.out.mono HB0.out.size))
    obtain ⟨c0, c1, c2, c3, c4, c5⟩ := img_cells (HI.out _ HC2.out)
    clear hb2 d0 d1 d2 d3 d4 d5
    rcases hno with ⟨k, hbad⟩ | ⟨hvc, q, rfl, hq, hq2⟩
    · have HBAD := Lib.hid hbad
      clear hbad
      go_wp2_with fail
      refine (HBAD.out _ (HEK.out _ HB2.out)).mono ?_
      rintro y w3 ⟨rfl, hb3⟩
      have HB3 := Lib.hid (HB2.out.trans (hb3.mono HB2.out.size))
      clear hb3
      go_wp2
      go_ret
      exact ⟨rfl, HB3.out⟩
    · obtain ⟨n, hn⟩ : ∃ n, q + pg C.length = n := ⟨_, rfl⟩
      have hpc : pg C.length ≤ 128 := by unfold pg; omega
      have HOK := Lib.hid (bare_ok E e D C a1 a2 k1 k2 (.slice a3 r k3) (.slice a4 p k4) (.slice a5 s k5) q w2 (HEK.out _ HB2.out) he (by omega) (by omega) hvc hq hq2 HK.out.1 HK.out.2 (HDD.out.mono HB2.out) (HCC.out.mono HB2.out))
      unfold imgV at HOK
      rw [hn] at HOK
      obtain ⟨L, hL⟩ : ∃ L, loadL D C q (List.replicate (16 * n) 0) = L := ⟨_, rfl⟩
      rw [hL] at HOK
      have HLG : Hid (∀ j, L.getD j 0 = memV D C q j) := Lib.hid (hL ▸ load_get D C q n (by omega) (by omega) hn.symm hq hq2)
      have HLL : Hid (L.length = 16 * n) := Lib.hid (hL ▸ load_len D C q n (by omega) (by omega) hn.symm hq)
      have HW32 : Hid (∀ j, W32 (memV D C q j)) := Lib.hid (memV_w32 D C q hq2 (by omega) HD32.out HC32.out)
      have HNQ := Lib.hid (And.intro hn (And.intro hq hq2))
      have hn1 : 1 ≤ n := by omega
      have hn2 : n ≤ 1024 := by omega
      have wn := IntWalk.i64_in ((16 : Int) * (n : Int)) (by omega)
      clear hvc hL
      go_wp2_with fail
      refine HOK.out.mono ?_
      rintro y w3 ⟨bb, mb, mv, rfl, hma, hm3, hs1, hs2, -, -, hb3⟩
      have HMA := Lib.hid (bmem_any w3 bb mb n _ _ _ _ mv L hma hm3 hn2)
      have HC3 := Lib.hid (HC2.out.trans (hb3.mono HC2.out.size))
      have HB3 := Lib.hid (HB2.out.trans (hb3.mono HB2.out.size))
      clear hma hm3 hs1 hs2 hb3 HOK c0 c1 c2 c3 c4 c5
      go_wp2_with fail
      refine HMA.out.mono ?_
      rintro y w4 ⟨cb, cv, rfl, hm4, hs4, hv4, hb4⟩
      have HM4 := Lib.hid hm4
      have HC4 := Lib.hid (HC3.out.trans (hb4.mono HC3.out.size))
      have HB4 := Lib.hid (HB3.out.trans (hb4.mono HB3.out.size))
      clear hm4 hs4 hv4 hb4 HMA
      go_wp2_with fail
      refine (mm_frames L cb n cv _ HM4.out hn2).mono ?_
      rintro y w4' ⟨rfl, rfl⟩
      go_wp2_with fail
      refine (mr_new n _ hn1 hn2).mono ?_
      rintro y w5 ⟨xb, xv, rfl, hm5, hs5, hv5, hb5⟩
      have HC5 := Lib.hid (HC4.out.trans (hb5.mono HC4.out.size))
      have HB5 := Lib.hid (HB4.out.trans (hb5.mono HB4.out.size))
      have HXB : Hid (w4.heap.size ≤ xb) := Lib.hid hs5
      have HXV : Hid (∀ k, inRow xv k → w4.heap.size ≤ k) := Lib.hid hv5
      have HM5 := Lib.hid (HM4.out.below hb5)
      have HCB : Hid (cb < w4.heap.size ∧ ∀ k, inRow cv k → k < w4.heap.size) := Lib.hid ⟨blk_lt HM4.out.1, fun k hk => own_lt HM4.out.2.1 hk⟩
      have HZ : Hid (w.heap.size < w4.heap.size) := Lib.hid (by have := HC4.out.size; simp at this; omega)
      have HST : Hid (CpTo w5 cb xb n cv xv L (.int .i64 0) w5) := Lib.hid ⟨0, _, Nat.zero_le _, rfl, HM5.out, hm5, fun k => by rw [if_neg (by omega), repD_get], Only.refl _ _⟩
      clear hm5 hs5 hv5 hb5
      go_wp2_with fail
      go_loopw [12] (fun i wr => CpTo w5 cb xb n cv xv L i wr) (fun i _ => 16 * n - (intOf i).toNat)
      case atStart => exact HST.out
      case round =>
        obtain ⟨j, X, hj, rfl, hm, hx, hg, ho⟩ := hrel
        have HM := Lib.hid hm
        have HX := Lib.hid hx
        have HG := Lib.hid hg
        have HO := Lib.hid ho
        clear hm hx hg ho HST
        by_cases hlt : j < 16 * n
        · have hki : (j : Int) < 16 * (n : Int) := by omega
          go_wp2_with fail
          refine (mm_frames L cb n cv _ HM.out hn2).mono ?_
          rintro y w6 ⟨rfl, rfl⟩
          go_wp2_with fail
          refine (mm_read_at L cb n j cv _ HM.out hlt).mono ?_
          rintro y w6 ⟨rfl, rfl⟩
          go_wp2_with fail
          refine (mr_write_at' X xb n j xv (L.getD j 0) _ HX.out hlt).mono ?_
          rintro y w7 ⟨rfl, hx7, ho7⟩
          have HX7 := Lib.hid hx7
          have HM7 := Lib.hid (HM.out.only ho7 (fun h => by have := HCB.out.1; have := HXV.out _ h; omega) (fun k h1 h2 => by have := HCB.out.2 k h1; have := HXV.out _ h2; omega))
          have HO7 := Lib.hid (HO.out.trans ho7)
          have HG7 := Lib.hid (cp_step HG.out hlt HX.out.2.2)
          clear hx7 ho7
          go_wp2_with fail
          go_roundw
          case rel => exact ⟨j + 1, _, by omega, by go_num, HM7.out, HX7.out, HG7.out, HO7.out⟩
          case measure => simp [intOf]; omega
        · obtain rfl : j = 16 * n := by omega
          have HXG : Hid (∀ k, X.getD k 0 = memV D C q k) := Lib.hid fun k => (cp_end HG.out HLL.out k).trans (HLG.out k)
          have HLW : Hid (∀ k, W32 (X.getD k 0)) := Lib.hid fun k => by rw [HXG.out k]; exact HW32.out k
          have HIR : Hid (wr.heap[w.heap.size]? = some (.cells #[.int .u32 e, .slice a1 D.length k1, .slice a2 C.length k2, .slice a3 r k3, .slice a4 p k4, .slice a5 s k5] 28 (0, 0))) := Lib.hid (HO.out.blk (HI.out _ HC5.out) (fun h => by have := HXV.out _ h; have := HZ.out; omega))
          have HBR : Hid (Below w.heap.size w wr) := Lib.hid (HB5.out.trans (HO.out.below (B := w.heap.size) HB5.out.size (fun k hk => by have := HXV.out _ hk; have := HZ.out; omega)))
          obtain ⟨a, ha, ha2⟩ : ∃ a : Nat, x2 % 4200 = (a : Int) ∧ a < 4200 := ⟨(x2 % 4200).toNat, by omega, by omega⟩
          have HAE := Lib.hid ha
          obtain ⟨c0, c1, c2, c3, c4, c5⟩ := img_cells HIR.out
          have hpd : pg D.length ≤ 128 := by unfold pg; omega
          have HPG := Lib.hid (fun wx => Pages_any e a1 a2 D.length k1 C.length k2 (.slice a3 r k3) (.slice a4 p k4) (.slice a5 s k5) wx (by omega) (by omega))
          have HW1 := Lib.hid (walk_ld D C X q n a false hn.symm hq hq2 (by omega) (by omega) HXG.out)
          have HW2 := Lib.hid (walk_ld D C X q n a true hn.symm hq hq2 (by omega) (by omega) HXG.out)
          have HRW : Hid (∀ wx, MAr wx xb xv n X → ∀ wr : Bool, Calls Tryd.prog 18 #[.pointer (some ⟨xb, 0, none⟩), .int .i64 0, .int .u32 (a : Int), .bool wr, .bool true] wx fun e w' => e = .returned (pairV (walkA X n 0 (a : Int) wr true)) ∧ Below wx.heap.size wx w') := Lib.hid fun wx hx wr => rwalk_any X xb n xv 0 (a : Int) wr true wx hx hn2 HLW.out ⟨by omega, by omega⟩
          have wa := IntWalk.i64_in (a : Int) (by omega)
          have wc1 := IntWalk.i64_in (128 + ((pg C.length : Nat) : Int)) (by omega)
          have HDD1 := Lib.hid (HDD.out.mono HBR.out)
          have HCC1 := Lib.hid (HCC.out.mono HBR.out)
          have HLV : Hid (∀ j, L.getD j 0 = memV D C q j) := HLG
          have hpcn : q + pg C.length = n := hn
          clear HO HG HCB ha
          have hcase : (a / 16 < pg D.length ∧ (a : Int) / 16 < ((pg D.length : Nat) : Int) ∧ ¬ (128 : Int) ≤ (a : Int) / 16) ∨ (¬ a / 16 < pg D.length ∧ ¬ (a : Int) / 16 < ((pg D.length : Nat) : Int) ∧ (128 ≤ a / 16 ∧ a / 16 < 128 + pg C.length) ∧ (128 : Int) ≤ (a : Int) / 16 ∧ (a : Int) / 16 < 128 + ((pg C.length : Nat) : Int)) ∨ (¬ a / 16 < pg D.length ∧ ¬ (a : Int) / 16 < ((pg D.length : Nat) : Int) ∧ ¬ (128 ≤ a / 16 ∧ a / 16 < 128 + pg C.length) ∧ (¬ (128 : Int) ≤ (a : Int) / 16 ∨ ((128 : Int) ≤ (a : Int) / 16 ∧ ¬ (a : Int) / 16 < 128 + ((pg C.length : Nat) : Int)))) := by omega
          obtain ⟨pd, hpde⟩ : ∃ x, pg D.length = x := ⟨_, rfl⟩
          obtain ⟨pc, hpce⟩ : ∃ x, pg C.length = x := ⟨_, rfl⟩
          have HPDE := Lib.hid hpde
          have HPCE := Lib.hid hpce
          rw [hpde, hpce] at hcase
          rw [hpde, hpce] at HPG HW1 HW2
          rw [hpce] at wc1
          clear hn hpcn hpce hpde hq hq2 hlen hpc hpd
          have hkn : ¬ ((16 * n : Nat) : Int) < 16 * (n : Int) := by omega
          go_wp2_with fail
          refine (mm_frames L cb n cv _ HM.out hn2).mono ?_
          rintro y w6 ⟨rfl, rfl⟩
          go_wp2_with fail
          rcases hcase with ⟨hd1, hd2, hd3⟩ | ⟨hd1, hd2, hd3, hd4, hd5⟩ | ⟨hd1, hd2, hd3, hd4⟩
          · have HV1 : Hid (walkA X n 0 (a : Int) false true = (((272 + a : Nat) : Int), true)) := Lib.hid (by rw [HW1.out, if_pos hd1])
            have HV2 : Hid (walkA X n 0 (a : Int) true true = (((272 + a : Nat) : Int), true)) := Lib.hid (by rw [HW2.out, if_pos hd1])
            have hin : 272 + a < 16 * n := by have := HPDE.out; have := HNQ.out; unfold pg at *; omega
            have HLA : Hid (L.getD (272 + a) 0 = D.getD a 0) := Lib.hid (by
              rw [HLV.out]
              unfold memV
              rw [if_neg (by omega), if_neg (by omega), if_pos (by have := HPDE.out; have := HNQ.out; omega), show 272 + a - 272 = a by omega])
            clear HW1 HW2
            refine (HPG.out _).mono ?_
            rintro y w8 ⟨rfl, hb8⟩
            have HM8 := Lib.hid (HM.out.below hb8)
            have HX8 := Lib.hid (HX.out.below hb8)
            have HB8 := Lib.hid (HBR.out.trans (hb8.mono HBR.out.size))
            have HW8 := Lib.hid hb8
            obtain ⟨d0, d1, d2, d3, d4, d5⟩ := img_cells (blk_below HIR.out hb8 (blk_lt HIR.out))
            clear hb8 c0 c1 c2 c3 c4 c5
            go_wp2_with fail
            rw [HAE.out]
            refine (HRW.out _ HX8.out _).mono ?_
            rintro y w9 ⟨rfl, hb9⟩
            rw [HV1.out]
            unfold pairV
            have HM9 := Lib.hid (HM8.out.below hb9)
            have HX9 := Lib.hid (HX8.out.below hb9)
            have HB9 := Lib.hid (HB8.out.trans (hb9.mono HB8.out.size))
            have HW9 := Lib.hid (HW8.out.trans (hb9.mono HW8.out.size))
            clear hb9 d0 d1 d2 d3 d4 d5
            go_wp2_with fail
            refine (HRW.out _ HX9.out _).mono ?_
            rintro y w10 ⟨rfl, hb10⟩
            rw [HV2.out]
            unfold pairV
            have HM10 := Lib.hid (HM9.out.below hb10)
            have HB10 := Lib.hid (HB9.out.trans (hb10.mono HB9.out.size))
            have HW10 := Lib.hid (HW9.out.trans (hb10.mono HW9.out.size))
            obtain ⟨c0, c1, c2, c3, c4, c5⟩ := img_cells (blk_below HIR.out HW10.out (blk_lt HIR.out))
            clear hb10
            go_wp2_with fail
            refine (mm_read_at L cb n (272 + a) cv _ HM10.out hin).mono ?_
            rintro y w11 ⟨rfl, rfl⟩
            rw [HLA.out]
            by_cases hlt2 : a < D.length
            · obtain ⟨sb, so, hsb, hc, -⟩ := HDD1.out a _ (u32s_get D a hlt2)
              subst hsb
              have hcell : w10.cell? ⟨sb, so + a, none⟩ = some (.int .u32 (D.getD a 0)) := (HW10.out.cell (p := ⟨sb, so + a, none⟩) (World.block_lt_of_cell? _ _ hc)).trans hc
              have hli : (a : Int) < (D.length : Int) := by omega
              obtain ⟨z, hz⟩ : ∃ z, D.getD a 0 = z := ⟨_, rfl⟩
              rw [hz] at hcell ⊢
              clear hc hz hlt2
              go_wp2
              go_ret
              exact ⟨rfl, HB10.out⟩
            · have hli : ¬ (a : Int) < (D.length : Int) := by omega
              have HZ : Hid (D.getD a 0 = 0) := Lib.hid (getD_end D a (by omega))
              rw [HZ.out]
              clear hlt2
              go_wp2
              go_ret
              exact ⟨rfl, HB10.out⟩
          · have HV1 : Hid (walkA X n 0 (a : Int) false true = (((16 * q + (a - 2048) : Nat) : Int), true)) := Lib.hid (by rw [HW1.out, if_neg hd1, if_pos ⟨hd3.1, hd3.2, by first | trivial | rfl⟩])
            have HV2 : Hid (walkA X n 0 (a : Int) true true = (0, false)) := Lib.hid (by rw [HW2.out, if_neg hd1, if_neg (fun h => by cases h.2.2)])
            obtain ⟨j, hj⟩ : ∃ j, a - 2048 = j := ⟨_, rfl⟩
            have hja : (a : Int) - 2048 = (j : Int) := by omega
            rw [hj] at HV1
            have hin : 16 * q + j < 16 * n := by have := HPCE.out; have := HNQ.out; omega
            have HLA : Hid (L.getD (16 * q + j) 0 = C.getD j 0) := Lib.hid (by
              rw [HLV.out]
              unfold memV
              rw [if_neg (by have := HNQ.out; omega), if_neg (by have := HNQ.out; omega), if_neg (by omega), show 16 * q + j - 16 * q = j by omega])
            have HJA := Lib.hid hja
            have wj1 : IntKind.i64.wrap ((a : Int) - 2048) = (j : Int) := (IntWalk.i64_in _ (by omega)).trans hja
            have wj2 : IntKind.u32.wrap ((a : Int) - 2048) = (j : Int) := (IntWalk.u32_in _ (by omega)).trans hja
            have wj3 := IntWalk.i64_in ((a : Int) - 2048) (by omega)
            have wj4 := IntWalk.u32_in ((a : Int) - 2048) (by omega)
            have wj5 : ((a : Int) - 2048).toNat = j := by omega
            have wj6 : (0 : Int) ≤ (a : Int) - 2048 := by omega
            clear HW1 HW2 wj1 wj2 hja
            refine (HPG.out _).mono ?_
            rintro y w8 ⟨rfl, hb8⟩
            have HM8 := Lib.hid (HM.out.below hb8)
            have HX8 := Lib.hid (HX.out.below hb8)
            have HB8 := Lib.hid (HBR.out.trans (hb8.mono HBR.out.size))
            have HW8 := Lib.hid hb8
            obtain ⟨d0, d1, d2, d3, d4, d5⟩ := img_cells (blk_below HIR.out hb8 (blk_lt HIR.out))
            clear hb8 c0 c1 c2 c3 c4 c5
            go_wp2_with fail
            rw [HAE.out]
            refine (HRW.out _ HX8.out _).mono ?_
            rintro y w9 ⟨rfl, hb9⟩
            rw [HV1.out]
            unfold pairV
            have HM9 := Lib.hid (HM8.out.below hb9)
            have HX9 := Lib.hid (HX8.out.below hb9)
            have HB9 := Lib.hid (HB8.out.trans (hb9.mono HB8.out.size))
            have HW9 := Lib.hid (HW8.out.trans (hb9.mono HW8.out.size))
            clear hb9 d0 d1 d2 d3 d4 d5
            go_wp2_with fail
            refine (HRW.out _ HX9.out _).mono ?_
            rintro y w10 ⟨rfl, hb10⟩
            rw [HV2.out]
            unfold pairV
            have HM10 := Lib.hid (HM9.out.below hb10)
            have HB10 := Lib.hid (HB9.out.trans (hb10.mono HB9.out.size))
            have HW10 := Lib.hid (HW9.out.trans (hb10.mono HW9.out.size))
            obtain ⟨c0, c1, c2, c3, c4, c5⟩ := img_cells (blk_below HIR.out HW10.out (blk_lt HIR.out))
            clear hb10
            go_wp2_with fail
            refine (mm_read_at L cb n (16 * q + j) cv _ HM10.out hin).mono ?_
            rintro y w11 ⟨rfl, rfl⟩
            rw [HLA.out]
            by_cases hlt2 : j < C.length
            · obtain ⟨sb, so, hsb, hc, -⟩ := HCC1.out j _ (u32s_get C j hlt2)
              subst hsb
              have hcell : w10.cell? ⟨sb, so + j, none⟩ = some (.int .u32 (C.getD j 0)) := (HW10.out.cell (p := ⟨sb, so + j, none⟩) (World.block_lt_of_cell? _ _ hc)).trans hc
              have hli : (a : Int) - 2048 < (C.length : Int) := by have := HJA.out; omega
              obtain ⟨z, hz⟩ : ∃ z, C.getD j 0 = z := ⟨_, rfl⟩
              rw [hz] at hcell ⊢
              clear hc hz hlt2
              go_wp2
              go_ret
              exact ⟨rfl, HB10.out⟩
            · have hli : ¬ (a : Int) - 2048 < (C.length : Int) := by have := HJA.out; omega
              have HZ : Hid (C.getD j 0 = 0) := Lib.hid (getD_end C j (by omega))
              rw [HZ.out]
              clear hlt2
              go_wp2
              go_ret
              exact ⟨rfl, HB10.out⟩
          · have HV1 : Hid (walkA X n 0 (a : Int) false true = (0, false)) := Lib.hid (by rw [HW1.out, if_neg hd1, if_neg (fun h => hd3 ⟨h.1, h.2.1⟩)])
            have HV2 : Hid (walkA X n 0 (a : Int) true true = (0, false)) := Lib.hid (by rw [HW2.out, if_neg hd1, if_neg (fun h => hd3 ⟨h.1, h.2.1⟩)])
            clear HW1 HW2
            rcases hd4 with hd4 | ⟨hd4, hd5⟩
            all_goals
              refine (HPG.out _).mono ?_
              rintro y w8 ⟨rfl, hb8⟩
              have HM8 := Lib.hid (HM.out.below hb8)
              have HX8 := Lib.hid (HX.out.below hb8)
              have HB8 := Lib.hid (HBR.out.trans (hb8.mono HBR.out.size))
              have HW8 := Lib.hid hb8
              obtain ⟨d0, d1, d2, d3, d4, d5⟩ := img_cells (blk_below HIR.out hb8 (blk_lt HIR.out))
              clear hb8 c0 c1 c2 c3 c4 c5
              go_wp2_with fail
              rw [HAE.out]
              refine (HRW.out _ HX8.out _).mono ?_
              rintro y w9 ⟨rfl, hb9⟩
              rw [HV1.out]
              unfold pairV
              have HM9 := Lib.hid (HM8.out.below hb9)
              have HX9 := Lib.hid (HX8.out.below hb9)
              have HB9 := Lib.hid (HB8.out.trans (hb9.mono HB8.out.size))
              have HW9 := Lib.hid (HW8.out.trans (hb9.mono HW8.out.size))
              clear hb9 d0 d1 d2 d3 d4 d5
              go_wp2_with fail
              refine (HRW.out _ HX9.out _).mono ?_
              rintro y w10 ⟨rfl, hb10⟩
              rw [HV2.out]
              unfold pairV
              have HM10 := Lib.hid (HM9.out.below hb10)
              have HB10 := Lib.hid (HB9.out.trans (hb10.mono HB9.out.size))
              have HW10 := Lib.hid (HW9.out.trans (hb10.mono HW9.out.size))
              obtain ⟨c0, c1, c2, c3, c4, c5⟩ := img_cells (blk_below HIR.out HW10.out (blk_lt HIR.out))
              clear hb10
              go_wp2
              go_ret
              exact ⟨rfl, HB10.out⟩
end Go.Proofs.YtehmpdgpjpifoaaDoor
