/-
  HcallRegs: for every number, registers and place the call returns true; nothing that was there is turned. Given where the sentinels lie.
-/
import Derived.Test.YtpmbbbgmaipmbaaDoorHcOf
namespace Go.Proofs.YtpmbbbgmaipmbaaDoor
open Go.RowKit

set_option maxHeartbeats 800000 in
theorem sameCall_refl (n a b c d : Int) (w : World) : Calls Tryd.prog 27 #[.agg #[.int .i64 n, .int .u32 a, .int .u32 b, .int .u32 c, .int .u32 d], .agg #[.int .i64 n, .int .u32 a, .int .u32 b, .int .u32 c, .int .u32 d]] w fun e w' => e = .returned (.bool true) ∧ Below w.heap.size w w' := by
  go_enter Tryd.func27, Tryd.ntmps27
  go_wp2
  go_ret
  exact ⟨rfl, by repeat (first | exact Below.refl _ _ | refine Below.alloc ?_ (by simp) _)⟩
set_option maxHeartbeats 800000 in
theorem other_any (n a b c d : Int) (w : World) : Calls Tryd.prog 28 #[.agg #[.int .i64 n, .int .u32 a, .int .u32 b, .int .u32 c, .int .u32 d]] w fun e w' => e = .returned (.agg #[.int .i64 n, .int .u32 a, .int .u32 b, .int .u32 c, .int .u32 d]) ∧ Below w.heap.size w w' := by
  go_enter Tryd.func28, Tryd.ntmps28
  go_wp2
  refine bodyPost_ret (v := .agg #[.int .i64 n, .int .u32 a, .int .u32 b, .int .u32 c, .int .u32 d]) (by simp [results, Tryd.results28, go_sem]) rfl ⟨rfl, ?_⟩
  repeat (first | exact Below.refl _ _ | refine Below.alloc ?_ (by first | (simp; done) | (simp; omega)) _ | refine Below.setCell ?_ (by first | (simp; done) | (simp; omega)) _)

theorem infoRg16 : (Tryd.prog.info? 53).map (·.size) = some 16 := by kernel_rfl
@[go_sem ↓] theorem load_rg16 (a : Addr) : loadVar 53 a = loadT 53 a := rfl
@[go_sem ↓] theorem store_rg16 (a : Addr) (v : Value) : storeVar 53 a v = storeT 53 a v := rfl
theorem load_rgB {w : World} {b : Nat} {cs : Array Value} {t : TypeId} (h : w.heap[b]? = some (.cells cs t (0, 0))) (hs : cs.size = 16) : (loadT 53 ⟨b, 0, none⟩).run Tryd.prog w = .ok (.agg cs) w := by
  show (loadVar 53 ⟨b, 0, none⟩).run Tryd.prog w = _
  have := run_load_by (P := Tryd.prog) 53 16 _ Tryd.underlying53 rfl infoRg16 ⟨b, 0, none⟩ w
  rw [this, loadBy_lit, row?_of h]
  dsimp only
  rw [if_pos ⟨hs, rfl⟩]
theorem store_rgB (w : World) (cs zs : Array Value) (hs : cs.size = 16) (hz : zs.size = 16) (h1 : allOne cs = true) : (storeT 53 ⟨w.heap.size, 0, none⟩ (.agg cs)).run Tryd.prog (w.alloc (.cells zs 53)) = .ok () (w.alloc (.cells cs 53)) := by
  show (storeVar 53 _ _).run Tryd.prog _ = _
  rw [run_store_by (P := Tryd.prog) _ 16 infoRg16, storeBy_lit, row?_alloc_at _ _ _ rfl]
  dsimp only
  rw [if_pos ⟨hs, h1⟩, if_pos ⟨hz, rfl⟩, setRow_alloc_at _ _ _ _ rfl]
theorem rgc_one (r : List Int) : allOne (rgc r) = true := by
  unfold allOne
  rw [Array.all_eq_true']
  intro u hu
  exact u32s_one r u (by simpa [rgc] using hu)
/-- what is wanted, of so many -/
def wantL (r : List Int) (j : Nat) : List Int := [if 0 < j then r.getD 1 0 else 0, if 1 < j then r.getD 2 0 else 0, if 2 < j then r.getD 3 0 else 0, if 3 < j then r.getD 4 0 else 0]
theorem want_step (r : List Int) (j : Nat) (hj : j < 4) : (u32s (wantL r j)).toArray.setIfInBounds j (.int .u32 (r.getD (j + 1) 0)) = (u32s (wantL r (j + 1))).toArray := by
  match j, hj with
  | 0, _ => rfl
  | 1, _ => rfl
  | 2, _ => rfl
  | 3, _ => rfl
def WantTo (r : List Int) (q wb : Nat) (w0 : World) (i : Value) (wr : World) : Prop := ∃ j : Nat, j ≤ q ∧ i = .int .i64 (j : Int) ∧ wr.heap[wb]? = some (.cells (u32s (wantL r j)).toArray 22 (0, 0)) ∧ Only (fun k => k = wb) w0 wr

set_option maxRecDepth 100000 in
set_option maxHeartbeats 8000000 in
theorem hcallRegs_walk (E : Nat → Addr) (x0 : Int) (r : List Int) (x2 : Int) (w : World) (hE : ErrsAt errT gOf w E all16) (h0 : -9223372036854775808 ≤ x0 ∧ x0 ≤ 9223372036854775807) (hr : r.length = 16) (hru : ∀ z ∈ r, 0 ≤ z ∧ z ≤ 4294967295) (h2 : -9223372036854775808 ≤ x2 ∧ x2 ≤ 9223372036854775807) :
    Calls Tryd.prog 5 #[.int .i64 x0, .agg (rgc r), .int .i64 x2] w fun e w' => e = .returned (.bool true) ∧ Below w.heap.size w w' := by
  have HN0 := Lib.hid (fun wx => number_any x0 20 wx h0.1 h0.2 (by decide) (by decide))
  have HN2 := Lib.hid (fun wx => number_any x2 12 wx h2.1 h2.2 (by decide) (by decide))
  obtain ⟨n, hnq⟩ : ∃ g : Nat, x0 % 20 = (g : Int) := ⟨(x0 % 20).toNat, by omega⟩
  have hn20 : n < 20 := by omega
  rw [hnq] at HN0
  obtain ⟨k0, hkq⟩ : ∃ g : Nat, x2 % 12 = (g : Int) := ⟨(x2 % 12).toNat, by omega⟩
  have hk12 : k0 < 12 := by omega
  rw [hkq] at HN2
  have HOF : Hid (∀ r' : List Int, r'.length = 16 → ∀ wx, Calls Tryd.prog 25 #[.int .u32 (n : Int), .agg (rgc r')] wx fun e w' => e = .returned (.tuple #[(ofL n r').1.v, .bool (ofL n r').2]) ∧ Below wx.heap.size wx w') := Lib.hid fun r' h' wx => of_any n r' wx (by omega) h'
  have hwn := IntWalk.u32_in (n : Int) (by omega)
  have HA := Lib.hid (fun wx => args_any (n : Int) wx)
  have HB0 : Hid (Below w.heap.size w (w.alloc (.cells (rgc r) 53))) := Lib.hid ((Below.refl _ _).alloc (Nat.le_refl _) _)
  have HE := Lib.hid hE
  have HEK : Hid (∀ wx, Below w.heap.size w wx → ErrsAt errT gOf wx E all16) := Lib.hid fun wx h => HE.out.mono h
  have HBR : Hid ((w.alloc (.cells (rgc r) 53)).heap[w.heap.size]? = some (.cells (rgc r) 53 (0, 0))) := Lib.hid (blk_new _ _)
  have HRG := Lib.hid (fun i hi => rgc_get r hr i hi)
  have HSZ := Lib.hid (rgc_size r hr)
  have HON := Lib.hid (rgc_one r)
  have HRL := Lib.hid hr
  have HOR := Lib.hid (HOF.out r hr)
  obtain ⟨cs, hcs⟩ : ∃ cs, rgc r = cs := ⟨_, rfl⟩
  have HCS := Lib.hid hcs
  rw [hcs] at HB0 HBR HRG HSZ HON HOR ⊢
  clear hnq hkq h0 h2 hE hcs hr hru
  by_cases hin : 1 ≤ n ∧ n ≤ 15
  · obtain ⟨q, hq⟩ : ∃ q : Nat, argN (n : Int) = (q : Int) := ⟨(argN n).toNat, by have h1 := argN_in (n : Int); have h2 := argT_le n; unfold argN at h1 ⊢; rw [if_pos (by omega), Int.toNat_natCast] at h1 ⊢; omega⟩
    have hq4 : q ≤ 4 := by have := argN_in (n : Int); omega
    have HO : Hid (∀ r' : List Int, ofL (n : Int) r' = (cutL n q [r'.getD 1 0, r'.getD 2 0, r'.getD 3 0, r'.getD 4 0], true)) := Lib.hid fun r' => by unfold ofL; rw [if_pos ⟨by omega, by omega⟩, hq]
    rw [HO.out] at HOR
    rw [hq, if_pos (by omega), decide_eq_true (by omega)] at HA
    obtain ⟨y1, hy1⟩ : ∃ y, (if 0 < q then r.getD 1 0 else 0) = y := ⟨_, rfl⟩
    obtain ⟨y2, hy2⟩ : ∃ y, (if 1 < q then r.getD 2 0 else 0) = y := ⟨_, rfl⟩
    obtain ⟨y3, hy3⟩ : ∃ y, (if 2 < q then r.getD 3 0 else 0) = y := ⟨_, rfl⟩
    obtain ⟨y4, hy4⟩ : ∃ y, (if 3 < q then r.getD 4 0 else 0) = y := ⟨_, rfl⟩
    have HCUT : Hid (cutL n q [r.getD 1 0, r.getD 2 0, r.getD 3 0, r.getD 4 0] = ⟨n, y1, y2, y3, y4⟩) := Lib.hid (by
      rw [← hy1, ← hy2, ← hy3, ← hy4]
      unfold cutL
      have e0 : ((0 : Int) < (q : Int)) = (0 < q) := propext ⟨fun h => by omega, fun h => by omega⟩
      have e1 : ((1 : Int) < (q : Int)) = (1 < q) := propext ⟨fun h => by omega, fun h => by omega⟩
      have e2 : ((2 : Int) < (q : Int)) = (2 < q) := propext ⟨fun h => by omega, fun h => by omega⟩
      have e3 : ((3 : Int) < (q : Int)) = (3 < q) := propext ⟨fun h => by omega, fun h => by omega⟩
      simp only [e0, e1, e2, e3]
      rfl)
    have HWL : Hid (wantL r q = [y1, y2, y3, y4]) := Lib.hid (by rw [← hy1, ← hy2, ← hy3, ← hy4]; rfl)
    rw [HCUT.out] at HOR
    unfold Hc.v at HOR
    dsimp only at HOR
    have hn1 : 1 ≤ (n : Int) := by omega
    have hn15 : (n : Int) ≤ 15 := by omega
    obtain ⟨kk, hkk⟩ : ∃ kk : Nat, (5 + (k0 : Int)) % 16 = (kk : Int) := ⟨((5 + (k0 : Int)) % 16).toNat, by omega⟩
    have hkk16 : kk < 16 := by omega
    have hkki : (kk : Int) < 16 := by omega
    have HKN : Hid (kk = 0 ∨ 5 ≤ kk) := Lib.hid (by omega)
    clear hin hq hy1 hy2 hy3 hy4
    go_enter Tryd.func5, Tryd.ntmps5
    go_wp2_with fail
    refine (hc_first E _ (HEK.out _ HB0.out)).mono ?_
    rintro e w1 ⟨rfl, hb1⟩
    have HBR1 := Lib.hid (blk_below HBR.out hb1 (blk_lt HBR.out))
    have HB1 := Lib.hid (HB0.out.trans (hb1.mono HB0.out.size))
    clear hb1
    go_wp2_with fail
    refine (HN0.out _).mono ?_
    rintro e w2 ⟨rfl, rfl⟩
    have hld := load_rgB HBR1.out HSZ.out
    go_wp2_with fail
    refine (HOR.out _).mono ?_
    rintro e w3 ⟨rfl, hb3⟩
    have HB3 : Hid (Below w.heap.size w (w3.alloc (.cells #[.int .i64 n, .int .u32 y1, .int .u32 y2, .int .u32 y3, .int .u32 y4] 55))) := Lib.hid ((HB1.out.trans (hb3.mono HB1.out.size)).alloc (HB1.out.trans (hb3.mono HB1.out.size)).size _)
    have HK3 := Lib.hid (blk_new w3 (.cells #[.int .i64 n, .int .u32 y1, .int .u32 y2, .int .u32 y3, .int .u32 y4] 55))
    have HBR3 : Hid ((w3.alloc (.cells #[.int .i64 n, .int .u32 y1, .int .u32 y2, .int .u32 y3, .int .u32 y4] 55)).heap[w.heap.size]? = some (.cells cs 53 (0, 0))) := Lib.hid (blk_old (blk_below HBR1.out hb3 (blk_lt HBR1.out)) _)
    have HLT3 : Hid (w.heap.size < w3.heap.size) := Lib.hid (blk_lt (blk_below HBR1.out hb3 (blk_lt HBR1.out)))
    clear hb3 hld
    go_wp2_with fail
    refine (HA.out _).mono ?_
    rintro e w4 ⟨rfl, hb4⟩
    have HB4 := Lib.hid (HB3.out.trans (hb4.mono HB3.out.size))
    have HK4 := Lib.hid (blk_below HK3.out hb4 (blk_lt HK3.out))
    have HBR4 := Lib.hid (blk_below HBR3.out hb4 (blk_lt HBR3.out))
    clear hb4
    obtain ⟨cb, hcb⟩ : ∃ cb, w3.heap.size = cb := ⟨_, rfl⟩
    rw [hcb] at HK4 HLT3 ⊢
    clear hcb HK3 HBR3 HB3
    go_wp2_with fail
    have HWB : Hid (WantTo r q w4.heap.size (w4.alloc (.cells #[.int .u32 0, .int .u32 0, .int .u32 0, .int .u32 0] 22)) (.int .i64 0) (w4.alloc (.cells #[.int .u32 0, .int .u32 0, .int .u32 0, .int .u32 0] 22))) := Lib.hid ⟨0, Nat.zero_le _, rfl, blk_new _ _, Only.refl _ _⟩
    have HB5 : Hid (Below w.heap.size w (w4.alloc (.cells #[.int .u32 0, .int .u32 0, .int .u32 0, .int .u32 0] 22))) := Lib.hid (HB4.out.alloc HB4.out.size _)
    have HK5 := Lib.hid (blk_old HK4.out (.cells #[.int .u32 0, .int .u32 0, .int .u32 0, .int .u32 0] 22))
    have HBR5 := Lib.hid (blk_old HBR4.out (.cells #[.int .u32 0, .int .u32 0, .int .u32 0, .int .u32 0] 22))
    have HLT5 : Hid (w.heap.size < w4.heap.size ∧ cb < w4.heap.size) := Lib.hid ⟨blk_lt HBR4.out, blk_lt HK4.out⟩
    generalize w4.alloc (.cells #[.int .u32 0, .int .u32 0, .int .u32 0, .int .u32 0] 22) = w5 at HWB HB5 HK5 HBR5 ⊢
    obtain ⟨wb, hwb⟩ : ∃ wb, w4.heap.size = wb := ⟨_, rfl⟩
    rw [hwb] at HWB HLT5 ⊢
    clear hwb HK4 HBR4 HB4
    have hqi : (q : Int) ≤ 4 := by omega
    go_loopw [13] (fun i wr => WantTo r q wb w5 i wr) (fun i _ => q - (intOf i).toNat)
    case atStart => exact HWB.out
    case round =>
      obtain ⟨j, hj, rfl, hblk, ho⟩ := hrel
      have HBLK := Lib.hid hblk
      have HO5 := Lib.hid ho
      clear ho HWB
      by_cases hlt : j < q
      · have hji : (j : Int) < (q : Int) := by omega
        have hj4 : (j : Int) < 4 := by omega
        have hj16 : (j : Int) + 1 < 16 := by omega
        have hbr := HO5.out.blk HBR5.out (by have := HLT5.out.1; omega)
        have c0 := (blk_cell hbr (j + 1)).trans (HRG.out (j + 1) (by omega))
        have hlt0 := blk_lt hbr
        have hold : wr.cell? ⟨wb, j, none⟩ = some (.int .u32 ((wantL r j).getD j 0)) := by
          rw [blk_cell hblk, List.getElem?_toArray]
          exact u32s_get _ j (by show j < 4; omega)
        have f0 := blk_free hblk j
        have HP := Lib.hid (blk_put hblk j (.int .u32 (r.getD (j + 1) 0)))
        rw [want_step r j (by omega)] at HP
        have HO6 : Hid (Only (fun k => k = wb) w5 (wr.setCell ⟨wb, j, none⟩ (.int .u32 (r.getD (j + 1) 0)))) := Lib.hid (HO5.out.setCell (p := ⟨wb, j, none⟩) (.inl rfl) _)
        obtain ⟨z, hz⟩ : ∃ z, r.getD (j + 1) 0 = z := ⟨_, rfl⟩
        rw [hz] at c0 HP HO6
        clear hz hblk hbr
        go_wp2
        go_roundw
        case rel => exact ⟨j + 1, by omega, by go_num, HP.out, HO6.out⟩
        case measure => simp [intOf]; omega
      · obtain rfl : j = q := by omega
        rw [HWL.out] at HBLK
        clear hblk
        have HB6 := Lib.hid (HB5.out.trans (HO5.out.below (B := w.heap.size) HB5.out.size (fun k hk => by subst hk; have := HLT5.out.1; omega)))
        have HBR6 := Lib.hid (HO5.out.blk HBR5.out (by have := HLT5.out.1; omega))
        have HK6 := Lib.hid (HO5.out.blk HK5.out (by have := HLT5.out.2; omega))
        have hld := load_rgB HBR6.out HSZ.out
        have hst := store_rgB wr cs #[.int .u32 0, .int .u32 0, .int .u32 0, .int .u32 0, .int .u32 0, .int .u32 0, .int .u32 0, .int .u32 0, .int .u32 0, .int .u32 0, .int .u32 0, .int .u32 0, .int .u32 0, .int .u32 0, .int .u32 0, .int .u32 0] HSZ.out rfl HON.out
        go_wp2_with fail
        refine (HN2.out _).mono ?_
        rintro e w7 ⟨rfl, rfl⟩
        have HNW := Lib.hid (blk_new wr (.cells cs 53))
        have ck := (blk_cell HNW.out kk).trans (HRG.out kk hkk16)
        have fk := blk_free HNW.out kk
        obtain ⟨rk, hrk⟩ : ∃ z, r.getD kk 0 = z := ⟨_, rfl⟩
        rw [hrk] at ck
        obtain ⟨X, hX⟩ : ∃ X, bits BinOp.xor IntKind.u32 rk 65535 = X := ⟨_, rfl⟩
        have HC2 : Hid (rgc (r.set kk X) = cs.setIfInBounds kk (.int .u32 X)) := Lib.hid (by rw [← HCS.out]; unfold rgc u32s; simp [List.map_set])
        have hl2 : (loadT 53 ⟨wr.heap.size, 0, none⟩).run Tryd.prog (wr.alloc (.cells (cs.setIfInBounds kk (.int .u32 X)) 53)) = .ok (.agg (rgc (r.set kk X))) (wr.alloc (.cells (cs.setIfInBounds kk (.int .u32 X)) 53)) := by
          rw [HC2.out]
          exact load_rgB (blk_new _ _) (by rw [Array.size_setIfInBounds]; exact HSZ.out)
        have HOF2 := Lib.hid (HOF.out (r.set kk X) (by rw [List.length_set]; exact HRL.out))
        have HSAME : Hid (ofL (n : Int) (r.set kk X) = (⟨n, y1, y2, y3, y4⟩, true)) := Lib.hid (by
          have hg : ∀ i, 1 ≤ i → i ≤ 4 → (r.set kk X).getD i 0 = r.getD i 0 := fun i h1 h4 => by
            have := HKN.out
            rw [List.getD_eq_getElem?_getD, List.getElem?_set_ne (by omega), List.getD_eq_getElem?_getD]
          rw [HO.out, hg 1 (by decide) (by decide), hg 2 (by decide) (by decide), hg 3 (by decide) (by decide), hg 4 (by decide) (by decide), HCUT.out])
        rw [HSAME.out] at HOF2
        unfold Hc.v at HOF2
        dsimp only at HOF2
        obtain ⟨cs2, hcs2⟩ : ∃ c2, rgc (r.set kk X) = c2 := ⟨_, rfl⟩
        rw [hcs2] at hl2 HOF2
        have HB7 : Hid (Below w.heap.size w (wr.alloc (.cells (cs.setIfInBounds kk (.int .u32 X)) 53))) := Lib.hid (HB6.out.alloc HB6.out.size _)
        have HK7 := Lib.hid (blk_old HK6.out (.cells (cs.setIfInBounds kk (.int .u32 X)) 53))
        have HW7 := Lib.hid (blk_old HBLK.out (.cells (cs.setIfInBounds kk (.int .u32 X)) 53))
        clear hld hst hrk hcs2
        go_wp2_with fail
        refine (HOF2.out _).mono ?_
        rintro e w8 ⟨rfl, hb8⟩
        have HK8 := Lib.hid (blk_below HK7.out hb8 (blk_lt HK7.out))
        have HW8 := Lib.hid (blk_below HW7.out hb8 (blk_lt HW7.out))
        have HB8 := Lib.hid (HB7.out.trans (hb8.mono HB7.out.size))
        clear hb8 hl2 ck fk hX
        go_wp2_with fail
        obtain ⟨wA, hwA⟩ : ∃ wA, wA = w8.alloc (.cells #[.int .i64 n, .int .u32 y1, .int .u32 y2, .int .u32 y3, .int .u32 y4] 55) := ⟨_, rfl⟩
        have hba : Below w8.heap.size w8 wA := hwA ▸ Below.alloc (Below.refl _ _) (Nat.le_refl _) _
        have HKA1 := Lib.hid (blk_below HK8.out hba (blk_lt HK8.out))
        have HKA2 := Lib.hid (blk_below HW8.out hba (blk_lt HW8.out))
        have HKA3 : Hid (wA.heap[w8.heap.size]? = some (.cells #[.int .i64 n, .int .u32 y1, .int .u32 y2, .int .u32 y3, .int .u32 y4] 55 (0, 0))) := Lib.hid (hwA ▸ blk_new w8 _)
        have HBA := Lib.hid (HB8.out.trans (hba.mono HB8.out.size))
        rw [← hwA]
        obtain ⟨db, hdb⟩ : ∃ da, w8.heap.size = da := ⟨_, rfl⟩
        rw [hdb] at HKA3 ⊢
        clear hwA hba hdb
        have HKA : Hid (∀ wx, Below wA.heap.size wA wx → Below wA.heap.size wA wx ∧ wx.cell? ⟨cb, 0, none⟩ = some (.int .i64 n) ∧ wx.cell? ⟨cb, 1, none⟩ = some (.int .u32 y1) ∧ wx.cell? ⟨cb, 2, none⟩ = some (.int .u32 y2) ∧ wx.cell? ⟨cb, 3, none⟩ = some (.int .u32 y3) ∧ wx.cell? ⟨cb, 4, none⟩ = some (.int .u32 y4) ∧ wx.cell? ⟨wb, 0, none⟩ = some (.int .u32 y1) ∧ wx.cell? ⟨wb, 1, none⟩ = some (.int .u32 y2) ∧ wx.cell? ⟨wb, 2, none⟩ = some (.int .u32 y3) ∧ wx.cell? ⟨wb, 3, none⟩ = some (.int .u32 y4) ∧ wx.cell? ⟨db, 0, none⟩ = some (.int .i64 n) ∧ wx.cell? ⟨db, 1, none⟩ = some (.int .u32 y1) ∧ wx.cell? ⟨db, 2, none⟩ = some (.int .u32 y2) ∧ wx.cell? ⟨db, 3, none⟩ = some (.int .u32 y3) ∧ wx.cell? ⟨db, 4, none⟩ = some (.int .u32 y4)) := Lib.hid fun wx h => by
          have h1 := blk_below HKA1.out h (blk_lt HKA1.out)
          have h2 := blk_below HKA2.out h (blk_lt HKA2.out)
          have h3 := blk_below HKA3.out h (blk_lt HKA3.out)
          exact ⟨h, blk_cell h1 0, blk_cell h1 1, blk_cell h1 2, blk_cell h1 3, blk_cell h1 4, blk_cell h2 0, blk_cell h2 1, blk_cell h2 2, blk_cell h2 3, blk_cell h3 0, blk_cell h3 1, blk_cell h3 2, blk_cell h3 3, blk_cell h3 4⟩
        obtain ⟨-, q0, q1, q2, q3, q4, q5, q6, q7, q8, q9, q10, q11, q12, q13⟩ := HKA.out _ (Below.refl _ wA)
        have hB0 : Below wA.heap.size wA wA.drew := (Below.refl _ _).drew
        try simp only [List.append]
        go_region_held3 (fun wx => Below wA.heap.size wA wx ∧ wx.cell? ⟨cb, 0, none⟩ = some (.int .i64 n) ∧ wx.cell? ⟨cb, 1, none⟩ = some (.int .u32 y1) ∧ wx.cell? ⟨cb, 2, none⟩ = some (.int .u32 y2) ∧ wx.cell? ⟨cb, 3, none⟩ = some (.int .u32 y3) ∧ wx.cell? ⟨cb, 4, none⟩ = some (.int .u32 y4) ∧ wx.cell? ⟨wb, 0, none⟩ = some (.int .u32 y1) ∧ wx.cell? ⟨wb, 1, none⟩ = some (.int .u32 y2) ∧ wx.cell? ⟨wb, 2, none⟩ = some (.int .u32 y3) ∧ wx.cell? ⟨wb, 3, none⟩ = some (.int .u32 y4) ∧ wx.cell? ⟨db, 0, none⟩ = some (.int .i64 n) ∧ wx.cell? ⟨db, 1, none⟩ = some (.int .u32 y1) ∧ wx.cell? ⟨db, 2, none⟩ = some (.int .u32 y2) ∧ wx.cell? ⟨db, 3, none⟩ = some (.int .u32 y3) ∧ wx.cell? ⟨db, 4, none⟩ = some (.int .u32 y4)) (first | exact HKA.out _ (by assumption))
          (first
            | (go_at_call 28; refine (other_any n y1 y2 y3 y4 _).mono ?_; rintro e w9 ⟨rfl, hb9⟩; have hB9 : Below wA.heap.size wA w9 := (by first | exact hB0.trans (hb9.mono hB0.size) | exact hB9.trans (hb9.mono hB9.size)))
            | (go_at_call 27; refine (sameCall_refl n y1 y2 y3 y4 _).mono ?_; rintro e w10 ⟨rfl, hb10⟩; have hB10 : Below wA.heap.size wA w10 := hB9.trans (hb10.mono hB9.size)))
        all_goals
          have HBF := Lib.hid (HBA.out.trans (hB10.mono HBA.out.size))
          clear q0 q1 q2 q3 q4 q5 q6 q7 q8 q9 q10 q11 q12 q13
          go_wp2
          go_ret
          exact ⟨rfl, HBF.out⟩
  · have HO : Hid (ofL (n : Int) r = (⟨0, 0, 0, 0, 0⟩, false)) := Lib.hid (by unfold ofL; rw [if_neg (by omega)])
    have HAN : Hid (argN (n : Int) = -1) := Lib.hid (by unfold argN; rw [if_neg (by omega)])
    rw [HO.out] at HOR
    rw [HAN.out] at HA
    rw [if_neg (by decide), show decide ((0 : Int) ≤ -1) = false by decide] at HA
    unfold Hc.v at HOR
    dsimp only at HOR
    have hc : n = 0 ∨ (¬ n = 0 ∧ 15 < n) := by omega
    clear hin
    have ht : (decide (1 ≤ (n : Int)) && decide ((n : Int) ≤ 15)) = false := by
      rw [Bool.eq_false_iff]; simp; omega
    go_enter Tryd.func5, Tryd.ntmps5
    go_wp2_with fail
    refine (hc_first E _ (HEK.out _ HB0.out)).mono ?_
    rintro e w1 ⟨rfl, hb1⟩
    have HBR1 := Lib.hid (blk_below HBR.out hb1 (blk_lt HBR.out))
    have HB1 := Lib.hid (HB0.out.trans (hb1.mono HB0.out.size))
    clear hb1
    go_wp2_with fail
    refine (HN0.out _).mono ?_
    rintro e w2 ⟨rfl, rfl⟩
    have hld := load_rgB HBR1.out HSZ.out
    go_wp2_with fail
    refine (HOR.out _).mono ?_
    rintro e w3 ⟨rfl, hb3⟩
    have HB3 : Hid (Below w.heap.size w (w3.alloc (.cells #[.int .i64 0, .int .u32 0, .int .u32 0, .int .u32 0, .int .u32 0] 55))) := Lib.hid ((HB1.out.trans (hb3.mono HB1.out.size)).alloc (HB1.out.trans (hb3.mono HB1.out.size)).size _)
    have HK3 := Lib.hid (blk_new w3 (.cells #[.int .i64 0, .int .u32 0, .int .u32 0, .int .u32 0, .int .u32 0] 55))
    clear hb3 hld
    go_wp2_with fail
    refine (HA.out _).mono ?_
    rintro e w4 ⟨rfl, hb4⟩
    have HB4 := Lib.hid (HB3.out.trans (hb4.mono HB3.out.size))
    have hk4 := blk_below HK3.out hb4 (blk_lt HK3.out)
    have a0 := blk_cell hk4 0
    have a1 := blk_cell hk4 1
    have a2 := blk_cell hk4 2
    have a3 := blk_cell hk4 3
    have a4 := blk_cell hk4 4
    have a0 : w4.cell? ⟨w3.heap.size, 0, none⟩ = some (.int .i64 0) := a0
    have a1 : w4.cell? ⟨w3.heap.size, 1, none⟩ = some (.int .u32 0) := a1
    have a2 : w4.cell? ⟨w3.heap.size, 2, none⟩ = some (.int .u32 0) := a2
    have a3 : w4.cell? ⟨w3.heap.size, 3, none⟩ = some (.int .u32 0) := a3
    have a4 : w4.cell? ⟨w3.heap.size, 4, none⟩ = some (.int .u32 0) := a4
    clear hb4 hk4
    rcases hc with rfl | ⟨-, hc⟩
    all_goals
      go_wp2_with fail
      refine (other_any 0 0 0 0 0 _).mono ?_
      rintro e w5 ⟨rfl, hb5⟩
      have HB5 := Lib.hid (HB4.out.trans (hb5.mono HB4.out.size))
      clear hb5
      go_wp2_with fail
      refine (sameCall_refl 0 0 0 0 0 _).mono ?_
      rintro e w6 ⟨rfl, hb6⟩
      have HB6 := Lib.hid (HB5.out.trans (hb6.mono HB5.out.size))
      clear hb6
      go_wp2
      go_ret
      exact ⟨rfl, HB6.out⟩
end Go.Proofs.YtpmbbbgmaipmbaaDoor
