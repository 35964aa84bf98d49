/-
  HcallSays: for every number, registers, words and counts the call returns true; nothing that was there is turned. Given where the sentinels lie.
-/
import Derived.Test.YtpmbbbgmaipmbaaDoorHcRef2
import Derived.Test.YtpmbbbgmaipmbaaDoorHcRegs
import Derived.Test.YtpmbbbgmaipmbaaDoorHcCode
import Derived.Test.YtpmbbbgmaipmbaaDoorHeld
namespace Go.Proofs.YtpmbbbgmaipmbaaDoor
open Go.ChangeShapes Go.WideShapes Go.ChangeAt Go.RowKit Go.Joins Go.Deep

theorem slice_cap {H : Type} {enc : TypeId × Value → H} {P : Program} {W : World} {t e : TypeId} {ao : Option Addr} {n cap : Nat} {d : DataW H} {p : List MemPlace} (ht : P.underlying t = some (.slice e)) (h : DataW.Trod enc P W 0 (fun _ => true) true t (.slice ao n cap) d p) : cap ≤ 9223372036854775807 := by
  obtain ⟨fuel, hf⟩ := h
  rcases open_slice ht hf with ⟨hcs, _⟩ | ⟨a, l, c, m, q, D, Pl, hcs, _, hl, hm, -⟩
  · simp [Value.cells] at hcs
    omega
  · simp [Value.cells] at hcs
    unfold maxLen at hm
    omega
/-- what Batch answers: the calls, the fault -/
structure BatR where
  l : List Hc
  c : Int
  b : Bool
  p : Int
def batchR (ws : List Int) (n : Int) : BatR :=
  if n < 0 ∨ 16 < n then ⟨[], 104, false, 0⟩ else if (ws.length : Int) ≠ 5 * n then ⟨[], 103, false, 0⟩ else match hcBad ws n.toNat with
  | some i => ⟨[], 107, true, (i : Int)⟩
  | none => ⟨hcAll ws n.toNat, 0, false, 0⟩
def BatchAll (E : Nat → Addr) (R : BatR) (w : World) (e : Ending) (w' : World) : Prop :=
  ∃ ev ao cap, e = .returned (.tuple #[.slice ao R.l.length cap, ev]) ∧ errFlt E w' ev R.c R.b R.p ∧ AtL w' ao (R.l.flatMap hcCells) ∧ Below w.heap.size w w'
def RBatchAll (R : BatR) (w : World) (e : Ending) (w' : World) : Prop :=
  ∃ ao cap, e = .returned (.tuple #[.slice ao R.l.length cap, .agg #[.int .i64 R.c, .bool R.b, .int .i64 R.p]]) ∧ AtL w' ao (R.l.flatMap hcCells) ∧ Below w.heap.size w w'
theorem batch_all (E : Nat → Addr) (ws : List Int) (ao : Option Addr) (c : Nat) (n : Int) (w : World) (hE : ErrsAt errT gOf w E all16) (hc : ws.length ≤ c) (hcm : c ≤ 9223372036854775807) (hl : AtL w ao (u32s ws)) (hz : ∀ z ∈ ws, 0 ≤ z ∧ z ≤ 4294967295) :
    Calls Tryd.prog 32 #[.slice ao ws.length c, .int .i64 n] w (BatchAll E (batchR ws n) w) := by
  unfold batchR
  by_cases h1 : n < 0 ∨ 16 < n
  · rw [if_pos h1]
    refine (batch_many E ao ws.length c n w hE h1).mono ?_
    rintro e w' ⟨rfl, hb⟩
    exact ⟨_, none, 0, rfl, .inl ⟨.inr ⟨3, by decide, rfl, rfl⟩, rfl, rfl⟩, atL_nil _ _, hb⟩
  · rw [if_neg h1]
    obtain ⟨m, rfl⟩ := Int.eq_ofNat_of_zero_le (show 0 ≤ n by omega)
    by_cases h2 : (ws.length : Int) ≠ 5 * (m : Int)
    · rw [if_pos h2]
      refine (batch_range E ao ws.length c m w hE (by omega) (by omega) (by omega)).mono ?_
      rintro e w' ⟨rfl, hb⟩
      exact ⟨_, none, 0, rfl, .inl ⟨.inr ⟨2, by decide, rfl, rfl⟩, rfl, rfl⟩, atL_nil _ _, hb⟩
    · rw [if_neg h2, Int.toNat_natCast]
      refine (batch_any E ws ao c m w hE (by omega) (by omega) hc hcm hl hz).mono ?_
      rintro e w' ⟨hb, hx, hy⟩
      cases hB : hcBad ws m with
      | some i =>
        obtain ⟨p, hp, rfl, hpc⟩ := hx i hB
        exact ⟨_, none, 0, rfl, .inr ⟨6, p, by decide, rfl, hpc, rfl, rfl⟩, atL_nil _ _, hb⟩
      | none =>
        obtain ⟨v, rfl, hown, -⟩ := hy hB
        obtain ⟨ao', cap', rfl, hat⟩ := atL_of_own hown
        refine ⟨.nilIface, ao', cap', ?_, .inl ⟨.inl ⟨rfl, rfl⟩, rfl, rfl⟩, hat, hb⟩
        dsimp only
        rw [hcAll_len]
theorem rbatch_all (ws : List Int) (ao : Option Addr) (c : Nat) (n : Int) (w : World) (hc : ws.length ≤ c) (hcm : c ≤ 9223372036854775807) (hl : AtL w ao (u32s ws)) (hz : ∀ z ∈ ws, 0 ≤ z ∧ z ≤ 4294967295) :
    Calls Tryd.prog 38 #[.slice ao ws.length c, .int .i64 n] w (RBatchAll (batchR ws n) w) := by
  unfold batchR
  by_cases h1 : n < 0 ∨ 16 < n
  · rw [if_pos h1]
    refine (rbatch_many ao ws.length c n w h1).mono ?_
    rintro e w' ⟨rfl, hb⟩
    exact ⟨none, 0, rfl, atL_nil _ _, hb⟩
  · rw [if_neg h1]
    obtain ⟨m, rfl⟩ := Int.eq_ofNat_of_zero_le (show 0 ≤ n by omega)
    by_cases h2 : (ws.length : Int) ≠ 5 * (m : Int)
    · rw [if_pos h2]
      refine (rbatch_range ao ws.length c m w (by omega) (by omega) (by omega)).mono ?_
      rintro e w' ⟨rfl, hb⟩
      exact ⟨none, 0, rfl, atL_nil _ _, hb⟩
    · rw [if_neg h2, Int.toNat_natCast]
      refine (rbatch_any ws ao c m w (by omega) (by omega) hc hcm hl hz).mono ?_
      rintro e w' ⟨hb, hx, hy⟩
      cases hB : hcBad ws m with
      | some i =>
        rw [hx i hB]
        exact ⟨none, 0, rfl, atL_nil _ _, hb⟩
      | none =>
        obtain ⟨v, rfl, hown, -⟩ := hy hB
        obtain ⟨ao', cap', rfl, hat⟩ := atL_of_own hown
        refine ⟨ao', cap', ?_, hat, hb⟩
        dsimp only
        rw [hcAll_len]
/-- a count, over a world -/
def UpS (n : Nat) (w : World) (i : Value) (wr : World) : Prop := ∃ j : Nat, j ≤ n ∧ i = .int .i64 (j : Int) ∧ Below w.heap.size w wr
theorem hc_cells' (l : List Hc) (j k : Nat) (hj : j < l.length) (hk : k < 5) : (l.flatMap hcCells)[5 * j + k]? = (hcCells (l.getD j default))[k]? := by
  rw [show 5 * j + k = j * 5 + k by omega]
  exact rec_get hcCells 5 hc_len l j k hj hk
theorem batchR_len (ws : List Int) (n : Int) : (batchR ws n).l.length ≤ 16 := by
  unfold batchR
  split
  · exact Nat.zero_le _
  · split
    · exact Nat.zero_le _
    · split
      · exact Nat.zero_le _
      · show (hcAll ws n.toNat).length ≤ 16
        rw [hcAll_len]
        omega

set_option maxRecDepth 100000 in
set_option maxHeartbeats 8000000 in
theorem hcallSays_walk (E : Nat → Addr) (x0 : Int) (r : List Int) (ws : List Int) (ao : Option Addr) (c : Nat) (n k : Int) (w : World) (hE : ErrsAt errT gOf w E all16) (h0 : 0 ≤ x0) (hr : r.length = 16) (hc : ws.length ≤ c) (hcm : c ≤ 9223372036854775807) (hl : AtL w ao (u32s ws)) (hz : ∀ z ∈ ws, 0 ≤ z ∧ z ≤ 4294967295) :
    Calls Tryd.prog 11 #[.int .u32 x0, .agg (rgc r), .slice ao ws.length c, .int .i64 n, .int .i64 k] w fun e w' => e = .returned (.bool true) ∧ Below w.heap.size w w' := by
  have HEK : Hid (∀ wx, Below w.heap.size w wx → ErrsAt errT gOf wx E all16) := Lib.hid fun wx hx => hE.mono hx
  have HB0 : Hid (Below w.heap.size w (w.alloc (.cells (rgc r) 53))) := Lib.hid ((Below.refl _ _).alloc (Nat.le_refl _) _)
  have HBR : Hid ((w.alloc (.cells (rgc r) 53)).heap[w.heap.size]? = some (.cells (rgc r) 53 (0, 0))) := Lib.hid (blk_new _ _)
  have HSZ := Lib.hid (rgc_size r hr)
  have HOF : Hid (∀ wx, Calls Tryd.prog 25 #[.int .u32 x0, .agg (rgc r)] wx fun e w' => e = .returned (.tuple #[(ofL x0 r).1.v, .bool (ofL x0 r).2]) ∧ Below wx.heap.size wx w') := Lib.hid fun wx => of_any x0 r wx h0 hr
  have HRO : Hid (∀ wx, Calls Tryd.prog 37 #[.int .u32 x0, .agg (rgc r)] wx fun e w' => e = .returned (.tuple #[(ofL x0 r).1.v, .bool (ofL x0 r).2]) ∧ Below wx.heap.size wx w') := Lib.hid fun wx => ofCall_any x0 r wx h0 hr
  have HBA : Hid (∀ wx, Below w.heap.size w wx → Calls Tryd.prog 32 #[.slice ao ws.length c, .int .i64 n] wx (BatchAll E (batchR ws n) wx)) := Lib.hid fun wx h => batch_all E ws ao c n wx (HEK.out _ h) hc hcm (hl.mono h) hz
  have HRB : Hid (∀ wx, Below w.heap.size w wx → Calls Tryd.prog 38 #[.slice ao ws.length c, .int .i64 n] wx (RBatchAll (batchR ws n) wx)) := Lib.hid fun wx h => rbatch_all ws ao c n wx hc hcm (hl.mono h) hz
  have HRL := Lib.hid (batchR_len ws n)
  have HA := Lib.hid (fun wx => args_any k wx)
  have HRA := Lib.hid (fun wx => rargs_any k wx)
  obtain ⟨cs, hcs⟩ : ∃ cs, rgc r = cs := ⟨_, rfl⟩
  rw [hcs] at HB0 HBR HSZ HOF HRO ⊢
  obtain ⟨⟨⟨y0, y1, y2, y3, y4⟩, has⟩, hy⟩ : ∃ y, ofL x0 r = y := ⟨_, rfl⟩
  rw [hy] at HOF HRO
  unfold Hc.v at HOF HRO
  dsimp only at HOF HRO
  obtain ⟨⟨L, fc, fb, fp⟩, hR⟩ : ∃ R, batchR ws n = R := ⟨_, rfl⟩
  rw [hR] at HBA HRB HRL
  unfold BatchAll at HBA
  unfold RBatchAll at HRB
  dsimp only at HBA HRB HRL
  obtain ⟨A, hA⟩ : ∃ A, argN k = A := ⟨_, rfl⟩
  rw [hA] at HA HRA
  clear hE h0 hr hc hcm hl hz hcs hy hR hA
  by_cases hbig : 100 < ws.length
  · have hbi : (100 : Int) < (ws.length : Int) := by omega
    clear hbig
    go_enter Tryd.func11, Tryd.ntmps11
    go_wp2_with fail
    refine (hc_first E _ (HEK.out _ HB0.out)).mono ?_
    rintro e w1 ⟨rfl, hb1⟩
    have HB1 := Lib.hid (HB0.out.trans (hb1.mono HB0.out.size))
    clear hb1
    go_wp2
    go_ret
    exact ⟨rfl, HB1.out⟩
  · have hbi : ¬ (100 : Int) < (ws.length : Int) := by omega
    obtain ⟨is, his⟩ : ∃ b, decide (0 ≤ A) = b := ⟨_, rfl⟩
    obtain ⟨na, hna⟩ : ∃ n, (if 0 ≤ A then A else 0) = n := ⟨_, rfl⟩
    rw [his, hna] at HA
    have hcase : (is = true ∧ 0 ≤ A ∧ na = A) ∨ (is = false ∧ ¬ 0 ≤ A) := by
      by_cases h : 0 ≤ A
      · rw [decide_eq_true h] at his
        rw [if_pos h] at hna
        exact .inl ⟨his.symm, h, hna.symm⟩
      · rw [decide_eq_false h] at his
        exact .inr ⟨his.symm, h⟩
    clear hbig his hna
    go_enter Tryd.func11, Tryd.ntmps11
    go_wp2_with fail
    refine (hc_first E _ (HEK.out _ HB0.out)).mono ?_
    rintro e w1 ⟨rfl, hb1⟩
    have HB1 := Lib.hid (HB0.out.trans (hb1.mono HB0.out.size))
    have HBR1 := Lib.hid (blk_below HBR.out hb1 (blk_lt HBR.out))
    clear hb1
    go_wp2_with fail
    refine (HA.out _).mono ?_
    rintro e w2 ⟨rfl, hb2⟩
    have HB2 := Lib.hid (HB1.out.trans (hb2.mono HB1.out.size))
    have HBR2 := Lib.hid (blk_below HBR1.out hb2 (blk_lt HBR1.out))
    clear hb2
    go_wp2_with fail
    refine (HRA.out _).mono ?_
    rintro e w3 ⟨rfl, hb3⟩
    have HB3 := Lib.hid (HB2.out.trans (hb3.mono HB2.out.size))
    have HBR3 := Lib.hid (blk_below HBR2.out hb3 (blk_lt HBR2.out))
    have hld := load_rgB HBR3.out HSZ.out
    clear hb3
    go_wp2_with fail
    refine (HOF.out _).mono ?_
    rintro e w4 ⟨rfl, hb4⟩
    obtain ⟨wC, hwC⟩ : ∃ wC, wC = w4.alloc (.cells #[.int .i64 y0, .int .u32 y1, .int .u32 y2, .int .u32 y3, .int .u32 y4] 55) := ⟨_, rfl⟩
    have hbc : Below w4.heap.size w4 wC := hwC ▸ (Below.refl _ _).alloc (Nat.le_refl _) _
    have HB4 := Lib.hid ((HB3.out.trans (hb4.mono HB3.out.size)).trans (hbc.mono (HB3.out.trans (hb4.mono HB3.out.size)).size))
    have HBR4 := Lib.hid (blk_below (blk_below HBR3.out hb4 (blk_lt HBR3.out)) hbc (blk_lt (blk_below HBR3.out hb4 (blk_lt HBR3.out))))
    have HC4 : Hid (wC.heap[w4.heap.size]? = some (.cells #[.int .i64 y0, .int .u32 y1, .int .u32 y2, .int .u32 y3, .int .u32 y4] 55 (0, 0))) := Lib.hid (hwC ▸ blk_new w4 _)
    obtain ⟨cb, hcb⟩ : ∃ cb, w4.heap.size = cb := ⟨_, rfl⟩
    rw [hcb] at HC4
    have hld := load_rgB HBR4.out HSZ.out
    have HWC := Lib.hid hwC
    have HCB := Lib.hid hcb
    rw [hwC] at hld
    clear hb4 hbc hwC hcb
    go_wp2_with fail
    rw [← HWC.out, HCB.out]
    refine (HRO.out _).mono ?_
    rintro e w5 ⟨rfl, hb5⟩
    obtain ⟨wD, hwD⟩ : ∃ wD, wD = w5.alloc (.cells #[.int .i64 y0, .int .u32 y1, .int .u32 y2, .int .u32 y3, .int .u32 y4] 61) := ⟨_, rfl⟩
    have hbd : Below w5.heap.size w5 wD := hwD ▸ (Below.refl _ _).alloc (Nat.le_refl _) _
    have HB5 := Lib.hid ((HB4.out.trans (hb5.mono HB4.out.size)).trans (hbd.mono (HB4.out.trans (hb5.mono HB4.out.size)).size))
    have HC5 := Lib.hid (blk_below (blk_below HC4.out hb5 (blk_lt HC4.out)) hbd (blk_lt (blk_below HC4.out hb5 (blk_lt HC4.out))))
    have HD5 : Hid (wD.heap[w5.heap.size]? = some (.cells #[.int .i64 y0, .int .u32 y1, .int .u32 y2, .int .u32 y3, .int .u32 y4] 61 (0, 0))) := Lib.hid (hwD ▸ blk_new w5 _)
    obtain ⟨db, hdb⟩ : ∃ db, w5.heap.size = db := ⟨_, rfl⟩
    rw [hdb] at HD5
    have HWD := Lib.hid hwD
    have HDB := Lib.hid hdb
    clear hb5 hbd hwD hdb hld
    go_wp2_with fail
    rw [← HWD.out, HDB.out]
    refine (HBA.out _ HB5.out).mono ?_
    rintro e w6 ⟨ev, lo, lc, rfl, hev, hat6, hb6⟩
    have HB6 := Lib.hid (HB5.out.trans (hb6.mono HB5.out.size))
    have HC6 := Lib.hid (blk_below HC5.out hb6 (blk_lt HC5.out))
    have HD6 := Lib.hid (blk_below HD5.out hb6 (blk_lt HD5.out))
    have HEV := Lib.hid hev
    have HAT6 := Lib.hid hat6
    clear hev hat6 hb6
    go_wp2_with fail
    refine (HRB.out _ HB6.out).mono ?_
    rintro e w7 ⟨mo, mc, rfl, hat7, hb7⟩
    obtain ⟨wF, hwF⟩ : ∃ wF, wF = w7.alloc (.cells #[.int .i64 fc, .bool fb, .int .i64 fp] 80) := ⟨_, rfl⟩
    have hbf : Below w7.heap.size w7 wF := hwF ▸ (Below.refl _ _).alloc (Nat.le_refl _) _
    have hb67 : Below w6.heap.size w6 wF := hb7.trans (hbf.mono hb7.size)
    have HB7 := Lib.hid (HB6.out.trans (hb67.mono HB6.out.size))
    have HC7 := Lib.hid (blk_below HC6.out hb67 (blk_lt HC6.out))
    have HD7 := Lib.hid (blk_below HD6.out hb67 (blk_lt HD6.out))
    have HF7 : Hid (wF.heap[w7.heap.size]? = some (.cells #[.int .i64 fc, .bool fb, .int .i64 fp] 80 (0, 0))) := Lib.hid (hwF ▸ blk_new w7 _)
    have HEV7 := Lib.hid (HEV.out.below hb67)
    have HAT := Lib.hid (HAT6.out.mono hb67)
    have HATM := Lib.hid (hat7.mono hbf)
    obtain ⟨fbk, hfbk⟩ : ∃ q, w7.heap.size = q := ⟨_, rfl⟩
    rw [hfbk] at HF7
    have HWF := Lib.hid hwF
    have HFB := Lib.hid hfbk
    clear hat7 hb7 hbf hb67 hwF hfbk
    go_wp2_with fail
    rw [← HWF.out, HFB.out]
    have HK : Hid (∀ wx, Below wF.heap.size wF wx → Below wF.heap.size wF wx ∧ wx.cell? ⟨cb, 0, none⟩ = some (.int .i64 y0) ∧ wx.cell? ⟨cb, 1, none⟩ = some (.int .u32 y1) ∧ wx.cell? ⟨cb, 2, none⟩ = some (.int .u32 y2) ∧ wx.cell? ⟨cb, 3, none⟩ = some (.int .u32 y3) ∧ wx.cell? ⟨cb, 4, none⟩ = some (.int .u32 y4) ∧ wx.cell? ⟨db, 0, none⟩ = some (.int .i64 y0) ∧ wx.cell? ⟨db, 1, none⟩ = some (.int .u32 y1) ∧ wx.cell? ⟨db, 2, none⟩ = some (.int .u32 y2) ∧ wx.cell? ⟨db, 3, none⟩ = some (.int .u32 y3) ∧ wx.cell? ⟨db, 4, none⟩ = some (.int .u32 y4) ∧ wx.cell? ⟨fbk, 0, none⟩ = some (.int .i64 fc) ∧ wx.cell? ⟨fbk, 1, none⟩ = some (.bool fb) ∧ wx.cell? ⟨fbk, 2, none⟩ = some (.int .i64 fp)) := Lib.hid fun wx h => by
      have h1 := blk_below HC7.out h (blk_lt HC7.out)
      have h2 := blk_below HD7.out h (blk_lt HD7.out)
      have h3 := blk_below HF7.out h (blk_lt HF7.out)
      exact ⟨h, blk_cell h1 0, blk_cell h1 1, blk_cell h1 2, blk_cell h1 3, blk_cell h1 4, blk_cell h2 0, blk_cell h2 1, blk_cell h2 2, blk_cell h2 3, blk_cell h2 4, blk_cell h3 0, blk_cell h3 1, blk_cell h3 2⟩
    have HSM : Hid (∀ wx, Below wF.heap.size wF wx → Calls Tryd.prog 34 #[ev, .agg #[.int .i64 fc, .bool fb, .int .i64 fp]] wx fun e w' => e = .returned (.bool true) ∧ Below wx.heap.size wx w') := Lib.hid fun wx h => by
      have := same_gen E ev fc fc fp fp fb fb wx (HEV7.out.below h) (HEK.out _ (HB7.out.trans (h.mono HB7.out.size)))
      simpa using this
    have hbb : (has != has) = false := by cases has <;> rfl
    have hB0 : Below wF.heap.size wF wF.drew := (Below.refl _ _).drew
    (try simp only [List.append])
    rcases hcase with ⟨rfl, hA0, rfl⟩ | ⟨rfl, hA0⟩
    · refine wp_region_noPanic ?_
      refine wp_region_held_drew (S := (fun wx => Below wF.heap.size wF wx ∧ wx.cell? ⟨cb, 0, none⟩ = some (.int .i64 y0) ∧ wx.cell? ⟨cb, 1, none⟩ = some (.int .u32 y1) ∧ wx.cell? ⟨cb, 2, none⟩ = some (.int .u32 y2) ∧ wx.cell? ⟨cb, 3, none⟩ = some (.int .u32 y3) ∧ wx.cell? ⟨cb, 4, none⟩ = some (.int .u32 y4) ∧ wx.cell? ⟨db, 0, none⟩ = some (.int .i64 y0) ∧ wx.cell? ⟨db, 1, none⟩ = some (.int .u32 y1) ∧ wx.cell? ⟨db, 2, none⟩ = some (.int .u32 y2) ∧ wx.cell? ⟨db, 3, none⟩ = some (.int .u32 y3) ∧ wx.cell? ⟨db, 4, none⟩ = some (.int .u32 y4) ∧ wx.cell? ⟨fbk, 0, none⟩ = some (.int .i64 fc) ∧ wx.cell? ⟨fbk, 1, none⟩ = some (.bool fb) ∧ wx.cell? ⟨fbk, 2, none⟩ = some (.int .i64 fp))) (by kernel_rfl) ?_ (fun hHeld => ?_)
      · exact HK.out _ (by assumption)
      refine heldTake 0 (v := ?_) (by kernel_rfl) (by kernel_rfl) (by kernel_rfl) (by kernel_rfl) (fun _ _ _ _ _ h => h) (by assumption) (fun oi ho => by (simp only [List.getElem?_toArray, List.getElem?_cons_zero, List.getElem?_cons_succ, Option.some.injEq] at ho; subst ho); rfl) (fun oi ho => ?_) (fun oi ho => ?_)
      rotate_left
      · ((simp only [List.getElem?_toArray, List.getElem?_cons_zero, List.getElem?_cons_succ, Option.some.injEq] at ho; subst ho); intro wx hSx; (try dsimp only at hSx); go_simp; all_goals (with_reducible rfl))
      (simp only [List.getElem?_toArray, List.getElem?_cons_zero, List.getElem?_cons_succ, Option.some.injEq] at ho; subst ho)
      try simp only [Act.put, List.setIfInBounds_toArray, List.set_cons_zero, List.set_cons_succ]
      refine heldTake 1 (v := ?_) (by kernel_rfl) (by kernel_rfl) (by kernel_rfl) (by kernel_rfl) (fun _ _ _ _ _ h => h) (by assumption) (fun oi ho => by (simp only [List.getElem?_toArray, List.getElem?_cons_zero, List.getElem?_cons_succ, Option.some.injEq] at ho; subst ho); rfl) (fun oi ho => ?_) (fun oi ho => ?_)
      rotate_left
      · ((simp only [List.getElem?_toArray, List.getElem?_cons_zero, List.getElem?_cons_succ, Option.some.injEq] at ho; subst ho); intro wx hSx; (try dsimp only at hSx); go_simp; all_goals (with_reducible rfl))
      (simp only [List.getElem?_toArray, List.getElem?_cons_zero, List.getElem?_cons_succ, Option.some.injEq] at ho; subst ho)
      try simp only [Act.put, List.setIfInBounds_toArray, List.set_cons_zero, List.set_cons_succ]
      refine heldTake 2 (v := ?_) (by kernel_rfl) (by kernel_rfl) (by kernel_rfl) (by kernel_rfl) (fun _ _ _ _ _ h => h) (by assumption) (fun oi ho => by (simp only [List.getElem?_toArray, List.getElem?_cons_zero, List.getElem?_cons_succ, Option.some.injEq] at ho; subst ho); rfl) (fun oi ho => ?_) (fun oi ho => ?_)
      rotate_left
      · ((simp only [List.getElem?_toArray, List.getElem?_cons_zero, List.getElem?_cons_succ, Option.some.injEq] at ho; subst ho); intro wx hSx; (try dsimp only at hSx); go_simp; all_goals (with_reducible rfl))
      (simp only [List.getElem?_toArray, List.getElem?_cons_zero, List.getElem?_cons_succ, Option.some.injEq] at ho; subst ho)
      try simp only [Act.put, List.setIfInBounds_toArray, List.set_cons_zero, List.set_cons_succ]
      refine heldTake 3 (v := ?_) (by kernel_rfl) (by kernel_rfl) (by kernel_rfl) (by kernel_rfl) (fun _ _ _ _ _ h => h) (by assumption) (fun oi ho => by (simp only [List.getElem?_toArray, List.getElem?_cons_zero, List.getElem?_cons_succ, Option.some.injEq] at ho; subst ho); rfl) (fun oi ho => ?_) (fun oi ho => ?_)
      rotate_left
      · ((simp only [List.getElem?_toArray, List.getElem?_cons_zero, List.getElem?_cons_succ, Option.some.injEq] at ho; subst ho); intro wx hSx; (try dsimp only at hSx); go_simp; all_goals (with_reducible rfl))
      (simp only [List.getElem?_toArray, List.getElem?_cons_zero, List.getElem?_cons_succ, Option.some.injEq] at ho; subst ho)
      try simp only [Act.put, List.setIfInBounds_toArray, List.set_cons_zero, List.set_cons_succ]
      refine heldTake 4 (v := ?_) (by kernel_rfl) (by kernel_rfl) (by kernel_rfl) (by kernel_rfl) (fun _ _ _ _ _ h => h) (by assumption) (fun oi ho => by (simp only [List.getElem?_toArray, List.getElem?_cons_zero, List.getElem?_cons_succ, Option.some.injEq] at ho; subst ho); rfl) (fun oi ho => ?_) (fun oi ho => ?_)
      rotate_left
      · ((simp only [List.getElem?_toArray, List.getElem?_cons_zero, List.getElem?_cons_succ, Option.some.injEq] at ho; subst ho); intro wx hSx; (try dsimp only at hSx); go_simp; all_goals (with_reducible rfl))
      (simp only [List.getElem?_toArray, List.getElem?_cons_zero, List.getElem?_cons_succ, Option.some.injEq] at ho; subst ho)
      try simp only [Act.put, List.setIfInBounds_toArray, List.set_cons_zero, List.set_cons_succ]
      refine heldTake 5 (v := ?_) (by kernel_rfl) (by kernel_rfl) (by kernel_rfl) (by kernel_rfl) (fun _ _ _ _ _ h => h) (by assumption) (fun oi ho => by (simp only [List.getElem?_toArray, List.getElem?_cons_zero, List.getElem?_cons_succ, Option.some.injEq] at ho; subst ho); rfl) (fun oi ho => ?_) (fun oi ho => ?_)
      rotate_left
      · ((simp only [List.getElem?_toArray, List.getElem?_cons_zero, List.getElem?_cons_succ, Option.some.injEq] at ho; subst ho); intro wx hSx; (try dsimp only at hSx); go_simp; all_goals (with_reducible rfl))
      (simp only [List.getElem?_toArray, List.getElem?_cons_zero, List.getElem?_cons_succ, Option.some.injEq] at ho; subst ho)
      try simp only [Act.put, List.setIfInBounds_toArray, List.set_cons_zero, List.set_cons_succ]
      refine heldTake 6 (v := ?_) (by kernel_rfl) (by kernel_rfl) (by kernel_rfl) (by kernel_rfl) (fun _ _ _ _ _ h => h) (by assumption) (fun oi ho => by (simp only [List.getElem?_toArray, List.getElem?_cons_zero, List.getElem?_cons_succ, Option.some.injEq] at ho; subst ho); rfl) (fun oi ho => ?_) (fun oi ho => ?_)
      rotate_left
      · ((simp only [List.getElem?_toArray, List.getElem?_cons_zero, List.getElem?_cons_succ, Option.some.injEq] at ho; subst ho); intro wx hSx; (try dsimp only at hSx); go_simp; all_goals (with_reducible rfl))
      (simp only [List.getElem?_toArray, List.getElem?_cons_zero, List.getElem?_cons_succ, Option.some.injEq] at ho; subst ho)
      try simp only [Act.put, List.setIfInBounds_toArray, List.set_cons_zero, List.set_cons_succ]
      refine heldTake 7 (v := ?_) (by kernel_rfl) (by kernel_rfl) (by kernel_rfl) (by kernel_rfl) (fun _ _ _ _ _ h => h) (by assumption) (fun oi ho => by (simp only [List.getElem?_toArray, List.getElem?_cons_zero, List.getElem?_cons_succ, Option.some.injEq] at ho; subst ho); rfl) (fun oi ho => ?_) (fun oi ho => ?_)
      rotate_left
      · ((simp only [List.getElem?_toArray, List.getElem?_cons_zero, List.getElem?_cons_succ, Option.some.injEq] at ho; subst ho); intro wx hSx; (try dsimp only at hSx); go_simp; all_goals (with_reducible rfl))
      (simp only [List.getElem?_toArray, List.getElem?_cons_zero, List.getElem?_cons_succ, Option.some.injEq] at ho; subst ho)
      try simp only [Act.put, List.setIfInBounds_toArray, List.set_cons_zero, List.set_cons_succ]
      refine heldTake 8 (v := ?_) (by kernel_rfl) (by kernel_rfl) (by kernel_rfl) (by kernel_rfl) (fun _ _ _ _ _ h => h) (by assumption) (fun oi ho => by (simp only [List.getElem?_toArray, List.getElem?_cons_zero, List.getElem?_cons_succ, Option.some.injEq] at ho; subst ho); rfl) (fun oi ho => ?_) (fun oi ho => ?_)
      rotate_left
      · ((simp only [List.getElem?_toArray, List.getElem?_cons_zero, List.getElem?_cons_succ, Option.some.injEq] at ho; subst ho); intro wx hSx; (try dsimp only at hSx); go_simp; all_goals (with_reducible rfl))
      (simp only [List.getElem?_toArray, List.getElem?_cons_zero, List.getElem?_cons_succ, Option.some.injEq] at ho; subst ho)
      try simp only [Act.put, List.setIfInBounds_toArray, List.set_cons_zero, List.set_cons_succ]
      refine heldTake 9 (v := ?_) (by kernel_rfl) (by kernel_rfl) (by kernel_rfl) (by kernel_rfl) (fun _ _ _ _ _ h => h) (by assumption) (fun oi ho => by (simp only [List.getElem?_toArray, List.getElem?_cons_zero, List.getElem?_cons_succ, Option.some.injEq] at ho; subst ho); rfl) (fun oi ho => ?_) (fun oi ho => ?_)
      rotate_left
      · ((simp only [List.getElem?_toArray, List.getElem?_cons_zero, List.getElem?_cons_succ, Option.some.injEq] at ho; subst ho); intro wx hSx; (try dsimp only at hSx); go_simp; all_goals (with_reducible rfl))
      (simp only [List.getElem?_toArray, List.getElem?_cons_zero, List.getElem?_cons_succ, Option.some.injEq] at ho; subst ho)
      try simp only [Act.put, List.setIfInBounds_toArray, List.set_cons_zero, List.set_cons_succ]
      refine heldTake 10 (v := ?_) (by kernel_rfl) (by kernel_rfl) (by kernel_rfl) (by kernel_rfl) (fun _ _ _ _ _ h => h) (by assumption) (fun oi ho => by (simp only [List.getElem?_toArray, List.getElem?_cons_zero, List.getElem?_cons_succ, Option.some.injEq] at ho; subst ho); rfl) (fun oi ho => ?_) (fun oi ho => ?_)
      rotate_left
      · ((simp only [List.getElem?_toArray, List.getElem?_cons_zero, List.getElem?_cons_succ, Option.some.injEq] at ho; subst ho); intro wx hSx; (try dsimp only at hSx); go_simp; all_goals (with_reducible rfl))
      (simp only [List.getElem?_toArray, List.getElem?_cons_zero, List.getElem?_cons_succ, Option.some.injEq] at ho; subst ho)
      try simp only [Act.put, List.setIfInBounds_toArray, List.set_cons_zero, List.set_cons_succ]
      refine heldTake 11 (v := ?_) (by kernel_rfl) (by kernel_rfl) (by kernel_rfl) (by kernel_rfl) (fun _ _ _ _ _ h => h) (by assumption) (fun oi ho => by (simp only [List.getElem?_toArray, List.getElem?_cons_zero, List.getElem?_cons_succ, Option.some.injEq] at ho; subst ho); rfl) (fun oi ho => ?_) (fun oi ho => ?_)
      rotate_left
      · ((simp only [List.getElem?_toArray, List.getElem?_cons_zero, List.getElem?_cons_succ, Option.some.injEq] at ho; subst ho); intro wx hSx; (try dsimp only at hSx); go_simp; all_goals (with_reducible rfl))
      (simp only [List.getElem?_toArray, List.getElem?_cons_zero, List.getElem?_cons_succ, Option.some.injEq] at ho; subst ho)
      try simp only [Act.put, List.setIfInBounds_toArray, List.set_cons_zero, List.set_cons_succ]
      refine heldTake 12 (v := ?_) (by kernel_rfl) (by kernel_rfl) (by kernel_rfl) (by kernel_rfl) (fun _ _ _ _ _ h => h) (by assumption) (fun oi ho => by (simp only [List.getElem?_toArray, List.getElem?_cons_zero, List.getElem?_cons_succ, Option.some.injEq] at ho; subst ho); rfl) (fun oi ho => ?_) (fun oi ho => ?_)
      rotate_left
      · ((simp only [List.getElem?_toArray, List.getElem?_cons_zero, List.getElem?_cons_succ, Option.some.injEq] at ho; subst ho); intro wx hSx; (try dsimp only at hSx); go_simp; all_goals (with_reducible rfl))
      (simp only [List.getElem?_toArray, List.getElem?_cons_zero, List.getElem?_cons_succ, Option.some.injEq] at ho; subst ho)
      try simp only [Act.put, List.setIfInBounds_toArray, List.set_cons_zero, List.set_cons_succ]
      refine heldTake 13 (v := ?_) (by kernel_rfl) (by kernel_rfl) (by kernel_rfl) (by kernel_rfl) (fun _ _ _ _ _ h => h) (by assumption) (fun oi ho => by (simp only [List.getElem?_toArray, List.getElem?_cons_zero, List.getElem?_cons_succ, Option.some.injEq] at ho; subst ho); rfl) (fun oi ho => ?_) (fun oi ho => ?_)
      rotate_left
      · ((simp only [List.getElem?_toArray, List.getElem?_cons_zero, List.getElem?_cons_succ, Option.some.injEq] at ho; subst ho); intro wx hSx; (try dsimp only at hSx); go_simp; all_goals (with_reducible rfl))
      (simp only [List.getElem?_toArray, List.getElem?_cons_zero, List.getElem?_cons_succ, Option.some.injEq] at ho; subst ho)
      try simp only [Act.put, List.setIfInBounds_toArray, List.set_cons_zero, List.set_cons_succ]
      refine heldTake 14 (v := ?_) (by kernel_rfl) (by kernel_rfl) (by kernel_rfl) (by kernel_rfl) (fun _ _ _ _ _ h => h) (by assumption) (fun oi ho => by (simp only [List.getElem?_toArray, List.getElem?_cons_zero, List.getElem?_cons_succ, Option.some.injEq] at ho; subst ho); rfl) (fun oi ho => ?_) (fun oi ho => ?_)
      rotate_left
      · ((simp only [List.getElem?_toArray, List.getElem?_cons_zero, List.getElem?_cons_succ, Option.some.injEq] at ho; subst ho); intro wx hSx; (try dsimp only at hSx); go_simp; all_goals (with_reducible rfl))
      (simp only [List.getElem?_toArray, List.getElem?_cons_zero, List.getElem?_cons_succ, Option.some.injEq] at ho; subst ho)
      try simp only [Act.put, List.setIfInBounds_toArray, List.set_cons_zero, List.set_cons_succ]
      refine heldTake 15 (v := ?_) (by kernel_rfl) (by kernel_rfl) (by kernel_rfl) (by kernel_rfl) (fun _ _ _ _ _ h => h) (by assumption) (fun oi ho => by (simp only [List.getElem?_toArray, List.getElem?_cons_zero, List.getElem?_cons_succ, Option.some.injEq] at ho; subst ho); rfl) (fun oi ho => ?_) (fun oi ho => ?_)
      rotate_left
      · ((simp only [List.getElem?_toArray, List.getElem?_cons_zero, List.getElem?_cons_succ, Option.some.injEq] at ho; subst ho); intro wx hSx; (try dsimp only at hSx); go_simp; all_goals (with_reducible rfl))
      (simp only [List.getElem?_toArray, List.getElem?_cons_zero, List.getElem?_cons_succ, Option.some.injEq] at ho; subst ho)
      try simp only [Act.put, List.setIfInBounds_toArray, List.set_cons_zero, List.set_cons_succ]
      refine heldTake 16 (v := ?_) (by kernel_rfl) (by kernel_rfl) (by kernel_rfl) (by kernel_rfl) (fun _ _ _ _ _ h => h) (by assumption) (fun oi ho => by (simp only [List.getElem?_toArray, List.getElem?_cons_zero, List.getElem?_cons_succ, Option.some.injEq] at ho; subst ho); rfl) (fun oi ho => ?_) (fun oi ho => ?_)
      rotate_left
      · ((simp only [List.getElem?_toArray, List.getElem?_cons_zero, List.getElem?_cons_succ, Option.some.injEq] at ho; subst ho); intro wx hSx; (try dsimp only at hSx); go_simp; all_goals (with_reducible rfl))
      (simp only [List.getElem?_toArray, List.getElem?_cons_zero, List.getElem?_cons_succ, Option.some.injEq] at ho; subst ho)
      try simp only [Act.put, List.setIfInBounds_toArray, List.set_cons_zero, List.set_cons_succ]
      refine heldTake 17 (v := ?_) (by kernel_rfl) (by kernel_rfl) (by kernel_rfl) (by kernel_rfl) (fun _ _ _ _ _ h => h) (by assumption) (fun oi ho => by (simp only [List.getElem?_toArray, List.getElem?_cons_zero, List.getElem?_cons_succ, Option.some.injEq] at ho; subst ho); rfl) (fun oi ho => ?_) (fun oi ho => ?_)
      rotate_left
      · ((simp only [List.getElem?_toArray, List.getElem?_cons_zero, List.getElem?_cons_succ, Option.some.injEq] at ho; subst ho); intro wx hSx; (try dsimp only at hSx); go_simp; all_goals (with_reducible rfl))
      (simp only [List.getElem?_toArray, List.getElem?_cons_zero, List.getElem?_cons_succ, Option.some.injEq] at ho; subst ho)
      try simp only [Act.put, List.setIfInBounds_toArray, List.set_cons_zero, List.set_cons_succ]
      refine heldTake 18 (v := ?_) (by kernel_rfl) (by kernel_rfl) (by kernel_rfl) (by kernel_rfl) (fun _ _ _ _ _ h => h) (by assumption) (fun oi ho => by (simp only [List.getElem?_toArray, List.getElem?_cons_zero, List.getElem?_cons_succ, Option.some.injEq] at ho; subst ho); rfl) (fun oi ho => ?_) (fun oi ho => ?_)
      rotate_left
      · ((simp only [List.getElem?_toArray, List.getElem?_cons_zero, List.getElem?_cons_succ, Option.some.injEq] at ho; subst ho); intro wx hSx; (try dsimp only at hSx); go_simp; all_goals (with_reducible rfl))
      (simp only [List.getElem?_toArray, List.getElem?_cons_zero, List.getElem?_cons_succ, Option.some.injEq] at ho; subst ho)
      try simp only [Act.put, List.setIfInBounds_toArray, List.set_cons_zero, List.set_cons_succ]
      refine heldTake 20 (v := ?_) (by kernel_rfl) (by kernel_rfl) (by kernel_rfl) (by kernel_rfl) (fun _ _ _ _ _ h => h) (by assumption) (fun oi ho => by (simp only [List.getElem?_toArray, List.getElem?_cons_zero, List.getElem?_cons_succ, Option.some.injEq] at ho; subst ho); rfl) (fun oi ho => ?_) (fun oi ho => ?_)
      rotate_left
      · ((simp only [List.getElem?_toArray, List.getElem?_cons_zero, List.getElem?_cons_succ, Option.some.injEq] at ho; subst ho); intro wx hSx; (try dsimp only at hSx); go_simp; all_goals (with_reducible rfl))
      (simp only [List.getElem?_toArray, List.getElem?_cons_zero, List.getElem?_cons_succ, Option.some.injEq] at ho; subst ho)
      try simp only [Act.put, List.setIfInBounds_toArray, List.set_cons_zero, List.set_cons_succ]
      refine wpAnyH_ready (rs := [19]) (by kernel_rfl) (by simp) ?_
      refine heldOne (by kernel_rfl) (fun oi ho K hK => ?_) AllReadyH.nil
      (simp only [List.getElem?_toArray, List.getElem?_cons_zero, List.getElem?_cons_succ, Option.some.injEq] at ho; subst ho)
      go_simp
      go_at_call 28; refine (other_any y0 y1 y2 y3 y4 _).mono ?_; rintro e w9 ⟨rfl, hb9⟩; have hB9 : Below wF.heap.size wF w9 := hB0.trans (hb9.mono hB0.size)
      first | (refine hK.out _ _ ?_ (fun hHeld => ?_)) | (go_wp2_with fail; refine hK.out _ _ ?_ (fun hHeld => ?_))
      · first | (exact HK.out _ (by assumption)) | ((try dsimp only); exact HK.out _ (by assumption))
      clear hK K
      try simp only [Act.put, List.setIfInBounds_toArray, List.set_cons_zero, List.set_cons_succ]
      refine wpAnyH_ready (rs := [21]) (by kernel_rfl) (by simp) ?_
      refine heldOne (by kernel_rfl) (fun oi ho K hK => ?_) AllReadyH.nil
      (simp only [List.getElem?_toArray, List.getElem?_cons_zero, List.getElem?_cons_succ, Option.some.injEq] at ho; subst ho)
      go_simp
      go_at_call 27; refine (sameCall_refl y0 y1 y2 y3 y4 _).mono ?_; rintro e w10 ⟨rfl, hb10⟩; have hB10 : Below wF.heap.size wF w10 := hB9.trans (hb10.mono hB9.size)
      first | (refine hK.out _ _ ?_ (fun hHeld => ?_)) | (go_wp2_with fail; refine hK.out _ _ ?_ (fun hHeld => ?_))
      · first | (exact HK.out _ (by assumption)) | ((try dsimp only); exact HK.out _ (by assumption))
      clear hK K
      try simp only [Act.put, List.setIfInBounds_toArray, List.set_cons_zero, List.set_cons_succ]
      refine heldTake 22 (v := ?_) (by kernel_rfl) (by kernel_rfl) (by kernel_rfl) (by kernel_rfl) (fun _ _ _ _ _ h => h) (by assumption) (fun oi ho => by (simp only [List.getElem?_toArray, List.getElem?_cons_zero, List.getElem?_cons_succ, Option.some.injEq] at ho; subst ho); rfl) (fun oi ho => ?_) (fun oi ho => ?_)
      rotate_left
      · ((simp only [List.getElem?_toArray, List.getElem?_cons_zero, List.getElem?_cons_succ, Option.some.injEq] at ho; subst ho); intro wx hSx; (try dsimp only at hSx); go_simp; all_goals (with_reducible rfl))
      (simp only [List.getElem?_toArray, List.getElem?_cons_zero, List.getElem?_cons_succ, Option.some.injEq] at ho; subst ho)
      try simp only [Act.put, List.setIfInBounds_toArray, List.set_cons_zero, List.set_cons_succ]
      refine heldTake 23 (v := ?_) (by kernel_rfl) (by kernel_rfl) (by kernel_rfl) (by kernel_rfl) (fun _ _ _ _ _ h => h) (by assumption) (fun oi ho => by (simp only [List.getElem?_toArray, List.getElem?_cons_zero, List.getElem?_cons_succ, Option.some.injEq] at ho; subst ho); rfl) (fun oi ho => ?_) (fun oi ho => ?_)
      rotate_left
      · ((simp only [List.getElem?_toArray, List.getElem?_cons_zero, List.getElem?_cons_succ, Option.some.injEq] at ho; subst ho); intro wx hSx; (try dsimp only at hSx); go_simp; all_goals (with_reducible rfl))
      (simp only [List.getElem?_toArray, List.getElem?_cons_zero, List.getElem?_cons_succ, Option.some.injEq] at ho; subst ho)
      try simp only [Act.put, List.setIfInBounds_toArray, List.set_cons_zero, List.set_cons_succ]
      refine heldTake 24 (v := ?_) (by kernel_rfl) (by kernel_rfl) (by kernel_rfl) (by kernel_rfl) (fun _ _ _ _ _ h => h) (by assumption) (fun oi ho => by (simp only [List.getElem?_toArray, List.getElem?_cons_zero, List.getElem?_cons_succ, Option.some.injEq] at ho; subst ho); rfl) (fun oi ho => ?_) (fun oi ho => ?_)
      rotate_left
      · ((simp only [List.getElem?_toArray, List.getElem?_cons_zero, List.getElem?_cons_succ, Option.some.injEq] at ho; subst ho); intro wx hSx; (try dsimp only at hSx); go_simp; all_goals (with_reducible rfl))
      (simp only [List.getElem?_toArray, List.getElem?_cons_zero, List.getElem?_cons_succ, Option.some.injEq] at ho; subst ho)
      try simp only [Act.put, List.setIfInBounds_toArray, List.set_cons_zero, List.set_cons_succ]
      refine heldTake 25 (v := ?_) (by kernel_rfl) (by kernel_rfl) (by kernel_rfl) (by kernel_rfl) (fun _ _ _ _ _ h => h) (by assumption) (fun oi ho => by (simp only [List.getElem?_toArray, List.getElem?_cons_zero, List.getElem?_cons_succ, Option.some.injEq] at ho; subst ho); rfl) (fun oi ho => ?_) (fun oi ho => ?_)
      rotate_left
      · ((simp only [List.getElem?_toArray, List.getElem?_cons_zero, List.getElem?_cons_succ, Option.some.injEq] at ho; subst ho); intro wx hSx; (try dsimp only at hSx); go_simp; all_goals (with_reducible rfl))
      (simp only [List.getElem?_toArray, List.getElem?_cons_zero, List.getElem?_cons_succ, Option.some.injEq] at ho; subst ho)
      try simp only [Act.put, List.setIfInBounds_toArray, List.set_cons_zero, List.set_cons_succ]
      refine heldTake 26 (v := ?_) (by kernel_rfl) (by kernel_rfl) (by kernel_rfl) (by kernel_rfl) (fun _ _ _ _ _ h => h) (by assumption) (fun oi ho => by (simp only [List.getElem?_toArray, List.getElem?_cons_zero, List.getElem?_cons_succ, Option.some.injEq] at ho; subst ho); rfl) (fun oi ho => ?_) (fun oi ho => ?_)
      rotate_left
      · ((simp only [List.getElem?_toArray, List.getElem?_cons_zero, List.getElem?_cons_succ, Option.some.injEq] at ho; subst ho); intro wx hSx; (try dsimp only at hSx); go_simp; all_goals (with_reducible rfl))
      (simp only [List.getElem?_toArray, List.getElem?_cons_zero, List.getElem?_cons_succ, Option.some.injEq] at ho; subst ho)
      try simp only [Act.put, List.setIfInBounds_toArray, List.set_cons_zero, List.set_cons_succ]
      refine wpAnyH_ready (rs := [27]) (by kernel_rfl) (by simp) ?_
      refine heldOne (by kernel_rfl) (fun oi ho K hK => ?_) AllReadyH.nil
      (simp only [List.getElem?_toArray, List.getElem?_cons_zero, List.getElem?_cons_succ, Option.some.injEq] at ho; subst ho)
      go_simp
      go_at_call 34; refine (HSM.out _ hB10).mono ?_; rintro e w11 ⟨rfl, hb11⟩; have hB11 : Below wF.heap.size wF w11 := hB10.trans (hb11.mono hB10.size)
      first | (refine hK.out _ _ ?_ (fun hHeld => ?_)) | (go_wp2_with fail; refine hK.out _ _ ?_ (fun hHeld => ?_))
      · first | (exact HK.out _ (by assumption)) | ((try dsimp only); exact HK.out _ (by assumption))
      clear hK K
      try simp only [Act.put, List.setIfInBounds_toArray, List.set_cons_zero, List.set_cons_succ]
      refine heldTake 28 (v := ?_) (by kernel_rfl) (by kernel_rfl) (by kernel_rfl) (by kernel_rfl) (fun _ _ _ _ _ h => h) (by assumption) (fun oi ho => by (simp only [List.getElem?_toArray, List.getElem?_cons_zero, List.getElem?_cons_succ, Option.some.injEq] at ho; subst ho); rfl) (fun oi ho => ?_) (fun oi ho => ?_)
      rotate_left
      · ((simp only [List.getElem?_toArray, List.getElem?_cons_zero, List.getElem?_cons_succ, Option.some.injEq] at ho; subst ho); intro wx hSx; (try dsimp only at hSx); go_simp; all_goals (with_reducible rfl))
      (simp only [List.getElem?_toArray, List.getElem?_cons_zero, List.getElem?_cons_succ, Option.some.injEq] at ho; subst ho)
      try simp only [Act.put, List.setIfInBounds_toArray, List.set_cons_zero, List.set_cons_succ]
      refine heldTake 29 (v := ?_) (by kernel_rfl) (by kernel_rfl) (by kernel_rfl) (by kernel_rfl) (fun _ _ _ _ _ h => h) (by assumption) (fun oi ho => by (simp only [List.getElem?_toArray, List.getElem?_cons_zero, List.getElem?_cons_succ, Option.some.injEq] at ho; subst ho); rfl) (fun oi ho => ?_) (fun oi ho => ?_)
      rotate_left
      · ((simp only [List.getElem?_toArray, List.getElem?_cons_zero, List.getElem?_cons_succ, Option.some.injEq] at ho; subst ho); intro wx hSx; (try dsimp only at hSx); go_simp; all_goals (with_reducible rfl))
      (simp only [List.getElem?_toArray, List.getElem?_cons_zero, List.getElem?_cons_succ, Option.some.injEq] at ho; subst ho)
      try simp only [Act.put, List.setIfInBounds_toArray, List.set_cons_zero, List.set_cons_succ]
      refine heldTake 30 (v := ?_) (by kernel_rfl) (by kernel_rfl) (by kernel_rfl) (by kernel_rfl) (fun _ _ _ _ _ h => h) (by assumption) (fun oi ho => by (simp only [List.getElem?_toArray, List.getElem?_cons_zero, List.getElem?_cons_succ, Option.some.injEq] at ho; subst ho); rfl) (fun oi ho => ?_) (fun oi ho => ?_)
      rotate_left
      · ((simp only [List.getElem?_toArray, List.getElem?_cons_zero, List.getElem?_cons_succ, Option.some.injEq] at ho; subst ho); intro wx hSx; (try dsimp only at hSx); go_simp; all_goals (with_reducible rfl))
      (simp only [List.getElem?_toArray, List.getElem?_cons_zero, List.getElem?_cons_succ, Option.some.injEq] at ho; subst ho)
      try simp only [Act.put, List.setIfInBounds_toArray, List.set_cons_zero, List.set_cons_succ]
      refine heldTake 31 (v := ?_) (by kernel_rfl) (by kernel_rfl) (by kernel_rfl) (by kernel_rfl) (fun _ _ _ _ _ h => h) (by assumption) (fun oi ho => by (simp only [List.getElem?_toArray, List.getElem?_cons_zero, List.getElem?_cons_succ, Option.some.injEq] at ho; subst ho); rfl) (fun oi ho => ?_) (fun oi ho => ?_)
      rotate_left
      · ((simp only [List.getElem?_toArray, List.getElem?_cons_zero, List.getElem?_cons_succ, Option.some.injEq] at ho; subst ho); intro wx hSx; (try dsimp only at hSx); go_simp; all_goals (with_reducible rfl))
      (simp only [List.getElem?_toArray, List.getElem?_cons_zero, List.getElem?_cons_succ, Option.some.injEq] at ho; subst ho)
      try simp only [Act.put, List.setIfInBounds_toArray, List.set_cons_zero, List.set_cons_succ]
      refine heldTake 33 (v := ?_) (by kernel_rfl) (by kernel_rfl) (by kernel_rfl) (by kernel_rfl) (fun _ _ _ _ _ h => h) (by assumption) (fun oi ho => by (simp only [List.getElem?_toArray, List.getElem?_cons_zero, List.getElem?_cons_succ, Option.some.injEq] at ho; subst ho); rfl) (fun oi ho => ?_) (fun oi ho => ?_)
      rotate_left
      · ((simp only [List.getElem?_toArray, List.getElem?_cons_zero, List.getElem?_cons_succ, Option.some.injEq] at ho; subst ho); intro wx hSx; (try dsimp only at hSx); go_simp; all_goals (with_reducible rfl))
      (simp only [List.getElem?_toArray, List.getElem?_cons_zero, List.getElem?_cons_succ, Option.some.injEq] at ho; subst ho)
      try simp only [Act.put, List.setIfInBounds_toArray, List.set_cons_zero, List.set_cons_succ]
      refine wpAnyH_ready (rs := [32, 34]) (by kernel_rfl) (by simp) ?_
      refine heldOne (by kernel_rfl) (fun oi ho K hK => ?_) ?_
      · (simp only [List.getElem?_toArray, List.getElem?_cons_zero, List.getElem?_cons_succ, Option.some.injEq] at ho; subst ho)
        go_simp
        first | (refine hK.out _ _ ?_ (fun hHeld => ?_)) | (go_wp2_with fail; refine hK.out _ _ ?_ (fun hHeld => ?_))
        · first | (exact HK.out _ (by assumption)) | ((try dsimp only); exact HK.out _ (by assumption))
        clear hK K
        try simp only [Act.put, List.setIfInBounds_toArray, List.set_cons_zero, List.set_cons_succ]
        refine wpAnyH_ready (rs := [34]) (by kernel_rfl) (by simp) ?_
        refine heldOne (by kernel_rfl) (fun oi ho K hK => ?_) AllReadyH.nil
        (simp only [List.getElem?_toArray, List.getElem?_cons_zero, List.getElem?_cons_succ, Option.some.injEq] at ho; subst ho)
        go_simp
        first | (refine hK.out _ _ ?_ (fun hHeld => ?_)) | (go_wp2_with fail; refine hK.out _ _ ?_ (fun hHeld => ?_))
        · first | (exact HK.out _ (by assumption)) | ((try dsimp only); exact HK.out _ (by assumption))
        clear hK K
        try simp only [Act.put, List.setIfInBounds_toArray, List.set_cons_zero, List.set_cons_succ]
        refine heldTake 35 (v := ?_) (by kernel_rfl) (by kernel_rfl) (by kernel_rfl) (by kernel_rfl) (fun _ _ _ _ _ h => h) (by assumption) (fun oi ho => by (simp only [List.getElem?_toArray, List.getElem?_cons_zero, List.getElem?_cons_succ, Option.some.injEq] at ho; subst ho); rfl) (fun oi ho => ?_) (fun oi ho => ?_)
        rotate_left
        · ((simp only [List.getElem?_toArray, List.getElem?_cons_zero, List.getElem?_cons_succ, Option.some.injEq] at ho; subst ho); intro wx hSx; (try dsimp only at hSx); go_simp; all_goals (with_reducible rfl))
        (simp only [List.getElem?_toArray, List.getElem?_cons_zero, List.getElem?_cons_succ, Option.some.injEq] at ho; subst ho)
        try simp only [Act.put, List.setIfInBounds_toArray, List.set_cons_zero, List.set_cons_succ]
        refine heldTake 36 (v := ?_) (by kernel_rfl) (by kernel_rfl) (by kernel_rfl) (by kernel_rfl) (fun _ _ _ _ _ h => h) (by assumption) (fun oi ho => by (simp only [List.getElem?_toArray, List.getElem?_cons_zero, List.getElem?_cons_succ, Option.some.injEq] at ho; subst ho); rfl) (fun oi ho => ?_) (fun oi ho => ?_)
        rotate_left
        · ((simp only [List.getElem?_toArray, List.getElem?_cons_zero, List.getElem?_cons_succ, Option.some.injEq] at ho; subst ho); intro wx hSx; (try dsimp only at hSx); go_simp; all_goals (with_reducible rfl))
        (simp only [List.getElem?_toArray, List.getElem?_cons_zero, List.getElem?_cons_succ, Option.some.injEq] at ho; subst ho)
        try simp only [Act.put, List.setIfInBounds_toArray, List.set_cons_zero, List.set_cons_succ]
        refine wpAnyH_done (by kernel_rfl) ?_ _
        refine NoPanic.normal ?_
        have HB11 := Lib.hid (HB7.out.trans (hB11.mono HB7.out.size))
        have HF11 := Lib.hid hB11
        clear hB0 hb9 hB9 hb10 hB10 hb11 hB11 hbb
        have HST : Hid (UpS L.length w11 (.int .i64 0) w11) := Lib.hid ⟨0, Nat.zero_le _, rfl, Below.refl _ _⟩
        go_wp2_with fail
        go_loopw [23] (fun i wr => UpS L.length w11 i wr) (fun i _ => L.length - (intOf i).toNat)
        case atStart => exact HST.out
        case round =>
          obtain ⟨j, hj, rfl, hb⟩ := hrel
          have HBR9 := Lib.hid hb
          have HFR := Lib.hid (HF11.out.trans (hb.mono HF11.out.size))
          clear hb HST
          have hll := HRL.out
          by_cases hlt : j < L.length
          · have hji : (j : Int) < (L.length : Int) := by omega
            have get : ∀ (ao : Option Addr), AtL wF ao (L.flatMap hcCells) → ∀ k u, k < 5 → (hcCells (L.getD j default))[k]? = some u → ∃ b off, ao = some ⟨b, off, none⟩ ∧ (∀ wx, Below wr.heap.size wr wx → wx.cell? ⟨b, off + j * 5 + k, none⟩ = some u) := fun ao hat k u hk hu => by
              obtain ⟨b, off, e, hcc, hbb⟩ := hat (5 * j + k) u ((hc_cells' L j k hlt hk).trans hu)
              refine ⟨b, off, e, fun wx hx => ?_⟩
              rw [show off + j * 5 + k = off + (5 * j + k) by omega]
              exact ((HFR.out.trans (hx.mono HFR.out.size)).cell (p := ⟨b, off + (5 * j + k), none⟩) hbb).trans hcc
            obtain ⟨⟨z0, z1, z2, z3, z4⟩, hz⟩ : ∃ z, L.getD j default = z := ⟨_, rfl⟩
            rw [hz] at get
            obtain ⟨lb, l1, rfl, L0⟩ := get lo HAT.out 0 _ (by decide) rfl
            obtain ⟨mb, m1, rfl, M0⟩ := get mo HATM.out 0 _ (by decide) rfl
            obtain ⟨_, _, eL1, L1⟩ := get _ HAT.out 1 _ (by decide) rfl
            cases eL1
            obtain ⟨_, _, eL2, L2⟩ := get _ HAT.out 2 _ (by decide) rfl
            cases eL2
            obtain ⟨_, _, eL3, L3⟩ := get _ HAT.out 3 _ (by decide) rfl
            cases eL3
            obtain ⟨_, _, eL4, L4⟩ := get _ HAT.out 4 _ (by decide) rfl
            cases eL4
            obtain ⟨_, _, eM1, M1⟩ := get _ HATM.out 1 _ (by decide) rfl
            cases eM1
            obtain ⟨_, _, eM2, M2⟩ := get _ HATM.out 2 _ (by decide) rfl
            cases eM2
            obtain ⟨_, _, eM3, M3⟩ := get _ HATM.out 3 _ (by decide) rfl
            cases eM3
            obtain ⟨_, _, eM4, M4⟩ := get _ HATM.out 4 _ (by decide) rfl
            cases eM4
            have HKL : Hid (∀ wx, Below wr.heap.size wr wx → (Below wr.heap.size wr wx ∧ wx.cell? ⟨lb, l1 + j * 5, none⟩ = some (.int .i64 z0) ∧ wx.cell? ⟨lb, l1 + j * 5 + 1, none⟩ = some (.int .u32 z1) ∧ wx.cell? ⟨lb, l1 + j * 5 + 2, none⟩ = some (.int .u32 z2) ∧ wx.cell? ⟨lb, l1 + j * 5 + 3, none⟩ = some (.int .u32 z3) ∧ wx.cell? ⟨lb, l1 + j * 5 + 4, none⟩ = some (.int .u32 z4) ∧ wx.cell? ⟨mb, m1 + j * 5, none⟩ = some (.int .i64 z0) ∧ wx.cell? ⟨mb, m1 + j * 5 + 1, none⟩ = some (.int .u32 z1) ∧ wx.cell? ⟨mb, m1 + j * 5 + 2, none⟩ = some (.int .u32 z2) ∧ wx.cell? ⟨mb, m1 + j * 5 + 3, none⟩ = some (.int .u32 z3) ∧ wx.cell? ⟨mb, m1 + j * 5 + 4, none⟩ = some (.int .u32 z4))) := Lib.hid fun wx h => ⟨h, L0 wx h, L1 wx h, L2 wx h, L3 wx h, L4 wx h, M0 wx h, M1 wx h, M2 wx h, M3 wx h, M4 wx h⟩
            clear L0 L1 L2 L3 L4 M0 M1 M2 M3 M4 get hz
            obtain ⟨-, p0, p1, p2, p3, p4, p5, p6, p7, p8, p9⟩ := HKL.out _ (Below.refl _ wr)
            have hC0 : Below wr.heap.size wr wr.drew := (Below.refl _ _).drew
            go_wp2_with fail
            go_region_held3 (fun wx => Below wr.heap.size wr wx ∧ wx.cell? ⟨lb, l1 + j * 5, none⟩ = some (.int .i64 z0) ∧ wx.cell? ⟨lb, l1 + j * 5 + 1, none⟩ = some (.int .u32 z1) ∧ wx.cell? ⟨lb, l1 + j * 5 + 2, none⟩ = some (.int .u32 z2) ∧ wx.cell? ⟨lb, l1 + j * 5 + 3, none⟩ = some (.int .u32 z3) ∧ wx.cell? ⟨lb, l1 + j * 5 + 4, none⟩ = some (.int .u32 z4) ∧ wx.cell? ⟨mb, m1 + j * 5, none⟩ = some (.int .i64 z0) ∧ wx.cell? ⟨mb, m1 + j * 5 + 1, none⟩ = some (.int .u32 z1) ∧ wx.cell? ⟨mb, m1 + j * 5 + 2, none⟩ = some (.int .u32 z2) ∧ wx.cell? ⟨mb, m1 + j * 5 + 3, none⟩ = some (.int .u32 z3) ∧ wx.cell? ⟨mb, m1 + j * 5 + 4, none⟩ = some (.int .u32 z4)) (exact HKL.out _ (by assumption))
              (first
                | (go_at_call 28; refine (other_any z0 z1 z2 z3 z4 _).mono ?_; rintro e v1 ⟨rfl, hd1⟩; have hD1 : Below wr.heap.size wr v1 := hC0.trans (hd1.mono hC0.size))
                | (go_at_call 27; refine (sameCall_refl z0 z1 z2 z3 z4 _).mono ?_; rintro e v2 ⟨rfl, hd2⟩; have hD2 : Below wr.heap.size wr v2 := hD1.trans (hd2.mono hD1.size)))
            all_goals
              have HE2 := Lib.hid (HBR9.out.trans (hD2.mono HBR9.out.size))
              clear hC0 hd1 hD1 hd2 hD2 p0 p1 p2 p3 p4 p5 p6 p7 p8 p9
              go_wp2
              go_roundw
              case rel => exact ⟨j + 1, by omega, by go_num, HE2.out⟩
              case measure => simp [intOf]; omega
          · obtain rfl : j = L.length := by omega
            go_wp2
            go_ret
            exact ⟨rfl, HB11.out.trans (HBR9.out.mono HB11.out.size)⟩
      refine heldOne (by kernel_rfl) (fun oi ho K hK => ?_) AllReadyH.nil
      (simp only [List.getElem?_toArray, List.getElem?_cons_zero, List.getElem?_cons_succ, Option.some.injEq] at ho; subst ho)
      go_simp
      first | (refine hK.out _ _ ?_ (fun hHeld => ?_)) | (go_wp2_with fail; refine hK.out _ _ ?_ (fun hHeld => ?_))
      · first | (exact HK.out _ (by assumption)) | ((try dsimp only); exact HK.out _ (by assumption))
      clear hK K
      try simp only [Act.put, List.setIfInBounds_toArray, List.set_cons_zero, List.set_cons_succ]
      refine wpAnyH_ready (rs := [32]) (by kernel_rfl) (by simp) ?_
      refine heldOne (by kernel_rfl) (fun oi ho K hK => ?_) AllReadyH.nil
      (simp only [List.getElem?_toArray, List.getElem?_cons_zero, List.getElem?_cons_succ, Option.some.injEq] at ho; subst ho)
      go_simp
      first | (refine hK.out _ _ ?_ (fun hHeld => ?_)) | (go_wp2_with fail; refine hK.out _ _ ?_ (fun hHeld => ?_))
      · first | (exact HK.out _ (by assumption)) | ((try dsimp only); exact HK.out _ (by assumption))
      clear hK K
      try simp only [Act.put, List.setIfInBounds_toArray, List.set_cons_zero, List.set_cons_succ]
      refine heldTake 35 (v := ?_) (by kernel_rfl) (by kernel_rfl) (by kernel_rfl) (by kernel_rfl) (fun _ _ _ _ _ h => h) (by assumption) (fun oi ho => by (simp only [List.getElem?_toArray, List.getElem?_cons_zero, List.getElem?_cons_succ, Option.some.injEq] at ho; subst ho); rfl) (fun oi ho => ?_) (fun oi ho => ?_)
      rotate_left
      · ((simp only [List.getElem?_toArray, List.getElem?_cons_zero, List.getElem?_cons_succ, Option.some.injEq] at ho; subst ho); intro wx hSx; (try dsimp only at hSx); go_simp; all_goals (with_reducible rfl))
      (simp only [List.getElem?_toArray, List.getElem?_cons_zero, List.getElem?_cons_succ, Option.some.injEq] at ho; subst ho)
      try simp only [Act.put, List.setIfInBounds_toArray, List.set_cons_zero, List.set_cons_succ]
      refine heldTake 36 (v := ?_) (by kernel_rfl) (by kernel_rfl) (by kernel_rfl) (by kernel_rfl) (fun _ _ _ _ _ h => h) (by assumption) (fun oi ho => by (simp only [List.getElem?_toArray, List.getElem?_cons_zero, List.getElem?_cons_succ, Option.some.injEq] at ho; subst ho); rfl) (fun oi ho => ?_) (fun oi ho => ?_)
      rotate_left
      · ((simp only [List.getElem?_toArray, List.getElem?_cons_zero, List.getElem?_cons_succ, Option.some.injEq] at ho; subst ho); intro wx hSx; (try dsimp only at hSx); go_simp; all_goals (with_reducible rfl))
      (simp only [List.getElem?_toArray, List.getElem?_cons_zero, List.getElem?_cons_succ, Option.some.injEq] at ho; subst ho)
      try simp only [Act.put, List.setIfInBounds_toArray, List.set_cons_zero, List.set_cons_succ]
      refine wpAnyH_done (by kernel_rfl) ?_ _
      refine NoPanic.normal ?_
      have HB11 := Lib.hid (HB7.out.trans (hB11.mono HB7.out.size))
      have HF11 := Lib.hid hB11
      clear hB0 hb9 hB9 hb10 hB10 hb11 hB11 hbb
      have HST : Hid (UpS L.length w11 (.int .i64 0) w11) := Lib.hid ⟨0, Nat.zero_le _, rfl, Below.refl _ _⟩
      go_wp2_with fail
      go_loopw [23] (fun i wr => UpS L.length w11 i wr) (fun i _ => L.length - (intOf i).toNat)
      case atStart => exact HST.out
      case round =>
        obtain ⟨j, hj, rfl, hb⟩ := hrel
        have HBR9 := Lib.hid hb
        have HFR := Lib.hid (HF11.out.trans (hb.mono HF11.out.size))
        clear hb HST
        have hll := HRL.out
        by_cases hlt : j < L.length
        · have hji : (j : Int) < (L.length : Int) := by omega
          have get : ∀ (ao : Option Addr), AtL wF ao (L.flatMap hcCells) → ∀ k u, k < 5 → (hcCells (L.getD j default))[k]? = some u → ∃ b off, ao = some ⟨b, off, none⟩ ∧ (∀ wx, Below wr.heap.size wr wx → wx.cell? ⟨b, off + j * 5 + k, none⟩ = some u) := fun ao hat k u hk hu => by
            obtain ⟨b, off, e, hcc, hbb⟩ := hat (5 * j + k) u ((hc_cells' L j k hlt hk).trans hu)
            refine ⟨b, off, e, fun wx hx => ?_⟩
            rw [show off + j * 5 + k = off + (5 * j + k) by omega]
            exact ((HFR.out.trans (hx.mono HFR.out.size)).cell (p := ⟨b, off + (5 * j + k), none⟩) hbb).trans hcc
          obtain ⟨⟨z0, z1, z2, z3, z4⟩, hz⟩ : ∃ z, L.getD j default = z := ⟨_, rfl⟩
          rw [hz] at get
          obtain ⟨lb, l1, rfl, L0⟩ := get lo HAT.out 0 _ (by decide) rfl
          obtain ⟨mb, m1, rfl, M0⟩ := get mo HATM.out 0 _ (by decide) rfl
          obtain ⟨_, _, eL1, L1⟩ := get _ HAT.out 1 _ (by decide) rfl
          cases eL1
          obtain ⟨_, _, eL2, L2⟩ := get _ HAT.out 2 _ (by decide) rfl
          cases eL2
          obtain ⟨_, _, eL3, L3⟩ := get _ HAT.out 3 _ (by decide) rfl
          cases eL3
          obtain ⟨_, _, eL4, L4⟩ := get _ HAT.out 4 _ (by decide) rfl
          cases eL4
          obtain ⟨_, _, eM1, M1⟩ := get _ HATM.out 1 _ (by decide) rfl
          cases eM1
          obtain ⟨_, _, eM2, M2⟩ := get _ HATM.out 2 _ (by decide) rfl
          cases eM2
          obtain ⟨_, _, eM3, M3⟩ := get _ HATM.out 3 _ (by decide) rfl
          cases eM3
          obtain ⟨_, _, eM4, M4⟩ := get _ HATM.out 4 _ (by decide) rfl
          cases eM4
          have HKL : Hid (∀ wx, Below wr.heap.size wr wx → (Below wr.heap.size wr wx ∧ wx.cell? ⟨lb, l1 + j * 5, none⟩ = some (.int .i64 z0) ∧ wx.cell? ⟨lb, l1 + j * 5 + 1, none⟩ = some (.int .u32 z1) ∧ wx.cell? ⟨lb, l1 + j * 5 + 2, none⟩ = some (.int .u32 z2) ∧ wx.cell? ⟨lb, l1 + j * 5 + 3, none⟩ = some (.int .u32 z3) ∧ wx.cell? ⟨lb, l1 + j * 5 + 4, none⟩ = some (.int .u32 z4) ∧ wx.cell? ⟨mb, m1 + j * 5, none⟩ = some (.int .i64 z0) ∧ wx.cell? ⟨mb, m1 + j * 5 + 1, none⟩ = some (.int .u32 z1) ∧ wx.cell? ⟨mb, m1 + j * 5 + 2, none⟩ = some (.int .u32 z2) ∧ wx.cell? ⟨mb, m1 + j * 5 + 3, none⟩ = some (.int .u32 z3) ∧ wx.cell? ⟨mb, m1 + j * 5 + 4, none⟩ = some (.int .u32 z4))) := Lib.hid fun wx h => ⟨h, L0 wx h, L1 wx h, L2 wx h, L3 wx h, L4 wx h, M0 wx h, M1 wx h, M2 wx h, M3 wx h, M4 wx h⟩
          clear L0 L1 L2 L3 L4 M0 M1 M2 M3 M4 get hz
          obtain ⟨-, p0, p1, p2, p3, p4, p5, p6, p7, p8, p9⟩ := HKL.out _ (Below.refl _ wr)
          have hC0 : Below wr.heap.size wr wr.drew := (Below.refl _ _).drew
          go_wp2_with fail
          go_region_held3 (fun wx => Below wr.heap.size wr wx ∧ wx.cell? ⟨lb, l1 + j * 5, none⟩ = some (.int .i64 z0) ∧ wx.cell? ⟨lb, l1 + j * 5 + 1, none⟩ = some (.int .u32 z1) ∧ wx.cell? ⟨lb, l1 + j * 5 + 2, none⟩ = some (.int .u32 z2) ∧ wx.cell? ⟨lb, l1 + j * 5 + 3, none⟩ = some (.int .u32 z3) ∧ wx.cell? ⟨lb, l1 + j * 5 + 4, none⟩ = some (.int .u32 z4) ∧ wx.cell? ⟨mb, m1 + j * 5, none⟩ = some (.int .i64 z0) ∧ wx.cell? ⟨mb, m1 + j * 5 + 1, none⟩ = some (.int .u32 z1) ∧ wx.cell? ⟨mb, m1 + j * 5 + 2, none⟩ = some (.int .u32 z2) ∧ wx.cell? ⟨mb, m1 + j * 5 + 3, none⟩ = some (.int .u32 z3) ∧ wx.cell? ⟨mb, m1 + j * 5 + 4, none⟩ = some (.int .u32 z4)) (exact HKL.out _ (by assumption))
            (first
              | (go_at_call 28; refine (other_any z0 z1 z2 z3 z4 _).mono ?_; rintro e v1 ⟨rfl, hd1⟩; have hD1 : Below wr.heap.size wr v1 := hC0.trans (hd1.mono hC0.size))
              | (go_at_call 27; refine (sameCall_refl z0 z1 z2 z3 z4 _).mono ?_; rintro e v2 ⟨rfl, hd2⟩; have hD2 : Below wr.heap.size wr v2 := hD1.trans (hd2.mono hD1.size)))
          all_goals
            have HE2 := Lib.hid (HBR9.out.trans (hD2.mono HBR9.out.size))
            clear hC0 hd1 hD1 hd2 hD2 p0 p1 p2 p3 p4 p5 p6 p7 p8 p9
            go_wp2
            go_roundw
            case rel => exact ⟨j + 1, by omega, by go_num, HE2.out⟩
            case measure => simp [intOf]; omega
        · obtain rfl : j = L.length := by omega
          go_wp2
          go_ret
          exact ⟨rfl, HB11.out.trans (HBR9.out.mono HB11.out.size)⟩
    · have hA1 : decide (0 ≤ A) = false := decide_eq_false (by omega)
      clear hA0
      refine wp_region_noPanic ?_
      refine wp_region_held_drew (S := (fun wx => Below wF.heap.size wF wx ∧ wx.cell? ⟨cb, 0, none⟩ = some (.int .i64 y0) ∧ wx.cell? ⟨cb, 1, none⟩ = some (.int .u32 y1) ∧ wx.cell? ⟨cb, 2, none⟩ = some (.int .u32 y2) ∧ wx.cell? ⟨cb, 3, none⟩ = some (.int .u32 y3) ∧ wx.cell? ⟨cb, 4, none⟩ = some (.int .u32 y4) ∧ wx.cell? ⟨db, 0, none⟩ = some (.int .i64 y0) ∧ wx.cell? ⟨db, 1, none⟩ = some (.int .u32 y1) ∧ wx.cell? ⟨db, 2, none⟩ = some (.int .u32 y2) ∧ wx.cell? ⟨db, 3, none⟩ = some (.int .u32 y3) ∧ wx.cell? ⟨db, 4, none⟩ = some (.int .u32 y4) ∧ wx.cell? ⟨fbk, 0, none⟩ = some (.int .i64 fc) ∧ wx.cell? ⟨fbk, 1, none⟩ = some (.bool fb) ∧ wx.cell? ⟨fbk, 2, none⟩ = some (.int .i64 fp))) (by kernel_rfl) ?_ (fun hHeld => ?_)
      · exact HK.out _ (by assumption)
      refine heldTake 0 (v := ?_) (by kernel_rfl) (by kernel_rfl) (by kernel_rfl) (by kernel_rfl) (fun _ _ _ _ _ h => h) (by assumption) (fun oi ho => by (simp only [List.getElem?_toArray, List.getElem?_cons_zero, List.getElem?_cons_succ, Option.some.injEq] at ho; subst ho); rfl) (fun oi ho => ?_) (fun oi ho => ?_)
      rotate_left
      · ((simp only [List.getElem?_toArray, List.getElem?_cons_zero, List.getElem?_cons_succ, Option.some.injEq] at ho; subst ho); intro wx hSx; (try dsimp only at hSx); go_simp; all_goals (with_reducible rfl))
      (simp only [List.getElem?_toArray, List.getElem?_cons_zero, List.getElem?_cons_succ, Option.some.injEq] at ho; subst ho)
      try simp only [Act.put, List.setIfInBounds_toArray, List.set_cons_zero, List.set_cons_succ]
      refine heldTake 1 (v := ?_) (by kernel_rfl) (by kernel_rfl) (by kernel_rfl) (by kernel_rfl) (fun _ _ _ _ _ h => h) (by assumption) (fun oi ho => by (simp only [List.getElem?_toArray, List.getElem?_cons_zero, List.getElem?_cons_succ, Option.some.injEq] at ho; subst ho); rfl) (fun oi ho => ?_) (fun oi ho => ?_)
      rotate_left
      · ((simp only [List.getElem?_toArray, List.getElem?_cons_zero, List.getElem?_cons_succ, Option.some.injEq] at ho; subst ho); intro wx hSx; (try dsimp only at hSx); go_simp; all_goals (with_reducible rfl))
      (simp only [List.getElem?_toArray, List.getElem?_cons_zero, List.getElem?_cons_succ, Option.some.injEq] at ho; subst ho)
      try simp only [Act.put, List.setIfInBounds_toArray, List.set_cons_zero, List.set_cons_succ]
      refine heldTake 2 (v := ?_) (by kernel_rfl) (by kernel_rfl) (by kernel_rfl) (by kernel_rfl) (fun _ _ _ _ _ h => h) (by assumption) (fun oi ho => by (simp only [List.getElem?_toArray, List.getElem?_cons_zero, List.getElem?_cons_succ, Option.some.injEq] at ho; subst ho); rfl) (fun oi ho => ?_) (fun oi ho => ?_)
      rotate_left
      · ((simp only [List.getElem?_toArray, List.getElem?_cons_zero, List.getElem?_cons_succ, Option.some.injEq] at ho; subst ho); intro wx hSx; (try dsimp only at hSx); go_simp; all_goals (with_reducible rfl))
      (simp only [List.getElem?_toArray, List.getElem?_cons_zero, List.getElem?_cons_succ, Option.some.injEq] at ho; subst ho)
      try simp only [Act.put, List.setIfInBounds_toArray, List.set_cons_zero, List.set_cons_succ]
      refine heldTake 3 (v := ?_) (by kernel_rfl) (by kernel_rfl) (by kernel_rfl) (by kernel_rfl) (fun _ _ _ _ _ h => h) (by assumption) (fun oi ho => by (simp only [List.getElem?_toArray, List.getElem?_cons_zero, List.getElem?_cons_succ, Option.some.injEq] at ho; subst ho); rfl) (fun oi ho => ?_) (fun oi ho => ?_)
      rotate_left
      · ((simp only [List.getElem?_toArray, List.getElem?_cons_zero, List.getElem?_cons_succ, Option.some.injEq] at ho; subst ho); intro wx hSx; (try dsimp only at hSx); go_simp; all_goals (with_reducible rfl))
      (simp only [List.getElem?_toArray, List.getElem?_cons_zero, List.getElem?_cons_succ, Option.some.injEq] at ho; subst ho)
      try simp only [Act.put, List.setIfInBounds_toArray, List.set_cons_zero, List.set_cons_succ]
      refine heldTake 4 (v := ?_) (by kernel_rfl) (by kernel_rfl) (by kernel_rfl) (by kernel_rfl) (fun _ _ _ _ _ h => h) (by assumption) (fun oi ho => by (simp only [List.getElem?_toArray, List.getElem?_cons_zero, List.getElem?_cons_succ, Option.some.injEq] at ho; subst ho); rfl) (fun oi ho => ?_) (fun oi ho => ?_)
      rotate_left
      · ((simp only [List.getElem?_toArray, List.getElem?_cons_zero, List.getElem?_cons_succ, Option.some.injEq] at ho; subst ho); intro wx hSx; (try dsimp only at hSx); go_simp; all_goals (with_reducible rfl))
      (simp only [List.getElem?_toArray, List.getElem?_cons_zero, List.getElem?_cons_succ, Option.some.injEq] at ho; subst ho)
      try simp only [Act.put, List.setIfInBounds_toArray, List.set_cons_zero, List.set_cons_succ]
      refine heldTake 5 (v := ?_) (by kernel_rfl) (by kernel_rfl) (by kernel_rfl) (by kernel_rfl) (fun _ _ _ _ _ h => h) (by assumption) (fun oi ho => by (simp only [List.getElem?_toArray, List.getElem?_cons_zero, List.getElem?_cons_succ, Option.some.injEq] at ho; subst ho); rfl) (fun oi ho => ?_) (fun oi ho => ?_)
      rotate_left
      · ((simp only [List.getElem?_toArray, List.getElem?_cons_zero, List.getElem?_cons_succ, Option.some.injEq] at ho; subst ho); intro wx hSx; (try dsimp only at hSx); go_simp; all_goals (with_reducible rfl))
      (simp only [List.getElem?_toArray, List.getElem?_cons_zero, List.getElem?_cons_succ, Option.some.injEq] at ho; subst ho)
      try simp only [Act.put, List.setIfInBounds_toArray, List.set_cons_zero, List.set_cons_succ]
      refine heldTake 6 (v := ?_) (by kernel_rfl) (by kernel_rfl) (by kernel_rfl) (by kernel_rfl) (fun _ _ _ _ _ h => h) (by assumption) (fun oi ho => by (simp only [List.getElem?_toArray, List.getElem?_cons_zero, List.getElem?_cons_succ, Option.some.injEq] at ho; subst ho); rfl) (fun oi ho => ?_) (fun oi ho => ?_)
      rotate_left
      · ((simp only [List.getElem?_toArray, List.getElem?_cons_zero, List.getElem?_cons_succ, Option.some.injEq] at ho; subst ho); intro wx hSx; (try dsimp only at hSx); go_simp; all_goals (with_reducible rfl))
      (simp only [List.getElem?_toArray, List.getElem?_cons_zero, List.getElem?_cons_succ, Option.some.injEq] at ho; subst ho)
      try simp only [Act.put, List.setIfInBounds_toArray, List.set_cons_zero, List.set_cons_succ]
      refine heldSkip 7 (by kernel_rfl) (by kernel_rfl) (by kernel_rfl) (by kernel_rfl) (fun _ _ _ _ _ h => h) (by assumption) (fun oi ho => by (simp only [List.getElem?_toArray, List.getElem?_cons_zero, List.getElem?_cons_succ, Option.some.injEq] at ho; subst ho); rfl) (fun oi ho => ?_)
      (simp only [List.getElem?_toArray, List.getElem?_cons_zero, List.getElem?_cons_succ, Option.some.injEq] at ho; subst ho)
      try simp only [Act.put, List.setIfInBounds_toArray, List.set_cons_zero, List.set_cons_succ]
      refine heldSkip 8 (by kernel_rfl) (by kernel_rfl) (by kernel_rfl) (by kernel_rfl) (fun _ _ _ _ _ h => h) (by assumption) (fun oi ho => by (simp only [List.getElem?_toArray, List.getElem?_cons_zero, List.getElem?_cons_succ, Option.some.injEq] at ho; subst ho); rfl) (fun oi ho => ?_)
      (simp only [List.getElem?_toArray, List.getElem?_cons_zero, List.getElem?_cons_succ, Option.some.injEq] at ho; subst ho)
      try simp only [Act.put, List.setIfInBounds_toArray, List.set_cons_zero, List.set_cons_succ]
      refine heldSkip 9 (by kernel_rfl) (by kernel_rfl) (by kernel_rfl) (by kernel_rfl) (fun _ _ _ _ _ h => h) (by assumption) (fun oi ho => by (simp only [List.getElem?_toArray, List.getElem?_cons_zero, List.getElem?_cons_succ, Option.some.injEq] at ho; subst ho); rfl) (fun oi ho => ?_)
      (simp only [List.getElem?_toArray, List.getElem?_cons_zero, List.getElem?_cons_succ, Option.some.injEq] at ho; subst ho)
      try simp only [Act.put, List.setIfInBounds_toArray, List.set_cons_zero, List.set_cons_succ]
      refine heldTake 10 (v := ?_) (by kernel_rfl) (by kernel_rfl) (by kernel_rfl) (by kernel_rfl) (fun _ _ _ _ _ h => h) (by assumption) (fun oi ho => by (simp only [List.getElem?_toArray, List.getElem?_cons_zero, List.getElem?_cons_succ, Option.some.injEq] at ho; subst ho); rfl) (fun oi ho => ?_) (fun oi ho => ?_)
      rotate_left
      · ((simp only [List.getElem?_toArray, List.getElem?_cons_zero, List.getElem?_cons_succ, Option.some.injEq] at ho; subst ho); intro wx hSx; (try dsimp only at hSx); go_simp; all_goals (with_reducible rfl))
      (simp only [List.getElem?_toArray, List.getElem?_cons_zero, List.getElem?_cons_succ, Option.some.injEq] at ho; subst ho)
      try simp only [Act.put, List.setIfInBounds_toArray, List.set_cons_zero, List.set_cons_succ]
      refine heldTake 11 (v := ?_) (by kernel_rfl) (by kernel_rfl) (by kernel_rfl) (by kernel_rfl) (fun _ _ _ _ _ h => h) (by assumption) (fun oi ho => by (simp only [List.getElem?_toArray, List.getElem?_cons_zero, List.getElem?_cons_succ, Option.some.injEq] at ho; subst ho); rfl) (fun oi ho => ?_) (fun oi ho => ?_)
      rotate_left
      · ((simp only [List.getElem?_toArray, List.getElem?_cons_zero, List.getElem?_cons_succ, Option.some.injEq] at ho; subst ho); intro wx hSx; (try dsimp only at hSx); go_simp; all_goals (with_reducible rfl))
      (simp only [List.getElem?_toArray, List.getElem?_cons_zero, List.getElem?_cons_succ, Option.some.injEq] at ho; subst ho)
      try simp only [Act.put, List.setIfInBounds_toArray, List.set_cons_zero, List.set_cons_succ]
      refine heldTake 12 (v := ?_) (by kernel_rfl) (by kernel_rfl) (by kernel_rfl) (by kernel_rfl) (fun _ _ _ _ _ h => h) (by assumption) (fun oi ho => by (simp only [List.getElem?_toArray, List.getElem?_cons_zero, List.getElem?_cons_succ, Option.some.injEq] at ho; subst ho); rfl) (fun oi ho => ?_) (fun oi ho => ?_)
      rotate_left
      · ((simp only [List.getElem?_toArray, List.getElem?_cons_zero, List.getElem?_cons_succ, Option.some.injEq] at ho; subst ho); intro wx hSx; (try dsimp only at hSx); go_simp; all_goals (with_reducible rfl))
      (simp only [List.getElem?_toArray, List.getElem?_cons_zero, List.getElem?_cons_succ, Option.some.injEq] at ho; subst ho)
      try simp only [Act.put, List.setIfInBounds_toArray, List.set_cons_zero, List.set_cons_succ]
      refine heldTake 13 (v := ?_) (by kernel_rfl) (by kernel_rfl) (by kernel_rfl) (by kernel_rfl) (fun _ _ _ _ _ h => h) (by assumption) (fun oi ho => by (simp only [List.getElem?_toArray, List.getElem?_cons_zero, List.getElem?_cons_succ, Option.some.injEq] at ho; subst ho); rfl) (fun oi ho => ?_) (fun oi ho => ?_)
      rotate_left
      · ((simp only [List.getElem?_toArray, List.getElem?_cons_zero, List.getElem?_cons_succ, Option.some.injEq] at ho; subst ho); intro wx hSx; (try dsimp only at hSx); go_simp; all_goals (with_reducible rfl))
      (simp only [List.getElem?_toArray, List.getElem?_cons_zero, List.getElem?_cons_succ, Option.some.injEq] at ho; subst ho)
      try simp only [Act.put, List.setIfInBounds_toArray, List.set_cons_zero, List.set_cons_succ]
      refine heldTake 14 (v := ?_) (by kernel_rfl) (by kernel_rfl) (by kernel_rfl) (by kernel_rfl) (fun _ _ _ _ _ h => h) (by assumption) (fun oi ho => by (simp only [List.getElem?_toArray, List.getElem?_cons_zero, List.getElem?_cons_succ, Option.some.injEq] at ho; subst ho); rfl) (fun oi ho => ?_) (fun oi ho => ?_)
      rotate_left
      · ((simp only [List.getElem?_toArray, List.getElem?_cons_zero, List.getElem?_cons_succ, Option.some.injEq] at ho; subst ho); intro wx hSx; (try dsimp only at hSx); go_simp; all_goals (with_reducible rfl))
      (simp only [List.getElem?_toArray, List.getElem?_cons_zero, List.getElem?_cons_succ, Option.some.injEq] at ho; subst ho)
      try simp only [Act.put, List.setIfInBounds_toArray, List.set_cons_zero, List.set_cons_succ]
      refine heldTake 15 (v := ?_) (by kernel_rfl) (by kernel_rfl) (by kernel_rfl) (by kernel_rfl) (fun _ _ _ _ _ h => h) (by assumption) (fun oi ho => by (simp only [List.getElem?_toArray, List.getElem?_cons_zero, List.getElem?_cons_succ, Option.some.injEq] at ho; subst ho); rfl) (fun oi ho => ?_) (fun oi ho => ?_)
      rotate_left
      · ((simp only [List.getElem?_toArray, List.getElem?_cons_zero, List.getElem?_cons_succ, Option.some.injEq] at ho; subst ho); intro wx hSx; (try dsimp only at hSx); go_simp; all_goals (with_reducible rfl))
      (simp only [List.getElem?_toArray, List.getElem?_cons_zero, List.getElem?_cons_succ, Option.some.injEq] at ho; subst ho)
      try simp only [Act.put, List.setIfInBounds_toArray, List.set_cons_zero, List.set_cons_succ]
      refine heldTake 16 (v := ?_) (by kernel_rfl) (by kernel_rfl) (by kernel_rfl) (by kernel_rfl) (fun _ _ _ _ _ h => h) (by assumption) (fun oi ho => by (simp only [List.getElem?_toArray, List.getElem?_cons_zero, List.getElem?_cons_succ, Option.some.injEq] at ho; subst ho); rfl) (fun oi ho => ?_) (fun oi ho => ?_)
      rotate_left
      · ((simp only [List.getElem?_toArray, List.getElem?_cons_zero, List.getElem?_cons_succ, Option.some.injEq] at ho; subst ho); intro wx hSx; (try dsimp only at hSx); go_simp; all_goals (with_reducible rfl))
      (simp only [List.getElem?_toArray, List.getElem?_cons_zero, List.getElem?_cons_succ, Option.some.injEq] at ho; subst ho)
      try simp only [Act.put, List.setIfInBounds_toArray, List.set_cons_zero, List.set_cons_succ]
      refine heldTake 17 (v := ?_) (by kernel_rfl) (by kernel_rfl) (by kernel_rfl) (by kernel_rfl) (fun _ _ _ _ _ h => h) (by assumption) (fun oi ho => by (simp only [List.getElem?_toArray, List.getElem?_cons_zero, List.getElem?_cons_succ, Option.some.injEq] at ho; subst ho); rfl) (fun oi ho => ?_) (fun oi ho => ?_)
      rotate_left
      · ((simp only [List.getElem?_toArray, List.getElem?_cons_zero, List.getElem?_cons_succ, Option.some.injEq] at ho; subst ho); intro wx hSx; (try dsimp only at hSx); go_simp; all_goals (with_reducible rfl))
      (simp only [List.getElem?_toArray, List.getElem?_cons_zero, List.getElem?_cons_succ, Option.some.injEq] at ho; subst ho)
      try simp only [Act.put, List.setIfInBounds_toArray, List.set_cons_zero, List.set_cons_succ]
      refine heldTake 18 (v := ?_) (by kernel_rfl) (by kernel_rfl) (by kernel_rfl) (by kernel_rfl) (fun _ _ _ _ _ h => h) (by assumption) (fun oi ho => by (simp only [List.getElem?_toArray, List.getElem?_cons_zero, List.getElem?_cons_succ, Option.some.injEq] at ho; subst ho); rfl) (fun oi ho => ?_) (fun oi ho => ?_)
      rotate_left
      · ((simp only [List.getElem?_toArray, List.getElem?_cons_zero, List.getElem?_cons_succ, Option.some.injEq] at ho; subst ho); intro wx hSx; (try dsimp only at hSx); go_simp; all_goals (with_reducible rfl))
      (simp only [List.getElem?_toArray, List.getElem?_cons_zero, List.getElem?_cons_succ, Option.some.injEq] at ho; subst ho)
      try simp only [Act.put, List.setIfInBounds_toArray, List.set_cons_zero, List.set_cons_succ]
      refine heldTake 20 (v := ?_) (by kernel_rfl) (by kernel_rfl) (by kernel_rfl) (by kernel_rfl) (fun _ _ _ _ _ h => h) (by assumption) (fun oi ho => by (simp only [List.getElem?_toArray, List.getElem?_cons_zero, List.getElem?_cons_succ, Option.some.injEq] at ho; subst ho); rfl) (fun oi ho => ?_) (fun oi ho => ?_)
      rotate_left
      · ((simp only [List.getElem?_toArray, List.getElem?_cons_zero, List.getElem?_cons_succ, Option.some.injEq] at ho; subst ho); intro wx hSx; (try dsimp only at hSx); go_simp; all_goals (with_reducible rfl))
      (simp only [List.getElem?_toArray, List.getElem?_cons_zero, List.getElem?_cons_succ, Option.some.injEq] at ho; subst ho)
      try simp only [Act.put, List.setIfInBounds_toArray, List.set_cons_zero, List.set_cons_succ]
      refine wpAnyH_ready (rs := [19]) (by kernel_rfl) (by simp) ?_
      refine heldOne (by kernel_rfl) (fun oi ho K hK => ?_) AllReadyH.nil
      (simp only [List.getElem?_toArray, List.getElem?_cons_zero, List.getElem?_cons_succ, Option.some.injEq] at ho; subst ho)
      go_simp
      go_at_call 28; refine (other_any y0 y1 y2 y3 y4 _).mono ?_; rintro e w9 ⟨rfl, hb9⟩; have hB9 : Below wF.heap.size wF w9 := hB0.trans (hb9.mono hB0.size)
      first | (refine hK.out _ _ ?_ (fun hHeld => ?_)) | (go_wp2_with fail; refine hK.out _ _ ?_ (fun hHeld => ?_))
      · first | (exact HK.out _ (by assumption)) | ((try dsimp only); exact HK.out _ (by assumption))
      clear hK K
      try simp only [Act.put, List.setIfInBounds_toArray, List.set_cons_zero, List.set_cons_succ]
      refine wpAnyH_ready (rs := [21]) (by kernel_rfl) (by simp) ?_
      refine heldOne (by kernel_rfl) (fun oi ho K hK => ?_) AllReadyH.nil
      (simp only [List.getElem?_toArray, List.getElem?_cons_zero, List.getElem?_cons_succ, Option.some.injEq] at ho; subst ho)
      go_simp
      go_at_call 27; refine (sameCall_refl y0 y1 y2 y3 y4 _).mono ?_; rintro e w10 ⟨rfl, hb10⟩; have hB10 : Below wF.heap.size wF w10 := hB9.trans (hb10.mono hB9.size)
      first | (refine hK.out _ _ ?_ (fun hHeld => ?_)) | (go_wp2_with fail; refine hK.out _ _ ?_ (fun hHeld => ?_))
      · first | (exact HK.out _ (by assumption)) | ((try dsimp only); exact HK.out _ (by assumption))
      clear hK K
      try simp only [Act.put, List.setIfInBounds_toArray, List.set_cons_zero, List.set_cons_succ]
      refine heldTake 22 (v := ?_) (by kernel_rfl) (by kernel_rfl) (by kernel_rfl) (by kernel_rfl) (fun _ _ _ _ _ h => h) (by assumption) (fun oi ho => by (simp only [List.getElem?_toArray, List.getElem?_cons_zero, List.getElem?_cons_succ, Option.some.injEq] at ho; subst ho); rfl) (fun oi ho => ?_) (fun oi ho => ?_)
      rotate_left
      · ((simp only [List.getElem?_toArray, List.getElem?_cons_zero, List.getElem?_cons_succ, Option.some.injEq] at ho; subst ho); intro wx hSx; (try dsimp only at hSx); go_simp; all_goals (with_reducible rfl))
      (simp only [List.getElem?_toArray, List.getElem?_cons_zero, List.getElem?_cons_succ, Option.some.injEq] at ho; subst ho)
      try simp only [Act.put, List.setIfInBounds_toArray, List.set_cons_zero, List.set_cons_succ]
      refine heldTake 23 (v := ?_) (by kernel_rfl) (by kernel_rfl) (by kernel_rfl) (by kernel_rfl) (fun _ _ _ _ _ h => h) (by assumption) (fun oi ho => by (simp only [List.getElem?_toArray, List.getElem?_cons_zero, List.getElem?_cons_succ, Option.some.injEq] at ho; subst ho); rfl) (fun oi ho => ?_) (fun oi ho => ?_)
      rotate_left
      · ((simp only [List.getElem?_toArray, List.getElem?_cons_zero, List.getElem?_cons_succ, Option.some.injEq] at ho; subst ho); intro wx hSx; (try dsimp only at hSx); go_simp; all_goals (with_reducible rfl))
      (simp only [List.getElem?_toArray, List.getElem?_cons_zero, List.getElem?_cons_succ, Option.some.injEq] at ho; subst ho)
      try simp only [Act.put, List.setIfInBounds_toArray, List.set_cons_zero, List.set_cons_succ]
      refine heldTake 24 (v := ?_) (by kernel_rfl) (by kernel_rfl) (by kernel_rfl) (by kernel_rfl) (fun _ _ _ _ _ h => h) (by assumption) (fun oi ho => by (simp only [List.getElem?_toArray, List.getElem?_cons_zero, List.getElem?_cons_succ, Option.some.injEq] at ho; subst ho); rfl) (fun oi ho => ?_) (fun oi ho => ?_)
      rotate_left
      · ((simp only [List.getElem?_toArray, List.getElem?_cons_zero, List.getElem?_cons_succ, Option.some.injEq] at ho; subst ho); intro wx hSx; (try dsimp only at hSx); go_simp; all_goals (with_reducible rfl))
      (simp only [List.getElem?_toArray, List.getElem?_cons_zero, List.getElem?_cons_succ, Option.some.injEq] at ho; subst ho)
      try simp only [Act.put, List.setIfInBounds_toArray, List.set_cons_zero, List.set_cons_succ]
      refine heldTake 25 (v := ?_) (by kernel_rfl) (by kernel_rfl) (by kernel_rfl) (by kernel_rfl) (fun _ _ _ _ _ h => h) (by assumption) (fun oi ho => by (simp only [List.getElem?_toArray, List.getElem?_cons_zero, List.getElem?_cons_succ, Option.some.injEq] at ho; subst ho); rfl) (fun oi ho => ?_) (fun oi ho => ?_)
      rotate_left
      · ((simp only [List.getElem?_toArray, List.getElem?_cons_zero, List.getElem?_cons_succ, Option.some.injEq] at ho; subst ho); intro wx hSx; (try dsimp only at hSx); go_simp; all_goals (with_reducible rfl))
      (simp only [List.getElem?_toArray, List.getElem?_cons_zero, List.getElem?_cons_succ, Option.some.injEq] at ho; subst ho)
      try simp only [Act.put, List.setIfInBounds_toArray, List.set_cons_zero, List.set_cons_succ]
      refine heldTake 26 (v := ?_) (by kernel_rfl) (by kernel_rfl) (by kernel_rfl) (by kernel_rfl) (fun _ _ _ _ _ h => h) (by assumption) (fun oi ho => by (simp only [List.getElem?_toArray, List.getElem?_cons_zero, List.getElem?_cons_succ, Option.some.injEq] at ho; subst ho); rfl) (fun oi ho => ?_) (fun oi ho => ?_)
      rotate_left
      · ((simp only [List.getElem?_toArray, List.getElem?_cons_zero, List.getElem?_cons_succ, Option.some.injEq] at ho; subst ho); intro wx hSx; (try dsimp only at hSx); go_simp; all_goals (with_reducible rfl))
      (simp only [List.getElem?_toArray, List.getElem?_cons_zero, List.getElem?_cons_succ, Option.some.injEq] at ho; subst ho)
      try simp only [Act.put, List.setIfInBounds_toArray, List.set_cons_zero, List.set_cons_succ]
      refine wpAnyH_ready (rs := [27]) (by kernel_rfl) (by simp) ?_
      refine heldOne (by kernel_rfl) (fun oi ho K hK => ?_) AllReadyH.nil
      (simp only [List.getElem?_toArray, List.getElem?_cons_zero, List.getElem?_cons_succ, Option.some.injEq] at ho; subst ho)
      go_simp
      go_at_call 34; refine (HSM.out _ hB10).mono ?_; rintro e w11 ⟨rfl, hb11⟩; have hB11 : Below wF.heap.size wF w11 := hB10.trans (hb11.mono hB10.size)
      first | (refine hK.out _ _ ?_ (fun hHeld => ?_)) | (go_wp2_with fail; refine hK.out _ _ ?_ (fun hHeld => ?_))
      · first | (exact HK.out _ (by assumption)) | ((try dsimp only); exact HK.out _ (by assumption))
      clear hK K
      try simp only [Act.put, List.setIfInBounds_toArray, List.set_cons_zero, List.set_cons_succ]
      refine heldTake 28 (v := ?_) (by kernel_rfl) (by kernel_rfl) (by kernel_rfl) (by kernel_rfl) (fun _ _ _ _ _ h => h) (by assumption) (fun oi ho => by (simp only [List.getElem?_toArray, List.getElem?_cons_zero, List.getElem?_cons_succ, Option.some.injEq] at ho; subst ho); rfl) (fun oi ho => ?_) (fun oi ho => ?_)
      rotate_left
      · ((simp only [List.getElem?_toArray, List.getElem?_cons_zero, List.getElem?_cons_succ, Option.some.injEq] at ho; subst ho); intro wx hSx; (try dsimp only at hSx); go_simp; all_goals (with_reducible rfl))
      (simp only [List.getElem?_toArray, List.getElem?_cons_zero, List.getElem?_cons_succ, Option.some.injEq] at ho; subst ho)
      try simp only [Act.put, List.setIfInBounds_toArray, List.set_cons_zero, List.set_cons_succ]
      refine heldTake 29 (v := ?_) (by kernel_rfl) (by kernel_rfl) (by kernel_rfl) (by kernel_rfl) (fun _ _ _ _ _ h => h) (by assumption) (fun oi ho => by (simp only [List.getElem?_toArray, List.getElem?_cons_zero, List.getElem?_cons_succ, Option.some.injEq] at ho; subst ho); rfl) (fun oi ho => ?_) (fun oi ho => ?_)
      rotate_left
      · ((simp only [List.getElem?_toArray, List.getElem?_cons_zero, List.getElem?_cons_succ, Option.some.injEq] at ho; subst ho); intro wx hSx; (try dsimp only at hSx); go_simp; all_goals (with_reducible rfl))
      (simp only [List.getElem?_toArray, List.getElem?_cons_zero, List.getElem?_cons_succ, Option.some.injEq] at ho; subst ho)
      try simp only [Act.put, List.setIfInBounds_toArray, List.set_cons_zero, List.set_cons_succ]
      refine heldTake 30 (v := ?_) (by kernel_rfl) (by kernel_rfl) (by kernel_rfl) (by kernel_rfl) (fun _ _ _ _ _ h => h) (by assumption) (fun oi ho => by (simp only [List.getElem?_toArray, List.getElem?_cons_zero, List.getElem?_cons_succ, Option.some.injEq] at ho; subst ho); rfl) (fun oi ho => ?_) (fun oi ho => ?_)
      rotate_left
      · ((simp only [List.getElem?_toArray, List.getElem?_cons_zero, List.getElem?_cons_succ, Option.some.injEq] at ho; subst ho); intro wx hSx; (try dsimp only at hSx); go_simp; all_goals (with_reducible rfl))
      (simp only [List.getElem?_toArray, List.getElem?_cons_zero, List.getElem?_cons_succ, Option.some.injEq] at ho; subst ho)
      try simp only [Act.put, List.setIfInBounds_toArray, List.set_cons_zero, List.set_cons_succ]
      refine heldTake 31 (v := ?_) (by kernel_rfl) (by kernel_rfl) (by kernel_rfl) (by kernel_rfl) (fun _ _ _ _ _ h => h) (by assumption) (fun oi ho => by (simp only [List.getElem?_toArray, List.getElem?_cons_zero, List.getElem?_cons_succ, Option.some.injEq] at ho; subst ho); rfl) (fun oi ho => ?_) (fun oi ho => ?_)
      rotate_left
      · ((simp only [List.getElem?_toArray, List.getElem?_cons_zero, List.getElem?_cons_succ, Option.some.injEq] at ho; subst ho); intro wx hSx; (try dsimp only at hSx); go_simp; all_goals (with_reducible rfl))
      (simp only [List.getElem?_toArray, List.getElem?_cons_zero, List.getElem?_cons_succ, Option.some.injEq] at ho; subst ho)
      try simp only [Act.put, List.setIfInBounds_toArray, List.set_cons_zero, List.set_cons_succ]
      refine heldTake 33 (v := ?_) (by kernel_rfl) (by kernel_rfl) (by kernel_rfl) (by kernel_rfl) (fun _ _ _ _ _ h => h) (by assumption) (fun oi ho => by (simp only [List.getElem?_toArray, List.getElem?_cons_zero, List.getElem?_cons_succ, Option.some.injEq] at ho; subst ho); rfl) (fun oi ho => ?_) (fun oi ho => ?_)
      rotate_left
      · ((simp only [List.getElem?_toArray, List.getElem?_cons_zero, List.getElem?_cons_succ, Option.some.injEq] at ho; subst ho); intro wx hSx; (try dsimp only at hSx); go_simp; all_goals (with_reducible rfl))
      (simp only [List.getElem?_toArray, List.getElem?_cons_zero, List.getElem?_cons_succ, Option.some.injEq] at ho; subst ho)
      try simp only [Act.put, List.setIfInBounds_toArray, List.set_cons_zero, List.set_cons_succ]
      refine wpAnyH_ready (rs := [32, 34]) (by kernel_rfl) (by simp) ?_
      refine heldOne (by kernel_rfl) (fun oi ho K hK => ?_) ?_
      · (simp only [List.getElem?_toArray, List.getElem?_cons_zero, List.getElem?_cons_succ, Option.some.injEq] at ho; subst ho)
        go_simp
        first | (refine hK.out _ _ ?_ (fun hHeld => ?_)) | (go_wp2_with fail; refine hK.out _ _ ?_ (fun hHeld => ?_))
        · first | (exact HK.out _ (by assumption)) | ((try dsimp only); exact HK.out _ (by assumption))
        clear hK K
        try simp only [Act.put, List.setIfInBounds_toArray, List.set_cons_zero, List.set_cons_succ]
        refine wpAnyH_ready (rs := [34]) (by kernel_rfl) (by simp) ?_
        refine heldOne (by kernel_rfl) (fun oi ho K hK => ?_) AllReadyH.nil
        (simp only [List.getElem?_toArray, List.getElem?_cons_zero, List.getElem?_cons_succ, Option.some.injEq] at ho; subst ho)
        go_simp
        first | (refine hK.out _ _ ?_ (fun hHeld => ?_)) | (go_wp2_with fail; refine hK.out _ _ ?_ (fun hHeld => ?_))
        · first | (exact HK.out _ (by assumption)) | ((try dsimp only); exact HK.out _ (by assumption))
        clear hK K
        try simp only [Act.put, List.setIfInBounds_toArray, List.set_cons_zero, List.set_cons_succ]
        refine heldTake 35 (v := ?_) (by kernel_rfl) (by kernel_rfl) (by kernel_rfl) (by kernel_rfl) (fun _ _ _ _ _ h => h) (by assumption) (fun oi ho => by (simp only [List.getElem?_toArray, List.getElem?_cons_zero, List.getElem?_cons_succ, Option.some.injEq] at ho; subst ho); rfl) (fun oi ho => ?_) (fun oi ho => ?_)
        rotate_left
        · ((simp only [List.getElem?_toArray, List.getElem?_cons_zero, List.getElem?_cons_succ, Option.some.injEq] at ho; subst ho); intro wx hSx; (try dsimp only at hSx); go_simp; all_goals (with_reducible rfl))
        (simp only [List.getElem?_toArray, List.getElem?_cons_zero, List.getElem?_cons_succ, Option.some.injEq] at ho; subst ho)
        try simp only [Act.put, List.setIfInBounds_toArray, List.set_cons_zero, List.set_cons_succ]
        refine heldTake 36 (v := ?_) (by kernel_rfl) (by kernel_rfl) (by kernel_rfl) (by kernel_rfl) (fun _ _ _ _ _ h => h) (by assumption) (fun oi ho => by (simp only [List.getElem?_toArray, List.getElem?_cons_zero, List.getElem?_cons_succ, Option.some.injEq] at ho; subst ho); rfl) (fun oi ho => ?_) (fun oi ho => ?_)
        rotate_left
        · ((simp only [List.getElem?_toArray, List.getElem?_cons_zero, List.getElem?_cons_succ, Option.some.injEq] at ho; subst ho); intro wx hSx; (try dsimp only at hSx); go_simp; all_goals (with_reducible rfl))
        (simp only [List.getElem?_toArray, List.getElem?_cons_zero, List.getElem?_cons_succ, Option.some.injEq] at ho; subst ho)
        try simp only [Act.put, List.setIfInBounds_toArray, List.set_cons_zero, List.set_cons_succ]
        refine wpAnyH_done (by kernel_rfl) ?_ _
        refine NoPanic.normal ?_
        have HB11 := Lib.hid (HB7.out.trans (hB11.mono HB7.out.size))
        have HF11 := Lib.hid hB11
        clear hB0 hb9 hB9 hb10 hB10 hb11 hB11 hbb
        have HST : Hid (UpS L.length w11 (.int .i64 0) w11) := Lib.hid ⟨0, Nat.zero_le _, rfl, Below.refl _ _⟩
        go_wp2_with fail
        go_loopw [23] (fun i wr => UpS L.length w11 i wr) (fun i _ => L.length - (intOf i).toNat)
        case atStart => exact HST.out
        case round =>
          obtain ⟨j, hj, rfl, hb⟩ := hrel
          have HBR9 := Lib.hid hb
          have HFR := Lib.hid (HF11.out.trans (hb.mono HF11.out.size))
          clear hb HST
          have hll := HRL.out
          by_cases hlt : j < L.length
          · have hji : (j : Int) < (L.length : Int) := by omega
            have get : ∀ (ao : Option Addr), AtL wF ao (L.flatMap hcCells) → ∀ k u, k < 5 → (hcCells (L.getD j default))[k]? = some u → ∃ b off, ao = some ⟨b, off, none⟩ ∧ (∀ wx, Below wr.heap.size wr wx → wx.cell? ⟨b, off + j * 5 + k, none⟩ = some u) := fun ao hat k u hk hu => by
              obtain ⟨b, off, e, hcc, hbb⟩ := hat (5 * j + k) u ((hc_cells' L j k hlt hk).trans hu)
              refine ⟨b, off, e, fun wx hx => ?_⟩
              rw [show off + j * 5 + k = off + (5 * j + k) by omega]
              exact ((HFR.out.trans (hx.mono HFR.out.size)).cell (p := ⟨b, off + (5 * j + k), none⟩) hbb).trans hcc
            obtain ⟨⟨z0, z1, z2, z3, z4⟩, hz⟩ : ∃ z, L.getD j default = z := ⟨_, rfl⟩
            rw [hz] at get
            obtain ⟨lb, l1, rfl, L0⟩ := get lo HAT.out 0 _ (by decide) rfl
            obtain ⟨mb, m1, rfl, M0⟩ := get mo HATM.out 0 _ (by decide) rfl
            obtain ⟨_, _, eL1, L1⟩ := get _ HAT.out 1 _ (by decide) rfl
            cases eL1
            obtain ⟨_, _, eL2, L2⟩ := get _ HAT.out 2 _ (by decide) rfl
            cases eL2
            obtain ⟨_, _, eL3, L3⟩ := get _ HAT.out 3 _ (by decide) rfl
            cases eL3
            obtain ⟨_, _, eL4, L4⟩ := get _ HAT.out 4 _ (by decide) rfl
            cases eL4
            obtain ⟨_, _, eM1, M1⟩ := get _ HATM.out 1 _ (by decide) rfl
            cases eM1
            obtain ⟨_, _, eM2, M2⟩ := get _ HATM.out 2 _ (by decide) rfl
            cases eM2
            obtain ⟨_, _, eM3, M3⟩ := get _ HATM.out 3 _ (by decide) rfl
            cases eM3
            obtain ⟨_, _, eM4, M4⟩ := get _ HATM.out 4 _ (by decide) rfl
            cases eM4
            have HKL : Hid (∀ wx, Below wr.heap.size wr wx → (Below wr.heap.size wr wx ∧ wx.cell? ⟨lb, l1 + j * 5, none⟩ = some (.int .i64 z0) ∧ wx.cell? ⟨lb, l1 + j * 5 + 1, none⟩ = some (.int .u32 z1) ∧ wx.cell? ⟨lb, l1 + j * 5 + 2, none⟩ = some (.int .u32 z2) ∧ wx.cell? ⟨lb, l1 + j * 5 + 3, none⟩ = some (.int .u32 z3) ∧ wx.cell? ⟨lb, l1 + j * 5 + 4, none⟩ = some (.int .u32 z4) ∧ wx.cell? ⟨mb, m1 + j * 5, none⟩ = some (.int .i64 z0) ∧ wx.cell? ⟨mb, m1 + j * 5 + 1, none⟩ = some (.int .u32 z1) ∧ wx.cell? ⟨mb, m1 + j * 5 + 2, none⟩ = some (.int .u32 z2) ∧ wx.cell? ⟨mb, m1 + j * 5 + 3, none⟩ = some (.int .u32 z3) ∧ wx.cell? ⟨mb, m1 + j * 5 + 4, none⟩ = some (.int .u32 z4))) := Lib.hid fun wx h => ⟨h, L0 wx h, L1 wx h, L2 wx h, L3 wx h, L4 wx h, M0 wx h, M1 wx h, M2 wx h, M3 wx h, M4 wx h⟩
            clear L0 L1 L2 L3 L4 M0 M1 M2 M3 M4 get hz
            obtain ⟨-, p0, p1, p2, p3, p4, p5, p6, p7, p8, p9⟩ := HKL.out _ (Below.refl _ wr)
            have hC0 : Below wr.heap.size wr wr.drew := (Below.refl _ _).drew
            go_wp2_with fail
            go_region_held3 (fun wx => Below wr.heap.size wr wx ∧ wx.cell? ⟨lb, l1 + j * 5, none⟩ = some (.int .i64 z0) ∧ wx.cell? ⟨lb, l1 + j * 5 + 1, none⟩ = some (.int .u32 z1) ∧ wx.cell? ⟨lb, l1 + j * 5 + 2, none⟩ = some (.int .u32 z2) ∧ wx.cell? ⟨lb, l1 + j * 5 + 3, none⟩ = some (.int .u32 z3) ∧ wx.cell? ⟨lb, l1 + j * 5 + 4, none⟩ = some (.int .u32 z4) ∧ wx.cell? ⟨mb, m1 + j * 5, none⟩ = some (.int .i64 z0) ∧ wx.cell? ⟨mb, m1 + j * 5 + 1, none⟩ = some (.int .u32 z1) ∧ wx.cell? ⟨mb, m1 + j * 5 + 2, none⟩ = some (.int .u32 z2) ∧ wx.cell? ⟨mb, m1 + j * 5 + 3, none⟩ = some (.int .u32 z3) ∧ wx.cell? ⟨mb, m1 + j * 5 + 4, none⟩ = some (.int .u32 z4)) (exact HKL.out _ (by assumption))
              (first
                | (go_at_call 28; refine (other_any z0 z1 z2 z3 z4 _).mono ?_; rintro e v1 ⟨rfl, hd1⟩; have hD1 : Below wr.heap.size wr v1 := hC0.trans (hd1.mono hC0.size))
                | (go_at_call 27; refine (sameCall_refl z0 z1 z2 z3 z4 _).mono ?_; rintro e v2 ⟨rfl, hd2⟩; have hD2 : Below wr.heap.size wr v2 := hD1.trans (hd2.mono hD1.size)))
            all_goals
              have HE2 := Lib.hid (HBR9.out.trans (hD2.mono HBR9.out.size))
              clear hC0 hd1 hD1 hd2 hD2 p0 p1 p2 p3 p4 p5 p6 p7 p8 p9
              go_wp2
              go_roundw
              case rel => exact ⟨j + 1, by omega, by go_num, HE2.out⟩
              case measure => simp [intOf]; omega
          · obtain rfl : j = L.length := by omega
            go_wp2
            go_ret
            exact ⟨rfl, HB11.out.trans (HBR9.out.mono HB11.out.size)⟩
      refine heldOne (by kernel_rfl) (fun oi ho K hK => ?_) AllReadyH.nil
      (simp only [List.getElem?_toArray, List.getElem?_cons_zero, List.getElem?_cons_succ, Option.some.injEq] at ho; subst ho)
      go_simp
      first | (refine hK.out _ _ ?_ (fun hHeld => ?_)) | (go_wp2_with fail; refine hK.out _ _ ?_ (fun hHeld => ?_))
      · first | (exact HK.out _ (by assumption)) | ((try dsimp only); exact HK.out _ (by assumption))
      clear hK K
      try simp only [Act.put, List.setIfInBounds_toArray, List.set_cons_zero, List.set_cons_succ]
      refine wpAnyH_ready (rs := [32]) (by kernel_rfl) (by simp) ?_
      refine heldOne (by kernel_rfl) (fun oi ho K hK => ?_) AllReadyH.nil
      (simp only [List.getElem?_toArray, List.getElem?_cons_zero, List.getElem?_cons_succ, Option.some.injEq] at ho; subst ho)
      go_simp
      first | (refine hK.out _ _ ?_ (fun hHeld => ?_)) | (go_wp2_with fail; refine hK.out _ _ ?_ (fun hHeld => ?_))
      · first | (exact HK.out _ (by assumption)) | ((try dsimp only); exact HK.out _ (by assumption))
      clear hK K
      try simp only [Act.put, List.setIfInBounds_toArray, List.set_cons_zero, List.set_cons_succ]
      refine heldTake 35 (v := ?_) (by kernel_rfl) (by kernel_rfl) (by kernel_rfl) (by kernel_rfl) (fun _ _ _ _ _ h => h) (by assumption) (fun oi ho => by (simp only [List.getElem?_toArray, List.getElem?_cons_zero, List.getElem?_cons_succ, Option.some.injEq] at ho; subst ho); rfl) (fun oi ho => ?_) (fun oi ho => ?_)
      rotate_left
      · ((simp only [List.getElem?_toArray, List.getElem?_cons_zero, List.getElem?_cons_succ, Option.some.injEq] at ho; subst ho); intro wx hSx; (try dsimp only at hSx); go_simp; all_goals (with_reducible rfl))
      (simp only [List.getElem?_toArray, List.getElem?_cons_zero, List.getElem?_cons_succ, Option.some.injEq] at ho; subst ho)
      try simp only [Act.put, List.setIfInBounds_toArray, List.set_cons_zero, List.set_cons_succ]
      refine heldTake 36 (v := ?_) (by kernel_rfl) (by kernel_rfl) (by kernel_rfl) (by kernel_rfl) (fun _ _ _ _ _ h => h) (by assumption) (fun oi ho => by (simp only [List.getElem?_toArray, List.getElem?_cons_zero, List.getElem?_cons_succ, Option.some.injEq] at ho; subst ho); rfl) (fun oi ho => ?_) (fun oi ho => ?_)
      rotate_left
      · ((simp only [List.getElem?_toArray, List.getElem?_cons_zero, List.getElem?_cons_succ, Option.some.injEq] at ho; subst ho); intro wx hSx; (try dsimp only at hSx); go_simp; all_goals (with_reducible rfl))
      (simp only [List.getElem?_toArray, List.getElem?_cons_zero, List.getElem?_cons_succ, Option.some.injEq] at ho; subst ho)
      try simp only [Act.put, List.setIfInBounds_toArray, List.set_cons_zero, List.set_cons_succ]
      refine wpAnyH_done (by kernel_rfl) ?_ _
      refine NoPanic.normal ?_
      have HB11 := Lib.hid (HB7.out.trans (hB11.mono HB7.out.size))
      have HF11 := Lib.hid hB11
      clear hB0 hb9 hB9 hb10 hB10 hb11 hB11 hbb
      have HST : Hid (UpS L.length w11 (.int .i64 0) w11) := Lib.hid ⟨0, Nat.zero_le _, rfl, Below.refl _ _⟩
      go_wp2_with fail
      go_loopw [23] (fun i wr => UpS L.length w11 i wr) (fun i _ => L.length - (intOf i).toNat)
      case atStart => exact HST.out
      case round =>
        obtain ⟨j, hj, rfl, hb⟩ := hrel
        have HBR9 := Lib.hid hb
        have HFR := Lib.hid (HF11.out.trans (hb.mono HF11.out.size))
        clear hb HST
        have hll := HRL.out
        by_cases hlt : j < L.length
        · have hji : (j : Int) < (L.length : Int) := by omega
          have get : ∀ (ao : Option Addr), AtL wF ao (L.flatMap hcCells) → ∀ k u, k < 5 → (hcCells (L.getD j default))[k]? = some u → ∃ b off, ao = some ⟨b, off, none⟩ ∧ (∀ wx, Below wr.heap.size wr wx → wx.cell? ⟨b, off + j * 5 + k, none⟩ = some u) := fun ao hat k u hk hu => by
            obtain ⟨b, off, e, hcc, hbb⟩ := hat (5 * j + k) u ((hc_cells' L j k hlt hk).trans hu)
            refine ⟨b, off, e, fun wx hx => ?_⟩
            rw [show off + j * 5 + k = off + (5 * j + k) by omega]
            exact ((HFR.out.trans (hx.mono HFR.out.size)).cell (p := ⟨b, off + (5 * j + k), none⟩) hbb).trans hcc
          obtain ⟨⟨z0, z1, z2, z3, z4⟩, hz⟩ : ∃ z, L.getD j default = z := ⟨_, rfl⟩
          rw [hz] at get
          obtain ⟨lb, l1, rfl, L0⟩ := get lo HAT.out 0 _ (by decide) rfl
          obtain ⟨mb, m1, rfl, M0⟩ := get mo HATM.out 0 _ (by decide) rfl
          obtain ⟨_, _, eL1, L1⟩ := get _ HAT.out 1 _ (by decide) rfl
          cases eL1
          obtain ⟨_, _, eL2, L2⟩ := get _ HAT.out 2 _ (by decide) rfl
          cases eL2
          obtain ⟨_, _, eL3, L3⟩ := get _ HAT.out 3 _ (by decide) rfl
          cases eL3
          obtain ⟨_, _, eL4, L4⟩ := get _ HAT.out 4 _ (by decide) rfl
          cases eL4
          obtain ⟨_, _, eM1, M1⟩ := get _ HATM.out 1 _ (by decide) rfl
          cases eM1
          obtain ⟨_, _, eM2, M2⟩ := get _ HATM.out 2 _ (by decide) rfl
          cases eM2
          obtain ⟨_, _, eM3, M3⟩ := get _ HATM.out 3 _ (by decide) rfl
          cases eM3
          obtain ⟨_, _, eM4, M4⟩ := get _ HATM.out 4 _ (by decide) rfl
          cases eM4
          have HKL : Hid (∀ wx, Below wr.heap.size wr wx → (Below wr.heap.size wr wx ∧ wx.cell? ⟨lb, l1 + j * 5, none⟩ = some (.int .i64 z0) ∧ wx.cell? ⟨lb, l1 + j * 5 + 1, none⟩ = some (.int .u32 z1) ∧ wx.cell? ⟨lb, l1 + j * 5 + 2, none⟩ = some (.int .u32 z2) ∧ wx.cell? ⟨lb, l1 + j * 5 + 3, none⟩ = some (.int .u32 z3) ∧ wx.cell? ⟨lb, l1 + j * 5 + 4, none⟩ = some (.int .u32 z4) ∧ wx.cell? ⟨mb, m1 + j * 5, none⟩ = some (.int .i64 z0) ∧ wx.cell? ⟨mb, m1 + j * 5 + 1, none⟩ = some (.int .u32 z1) ∧ wx.cell? ⟨mb, m1 + j * 5 + 2, none⟩ = some (.int .u32 z2) ∧ wx.cell? ⟨mb, m1 + j * 5 + 3, none⟩ = some (.int .u32 z3) ∧ wx.cell? ⟨mb, m1 + j * 5 + 4, none⟩ = some (.int .u32 z4))) := Lib.hid fun wx h => ⟨h, L0 wx h, L1 wx h, L2 wx h, L3 wx h, L4 wx h, M0 wx h, M1 wx h, M2 wx h, M3 wx h, M4 wx h⟩
          clear L0 L1 L2 L3 L4 M0 M1 M2 M3 M4 get hz
          obtain ⟨-, p0, p1, p2, p3, p4, p5, p6, p7, p8, p9⟩ := HKL.out _ (Below.refl _ wr)
          have hC0 : Below wr.heap.size wr wr.drew := (Below.refl _ _).drew
          go_wp2_with fail
          go_region_held3 (fun wx => Below wr.heap.size wr wx ∧ wx.cell? ⟨lb, l1 + j * 5, none⟩ = some (.int .i64 z0) ∧ wx.cell? ⟨lb, l1 + j * 5 + 1, none⟩ = some (.int .u32 z1) ∧ wx.cell? ⟨lb, l1 + j * 5 + 2, none⟩ = some (.int .u32 z2) ∧ wx.cell? ⟨lb, l1 + j * 5 + 3, none⟩ = some (.int .u32 z3) ∧ wx.cell? ⟨lb, l1 + j * 5 + 4, none⟩ = some (.int .u32 z4) ∧ wx.cell? ⟨mb, m1 + j * 5, none⟩ = some (.int .i64 z0) ∧ wx.cell? ⟨mb, m1 + j * 5 + 1, none⟩ = some (.int .u32 z1) ∧ wx.cell? ⟨mb, m1 + j * 5 + 2, none⟩ = some (.int .u32 z2) ∧ wx.cell? ⟨mb, m1 + j * 5 + 3, none⟩ = some (.int .u32 z3) ∧ wx.cell? ⟨mb, m1 + j * 5 + 4, none⟩ = some (.int .u32 z4)) (exact HKL.out _ (by assumption))
            (first
              | (go_at_call 28; refine (other_any z0 z1 z2 z3 z4 _).mono ?_; rintro e v1 ⟨rfl, hd1⟩; have hD1 : Below wr.heap.size wr v1 := hC0.trans (hd1.mono hC0.size))
              | (go_at_call 27; refine (sameCall_refl z0 z1 z2 z3 z4 _).mono ?_; rintro e v2 ⟨rfl, hd2⟩; have hD2 : Below wr.heap.size wr v2 := hD1.trans (hd2.mono hD1.size)))
          all_goals
            have HE2 := Lib.hid (HBR9.out.trans (hD2.mono HBR9.out.size))
            clear hC0 hd1 hD1 hd2 hD2 p0 p1 p2 p3 p4 p5 p6 p7 p8 p9
            go_wp2
            go_roundw
            case rel => exact ⟨j + 1, by omega, by go_num, HE2.out⟩
            case measure => simp [intOf]; omega
        · obtain rfl : j = L.length := by omega
          go_wp2
          go_ret
          exact ⟨rfl, HB11.out.trans (HBR9.out.mono HB11.out.size)⟩
end Go.Proofs.YtpmbbbgmaipmbaaDoor
