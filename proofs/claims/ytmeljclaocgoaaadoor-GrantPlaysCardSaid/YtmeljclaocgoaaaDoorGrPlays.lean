/-
  GrantPlays: for every list of things told, frame and guest asked the call returns true; nothing that was there is turned. Given where the sentinels lie.
-/
import Derived.Test.YtmeljclaocgoaaaDoorGrMore
namespace Go.Proofs.YtmeljclaocgoaaaDoor
open Go.RowKit

theorem bne_self (b : Bool) : (b != b) = false := by cases b <;> rfl
theorem kinds4 (k : Int) : (k == 1) = true ∨ ((k == 1) = false ∧ (k == 2) = true) ∨ ((k == 1) = false ∧ (k == 2) = false ∧ (k == 3) = true) ∨ ((k == 1) = false ∧ (k == 2) = false ∧ (k == 3) = false) := by
  simp only [beq_iff_eq, beq_eq_false_iff_ne]
  omega
/-- both tables, the same loans -/
structure GtS (w : World) (b x : Nat) (l : List Gr) (wr : World) : Prop where
  n : GAt wr b l
  r : RGr wr x l
  ne : b ≠ x
  hb : w.heap.size ≤ b
  hx : w.heap.size ≤ x
  wb : Below w.heap.size w wr
theorem GtS.below {w : World} {b x : Nat} {l : List Gr} {wr wy : World} (h : GtS w b x l wr) (hb : Below wr.heap.size wr wy) : GtS w b x l wy :=
  ⟨h.n.below hb, h.r.below hb, h.ne, h.hb, h.hx, h.wb.trans (hb.mono h.wb.size)⟩
theorem GtS.first {w : World} {b x : Nat} {l : List Gr} {wr wy : World} (h : GtS w b x l wr) (ho : Only (fun k => k = b) wr wy) : RGr wy x l := h.r.only ho (fun e => h.ne e.symm)
theorem GtS.step {w : World} {b x : Nat} {l l' : List Gr} {wr wy wz : World} (h : GtS w b x l wr) (hn : GAt wy b l') (ho : Only (fun k => k = b) wr wy) (hr : RGr wz x l') (ho2 : Only (fun k => k = x) wy wz) : GtS w b x l' wz :=
  ⟨hn.only ho2 (fun e => h.ne e), hr, h.ne, h.hb, h.hx, (h.wb.trans (ho.below h.wb.size (fun k hk => by subst hk; exact h.hb))).trans (ho2.below (Nat.le_trans h.wb.size ho.size) (fun k hk => by subst hk; exact h.hx))⟩
def PlaysG (q : Nat) (w : World) (b x : Nat) (i : Value) (wr : World) : Prop := ∃ (k : Nat) (l : List Gr), k ≤ q ∧ i = .int .i64 (k : Int) ∧ GtS w b x l wr
def LooksG (w : World) (b x : Nat) (l : List Gr) (i : Value) (wr : World) : Prop := ∃ k : Nat, k ≤ 18 ∧ i = .int .i64 ((k : Int) - 1) ∧ GtS w b x l wr
theorem rgr_new (w : World) : RGr (w.alloc (.cells Tryd.zeroCells106 106)) w.heap.size none16 := ⟨by rw [ggr_zero]; exact blk_new _ _, rfl⟩
theorem getE_out (l : List Gr) (p : Int) (h : p < 0 ∨ 16 ≤ p) : getE l p = ({}, false) := by
  unfold getE liveAt
  rw [if_neg (by omega)]
theorem getE_in (l : List Gr) (r : Nat) (hr : r < 16) : getE l (r : Int) = if (l.getD r default).live = true then (l.getD r default, true) else ({}, false) := by
  unfold getE liveAt
  rw [Int.toNat_natCast]
  by_cases h : (l.getD r default).live = true
  · rw [if_pos ⟨by omega, by omega, h⟩, if_pos h]
  · rw [if_neg (fun e => h e.2.2), if_neg h]

set_option maxRecDepth 100000 in
set_option maxHeartbeats 1600000 in
theorem grPlays_many (E : Nat → Addr) (q : Nat) (ao : Option Addr) (c1 : Nat) (frame by_ : Int) (w : World) (hE : ErrsAt errT gOf w E all16) (h : 80 < q) :
    Calls Tryd.prog 14 #[.slice ao q c1, .int .i64 frame, .int .i64 by_] w fun e w' => e = .returned (.bool true) ∧ Below w.heap.size w w' := by
  have HE := Lib.hid hE
  have h1 : (80 : Int) < (q : Int) := by omega
  clear hE h
  go_enter Tryd.func14, Tryd.ntmps14
  go_wp2_with fail
  refine (gr_first E _ HE.out).mono ?_
  rintro e w1 ⟨rfl, hb1⟩
  have HB1 := Lib.hid hb1
  clear hb1
  go_wp2
  go_ret
  exact ⟨rfl, HB1.out⟩
set_option maxRecDepth 100000 in
set_option maxHeartbeats 20000000 in
theorem grPlays_some (E : Nat → Addr) (l : List GDo) (ao : Option Addr) (c1 : Nat) (frame by_ : Int) (w : World) (hE : ErrsAt errT gOf w E all16) (hl : AtL w ao (l.flatMap gdoCells)) (h : ¬ 80 < l.length) :
    Calls Tryd.prog 14 #[.slice ao l.length c1, .int .i64 frame, .int .i64 by_] w fun e w' => e = .returned (.bool true) ∧ Below w.heap.size w w' := by
  have HE := Lib.hid hE
  have HL := Lib.hid hl
  have h1 : ¬ (80 : Int) < (l.length : Int) := by omega
  have hdx : decide ((80 : Int) < (l.length : Int)) = false := by simp; omega
  have hlen : l.length ≤ 80 := by omega
  clear hE hl h
  go_enter Tryd.func14, Tryd.ntmps14
  go_wp2_with fail
  refine (gr_first E _ HE.out).mono ?_
  rintro e w1 ⟨rfl, hb1⟩
  have HB1 := Lib.hid hb1
  clear hb1
  go_wp2_with fail
  have HS0 : Hid (PlaysG l.length w w1.heap.size (w1.heap.size + 1) (.int .i64 0) ((w1.alloc (.cells Tryd.zeroCells59 59)).alloc (.cells Tryd.zeroCells106 106))) := Lib.hid ⟨0, none16, Nat.zero_le _, rfl,
    (gr_new w1).below ((Below.refl _ _).alloc (Nat.le_refl _) _), by
      have := rgr_new (w1.alloc (.cells Tryd.zeroCells59 59))
      simpa using this, by omega, HB1.out.size, by have := HB1.out.size; omega, (HB1.out.alloc HB1.out.size _).alloc (by have := HB1.out.size; simp; omega) _⟩
  have HEK : Hid (∀ wx, Below w.heap.size w wx → ErrsAt errT gOf wx E all16) := Lib.hid fun wx h => HE.out.mono h
  generalize (w1.alloc (.cells Tryd.zeroCells59 59)).alloc (.cells Tryd.zeroCells106 106) = w2 at HS0 ⊢
  generalize hbx : w1.heap.size + 1 = x at HS0 ⊢
  generalize hbb : w1.heap.size = b at HS0 ⊢
  clear hbx hbb HB1 HE
  go_loopw [10] (fun i wr => PlaysG l.length w b x i wr) (fun i _ => l.length - (intOf i).toNat)
  case atStart => exact HS0.out
  case round =>
    obtain ⟨j, m, hj, rfl, ht⟩ := hrel
    have HT := Lib.hid ht
    clear ht HS0
    by_cases hlt : j < l.length
    · have hji : (j : Int) < (l.length : Int) := by omega
      have g0 := rec_get gdoCells 5 gdo_len l j 0 hlt (by decide)
      have g1 := rec_get gdoCells 5 gdo_len l j 1 hlt (by decide)
      have g2 := rec_get gdoCells 5 gdo_len l j 2 hlt (by decide)
      have g3 := rec_get gdoCells 5 gdo_len l j 3 hlt (by decide)
      have g4 := rec_get gdoCells 5 gdo_len l j 4 hlt (by decide)
      obtain ⟨⟨kd, xa, xb, xc, xi⟩, hx⟩ : ∃ x, l.getD j default = x := ⟨_, rfl⟩
      rw [hx] at g0 g1 g2 g3 g4
      obtain ⟨sb, so, rfl, d0, hbl⟩ := HL.out _ _ g0
      obtain ⟨_, _, e1, d1, -⟩ := HL.out _ _ g1
      cases e1
      obtain ⟨_, _, e2, d2, -⟩ := HL.out _ _ g2
      cases e2
      obtain ⟨_, _, e3, d3, -⟩ := HL.out _ _ g3
      cases e3
      obtain ⟨_, _, e4, d4, -⟩ := HL.out _ _ g4
      cases e4
      have c0 := (HT.out.wb.cell (p := ⟨sb, so + (j * 5 + 0), none⟩) hbl).trans d0
      have c1 := (HT.out.wb.cell (p := ⟨sb, so + (j * 5 + 1), none⟩) hbl).trans d1
      have c2 := (HT.out.wb.cell (p := ⟨sb, so + (j * 5 + 2), none⟩) hbl).trans d2
      have c3 := (HT.out.wb.cell (p := ⟨sb, so + (j * 5 + 3), none⟩) hbl).trans d3
      have c4 := (HT.out.wb.cell (p := ⟨sb, so + (j * 5 + 4), none⟩) hbl).trans d4
      rw [Nat.add_zero] at c0
      rw [← Nat.add_assoc] at c1 c2 c3 c4
      clear d0 d1 d2 d3 d4 g0 g1 g2 g3 g4 hx hbl
      go_wp2_with fail
      obtain ⟨wA, hwA⟩ : ∃ wA, wA = wr.alloc (.cells #[.int .i64 kd, .int .i64 xa, .int .i64 xb, .int .i64 xc, .bool xi] 108) := ⟨_, rfl⟩
      have hba : Below wr.heap.size wr wA := hwA ▸ Below.alloc (Below.refl _ _) (Nat.le_refl _) _
      have HTA := Lib.hid (HT.out.below hba)
      have HBLK : Hid (wA.heap[wr.heap.size]? = some (.cells #[.int .i64 kd, .int .i64 xa, .int .i64 xb, .int .i64 xc, .bool xi] 108 (0, 0))) := Lib.hid (hwA ▸ blk_new wr _)
      have HFR : Hid (wr.heap.size ≠ b ∧ wr.heap.size ≠ x) := Lib.hid ⟨by have := blk_lt HT.out.n.1; omega, by have := blk_lt HT.out.r.1; omega⟩
      rw [← hwA]
      obtain ⟨da, hda⟩ : ∃ da, wr.heap.size = da := ⟨_, rfl⟩
      rw [hda] at HBLK HFR ⊢
      clear hwA hba hda c0 c1 c2 c3 c4
      refine (gclone_any m b _ HTA.out.n).mono ?_
      rintro e w2' ⟨rfl, hcn, hb2⟩
      have HT2 := Lib.hid (HTA.out.below hb2)
      have HC2 := Lib.hid hcn
      have HBLK2 := Lib.hid (blk_below HBLK.out hb2 (blk_lt HBLK.out))
      have HFC : Hid (wA.heap.size ≠ b ∧ wA.heap.size ≠ x) := Lib.hid ⟨by have := blk_lt HTA.out.n.1; omega, by have := blk_lt HTA.out.r.1; omega⟩
      obtain ⟨cb, hcb⟩ : ∃ cb, wA.heap.size = cb := ⟨_, rfl⟩
      rw [hcb] at HC2 HFC ⊢
      clear hcn hb2 hcb HBLK HTA HT
      have c1 := blk_cell HBLK2.out 1
      have c1 : w2'.cell? ⟨da, 1, none⟩ = some (.int .i64 xa) := c1
      have HGT : Hid (∀ wx, GAt wx cb m → Calls Tryd.prog 59 #[.pointer (some ⟨cb, 0, none⟩), .int .i64 xa] wx fun e w' => e = .returned (.tuple #[grV (getE m xa).1, .bool (getE m xa).2]) ∧ Below wx.heap.size wx w') := Lib.hid fun wx h => gget_all m cb xa wx h
      obtain ⟨⟨⟨gl, gw, gu, gf, gt⟩, had⟩, hge⟩ : ∃ R, getE m xa = R := ⟨_, rfl⟩
      rw [hge] at HGT
      unfold grV at HGT
      dsimp only at HGT
      have hbb : (had != had) = false := bne_self had
      clear hge
      go_wp2_with fail
      refine (HGT.out _ HC2.out).mono ?_
      rintro e w3 ⟨rfl, hb3⟩
      have HT3 := Lib.hid (HT2.out.below hb3)
      have HC3 := Lib.hid (HC2.out.below hb3)
      have HBLK3 := Lib.hid (blk_below HBLK2.out hb3 (blk_lt HBLK2.out))
      clear hb3 HT2 HC2 HBLK2 c1
      have HA3 : Hid (Below w3.heap.size w3 (w3.alloc (.cells #[.bool gl, .bool gw, .bool gu, .int .i64 gf, .int .i64 gt] 56))) := Lib.hid ((Below.refl _ _).alloc (Nat.le_refl _) _)
      have c0 : (w3.alloc (.cells #[.bool gl, .bool gw, .bool gu, .int .i64 gf, .int .i64 gt] 56)).cell? ⟨da, 0, none⟩ = some (.int .i64 kd) := blk_cell (blk_below HBLK3.out HA3.out (blk_lt HBLK3.out)) 0
      obtain ⟨w4, hw4⟩ : ∃ w4, w4 = w3.alloc (.cells #[.bool gl, .bool gw, .bool gu, .int .i64 gf, .int .i64 gt] 56) := ⟨_, rfl⟩
      rw [← hw4] at HA3
      have HT4 := Lib.hid (HT3.out.below HA3.out)
      have HC4 := Lib.hid (HC3.out.below HA3.out)
      have HBLK4 := Lib.hid (blk_below HBLK3.out HA3.out (blk_lt HBLK3.out))
      have HBG4 : Hid (w4.heap[w3.heap.size]? = some (.cells #[.bool gl, .bool gw, .bool gu, .int .i64 gf, .int .i64 gt] 56 (0, 0))) := Lib.hid (hw4 ▸ blk_new w3 _)
      have HFG : Hid (w3.heap.size ≠ b ∧ w3.heap.size ≠ x) := Lib.hid ⟨by have := blk_lt HT3.out.n.1; omega, by have := blk_lt HT3.out.r.1; omega⟩
      have HKA : Hid (∀ wx, Only (fun k => k = b ∨ k = x) w4 wx → Only (fun k => k = b ∨ k = x) w4 wx ∧ wx.cell? ⟨da, 1, none⟩ = some (.int .i64 xa) ∧ wx.cell? ⟨da, 2, none⟩ = some (.int .i64 xb) ∧ wx.cell? ⟨da, 3, none⟩ = some (.int .i64 xc) ∧ wx.cell? ⟨da, 4, none⟩ = some (.bool xi)) := Lib.hid fun wx h => by
        have hb := h.blk HBLK4.out (fun e => e.elim HFR.out.1 HFR.out.2)
        exact ⟨h, blk_cell hb 1, blk_cell hb 2, blk_cell hb 3, blk_cell hb 4⟩
      obtain ⟨-, c1, c2, c3, c4⟩ := HKA.out _ (Only.refl _ w4)
      have HKG : Hid (∀ wx wy, Only (fun k => k = b ∨ k = x) w4 wx → Below wx.heap.size wx wy → wx.cell? ⟨da, 1, none⟩ = some (.int .i64 xa) ∧ wy.heap[w3.heap.size]? = some (.cells #[.bool gl, .bool gw, .bool gu, .int .i64 gf, .int .i64 gt] 56 (0, 0))) := Lib.hid fun wx wy h hb => by
        have h1 := h.blk HBLK4.out (fun e => e.elim HFR.out.1 HFR.out.2)
        have h2 := h.blk HBG4.out (fun e => e.elim HFG.out.1 HFG.out.2)
        exact ⟨blk_cell h1 1, blk_below h2 hb (blk_lt h2)⟩
      have HTD := Lib.hid (HT4.out.below (Below.refl _ _).drew)
      have hB0 : Only (fun k => k = b ∨ k = x) w4 w4.drew := (Only.refl _ _).drew
      obtain ⟨db, hdb⟩ : ∃ db, w3.heap.size = db := ⟨_, rfl⟩
      have HW4 := Lib.hid hw4
      have HDB := Lib.hid hdb
      clear hw4 hdb
      rcases kinds4 kd with k1 | ⟨k1, k2⟩ | ⟨k1, k2, k3⟩ | ⟨k1, k2, k3⟩
      · as_aux_lemma =>
          have HW1 : Hid (Calls Tryd.prog 33 #[.pointer (some ⟨b, 0, none⟩), .int .i64 xa, .int .i64 xb, .int .i64 xc, .bool xi] w4.drew (OpPost E b (setE m xa xb xc xi) w4.drew)) := Lib.hid (set_all E m b xa xb xc xi _ (HEK.out _ HTD.out.wb) HTD.out.n)
          have HW2 : Hid (∀ w5, RGr w5 x m → Calls Tryd.prog 60 #[.pointer (some ⟨x, 0, none⟩), .int .i64 xa, .int .i64 xb, .int .i64 xc, .bool xi] w5 (ROpPost x (setE m xa xb xc xi) w5)) := Lib.hid fun w5 h => gset_all m x xa xb xc xi w5 h
          have HSM := Lib.hid (setE_small m xa xb xc xi)
          obtain ⟨⟨m', oo⟩, hR⟩ : ∃ R, setE m xa xb xc xi = R := ⟨_, rfl⟩
          rw [hR] at HW1 HW2 HSM
          clear hR
          have HIS : Hid (∀ w6, Only (fun k => k = b ∨ k = x) w4 w6 → Calls Tryd.prog 23 #[errOf E oo, .int .i64 (codeOf oo)] w6 fun e w' => e = .returned (.bool true) ∧ Below w6.heap.size w6 w') := Lib.hid fun w6 h => by
            have := is_any E (errOf E oo) (codeOf oo) (codeOf oo) (errOf_code E oo HSM.out) w6 (HEK.out _ (HT4.out.wb.trans (h.below HT4.out.wb.size (fun k hk => by rcases hk with rfl | rfl; exact HT4.out.hb; exact HT4.out.hx))))
            rwa [decide_eq_true rfl] at this
          go_wp2_with fail
          rw [← HW4.out, HDB.out]
          go_region_held3 (fun wx => Only (fun k => k = b ∨ k = x) w4 wx ∧ wx.cell? ⟨da, 1, none⟩ = some (.int .i64 xa) ∧ wx.cell? ⟨da, 2, none⟩ = some (.int .i64 xb) ∧ wx.cell? ⟨da, 3, none⟩ = some (.int .i64 xc) ∧ wx.cell? ⟨da, 4, none⟩ = some (.bool xi)) (first | exact HKA.out _ (by assumption))
            (first
              | (go_at_call 33; refine HW1.out.mono ?_; rintro e w5 ⟨rfl, hn5, ho5⟩; have hr5 := HTD.out.first ho5; have hB5 : Only (fun k => k = b ∨ k = x) w4 w5 := hB0.trans (ho5.mono fun k hk => .inl (.inl hk)))
              | (go_at_call 60; refine (HW2.out w5 hr5).mono ?_; rintro e w6 ⟨rfl, hr6, ho6⟩; have hB6 : Only (fun k => k = b ∨ k = x) w4 w6 := hB5.trans (ho6.mono fun k hk => .inl (.inr hk)))
              | (go_at_call 23; refine (HIS.out _ hB6).mono ?_; rintro e w7 ⟨rfl, hb7⟩; have hB7 : Only (fun k => k = b ∨ k = x) w4 w7 := hB6.below' hb7))
          have HT7 := Lib.hid ((HTD.out.step hn5 ho5 hr6 ho6).below hb7)
          have HC7 := Lib.hid (((((HC4.out.below (Below.refl _ _).drew).only ho5 HFC.out.1).only ho6 HFC.out.2)).below hb7)
          clear hn5 ho5 hB5 hr5 hr6 ho6 hB6 hb7 hB0 c0 c1 c2 c3 c4
          obtain ⟨c1, -⟩ := HKG.out w7 w7 hB7 (Below.refl _ _)
          have HB7 := Lib.hid hB7
          clear hB7
          go_wp2_with fail
          refine (HGT.out _ HC7.out).mono ?_
          rintro e w8 ⟨rfl, hb8⟩
          have HT8 := Lib.hid (HT7.out.below hb8)
          obtain ⟨-, hg8⟩ := HKG.out w7 w8 HB7.out hb8
          rw [HDB.out] at hg8
          have a0 := blk_cell hg8 0
          have a1 := blk_cell hg8 1
          have a2 := blk_cell hg8 2
          have a3 := blk_cell hg8 3
          have a4 := blk_cell hg8 4
          have hlt8 := blk_lt hg8
          have a0 : w8.cell? ⟨db, 0, none⟩ = some (.bool gl) := a0
          have a1 : w8.cell? ⟨db, 1, none⟩ = some (.bool gw) := a1
          have a2 : w8.cell? ⟨db, 2, none⟩ = some (.bool gu) := a2
          have a3 : w8.cell? ⟨db, 3, none⟩ = some (.int .i64 gf) := a3
          have a4 : w8.cell? ⟨db, 4, none⟩ = some (.int .i64 gt) := a4
          clear hb8 hg8
          go_wp2_with fail
          refine (sameGrant_refl gl gw gu gf gt _).mono ?_
          rintro e w9 ⟨rfl, hb9⟩
          have HT9 := Lib.hid (HT8.out.below (((Below.refl _ _).alloc (Nat.le_refl _) _).trans (hb9.mono (by simp))))
          have HS3 : Hid (LooksG w b x m' (.int .i64 (-1)) w9) := Lib.hid ⟨0, Nat.zero_le _, rfl, HT9.out⟩
          clear hb9 a0 a1 a2 a3 a4 c1 hlt8 HT8 HT7 HC7 HB7 HKA HKG HTD HFR HFC HFG HBLK3 HBLK4 HBG4 HT3 HT4 HC3 HC4 HA3 HGT
          go_wp2_with fail
          go_loopw [23] (fun i wr => LooksG w b x m' i wr) (fun i _ => 18 - (intOf i + 1).toNat)
          case atStart => exact HS3.out
          case round =>
            obtain ⟨k, hk, rfl, ht⟩ := hrel
            have HT := Lib.hid ht
            clear ht HS3
            have hc : k = 0 ∨ (∃ r, r < 16 ∧ k = r + 1) ∨ k = 17 ∨ k = 18 := by
              by_cases h0 : k = 0
              · exact .inl h0
              · by_cases h1 : k ≤ 16
                · exact .inr (.inl ⟨k - 1, by omega, by omega⟩)
                · by_cases h2 : k = 17
                  · exact .inr (.inr (.inl h2))
                  · exact .inr (.inr (.inr (by omega)))
            have HE1 : Hid (∀ p : Int, (p < 0 ∨ 16 ≤ p) → ∀ wx, GAt wx b m' → Calls Tryd.prog 59 #[.pointer (some ⟨b, 0, none⟩), .int .i64 p] wx fun e w' => e = .returned (.tuple #[.agg #[.bool false, .bool false, .bool false, .int .i64 0, .int .i64 0], .bool false]) ∧ Below wx.heap.size wx w') := Lib.hid fun p hp wx hn => by
              have := gget_all m' b p wx hn
              rw [getE_out m' p hp] at this
              exact this
            rcases hc with rfl | ⟨r, hr, rfl⟩ | rfl | rfl
            · rw [show ((0 : Nat) : Int) - 1 = -1 from rfl]
              go_wp2_with fail
              refine (HE1.out (-1) (by decide) _ HT.out.n).mono ?_
              rintro e w3' ⟨rfl, hb3⟩
              have HT3 : Hid (∀ X, GtS w b x m' (w3'.alloc X)) := Lib.hid fun X => (HT.out.below hb3).below ((Below.refl _ _).alloc (Nat.le_refl _) _)
              clear hb3
              go_wp2_with fail
              go_quiet (fail)
              go_wp2
              go_roundw
              case rel => exact ⟨1, by omega, rfl, (HT3.out _).below (below_drewN (Below.refl _ _) _)⟩
              case measure => simp [intOf]
            · rw [show ((r + 1 : Nat) : Int) - 1 = (r : Int) by omega]
              have hri : (r : Int) < 16 := by omega
              have hri' : (r : Int) ≤ 16 := by omega
              have HGR : Hid (∀ wx, GAt wx b m' → Calls Tryd.prog 59 #[.pointer (some ⟨b, 0, none⟩), .int .i64 r] wx fun e w' => e = .returned (.tuple #[grV (if (m'.getD r default).live = true then (m'.getD r default, true) else (({} : Gr), false)).1, .bool (if (m'.getD r default).live = true then (m'.getD r default, true) else (({} : Gr), false)).2]) ∧ Below wx.heap.size wx w') := Lib.hid fun wx hn => by
                have := gget_all m' b r wx hn
                rwa [getE_in m' r hr] at this
              have HCC : Hid (∀ wx, RGr wx x m' → wx.cell? ⟨x, r * 5, none⟩ = some (.bool (m'.getD r default).live) ∧ wx.cell? ⟨x, r * 5 + 1, none⟩ = some (.bool (m'.getD r default).w) ∧ wx.cell? ⟨x, r * 5 + 2, none⟩ = some (.bool (m'.getD r default).used) ∧ wx.cell? ⟨x, r * 5 + 3, none⟩ = some (.int .i64 (m'.getD r default).frame) ∧ wx.cell? ⟨x, r * 5 + 4, none⟩ = some (.int .i64 (m'.getD r default).to_)) := Lib.hid fun wx hn => hn.cells r hr
              obtain ⟨⟨v0, v1, v2, v3, v4⟩, hv⟩ : ∃ v, m'.getD r default = v := ⟨_, rfl⟩
              rw [hv] at HGR HCC
              clear hv
              unfold grV at HGR
              dsimp only at HGR HCC
              cases v0
              · have HGR' : Hid (∀ wx, GAt wx b m' → Calls Tryd.prog 59 #[.pointer (some ⟨b, 0, none⟩), .int .i64 r] wx fun e w' => e = .returned (.tuple #[.agg #[.bool false, .bool false, .bool false, .int .i64 0, .int .i64 0], .bool false]) ∧ Below wx.heap.size wx w') := HGR
                go_wp2_with fail
                refine (HGR'.out _ HT.out.n).mono ?_
                rintro e w3' ⟨rfl, hb3⟩
                have HT3 : Hid (∀ X, GtS w b x m' (w3'.alloc X)) := Lib.hid fun X => (HT.out.below hb3).below ((Below.refl _ _).alloc (Nat.le_refl _) _)
                have hxb : x < w3'.heap.size := blk_lt (HT.out.below hb3).r.1
                obtain ⟨c0, -, -, -, -⟩ := HCC.out _ (HT.out.below hb3).r
                clear hb3 HGR
                go_wp2_with fail
                go_quiet (fail)
                go_wp2
                go_roundw
                case rel => exact ⟨r + 2, by omega, by go_num, (HT3.out _).below (below_drewN (Below.refl _ _) _)⟩
                case measure => simp [intOf]; omega
              · have HGR' : Hid (∀ wx, GAt wx b m' → Calls Tryd.prog 59 #[.pointer (some ⟨b, 0, none⟩), .int .i64 r] wx fun e w' => e = .returned (.tuple #[.agg #[.bool true, .bool v1, .bool v2, .int .i64 v3, .int .i64 v4], .bool true]) ∧ Below wx.heap.size wx w') := HGR
                go_wp2_with fail
                refine (HGR'.out _ HT.out.n).mono ?_
                rintro e w3' ⟨rfl, hb3⟩
                have HT3 := Lib.hid (HT.out.below hb3)
                obtain ⟨c0, -, -, -, -⟩ := HCC.out _ (HT.out.below hb3).r
                have hxb : x < w3'.heap.size := blk_lt (HT.out.below hb3).r.1
                clear hb3 HGR
                go_wp2_with fail
                obtain ⟨wA', hwA⟩ : ∃ wA, wA = w3'.alloc (.cells #[.bool true, .bool v1, .bool v2, .int .i64 v3, .int .i64 v4] 56) := ⟨_, rfl⟩
                have hba : Below w3'.heap.size w3' wA' := hwA ▸ Below.alloc (Below.refl _ _) (Nat.le_refl _) _
                have HTA := Lib.hid (HT3.out.below hba)
                have HBLK : Hid (wA'.heap[w3'.heap.size]? = some (.cells #[.bool true, .bool v1, .bool v2, .int .i64 v3, .int .i64 v4] 56 (0, 0))) := Lib.hid (hwA ▸ blk_new w3' _)
                rw [← hwA]
                obtain ⟨dc, hdc⟩ : ∃ da, w3'.heap.size = da := ⟨_, rfl⟩
                rw [hdc] at HBLK hxb ⊢
                clear hwA hba hdc c0
                have HKB : Hid (∀ wx, Below wA'.heap.size wA' wx → Below wA'.heap.size wA' wx ∧ wx.cell? ⟨dc, 0, none⟩ = some (.bool true) ∧ wx.cell? ⟨dc, 1, none⟩ = some (.bool v1) ∧ wx.cell? ⟨dc, 2, none⟩ = some (.bool v2) ∧ wx.cell? ⟨dc, 3, none⟩ = some (.int .i64 v3) ∧ wx.cell? ⟨dc, 4, none⟩ = some (.int .i64 v4) ∧
                    wx.cell? ⟨x, r * 5, none⟩ = some (.bool true) ∧ wx.cell? ⟨x, r * 5 + 1, none⟩ = some (.bool v1) ∧ wx.cell? ⟨x, r * 5 + 2, none⟩ = some (.bool v2) ∧ wx.cell? ⟨x, r * 5 + 3, none⟩ = some (.int .i64 v3) ∧ wx.cell? ⟨x, r * 5 + 4, none⟩ = some (.int .i64 v4)) := Lib.hid fun wx h => by
                  have hb := blk_below HBLK.out h (blk_lt HBLK.out)
                  obtain ⟨q0, q1, q2, q3, q4⟩ := HCC.out _ (HTA.out.r.below h)
                  exact ⟨h, blk_cell hb 0, blk_cell hb 1, blk_cell hb 2, blk_cell hb 3, blk_cell hb 4, q0, q1, q2, q3, q4⟩
                obtain ⟨-, a0, a1, a2, a3, a4, q0, q1, q2, q3, q4⟩ := HKB.out _ (Below.refl _ wA')
                have hB0 : Below wA'.heap.size wA' wA'.drew := (Below.refl _ _).drew
                go_region_held3 (fun wx => Below wA'.heap.size wA' wx ∧ wx.cell? ⟨dc, 0, none⟩ = some (.bool true) ∧ wx.cell? ⟨dc, 1, none⟩ = some (.bool v1) ∧ wx.cell? ⟨dc, 2, none⟩ = some (.bool v2) ∧ wx.cell? ⟨dc, 3, none⟩ = some (.int .i64 v3) ∧ wx.cell? ⟨dc, 4, none⟩ = some (.int .i64 v4) ∧
                    wx.cell? ⟨x, r * 5, none⟩ = some (.bool true) ∧ wx.cell? ⟨x, r * 5 + 1, none⟩ = some (.bool v1) ∧ wx.cell? ⟨x, r * 5 + 2, none⟩ = some (.bool v2) ∧ wx.cell? ⟨x, r * 5 + 3, none⟩ = some (.int .i64 v3) ∧ wx.cell? ⟨x, r * 5 + 4, none⟩ = some (.int .i64 v4)) (first | exact HKB.out _ (by assumption))
                  (first
                    | (go_at_call 64; refine (sameGrant_refl true v1 v2 v3 v4 _).mono ?_; rintro e w5 ⟨rfl, hb5⟩; have hB5 : Below wA'.heap.size wA' w5 := hB0.trans (hb5.mono hB0.size)))
                have HT5 := Lib.hid (HTA.out.below hB5)
                clear hB0 hB5 hb5 a0 a1 a2 a3 a4 q0 q1 q2 q3 q4
                go_wp2
                go_roundw
                case rel => exact ⟨r + 2, by omega, by go_num, HT5.out⟩
                case measure => simp [intOf]; omega
            · rw [show ((17 : Nat) : Int) - 1 = 16 from rfl]
              go_wp2_with fail
              refine (HE1.out 16 (by decide) _ HT.out.n).mono ?_
              rintro e w3' ⟨rfl, hb3⟩
              have HT3 : Hid (∀ X, GtS w b x m' (w3'.alloc X)) := Lib.hid fun X => (HT.out.below hb3).below ((Below.refl _ _).alloc (Nat.le_refl _) _)
              clear hb3
              go_wp2_with fail
              go_quiet (fail)
              go_wp2
              go_roundw
              case rel => exact ⟨18, by omega, rfl, (HT3.out _).below (below_drewN (Below.refl _ _) _)⟩
              case measure => simp [intOf]
            · rw [show ((18 : Nat) : Int) - 1 = 17 from rfl]
              go_wp2
              go_roundw
              case rel => exact ⟨j + 1, m', by omega, by go_num, HT.out⟩
              case measure => simp [intOf]; omega
      · as_aux_lemma =>
          have HW1 : Hid (Calls Tryd.prog 50 #[.pointer (some ⟨b, 0, none⟩), .int .i64 xa] w4.drew (OpPost E b (revE m xa) w4.drew)) := Lib.hid (rev_all E m b xa _ (HEK.out _ HTD.out.wb) HTD.out.n)
          have HW2 : Hid (∀ w5, RGr w5 x m → Calls Tryd.prog 61 #[.pointer (some ⟨x, 0, none⟩), .int .i64 xa] w5 (ROpPost x (revE m xa) w5)) := Lib.hid fun w5 h => grev_all m x xa w5 h
          have HSM := Lib.hid (revE_small m xa)
          obtain ⟨⟨m', oo⟩, hR⟩ : ∃ R, revE m xa = R := ⟨_, rfl⟩
          rw [hR] at HW1 HW2 HSM
          clear hR
          have HIS : Hid (∀ w6, Only (fun k => k = b ∨ k = x) w4 w6 → Calls Tryd.prog 23 #[errOf E oo, .int .i64 (codeOf oo)] w6 fun e w' => e = .returned (.bool true) ∧ Below w6.heap.size w6 w') := Lib.hid fun w6 h => by
            have := is_any E (errOf E oo) (codeOf oo) (codeOf oo) (errOf_code E oo HSM.out) w6 (HEK.out _ (HT4.out.wb.trans (h.below HT4.out.wb.size (fun k hk => by rcases hk with rfl | rfl; exact HT4.out.hb; exact HT4.out.hx))))
            rwa [decide_eq_true rfl] at this
          go_wp2_with fail
          rw [← HW4.out, HDB.out]
          go_region_held3 (fun wx => Only (fun k => k = b ∨ k = x) w4 wx ∧ wx.cell? ⟨da, 1, none⟩ = some (.int .i64 xa) ∧ wx.cell? ⟨da, 2, none⟩ = some (.int .i64 xb) ∧ wx.cell? ⟨da, 3, none⟩ = some (.int .i64 xc) ∧ wx.cell? ⟨da, 4, none⟩ = some (.bool xi)) (first | exact HKA.out _ (by assumption))
            (first
              | (go_at_call 50; refine HW1.out.mono ?_; rintro e w5 ⟨rfl, hn5, ho5⟩; have hr5 := HTD.out.first ho5; have hB5 : Only (fun k => k = b ∨ k = x) w4 w5 := hB0.trans (ho5.mono fun k hk => .inl (.inl hk)))
              | (go_at_call 61; refine (HW2.out w5 hr5).mono ?_; rintro e w6 ⟨rfl, hr6, ho6⟩; have hB6 : Only (fun k => k = b ∨ k = x) w4 w6 := hB5.trans (ho6.mono fun k hk => .inl (.inr hk)))
              | (go_at_call 23; refine (HIS.out _ hB6).mono ?_; rintro e w7 ⟨rfl, hb7⟩; have hB7 : Only (fun k => k = b ∨ k = x) w4 w7 := hB6.below' hb7))
          have HT7 := Lib.hid ((HTD.out.step hn5 ho5 hr6 ho6).below hb7)
          have HC7 := Lib.hid (((((HC4.out.below (Below.refl _ _).drew).only ho5 HFC.out.1).only ho6 HFC.out.2)).below hb7)
          clear hn5 ho5 hB5 hr5 hr6 ho6 hB6 hb7 hB0 c0 c1 c2 c3 c4
          obtain ⟨c1, -⟩ := HKG.out w7 w7 hB7 (Below.refl _ _)
          have HB7 := Lib.hid hB7
          clear hB7
          go_wp2_with fail
          refine (HGT.out _ HC7.out).mono ?_
          rintro e w8 ⟨rfl, hb8⟩
          have HT8 := Lib.hid (HT7.out.below hb8)
          obtain ⟨-, hg8⟩ := HKG.out w7 w8 HB7.out hb8
          rw [HDB.out] at hg8
          have a0 := blk_cell hg8 0
          have a1 := blk_cell hg8 1
          have a2 := blk_cell hg8 2
          have a3 := blk_cell hg8 3
          have a4 := blk_cell hg8 4
          have hlt8 := blk_lt hg8
          have a0 : w8.cell? ⟨db, 0, none⟩ = some (.bool gl) := a0
          have a1 : w8.cell? ⟨db, 1, none⟩ = some (.bool gw) := a1
          have a2 : w8.cell? ⟨db, 2, none⟩ = some (.bool gu) := a2
          have a3 : w8.cell? ⟨db, 3, none⟩ = some (.int .i64 gf) := a3
          have a4 : w8.cell? ⟨db, 4, none⟩ = some (.int .i64 gt) := a4
          clear hb8 hg8
          go_wp2_with fail
          refine (sameGrant_refl gl gw gu gf gt _).mono ?_
          rintro e w9 ⟨rfl, hb9⟩
          have HT9 := Lib.hid (HT8.out.below (((Below.refl _ _).alloc (Nat.le_refl _) _).trans (hb9.mono (by simp))))
          have HS3 : Hid (LooksG w b x m' (.int .i64 (-1)) w9) := Lib.hid ⟨0, Nat.zero_le _, rfl, HT9.out⟩
          clear hb9 a0 a1 a2 a3 a4 c1 hlt8 HT8 HT7 HC7 HB7 HKA HKG HTD HFR HFC HFG HBLK3 HBLK4 HBG4 HT3 HT4 HC3 HC4 HA3 HGT
          go_wp2_with fail
          go_loopw [23] (fun i wr => LooksG w b x m' i wr) (fun i _ => 18 - (intOf i + 1).toNat)
          case atStart => exact HS3.out
          case round =>
            obtain ⟨k, hk, rfl, ht⟩ := hrel
            have HT := Lib.hid ht
            clear ht HS3
            have hc : k = 0 ∨ (∃ r, r < 16 ∧ k = r + 1) ∨ k = 17 ∨ k = 18 := by
              by_cases h0 : k = 0
              · exact .inl h0
              · by_cases h1 : k ≤ 16
                · exact .inr (.inl ⟨k - 1, by omega, by omega⟩)
                · by_cases h2 : k = 17
                  · exact .inr (.inr (.inl h2))
                  · exact .inr (.inr (.inr (by omega)))
            have HE1 : Hid (∀ p : Int, (p < 0 ∨ 16 ≤ p) → ∀ wx, GAt wx b m' → Calls Tryd.prog 59 #[.pointer (some ⟨b, 0, none⟩), .int .i64 p] wx fun e w' => e = .returned (.tuple #[.agg #[.bool false, .bool false, .bool false, .int .i64 0, .int .i64 0], .bool false]) ∧ Below wx.heap.size wx w') := Lib.hid fun p hp wx hn => by
              have := gget_all m' b p wx hn
              rw [getE_out m' p hp] at this
              exact this
            rcases hc with rfl | ⟨r, hr, rfl⟩ | rfl | rfl
            · rw [show ((0 : Nat) : Int) - 1 = -1 from rfl]
              go_wp2_with fail
              refine (HE1.out (-1) (by decide) _ HT.out.n).mono ?_
              rintro e w3' ⟨rfl, hb3⟩
              have HT3 : Hid (∀ X, GtS w b x m' (w3'.alloc X)) := Lib.hid fun X => (HT.out.below hb3).below ((Below.refl _ _).alloc (Nat.le_refl _) _)
              clear hb3
              go_wp2_with fail
              go_quiet (fail)
              go_wp2
              go_roundw
              case rel => exact ⟨1, by omega, rfl, (HT3.out _).below (below_drewN (Below.refl _ _) _)⟩
              case measure => simp [intOf]
            · rw [show ((r + 1 : Nat) : Int) - 1 = (r : Int) by omega]
              have hri : (r : Int) < 16 := by omega
              have hri' : (r : Int) ≤ 16 := by omega
              have HGR : Hid (∀ wx, GAt wx b m' → Calls Tryd.prog 59 #[.pointer (some ⟨b, 0, none⟩), .int .i64 r] wx fun e w' => e = .returned (.tuple #[grV (if (m'.getD r default).live = true then (m'.getD r default, true) else (({} : Gr), false)).1, .bool (if (m'.getD r default).live = true then (m'.getD r default, true) else (({} : Gr), false)).2]) ∧ Below wx.heap.size wx w') := Lib.hid fun wx hn => by
                have := gget_all m' b r wx hn
                rwa [getE_in m' r hr] at this
              have HCC : Hid (∀ wx, RGr wx x m' → wx.cell? ⟨x, r * 5, none⟩ = some (.bool (m'.getD r default).live) ∧ wx.cell? ⟨x, r * 5 + 1, none⟩ = some (.bool (m'.getD r default).w) ∧ wx.cell? ⟨x, r * 5 + 2, none⟩ = some (.bool (m'.getD r default).used) ∧ wx.cell? ⟨x, r * 5 + 3, none⟩ = some (.int .i64 (m'.getD r default).frame) ∧ wx.cell? ⟨x, r * 5 + 4, none⟩ = some (.int .i64 (m'.getD r default).to_)) := Lib.hid fun wx hn => hn.cells r hr
              obtain ⟨⟨v0, v1, v2, v3, v4⟩, hv⟩ : ∃ v, m'.getD r default = v := ⟨_, rfl⟩
              rw [hv] at HGR HCC
              clear hv
              unfold grV at HGR
              dsimp only at HGR HCC
              cases v0
              · have HGR' : Hid (∀ wx, GAt wx b m' → Calls Tryd.prog 59 #[.pointer (some ⟨b, 0, none⟩), .int .i64 r] wx fun e w' => e = .returned (.tuple #[.agg #[.bool false, .bool false, .bool false, .int .i64 0, .int .i64 0], .bool false]) ∧ Below wx.heap.size wx w') := HGR
                go_wp2_with fail
                refine (HGR'.out _ HT.out.n).mono ?_
                rintro e w3' ⟨rfl, hb3⟩
                have HT3 : Hid (∀ X, GtS w b x m' (w3'.alloc X)) := Lib.hid fun X => (HT.out.below hb3).below ((Below.refl _ _).alloc (Nat.le_refl _) _)
                have hxb : x < w3'.heap.size := blk_lt (HT.out.below hb3).r.1
                obtain ⟨c0, -, -, -, -⟩ := HCC.out _ (HT.out.below hb3).r
                clear hb3 HGR
                go_wp2_with fail
                go_quiet (fail)
                go_wp2
                go_roundw
                case rel => exact ⟨r + 2, by omega, by go_num, (HT3.out _).below (below_drewN (Below.refl _ _) _)⟩
                case measure => simp [intOf]; omega
              · have HGR' : Hid (∀ wx, GAt wx b m' → Calls Tryd.prog 59 #[.pointer (some ⟨b, 0, none⟩), .int .i64 r] wx fun e w' => e = .returned (.tuple #[.agg #[.bool true, .bool v1, .bool v2, .int .i64 v3, .int .i64 v4], .bool true]) ∧ Below wx.heap.size wx w') := HGR
                go_wp2_with fail
                refine (HGR'.out _ HT.out.n).mono ?_
                rintro e w3' ⟨rfl, hb3⟩
                have HT3 := Lib.hid (HT.out.below hb3)
                obtain ⟨c0, -, -, -, -⟩ := HCC.out _ (HT.out.below hb3).r
                have hxb : x < w3'.heap.size := blk_lt (HT.out.below hb3).r.1
                clear hb3 HGR
                go_wp2_with fail
                obtain ⟨wA', hwA⟩ : ∃ wA, wA = w3'.alloc (.cells #[.bool true, .bool v1, .bool v2, .int .i64 v3, .int .i64 v4] 56) := ⟨_, rfl⟩
                have hba : Below w3'.heap.size w3' wA' := hwA ▸ Below.alloc (Below.refl _ _) (Nat.le_refl _) _
                have HTA := Lib.hid (HT3.out.below hba)
                have HBLK : Hid (wA'.heap[w3'.heap.size]? = some (.cells #[.bool true, .bool v1, .bool v2, .int .i64 v3, .int .i64 v4] 56 (0, 0))) := Lib.hid (hwA ▸ blk_new w3' _)
                rw [← hwA]
                obtain ⟨dc, hdc⟩ : ∃ da, w3'.heap.size = da := ⟨_, rfl⟩
                rw [hdc] at HBLK hxb ⊢
                clear hwA hba hdc c0
                have HKB : Hid (∀ wx, Below wA'.heap.size wA' wx → Below wA'.heap.size wA' wx ∧ wx.cell? ⟨dc, 0, none⟩ = some (.bool true) ∧ wx.cell? ⟨dc, 1, none⟩ = some (.bool v1) ∧ wx.cell? ⟨dc, 2, none⟩ = some (.bool v2) ∧ wx.cell? ⟨dc, 3, none⟩ = some (.int .i64 v3) ∧ wx.cell? ⟨dc, 4, none⟩ = some (.int .i64 v4) ∧
                    wx.cell? ⟨x, r * 5, none⟩ = some (.bool true) ∧ wx.cell? ⟨x, r * 5 + 1, none⟩ = some (.bool v1) ∧ wx.cell? ⟨x, r * 5 + 2, none⟩ = some (.bool v2) ∧ wx.cell? ⟨x, r * 5 + 3, none⟩ = some (.int .i64 v3) ∧ wx.cell? ⟨x, r * 5 + 4, none⟩ = some (.int .i64 v4)) := Lib.hid fun wx h => by
                  have hb := blk_below HBLK.out h (blk_lt HBLK.out)
                  obtain ⟨q0, q1, q2, q3, q4⟩ := HCC.out _ (HTA.out.r.below h)
                  exact ⟨h, blk_cell hb 0, blk_cell hb 1, blk_cell hb 2, blk_cell hb 3, blk_cell hb 4, q0, q1, q2, q3, q4⟩
                obtain ⟨-, a0, a1, a2, a3, a4, q0, q1, q2, q3, q4⟩ := HKB.out _ (Below.refl _ wA')
                have hB0 : Below wA'.heap.size wA' wA'.drew := (Below.refl _ _).drew
                go_region_held3 (fun wx => Below wA'.heap.size wA' wx ∧ wx.cell? ⟨dc, 0, none⟩ = some (.bool true) ∧ wx.cell? ⟨dc, 1, none⟩ = some (.bool v1) ∧ wx.cell? ⟨dc, 2, none⟩ = some (.bool v2) ∧ wx.cell? ⟨dc, 3, none⟩ = some (.int .i64 v3) ∧ wx.cell? ⟨dc, 4, none⟩ = some (.int .i64 v4) ∧
                    wx.cell? ⟨x, r * 5, none⟩ = some (.bool true) ∧ wx.cell? ⟨x, r * 5 + 1, none⟩ = some (.bool v1) ∧ wx.cell? ⟨x, r * 5 + 2, none⟩ = some (.bool v2) ∧ wx.cell? ⟨x, r * 5 + 3, none⟩ = some (.int .i64 v3) ∧ wx.cell? ⟨x, r * 5 + 4, none⟩ = some (.int .i64 v4)) (first | exact HKB.out _ (by assumption))
                  (first
                    | (go_at_call 64; refine (sameGrant_refl true v1 v2 v3 v4 _).mono ?_; rintro e w5 ⟨rfl, hb5⟩; have hB5 : Below wA'.heap.size wA' w5 := hB0.trans (hb5.mono hB0.size)))
                have HT5 := Lib.hid (HTA.out.below hB5)
                clear hB0 hB5 hb5 a0 a1 a2 a3 a4 q0 q1 q2 q3 q4
                go_wp2
                go_roundw
                case rel => exact ⟨r + 2, by omega, by go_num, HT5.out⟩
                case measure => simp [intOf]; omega
            · rw [show ((17 : Nat) : Int) - 1 = 16 from rfl]
              go_wp2_with fail
              refine (HE1.out 16 (by decide) _ HT.out.n).mono ?_
              rintro e w3' ⟨rfl, hb3⟩
              have HT3 : Hid (∀ X, GtS w b x m' (w3'.alloc X)) := Lib.hid fun X => (HT.out.below hb3).below ((Below.refl _ _).alloc (Nat.le_refl _) _)
              clear hb3
              go_wp2_with fail
              go_quiet (fail)
              go_wp2
              go_roundw
              case rel => exact ⟨18, by omega, rfl, (HT3.out _).below (below_drewN (Below.refl _ _) _)⟩
              case measure => simp [intOf]
            · rw [show ((18 : Nat) : Int) - 1 = 17 from rfl]
              go_wp2
              go_roundw
              case rel => exact ⟨j + 1, m', by omega, by go_num, HT.out⟩
              case measure => simp [intOf]; omega
      · as_aux_lemma =>
          have HW1 : Hid (Calls Tryd.prog 34 #[.pointer (some ⟨b, 0, none⟩), .int .i64 xa, .int .i64 xb] w4 (MPost E b (mapE m xa xb) w4)) := Lib.hid (map_all E m b xa xb _ (HEK.out _ HT4.out.wb) HT4.out.n)
          have HW2 : Hid (∀ w5, RGr w5 x m → Calls Tryd.prog 62 #[.pointer (some ⟨x, 0, none⟩), .int .i64 xa, .int .i64 xb] w5 (RMPost x (mapE m xa xb) w5)) := Lib.hid fun w5 h => gmap_all m x xa xb w5 h
          have HSM := Lib.hid (mapE_small m xa xb)
          obtain ⟨⟨m', oo, fr, wt⟩, hR⟩ : ∃ R, mapE m xa xb = R := ⟨_, rfl⟩
          rw [hR] at HW1 HW2 HSM
          clear hR
          have HIS : Hid (∀ w6, Only (fun k => k = b ∨ k = x) w4 w6 → Calls Tryd.prog 23 #[errOf E oo, .int .i64 (codeOf oo)] w6 fun e w' => e = .returned (.bool true) ∧ Below w6.heap.size w6 w') := Lib.hid fun w6 h => by
            have := is_any E (errOf E oo) (codeOf oo) (codeOf oo) (errOf_code E oo HSM.out) w6 (HEK.out _ (HT4.out.wb.trans (h.below HT4.out.wb.size (fun k hk => by rcases hk with rfl | rfl; exact HT4.out.hb; exact HT4.out.hx))))
            rwa [decide_eq_true rfl] at this
          have hbw : (wt != wt) = false := bne_self wt
          rw [HW4.out] at c1 c2
          go_wp2_with fail
          rw [← HW4.out, HDB.out]
          rw [← HW4.out] at c1 c2
          refine HW1.out.mono ?_
          rintro e w5 ⟨rfl, hn5, ho5⟩
          have hB5 : Only (fun k => k = b ∨ k = x) w4 w5 := (Only.refl _ _).trans (ho5.mono fun k hk => .inl (.inl hk))
          have HB5 := Lib.hid hB5
          have HR5 := Lib.hid (HT4.out.first ho5)
          have HN5 := Lib.hid hn5
          have HO5 := Lib.hid ho5
          clear hn5 ho5 hB5 c0 c1 c2 c3 c4 hB0
          obtain ⟨-, c1, c2, -, -⟩ := HKA.out _ HB5.out
          dsimp only
          go_wp2_with fail
          refine (HW2.out _ HR5.out).mono ?_
          rintro e w6 ⟨rfl, hr6, ho6⟩
          have HB6 := Lib.hid (HB5.out.trans (ho6.mono fun k hk => .inl (.inr hk) : Only (fun k => k = b ∨ k = x) w5 w6))
          have HT6 := Lib.hid (HT4.out.step HN5.out HO5.out hr6 ho6)
          have HC6 := Lib.hid ((HC4.out.only HO5.out HFC.out.1).only ho6 HFC.out.2)
          clear hr6 ho6 c1 c2
          dsimp only
          go_wp2_with fail
          refine (HIS.out _ HB6.out).mono ?_
          rintro e w7 ⟨rfl, hb7⟩
          have HT7 := Lib.hid (HT6.out.below hb7)
          have HC7 := Lib.hid (HC6.out.below hb7)
          have hB7 := HB6.out.below' hb7
          clear hb7 HT6 HC6 HB6
          obtain ⟨c1, -⟩ := HKG.out w7 w7 hB7 (Below.refl _ _)
          have HB7 := Lib.hid hB7
          clear hB7
          go_wp2_with fail
          refine (HGT.out _ HC7.out).mono ?_
          rintro e w8 ⟨rfl, hb8⟩
          have HT8 := Lib.hid (HT7.out.below hb8)
          obtain ⟨-, hg8⟩ := HKG.out w7 w8 HB7.out hb8
          rw [HDB.out] at hg8
          have a0 := blk_cell hg8 0
          have a1 := blk_cell hg8 1
          have a2 := blk_cell hg8 2
          have a3 := blk_cell hg8 3
          have a4 := blk_cell hg8 4
          have hlt8 := blk_lt hg8
          have a0 : w8.cell? ⟨db, 0, none⟩ = some (.bool gl) := a0
          have a1 : w8.cell? ⟨db, 1, none⟩ = some (.bool gw) := a1
          have a2 : w8.cell? ⟨db, 2, none⟩ = some (.bool gu) := a2
          have a3 : w8.cell? ⟨db, 3, none⟩ = some (.int .i64 gf) := a3
          have a4 : w8.cell? ⟨db, 4, none⟩ = some (.int .i64 gt) := a4
          clear hb8 hg8
          go_wp2_with fail
          refine (sameGrant_refl gl gw gu gf gt _).mono ?_
          rintro e w9 ⟨rfl, hb9⟩
          have HT9 := Lib.hid (HT8.out.below (((Below.refl _ _).alloc (Nat.le_refl _) _).trans (hb9.mono (by simp))))
          have HS3 : Hid (LooksG w b x m' (.int .i64 (-1)) w9) := Lib.hid ⟨0, Nat.zero_le _, rfl, HT9.out⟩
          clear hb9 a0 a1 a2 a3 a4 c1 hlt8 HT8 HT7 HC7 HB7 HKA HKG HTD HFR HFC HFG HBLK3 HBLK4 HBG4 HT3 HT4 HC3 HC4 HA3 HGT
          go_wp2_with fail
          go_loopw [23] (fun i wr => LooksG w b x m' i wr) (fun i _ => 18 - (intOf i + 1).toNat)
          case atStart => exact HS3.out
          case round =>
            obtain ⟨k, hk, rfl, ht⟩ := hrel
            have HT := Lib.hid ht
            clear ht HS3
            have hc : k = 0 ∨ (∃ r, r < 16 ∧ k = r + 1) ∨ k = 17 ∨ k = 18 := by
              by_cases h0 : k = 0
              · exact .inl h0
              · by_cases h1 : k ≤ 16
                · exact .inr (.inl ⟨k - 1, by omega, by omega⟩)
                · by_cases h2 : k = 17
                  · exact .inr (.inr (.inl h2))
                  · exact .inr (.inr (.inr (by omega)))
            have HE1 : Hid (∀ p : Int, (p < 0 ∨ 16 ≤ p) → ∀ wx, GAt wx b m' → Calls Tryd.prog 59 #[.pointer (some ⟨b, 0, none⟩), .int .i64 p] wx fun e w' => e = .returned (.tuple #[.agg #[.bool false, .bool false, .bool false, .int .i64 0, .int .i64 0], .bool false]) ∧ Below wx.heap.size wx w') := Lib.hid fun p hp wx hn => by
              have := gget_all m' b p wx hn
              rw [getE_out m' p hp] at this
              exact this
            rcases hc with rfl | ⟨r, hr, rfl⟩ | rfl | rfl
            · rw [show ((0 : Nat) : Int) - 1 = -1 from rfl]
              go_wp2_with fail
              refine (HE1.out (-1) (by decide) _ HT.out.n).mono ?_
              rintro e w3' ⟨rfl, hb3⟩
              have HT3 : Hid (∀ X, GtS w b x m' (w3'.alloc X)) := Lib.hid fun X => (HT.out.below hb3).below ((Below.refl _ _).alloc (Nat.le_refl _) _)
              clear hb3
              go_wp2_with fail
              go_quiet (fail)
              go_wp2
              go_roundw
              case rel => exact ⟨1, by omega, rfl, (HT3.out _).below (below_drewN (Below.refl _ _) _)⟩
              case measure => simp [intOf]
            · rw [show ((r + 1 : Nat) : Int) - 1 = (r : Int) by omega]
              have hri : (r : Int) < 16 := by omega
              have hri' : (r : Int) ≤ 16 := by omega
              have HGR : Hid (∀ wx, GAt wx b m' → Calls Tryd.prog 59 #[.pointer (some ⟨b, 0, none⟩), .int .i64 r] wx fun e w' => e = .returned (.tuple #[grV (if (m'.getD r default).live = true then (m'.getD r default, true) else (({} : Gr), false)).1, .bool (if (m'.getD r default).live = true then (m'.getD r default, true) else (({} : Gr), false)).2]) ∧ Below wx.heap.size wx w') := Lib.hid fun wx hn => by
                have := gget_all m' b r wx hn
                rwa [getE_in m' r hr] at this
              have HCC : Hid (∀ wx, RGr wx x m' → wx.cell? ⟨x, r * 5, none⟩ = some (.bool (m'.getD r default).live) ∧ wx.cell? ⟨x, r * 5 + 1, none⟩ = some (.bool (m'.getD r default).w) ∧ wx.cell? ⟨x, r * 5 + 2, none⟩ = some (.bool (m'.getD r default).used) ∧ wx.cell? ⟨x, r * 5 + 3, none⟩ = some (.int .i64 (m'.getD r default).frame) ∧ wx.cell? ⟨x, r * 5 + 4, none⟩ = some (.int .i64 (m'.getD r default).to_)) := Lib.hid fun wx hn => hn.cells r hr
              obtain ⟨⟨v0, v1, v2, v3, v4⟩, hv⟩ : ∃ v, m'.getD r default = v := ⟨_, rfl⟩
              rw [hv] at HGR HCC
              clear hv
              unfold grV at HGR
              dsimp only at HGR HCC
              cases v0
              · have HGR' : Hid (∀ wx, GAt wx b m' → Calls Tryd.prog 59 #[.pointer (some ⟨b, 0, none⟩), .int .i64 r] wx fun e w' => e = .returned (.tuple #[.agg #[.bool false, .bool false, .bool false, .int .i64 0, .int .i64 0], .bool false]) ∧ Below wx.heap.size wx w') := HGR
                go_wp2_with fail
                refine (HGR'.out _ HT.out.n).mono ?_
                rintro e w3' ⟨rfl, hb3⟩
                have HT3 : Hid (∀ X, GtS w b x m' (w3'.alloc X)) := Lib.hid fun X => (HT.out.below hb3).below ((Below.refl _ _).alloc (Nat.le_refl _) _)
                have hxb : x < w3'.heap.size := blk_lt (HT.out.below hb3).r.1
                obtain ⟨c0, -, -, -, -⟩ := HCC.out _ (HT.out.below hb3).r
                clear hb3 HGR
                go_wp2_with fail
                go_quiet (fail)
                go_wp2
                go_roundw
                case rel => exact ⟨r + 2, by omega, by go_num, (HT3.out _).below (below_drewN (Below.refl _ _) _)⟩
                case measure => simp [intOf]; omega
              · have HGR' : Hid (∀ wx, GAt wx b m' → Calls Tryd.prog 59 #[.pointer (some ⟨b, 0, none⟩), .int .i64 r] wx fun e w' => e = .returned (.tuple #[.agg #[.bool true, .bool v1, .bool v2, .int .i64 v3, .int .i64 v4], .bool true]) ∧ Below wx.heap.size wx w') := HGR
                go_wp2_with fail
                refine (HGR'.out _ HT.out.n).mono ?_
                rintro e w3' ⟨rfl, hb3⟩
                have HT3 := Lib.hid (HT.out.below hb3)
                obtain ⟨c0, -, -, -, -⟩ := HCC.out _ (HT.out.below hb3).r
                have hxb : x < w3'.heap.size := blk_lt (HT.out.below hb3).r.1
                clear hb3 HGR
                go_wp2_with fail
                obtain ⟨wA', hwA⟩ : ∃ wA, wA = w3'.alloc (.cells #[.bool true, .bool v1, .bool v2, .int .i64 v3, .int .i64 v4] 56) := ⟨_, rfl⟩
                have hba : Below w3'.heap.size w3' wA' := hwA ▸ Below.alloc (Below.refl _ _) (Nat.le_refl _) _
                have HTA := Lib.hid (HT3.out.below hba)
                have HBLK : Hid (wA'.heap[w3'.heap.size]? = some (.cells #[.bool true, .bool v1, .bool v2, .int .i64 v3, .int .i64 v4] 56 (0, 0))) := Lib.hid (hwA ▸ blk_new w3' _)
                rw [← hwA]
                obtain ⟨dc, hdc⟩ : ∃ da, w3'.heap.size = da := ⟨_, rfl⟩
                rw [hdc] at HBLK hxb ⊢
                clear hwA hba hdc c0
                have HKB : Hid (∀ wx, Below wA'.heap.size wA' wx → Below wA'.heap.size wA' wx ∧ wx.cell? ⟨dc, 0, none⟩ = some (.bool true) ∧ wx.cell? ⟨dc, 1, none⟩ = some (.bool v1) ∧ wx.cell? ⟨dc, 2, none⟩ = some (.bool v2) ∧ wx.cell? ⟨dc, 3, none⟩ = some (.int .i64 v3) ∧ wx.cell? ⟨dc, 4, none⟩ = some (.int .i64 v4) ∧
                    wx.cell? ⟨x, r * 5, none⟩ = some (.bool true) ∧ wx.cell? ⟨x, r * 5 + 1, none⟩ = some (.bool v1) ∧ wx.cell? ⟨x, r * 5 + 2, none⟩ = some (.bool v2) ∧ wx.cell? ⟨x, r * 5 + 3, none⟩ = some (.int .i64 v3) ∧ wx.cell? ⟨x, r * 5 + 4, none⟩ = some (.int .i64 v4)) := Lib.hid fun wx h => by
                  have hb := blk_below HBLK.out h (blk_lt HBLK.out)
                  obtain ⟨q0, q1, q2, q3, q4⟩ := HCC.out _ (HTA.out.r.below h)
                  exact ⟨h, blk_cell hb 0, blk_cell hb 1, blk_cell hb 2, blk_cell hb 3, blk_cell hb 4, q0, q1, q2, q3, q4⟩
                obtain ⟨-, a0, a1, a2, a3, a4, q0, q1, q2, q3, q4⟩ := HKB.out _ (Below.refl _ wA')
                have hB0 : Below wA'.heap.size wA' wA'.drew := (Below.refl _ _).drew
                go_region_held3 (fun wx => Below wA'.heap.size wA' wx ∧ wx.cell? ⟨dc, 0, none⟩ = some (.bool true) ∧ wx.cell? ⟨dc, 1, none⟩ = some (.bool v1) ∧ wx.cell? ⟨dc, 2, none⟩ = some (.bool v2) ∧ wx.cell? ⟨dc, 3, none⟩ = some (.int .i64 v3) ∧ wx.cell? ⟨dc, 4, none⟩ = some (.int .i64 v4) ∧
                    wx.cell? ⟨x, r * 5, none⟩ = some (.bool true) ∧ wx.cell? ⟨x, r * 5 + 1, none⟩ = some (.bool v1) ∧ wx.cell? ⟨x, r * 5 + 2, none⟩ = some (.bool v2) ∧ wx.cell? ⟨x, r * 5 + 3, none⟩ = some (.int .i64 v3) ∧ wx.cell? ⟨x, r * 5 + 4, none⟩ = some (.int .i64 v4)) (first | exact HKB.out _ (by assumption))
                  (first
                    | (go_at_call 64; refine (sameGrant_refl true v1 v2 v3 v4 _).mono ?_; rintro e w5 ⟨rfl, hb5⟩; have hB5 : Below wA'.heap.size wA' w5 := hB0.trans (hb5.mono hB0.size)))
                have HT5 := Lib.hid (HTA.out.below hB5)
                clear hB0 hB5 hb5 a0 a1 a2 a3 a4 q0 q1 q2 q3 q4
                go_wp2
                go_roundw
                case rel => exact ⟨r + 2, by omega, by go_num, HT5.out⟩
                case measure => simp [intOf]; omega
            · rw [show ((17 : Nat) : Int) - 1 = 16 from rfl]
              go_wp2_with fail
              refine (HE1.out 16 (by decide) _ HT.out.n).mono ?_
              rintro e w3' ⟨rfl, hb3⟩
              have HT3 : Hid (∀ X, GtS w b x m' (w3'.alloc X)) := Lib.hid fun X => (HT.out.below hb3).below ((Below.refl _ _).alloc (Nat.le_refl _) _)
              clear hb3
              go_wp2_with fail
              go_quiet (fail)
              go_wp2
              go_roundw
              case rel => exact ⟨18, by omega, rfl, (HT3.out _).below (below_drewN (Below.refl _ _) _)⟩
              case measure => simp [intOf]
            · rw [show ((18 : Nat) : Int) - 1 = 17 from rfl]
              go_wp2
              go_roundw
              case rel => exact ⟨j + 1, m', by omega, by go_num, HT.out⟩
              case measure => simp [intOf]; omega
      · as_aux_lemma =>
          have HW1 : Hid (Calls Tryd.prog 51 #[.pointer (some ⟨b, 0, none⟩), .int .i64 xa, .int .i64 xb] w4.drew (OpPost E b (unmE m xa xb) w4.drew)) := Lib.hid (unm_all E m b xa xb _ (HEK.out _ HTD.out.wb) HTD.out.n)
          have HW2 : Hid (∀ w5, RGr w5 x m → Calls Tryd.prog 63 #[.pointer (some ⟨x, 0, none⟩), .int .i64 xa, .int .i64 xb] w5 (ROpPost x (unmE m xa xb) w5)) := Lib.hid fun w5 h => gunm_all m x xa xb w5 h
          have HSM := Lib.hid (unmE_small m xa xb)
          obtain ⟨⟨m', oo⟩, hR⟩ : ∃ R, unmE m xa xb = R := ⟨_, rfl⟩
          rw [hR] at HW1 HW2 HSM
          clear hR
          have HIS : Hid (∀ w6, Only (fun k => k = b ∨ k = x) w4 w6 → Calls Tryd.prog 23 #[errOf E oo, .int .i64 (codeOf oo)] w6 fun e w' => e = .returned (.bool true) ∧ Below w6.heap.size w6 w') := Lib.hid fun w6 h => by
            have := is_any E (errOf E oo) (codeOf oo) (codeOf oo) (errOf_code E oo HSM.out) w6 (HEK.out _ (HT4.out.wb.trans (h.below HT4.out.wb.size (fun k hk => by rcases hk with rfl | rfl; exact HT4.out.hb; exact HT4.out.hx))))
            rwa [decide_eq_true rfl] at this
          go_wp2_with fail
          rw [← HW4.out, HDB.out]
          go_region_held3 (fun wx => Only (fun k => k = b ∨ k = x) w4 wx ∧ wx.cell? ⟨da, 1, none⟩ = some (.int .i64 xa) ∧ wx.cell? ⟨da, 2, none⟩ = some (.int .i64 xb) ∧ wx.cell? ⟨da, 3, none⟩ = some (.int .i64 xc) ∧ wx.cell? ⟨da, 4, none⟩ = some (.bool xi)) (first | exact HKA.out _ (by assumption))
            (first
              | (go_at_call 51; refine HW1.out.mono ?_; rintro e w5 ⟨rfl, hn5, ho5⟩; have hr5 := HTD.out.first ho5; have hB5 : Only (fun k => k = b ∨ k = x) w4 w5 := hB0.trans (ho5.mono fun k hk => .inl (.inl hk)))
              | (go_at_call 63; refine (HW2.out w5 hr5).mono ?_; rintro e w6 ⟨rfl, hr6, ho6⟩; have hB6 : Only (fun k => k = b ∨ k = x) w4 w6 := hB5.trans (ho6.mono fun k hk => .inl (.inr hk)))
              | (go_at_call 23; refine (HIS.out _ hB6).mono ?_; rintro e w7 ⟨rfl, hb7⟩; have hB7 : Only (fun k => k = b ∨ k = x) w4 w7 := hB6.below' hb7))
          have HT7 := Lib.hid ((HTD.out.step hn5 ho5 hr6 ho6).below hb7)
          have HC7 := Lib.hid (((((HC4.out.below (Below.refl _ _).drew).only ho5 HFC.out.1).only ho6 HFC.out.2)).below hb7)
          clear hn5 ho5 hB5 hr5 hr6 ho6 hB6 hb7 hB0 c0 c1 c2 c3 c4
          obtain ⟨c1, -⟩ := HKG.out w7 w7 hB7 (Below.refl _ _)
          have HB7 := Lib.hid hB7
          clear hB7
          go_wp2_with fail
          refine (HGT.out _ HC7.out).mono ?_
          rintro e w8 ⟨rfl, hb8⟩
          have HT8 := Lib.hid (HT7.out.below hb8)
          obtain ⟨-, hg8⟩ := HKG.out w7 w8 HB7.out hb8
          rw [HDB.out] at hg8
          have a0 := blk_cell hg8 0
          have a1 := blk_cell hg8 1
          have a2 := blk_cell hg8 2
          have a3 := blk_cell hg8 3
          have a4 := blk_cell hg8 4
          have hlt8 := blk_lt hg8
          have a0 : w8.cell? ⟨db, 0, none⟩ = some (.bool gl) := a0
          have a1 : w8.cell? ⟨db, 1, none⟩ = some (.bool gw) := a1
          have a2 : w8.cell? ⟨db, 2, none⟩ = some (.bool gu) := a2
          have a3 : w8.cell? ⟨db, 3, none⟩ = some (.int .i64 gf) := a3
          have a4 : w8.cell? ⟨db, 4, none⟩ = some (.int .i64 gt) := a4
          clear hb8 hg8
          go_wp2_with fail
          refine (sameGrant_refl gl gw gu gf gt _).mono ?_
          rintro e w9 ⟨rfl, hb9⟩
          have HT9 := Lib.hid (HT8.out.below (((Below.refl _ _).alloc (Nat.le_refl _) _).trans (hb9.mono (by simp))))
          have HS3 : Hid (LooksG w b x m' (.int .i64 (-1)) w9) := Lib.hid ⟨0, Nat.zero_le _, rfl, HT9.out⟩
          clear hb9 a0 a1 a2 a3 a4 c1 hlt8 HT8 HT7 HC7 HB7 HKA HKG HTD HFR HFC HFG HBLK3 HBLK4 HBG4 HT3 HT4 HC3 HC4 HA3 HGT
          go_wp2_with fail
          go_loopw [23] (fun i wr => LooksG w b x m' i wr) (fun i _ => 18 - (intOf i + 1).toNat)
          case atStart => exact HS3.out
          case round =>
            obtain ⟨k, hk, rfl, ht⟩ := hrel
            have HT := Lib.hid ht
            clear ht HS3
            have hc : k = 0 ∨ (∃ r, r < 16 ∧ k = r + 1) ∨ k = 17 ∨ k = 18 := by
              by_cases h0 : k = 0
              · exact .inl h0
              · by_cases h1 : k ≤ 16
                · exact .inr (.inl ⟨k - 1, by omega, by omega⟩)
                · by_cases h2 : k = 17
                  · exact .inr (.inr (.inl h2))
                  · exact .inr (.inr (.inr (by omega)))
            have HE1 : Hid (∀ p : Int, (p < 0 ∨ 16 ≤ p) → ∀ wx, GAt wx b m' → Calls Tryd.prog 59 #[.pointer (some ⟨b, 0, none⟩), .int .i64 p] wx fun e w' => e = .returned (.tuple #[.agg #[.bool false, .bool false, .bool false, .int .i64 0, .int .i64 0], .bool false]) ∧ Below wx.heap.size wx w') := Lib.hid fun p hp wx hn => by
              have := gget_all m' b p wx hn
              rw [getE_out m' p hp] at this
              exact this
            rcases hc with rfl | ⟨r, hr, rfl⟩ | rfl | rfl
            · rw [show ((0 : Nat) : Int) - 1 = -1 from rfl]
              go_wp2_with fail
              refine (HE1.out (-1) (by decide) _ HT.out.n).mono ?_
              rintro e w3' ⟨rfl, hb3⟩
              have HT3 : Hid (∀ X, GtS w b x m' (w3'.alloc X)) := Lib.hid fun X => (HT.out.below hb3).below ((Below.refl _ _).alloc (Nat.le_refl _) _)
              clear hb3
              go_wp2_with fail
              go_quiet (fail)
              go_wp2
              go_roundw
              case rel => exact ⟨1, by omega, rfl, (HT3.out _).below (below_drewN (Below.refl _ _) _)⟩
              case measure => simp [intOf]
            · rw [show ((r + 1 : Nat) : Int) - 1 = (r : Int) by omega]
              have hri : (r : Int) < 16 := by omega
              have hri' : (r : Int) ≤ 16 := by omega
              have HGR : Hid (∀ wx, GAt wx b m' → Calls Tryd.prog 59 #[.pointer (some ⟨b, 0, none⟩), .int .i64 r] wx fun e w' => e = .returned (.tuple #[grV (if (m'.getD r default).live = true then (m'.getD r default, true) else (({} : Gr), false)).1, .bool (if (m'.getD r default).live = true then (m'.getD r default, true) else (({} : Gr), false)).2]) ∧ Below wx.heap.size wx w') := Lib.hid fun wx hn => by
                have := gget_all m' b r wx hn
                rwa [getE_in m' r hr] at this
              have HCC : Hid (∀ wx, RGr wx x m' → wx.cell? ⟨x, r * 5, none⟩ = some (.bool (m'.getD r default).live) ∧ wx.cell? ⟨x, r * 5 + 1, none⟩ = some (.bool (m'.getD r default).w) ∧ wx.cell? ⟨x, r * 5 + 2, none⟩ = some (.bool (m'.getD r default).used) ∧ wx.cell? ⟨x, r * 5 + 3, none⟩ = some (.int .i64 (m'.getD r default).frame) ∧ wx.cell? ⟨x, r * 5 + 4, none⟩ = some (.int .i64 (m'.getD r default).to_)) := Lib.hid fun wx hn => hn.cells r hr
              obtain ⟨⟨v0, v1, v2, v3, v4⟩, hv⟩ : ∃ v, m'.getD r default = v := ⟨_, rfl⟩
              rw [hv] at HGR HCC
              clear hv
              unfold grV at HGR
              dsimp only at HGR HCC
              cases v0
              · have HGR' : Hid (∀ wx, GAt wx b m' → Calls Tryd.prog 59 #[.pointer (some ⟨b, 0, none⟩), .int .i64 r] wx fun e w' => e = .returned (.tuple #[.agg #[.bool false, .bool false, .bool false, .int .i64 0, .int .i64 0], .bool false]) ∧ Below wx.heap.size wx w') := HGR
                go_wp2_with fail
                refine (HGR'.out _ HT.out.n).mono ?_
                rintro e w3' ⟨rfl, hb3⟩
                have HT3 : Hid (∀ X, GtS w b x m' (w3'.alloc X)) := Lib.hid fun X => (HT.out.below hb3).below ((Below.refl _ _).alloc (Nat.le_refl _) _)
                have hxb : x < w3'.heap.size := blk_lt (HT.out.below hb3).r.1
                obtain ⟨c0, -, -, -, -⟩ := HCC.out _ (HT.out.below hb3).r
                clear hb3 HGR
                go_wp2_with fail
                go_quiet (fail)
                go_wp2
                go_roundw
                case rel => exact ⟨r + 2, by omega, by go_num, (HT3.out _).below (below_drewN (Below.refl _ _) _)⟩
                case measure => simp [intOf]; omega
              · have HGR' : Hid (∀ wx, GAt wx b m' → Calls Tryd.prog 59 #[.pointer (some ⟨b, 0, none⟩), .int .i64 r] wx fun e w' => e = .returned (.tuple #[.agg #[.bool true, .bool v1, .bool v2, .int .i64 v3, .int .i64 v4], .bool true]) ∧ Below wx.heap.size wx w') := HGR
                go_wp2_with fail
                refine (HGR'.out _ HT.out.n).mono ?_
                rintro e w3' ⟨rfl, hb3⟩
                have HT3 := Lib.hid (HT.out.below hb3)
                obtain ⟨c0, -, -, -, -⟩ := HCC.out _ (HT.out.below hb3).r
                have hxb : x < w3'.heap.size := blk_lt (HT.out.below hb3).r.1
                clear hb3 HGR
                go_wp2_with fail
                obtain ⟨wA', hwA⟩ : ∃ wA, wA = w3'.alloc (.cells #[.bool true, .bool v1, .bool v2, .int .i64 v3, .int .i64 v4] 56) := ⟨_, rfl⟩
                have hba : Below w3'.heap.size w3' wA' := hwA ▸ Below.alloc (Below.refl _ _) (Nat.le_refl _) _
                have HTA := Lib.hid (HT3.out.below hba)
                have HBLK : Hid (wA'.heap[w3'.heap.size]? = some (.cells #[.bool true, .bool v1, .bool v2, .int .i64 v3, .int .i64 v4] 56 (0, 0))) := Lib.hid (hwA ▸ blk_new w3' _)
                rw [← hwA]
                obtain ⟨dc, hdc⟩ : ∃ da, w3'.heap.size = da := ⟨_, rfl⟩
                rw [hdc] at HBLK hxb ⊢
                clear hwA hba hdc c0
                have HKB : Hid (∀ wx, Below wA'.heap.size wA' wx → Below wA'.heap.size wA' wx ∧ wx.cell? ⟨dc, 0, none⟩ = some (.bool true) ∧ wx.cell? ⟨dc, 1, none⟩ = some (.bool v1) ∧ wx.cell? ⟨dc, 2, none⟩ = some (.bool v2) ∧ wx.cell? ⟨dc, 3, none⟩ = some (.int .i64 v3) ∧ wx.cell? ⟨dc, 4, none⟩ = some (.int .i64 v4) ∧
                    wx.cell? ⟨x, r * 5, none⟩ = some (.bool true) ∧ wx.cell? ⟨x, r * 5 + 1, none⟩ = some (.bool v1) ∧ wx.cell? ⟨x, r * 5 + 2, none⟩ = some (.bool v2) ∧ wx.cell? ⟨x, r * 5 + 3, none⟩ = some (.int .i64 v3) ∧ wx.cell? ⟨x, r * 5 + 4, none⟩ = some (.int .i64 v4)) := Lib.hid fun wx h => by
                  have hb := blk_below HBLK.out h (blk_lt HBLK.out)
                  obtain ⟨q0, q1, q2, q3, q4⟩ := HCC.out _ (HTA.out.r.below h)
                  exact ⟨h, blk_cell hb 0, blk_cell hb 1, blk_cell hb 2, blk_cell hb 3, blk_cell hb 4, q0, q1, q2, q3, q4⟩
                obtain ⟨-, a0, a1, a2, a3, a4, q0, q1, q2, q3, q4⟩ := HKB.out _ (Below.refl _ wA')
                have hB0 : Below wA'.heap.size wA' wA'.drew := (Below.refl _ _).drew
                go_region_held3 (fun wx => Below wA'.heap.size wA' wx ∧ wx.cell? ⟨dc, 0, none⟩ = some (.bool true) ∧ wx.cell? ⟨dc, 1, none⟩ = some (.bool v1) ∧ wx.cell? ⟨dc, 2, none⟩ = some (.bool v2) ∧ wx.cell? ⟨dc, 3, none⟩ = some (.int .i64 v3) ∧ wx.cell? ⟨dc, 4, none⟩ = some (.int .i64 v4) ∧
                    wx.cell? ⟨x, r * 5, none⟩ = some (.bool true) ∧ wx.cell? ⟨x, r * 5 + 1, none⟩ = some (.bool v1) ∧ wx.cell? ⟨x, r * 5 + 2, none⟩ = some (.bool v2) ∧ wx.cell? ⟨x, r * 5 + 3, none⟩ = some (.int .i64 v3) ∧ wx.cell? ⟨x, r * 5 + 4, none⟩ = some (.int .i64 v4)) (first | exact HKB.out _ (by assumption))
                  (first
                    | (go_at_call 64; refine (sameGrant_refl true v1 v2 v3 v4 _).mono ?_; rintro e w5 ⟨rfl, hb5⟩; have hB5 : Below wA'.heap.size wA' w5 := hB0.trans (hb5.mono hB0.size)))
                have HT5 := Lib.hid (HTA.out.below hB5)
                clear hB0 hB5 hb5 a0 a1 a2 a3 a4 q0 q1 q2 q3 q4
                go_wp2
                go_roundw
                case rel => exact ⟨r + 2, by omega, by go_num, HT5.out⟩
                case measure => simp [intOf]; omega
            · rw [show ((17 : Nat) : Int) - 1 = 16 from rfl]
              go_wp2_with fail
              refine (HE1.out 16 (by decide) _ HT.out.n).mono ?_
              rintro e w3' ⟨rfl, hb3⟩
              have HT3 : Hid (∀ X, GtS w b x m' (w3'.alloc X)) := Lib.hid fun X => (HT.out.below hb3).below ((Below.refl _ _).alloc (Nat.le_refl _) _)
              clear hb3
              go_wp2_with fail
              go_quiet (fail)
              go_wp2
              go_roundw
              case rel => exact ⟨18, by omega, rfl, (HT3.out _).below (below_drewN (Below.refl _ _) _)⟩
              case measure => simp [intOf]
            · rw [show ((18 : Nat) : Int) - 1 = 17 from rfl]
              go_wp2
              go_roundw
              case rel => exact ⟨j + 1, m', by omega, by go_num, HT.out⟩
              case measure => simp [intOf]; omega
    · obtain rfl : j = l.length := by omega
      go_wp2_with fail
      refine (lent_any m b frame by_ _ HT.out.n).mono ?_
      rintro e w3 ⟨rfl, hb3⟩
      have HT3 := Lib.hid (HT.out.below hb3)
      clear hb3
      have HRL := Lib.hid (rlent_any m x frame by_ _ HT3.out.r)
      obtain ⟨si, hsi⟩ : ∃ si, lentIs m frame by_ = si := ⟨_, rfl⟩
      obtain ⟨qi, hqi⟩ : ∃ qi, lentW m frame by_ = qi := ⟨_, rfl⟩
      rw [hsi, hqi] at HRL ⊢
      clear hsi hqi
      go_wp2_with fail
      refine HRL.out.mono ?_
      rintro e w4 ⟨rfl, hb4⟩
      have HT4 := Lib.hid (HT3.out.below hb4)
      clear hb4
      have b1 : (si == si) = true := by cases si <;> rfl
      have b2 : (qi == qi) = true := by cases qi <;> rfl
      go_wp2
      go_ret
      exact ⟨rfl, HT4.out.wb⟩
theorem grPlays_walk (E : Nat → Addr) (l : List GDo) (ao : Option Addr) (c1 : Nat) (frame by_ : Int) (w : World) (hE : ErrsAt errT gOf w E all16) (hl : AtL w ao (l.flatMap gdoCells)) :
    Calls Tryd.prog 14 #[.slice ao l.length c1, .int .i64 frame, .int .i64 by_] w fun e w' => e = .returned (.bool true) ∧ Below w.heap.size w w' := by
  by_cases h : 80 < l.length
  · exact grPlays_many E l.length ao c1 frame by_ w hE h
  · exact grPlays_some E l ao c1 frame by_ w hE hl h
end Go.Proofs.YtmeljclaocgoaaaDoor
