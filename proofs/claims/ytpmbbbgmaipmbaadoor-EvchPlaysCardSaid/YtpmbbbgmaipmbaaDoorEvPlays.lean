/-
  EvchPlays: for every list of things told and guest asked the call returns true; nothing that was there is turned. Given where the sentinels lie.
-/
import Derived.Test.YtpmbbbgmaipmbaaDoorEvAll
import Derived.Test.YtpmbbbgmaipmbaaDoorEvLoops
namespace Go.Proofs.YtpmbbbgmaipmbaaDoor
open Go.ChangeShapes Go.WideShapes Go.ChangeAt Go.RowKit Go.Joins Go.Deep

structure EDo where
  kind : Int
  a : Int
  b : Int
  c : Int
  d : Int
  is_ : Bool
deriving Inhabited
def edoCells (x : EDo) : List Value := [.int .i64 x.kind, .int .i64 x.a, .int .i64 x.b, .int .i64 x.c, .int .i64 x.d, .bool x.is_]
theorem edo_len (x : EDo) : (edoCells x).length = 6 := rfl
set_option maxRecDepth 100000 in
theorem open_edo {H : Type} {enc : TypeId × Value → H} {W : World} {v : Value} {d : DataW H} {p : List MemPlace} {r : Reach} {b0 : Nat}
    (hv : Value.okWide Tryd.prog W r b0 90 v) (h : DataW.Trod enc Tryd.prog W 0 (fun _ => true) true 90 v d p) :
    ∃ (ao : Option Addr) (cap : Nat) (l : List EDo), v = .slice ao l.length cap ∧ l.length ≤ maxLen ∧ (∀ x ∈ l, True) ∧ AtL W ao (l.flatMap edoCells) ∧ l.length ≤ cap :=
  open_structs (C := 6) Tryd.underlying90 (by kernel_rfl) (by decide) edoCells (fun _ => True) hv h fun n cs y hl hd => by
    obtain ⟨xs, n', -, -, hxl, hx, hi⟩ := DataW.trod_struct Tryd.underlying98 hd
    have hx6 : xs.length = 6 := hx
    have get : ∀ i, i < 6 → ∃ y, xs[i]? = some y := fun i hi => ⟨_, List.getElem?_eq_getElem (by omega)⟩
    obtain ⟨y0, g0⟩ := get 0 (by omega)
    obtain ⟨y1, g1⟩ := get 1 (by omega)
    obtain ⟨y2, g2⟩ := get 2 (by omega)
    obtain ⟨y3, g3⟩ := get 3 (by omega)
    obtain ⟨y4, g4⟩ := get 4 (by omega)
    obtain ⟨y5, g5⟩ := get 5 (by omega)
    obtain ⟨a, e0, -⟩ := fld_int Tryd.underlying3 (by kernel_rfl) ((hi 0 _ rfl).trans g0)
    obtain ⟨b, e1, -⟩ := fld_int Tryd.underlying3 (by kernel_rfl) ((hi 1 _ rfl).trans g1)
    obtain ⟨c, e2, -⟩ := fld_int Tryd.underlying3 (by kernel_rfl) ((hi 2 _ rfl).trans g2)
    obtain ⟨dd, e3, -⟩ := fld_int Tryd.underlying3 (by kernel_rfl) ((hi 3 _ rfl).trans g3)
    obtain ⟨f, e4, -⟩ := fld_int Tryd.underlying3 (by kernel_rfl) ((hi 4 _ rfl).trans g4)
    obtain ⟨g, e5⟩ := fld_bool Tryd.underlying4 (by kernel_rfl) ((hi 5 _ rfl).trans g5)
    refine ⟨⟨a, b, c, dd, f, g⟩, ?_, trivial⟩
    match cs, hl with
    | [b0, b1, b2, b3, b4, b5], _ =>
      have q0 : some b0 = some _ := e0
      have q1 : some b1 = some _ := e1
      have q2 : some b2 = some _ := e2
      have q3 : some b3 = some _ := e3
      have q4 : some b4 = some _ := e4
      have q5 : some b5 = some _ := e5
      cases q0
      cases q1
      cases q2
      cases q3
      cases q4
      cases q5
      rfl

theorem kinds5 (k : Int) : (k == 1) = true ∨ ((k == 1) = false ∧ (k == 2) = true) ∨ ((k == 1) = false ∧ (k == 2) = false ∧ (k == 3) = true) ∨ ((k == 1) = false ∧ (k == 2) = false ∧ (k == 3) = false ∧ (k == 4) = true) ∨ ((k == 1) = false ∧ (k == 2) = false ∧ (k == 3) = false ∧ (k == 4) = false) := by
  simp only [beq_iff_eq, beq_eq_false_iff_ne]
  omega
/-- both nets, the same ports -/
structure EvS (w : World) (b x : Nat) (l : List Pe) (wr : World) : Prop where
  n : NAt wr b l
  r : RNAt wr x l
  i : Inv l
  ne : b ≠ x
  hb : w.heap.size ≤ b
  hx : w.heap.size ≤ x
  wb : Below w.heap.size w wr
theorem NAt.only {F : Nat → Prop} {w w' : World} {b : Nat} {l : List Pe} (h : NAt w b l) (ho : Only F w w') (hF : ¬ F b) : NAt w' b l := ⟨h.1.only ho hF, h.2⟩
theorem RNAt.only {F : Nat → Prop} {w w' : World} {b : Nat} {l : List Pe} (h : RNAt w b l) (ho : Only F w w') (hF : ¬ F b) : RNAt w' b l := ⟨h.1.only ho hF, h.2⟩
theorem EvS.below {w : World} {b x : Nat} {l : List Pe} {wr wy : World} (h : EvS w b x l wr) (hb : Below wr.heap.size wr wy) : EvS w b x l wy :=
  ⟨h.n.below hb, h.r.below hb, h.i, h.ne, h.hb, h.hx, h.wb.trans (hb.mono h.wb.size)⟩
theorem EvS.first {w : World} {b x : Nat} {l : List Pe} {wr wy : World} (h : EvS w b x l wr) (ho : Only (fun k => k = b) wr wy) : RNAt wy x l := h.r.only ho (fun e => h.ne e.symm)
theorem EvS.step {w : World} {b x : Nat} {l l' : List Pe} {wr wy wz : World} (h : EvS w b x l wr) (hn : NAt wy b l') (ho : Only (fun k => k = b) wr wy) (hr : RNAt wz x l') (ho2 : Only (fun k => k = x) wy wz) (hi : Inv l') : EvS w b x l' wz :=
  ⟨hn.only ho2 (fun e => h.ne e), hr, hi, h.ne, h.hb, h.hx, (h.wb.trans (ho.below h.wb.size (fun k hk => by subst hk; exact h.hb))).trans (ho2.below (Nat.le_trans h.wb.size ho.size) (fun k hk => by subst hk; exact h.hx))⟩
def PlaysE (q : Nat) (w : World) (b x : Nat) (i : Value) (wr : World) : Prop := ∃ (k : Nat) (l : List Pe), k ≤ q ∧ i = .int .i64 (k : Int) ∧ EvS w b x l wr
def LooksE (w : World) (b x : Nat) (l : List Pe) (i : Value) (wr : World) : Prop := ∃ k : Nat, k ≤ 8 ∧ i = .int .i64 (k : Int) ∧ EvS w b x l wr
def LooksE2 (w : World) (b x : Nat) (l : List Pe) (i : Value) (wr : World) : Prop := ∃ k : Nat, k ≤ 18 ∧ i = .int .i64 ((k : Int) - 1) ∧ EvS w b x l wr
theorem refnet_zero : Tryd.zeroCells96 = (none128.flatMap poOne).toArray := by kernel_rfl
theorem refnet_new (w : World) : RNAt (w.alloc (.cells Tryd.zeroCells96 96)) w.heap.size none128 := ⟨by rw [RecAt, refnet_zero]; exact blk_new _ _, rfl⟩

set_option maxRecDepth 100000 in
set_option maxHeartbeats 1600000 in
theorem evPlays_many (E : Nat → Addr) (q : Nat) (ao : Option Addr) (c1 : Nat) (who : Int) (w : World) (hE : ErrsAt errT gOf w E all16) (h : 100 < q) :
    Calls Tryd.prog 12 #[.slice ao q c1, .int .i64 who] w fun e w' => e = .returned (.bool true) ∧ Below w.heap.size w w' := by
  have HE := Lib.hid hE
  have h1 : (100 : Int) < (q : Int) := by omega
  clear hE h
  go_enter Tryd.func12, Tryd.ntmps12
  go_wp2_with fail
  refine (ev_first E _ HE.out).mono ?_
  rintro e w1 ⟨rfl, hb1⟩
  have HB1 := Lib.hid hb1
  clear hb1
  go_wp2
  go_ret
  exact ⟨rfl, HB1.out⟩
set_option maxRecDepth 100000 in
set_option maxHeartbeats 20000000 in
theorem evPlays_some (E : Nat → Addr) (l : List EDo) (ao : Option Addr) (c1 : Nat) (who : Int) (w : World) (hE : ErrsAt errT gOf w E all16) (hl : AtL w ao (l.flatMap edoCells)) (h : ¬ 100 < l.length) :
    Calls Tryd.prog 12 #[.slice ao l.length c1, .int .i64 who] w fun e w' => e = .returned (.bool true) ∧ Below w.heap.size w w' := by
  have HE := Lib.hid hE
  have HL := Lib.hid hl
  have h1 : ¬ (100 : Int) < (l.length : Int) := by omega
  have hdx : decide ((100 : Int) < (l.length : Int)) = false := by simp; omega
  have hlen : l.length ≤ 100 := by omega
  clear hE hl h
  go_enter Tryd.func12, Tryd.ntmps12
  go_wp2_with fail
  refine (ev_first E _ HE.out).mono ?_
  rintro e w1 ⟨rfl, hb1⟩
  have HB1 := Lib.hid hb1
  clear hb1
  go_wp2_with fail
  have HS0 : Hid (PlaysE l.length w w1.heap.size (w1.heap.size + 1) (.int .i64 0) ((w1.alloc (.cells Tryd.zeroCells41 41)).alloc (.cells Tryd.zeroCells96 96))) := Lib.hid ⟨0, none128, Nat.zero_le _, rfl,
    (ev_new w1).below ((Below.refl _ _).alloc (Nat.le_refl _) _), by
      have := refnet_new (w1.alloc (.cells Tryd.zeroCells41 41))
      simpa using this, inv_none, by omega, HB1.out.size, by have := HB1.out.size; omega, (HB1.out.alloc HB1.out.size _).alloc (by have := HB1.out.size; simp; omega) _⟩
  have HEK : Hid (∀ wx, Below w.heap.size w wx → ErrsAt errT gOf wx E all16) := Lib.hid fun wx h => HE.out.mono h
  generalize (w1.alloc (.cells Tryd.zeroCells41 41)).alloc (.cells Tryd.zeroCells96 96) = w2 at HS0 ⊢
  generalize hbx : w1.heap.size + 1 = x at HS0 ⊢
  generalize hbb : w1.heap.size = b at HS0 ⊢
  clear hbx hbb HB1 HE
  go_loopw [8] (fun i wr => PlaysE l.length w b x i wr) (fun i _ => l.length - (intOf i).toNat)
  case atStart => exact HS0.out
  case round =>
    obtain ⟨j, m, hj, rfl, ht⟩ := hrel
    have HT := Lib.hid ht
    clear ht HS0
    by_cases hlt : j < l.length
    · have hji : (j : Int) < (l.length : Int) := by omega
      have g0 := rec_get edoCells 6 edo_len l j 0 hlt (by decide)
      have g1 := rec_get edoCells 6 edo_len l j 1 hlt (by decide)
      have g2 := rec_get edoCells 6 edo_len l j 2 hlt (by decide)
      have g3 := rec_get edoCells 6 edo_len l j 3 hlt (by decide)
      have g4 := rec_get edoCells 6 edo_len l j 4 hlt (by decide)
      have g5 := rec_get edoCells 6 edo_len l j 5 hlt (by decide)
      obtain ⟨⟨kd, xa, xb, xc, xd, xi⟩, hx⟩ : ∃ x, l.getD j default = x := ⟨_, rfl⟩
      rw [hx] at g0 g1 g2 g3 g4 g5
      obtain ⟨sb, so, rfl, d0, hbl⟩ := HL.out _ _ g0
      obtain ⟨_, _, e1, d1, -⟩ := HL.out _ _ g1
      cases e1
      obtain ⟨_, _, e2, d2, -⟩ := HL.out _ _ g2
      cases e2
      obtain ⟨_, _, e3, d3, -⟩ := HL.out _ _ g3
      cases e3
      obtain ⟨_, _, e4, d4, -⟩ := HL.out _ _ g4
      cases e4
      obtain ⟨_, _, e5, d5, -⟩ := HL.out _ _ g5
      cases e5
      have c0 := (HT.out.wb.cell (p := ⟨sb, so + (j * 6 + 0), none⟩) hbl).trans d0
      have c1 := (HT.out.wb.cell (p := ⟨sb, so + (j * 6 + 1), none⟩) hbl).trans d1
      have c2 := (HT.out.wb.cell (p := ⟨sb, so + (j * 6 + 2), none⟩) hbl).trans d2
      have c3 := (HT.out.wb.cell (p := ⟨sb, so + (j * 6 + 3), none⟩) hbl).trans d3
      have c4 := (HT.out.wb.cell (p := ⟨sb, so + (j * 6 + 4), none⟩) hbl).trans d4
      have c5 := (HT.out.wb.cell (p := ⟨sb, so + (j * 6 + 5), none⟩) hbl).trans d5
      rw [Nat.add_zero] at c0
      rw [← Nat.add_assoc] at c1 c2 c3 c4 c5
      clear d0 d1 d2 d3 d4 d5 g0 g1 g2 g3 g4 g5 hx hbl
      go_wp2_with fail
      obtain ⟨wA, hwA⟩ : ∃ wA, wA = wr.alloc (.cells #[.int .i64 kd, .int .i64 xa, .int .i64 xb, .int .i64 xc, .int .i64 xd, .bool xi] 98) := ⟨_, rfl⟩
      have hba : Below wr.heap.size wr wA := hwA ▸ Below.alloc (Below.refl _ _) (Nat.le_refl _) _
      have HTA := Lib.hid (HT.out.below hba)
      have HBLK : Hid (wA.heap[wr.heap.size]? = some (.cells #[.int .i64 kd, .int .i64 xa, .int .i64 xb, .int .i64 xc, .int .i64 xd, .bool xi] 98 (0, 0))) := Lib.hid (hwA ▸ blk_new wr _)
      have HFR : Hid (wr.heap.size ≠ b ∧ wr.heap.size ≠ x) := Lib.hid ⟨by have := HT.out.n.lt; omega, by have := HT.out.r.lt; omega⟩
      rw [← hwA]
      obtain ⟨da, hda⟩ : ∃ da, wr.heap.size = da := ⟨_, rfl⟩
      rw [hda] at HBLK HFR ⊢
      clear hwA hba hda c0 c1 c2 c3 c4 c5
      refine (nclone_any m b _ HTA.out.n).mono ?_
      rintro e w2' ⟨rfl, hcn, hb2⟩
      have HT2 := Lib.hid (HTA.out.below hb2)
      have HC2 := Lib.hid hcn
      have HBLK2 := Lib.hid (blk_below HBLK.out hb2 (blk_lt HBLK.out))
      have HFC : Hid (wA.heap.size ≠ b ∧ wA.heap.size ≠ x) := Lib.hid ⟨by have := HTA.out.n.lt; omega, by have := HTA.out.r.lt; omega⟩
      obtain ⟨cb, hcb⟩ : ∃ cb, wA.heap.size = cb := ⟨_, rfl⟩
      rw [hcb] at HC2 HFC ⊢
      clear hcn hb2 hcb HBLK HTA HT
      go_wp2_with fail
      refine (bits_all m cb 0 _ HC2.out).mono ?_
      rintro e w3 ⟨rfl, hb3⟩
      have HT3 := Lib.hid (HT2.out.below hb3)
      have HC3 := Lib.hid (HC2.out.below hb3)
      have HBLK3 := Lib.hid (blk_below HBLK2.out hb3 (blk_lt HBLK2.out))
      clear hb3 HT2 HC2 HBLK2
      obtain ⟨P0, hP0⟩ : ∃ P : Nat, bpE m 0 = P := ⟨_, rfl⟩
      obtain ⟨M0, hM0⟩ : ∃ P : Nat, bmE m 0 = P := ⟨_, rfl⟩
      have HP0 := Lib.hid hP0
      have HM0 := Lib.hid hM0
      rw [hP0, hM0]
      clear hP0 hM0
      have HKA : Hid (∀ wx, Only (fun k => k = b ∨ k = x) w3 wx → Only (fun k => k = b ∨ k = x) w3 wx ∧ wx.cell? ⟨da, 1, none⟩ = some (.int .i64 xa) ∧ wx.cell? ⟨da, 2, none⟩ = some (.int .i64 xb) ∧ wx.cell? ⟨da, 3, none⟩ = some (.int .i64 xc) ∧ wx.cell? ⟨da, 4, none⟩ = some (.int .i64 xd) ∧ wx.cell? ⟨da, 5, none⟩ = some (.bool xi)) := Lib.hid fun wx h => by
        have hb := h.blk HBLK3.out (fun e => e.elim HFR.out.1 HFR.out.2)
        exact ⟨h, blk_cell hb 1, blk_cell hb 2, blk_cell hb 3, blk_cell hb 4, blk_cell hb 5⟩
      have c0 := blk_cell HBLK3.out 0
      obtain ⟨-, c1, c2, c3, c4, c5⟩ := HKA.out _ (Only.refl _ w3)
      have c0 : w3.cell? ⟨da, 0, none⟩ = some (.int .i64 kd) := c0
      have HTD := Lib.hid (HT3.out.below (Below.refl _ _).drew)
      have hB0 : Only (fun k => k = b ∨ k = x) w3 w3.drew := (Only.refl _ _).drew
      rcases kinds5 kd with k1 | ⟨k1, k2⟩ | ⟨k1, k2, k3⟩ | ⟨k1, k2, k3, k4⟩ | ⟨k1, k2, k3, k4⟩
      · as_aux_lemma =>
          have HAL := Lib.hid (al_all E m b xa w3 (HEK.out _ HT3.out.wb) HT3.out.n HT3.out.i)
          have HRL : Hid (∀ w5, RNAt w5 x m → Calls Tryd.prog 40 #[.pointer (some ⟨x, 0, none⟩), .int .i64 xa] w5 (RAPost x (alE m xa) w5)) := Lib.hid fun w5 h => ral_all m x xa w5 h
          have HIV := Lib.hid (alE_inv m xa HT3.out.i)
          have HSM := Lib.hid (alE_small m xa)
          obtain ⟨⟨m', oo, nn⟩, hR⟩ : ∃ R, alE m xa = R := ⟨_, rfl⟩
          rw [hR] at HAL HRL HIV HSM
          clear hR hB0
          go_wp2_with fail
          refine HAL.out.mono ?_
          rintro e w5 ⟨rfl, hn5, ho5⟩
          have HB5 := Lib.hid ((Only.refl (fun k => k = b ∨ k = x) w3).trans (ho5.mono fun k hk => .inl (.inl hk)))
          have HR5 := Lib.hid (HT3.out.first ho5)
          have HN5 := Lib.hid hn5
          have HO5 := Lib.hid ho5
          clear hn5 ho5 c0 c1 c2 c3 c4 c5
          obtain ⟨-, c1, -⟩ := HKA.out _ HB5.out
          go_wp2_with fail
          refine (HRL.out _ HR5.out).mono ?_
          rintro e w6 ⟨rfl, hr6, ho6⟩
          have HT6 := Lib.hid (HT3.out.step HN5.out HO5.out hr6 ho6 HIV.out)
          have HC6 := Lib.hid ((HC3.out.only HO5.out HFC.out.1).only ho6 HFC.out.2)
          clear hr6 ho6 c1
          dsimp only
          go_wp2_with fail
          refine (is_any E (errO E oo) (codeO oo) (codeO oo) (errO_code E oo HSM.out) _ (HEK.out _ HT6.out.wb)).mono ?_
          rintro e w7 ⟨rfl, hb7⟩
          have HT7 := Lib.hid (HT6.out.below hb7)
          have HC7 := Lib.hid (HC6.out.below hb7)
          clear hb7 HT6 HC6
          go_wp2_with fail
          refine (bits_all m cb 0 _ HC7.out).mono ?_
          rintro e w8 ⟨rfl, hb8⟩
          have HT8 := Lib.hid (HT7.out.below hb8)
          have HC8 := Lib.hid (HC7.out.below hb8)
          clear hb8
          rw [HP0.out, HM0.out]
          go_wp2_with fail
          refine (bits_all m' b who _ HT8.out.n).mono ?_
          rintro e w9 ⟨rfl, hb9⟩
          have HT9 := Lib.hid (HT8.out.below hb9)
          clear hb9
          have HRB := Lib.hid (rbits_all m' x who _ HT9.out.r)
          have HAN := Lib.hid (any_all m' b who _ HT9.out.n)
          obtain ⟨P1, hP1⟩ : ∃ P : Nat, bpE m' who = P := ⟨_, rfl⟩
          obtain ⟨M1, hM1⟩ : ∃ P : Nat, bmE m' who = P := ⟨_, rfl⟩
          rw [hP1, hM1] at HRB ⊢
          clear hP1 hM1
          go_wp2_with fail
          refine HRB.out.mono ?_
          rintro e w10 ⟨rfl, rfl⟩
          go_wp2_with fail
          refine HAN.out.mono ?_
          rintro e w11 ⟨rfl, hb11⟩
          have HT11 := Lib.hid (HT9.out.below hb11)
          have HLK := Lib.hid (look_all m' x who _ HT11.out.r)
          clear hb11
          obtain ⟨A1, hA1⟩ : ∃ P : Nat, anE m' who = P := ⟨_, rfl⟩
          rw [hA1] at HLK ⊢
          clear hA1
          by_cases hA0 : A1 = 0
          · subst hA0
            go_wp2_with fail
            refine HLK.out.mono ?_
            rintro e w12 ⟨rfl, rfl⟩
            go_wp2
            go_roundw
            case rel => exact ⟨j + 1, m', by omega, by go_num, HT11.out⟩
            case measure => simp [intOf]; omega
          · have t1 : decide (A1 = 0) = false := by simp [hA0]
            have t2 : ((A1 : Int) != 0) = true := by simp [hA0]
            have t3 : ((A1 : Int) == 0) = false := by simp [hA0]
            rw [show decide (A1 ≠ 0) = true by simp [hA0]]
            clear hA0
            go_wp2_with fail
            refine HLK.out.mono ?_
            rintro e w12 ⟨rfl, rfl⟩
            go_wp2
            go_roundw
            case rel => exact ⟨j + 1, m', by omega, by go_num, HT11.out⟩
            case measure => simp [intOf]; omega
      · as_aux_lemma =>
          have HW1 : Hid (Calls Tryd.prog 20 #[.pointer (some ⟨b, 0, none⟩), .int .i64 xa, .int .i64 xb, .int .i64 xc, .int .i64 xd] w3.drew (EPost E b (bdE m xa xb xc xd) w3.drew)) := Lib.hid (bd_all E m b xa xb xc xd _ (HEK.out _ HTD.out.wb) HTD.out.n)
          have HW2 : Hid (∀ w5, RNAt w5 x m → Calls Tryd.prog 41 #[.pointer (some ⟨x, 0, none⟩), .int .i64 xa, .int .i64 xb, .int .i64 xc, .int .i64 xd] w5 (REPost x (bdE m xa xb xc xd) w5)) := Lib.hid fun w5 h => rbd_all m x xa xb xc xd w5 h HT3.out.i
          have HIV := Lib.hid (bdE_inv m xa xb xc xd HT3.out.i)
          have HSM := Lib.hid (bdE_small m xa xb xc xd)
          obtain ⟨⟨m', oo⟩, hR⟩ : ∃ R, bdE m xa xb xc xd = R := ⟨_, rfl⟩
          rw [hR] at HW1 HW2 HIV HSM
          clear hR
          have HIS : Hid (∀ w6, Only (fun k => k = b ∨ k = x) w3 w6 → Calls Tryd.prog 24 #[errO E oo, .int .i64 (codeO oo)] w6 fun e w' => e = .returned (.bool true) ∧ Below w6.heap.size w6 w') := Lib.hid fun w6 h => by
            have := is_any E (errO E oo) (codeO oo) (codeO oo) (errO_code E oo HSM.out) w6 (HEK.out _ (HT3.out.wb.trans (h.below HT3.out.wb.size (fun k hk => by rcases hk with rfl | rfl; exact HT3.out.hb; exact HT3.out.hx))))
            rwa [decide_eq_true rfl] at this
          go_wp2_with fail
          go_region_held3 (fun wx => Only (fun k => k = b ∨ k = x) w3 wx ∧ wx.cell? ⟨da, 1, none⟩ = some (.int .i64 xa) ∧ wx.cell? ⟨da, 2, none⟩ = some (.int .i64 xb) ∧ wx.cell? ⟨da, 3, none⟩ = some (.int .i64 xc) ∧ wx.cell? ⟨da, 4, none⟩ = some (.int .i64 xd) ∧ wx.cell? ⟨da, 5, none⟩ = some (.bool xi)) (first | exact HKA.out _ (by assumption))
            (first
              | (go_at_call 20; refine HW1.out.mono ?_; rintro e w5 ⟨rfl, hn5, ho5⟩; have hr5 := HTD.out.first ho5; have hB5 : Only (fun k => k = b ∨ k = x) w3 w5 := hB0.trans (ho5.mono fun k hk => .inl (.inl hk)))
              | (go_at_call 41; refine (HW2.out w5 hr5).mono ?_; rintro e w6 ⟨rfl, hr6, ho6⟩; have hB6 : Only (fun k => k = b ∨ k = x) w3 w6 := hB5.trans (ho6.mono fun k hk => .inl (.inr hk)))
              | (go_at_call 24; refine (HIS.out _ hB6).mono ?_; rintro e w7 ⟨rfl, hb7⟩; have hB7 : Only (fun k => k = b ∨ k = x) w3 w7 := hB6.below' hb7))
          have HT7 := Lib.hid ((HTD.out.step hn5 ho5 hr6 ho6 HIV.out).below hb7)
          have HC7 := Lib.hid (((((HC3.out.below (Below.refl _ _).drew).only ho5 HFC.out.1).only ho6 HFC.out.2)).below hb7)
          clear hn5 ho5 hB5 hr5 hr6 ho6 hB6 hb7 hB7 hB0 c0 c1 c2 c3 c4 c5
          go_wp2_with fail
          refine (bits_all m cb 0 _ HC7.out).mono ?_
          rintro e w8 ⟨rfl, hb8⟩
          have HT8 := Lib.hid (HT7.out.below hb8)
          have HC8 := Lib.hid (HC7.out.below hb8)
          clear hb8
          rw [HP0.out, HM0.out]
          go_wp2_with fail
          refine (bits_all m' b who _ HT8.out.n).mono ?_
          rintro e w9 ⟨rfl, hb9⟩
          have HT9 := Lib.hid (HT8.out.below hb9)
          clear hb9
          have HRB := Lib.hid (rbits_all m' x who _ HT9.out.r)
          have HAN := Lib.hid (any_all m' b who _ HT9.out.n)
          obtain ⟨P1, hP1⟩ : ∃ P : Nat, bpE m' who = P := ⟨_, rfl⟩
          obtain ⟨M1, hM1⟩ : ∃ P : Nat, bmE m' who = P := ⟨_, rfl⟩
          rw [hP1, hM1] at HRB ⊢
          clear hP1 hM1
          go_wp2_with fail
          refine HRB.out.mono ?_
          rintro e w10 ⟨rfl, rfl⟩
          go_wp2_with fail
          refine HAN.out.mono ?_
          rintro e w11 ⟨rfl, hb11⟩
          have HT11 := Lib.hid (HT9.out.below hb11)
          have HLK := Lib.hid (look_all m' x who _ HT11.out.r)
          clear hb11
          obtain ⟨A1, hA1⟩ : ∃ P : Nat, anE m' who = P := ⟨_, rfl⟩
          rw [hA1] at HLK ⊢
          clear hA1
          by_cases hA0 : A1 = 0
          · subst hA0
            go_wp2_with fail
            refine HLK.out.mono ?_
            rintro e w12 ⟨rfl, rfl⟩
            go_wp2
            go_roundw
            case rel => exact ⟨j + 1, m', by omega, by go_num, HT11.out⟩
            case measure => simp [intOf]; omega
          · have t1 : decide (A1 = 0) = false := by simp [hA0]
            have t2 : ((A1 : Int) != 0) = true := by simp [hA0]
            have t3 : ((A1 : Int) == 0) = false := by simp [hA0]
            rw [show decide (A1 ≠ 0) = true by simp [hA0]]
            clear hA0
            go_wp2_with fail
            refine HLK.out.mono ?_
            rintro e w12 ⟨rfl, rfl⟩
            go_wp2
            go_roundw
            case rel => exact ⟨j + 1, m', by omega, by go_num, HT11.out⟩
            case measure => simp [intOf]; omega
      · as_aux_lemma =>
          have HW1 : Hid (Calls Tryd.prog 21 #[.pointer (some ⟨b, 0, none⟩), .int .i64 xa, .int .i64 xb] w3.drew (EPost E b (snE m xa xb) w3.drew)) := Lib.hid (sn_all E m b xa xb _ (HEK.out _ HTD.out.wb) HTD.out.n HT3.out.i)
          have HW2 : Hid (∀ w5, RNAt w5 x m → Calls Tryd.prog 42 #[.pointer (some ⟨x, 0, none⟩), .int .i64 xa, .int .i64 xb] w5 (REPost x (snE m xa xb) w5)) := Lib.hid fun w5 h => rsn_all m x xa xb w5 h HT3.out.i
          have HIV := Lib.hid (snE_inv m xa xb HT3.out.i)
          have HSM := Lib.hid (snE_small m xa xb)
          obtain ⟨⟨m', oo⟩, hR⟩ : ∃ R, snE m xa xb = R := ⟨_, rfl⟩
          rw [hR] at HW1 HW2 HIV HSM
          clear hR
          have HIS : Hid (∀ w6, Only (fun k => k = b ∨ k = x) w3 w6 → Calls Tryd.prog 24 #[errO E oo, .int .i64 (codeO oo)] w6 fun e w' => e = .returned (.bool true) ∧ Below w6.heap.size w6 w') := Lib.hid fun w6 h => by
            have := is_any E (errO E oo) (codeO oo) (codeO oo) (errO_code E oo HSM.out) w6 (HEK.out _ (HT3.out.wb.trans (h.below HT3.out.wb.size (fun k hk => by rcases hk with rfl | rfl; exact HT3.out.hb; exact HT3.out.hx))))
            rwa [decide_eq_true rfl] at this
          go_wp2_with fail
          go_region_held3 (fun wx => Only (fun k => k = b ∨ k = x) w3 wx ∧ wx.cell? ⟨da, 1, none⟩ = some (.int .i64 xa) ∧ wx.cell? ⟨da, 2, none⟩ = some (.int .i64 xb) ∧ wx.cell? ⟨da, 3, none⟩ = some (.int .i64 xc) ∧ wx.cell? ⟨da, 4, none⟩ = some (.int .i64 xd) ∧ wx.cell? ⟨da, 5, none⟩ = some (.bool xi)) (first | exact HKA.out _ (by assumption))
            (first
              | (go_at_call 21; refine HW1.out.mono ?_; rintro e w5 ⟨rfl, hn5, ho5⟩; have hr5 := HTD.out.first ho5; have hB5 : Only (fun k => k = b ∨ k = x) w3 w5 := hB0.trans (ho5.mono fun k hk => .inl (.inl hk)))
              | (go_at_call 42; refine (HW2.out w5 hr5).mono ?_; rintro e w6 ⟨rfl, hr6, ho6⟩; have hB6 : Only (fun k => k = b ∨ k = x) w3 w6 := hB5.trans (ho6.mono fun k hk => .inl (.inr hk)))
              | (go_at_call 24; refine (HIS.out _ hB6).mono ?_; rintro e w7 ⟨rfl, hb7⟩; have hB7 : Only (fun k => k = b ∨ k = x) w3 w7 := hB6.below' hb7))
          have HT7 := Lib.hid ((HTD.out.step hn5 ho5 hr6 ho6 HIV.out).below hb7)
          have HC7 := Lib.hid (((((HC3.out.below (Below.refl _ _).drew).only ho5 HFC.out.1).only ho6 HFC.out.2)).below hb7)
          clear hn5 ho5 hB5 hr5 hr6 ho6 hB6 hb7 hB7 hB0 c0 c1 c2 c3 c4 c5
          go_wp2_with fail
          refine (bits_all m cb 0 _ HC7.out).mono ?_
          rintro e w8 ⟨rfl, hb8⟩
          have HT8 := Lib.hid (HT7.out.below hb8)
          have HC8 := Lib.hid (HC7.out.below hb8)
          clear hb8
          rw [HP0.out, HM0.out]
          go_wp2_with fail
          refine (bits_all m' b who _ HT8.out.n).mono ?_
          rintro e w9 ⟨rfl, hb9⟩
          have HT9 := Lib.hid (HT8.out.below hb9)
          clear hb9
          have HRB := Lib.hid (rbits_all m' x who _ HT9.out.r)
          have HAN := Lib.hid (any_all m' b who _ HT9.out.n)
          obtain ⟨P1, hP1⟩ : ∃ P : Nat, bpE m' who = P := ⟨_, rfl⟩
          obtain ⟨M1, hM1⟩ : ∃ P : Nat, bmE m' who = P := ⟨_, rfl⟩
          rw [hP1, hM1] at HRB ⊢
          clear hP1 hM1
          go_wp2_with fail
          refine HRB.out.mono ?_
          rintro e w10 ⟨rfl, rfl⟩
          go_wp2_with fail
          refine HAN.out.mono ?_
          rintro e w11 ⟨rfl, hb11⟩
          have HT11 := Lib.hid (HT9.out.below hb11)
          have HLK := Lib.hid (look_all m' x who _ HT11.out.r)
          clear hb11
          obtain ⟨A1, hA1⟩ : ∃ P : Nat, anE m' who = P := ⟨_, rfl⟩
          rw [hA1] at HLK ⊢
          clear hA1
          by_cases hA0 : A1 = 0
          · subst hA0
            go_wp2_with fail
            refine HLK.out.mono ?_
            rintro e w12 ⟨rfl, rfl⟩
            go_wp2
            go_roundw
            case rel => exact ⟨j + 1, m', by omega, by go_num, HT11.out⟩
            case measure => simp [intOf]; omega
          · have t1 : decide (A1 = 0) = false := by simp [hA0]
            have t2 : ((A1 : Int) != 0) = true := by simp [hA0]
            have t3 : ((A1 : Int) == 0) = false := by simp [hA0]
            rw [show decide (A1 ≠ 0) = true by simp [hA0]]
            clear hA0
            go_wp2_with fail
            refine HLK.out.mono ?_
            rintro e w12 ⟨rfl, rfl⟩
            go_wp2
            go_roundw
            case rel => exact ⟨j + 1, m', by omega, by go_num, HT11.out⟩
            case measure => simp [intOf]; omega
      · as_aux_lemma =>
          have HW1 : Hid (Calls Tryd.prog 29 #[.pointer (some ⟨b, 0, none⟩), .int .i64 xa, .int .i64 xb, .bool xi] w3.drew (EPost E b (mkE m xa xb xi) w3.drew)) := Lib.hid (mk_all E m b xa xb xi _ (HEK.out _ HTD.out.wb) HTD.out.n)
          have HW2 : Hid (∀ w5, RNAt w5 x m → Calls Tryd.prog 43 #[.pointer (some ⟨x, 0, none⟩), .int .i64 xa, .int .i64 xb, .bool xi] w5 (REPost x (mkE m xa xb xi) w5)) := Lib.hid fun w5 h => rmk_all m x xa xb xi w5 h
          have HIV := Lib.hid (mkE_inv m xa xb xi HT3.out.i)
          have HSM := Lib.hid (mkE_small m xa xb xi)
          obtain ⟨⟨m', oo⟩, hR⟩ : ∃ R, mkE m xa xb xi = R := ⟨_, rfl⟩
          rw [hR] at HW1 HW2 HIV HSM
          clear hR
          have HIS : Hid (∀ w6, Only (fun k => k = b ∨ k = x) w3 w6 → Calls Tryd.prog 24 #[errO E oo, .int .i64 (codeO oo)] w6 fun e w' => e = .returned (.bool true) ∧ Below w6.heap.size w6 w') := Lib.hid fun w6 h => by
            have := is_any E (errO E oo) (codeO oo) (codeO oo) (errO_code E oo HSM.out) w6 (HEK.out _ (HT3.out.wb.trans (h.below HT3.out.wb.size (fun k hk => by rcases hk with rfl | rfl; exact HT3.out.hb; exact HT3.out.hx))))
            rwa [decide_eq_true rfl] at this
          go_wp2_with fail
          go_region_held3 (fun wx => Only (fun k => k = b ∨ k = x) w3 wx ∧ wx.cell? ⟨da, 1, none⟩ = some (.int .i64 xa) ∧ wx.cell? ⟨da, 2, none⟩ = some (.int .i64 xb) ∧ wx.cell? ⟨da, 3, none⟩ = some (.int .i64 xc) ∧ wx.cell? ⟨da, 4, none⟩ = some (.int .i64 xd) ∧ wx.cell? ⟨da, 5, none⟩ = some (.bool xi)) (first | exact HKA.out _ (by assumption))
            (first
              | (go_at_call 29; refine HW1.out.mono ?_; rintro e w5 ⟨rfl, hn5, ho5⟩; have hr5 := HTD.out.first ho5; have hB5 : Only (fun k => k = b ∨ k = x) w3 w5 := hB0.trans (ho5.mono fun k hk => .inl (.inl hk)))
              | (go_at_call 43; refine (HW2.out w5 hr5).mono ?_; rintro e w6 ⟨rfl, hr6, ho6⟩; have hB6 : Only (fun k => k = b ∨ k = x) w3 w6 := hB5.trans (ho6.mono fun k hk => .inl (.inr hk)))
              | (go_at_call 24; refine (HIS.out _ hB6).mono ?_; rintro e w7 ⟨rfl, hb7⟩; have hB7 : Only (fun k => k = b ∨ k = x) w3 w7 := hB6.below' hb7))
          have HT7 := Lib.hid ((HTD.out.step hn5 ho5 hr6 ho6 HIV.out).below hb7)
          have HC7 := Lib.hid (((((HC3.out.below (Below.refl _ _).drew).only ho5 HFC.out.1).only ho6 HFC.out.2)).below hb7)
          clear hn5 ho5 hB5 hr5 hr6 ho6 hB6 hb7 hB7 hB0 c0 c1 c2 c3 c4 c5
          go_wp2_with fail
          refine (bits_all m cb 0 _ HC7.out).mono ?_
          rintro e w8 ⟨rfl, hb8⟩
          have HT8 := Lib.hid (HT7.out.below hb8)
          have HC8 := Lib.hid (HC7.out.below hb8)
          clear hb8
          rw [HP0.out, HM0.out]
          go_wp2_with fail
          refine (bits_all m' b who _ HT8.out.n).mono ?_
          rintro e w9 ⟨rfl, hb9⟩
          have HT9 := Lib.hid (HT8.out.below hb9)
          clear hb9
          have HRB := Lib.hid (rbits_all m' x who _ HT9.out.r)
          have HAN := Lib.hid (any_all m' b who _ HT9.out.n)
          obtain ⟨P1, hP1⟩ : ∃ P : Nat, bpE m' who = P := ⟨_, rfl⟩
          obtain ⟨M1, hM1⟩ : ∃ P : Nat, bmE m' who = P := ⟨_, rfl⟩
          rw [hP1, hM1] at HRB ⊢
          clear hP1 hM1
          go_wp2_with fail
          refine HRB.out.mono ?_
          rintro e w10 ⟨rfl, rfl⟩
          go_wp2_with fail
          refine HAN.out.mono ?_
          rintro e w11 ⟨rfl, hb11⟩
          have HT11 := Lib.hid (HT9.out.below hb11)
          have HLK := Lib.hid (look_all m' x who _ HT11.out.r)
          clear hb11
          obtain ⟨A1, hA1⟩ : ∃ P : Nat, anE m' who = P := ⟨_, rfl⟩
          rw [hA1] at HLK ⊢
          clear hA1
          by_cases hA0 : A1 = 0
          · subst hA0
            go_wp2_with fail
            refine HLK.out.mono ?_
            rintro e w12 ⟨rfl, rfl⟩
            go_wp2
            go_roundw
            case rel => exact ⟨j + 1, m', by omega, by go_num, HT11.out⟩
            case measure => simp [intOf]; omega
          · have t1 : decide (A1 = 0) = false := by simp [hA0]
            have t2 : ((A1 : Int) != 0) = true := by simp [hA0]
            have t3 : ((A1 : Int) == 0) = false := by simp [hA0]
            rw [show decide (A1 ≠ 0) = true by simp [hA0]]
            clear hA0
            go_wp2_with fail
            refine HLK.out.mono ?_
            rintro e w12 ⟨rfl, rfl⟩
            go_wp2
            go_roundw
            case rel => exact ⟨j + 1, m', by omega, by go_num, HT11.out⟩
            case measure => simp [intOf]; omega
      · as_aux_lemma =>
          have HAN := Lib.hid (any_all m b xa _ HTD.out.n)
          have HLK : Hid (∀ w5, RNAt w5 x m → Calls Tryd.prog 44 #[.pointer (some ⟨x, 0, none⟩), .int .i64 xa] w5 fun e w' => e = .returned (.int .u32 (anE m xa : Nat)) ∧ w5 = w') := Lib.hid fun w5 h => look_all m x xa w5 h
          have HTK : Hid (∀ w5, NAt w5 b m → Calls Tryd.prog 22 #[.pointer (some ⟨b, 0, none⟩), .int .i64 xa] w5 fun e w' => e = .returned (.int .u32 (anE m xa : Nat)) ∧ NAt w' b (tkE m xa) ∧ Only (fun k => k = b) w5 w') := Lib.hid fun w5 h => take_all m b xa w5 h
          have HRT : Hid (∀ w5, RNAt w5 x m → Calls Tryd.prog 45 #[.pointer (some ⟨x, 0, none⟩), .int .i64 xa] w5 fun e w' => e = .returned (.int .u32 (anE m xa : Nat)) ∧ RNAt w' x (tkE m xa) ∧ Only (fun k => k = x) w5 w') := Lib.hid fun w5 h => rtake_all m x xa w5 h
          have HIV := Lib.hid (tkE_inv m xa HT3.out.i)
          obtain ⟨m', hm'⟩ : ∃ R, tkE m xa = R := ⟨_, rfl⟩
          rw [hm'] at HTK HRT HIV
          obtain ⟨A0, hA0⟩ : ∃ R : Nat, anE m xa = R := ⟨_, rfl⟩
          rw [hA0] at HAN HLK HTK HRT
          clear hm' hA0
          have HA : Hid ((A0 = 0 ∧ decide (A0 ≠ 0) = false) ∨ (((A0 : Int) != 0) = true ∧ ((A0 : Int) == 0) = false ∧ decide (A0 = 0) = false ∧ decide (A0 ≠ 0) = true)) := Lib.hid (by
            by_cases e : A0 = 0
            · exact .inl ⟨e, by simp [e]⟩
            · exact .inr ⟨by simp [e], by simp [e], by simp [e], by simp [e]⟩)
          rcases HA.out with ⟨rfl, a1⟩ | ⟨a2, a3, a4, a1⟩
          all_goals
            rw [a1] at HAN
            clear a1 HA
            go_wp2_with fail
            go_region_held3 (fun wx => Only (fun k => k = b ∨ k = x) w3 wx ∧ wx.cell? ⟨da, 1, none⟩ = some (.int .i64 xa) ∧ wx.cell? ⟨da, 2, none⟩ = some (.int .i64 xb) ∧ wx.cell? ⟨da, 3, none⟩ = some (.int .i64 xc) ∧ wx.cell? ⟨da, 4, none⟩ = some (.int .i64 xd) ∧ wx.cell? ⟨da, 5, none⟩ = some (.bool xi)) (first | exact HKA.out _ (by assumption))
              (first
                | (go_at_call 31; refine HAN.out.mono ?_; rintro e w4 ⟨rfl, hb4⟩; have ht4 := HTD.out.below hb4; have hB4 : Only (fun k => k = b ∨ k = x) w3 w4 := hB0.below' hb4)
                | (go_at_call 44; refine (HLK.out w4 ht4.r).mono ?_; rintro e w4' ⟨rfl, rfl⟩)
                | (go_at_call 22; refine (HTK.out w4 ht4.n).mono ?_; rintro e w5 ⟨rfl, hn5, ho5⟩; have hr5 := ht4.first ho5; have hB5 : Only (fun k => k = b ∨ k = x) w3 w5 := hB4.trans (ho5.mono fun k hk => .inl (.inl hk)))
                | (go_at_call 45; refine (HRT.out w5 hr5).mono ?_; rintro e w7 ⟨rfl, hr6, ho6⟩; have hB6 : Only (fun k => k = b ∨ k = x) w3 w7 := hB5.trans (ho6.mono fun k hk => .inl (.inr hk))))
            have HT7 := Lib.hid (ht4.step hn5 ho5 hr6 ho6 HIV.out)
            have HC7 := Lib.hid (((((HC3.out.below (Below.refl _ _).drew).below hb4).only ho5 HFC.out.1).only ho6 HFC.out.2))
            clear hn5 ho5 hB5 hr5 hr6 ho6 hB6 hb4 hB4 ht4 hB0 c0 c1 c2 c3 c4 c5
            go_wp2_with fail
            refine (bits_all m cb 0 _ HC7.out).mono ?_
            rintro e w8 ⟨rfl, hb8⟩
            have HT8 := Lib.hid (HT7.out.below hb8)
            have HC8 := Lib.hid (HC7.out.below hb8)
            clear hb8
            rw [HP0.out, HM0.out]
            go_wp2_with fail
            refine (bits_all m' b who _ HT8.out.n).mono ?_
            rintro e w9 ⟨rfl, hb9⟩
            have HT9 := Lib.hid (HT8.out.below hb9)
            clear hb9
            have HRB := Lib.hid (rbits_all m' x who _ HT9.out.r)
            have HAN := Lib.hid (any_all m' b who _ HT9.out.n)
            obtain ⟨P1, hP1⟩ : ∃ P : Nat, bpE m' who = P := ⟨_, rfl⟩
            obtain ⟨M1, hM1⟩ : ∃ P : Nat, bmE m' who = P := ⟨_, rfl⟩
            rw [hP1, hM1] at HRB ⊢
            clear hP1 hM1
            go_wp2_with fail
            refine HRB.out.mono ?_
            rintro e w10 ⟨rfl, rfl⟩
            go_wp2_with fail
            refine HAN.out.mono ?_
            rintro e w11 ⟨rfl, hb11⟩
            have HT11 := Lib.hid (HT9.out.below hb11)
            have HLK := Lib.hid (look_all m' x who _ HT11.out.r)
            clear hb11
            obtain ⟨A1, hA1⟩ : ∃ P : Nat, anE m' who = P := ⟨_, rfl⟩
            rw [hA1] at HLK ⊢
            clear hA1
            by_cases hA0 : A1 = 0
            · subst hA0
              go_wp2_with fail
              refine HLK.out.mono ?_
              rintro e w12 ⟨rfl, rfl⟩
              go_wp2
              go_roundw
              case rel => exact ⟨j + 1, m', by omega, by go_num, HT11.out⟩
              case measure => simp [intOf]; omega
            · have t1 : decide (A1 = 0) = false := by simp [hA0]
              have t2 : ((A1 : Int) != 0) = true := by simp [hA0]
              have t3 : ((A1 : Int) == 0) = false := by simp [hA0]
              rw [show decide (A1 ≠ 0) = true by simp [hA0]]
              clear hA0
              go_wp2_with fail
              refine HLK.out.mono ?_
              rintro e w12 ⟨rfl, rfl⟩
              go_wp2
              go_roundw
              case rel => exact ⟨j + 1, m', by omega, by go_num, HT11.out⟩
              case measure => simp [intOf]; omega
    · obtain rfl : j = l.length := by omega
      have HS2 : Hid (LooksE w b x m (.int .i64 0) wr) := Lib.hid ⟨0, Nat.zero_le _, rfl, HT.out⟩
      clear HT HL
      go_wp2_with fail
      go_loopw [23] (fun i wr => LooksE w b x m i wr) (fun i _ => 8 - (intOf i).toNat)
      case atStart => exact HS2.out
      case round =>
        obtain ⟨g, hg, rfl, ht⟩ := hrel
        have HT := Lib.hid ht
        clear ht HS2
        by_cases hg8 : g < 8
        · have hgi : (g : Int) < 8 := by omega
          have HS3 : Hid (LooksE2 w b x m (.int .i64 (-1)) wr) := Lib.hid ⟨0, Nat.zero_le _, rfl, HT.out⟩
          clear HT
          go_wp2_with fail
          go_loopw [24] (fun i wr => LooksE2 w b x m i wr) (fun i _ => 18 - (intOf i + 1).toNat)
          case atStart => exact HS3.out
          case round =>
            obtain ⟨k, hk, rfl, ht⟩ := hrel
            have HT := Lib.hid ht
            clear ht HS3
            have hc : k = 0 ∨ (∃ r, r < 16 ∧ k = r + 1) ∨ k = 17 ∨ k = 18 := by
              by_cases h0 : k = 0
              · exact .inl h0
              · by_cases h1 : k ≤ 16
                · exact .inr (.inl ⟨k - 1, by omega, by omega⟩)
                · by_cases h2 : k = 17
                  · exact .inr (.inr (.inl h2))
                  · exact .inr (.inr (.inr (by omega)))
            have HE1 : Hid (∀ p : Int, (p < 0 ∨ 16 ≤ p) → ∀ wx, NAt wx b m → Calls Tryd.prog 30 #[.pointer (some ⟨b, 0, none⟩), .int .i64 g, .int .i64 p] wx fun e w' => e = .returned (.tuple #[.agg #[.bool false, .bool false, .bool false, .int .i64 0, .int .i64 0], .bool false]) ∧ Below wx.heap.size wx w') := Lib.hid fun p hp wx hn => eget_none m b g p wx hn hg8 (by unfold atP; rw [if_neg (by omega)])
            rcases hc with rfl | ⟨r, hr, rfl⟩ | rfl | rfl
            · rw [show ((0 : Nat) : Int) - 1 = -1 from rfl]
              go_wp2_with fail
              refine (HE1.out (-1) (by decide) _ HT.out.n).mono ?_
              rintro e w3 ⟨rfl, hb3⟩
              have HT3 : Hid (∀ X, EvS w b x m (w3.alloc X)) := Lib.hid fun X => (HT.out.below hb3).below ((Below.refl _ _).alloc (Nat.le_refl _) _)
              clear hb3
              go_wp2_with fail
              go_quiet (fail)
              go_wp2
              go_roundw
              case rel => exact ⟨1, by omega, rfl, (HT3.out _).below (below_drewN (Below.refl _ _) _)⟩
              case measure => simp [intOf]
            · rw [show ((r + 1 : Nat) : Int) - 1 = (r : Int) by omega]
              have hri : (r : Int) < 16 := by omega
              have hri' : (r : Int) ≤ 16 := by omega
              have HGL := Lib.hid (fun wx hn hlv => get_live m b g r wx hn hg8 hr hlv)
              have HGN : Hid (∀ wx, NAt wx b m → (m.getD (g * 16 + r) default).live = false → Calls Tryd.prog 30 #[.pointer (some ⟨b, 0, none⟩), .int .i64 g, .int .i64 r] wx fun e w' => e = .returned (.tuple #[.agg #[.bool false, .bool false, .bool false, .int .i64 0, .int .i64 0], .bool false]) ∧ Below wx.heap.size wx w') := Lib.hid fun wx hn hlv => eget_none m b g r wx hn hg8 (atP_dead m g r hlv)
              have HCC : Hid (∀ wx, RNAt wx x m → wx.cell? ⟨x, g * 80 + r * 5, none⟩ = some (.bool (m.getD (g * 16 + r) default).live) ∧ wx.cell? ⟨x, g * 80 + r * 5 + 1, none⟩ = some (.bool (m.getD (g * 16 + r) default).masked) ∧ wx.cell? ⟨x, g * 80 + r * 5 + 2, none⟩ = some (.bool (m.getD (g * 16 + r) default).pend) ∧ wx.cell? ⟨x, g * 80 + r * 5 + 3, none⟩ = some (.int .i64 (gP (m.getD (g * 16 + r) default))) ∧ wx.cell? ⟨x, g * 80 + r * 5 + 4, none⟩ = some (.int .i64 (pP (m.getD (g * 16 + r) default)))) := Lib.hid fun wx hn => hn.cells g r hg8 hr
              obtain ⟨v0, hv0⟩ : ∃ v, (m.getD (g * 16 + r) default).live = v := ⟨_, rfl⟩
              obtain ⟨v1, hv1⟩ : ∃ v, (m.getD (g * 16 + r) default).masked = v := ⟨_, rfl⟩
              obtain ⟨v2, hv2⟩ : ∃ v, (m.getD (g * 16 + r) default).pend = v := ⟨_, rfl⟩
              obtain ⟨v3, hv3⟩ : ∃ v, gP (m.getD (g * 16 + r) default) = v := ⟨_, rfl⟩
              obtain ⟨v4, hv4⟩ : ∃ v, pP (m.getD (g * 16 + r) default) = v := ⟨_, rfl⟩
              rw [hv0, hv1, hv2, hv3, hv4] at HGL HCC
              rw [hv0] at HGN
              clear hv0 hv1 hv2 hv3 hv4
              cases v0
              · go_wp2_with fail
                refine (HGN.out _ HT.out.n (by trivial)).mono ?_
                rintro e w3 ⟨rfl, hb3⟩
                have HT3 : Hid (∀ X, EvS w b x m (w3.alloc X)) := Lib.hid fun X => (HT.out.below hb3).below ((Below.refl _ _).alloc (Nat.le_refl _) _)
                have hxb : x < w3.heap.size := (HT.out.below hb3).r.lt
                obtain ⟨c0, -, -, -, -⟩ := HCC.out _ (HT.out.below hb3).r
                clear hb3
                go_wp2_with fail
                go_quiet (fail)
                go_wp2
                go_roundw
                case rel => exact ⟨r + 2, by omega, by go_num, (HT3.out _).below (below_drewN (Below.refl _ _) _)⟩
                case measure => simp [intOf]; omega
              · go_wp2_with fail
                refine (HGL.out _ HT.out.n (by trivial)).mono ?_
                rintro e w3 ⟨rfl, hb3⟩
                have HT3 := Lib.hid (HT.out.below hb3)
                obtain ⟨c0, -, -, -, -⟩ := HCC.out _ (HT.out.below hb3).r
                have hxb : x < w3.heap.size := (HT.out.below hb3).r.lt
                clear hb3
                go_wp2_with fail
                obtain ⟨wA, hwA⟩ : ∃ wA, wA = w3.alloc (.cells #[.bool true, .bool v1, .bool v2, .int .i64 v3, .int .i64 v4] 67) := ⟨_, rfl⟩
                have hba : Below w3.heap.size w3 wA := hwA ▸ Below.alloc (Below.refl _ _) (Nat.le_refl _) _
                have HTA := Lib.hid (HT3.out.below hba)
                have HBLK : Hid (wA.heap[w3.heap.size]? = some (.cells #[.bool true, .bool v1, .bool v2, .int .i64 v3, .int .i64 v4] 67 (0, 0))) := Lib.hid (hwA ▸ blk_new w3 _)
                rw [← hwA]
                obtain ⟨da, hda⟩ : ∃ da, w3.heap.size = da := ⟨_, rfl⟩
                rw [hda] at HBLK hxb ⊢
                clear hwA hba hda c0
                have HKA : Hid (∀ wx, Below wA.heap.size wA wx → Below wA.heap.size wA wx ∧ wx.cell? ⟨da, 0, none⟩ = some (.bool true) ∧ wx.cell? ⟨da, 1, none⟩ = some (.bool v1) ∧ wx.cell? ⟨da, 2, none⟩ = some (.bool v2) ∧ wx.cell? ⟨da, 3, none⟩ = some (.int .i64 v3) ∧ wx.cell? ⟨da, 4, none⟩ = some (.int .i64 v4) ∧
                    wx.cell? ⟨x, g * 80 + r * 5, none⟩ = some (.bool true) ∧ wx.cell? ⟨x, g * 80 + r * 5 + 1, none⟩ = some (.bool v1) ∧ wx.cell? ⟨x, g * 80 + r * 5 + 2, none⟩ = some (.bool v2) ∧ wx.cell? ⟨x, g * 80 + r * 5 + 3, none⟩ = some (.int .i64 v3) ∧ wx.cell? ⟨x, g * 80 + r * 5 + 4, none⟩ = some (.int .i64 v4)) := Lib.hid fun wx h => by
                  have hb := blk_below HBLK.out h (blk_lt HBLK.out)
                  obtain ⟨q0, q1, q2, q3, q4⟩ := HCC.out _ (HTA.out.r.below h)
                  exact ⟨h, blk_cell hb 0, blk_cell hb 1, blk_cell hb 2, blk_cell hb 3, blk_cell hb 4, q0, q1, q2, q3, q4⟩
                obtain ⟨-, a0, a1, a2, a3, a4, q0, q1, q2, q3, q4⟩ := HKA.out _ (Below.refl _ wA)
                have hB0 : Below wA.heap.size wA wA.drew := (Below.refl _ _).drew
                go_region_held3 (fun wx => Below wA.heap.size wA wx ∧ wx.cell? ⟨da, 0, none⟩ = some (.bool true) ∧ wx.cell? ⟨da, 1, none⟩ = some (.bool v1) ∧ wx.cell? ⟨da, 2, none⟩ = some (.bool v2) ∧ wx.cell? ⟨da, 3, none⟩ = some (.int .i64 v3) ∧ wx.cell? ⟨da, 4, none⟩ = some (.int .i64 v4) ∧
                    wx.cell? ⟨x, g * 80 + r * 5, none⟩ = some (.bool true) ∧ wx.cell? ⟨x, g * 80 + r * 5 + 1, none⟩ = some (.bool v1) ∧ wx.cell? ⟨x, g * 80 + r * 5 + 2, none⟩ = some (.bool v2) ∧ wx.cell? ⟨x, g * 80 + r * 5 + 3, none⟩ = some (.int .i64 v3) ∧ wx.cell? ⟨x, g * 80 + r * 5 + 4, none⟩ = some (.int .i64 v4)) (first | exact HKA.out _ (by assumption))
                  (first
                    | (go_at_call 47; refine (samePort_refl true v1 v2 v3 v4 _).mono ?_; rintro e w5 ⟨rfl, hb5⟩; have hB5 : Below wA.heap.size wA w5 := hB0.trans (hb5.mono hB0.size)))
                have HT5 := Lib.hid (HTA.out.below hB5)
                clear hB0 hB5 hb5 a0 a1 a2 a3 a4 q0 q1 q2 q3 q4
                go_wp2
                go_roundw
                case rel => exact ⟨r + 2, by omega, by go_num, HT5.out⟩
                case measure => simp [intOf]; omega
            · rw [show ((17 : Nat) : Int) - 1 = 16 from rfl]
              go_wp2_with fail
              refine (HE1.out 16 (by decide) _ HT.out.n).mono ?_
              rintro e w3 ⟨rfl, hb3⟩
              have HT3 : Hid (∀ X, EvS w b x m (w3.alloc X)) := Lib.hid fun X => (HT.out.below hb3).below ((Below.refl _ _).alloc (Nat.le_refl _) _)
              clear hb3
              go_wp2_with fail
              go_quiet (fail)
              go_wp2
              go_roundw
              case rel => exact ⟨18, by omega, rfl, (HT3.out _).below (below_drewN (Below.refl _ _) _)⟩
              case measure => simp [intOf]
            · rw [show ((18 : Nat) : Int) - 1 = 17 from rfl]
              go_wp2
              go_roundw
              case rel => exact ⟨g + 1, by omega, by go_num, HT.out⟩
              case measure => simp [intOf]; omega
        · obtain rfl : g = 8 := by omega
          go_wp2
          go_ret
          exact ⟨rfl, HT.out.wb⟩
theorem evPlays_walk (E : Nat → Addr) (l : List EDo) (ao : Option Addr) (c1 : Nat) (who : Int) (w : World) (hE : ErrsAt errT gOf w E all16) (hl : AtL w ao (l.flatMap edoCells)) :
    Calls Tryd.prog 12 #[.slice ao l.length c1, .int .i64 who] w fun e w' => e = .returned (.bool true) ∧ Below w.heap.size w w' := by
  by_cases h : 100 < l.length
  · exact evPlays_many E l.length ao c1 who w hE h
  · exact evPlays_some E l ao c1 who w hE hl h
end Go.Proofs.YtpmbbbgmaipmbaaDoor
