/-
  MapPlays: for every list of things told and every number asked the call returns true; nothing that was there is turned. Given where the sentinels lie.
-/
import Derived.Test.YtfbicbdfmcdadaaDoorMapOnce
import Derived.Test.YtfbicbdfmcdadaaDoorPmRef2
import Derived.Test.YtfbicbdfmcdadaaDoorSameInts
namespace Go.Proofs.YtfbicbdfmcdadaaDoor
open Go.RowKit

theorem atL_only' {F : Nat → Prop} {W w : World} {ao : Option Addr} {vs : List Value} (h : AtL W ao vs) (ho : Only F W w) (hF : ∀ b off, ao = some ⟨b, off, none⟩ → ¬ F b) : AtL w ao vs := fun k u hk => by
  obtain ⟨b, off, e, hc, hl⟩ := h k u hk
  refine ⟨b, off, e, ?_, Nat.lt_of_lt_of_le hl ho.size⟩
  rw [← hc]
  exact World.cell?_of_block (ho.block b hl (hF b off e))
theorem sameInts_n (xs : List Int) (n : Nat) (ao bo : Option Addr) (c1 c2 : Nat) (w : World) (hx : AtL w ao (ints xs)) (hy : AtL w bo (ints xs)) (h1 : xs.length = n) (hl : n ≤ 1000000000) :
    Calls Tryd.prog 36 #[.slice ao n c1, .slice bo n c2] w fun e w' => e = .returned (.bool true) ∧ Below w.heap.size w w' := by
  subst h1
  refine (sameInts_any xs xs ao bo c1 c2 w hx hy hl hl).mono ?_
  rintro e w' ⟨rfl, k, rfl⟩
  exact ⟨by rw [decide_eq_true rfl], below_drewN (Below.refl _ _) _⟩
theorem is_code (E : Nat → Addr) (o : Option Nat) (ho : ∀ k, o = some k → k < 16) (w : World) (hE : ErrsAt errT gOf w E all16) :
    Calls Tryd.prog 23 #[errOf E o, .int .i64 (codeOf o)] w fun e w' => e = .returned (.bool true) ∧ Below w.heap.size w w' := by
  refine (is_any E (errOf E o) (codeOf o) (codeOf o) ?_ w hE).mono ?_
  · cases o with
    | none => exact .inl ⟨rfl, rfl⟩
    | some k => exact .inr ⟨k, ho k rfl, rfl, rfl⟩
  · rintro e w' ⟨rfl, hb⟩
    exact ⟨by rw [decide_eq_true rfl], hb⟩
theorem addC_lt {l : List Int} {x : Int} : ∀ k, addC l x = some k → k < 16 := by
  intro k h
  unfold addC at h
  repeat (split at h <;> try (cases h <;> decide))
theorem putC_lt {l : List Int} {n x : Int} : ∀ k, putC l n x = some k → k < 16 := by
  intro k h
  unfold putC at h
  repeat (split at h <;> try (cases h <;> decide))

def PlaysTo (n : Nat) (w : World) (b : Nat) (xv i : Value) (wr : World) : Prop :=
  ∃ j : Nat, ∃ v l ao cap, j ≤ n ∧ i = .int .i64 (j : Int) ∧ xv = .slice ao l.length cap ∧ PAt wr b v l ∧ PGood l ∧ AtL wr ao (ints l) ∧ (∀ k o, ao = some ⟨k, o, none⟩ → k < wr.heap.size ∧ k ≠ b ∧ ¬ inRow v k) ∧ (∀ k, inRow v k → w.heap.size ≤ k) ∧ Below w.heap.size w wr

/-- what is known behind both answers -/
structure Behind (l' m : List Int) (b cb : Nat) (v' cv : Value) (av : Option Addr) (w wz : World) : Prop where
  p : PAt wz b v' l'
  c : PAt wz cb cv m
  a : AtL wz av (ints l')
  s : ∀ k o, av = some ⟨k, o, none⟩ → k < wz.heap.size ∧ k ≠ b ∧ ¬ inRow v' k
  v : ∀ k, inRow v' k → w.heap.size ≤ k
  w : Below w.heap.size w wz
theorem Behind.below {l' m : List Int} {b cb : Nat} {v' cv : Value} {av : Option Addr} {w wz wy : World} (h : Behind l' m b cb v' cv av w wz) (hb : Below wz.heap.size wz wy) : Behind l' m b cb v' cv av w wy :=
  ⟨h.p.below hb, h.c.below hb, h.a.mono hb, fun k o e => ⟨Nat.lt_of_lt_of_le (h.s k o e).1 hb.size, (h.s k o e).2⟩, h.v, h.w.trans (hb.mono h.w.size)⟩
/-- the map is told: the document's list stays -/
theorem Behind.map {l l' m : List Int} {b cb : Nat} {v cv : Value} {ao : Option Addr} {w w4 w5 : World} (h : Behind l m b cb v cv ao w w4) (hbw : w.heap.size ≤ b) (hcb : cb ≠ b ∧ ¬ inRow v cb) (hcv : ∀ k, inRow cv k → k ≠ b ∧ ¬ inRow v k) (hm : MapAns l' b v w4 w5) :
    ∃ v', PAt w5 b v' l' ∧ PAt w5 cb cv m ∧ AtL w5 ao (ints l) ∧ (∀ k o, ao = some ⟨k, o, none⟩ → k < w5.heap.size ∧ k ≠ b ∧ ¬ inRow v' k) ∧ (∀ k, inRow v' k → w.heap.size ≤ k) ∧ Below w.heap.size w w5 := by
  obtain ⟨v', hp, ho, hs⟩ := hm
  have hF : ∀ k, (k = b ∨ inRow v k) → w.heap.size ≤ k := fun k hk => hk.elim (fun e => by omega) (h.v k)
  refine ⟨v', hp, h.c.only ho (fun e => e.elim hcb.1 hcb.2) (fun k hk e => e.elim (hcv k hk).1 (hcv k hk).2), atL_only' h.a ho (fun k o e hk => hk.elim (h.s k o e).2.1 (h.s k o e).2.2), fun k o e => ⟨Nat.lt_of_lt_of_le (h.s k o e).1 ho.size, (h.s k o e).2.1, fun hk => ?_⟩, fun k hk => ?_, h.w.trans (ho.below h.w.size hF)⟩
  · rcases hs k hk with h2 | h2
    · exact (h.s k o e).2.2 h2
    · have := (h.s k o e).1
      omega
  · rcases hs k hk with h2 | h2
    · exact h.v k h2
    · exact Nat.le_trans h.w.size h2
theorem map_over {l' m : List Int} {vs : List Value} {b cb : Nat} {v cv : Value} {ao : Option Addr} {w w4 w5 : World} (hc : PAt w4 cb cv m) (ha : AtL w4 ao vs) (hs0 : ∀ k o, ao = some ⟨k, o, none⟩ → k < w4.heap.size ∧ k ≠ b ∧ ¬ inRow v k) (hv : ∀ k, inRow v k → w.heap.size ≤ k) (hw : Below w.heap.size w w4)
    (hbw : w.heap.size ≤ b) (hcb : cb ≠ b ∧ ¬ inRow v cb) (hcv : ∀ k, inRow cv k → k ≠ b ∧ ¬ inRow v k) (hm : MapAns l' b v w4 w5) :
    ∃ v', PAt w5 b v' l' ∧ PAt w5 cb cv m ∧ AtL w5 ao vs ∧ (∀ k o, ao = some ⟨k, o, none⟩ → k < w5.heap.size ∧ k ≠ b ∧ ¬ inRow v' k) ∧ (∀ k, inRow v' k → w.heap.size ≤ k) ∧ Below w.heap.size w w5 := by
  obtain ⟨v', hp, ho, hs⟩ := hm
  have hF : ∀ k, (k = b ∨ inRow v k) → w.heap.size ≤ k := fun k hk => hk.elim (fun e => by omega) (hv k)
  refine ⟨v', hp, hc.only ho (fun e => e.elim hcb.1 hcb.2) (fun k hk e => e.elim (hcv k hk).1 (hcv k hk).2), atL_only' ha ho (fun k o e hk => hk.elim (hs0 k o e).2.1 (hs0 k o e).2.2), fun k o e => ⟨Nat.lt_of_lt_of_le (hs0 k o e).1 ho.size, (hs0 k o e).2.1, fun hk => ?_⟩, fun k hk => ?_, hw.trans (ho.below hw.size hF)⟩
  · rcases hs k hk with h2 | h2
    · exact (hs0 k o e).2.2 h2
    · have := (hs0 k o e).1
      omega
  · rcases hs k hk with h2 | h2
    · exact hv k h2
    · exact Nat.le_trans hw.size h2
theorem below_undrew {B : Nat} {w w' : World} (h : Below B w.drew w') (hB : B ≤ w.heap.size) : Below B w w' := ((Below.refl B w).drew).trans h

set_option maxRecDepth 100000 in
set_option maxHeartbeats 1000000 in
theorem plays_many (n : Nat) (ao : Option Addr) (c1 : Nat) (y : Int) (w : World) (h : 100 < n) :
    Calls Tryd.prog 7 #[.slice ao n c1, .int .i64 y] w fun e w' => e = .returned (.bool true) ∧ Below w.heap.size w w' := by
  have h2 : (100 : Int) < (n : Int) := by omega
  clear h
  go_enter Tryd.func7, Tryd.ntmps7
  go_wp2_with fail
  refine (pm_first _).mono ?_
  rintro e w1 ⟨rfl, hb1⟩
  go_wp2
  go_ret
  exact ⟨rfl, hb1⟩

set_option maxRecDepth 100000 in
set_option maxHeartbeats 20000000 in
theorem plays_some (E : Nat → Addr) (l : List Do3) (ao : Option Addr) (c1 : Nat) (ask : Int) (w : World) (hE : ErrsAt errT gOf w E all16) (hl : AtL w ao (doCells l)) (hn : l.length ≤ 100) :
    Calls Tryd.prog 7 #[.slice ao l.length c1, .int .i64 ask] w fun e w' => e = .returned (.bool true) ∧ Below w.heap.size w w' := by
  have HX : Hid (∀ wx, Below w.heap.size w wx → ErrsAt errT gOf wx E all16) := Lib.hid fun wx h => hE.mono h
  have HL := Lib.hid hl
  have hn2 : (l.length : Int) ≤ 100 := by omega
  clear hE hl
  go_enter Tryd.func7, Tryd.ntmps7
  go_wp2_with fail
  refine (pm_first _).mono ?_
  rintro e w1 ⟨rfl, hb1⟩
  have HP := Lib.hid (PAt.new w1)
  have HB0 : Hid (Below w.heap.size w (w1.alloc (.cells #[.slice none 0 0] 47))) := Lib.hid (hb1.alloc hb1.size _)
  have hs1 := hb1.size
  obtain ⟨b, hb⟩ : ∃ b, w1.heap.size = b := ⟨_, rfl⟩
  rw [hb] at HP hs1
  have HBB := Lib.hid hb
  clear hb1 hb
  go_wp2_with fail
  rw [HBB.out]
  go_loopw [7, 8] (fun xv i wr => PlaysTo l.length w b xv i wr) (fun _ i _ => l.length - (intOf i).toNat)
  case atStart => exact ⟨0, _, [], none, 0, Nat.zero_le _, rfl, rfl, HP.out, PGood.nil, atL_nil _ _, fun k o e => by (cases e), fun k hk => by simp [inRow, Value.ownBlock] at hk, HB0.out⟩
  case round =>
    obtain ⟨j, v, m, xa, xc, hj, rfl, rfl, hp, hg, hat, hsep, hv, hbw⟩ := hrel
    have HGm := Lib.hid hg
    have hfew := hg.few
    have HBH : Hid (∀ (w4 : World) (cb : Nat) (cv : Value), PAt w4 cb cv m → Below wr.heap.size wr w4 → Behind m m b cb v cv xa w w4) := Lib.hid fun w4 cb cv hc hb => ⟨hp.below hb, hc, hat.mono hb, fun k o e => ⟨Nat.lt_of_lt_of_le (hsep k o e).1 hb.size, (hsep k o e).2⟩, hv, hbw.trans (hb.mono hbw.size)⟩
    have HPm := Lib.hid hp
    have HAT := Lib.hid hat
    have HW := Lib.hid hbw
    have HCB : Hid (∀ cb, wr.heap.size ≤ cb → cb ≠ b ∧ ¬ inRow v cb) := Lib.hid fun cb h => ⟨fun e => by have := blk_lt hp.1; omega, fun e => by have := own_lt hp.2 e; omega⟩
    clear hp hg hat hsep hv hbw HP HB0
    by_cases hlt : j < l.length
    · obtain ⟨d, off, rfl, -, -, -⟩ := (AtDo.of HL.out) j hlt
      have hji : (j : Int) < (l.length : Int) := by omega
      have hj0 : (0 : Int) ≤ (j : Int) := by omega
      have hw1 := IntWalk.i64_in ((j : Int) + 1) (by omega)
      obtain ⟨⟨kd, a, q⟩, hx⟩ : ∃ x, l.getD j default = x := ⟨_, rfl⟩
      have HK : Hid (∀ wx, Below w.heap.size w wx → Below w.heap.size w wx ∧ wx.cell? ⟨d, off + j * 3, none⟩ = some (.int .i64 kd) ∧ wx.cell? ⟨d, off + j * 3 + 1, none⟩ = some (.int .i64 a) ∧ wx.cell? ⟨d, off + j * 3 + 2, none⟩ = some (.int .i64 q)) := Lib.hid fun wx h => by
        obtain ⟨d', off', he, x0, x1, x2⟩ := (AtDo.of (HL.out.mono h)) j hlt
        cases he
        rw [hx] at x0 x1 x2
        exact ⟨h, x0, x1, x2⟩
      clear hx
      go_wp2_with fail
      refine (pm_clone m b v _ HPm.out (by omega)).mono ?_
      rintro e w4 ⟨cb, cv, rfl, hc, hcb, hcv, hb4⟩
      have HB4 := Lib.hid (HBH.out w4 cb cv hc hb4)
      have HC1 := Lib.hid (HCB.out cb hcb)
      have HC2 : Hid (∀ k, inRow cv k → k ≠ b ∧ ¬ inRow v k) := Lib.hid fun k hk => HCB.out k (hcv k hk)
      clear hc hcb hcv hb4 HBH
      go_wp2_with fail
      refine (pm_len m cb cv _ HB4.out.c).mono ?_
      rintro e wz ⟨rfl, rfl⟩
      obtain ⟨-, y0, y1, y2⟩ := HK.out _ HB4.out.w
      by_cases hk : kd = 1
      · have hk1 : (kd == 1) = true := by simp [hk]
        have HADD := Lib.hid (pm_add_c E m b v a w4 (HX.out _ HB4.out.w).sub4 HB4.out.p HGm.out)
        have HGN := Lib.hid (add_good HGm.out a)
        have HLT := Lib.hid (addC_lt (l := m) (x := a))
        clear hk y2
        go_wp2_with fail
        refine HADD.out.mono ?_
        rintro e w5 ⟨⟨z, rfl, hz⟩, hma⟩
        obtain ⟨v9, hp5, hc5, ha5, hs5, hv5, hw5⟩ := HB4.out.map hs1 HC1.out HC2.out hma
        have HZ := Lib.hid hz
        have HF5 := Lib.hid (addFrame_any m xa xc a w5 ha5 (by omega))
        have HBN : Hid (∀ (w6 : World) (av : Option Addr), AtL w6 av (ints (addL m a)) → (av = xa ∨ ∀ b' off, av = some ⟨b', off, none⟩ → w5.heap.size ≤ b' ∧ b' < w6.heap.size) → Below w5.heap.size w5 w6 → Behind (addL m a) m b cb v9 cv av w w6) := Lib.hid fun w6 av h1 h2 h3 =>
          ⟨hp5.below h3, hc5.below h3, h1, fun k o e => by
            rcases h2 with rfl | h2
            · exact ⟨Nat.lt_of_lt_of_le (hs5 k o e).1 h3.size, (hs5 k o e).2⟩
            · obtain ⟨g1, g2⟩ := h2 k o e
              exact ⟨g2, fun e2 => by have := blk_lt hp5.1; omega, fun e2 => by have := own_lt hp5.2 e2; omega⟩, hv5, hw5.trans (h3.mono hw5.size)⟩
        obtain ⟨-, y0', y1', -⟩ := HK.out _ hw5
        have HW5 := Lib.hid hw5
        clear y0 y1 hz hma hp5 hc5 ha5 hs5 hv5 hw5
        go_wp2_with fail
        refine HF5.out.mono ?_
        rintro e w6 ⟨av, ac, rfl, ha6, hs6, hb6⟩
        have HB6 := Lib.hid (HBN.out w6 av ha6 hs6 hb6)
        clear ha6 hs6 hb6 HBN y0' y1' HF5 HADD
        obtain ⟨LN, hLN⟩ : ∃ LN, addL m a = LN := ⟨_, rfl⟩
        rw [hLN] at HB6 HGN ⊢
        clear hLN
        obtain ⟨o, ho⟩ : ∃ o, addC m a = o := ⟨_, rfl⟩
        rw [ho] at HZ HLT ⊢
        clear ho
        have HIS := Lib.hid (is_code E o HLT.out w6 (HX.out _ HB6.out.w))
        go_wp2_with fail
        refine HIS.out.mono ?_
        rintro e w7 ⟨rfl, hb7⟩
        have HB7 := Lib.hid (HB6.out.below hb7)
        clear hb7 HIS
        have HP9 := Lib.hid HB7.out.p
        have HC9 := Lib.hid HB7.out.c
        have HA9 := Lib.hid HB7.out.a
        have HS9 := Lib.hid HB7.out.s
        have HV9 := Lib.hid HB7.out.v
        have HB9 := Lib.hid HB7.out.w
        have hcd : (codeOf o == 0) = false ∨ (codeOf o = 0 ∧ z = m.length) := by
          cases o with
          | none => exact .inr ⟨rfl, HZ.out rfl⟩
          | some k => exact .inl (by rw [beq_eq_false_iff_ne]; simp [codeOf]; omega)
        obtain ⟨co, hco⟩ : ∃ co, codeOf o = co := ⟨_, rfl⟩
        rw [hco] at hcd ⊢
        clear hco HZ
        rcases hcd with hcd | ⟨hc1, hc2⟩
        · have HSM := Lib.hid (fun wx ax ay cx cy hx hy => sameInts_n LN LN.length ax ay cx cy wx hx hy rfl (by have := HGN.out.few; omega))
          go_wp2_with fail
          refine (pm_len m cb cv _ HC9.out).mono ?_
          rintro e wz ⟨rfl, rfl⟩
          go_wp2_with fail
          refine (pm_len LN b v9 _ HP9.out).mono ?_
          rintro e wz ⟨rfl, rfl⟩
          go_wp2_with fail
          refine (pm_all LN b v9 _ HP9.out (by have := HGN.out.few; omega)).mono ?_
          rintro e wz ⟨qv, rfl, hq, hqf, hbz⟩
          obtain ⟨qa, qc, rfl, hqa⟩ := atL_of_own hq
          have HQ := Lib.hid hqa
          have HPZ := Lib.hid (HP9.out.below hbz)
          have HAZ := Lib.hid (HA9.out.mono hbz)
          have HBZ := Lib.hid (HB9.out.trans (hbz.mono HB9.out.size))
          have HZS := Lib.hid hbz.size
          clear hq hqf hbz hqa
          go_wp2_with fail
          refine (HSM.out _ _ _ _ _ HQ.out HAZ.out).mono ?_
          rintro e wy ⟨rfl, hby⟩
          have HR : Hid (PlaysTo l.length w b (.slice av LN.length ac) (.int .i64 ((j : Int) + 1)) wy) := Lib.hid
            ⟨j + 1, v9, LN, av, ac, by omega, by go_num, rfl, HPZ.out.below hby, HGN.out, HAZ.out.mono hby, fun k o e => ⟨Nat.lt_of_lt_of_le (HS9.out k o e).1 (Nat.le_trans HZS.out hby.size), (HS9.out k o e).2⟩, HV9.out, HBZ.out.trans (hby.mono HBZ.out.size)⟩
          clear hby
          go_wp2
          go_roundw
          case rel => exact HR.out
          case measure => simp [intOf]; omega
        · subst hc1
          subst hc2
          have HSM := Lib.hid (fun wx ax ay cx cy hx hy => sameInts_n LN LN.length ax ay cx cy wx hx hy rfl (by have := HGN.out.few; omega))
          go_wp2_with fail
          refine (pm_len m cb cv _ HC9.out).mono ?_
          rintro e wz ⟨rfl, rfl⟩
          go_wp2_with fail
          refine (pm_len LN b v9 _ HP9.out).mono ?_
          rintro e wz ⟨rfl, rfl⟩
          go_wp2_with fail
          refine (pm_all LN b v9 _ HP9.out (by have := HGN.out.few; omega)).mono ?_
          rintro e wz ⟨qv, rfl, hq, hqf, hbz⟩
          obtain ⟨qa, qc, rfl, hqa⟩ := atL_of_own hq
          have HQ := Lib.hid hqa
          have HPZ := Lib.hid (HP9.out.below hbz)
          have HAZ := Lib.hid (HA9.out.mono hbz)
          have HBZ := Lib.hid (HB9.out.trans (hbz.mono HB9.out.size))
          have HZS := Lib.hid hbz.size
          clear hq hqf hbz hqa
          go_wp2_with fail
          refine (HSM.out _ _ _ _ _ HQ.out HAZ.out).mono ?_
          rintro e wy ⟨rfl, hby⟩
          have HR : Hid (PlaysTo l.length w b (.slice av LN.length ac) (.int .i64 ((j : Int) + 1)) wy) := Lib.hid
            ⟨j + 1, v9, LN, av, ac, by omega, by go_num, rfl, HPZ.out.below hby, HGN.out, HAZ.out.mono hby, fun k o e => ⟨Nat.lt_of_lt_of_le (HS9.out k o e).1 (Nat.le_trans HZS.out hby.size), (HS9.out k o e).2⟩, HV9.out, HBZ.out.trans (hby.mono HBZ.out.size)⟩
          clear hby
          go_wp2
          go_roundw
          case rel => exact HR.out
          case measure => simp [intOf]; omega
      · have hk1 : (kd == 1) = false := by simp [hk]
        have HPF : Hid (Calls Tryd.prog 35 #[.slice xa m.length xc, .int .i64 a, .int .i64 q] w4.drew (RefAns (putL m a q) xa (putC m a q) w4.drew)) := Lib.hid (putFrame_any m HGm.out xa xc a q w4.drew (show AtL w4 xa (ints m) from HB4.out.a))
        have HGN := Lib.hid (put_good HGm.out a q)
        have HLT := Lib.hid (putC_lt (l := m) (n := a) (x := q))
        have hB4 := HB4.out.w.drew
        clear hk
        go_wp2_with fail
        go_region_held3 (fun wx => Below w.heap.size w wx ∧ wx.cell? ⟨d, off + j * 3, none⟩ = some (.int .i64 kd) ∧ wx.cell? ⟨d, off + j * 3 + 1, none⟩ = some (.int .i64 a) ∧ wx.cell? ⟨d, off + j * 3 + 2, none⟩ = some (.int .i64 q)) (exact HK.out _ (by assumption))
          (first | (go_at_call 35; refine HPF.out.mono ?_; rintro e w5 ⟨av, ac, rfl, ha5, hs5, hb5⟩; have hB5 : Below w.heap.size w w5 := HB4.out.w.trans ((below_undrew hb5 (Nat.le_refl _)).mono HB4.out.w.size)))
        have HY := Lib.hid (HB4.out.below (below_undrew hb5 (Nat.le_refl _)))
        have HPT : Hid (Calls Tryd.prog 28 #[.pointer (some ⟨b, 0, none⟩), .int .i64 a, .int .i64 q] w5.drew fun e w' => e = .returned (errOf E (putC m a q)) ∧ MapAns (putL m a q) b v w5.drew w') := Lib.hid (pm_put_c E m b v a q w5.drew (show ErrsAt errT gOf w5 E p4 from (HX.out _ hB5).sub4) (show PAt w5 b v m from HY.out.p) HGm.out)
        have HM2 : Hid (∀ w6, MapAns (putL m a q) b v w5.drew w6 → ∃ v', PAt w6 b v' (putL m a q) ∧ PAt w6 cb cv m ∧ AtL w6 av (ints (putL m a q)) ∧ (∀ k o, av = some ⟨k, o, none⟩ → k < w6.heap.size ∧ k ≠ b ∧ ¬ inRow v' k) ∧ (∀ k, inRow v' k → w.heap.size ≤ k) ∧ Below w.heap.size w w6) := Lib.hid fun w6 hma =>
          map_over (w4 := w5.drew) (show PAt w5 cb cv m from HY.out.c) (show AtL w5 av _ from ha5) (fun k o e => by
            rcases hs5 with rfl | hs5
            · exact HY.out.s k o e
            · obtain ⟨g1, g2⟩ := hs5 k o e
              have g1' : w4.heap.size ≤ k := g1
              exact ⟨g2, fun e2 => by have := blk_lt HB4.out.p.1; omega, fun e2 => by have := own_lt HB4.out.p.2 e2; omega⟩) HB4.out.v hB5.drew hs1 HC1.out HC2.out hma
        have HIS : Hid (∀ wx, Below w.heap.size w wx → Calls Tryd.prog 23 #[errOf E (putC m a q), .int .i64 (codeOf (putC m a q))] wx fun e w' => e = .returned (.bool true) ∧ Below wx.heap.size wx w') := Lib.hid fun wx h => is_code E (putC m a q) HLT.out wx (HX.out _ h)
        clear HPF ha5 hs5 hb5 hB4 y0 y1 y2
        have hB5d := hB5.drew
        obtain ⟨-, y0, y1, y2⟩ := HK.out _ hB5
        go_wp2_with fail
        go_region_held3 (fun wx => Below w.heap.size w wx ∧ wx.cell? ⟨d, off + j * 3, none⟩ = some (.int .i64 kd) ∧ wx.cell? ⟨d, off + j * 3 + 1, none⟩ = some (.int .i64 a) ∧ wx.cell? ⟨d, off + j * 3 + 2, none⟩ = some (.int .i64 q)) (exact HK.out _ (by assumption))
          (first
            | (go_at_call 28; refine HPT.out.mono ?_; rintro e w6 ⟨rfl, hma⟩; obtain ⟨v9, hp6, hc6, ha6, hs6, hv6, hB6⟩ := HM2.out w6 hma)
            | (go_at_call 23; refine (HIS.out _ (by assumption)).mono ?_; rintro e w7 ⟨rfl, hb7⟩; have hB7 := hB6.trans (hb7.mono hB6.size)))
        have HP9 := Lib.hid (hp6.below hb7)
        have HC9 := Lib.hid (hc6.below hb7)
        have HA9 := Lib.hid (ha6.mono hb7)
        have HS9 : Hid (∀ k o, av = some ⟨k, o, none⟩ → k < w7.heap.size ∧ k ≠ b ∧ ¬ inRow v9 k) := Lib.hid fun k o e => ⟨Nat.lt_of_lt_of_le (hs6 k o e).1 hb7.size, (hs6 k o e).2⟩
        have HV9 := Lib.hid hv6
        have HB9 := Lib.hid hB7
        clear hp6 hc6 ha6 hs6 hv6 hB6 hb7 hB7 hma HPT HM2 HIS hB5 hB5d y0 y1 y2
        obtain ⟨LN, hLN⟩ : ∃ LN, putL m a q = LN := ⟨_, rfl⟩
        rw [hLN] at HP9 HA9 HGN ⊢
        clear hLN
        have HSM := Lib.hid (fun wx ax ay cx cy hx hy => sameInts_n LN LN.length ax ay cx cy wx hx hy rfl (by have := HGN.out.few; omega))
        go_wp2_with fail
        refine (pm_len m cb cv _ HC9.out).mono ?_
        rintro e wz ⟨rfl, rfl⟩
        go_wp2_with fail
        refine (pm_len LN b v9 _ HP9.out).mono ?_
        rintro e wz ⟨rfl, rfl⟩
        go_wp2_with fail
        refine (pm_all LN b v9 _ HP9.out (by have := HGN.out.few; omega)).mono ?_
        rintro e wz ⟨qv, rfl, hq, hqf, hbz⟩
        obtain ⟨qa, qc, rfl, hqa⟩ := atL_of_own hq
        have HQ := Lib.hid hqa
        have HPZ := Lib.hid (HP9.out.below hbz)
        have HAZ := Lib.hid (HA9.out.mono hbz)
        have HBZ := Lib.hid (HB9.out.trans (hbz.mono HB9.out.size))
        have HZS := Lib.hid hbz.size
        clear hq hqf hbz hqa
        go_wp2_with fail
        refine (HSM.out _ _ _ _ _ HQ.out HAZ.out).mono ?_
        rintro e wy ⟨rfl, hby⟩
        have HR : Hid (PlaysTo l.length w b (.slice av LN.length ac) (.int .i64 ((j : Int) + 1)) wy) := Lib.hid
          ⟨j + 1, v9, LN, av, ac, by omega, by go_num, rfl, HPZ.out.below hby, HGN.out, HAZ.out.mono hby, fun k o e => ⟨Nat.lt_of_lt_of_le (HS9.out k o e).1 (Nat.le_trans HZS.out hby.size), (HS9.out k o e).2⟩, HV9.out, HBZ.out.trans (hby.mono HBZ.out.size)⟩
        clear hby
        go_wp2
        go_roundw
        case rel => exact HR.out
        case measure => simp [intOf]; omega
    · have HI1 : Hid (∀ r r', IdxIs m ask r → IdxIs m ask r' → r' = r) := Lib.hid fun r r' h h' => idx_one h' h
      have hfin : (∃ z, getAns m ask = .tuple #[.int .i64 z, .bool true] ∧ 0 ≤ ask ∧ ask < m.length ∧ ∃ d off, xa = some ⟨d, off, none⟩ ∧ wr.cell? ⟨d, off + ask.toNat, none⟩ = some (.int .i64 z)) ∨ (getAns m ask = .tuple #[.int .i64 0, .bool false] ∧ (ask < 0 ∨ (m.length : Int) ≤ ask)) := by
        by_cases h : 0 ≤ ask ∧ ask < m.length
        · obtain ⟨d, off, e, c0, -⟩ := HAT.out ask.toNat _ (ints_get m ask.toNat (by omega))
          exact .inl ⟨_, by unfold getAns; rw [if_pos h], h.1, h.2, d, off, e, c0⟩
        · exact .inr ⟨by unfold getAns; rw [if_neg h], by omega⟩
      rcases hfin with ⟨z, hg, h0, h1, d, off, rfl, c0⟩ | ⟨hg, hout⟩
      · have HGA := Lib.hid hg
        clear hg
        go_wp2_with fail
        refine (pm_get m b v ask _ HPm.out).mono ?_
        rintro e w4 ⟨rfl, rfl⟩
        rw [HGA.out]
        go_wp2_with fail
        refine (pm_of m b v ask _ HPm.out (by omega)).mono ?_
        rintro e w4 ⟨⟨r, rfl, hr⟩, rfl⟩
        have HR := Lib.hid hr
        clear hr
        go_wp2_with fail
        refine (ofFrame_any m m.length _ _ ask _ HAT.out rfl (by omega)).mono ?_
        rintro e w4 ⟨r', rfl, hr', rfl⟩
        obtain rfl := HI1.out _ _ HR.out hr'
        clear hr'
        by_cases hr0 : 0 ≤ r'
        · rw [show max r' 0 = r' by omega, show decide (0 ≤ r') = true by simp [hr0]]
          go_wp2
          go_ret
          exact ⟨ret_bool (by simp), HW.out⟩
        · rw [show max r' 0 = 0 by omega, decide_eq_false hr0]
          go_wp2
          go_ret
          exact ⟨ret_bool (by simp; omega), HW.out⟩
      · have HGA := Lib.hid hg
        clear hg
        rcases hout with h0 | h1
        all_goals
          go_wp2_with fail
          refine (pm_get m b v ask _ HPm.out).mono ?_
          rintro e w4 ⟨rfl, rfl⟩
          rw [HGA.out]
          go_wp2_with fail
          refine (pm_of m b v ask _ HPm.out (by omega)).mono ?_
          rintro e w4 ⟨⟨r, rfl, hr⟩, rfl⟩
          have HR := Lib.hid hr
          clear hr
          go_wp2_with fail
          refine (ofFrame_any m m.length _ _ ask _ HAT.out rfl (by omega)).mono ?_
          rintro e w4 ⟨r', rfl, hr', rfl⟩
          obtain rfl := HI1.out _ _ HR.out hr'
          clear hr'
          by_cases hr0 : 0 ≤ r'
          · rw [show max r' 0 = r' by omega, show decide (0 ≤ r') = true by simp [hr0]]
            go_wp2
            go_ret
            exact ⟨ret_bool (by simp), HW.out⟩
          · rw [show max r' 0 = 0 by omega, decide_eq_false hr0]
            go_wp2
            go_ret
            exact ⟨ret_bool (by simp; omega), HW.out⟩

theorem plays_walk (E : Nat → Addr) (l : List Do3) (ao : Option Addr) (c1 : Nat) (ask : Int) (w : World) (hE : ErrsAt errT gOf w E all16) (hl : AtL w ao (doCells l)) :
    Calls Tryd.prog 7 #[.slice ao l.length c1, .int .i64 ask] w fun e w' => e = .returned (.bool true) ∧ Below w.heap.size w w' := by
  by_cases h : 100 < l.length
  · exact plays_many _ _ _ _ _ h
  · exact plays_some E l ao c1 ask w hE hl (by omega)
end Go.Proofs.YtfbicbdfmcdadaaDoor
