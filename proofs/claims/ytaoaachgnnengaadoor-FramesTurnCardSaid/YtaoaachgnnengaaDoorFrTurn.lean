/-
  FramesTurn: for every five numbers the call returns true; nothing that was there is turned. Given where the sentinels lie.
-/
import Derived.Test.YtaoaachgnnengaaDoorFrFirst
import Derived.Test.YtaoaachgnnengaaDoorFrOne
import Derived.Test.YtaoaachgnnengaaDoorNumber
namespace Go.Proofs.YtaoaachgnnengaaDoor
open Go.RowKit Go.Deep

theorem oneF_new (a : Nat) : List.replicate (a + 1) frNo = oneF a frNo := rfl
theorem oneF_alloc (a V : Nat) (h : V < 8) : frAlloc (oneF a frNo) (V : Int) = ⟨oneF a ⟨(V : Int), 0, 0, 0⟩, 0, 0⟩ := by
  unfold frAlloc
  rw [if_pos (by unfold frOwns; omega), frFree_is (l := oneF a frNo) (i := 0) (by simp [oneF]) rfl (fun k hk => absurd hk (by omega))]
  rfl
theorem oneF_none (a : Nat) (who : Int) (h : who ≠ -1) : ∀ m, m ≤ a + 1 → frOf (oneF a frNo) who m = []
  | 0, _ => rfl
  | m + 1, hm => by
    rw [frOf_succ, oneF_none a who h m (by omega), if_neg]
    have : (oneF a frNo).getD m default = frNo := by
      show (List.replicate (a + 1) frNo).getD m default = frNo
      rw [List.getD_eq_getElem?_getD, List.getElem?_replicate, if_pos (by omega)]
      rfl
    rw [this]
    exact fun e => h e.symm
def TuTo (a b g n : Nat) (q : Nat) (f : Nat → Fr) (w0 : World) (i : Value) (wr : World) : Prop :=
  ∃ j : Nat, j ≤ q ∧ i = .int .i64 (j : Int) ∧ FrAt 95 33 wr b g n (oneF a (f j)) ∧ Only (fun k => k = g) w0 wr

set_option maxRecDepth 100000 in
set_option maxHeartbeats 8000000 in
theorem framesTurn_walk (E : Nat → Addr) (x0 x1 x2 x3 x4 : Int) (w : World) (hE : ErrsAt errT gOf w E all16) (h0 : -9223372036854775808 ≤ x0 ∧ x0 ≤ 9223372036854775807) (h1 : -9223372036854775808 ≤ x1 ∧ x1 ≤ 9223372036854775807) (h2 : -9223372036854775808 ≤ x2 ∧ x2 ≤ 9223372036854775807) (h3 : -9223372036854775808 ≤ x3 ∧ x3 ≤ 9223372036854775807) (h4 : -9223372036854775808 ≤ x4 ∧ x4 ≤ 9223372036854775807) :
    Calls Tryd.prog 5 #[.int .i64 x0, .int .i64 x1, .int .i64 x2, .int .i64 x3, .int .i64 x4] w fun e w' => e = .returned (.bool true) ∧ Below w.heap.size w w' := by
  have HEK : Hid (∀ wx, Below w.heap.size w wx → ErrsAt errT gOf wx E all16) := Lib.hid fun wx hx => hE.mono hx
  have HN0 := Lib.hid (fun wx => number_any x0 10 wx h0.1 h0.2 (by decide) (by decide))
  obtain ⟨a, hq0⟩ : ∃ g : Nat, x0 % 10 = (g : Int) := ⟨(x0 % 10).toNat, by omega⟩
  have hl0 : a < 10 := by omega
  rw [hq0] at HN0
  have HN1 := Lib.hid (fun wx => number_any x1 8 wx h1.1 h1.2 (by decide) (by decide))
  obtain ⟨V, hq1⟩ : ∃ g : Nat, x1 % 8 = (g : Int) := ⟨(x1 % 8).toNat, by omega⟩
  have hl1 : V < 8 := by omega
  rw [hq1] at HN1
  have HN2 := Lib.hid (fun wx => number_any x2 2 wx h2.1 h2.2 (by decide) (by decide))
  obtain ⟨kk, hq2⟩ : ∃ g : Nat, x2 % 2 = (g : Int) := ⟨(x2 % 2).toNat, by omega⟩
  have hl2 : kk < 2 := by omega
  rw [hq2] at HN2
  have HN3 := Lib.hid (fun wx => number_any x3 4 wx h3.1 h3.2 (by decide) (by decide))
  obtain ⟨m, hq3⟩ : ∃ g : Nat, x3 % 4 = (g : Int) := ⟨(x3 % 4).toNat, by omega⟩
  have hl3 : m < 4 := by omega
  rw [hq3] at HN3
  have HN4 := Lib.hid (fun wx => number_any x4 4 wx h4.1 h4.2 (by decide) (by decide))
  obtain ⟨u, hq4⟩ : ∃ g : Nat, x4 % 4 = (g : Int) := ⟨(x4 % 4).toNat, by omega⟩
  have hl4 : u < 4 := by omega
  rw [hq4] at HN4
  have HAI : Hid ((a : Int) + 1 = ((a + 1 : Nat) : Int)) := Lib.hid (by omega)
  obtain ⟨K, hK⟩ : ∃ K : Int, K = (kk : Int) + 1 := ⟨_, rfl⟩
  have HKI := Lib.hid hK.symm
  have hkd : K = 1 ∨ K = 2 := by omega
  have wa := IntWalk.i64_in ((a : Int) + 1) (by omega)
  have wk := IntWalk.i64_in ((kk : Int) + 1) (by omega)
  have wV := IntWalk.i64_in ((V : Int) + 1) (by omega)
  have wmu := IntWalk.i64_in ((m : Int) + (u : Int)) (by omega)
  have HV : Hid ((V : Int) ≠ -1) := Lib.hid (by omega)
  clear hE h0 h1 h2 h3 h4 hq0 hq1 hq2 hq3 hq4 hK
  go_enter Tryd.func5, Tryd.ntmps5
  go_wp2_with fail
  refine (fr_first E _ (HEK.out _ (Below.refl _ _))).mono ?_
  rintro e w1 ⟨rfl, hb1⟩
  have HB1 := Lib.hid hb1
  clear hb1
  go_wp2_with fail
  refine (HN0.out _).mono ?_
  rintro e wz ⟨rfl, rfl⟩
  go_wp2_with fail
  rw [HAI.out]
  refine (HN1.out _).mono ?_
  rintro e wz ⟨rfl, rfl⟩
  go_wp2_with fail
  refine (HN2.out _).mono ?_
  rintro e wz ⟨rfl, rfl⟩
  go_wp2_with fail
  rw [HKI.out]
  refine (HN3.out _).mono ?_
  rintro e wz ⟨rfl, rfl⟩
  go_wp2_with fail
  refine (HN4.out _).mono ?_
  rintro e wz ⟨rfl, rfl⟩
  go_wp2_with fail
  refine (fnew_ok (a + 1) _ (by omega) (by omega)).mono ?_
  rintro e w2 ⟨b, g, rfl, hf, hbb, hgg, hb2⟩
  rw [oneF_new] at hf
  have HB2 := Lib.hid (HB1.out.trans (hb2.mono HB1.out.size))
  have HGG : Hid (w.heap.size ≤ g) := Lib.hid (Nat.le_trans HB1.out.size hgg)
  have HAL := Lib.hid (falloc_any E (oneF a frNo) b g (a + 1) (V : Int) w2 (HEK.out _ HB2.out) hf)
  rw [oneF_alloc a V hl1] at HAL
  unfold FrQA at HAL
  dsimp only at HAL
  rw [show errC E 0 = .nilIface from rfl] at HAL
  clear hf hbb hgg hb2
  go_wp2_with fail
  refine HAL.out.mono ?_
  rintro e w3 ⟨rfl, hf, ho⟩
  have HB3 : Hid (Below w.heap.size w w3) := Lib.hid (HB2.out.trans (ho.below HB2.out.size (fun k hk => by subst hk; exact HGG.out)))
  have HST : Hid (TuTo a b g (a + 1) m (fun j => ⟨(V : Int), 0, (j : Int), 0⟩) w3 (.int .i64 0) w3) := Lib.hid ⟨0, Nat.zero_le _, rfl, hf, Only.refl _ _⟩
  clear hf ho
  go_wp2_with fail
  go_loopw [16] (fun i wr => TuTo a b g (a + 1) m (fun j => ⟨(V : Int), 0, (j : Int), 0⟩) w3 i wr) (fun i _ => m - (intOf i).toNat)
  case atStart => exact HST.out
  case round =>
    obtain ⟨j, hj, rfl, hf, ho⟩ := hrel
    have HF := Lib.hid hf
    have HO := Lib.hid ho
    have HBR : Hid (Below w.heap.size w wr) := Lib.hid (HB3.out.trans (ho.below HB3.out.size (fun k hk => by subst hk; exact HGG.out)))
    clear hf ho HST
    by_cases hlt : j < m
    · have hji : (j : Int) < (m : Int) := by omega
      have HC := Lib.hid (one_write E a b g (a + 1) ⟨(V : Int), 0, (j : Int), 0⟩ ⟨(V : Int), 0, ((j + 1 : Nat) : Int), 0⟩ 0 .nilIface wr (HEK.out _ HBR.out) HF.out HV.out (by refine ⟨⟨?_, ?_⟩, ?_, ?_⟩ <;> dsimp only <;> omega) (rfl) rfl)
      go_wp2_with fail
      refine HC.out.mono ?_
      rintro e w4 ⟨rfl, hf, ho⟩
      have HF4 := Lib.hid hf
      have HO4 := Lib.hid (HO.out.trans ho)
      clear hf ho
      go_wp2
      go_roundw
      case rel => exact ⟨j + 1, by omega, by go_num, HF4.out, HO4.out⟩
      case measure => simp [intOf]; omega
    · have hjq : m = j := by omega
      subst hjq
      clear hlt
      have HF4 : Hid (FrAt 95 33 wr b g (a + 1) (oneF a ⟨(V : Int), 0, (m : Int), 0⟩)) := Lib.hid HF.out
      have HB4 := HBR
      obtain ⟨w4, hw4⟩ : ∃ wz, wr = wz := ⟨_, rfl⟩
      rw [hw4] at HF4 HB4 ⊢
      clear hw4 HF HO HBR
      have HST2 : Hid (TuTo a b g (a + 1) u (fun j => ⟨(V : Int), 0, (m : Int), (j : Int)⟩) w4 (.int .i64 0) w4) := Lib.hid ⟨0, Nat.zero_le _, rfl, HF4.out, Only.refl _ _⟩
      go_wp2_with fail
      go_loopw [17] (fun i wr => TuTo a b g (a + 1) u (fun j => ⟨(V : Int), 0, (m : Int), (j : Int)⟩) w4 i wr) (fun i _ => u - (intOf i).toNat)
      case atStart => exact HST2.out
      case round =>
        obtain ⟨j, hj, rfl, hf, ho⟩ := hrel
        have HF := Lib.hid hf
        have HO := Lib.hid ho
        have HBR : Hid (Below w.heap.size w wr) := Lib.hid (HB4.out.trans (ho.below HB4.out.size (fun k hk => by subst hk; exact HGG.out)))
        clear hf ho HST2
        by_cases hlt : j < u
        · have hji : (j : Int) < (u : Int) := by omega
          have HC := Lib.hid (one_use E a b g (a + 1) ⟨(V : Int), 0, (m : Int), (j : Int)⟩ ⟨(V : Int), 0, (m : Int), ((j + 1 : Nat) : Int)⟩ 0 .nilIface wr (HEK.out _ HBR.out) HF.out HV.out (by refine ⟨⟨?_, ?_⟩, ?_, ?_⟩ <;> dsimp only <;> omega) (rfl) rfl)
          go_wp2_with fail
          refine HC.out.mono ?_
          rintro e w4 ⟨rfl, hf, ho⟩
          have HF4 := Lib.hid hf
          have HO4 := Lib.hid (HO.out.trans ho)
          clear hf ho
          go_wp2
          go_roundw
          case rel => exact ⟨j + 1, by omega, by go_num, HF4.out, HO4.out⟩
          case measure => simp [intOf]; omega
        · have hjq : u = j := by omega
          subst hjq
          clear hlt
          have HF5w : Hid (FrAt 95 33 wr b g (a + 1) (oneF a ⟨(V : Int), 0, (m : Int), (u : Int)⟩)) := Lib.hid HF.out
          have HB5 := HBR
          obtain ⟨w5, hw5⟩ : ∃ wz, wr = wz := ⟨_, rfl⟩
          rw [hw5] at HF5w HB5 ⊢
          clear hw5 HF HO HBR
          have HFw : Hid (FrAt 95 33 w5 b g (a + 1) (oneF a ⟨(V : Int), 0, (m : Int), (u : Int)⟩)) := HF5w
          by_cases hbz : m = 0 ∧ u = 0
          · obtain ⟨rfl, rfl⟩ := hbz
            have HF5 : Hid (FrAt 95 33 w5 b g (a + 1) (oneF a ⟨(V : Int), 0, 0, 0⟩)) := HFw
            have hK0 : K ≠ 0 := by omega
            have HK0 := Lib.hid hK0
            clear hK0
            go_wp2_with fail
            refine (one_make E a b g (a + 1) ⟨(V : Int), 0, 0, 0⟩ ⟨(V : Int), K, 0, 0⟩ 0 .nilIface K (V : Int) w5 (HEK.out _ HB5.out) HF5.out HV.out hkd rfl (by rcases hkd with rfl | rfl <;> rfl) rfl).mono ?_
            rintro e w6 ⟨rfl, hf, ho⟩
            have HF6 := Lib.hid hf
            have HB6 : Hid (Below w.heap.size w w6) := Lib.hid (HB5.out.trans (ho.below HB5.out.size (fun k hk => by subst hk; exact HGG.out)))
            clear hf ho
            go_wp2_with fail
            refine (is_any E .nilIface 0 112 (.inl ⟨rfl, rfl⟩) w6 (HEK.out _ HB6.out)).mono ?_
            rintro e w7 ⟨rfl, hb⟩
            have HF7 := Lib.hid (HF6.out.below hb)
            have HB7 := Lib.hid (HB6.out.trans (hb.mono HB6.out.size))
            clear hb
            go_wp2_with fail
            refine (one_make_not E a b g (a + 1) ⟨(V : Int), K, 0, 0⟩ K ((V : Int) + 1) w7 (HEK.out _ HB7.out) HF7.out HV.out hkd (by show (V : Int) ≠ (V : Int) + 1; omega)).mono ?_
            rintro e w8 ⟨rfl, hf, ho⟩
            have HF8 := Lib.hid hf
            have HB8 : Hid (Below w.heap.size w w8) := Lib.hid (HB7.out.trans (ho.below HB7.out.size (fun k hk => by subst hk; exact HGG.out)))
            clear hf ho
            go_wp2_with fail
            refine (is_any E (errV (E 9)) 110 110 (.inr ⟨9, by decide, rfl, rfl⟩) w8 (HEK.out _ HB8.out)).mono ?_
            rintro e w9 ⟨rfl, hb⟩
            have HF9 := Lib.hid (HF8.out.below hb)
            have HB9 := Lib.hid (HB8.out.trans (hb.mono HB8.out.size))
            clear hb
            go_wp2_with fail
            refine (one_write E a b g (a + 1) ⟨(V : Int), K, 0, 0⟩ ⟨(V : Int), K, 0, 0⟩ 111 (errV (E 10)) w9 (HEK.out _ HB9.out) HF9.out HV.out (by refine ⟨⟨?_, ?_⟩, ?_, ?_⟩ <;> dsimp only <;> omega) (by unfold kWrite; rw [if_pos HK0.out]) rfl).mono ?_
            rintro e w10 ⟨rfl, hf, ho⟩
            have HF10 := Lib.hid hf
            have HB10 : Hid (Below w.heap.size w w10) := Lib.hid (HB9.out.trans (ho.below HB9.out.size (fun k hk => by subst hk; exact HGG.out)))
            clear hf ho
            go_wp2_with fail
            refine (is_any E (errV (E 10)) 111 111 (.inr ⟨10, by decide, rfl, rfl⟩) w10 (HEK.out _ HB10.out)).mono ?_
            rintro e w11 ⟨rfl, hb⟩
            have HF11 := Lib.hid (HF10.out.below hb)
            have HB11 := Lib.hid (HB10.out.trans (hb.mono HB10.out.size))
            clear hb
            go_wp2_with fail
            refine (one_make E a b g (a + 1) ⟨(V : Int), K, 0, 0⟩ ⟨(V : Int), K, 0, 0⟩ 111 (errV (E 10)) K (V : Int) w11 (HEK.out _ HB11.out) HF11.out HV.out hkd rfl (by unfold kMake; rw [if_pos HK0.out]) rfl).mono ?_
            rintro e w12 ⟨rfl, hf, ho⟩
            have HF12 := Lib.hid hf
            have HB12 : Hid (Below w.heap.size w w12) := Lib.hid (HB11.out.trans (ho.below HB11.out.size (fun k hk => by subst hk; exact HGG.out)))
            clear hf ho
            go_wp2_with fail
            refine (is_any E (errV (E 10)) 111 111 (.inr ⟨10, by decide, rfl, rfl⟩) w12 (HEK.out _ HB12.out)).mono ?_
            rintro e w13 ⟨rfl, hb⟩
            have HF13 := Lib.hid (HF12.out.below hb)
            have HB13 := Lib.hid (HB12.out.trans (hb.mono HB12.out.size))
            clear hb
            go_wp2_with fail
            refine (one_use E a b g (a + 1) ⟨(V : Int), K, 0, 0⟩ ⟨(V : Int), K, 0, 1⟩ 0 .nilIface w13 (HEK.out _ HB13.out) HF13.out HV.out (by refine ⟨⟨?_, ?_⟩, ?_, ?_⟩ <;> dsimp only <;> omega) (rfl) rfl).mono ?_
            rintro e w14 ⟨rfl, hf, ho⟩
            have HF14 := Lib.hid hf
            have HB14 : Hid (Below w.heap.size w w14) := Lib.hid (HB13.out.trans (ho.below HB13.out.size (fun k hk => by subst hk; exact HGG.out)))
            clear hf ho
            go_wp2_with fail
            refine (one_plain E a b g (a + 1) ⟨(V : Int), K, 0, 1⟩ ⟨(V : Int), K, 0, 1⟩ 112 (errV (E 11)) (V : Int) w14 (HEK.out _ HB14.out) HF14.out HV.out rfl (by unfold kPlain; rw [if_neg HK0.out]; rfl) rfl).mono ?_
            rintro e w15 ⟨rfl, hf, ho⟩
            have HF15 := Lib.hid hf
            have HB15 : Hid (Below w.heap.size w w15) := Lib.hid (HB14.out.trans (ho.below HB14.out.size (fun k hk => by subst hk; exact HGG.out)))
            clear hf ho
            go_wp2_with fail
            refine (is_any E (errV (E 11)) 112 112 (.inr ⟨11, by decide, rfl, rfl⟩) w15 (HEK.out _ HB15.out)).mono ?_
            rintro e w16 ⟨rfl, hb⟩
            have HF16 := Lib.hid (HF15.out.below hb)
            have HB16 := Lib.hid (HB15.out.trans (hb.mono HB15.out.size))
            clear hb
            go_wp2_with fail
            refine (one_unuse E a b g (a + 1) ⟨(V : Int), K, 0, 1⟩ ⟨(V : Int), K, 0, 0⟩ 0 .nilIface w16 (HEK.out _ HB16.out) HF16.out HV.out (by refine ⟨⟨?_, ?_⟩, ?_, ?_⟩ <;> dsimp only <;> omega) (rfl) rfl).mono ?_
            rintro e w17 ⟨rfl, hf, ho⟩
            have HF17 := Lib.hid hf
            have HB17 : Hid (Below w.heap.size w w17) := Lib.hid (HB16.out.trans (ho.below HB16.out.size (fun k hk => by subst hk; exact HGG.out)))
            clear hf ho
            go_wp2_with fail
            refine (one_plain E a b g (a + 1) ⟨(V : Int), K, 0, 0⟩ ⟨(V : Int), 0, 0, 0⟩ 0 .nilIface (V : Int) w17 (HEK.out _ HB17.out) HF17.out HV.out rfl (by unfold kPlain; rw [if_neg HK0.out]; rfl) rfl).mono ?_
            rintro e w18 ⟨rfl, hf, ho⟩
            have HF18 := Lib.hid hf
            have HB18 : Hid (Below w.heap.size w w18) := Lib.hid (HB17.out.trans (ho.below HB17.out.size (fun k hk => by subst hk; exact HGG.out)))
            clear hf ho
            go_wp2_with fail
            refine (one_free E a b g (a + 1) ⟨(V : Int), 0, 0, 0⟩ frNo 0 .nilIface (V : Int) w18 (HEK.out _ HB18.out) HF18.out HV.out rfl (rfl) rfl).mono ?_
            rintro e w19 ⟨rfl, hf, ho⟩
            have HF19 := Lib.hid hf
            have HB19 : Hid (Below w.heap.size w w19) := Lib.hid (HB18.out.trans (ho.below HB18.out.size (fun k hk => by subst hk; exact HGG.out)))
            clear hf ho
            go_wp2_with fail
            refine (one_free_gone E a b g (a + 1) (V : Int) w19 (HEK.out _ HB19.out) HF19.out).mono ?_
            rintro e w20 ⟨rfl, hf, ho⟩
            have HF20 := Lib.hid hf
            have HB20 : Hid (Below w.heap.size w w20) := Lib.hid (HB19.out.trans (ho.below HB19.out.size (fun k hk => by subst hk; exact HGG.out)))
            clear hf ho
            go_wp2_with fail
            refine (is_any E (errV (E 6)) 107 107 (.inr ⟨6, by decide, rfl, rfl⟩) w20 (HEK.out _ HB20.out)).mono ?_
            rintro e w21 ⟨rfl, hb⟩
            have HF21 := Lib.hid (HF20.out.below hb)
            have HB21 := Lib.hid (HB20.out.trans (hb.mono HB20.out.size))
            clear hb
            go_wp2
            go_ret
            exact ⟨by simp, HB21.out⟩
          · have HBZ := Lib.hid hbz
            have hgt : (0 : Int) < (m : Int) + (u : Int) := by omega
            have HKM : Hid (kMake K ⟨(V : Int), 0, (m : Int), (u : Int)⟩ = (⟨(V : Int), 0, (m : Int), (u : Int)⟩, 112)) := Lib.hid (by unfold kMake; rw [if_neg (fun h => h rfl), if_pos (by show (0 : Int) < (m : Int) ∨ (0 : Int) < (u : Int); omega)])
            have HKF : Hid (kFree ⟨(V : Int), 0, (m : Int), (u : Int)⟩ = (⟨(V : Int), 0, (m : Int), (u : Int)⟩, 112)) := Lib.hid (by unfold kFree; rw [if_pos (by show (0 : Int) < (m : Int) ∨ (0 : Int) < (u : Int); omega)])
            have HF5 : Hid (FrAt 95 33 w5 b g (a + 1) (oneF a ⟨(V : Int), 0, (m : Int), (u : Int)⟩)) := HFw
            clear hbz
            go_wp2_with fail
            refine (one_make E a b g (a + 1) ⟨(V : Int), 0, (m : Int), (u : Int)⟩ ⟨(V : Int), 0, (m : Int), (u : Int)⟩ 112 (errV (E 11)) K (V : Int) w5 (HEK.out _ HB5.out) HF5.out HV.out hkd rfl (HKM.out) rfl).mono ?_
            rintro e w6 ⟨rfl, hf, ho⟩
            have HF6 := Lib.hid hf
            have HB6 : Hid (Below w.heap.size w w6) := Lib.hid (HB5.out.trans (ho.below HB5.out.size (fun k hk => by subst hk; exact HGG.out)))
            clear hf ho
            go_wp2_with fail
            refine (is_any E (errV (E 11)) 112 112 (.inr ⟨11, by decide, rfl, rfl⟩) w6 (HEK.out _ HB6.out)).mono ?_
            rintro e w7 ⟨rfl, hb⟩
            have HF7 := Lib.hid (HF6.out.below hb)
            have HB7 := Lib.hid (HB6.out.trans (hb.mono HB6.out.size))
            clear hb
            go_wp2_with fail
            refine (one_make_not E a b g (a + 1) ⟨(V : Int), 0, (m : Int), (u : Int)⟩ K ((V : Int) + 1) w7 (HEK.out _ HB7.out) HF7.out HV.out hkd (by show (V : Int) ≠ (V : Int) + 1; omega)).mono ?_
            rintro e w8 ⟨rfl, hf, ho⟩
            have HF8 := Lib.hid hf
            have HB8 : Hid (Below w.heap.size w w8) := Lib.hid (HB7.out.trans (ho.below HB7.out.size (fun k hk => by subst hk; exact HGG.out)))
            clear hf ho
            go_wp2_with fail
            refine (is_any E (errV (E 9)) 110 110 (.inr ⟨9, by decide, rfl, rfl⟩) w8 (HEK.out _ HB8.out)).mono ?_
            rintro e w9 ⟨rfl, hb⟩
            have HF9 := Lib.hid (HF8.out.below hb)
            have HB9 := Lib.hid (HB8.out.trans (hb.mono HB8.out.size))
            clear hb
            go_wp2_with fail
            refine (one_free E a b g (a + 1) ⟨(V : Int), 0, (m : Int), (u : Int)⟩ ⟨(V : Int), 0, (m : Int), (u : Int)⟩ 112 (errV (E 11)) (V : Int) w9 (HEK.out _ HB9.out) HF9.out HV.out rfl (HKF.out) rfl).mono ?_
            rintro e w10 ⟨rfl, hf, ho⟩
            have HF10 := Lib.hid hf
            have HB10 : Hid (Below w.heap.size w w10) := Lib.hid (HB9.out.trans (ho.below HB9.out.size (fun k hk => by subst hk; exact HGG.out)))
            clear hf ho
            go_wp2_with fail
            refine (is_any E (errV (E 11)) 112 112 (.inr ⟨11, by decide, rfl, rfl⟩) w10 (HEK.out _ HB10.out)).mono ?_
            rintro e w11 ⟨rfl, hb⟩
            have HF11 := Lib.hid (HF10.out.below hb)
            have HB11 := Lib.hid (HB10.out.trans (hb.mono HB10.out.size))
            clear hb
            have HST3 : Hid (TuTo a b g (a + 1) m (fun j => ⟨(V : Int), 0, ((m - j : Nat) : Int), (u : Int)⟩) w11 (.int .i64 0) w11) := Lib.hid ⟨0, Nat.zero_le _, rfl, HF11.out, Only.refl _ _⟩
            clear hgt
            go_wp2_with fail
            go_loopw [20] (fun i wr => TuTo a b g (a + 1) m (fun j => ⟨(V : Int), 0, ((m - j : Nat) : Int), (u : Int)⟩) w11 i wr) (fun i _ => m - (intOf i).toNat)
            case atStart => exact HST3.out
            case round =>
              obtain ⟨j, hj, rfl, hf, ho⟩ := hrel
              have HF := Lib.hid hf
              have HO := Lib.hid ho
              have HBR : Hid (Below w.heap.size w wr) := Lib.hid (HB11.out.trans (ho.below HB11.out.size (fun k hk => by subst hk; exact HGG.out)))
              clear hf ho HST3
              by_cases hlt : j < m
              · have hji : (j : Int) < (m : Int) := by omega
                have HC := Lib.hid (one_unwrite E a b g (a + 1) ⟨(V : Int), 0, ((m - j : Nat) : Int), (u : Int)⟩ ⟨(V : Int), 0, ((m - (j + 1) : Nat) : Int), (u : Int)⟩ 0 .nilIface wr (HEK.out _ HBR.out) HF.out HV.out (by refine ⟨⟨?_, ?_⟩, ?_, ?_⟩ <;> dsimp only <;> omega) (by unfold kUnwrite; rw [if_neg (by show ¬ (((m - j : Nat) : Int)) = 0; omega)]; rw [show ((m - (j + 1) : Nat) : Int) = ((m - j : Nat) : Int) - 1 by omega]) rfl)
                go_wp2_with fail
                refine HC.out.mono ?_
                rintro e w4 ⟨rfl, hf, ho⟩
                have HF4 := Lib.hid hf
                have HO4 := Lib.hid (HO.out.trans ho)
                clear hf ho
                go_wp2
                go_roundw
                case rel => exact ⟨j + 1, by omega, by go_num, HF4.out, HO4.out⟩
                case measure => simp [intOf]; omega
              · have hjq : m = j := by omega
                subst hjq
                clear hlt
                have HF14 : Hid (FrAt 95 33 wr b g (a + 1) (oneF a ⟨(V : Int), 0, 0, (u : Int)⟩)) := Lib.hid (by have := HF.out; dsimp only at this; rw [Nat.sub_self] at this; exact this)
                have HB14 := HBR
                obtain ⟨w14, hw14⟩ : ∃ wz, wr = wz := ⟨_, rfl⟩
                rw [hw14] at HF14 HB14 ⊢
                clear hw14 HF HO HBR
                have HST4 : Hid (TuTo a b g (a + 1) u (fun j => ⟨(V : Int), 0, 0, ((u - j : Nat) : Int)⟩) w14 (.int .i64 0) w14) := Lib.hid ⟨0, Nat.zero_le _, rfl, HF14.out, Only.refl _ _⟩
                go_wp2_with fail
                go_loopw [21] (fun i wr => TuTo a b g (a + 1) u (fun j => ⟨(V : Int), 0, 0, ((u - j : Nat) : Int)⟩) w14 i wr) (fun i _ => u - (intOf i).toNat)
                case atStart => exact HST4.out
                case round =>
                  obtain ⟨j, hj, rfl, hf, ho⟩ := hrel
                  have HF := Lib.hid hf
                  have HO := Lib.hid ho
                  have HBR : Hid (Below w.heap.size w wr) := Lib.hid (HB14.out.trans (ho.below HB14.out.size (fun k hk => by subst hk; exact HGG.out)))
                  clear hf ho HST4
                  by_cases hlt : j < u
                  · have hji : (j : Int) < (u : Int) := by omega
                    have HC := Lib.hid (one_unuse E a b g (a + 1) ⟨(V : Int), 0, 0, ((u - j : Nat) : Int)⟩ ⟨(V : Int), 0, 0, ((u - (j + 1) : Nat) : Int)⟩ 0 .nilIface wr (HEK.out _ HBR.out) HF.out HV.out (by refine ⟨⟨?_, ?_⟩, ?_, ?_⟩ <;> dsimp only <;> omega) (by unfold kUnuse; rw [if_neg (by show ¬ (((u - j : Nat) : Int)) = 0; omega)]; rw [show ((u - (j + 1) : Nat) : Int) = ((u - j : Nat) : Int) - 1 by omega]) rfl)
                    go_wp2_with fail
                    refine HC.out.mono ?_
                    rintro e w4 ⟨rfl, hf, ho⟩
                    have HF4 := Lib.hid hf
                    have HO4 := Lib.hid (HO.out.trans ho)
                    clear hf ho
                    go_wp2
                    go_roundw
                    case rel => exact ⟨j + 1, by omega, by go_num, HF4.out, HO4.out⟩
                    case measure => simp [intOf]; omega
                  · have hjq : u = j := by omega
                    subst hjq
                    clear hlt
                    have HF20 : Hid (FrAt 95 33 wr b g (a + 1) (oneF a ⟨(V : Int), 0, 0, 0⟩)) := Lib.hid (by have := HF.out; dsimp only at this; rw [Nat.sub_self] at this; exact this)
                    have HB20 := HBR
                    obtain ⟨w20, hw20⟩ : ∃ wz, wr = wz := ⟨_, rfl⟩
                    rw [hw20] at HF20 HB20 ⊢
                    clear hw20
                    go_wp2_with fail
                    refine (one_unwrite E a b g (a + 1) ⟨(V : Int), 0, 0, 0⟩ ⟨(V : Int), 0, 0, 0⟩ 112 (errV (E 11)) w20 (HEK.out _ HB20.out) HF20.out HV.out (by refine ⟨⟨?_, ?_⟩, ?_, ?_⟩ <;> dsimp only <;> omega) (rfl) rfl).mono ?_
                    rintro e w21 ⟨rfl, hf, ho⟩
                    have HF21 := Lib.hid hf
                    have HB21 : Hid (Below w.heap.size w w21) := Lib.hid (HB20.out.trans (ho.below HB20.out.size (fun k hk => by subst hk; exact HGG.out)))
                    clear hf ho
                    go_wp2_with fail
                    refine (is_any E (errV (E 11)) 112 112 (.inr ⟨11, by decide, rfl, rfl⟩) w21 (HEK.out _ HB21.out)).mono ?_
                    rintro e w22 ⟨rfl, hb⟩
                    have HF22 := Lib.hid (HF21.out.below hb)
                    have HB22 := Lib.hid (HB21.out.trans (hb.mono HB21.out.size))
                    clear hb
                    go_wp2_with fail
                    refine (one_unuse E a b g (a + 1) ⟨(V : Int), 0, 0, 0⟩ ⟨(V : Int), 0, 0, 0⟩ 112 (errV (E 11)) w22 (HEK.out _ HB22.out) HF22.out HV.out (by refine ⟨⟨?_, ?_⟩, ?_, ?_⟩ <;> dsimp only <;> omega) (rfl) rfl).mono ?_
                    rintro e w23 ⟨rfl, hf, ho⟩
                    have HF23 := Lib.hid hf
                    have HB23 : Hid (Below w.heap.size w w23) := Lib.hid (HB22.out.trans (ho.below HB22.out.size (fun k hk => by subst hk; exact HGG.out)))
                    clear hf ho
                    go_wp2_with fail
                    refine (is_any E (errV (E 11)) 112 112 (.inr ⟨11, by decide, rfl, rfl⟩) w23 (HEK.out _ HB23.out)).mono ?_
                    rintro e w24 ⟨rfl, hb⟩
                    have HF24 := Lib.hid (HF23.out.below hb)
                    have HB24 := Lib.hid (HB23.out.trans (hb.mono HB23.out.size))
                    clear hb
                    go_wp2_with fail
                    refine (one_free E a b g (a + 1) ⟨(V : Int), 0, 0, 0⟩ frNo 0 .nilIface (V : Int) w24 (HEK.out _ HB24.out) HF24.out HV.out rfl (rfl) rfl).mono ?_
                    rintro e w25 ⟨rfl, hf, ho⟩
                    have HF25 := Lib.hid hf
                    have HB25 : Hid (Below w.heap.size w w25) := Lib.hid (HB24.out.trans (ho.below HB24.out.size (fun k hk => by subst hk; exact HGG.out)))
                    clear hf ho
                    have HOF := Lib.hid (fof_any (oneF a frNo) b (a + 1) _ (V : Int) w25 (by simp [oneF]; omega) HF25.out.rd)
                    unfold OfPost at HOF
                    rw [show (oneF a frNo).length = a + 1 from by simp [oneF], oneF_none a (V : Int) HV.out (a + 1) (Nat.le_refl _)] at HOF
                    go_wp2_with fail
                    refine HOF.out.mono ?_
                    rintro e w26 ⟨v, rfl, hown, hfr, hb, ao8, cap8, rfl⟩
                    have HB26 := Lib.hid (HB25.out.trans (hb.mono HB25.out.size))
                    clear hown hfr hb
                    go_wp2
                    go_ret
                    exact ⟨by simp, HB26.out⟩
end Go.Proofs.YtaoaachgnnengaaDoor
