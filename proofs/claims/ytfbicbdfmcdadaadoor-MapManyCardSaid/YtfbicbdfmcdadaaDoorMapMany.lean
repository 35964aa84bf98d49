/-
  MapMany: for every three numbers the call returns true; nothing that was there is turned. Given where the sentinels lie.
-/
import Derived.Test.YtfbicbdfmcdadaaDoorMapOnce
import Derived.Test.YtfbicbdfmcdadaaDoorNumber
namespace Go.Proofs.YtfbicbdfmcdadaaDoor
open Go.RowKit

def rng (m : Nat) : List Int := (List.range m).map fun (k : Nat) => (k : Int)
theorem rng_len (m : Nat) : (rng m).length = m := by simp [rng]
theorem rng_get (m k : Nat) (h : k < m) : (rng m).getD k 0 = (k : Int) := by simp [rng, h]
theorem rng_succ (m : Nat) : rng (m + 1) = rng m ++ [(m : Int)] := by simp [rng, List.range_succ]
theorem rng_mem (m : Nat) (x : Int) : x ∈ rng m ↔ 0 ≤ x ∧ x < m := by
  simp only [rng, List.mem_map, List.mem_range]
  constructor
  · rintro ⟨k, hk, rfl⟩; omega
  · intro h; exact ⟨x.toNat, by omega, by omega⟩
theorem rng_idx (m : Nat) (x r : Int) (h : IdxIs (rng m) x r) : r = if 0 ≤ x ∧ x < m then x else -1 := by
  by_cases hx : 0 ≤ x ∧ x < m
  · rw [if_pos hx]
    obtain ⟨k, hk, rfl, e, -⟩ := h.pos ((rng_mem m x).2 hx)
    rw [rng_len] at hk
    rw [rng_get m k hk] at e
    exact e
  · rw [if_neg hx]
    exact h.neg (fun hm => hx ((rng_mem m x).1 hm))
theorem rset_idx (m i : Nat) (f r : Int) (hi : i < m) (hf : f = i ∨ (m : Int) ≤ f) (h : IdxIs ((rng m).set i f) (i : Int) r) : r = if f = i then (i : Int) else -1 := by
  rcases h with ⟨rfl, h⟩ | ⟨k, hk, rfl, e, hm⟩
  · have := h i (by rw [List.length_set, rng_len]; exact hi)
    rw [set_getD _ _ _ _ (by rw [rng_len]; exact hi), if_pos rfl] at this
    rw [if_neg this]
  · rw [List.length_set, rng_len] at hk
    rw [set_getD _ _ _ _ (by rw [rng_len]; exact hk), rng_get m k hk] at e
    split at e
    · rename_i hki
      rw [if_pos e, hki]
    · rename_i hki
      exact (hki (by omega)).elim

def MTo (n : Nat) (w : World) (b : Nat) (i : Value) (wr : World) : Prop :=
  ∃ j : Nat, ∃ v, j ≤ n ∧ i = .int .i64 (j : Int) ∧ PAt wr b v (rng (min j 512)) ∧ (∀ k, inRow v k → w.heap.size ≤ k) ∧ Below w.heap.size w wr

/-- what there is behind the Put -/
def PutTo (E : Nat → Addr) (m i : Nat) (f : Int) (b : Nat) (w : World) (tw : Bool) (want : Int) (e : Ending) (w' : World) : Prop :=
  ∃ ev c l2 v2, e = .returned ev ∧ errNum ev E c ∧ decide (c = 106) = tw ∧ (tw = false → ev = .nilIface) ∧ PAt w' b v2 l2 ∧ l2.length = m ∧ l2.getD i 0 = want ∧ (∀ r, IdxIs l2 i r → r = if want = i then (i : Int) else -1) ∧ (∀ k, inRow v2 k → w.heap.size ≤ k) ∧ Below w.heap.size w w'

theorem many_put (E : Nat → Addr) (m i : Nat) (f : Int) (b : Nat) (v : Value) (w w0 : World) (hE : ErrsAt errT gOf w0 E p4) (h : PAt w0 b v (rng m)) (hv : ∀ k, inRow v k → w.heap.size ≤ k) (hb : Below w.heap.size w w0) (hm : m ≤ 512) (hi : i < m) (hf0 : 0 ≤ f) (hf1 : f < 1024) :
    Calls Tryd.prog 28 #[.pointer (some ⟨b, 0, none⟩), .int .i64 i, .int .i64 f] w0 (PutTo E m i f b w (decide (f < m) && decide (f ≠ i)) (if f < m ∧ f ≠ i then (i : Int) else f)) := by
  have hx : fairP f = true := by simp [fairP]; omega
  by_cases ht : f < m ∧ f ≠ i
  · refine (put_twice E _ b v i f w0 hE h (by rw [rng_len]; omega) (by rw [rng_len]; exact hi) hx (fun r hr => ?_)).mono ?_
    · have := rng_idx m f r hr
      rw [if_pos ⟨hf0, ht.1⟩] at this
      exact ⟨by omega, fun e => ht.2 (by omega)⟩
    · rintro e w' ⟨rfl, hb'⟩
      refine ⟨_, 106, rng m, v, rfl, .inr ⟨5, by decide, rfl, rfl⟩, by simp [ht.1, ht.2], fun h => ?_, h.below hb', rng_len m, ?_, fun r hr => ?_, hv, hb.trans (hb'.mono hb.size)⟩
      · simp [ht.1, ht.2] at h
      · rw [if_pos ht, rng_get m i hi]
      · have := rng_idx m i r hr
        rw [if_pos (by omega)] at this
        rw [if_pos ht, if_pos rfl, this]
  · refine (put_ok _ b v i f w0 h (by rw [rng_len]; omega) (by rw [rng_len]; exact hi) hx (fun r hr => ?_)).mono ?_
    · have := rng_idx m f r hr
      by_cases hfm : f < m
      · rw [if_pos ⟨hf0, hfm⟩] at this
        exact .inr (by omega)
      · rw [if_neg (by omega)] at this
        exact .inl (by omega)
    · rintro e w' ⟨rfl, hp, ho⟩
      refine ⟨_, 0, _, v, rfl, .inl ⟨rfl, rfl⟩, ?_, fun _ => rfl, hp, by rw [List.length_set, rng_len], ?_, fun r hr => ?_, hv, hb.trans (ho.below hb.size hv)⟩
      · by_cases h1 : f < m
        · have h2 : f = i := by omega
          simp [h2]
        · simp [h1]
      · rw [if_neg ht, set_getD _ _ _ _ (by rw [rng_len]; exact hi), if_pos rfl]
      · rw [if_neg ht]
        exact rset_idx m i f r hi (by omega) hr

set_option maxRecDepth 100000 in
set_option maxHeartbeats 20000000 in
theorem mmany_walk (E : Nat → Addr) (x y z : Int) (w : World) (hE : ErrsAt errT gOf w E all16) (hx : -9223372036854775808 ≤ x ∧ x ≤ 9223372036854775807) (hy : -9223372036854775808 ≤ y ∧ y ≤ 9223372036854775807) (hz : -9223372036854775808 ≤ z ∧ z ≤ 9223372036854775807) :
    Calls Tryd.prog 5 #[.int .i64 x, .int .i64 y, .int .i64 z] w fun e w' => e = .returned (.bool true) ∧ Below w.heap.size w w' := by
  have HX : Hid (∀ wx, Below w.heap.size w wx → ErrsAt errT gOf wx E all16) := Lib.hid fun wx h => hE.mono h
  have H0 := Lib.hid hx
  have H1 := Lib.hid hy
  have H2 := Lib.hid hz
  clear hE hx hy hz
  go_enter Tryd.func5, Tryd.ntmps5
  go_wp2_with fail
  refine (pm_first _).mono ?_
  rintro e w1 ⟨rfl, hb1⟩
  have HB1 := Lib.hid hb1
  clear hb1
  go_wp2_with fail
  refine (number_any x 5 _ H0.out.1 H0.out.2 (by decide) (by decide)).mono ?_
  rintro e w2 ⟨rfl, rfl⟩
  obtain ⟨n, hn⟩ : ∃ n : Nat, x % 5 + 510 = (n : Int) := ⟨(x % 5 + 510).toNat, by omega⟩
  have hn0 : 510 ≤ n := by omega
  have hn1 : n ≤ 514 := by omega
  have hwn : IntKind.i64.wrap (x % 5 + 510) = (n : Int) := by rw [IntWalk.i64_in _ (by omega), hn]
  have HP := Lib.hid (PAt.new w1)
  have HB0 : Hid (Below w.heap.size w (w1.alloc (.cells #[.slice none 0 0] 47))) := Lib.hid (HB1.out.alloc HB1.out.size _)
  have hs1 := HB1.out.size
  obtain ⟨b, hb⟩ : ∃ b, w1.heap.size = b := ⟨_, rfl⟩
  rw [hb] at HP hs1
  have HBB := Lib.hid hb
  clear hb hn
  go_wp2_with fail
  rw [HBB.out]
  clear hwn
  go_loopw [9] (fun i wr => MTo n w b i wr) (fun i _ => n - (intOf i).toNat)
  case atStart => exact ⟨0, _, Nat.zero_le _, rfl, HP.out, fun k hk => by simp [inRow, Value.ownBlock] at hk, HB0.out⟩
  case round =>
    obtain ⟨j, v, hj, rfl, hp, hv, hbw⟩ := hrel
    have HV := Lib.hid hv
    have HW := Lib.hid hbw
    by_cases hlt : j < n
    · have hji : (j : Int) < (n : Int) := by omega
      have hw1 := IntWalk.i64_in ((j : Int) + 1) (by omega)
      by_cases h5 : j < 512
      · have hj5 : (j : Int) < 512 := by omega
        rw [Nat.min_eq_left (by omega)] at hp
        have HPm := Lib.hid hp
        have HA := Lib.hid (add_ok (rng j) b v j wr hp (by simp [fairP]; omega) (by rw [rng_mem]; omega) (by rw [rng_len]; omega))
        rw [rng_len] at HA
        clear hp hv hbw HP HB0
        go_wp2_with fail
        refine HA.out.mono ?_
        rintro e w4 ⟨rfl, v', hp', ho', hs'⟩
        have HR : Hid (MTo n w b (.int .i64 ((j : Int) + 1)) w4) := Lib.hid (by
          refine ⟨j + 1, v', by omega, by go_num, ?_, fun k hk => ?_, HW.out.trans (ho'.below HW.out.size (fun k hk => ?_))⟩
          · rw [Nat.min_eq_left (by omega), rng_succ]
            exact hp'
          · rcases hs' k hk with h | h
            · exact HV.out k h
            · exact Nat.le_trans HW.out.size h
          · rcases hk with h | h
            · omega
            · exact HV.out k h)
        clear hp' ho' hs'
        go_wp2
        go_roundw
        case rel => exact HR.out
        case measure => simp [intOf]; omega
      · have hj5 : (512 : Int) ≤ (j : Int) := by omega
        rw [Nat.min_eq_right (by omega)] at hp
        have HPm := Lib.hid hp
        have HA := Lib.hid (add_many E (rng 512) b v j wr (HX.out _ HW.out).sub4 hp (by simp [fairP]; omega) (by rw [rng_len]; omega) (by rw [rng_mem]; omega) (by rw [rng_len]; omega))
        clear hp hv hbw HP HB0
        go_wp2_with fail
        refine HA.out.mono ?_
        rintro e w4 ⟨rfl, hb4⟩
        have HP4 := Lib.hid (HPm.out.below hb4)
        have HW4 := Lib.hid (HW.out.trans (hb4.mono HW.out.size))
        clear hb4
        go_wp2_with fail
        refine (is_any E (errV (E 3)) 104 104 (.inr ⟨3, by decide, rfl, rfl⟩) _ (HX.out _ HW4.out)).mono ?_
        rintro e w5 ⟨rfl, hb5⟩
        have HR : Hid (MTo n w b (.int .i64 ((j : Int) + 1)) w5) := Lib.hid (by
          refine ⟨j + 1, v, by omega, by go_num, ?_, HV.out, HW4.out.trans (hb5.mono HW4.out.size)⟩
          rw [Nat.min_eq_right (by omega)]
          exact HP4.out.below hb5)
        clear hb5
        go_wp2
        go_roundw
        case rel => exact HR.out
        case measure => simp [intOf]; omega
    · obtain rfl : j = n := by omega
      have HPQ := Lib.hid hp
      have HF := Lib.hid (fun wx => number_any z 1024 wx H2.out.1 H2.out.2 (by decide) (by decide))
      have hf0 : 0 ≤ z % 1024 := by omega
      have hf1 : z % 1024 < 1024 := by omega
      obtain ⟨f, hf⟩ : ∃ f, z % 1024 = f := ⟨_, rfl⟩
      rw [hf] at HF hf0 hf1
      clear hp hv hbw HP HB0 hf H0 H2
      by_cases h512 : (j : Int) ≤ 512
      · obtain ⟨m, hm⟩ : ∃ m : Nat, j = m := ⟨j, rfl⟩
        have HPm : Hid (PAt wr b v (rng m)) := Lib.hid (by have := HPQ.out; rw [Nat.min_eq_left (by omega), hm] at this; exact this)
        clear HPQ
        go_wp2_with fail
        subst hm
        obtain ⟨m, hm⟩ : ∃ m : Nat, j = m := ⟨j, rfl⟩
        rw [hm] at HPm ⊢
        have hm0 : 0 < m := by omega
        have hm1 : m ≤ 512 := by omega
        have HI := Lib.hid (fun wx => number_any y m wx H1.out.1 H1.out.2 (by omega) (by omega))
        have hi0 := Int.emod_nonneg y (show (m : Int) ≠ 0 by omega)
        have hi1 := Int.emod_lt_of_pos y (show (0 : Int) < m by omega)
        obtain ⟨i, hi⟩ : ∃ i : Nat, y % (m : Int) = (i : Int) := ⟨(y % (m : Int)).toNat, by omega⟩
        rw [hi] at HI hi0 hi1
        clear hi H1
        refine (HI.out _).mono ?_
        rintro e w4 ⟨rfl, rfl⟩
        go_wp2_with fail
        refine (HF.out _).mono ?_
        rintro e w4 ⟨rfl, rfl⟩
        clear HI HF
        go_wp2_with fail
        have HPUT := Lib.hid (many_put E m i f b v w _ (HX.out _ HW.out).sub4 HPm.out HV.out HW.out hm1 (by omega) hf0 hf1)
        refine HPUT.out.mono ?_
        clear HPUT
        obtain ⟨want, hwant⟩ : ∃ want, (if f < m ∧ f ≠ i then (i : Int) else f) = want := ⟨_, rfl⟩
        rw [hwant]
        have hcs : (f < m ∧ f ≠ i ∧ want = i) ∨ (f = i ∧ want = i) ∨ ((m : Int) ≤ f ∧ want = f) := by
          by_cases h1 : f < m ∧ f ≠ i
          · rw [if_pos h1] at hwant; exact .inl ⟨h1.1, h1.2, hwant.symm⟩
          · rw [if_neg h1] at hwant; by_cases h2 : f = i
            · exact .inr (.inl ⟨h2, by omega⟩)
            · exact .inr (.inr ⟨by omega, hwant.symm⟩)
        clear hwant
        rintro e w4 ⟨ev, c, l2, v2, rfl, hn, hd, hnil, hp2, hl2, hget, hidx, hv2, hb2⟩
        have HN := Lib.hid hn
        have HD := Lib.hid hd
        have HNIL := Lib.hid hnil
        have HP2 := Lib.hid hp2
        have HL2 := Lib.hid hl2
        have HGET := Lib.hid hget
        have HIDX := Lib.hid hidx
        have HW4 := Lib.hid hb2
        have HGA : Hid (getAns l2 (i : Int) = .tuple #[.int .i64 want, .bool true]) := Lib.hid (by unfold getAns; rw [if_pos (by omega), Int.toNat_natCast, hget])
        clear hn hd hnil hp2 hl2 hget hidx hv2 hb2 HPm
        have HPN := Lib.hid (fun wx hE hp => put_none E l2 b v2 m 1000 wx hE hp (by have := HL2.out; omega) (by have := HL2.out; omega))
        have HPU := Lib.hid (fun wx hE hp => put_unfair E l2 b v2 0 1024 wx hE hp (by have := HL2.out; omega) (by have := HL2.out; omega) (by decide))
        have HPV := Lib.hid (fun wx hE hp => put_unfair E l2 b v2 0 (-1) wx hE hp (by have := HL2.out; omega) (by have := HL2.out; omega) (by decide))
        rcases hcs with ⟨hc1, hc2, hc3⟩ | ⟨hc1, hc2⟩ | ⟨hc1, hc2⟩
        · have HT : Hid ((decide (f < m) && decide (f ≠ i)) = true) := Lib.hid (by simp [hc1, hc2])
          have HMX : Hid (∀ r, IdxIs l2 i r → r = i) := Lib.hid fun r hr => by rw [HIDX.out r hr, if_pos hc3]
          have hb1 : (f != (i : Int)) = true := by rw [bne_iff_ne]; exact hc2
          subst hc3
          rw [HT.out] at HD
          go_wp2_with fail
          refine (is_any E _ c 106 HN.out _ (HX.out _ HW4.out)).mono ?_
          rintro e w5 ⟨rfl, hb5⟩
          rw [HD.out]
          have HP5 := Lib.hid (HP2.out.below hb5)
          have HW5 := Lib.hid (HW4.out.trans (hb5.mono HW4.out.size))
          clear hb5
          go_wp2_with fail
          refine (pm_get l2 b v2 i _ HP5.out).mono ?_
          rintro e w6 ⟨rfl, rfl⟩
          rw [HGA.out]
          go_wp2_with fail
          refine (pm_of l2 b v2 i _ HP5.out (by have := HL2.out; omega)).mono ?_
          rintro e w6 ⟨⟨r, rfl, hr⟩, rfl⟩
          obtain rfl := HMX.out r hr
          clear hr
          rw [show max (i : Int) 0 = (i : Int) by omega, show decide (0 ≤ (i : Int)) = true by simp]
          go_wp2_with fail
          refine (pm_len l2 b v2 _ HP5.out).mono ?_
          rintro e w6 ⟨rfl, rfl⟩
          rw [HL2.out]
          go_wp2_with fail
          refine (HPN.out _ (HX.out _ HW5.out).sub4 HP5.out).mono ?_
          rintro e w6 ⟨rfl, hb6⟩
          have HP6 := Lib.hid (HP5.out.below hb6)
          have HW6 := Lib.hid (HW5.out.trans (hb6.mono HW5.out.size))
          clear hb6
          go_wp2_with fail
          refine (is_any E (errV (E 6)) 107 107 (.inr ⟨6, by decide, rfl, rfl⟩) _ (HX.out _ HW6.out)).mono ?_
          rintro e w7 ⟨rfl, hb7⟩
          have HP7 := Lib.hid (HP6.out.below hb7)
          have HW7 := Lib.hid (HW6.out.trans (hb7.mono HW6.out.size))
          clear hb7
          go_wp2_with fail
          refine (HPU.out _ (HX.out _ HW7.out).sub4 HP7.out).mono ?_
          rintro e w8 ⟨rfl, hb8⟩
          have HP8 := Lib.hid (HP7.out.below hb8)
          have HW8 := Lib.hid (HW7.out.trans (hb8.mono HW7.out.size))
          clear hb8
          go_wp2_with fail
          refine (is_any E (errV (E 2)) 103 103 (.inr ⟨2, by decide, rfl, rfl⟩) _ (HX.out _ HW8.out)).mono ?_
          rintro e w9 ⟨rfl, hb9⟩
          have HP9 := Lib.hid (HP8.out.below hb9)
          have HW9 := Lib.hid (HW8.out.trans (hb9.mono HW8.out.size))
          clear hb9
          go_wp2_with fail
          refine (HPV.out _ (HX.out _ HW9.out).sub4 HP9.out).mono ?_
          rintro e w10 ⟨rfl, hb10⟩
          have HW10 := Lib.hid (HW9.out.trans (hb10.mono HW9.out.size))
          clear hb10
          go_wp2_with fail
          refine (is_any E (errV (E 2)) 103 103 (.inr ⟨2, by decide, rfl, rfl⟩) _ (HX.out _ HW10.out)).mono ?_
          rintro e w11 ⟨rfl, hb11⟩
          have HW11 := Lib.hid (HW10.out.trans (hb11.mono HW10.out.size))
          clear hb11
          go_wp2
          go_ret
          exact ⟨ret_bool (by simp), HW11.out⟩
        · have HT : Hid ((decide (f < m) && decide (f ≠ i)) = false) := Lib.hid (by simp [hc1])
          have HMX : Hid (∀ r, IdxIs l2 i r → r = i) := Lib.hid fun r hr => by rw [HIDX.out r hr, if_pos hc2]
          obtain rfl := HNIL.out HT.out
          subst hc2
          subst hc1
          rw [HT.out] at HD
          go_wp2_with fail
          refine (is_any E _ c 106 HN.out _ (HX.out _ HW4.out)).mono ?_
          rintro e w5 ⟨rfl, hb5⟩
          rw [HD.out]
          have HP5 := Lib.hid (HP2.out.below hb5)
          have HW5 := Lib.hid (HW4.out.trans (hb5.mono HW4.out.size))
          clear hb5
          go_wp2_with fail
          refine (pm_get l2 b v2 i _ HP5.out).mono ?_
          rintro e w6 ⟨rfl, rfl⟩
          rw [HGA.out]
          go_wp2_with fail
          refine (pm_of l2 b v2 i _ HP5.out (by have := HL2.out; omega)).mono ?_
          rintro e w6 ⟨⟨r, rfl, hr⟩, rfl⟩
          obtain rfl := HMX.out r hr
          clear hr
          rw [show max (i : Int) 0 = (i : Int) by omega, show decide (0 ≤ (i : Int)) = true by simp]
          go_wp2_with fail
          refine (pm_len l2 b v2 _ HP5.out).mono ?_
          rintro e w6 ⟨rfl, rfl⟩
          rw [HL2.out]
          go_wp2_with fail
          refine (HPN.out _ (HX.out _ HW5.out).sub4 HP5.out).mono ?_
          rintro e w6 ⟨rfl, hb6⟩
          have HP6 := Lib.hid (HP5.out.below hb6)
          have HW6 := Lib.hid (HW5.out.trans (hb6.mono HW5.out.size))
          clear hb6
          go_wp2_with fail
          refine (is_any E (errV (E 6)) 107 107 (.inr ⟨6, by decide, rfl, rfl⟩) _ (HX.out _ HW6.out)).mono ?_
          rintro e w7 ⟨rfl, hb7⟩
          have HP7 := Lib.hid (HP6.out.below hb7)
          have HW7 := Lib.hid (HW6.out.trans (hb7.mono HW6.out.size))
          clear hb7
          go_wp2_with fail
          refine (HPU.out _ (HX.out _ HW7.out).sub4 HP7.out).mono ?_
          rintro e w8 ⟨rfl, hb8⟩
          have HP8 := Lib.hid (HP7.out.below hb8)
          have HW8 := Lib.hid (HW7.out.trans (hb8.mono HW7.out.size))
          clear hb8
          go_wp2_with fail
          refine (is_any E (errV (E 2)) 103 103 (.inr ⟨2, by decide, rfl, rfl⟩) _ (HX.out _ HW8.out)).mono ?_
          rintro e w9 ⟨rfl, hb9⟩
          have HP9 := Lib.hid (HP8.out.below hb9)
          have HW9 := Lib.hid (HW8.out.trans (hb9.mono HW8.out.size))
          clear hb9
          go_wp2_with fail
          refine (HPV.out _ (HX.out _ HW9.out).sub4 HP9.out).mono ?_
          rintro e w10 ⟨rfl, hb10⟩
          have HW10 := Lib.hid (HW9.out.trans (hb10.mono HW9.out.size))
          clear hb10
          go_wp2_with fail
          refine (is_any E (errV (E 2)) 103 103 (.inr ⟨2, by decide, rfl, rfl⟩) _ (HX.out _ HW10.out)).mono ?_
          rintro e w11 ⟨rfl, hb11⟩
          have HW11 := Lib.hid (HW10.out.trans (hb11.mono HW10.out.size))
          clear hb11
          go_wp2
          go_ret
          exact ⟨ret_bool (by simp), HW11.out⟩
        · have HT : Hid ((decide (f < m) && decide (f ≠ i)) = false) := Lib.hid (by simp; omega)
          have hwi : f ≠ (i : Int) := by omega
          have HMX : Hid (∀ r, IdxIs l2 i r → r = -1) := Lib.hid fun r hr => by rw [HIDX.out r hr, hc2, if_neg hwi]
          obtain rfl := HNIL.out HT.out
          subst hc2
          have hb1 : (want == (i : Int)) = false := by rw [beq_eq_false_iff_ne]; exact hwi
          rw [HT.out] at HD
          go_wp2_with fail
          refine (is_any E _ c 106 HN.out _ (HX.out _ HW4.out)).mono ?_
          rintro e w5 ⟨rfl, hb5⟩
          rw [HD.out]
          have HP5 := Lib.hid (HP2.out.below hb5)
          have HW5 := Lib.hid (HW4.out.trans (hb5.mono HW4.out.size))
          clear hb5
          go_wp2_with fail
          refine (pm_get l2 b v2 i _ HP5.out).mono ?_
          rintro e w6 ⟨rfl, rfl⟩
          rw [HGA.out]
          go_wp2_with fail
          refine (pm_of l2 b v2 i _ HP5.out (by have := HL2.out; omega)).mono ?_
          rintro e w6 ⟨⟨r, rfl, hr⟩, rfl⟩
          obtain rfl := HMX.out r hr
          clear hr
          rw [show max (-1 : Int) 0 = 0 by decide, show decide (0 ≤ (-1 : Int)) = false by decide]
          go_wp2_with fail
          refine (pm_len l2 b v2 _ HP5.out).mono ?_
          rintro e w6 ⟨rfl, rfl⟩
          rw [HL2.out]
          go_wp2_with fail
          refine (HPN.out _ (HX.out _ HW5.out).sub4 HP5.out).mono ?_
          rintro e w6 ⟨rfl, hb6⟩
          have HP6 := Lib.hid (HP5.out.below hb6)
          have HW6 := Lib.hid (HW5.out.trans (hb6.mono HW5.out.size))
          clear hb6
          go_wp2_with fail
          refine (is_any E (errV (E 6)) 107 107 (.inr ⟨6, by decide, rfl, rfl⟩) _ (HX.out _ HW6.out)).mono ?_
          rintro e w7 ⟨rfl, hb7⟩
          have HP7 := Lib.hid (HP6.out.below hb7)
          have HW7 := Lib.hid (HW6.out.trans (hb7.mono HW6.out.size))
          clear hb7
          go_wp2_with fail
          refine (HPU.out _ (HX.out _ HW7.out).sub4 HP7.out).mono ?_
          rintro e w8 ⟨rfl, hb8⟩
          have HP8 := Lib.hid (HP7.out.below hb8)
          have HW8 := Lib.hid (HW7.out.trans (hb8.mono HW7.out.size))
          clear hb8
          go_wp2_with fail
          refine (is_any E (errV (E 2)) 103 103 (.inr ⟨2, by decide, rfl, rfl⟩) _ (HX.out _ HW8.out)).mono ?_
          rintro e w9 ⟨rfl, hb9⟩
          have HP9 := Lib.hid (HP8.out.below hb9)
          have HW9 := Lib.hid (HW8.out.trans (hb9.mono HW8.out.size))
          clear hb9
          go_wp2_with fail
          refine (HPV.out _ (HX.out _ HW9.out).sub4 HP9.out).mono ?_
          rintro e w10 ⟨rfl, hb10⟩
          have HW10 := Lib.hid (HW9.out.trans (hb10.mono HW9.out.size))
          clear hb10
          go_wp2_with fail
          refine (is_any E (errV (E 2)) 103 103 (.inr ⟨2, by decide, rfl, rfl⟩) _ (HX.out _ HW10.out)).mono ?_
          rintro e w11 ⟨rfl, hb11⟩
          have HW11 := Lib.hid (HW10.out.trans (hb11.mono HW10.out.size))
          clear hb11
          go_wp2
          go_ret
          exact ⟨ret_bool (by simp), HW11.out⟩

      · have HPm0 : Hid (PAt wr b v (rng 512)) := Lib.hid (by have := HPQ.out; rw [Nat.min_eq_right (by omega)] at this; exact this)
        clear HPQ
        go_wp2_with fail
        obtain ⟨m, hm⟩ : ∃ m : Nat, m = 512 := ⟨512, rfl⟩
        have HPm : Hid (PAt wr b v (rng m)) := Lib.hid (by rw [hm]; exact HPm0.out)
        have hm' : (512 : Int) = (m : Int) := by omega
        rw [hm']
        have hm5 : m = 512 ∧ True := ⟨hm, trivial⟩
        have HM5 := Lib.hid hm5
        have hmp : 0 < m := by omega
        have hmq : m ≤ 512 := by omega
        clear HPm0 hm' hm hm5
        have hm0 : 0 < m := by omega
        have hm1 : m ≤ 512 := by omega
        have HI := Lib.hid (fun wx => number_any y m wx H1.out.1 H1.out.2 (by omega) (by omega))
        have hi0 := Int.emod_nonneg y (show (m : Int) ≠ 0 by omega)
        have hi1 := Int.emod_lt_of_pos y (show (0 : Int) < m by omega)
        obtain ⟨i, hi⟩ : ∃ i : Nat, y % (m : Int) = (i : Int) := ⟨(y % (m : Int)).toNat, by omega⟩
        rw [hi] at HI hi0 hi1
        clear hi H1
        refine (HI.out _).mono ?_
        rintro e w4 ⟨rfl, rfl⟩
        go_wp2_with fail
        refine (HF.out _).mono ?_
        rintro e w4 ⟨rfl, rfl⟩
        clear HI HF
        go_wp2_with fail
        have HPUT := Lib.hid (many_put E m i f b v w _ (HX.out _ HW.out).sub4 HPm.out HV.out HW.out hm1 (by omega) hf0 hf1)
        refine HPUT.out.mono ?_
        clear HPUT
        obtain ⟨want, hwant⟩ : ∃ want, (if f < m ∧ f ≠ i then (i : Int) else f) = want := ⟨_, rfl⟩
        rw [hwant]
        have hcs : (f < m ∧ f ≠ i ∧ want = i) ∨ (f = i ∧ want = i) ∨ ((m : Int) ≤ f ∧ want = f) := by
          by_cases h1 : f < m ∧ f ≠ i
          · rw [if_pos h1] at hwant; exact .inl ⟨h1.1, h1.2, hwant.symm⟩
          · rw [if_neg h1] at hwant; by_cases h2 : f = i
            · exact .inr (.inl ⟨h2, by omega⟩)
            · exact .inr (.inr ⟨by omega, hwant.symm⟩)
        clear hwant
        rintro e w4 ⟨ev, c, l2, v2, rfl, hn, hd, hnil, hp2, hl2, hget, hidx, hv2, hb2⟩
        have HN := Lib.hid hn
        have HD := Lib.hid hd
        have HNIL := Lib.hid hnil
        have HP2 := Lib.hid hp2
        have HL2 := Lib.hid hl2
        have HGET := Lib.hid hget
        have HIDX := Lib.hid hidx
        have HW4 := Lib.hid hb2
        have HGA : Hid (getAns l2 (i : Int) = .tuple #[.int .i64 want, .bool true]) := Lib.hid (by unfold getAns; rw [if_pos (by omega), Int.toNat_natCast, hget])
        clear hn hd hnil hp2 hl2 hget hidx hv2 hb2 HPm
        have HPN := Lib.hid (fun wx hE hp => put_none E l2 b v2 m 1000 wx hE hp (by have := HL2.out; omega) (by have := HL2.out; omega))
        have HPU := Lib.hid (fun wx hE hp => put_unfair E l2 b v2 0 1024 wx hE hp (by have := HL2.out; omega) (by have := HL2.out; omega) (by decide))
        have HPV := Lib.hid (fun wx hE hp => put_unfair E l2 b v2 0 (-1) wx hE hp (by have := HL2.out; omega) (by have := HL2.out; omega) (by decide))
        rcases hcs with ⟨hc1, hc2, hc3⟩ | ⟨hc1, hc2⟩ | ⟨hc1, hc2⟩
        · have HT : Hid ((decide (f < m) && decide (f ≠ i)) = true) := Lib.hid (by simp [hc1, hc2])
          have HMX : Hid (∀ r, IdxIs l2 i r → r = i) := Lib.hid fun r hr => by rw [HIDX.out r hr, if_pos hc3]
          have hb1 : (f != (i : Int)) = true := by rw [bne_iff_ne]; exact hc2
          subst hc3
          rw [HT.out] at HD
          go_wp2_with fail
          refine (is_any E _ c 106 HN.out _ (HX.out _ HW4.out)).mono ?_
          rintro e w5 ⟨rfl, hb5⟩
          rw [HD.out]
          have HP5 := Lib.hid (HP2.out.below hb5)
          have HW5 := Lib.hid (HW4.out.trans (hb5.mono HW4.out.size))
          clear hb5
          go_wp2_with fail
          refine (pm_get l2 b v2 i _ HP5.out).mono ?_
          rintro e w6 ⟨rfl, rfl⟩
          rw [HGA.out]
          go_wp2_with fail
          refine (pm_of l2 b v2 i _ HP5.out (by have := HL2.out; omega)).mono ?_
          rintro e w6 ⟨⟨r, rfl, hr⟩, rfl⟩
          obtain rfl := HMX.out r hr
          clear hr
          rw [show max (i : Int) 0 = (i : Int) by omega, show decide (0 ≤ (i : Int)) = true by simp]
          go_wp2_with fail
          refine (pm_len l2 b v2 _ HP5.out).mono ?_
          rintro e w6 ⟨rfl, rfl⟩
          rw [HL2.out]
          go_wp2_with fail
          refine (HPN.out _ (HX.out _ HW5.out).sub4 HP5.out).mono ?_
          rintro e w6 ⟨rfl, hb6⟩
          have HP6 := Lib.hid (HP5.out.below hb6)
          have HW6 := Lib.hid (HW5.out.trans (hb6.mono HW5.out.size))
          clear hb6
          go_wp2_with fail
          refine (is_any E (errV (E 6)) 107 107 (.inr ⟨6, by decide, rfl, rfl⟩) _ (HX.out _ HW6.out)).mono ?_
          rintro e w7 ⟨rfl, hb7⟩
          have HP7 := Lib.hid (HP6.out.below hb7)
          have HW7 := Lib.hid (HW6.out.trans (hb7.mono HW6.out.size))
          clear hb7
          go_wp2_with fail
          refine (HPU.out _ (HX.out _ HW7.out).sub4 HP7.out).mono ?_
          rintro e w8 ⟨rfl, hb8⟩
          have HP8 := Lib.hid (HP7.out.below hb8)
          have HW8 := Lib.hid (HW7.out.trans (hb8.mono HW7.out.size))
          clear hb8
          go_wp2_with fail
          refine (is_any E (errV (E 2)) 103 103 (.inr ⟨2, by decide, rfl, rfl⟩) _ (HX.out _ HW8.out)).mono ?_
          rintro e w9 ⟨rfl, hb9⟩
          have HP9 := Lib.hid (HP8.out.below hb9)
          have HW9 := Lib.hid (HW8.out.trans (hb9.mono HW8.out.size))
          clear hb9
          go_wp2_with fail
          refine (HPV.out _ (HX.out _ HW9.out).sub4 HP9.out).mono ?_
          rintro e w10 ⟨rfl, hb10⟩
          have HW10 := Lib.hid (HW9.out.trans (hb10.mono HW9.out.size))
          clear hb10
          go_wp2_with fail
          refine (is_any E (errV (E 2)) 103 103 (.inr ⟨2, by decide, rfl, rfl⟩) _ (HX.out _ HW10.out)).mono ?_
          rintro e w11 ⟨rfl, hb11⟩
          have HW11 := Lib.hid (HW10.out.trans (hb11.mono HW10.out.size))
          clear hb11
          go_wp2
          go_ret
          exact ⟨ret_bool (by simp), HW11.out⟩
        · have HT : Hid ((decide (f < m) && decide (f ≠ i)) = false) := Lib.hid (by simp [hc1])
          have HMX : Hid (∀ r, IdxIs l2 i r → r = i) := Lib.hid fun r hr => by rw [HIDX.out r hr, if_pos hc2]
          obtain rfl := HNIL.out HT.out
          subst hc2
          subst hc1
          rw [HT.out] at HD
          go_wp2_with fail
          refine (is_any E _ c 106 HN.out _ (HX.out _ HW4.out)).mono ?_
          rintro e w5 ⟨rfl, hb5⟩
          rw [HD.out]
          have HP5 := Lib.hid (HP2.out.below hb5)
          have HW5 := Lib.hid (HW4.out.trans (hb5.mono HW4.out.size))
          clear hb5
          go_wp2_with fail
          refine (pm_get l2 b v2 i _ HP5.out).mono ?_
          rintro e w6 ⟨rfl, rfl⟩
          rw [HGA.out]
          go_wp2_with fail
          refine (pm_of l2 b v2 i _ HP5.out (by have := HL2.out; omega)).mono ?_
          rintro e w6 ⟨⟨r, rfl, hr⟩, rfl⟩
          obtain rfl := HMX.out r hr
          clear hr
          rw [show max (i : Int) 0 = (i : Int) by omega, show decide (0 ≤ (i : Int)) = true by simp]
          go_wp2_with fail
          refine (pm_len l2 b v2 _ HP5.out).mono ?_
          rintro e w6 ⟨rfl, rfl⟩
          rw [HL2.out]
          go_wp2_with fail
          refine (HPN.out _ (HX.out _ HW5.out).sub4 HP5.out).mono ?_
          rintro e w6 ⟨rfl, hb6⟩
          have HP6 := Lib.hid (HP5.out.below hb6)
          have HW6 := Lib.hid (HW5.out.trans (hb6.mono HW5.out.size))
          clear hb6
          go_wp2_with fail
          refine (is_any E (errV (E 6)) 107 107 (.inr ⟨6, by decide, rfl, rfl⟩) _ (HX.out _ HW6.out)).mono ?_
          rintro e w7 ⟨rfl, hb7⟩
          have HP7 := Lib.hid (HP6.out.below hb7)
          have HW7 := Lib.hid (HW6.out.trans (hb7.mono HW6.out.size))
          clear hb7
          go_wp2_with fail
          refine (HPU.out _ (HX.out _ HW7.out).sub4 HP7.out).mono ?_
          rintro e w8 ⟨rfl, hb8⟩
          have HP8 := Lib.hid (HP7.out.below hb8)
          have HW8 := Lib.hid (HW7.out.trans (hb8.mono HW7.out.size))
          clear hb8
          go_wp2_with fail
          refine (is_any E (errV (E 2)) 103 103 (.inr ⟨2, by decide, rfl, rfl⟩) _ (HX.out _ HW8.out)).mono ?_
          rintro e w9 ⟨rfl, hb9⟩
          have HP9 := Lib.hid (HP8.out.below hb9)
          have HW9 := Lib.hid (HW8.out.trans (hb9.mono HW8.out.size))
          clear hb9
          go_wp2_with fail
          refine (HPV.out _ (HX.out _ HW9.out).sub4 HP9.out).mono ?_
          rintro e w10 ⟨rfl, hb10⟩
          have HW10 := Lib.hid (HW9.out.trans (hb10.mono HW9.out.size))
          clear hb10
          go_wp2_with fail
          refine (is_any E (errV (E 2)) 103 103 (.inr ⟨2, by decide, rfl, rfl⟩) _ (HX.out _ HW10.out)).mono ?_
          rintro e w11 ⟨rfl, hb11⟩
          have HW11 := Lib.hid (HW10.out.trans (hb11.mono HW10.out.size))
          clear hb11
          go_wp2
          go_ret
          exact ⟨ret_bool (by simp), HW11.out⟩
        · have HT : Hid ((decide (f < m) && decide (f ≠ i)) = false) := Lib.hid (by simp; omega)
          have hwi : f ≠ (i : Int) := by omega
          have HMX : Hid (∀ r, IdxIs l2 i r → r = -1) := Lib.hid fun r hr => by rw [HIDX.out r hr, hc2, if_neg hwi]
          obtain rfl := HNIL.out HT.out
          subst hc2
          have hb1 : (want == (i : Int)) = false := by rw [beq_eq_false_iff_ne]; exact hwi
          rw [HT.out] at HD
          go_wp2_with fail
          refine (is_any E _ c 106 HN.out _ (HX.out _ HW4.out)).mono ?_
          rintro e w5 ⟨rfl, hb5⟩
          rw [HD.out]
          have HP5 := Lib.hid (HP2.out.below hb5)
          have HW5 := Lib.hid (HW4.out.trans (hb5.mono HW4.out.size))
          clear hb5
          go_wp2_with fail
          refine (pm_get l2 b v2 i _ HP5.out).mono ?_
          rintro e w6 ⟨rfl, rfl⟩
          rw [HGA.out]
          go_wp2_with fail
          refine (pm_of l2 b v2 i _ HP5.out (by have := HL2.out; omega)).mono ?_
          rintro e w6 ⟨⟨r, rfl, hr⟩, rfl⟩
          obtain rfl := HMX.out r hr
          clear hr
          rw [show max (-1 : Int) 0 = 0 by decide, show decide (0 ≤ (-1 : Int)) = false by decide]
          go_wp2_with fail
          refine (pm_len l2 b v2 _ HP5.out).mono ?_
          rintro e w6 ⟨rfl, rfl⟩
          rw [HL2.out]
          go_wp2_with fail
          refine (HPN.out _ (HX.out _ HW5.out).sub4 HP5.out).mono ?_
          rintro e w6 ⟨rfl, hb6⟩
          have HP6 := Lib.hid (HP5.out.below hb6)
          have HW6 := Lib.hid (HW5.out.trans (hb6.mono HW5.out.size))
          clear hb6
          go_wp2_with fail
          refine (is_any E (errV (E 6)) 107 107 (.inr ⟨6, by decide, rfl, rfl⟩) _ (HX.out _ HW6.out)).mono ?_
          rintro e w7 ⟨rfl, hb7⟩
          have HP7 := Lib.hid (HP6.out.below hb7)
          have HW7 := Lib.hid (HW6.out.trans (hb7.mono HW6.out.size))
          clear hb7
          go_wp2_with fail
          refine (HPU.out _ (HX.out _ HW7.out).sub4 HP7.out).mono ?_
          rintro e w8 ⟨rfl, hb8⟩
          have HP8 := Lib.hid (HP7.out.below hb8)
          have HW8 := Lib.hid (HW7.out.trans (hb8.mono HW7.out.size))
          clear hb8
          go_wp2_with fail
          refine (is_any E (errV (E 2)) 103 103 (.inr ⟨2, by decide, rfl, rfl⟩) _ (HX.out _ HW8.out)).mono ?_
          rintro e w9 ⟨rfl, hb9⟩
          have HP9 := Lib.hid (HP8.out.below hb9)
          have HW9 := Lib.hid (HW8.out.trans (hb9.mono HW8.out.size))
          clear hb9
          go_wp2_with fail
          refine (HPV.out _ (HX.out _ HW9.out).sub4 HP9.out).mono ?_
          rintro e w10 ⟨rfl, hb10⟩
          have HW10 := Lib.hid (HW9.out.trans (hb10.mono HW9.out.size))
          clear hb10
          go_wp2_with fail
          refine (is_any E (errV (E 2)) 103 103 (.inr ⟨2, by decide, rfl, rfl⟩) _ (HX.out _ HW10.out)).mono ?_
          rintro e w11 ⟨rfl, hb11⟩
          have HW11 := Lib.hid (HW10.out.trans (hb11.mono HW10.out.size))
          clear hb11
          go_wp2
          go_ret
          exact ⟨ret_bool (by simp), HW11.out⟩

end Go.Proofs.YtfbicbdfmcdadaaDoor
