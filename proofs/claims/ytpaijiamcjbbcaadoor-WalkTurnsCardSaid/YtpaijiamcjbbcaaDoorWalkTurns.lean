/-
  WalkTurns: for every page, frame, place of a bit and address the call returns true; nothing that was there is turned.
-/
import Derived.Test.YtpaijiamcjbbcaaDoorWkPl
namespace Go.Proofs.YtpaijiamcjbbcaaDoor
open Go.RowKit

theorem xor_w32 (x y : Int) : W32 (bits BinOp.xor IntKind.u32 x y) := by
  show W32 (IntKind.u32.wrap _)
  rw [IntKind.wrap_u32]
  exact ⟨by omega, by omega⟩

set_option maxRecDepth 100000 in
set_option maxHeartbeats 8000000 in
theorem walkTurns_walk (x0 x1 x2 x3 : Int) (w : World) (h0 : -9223372036854775808 ≤ x0 ∧ x0 ≤ 9223372036854775807) (h1 : -9223372036854775808 ≤ x1 ∧ x1 ≤ 9223372036854775807) (h2 : 0 ≤ x2 ∧ x2 ≤ 18446744073709551615) (h3 : 0 ≤ x3 ∧ x3 ≤ 4294967295) :
    Calls Tryd.prog 6 #[.int .i64 x0, .int .i64 x1, .int .u64 x2, .int .u32 x3] w fun e w' => e = .returned (.bool true) ∧ Below w.heap.size w w' := by
  have HN0 := Lib.hid (fun wx => number_any x0 256 wx h0.1 h0.2 (by decide) (by decide))
  have HN1 := Lib.hid (fun wx => number_any x1 18 wx h1.1 h1.2 (by decide) (by decide))
  obtain ⟨p, hp⟩ : ∃ p : Nat, x0 % 256 = (p : Int) := ⟨(x0 % 256).toNat, by omega⟩
  obtain ⟨f0, hf0⟩ : ∃ f0, x1 % 18 = f0 := ⟨_, rfl⟩
  have hp256 : p < 256 := by omega
  have hf0b : 0 ≤ f0 ∧ f0 < 18 := by omega
  rw [hp] at HN0
  rw [hf0] at HN1
  clear hp hf0 h0 h1
  have hwf := IntWalk.i64_in (f0 + 2) (by omega)
  obtain ⟨fr, hfr⟩ : ∃ fr, f0 + 2 = fr := ⟨_, rfl⟩
  have hfb : 2 ≤ fr ∧ fr < 20 := by omega
  rw [hfr] at hwf
  obtain ⟨t, ht⟩ : ∃ t : Nat, x2 % 32 = (t : Int) := ⟨(x2 % 32).toNat, by omega⟩
  have ht32 : t < 32 := by omega
  obtain ⟨S, hS⟩ : ∃ S : Int, (2 : Int) ^ t % 4294967296 = S := ⟨_, rfl⟩
  obtain ⟨k, hk⟩ : ∃ k : Nat, x3 % 16 = (k : Int) := ⟨(x3 % 16).toNat, by omega⟩
  have hk16 : k < 16 := by omega
  have hwk : IntKind.u32.wrap (k : Int) = (k : Int) := IntWalk.u32_in _ (by omega)
  obtain ⟨q1, hq1⟩ : ∃ q : Nat, p / 16 = q := ⟨_, rfl⟩
  obtain ⟨q2, hq2⟩ : ∃ q : Nat, p % 16 = q := ⟨_, rfl⟩
  have t1 : (p : Int).tdiv 16 = (q1 : Int) := by rw [Int.tdiv_eq_ediv_of_nonneg (by omega)]; omega
  have t2 : (p : Int).tmod 16 = (q2 : Int) := by rw [Int.tmod_eq_emod_of_nonneg (by omega)]; omega
  have b1 : q1 < 16 := by omega
  have b2 : q2 < 16 := by omega
  have v1 := IntWalk.i64_in (q1 : Int) (by omega)
  have v2 := IntWalk.i64_in (q2 : Int) (by omega)
  have v6 := IntWalk.i64_in (16 + (q2 : Int)) (by omega)
  have v3 := IntWalk.i64_in (16 * (p : Int)) (by omega)
  have v4 := IntWalk.u32_in (16 * (p : Int)) (by omega)
  have v5 := IntWalk.u32_in (16 * (p : Int) + (k : Int)) (by omega)
  have HAD : Hid (((256 * q1 + 16 * q2 + k : Nat) : Int) = 16 * (p : Int) + (k : Int)) := Lib.hid (by omega)
  have HA32 : Hid (W32 (16 * (p : Int) + (k : Int))) := Lib.hid ⟨by omega, by omega⟩
  have HLO := Lib.hid (low_ok true true hfb)
  have HFB := Lib.hid hfb
  have HB1 := Lib.hid b1
  have HB2 := Lib.hid b2
  have HK16 := Lib.hid hk16
  clear hq1 hq2
  obtain ⟨X, hX⟩ : ∃ X, bits BinOp.xor IntKind.u32 (entW fr true true true) S = X := ⟨_, rfl⟩
  have HXW : Hid (W32 X) := Lib.hid (hX ▸ xor_w32 _ _)
  obtain ⟨⟨⟨og, ot, ow, ou⟩, ok⟩, ho⟩ : ∃ z, ofA X = z := ⟨_, rfl⟩
  have HOF := Lib.hid (fun wx => rof_any X wx HXW.out)
  rw [ho] at HOF
  unfold Ent.v at HOF
  have HO := Lib.hid ho
  clear ho
  go_enter Tryd.func6, Tryd.ntmps6
  go_wp2_with fail
  refine (first_true _).mono ?_
  rintro e w1 ⟨rfl, hb1⟩
  have HB := Lib.hid hb1
  clear hb1
  go_wp2_with fail
  refine (HN0.out _).mono ?_
  rintro e w2 ⟨rfl, rfl⟩
  go_wp2_with fail
  refine (HN1.out _).mono ?_
  rintro e w2 ⟨rfl, rfl⟩
  go_wp2_with fail
  refine (memory_any [] none 0 _ (atL_nil _ _) (by decide)).mono ?_
  rintro e w2 ⟨b, v, xb, xv, l, rfl, hm, -, hl, hv, hb2⟩
  have HM := Lib.hid hm
  have HL : Hid (∀ j, l.getD j 0 = 0) := Lib.hid fun j => by rw [hl j]; rfl
  have HV : Hid (∀ k, inRow v k → w.heap.size ≤ k) := Lib.hid fun k hk => Nat.le_trans HB.out.size (hv k hk)
  have HB2' := Lib.hid (HB.out.trans (hb2.mono HB.out.size))
  clear hm hl hv hb2
  go_wp2_with fail
  refine (bits_yes 1 true false false _ top_ok).mono ?_
  rintro e w3 ⟨rfl, hb3⟩
  have HM3 := Lib.hid (HM.out.below hb3)
  have HB3 := Lib.hid (HB2'.out.trans (hb3.mono HB2'.out.size))
  clear hb3
  go_wp2_with fail
  refine (bits_yes fr true true true _ HLO.out).mono ?_
  rintro e w4 ⟨rfl, hb4⟩
  have HM4 := Lib.hid (HM3.out.below hb4)
  have HB4 := Lib.hid (HB3.out.trans (hb4.mono HB3.out.size))
  clear hb4
  obtain ⟨low, hlow⟩ : ∃ low, entW fr true true true = low := ⟨_, rfl⟩
  have HLW : Hid (ofA low = (⟨fr, true, true, true⟩, true) ∧ W32 low) := Lib.hid (hlow ▸ ⟨ofA_ent HLO.out, entW_w32 HLO.out⟩)
  rw [hlow] at hX ⊢
  clear hlow
  obtain ⟨top, htop⟩ : ∃ top, entW 1 true false false = top := ⟨_, rfl⟩
  have HTW : Hid (top = entW 1 true false false ∧ W32 top) := Lib.hid (htop ▸ ⟨rfl, entW_w32 top_ok⟩)
  rw [htop]
  clear htop
  have HW5 := Lib.hid (fun wx hm => mm_write_at l b 20 (q1) v top wx hm (by have := HB1.out; omega))
  go_wp2_with fail
  refine (HW5.out _ HM4.out).mono ?_
  rintro e w5 ⟨rfl, hm, ho⟩
  have HM5 := Lib.hid hm
  have HB5 := Lib.hid (HB4.out.trans (ho.below HB4.out.size HV.out))
  clear hm ho
  have HGL1 : Hid ((l.set q1 top).length = 16 * 20 ∧ ∀ j, (l.set q1 top).getD j 0 = if j = q1 then top else l.getD j 0) := Lib.hid ⟨by rw [List.length_set]; exact HM.out.2.2, fun j => by
    have := HM.out.2.2
    have := HB1.out
    rw [setD_get _ _ _ _ (by omega)]⟩
  obtain ⟨L1, hL1⟩ : ∃ L, (l.set q1 top) = L := ⟨_, rfl⟩
  rw [hL1] at HM5 HGL1
  clear hL1
  have HW6 := Lib.hid (fun wx hm => mm_write_at L1 b 20 (16 + q2) v low wx hm (by have := HB2.out; omega))
  rw [show ((16 + q2 : Nat) : Int) = 16 + (q2 : Int) by omega] at HW6
  go_wp2_with fail
  refine (HW6.out _ HM5.out).mono ?_
  rintro e w6 ⟨rfl, hm, ho⟩
  have HM6 := Lib.hid hm
  have HB6 := Lib.hid (HB5.out.trans (ho.below HB5.out.size HV.out))
  clear hm ho
  have HGL2 : Hid ((L1.set (16 + q2) low).length = 16 * 20 ∧ ∀ j, (L1.set (16 + q2) low).getD j 0 = if j = 16 + q2 then low else L1.getD j 0) := Lib.hid ⟨by rw [List.length_set]; exact HGL1.out.1, fun j => by
    have := HGL1.out.1
    have := HB2.out
    rw [setD_get _ _ _ _ (by omega)]⟩
  obtain ⟨L2, hL2⟩ : ∃ L, (L1.set (16 + q2) low) = L := ⟨_, rfl⟩
  rw [hL2] at HM6 HGL2
  clear hL2
  have HW32l : Hid (∀ j, W32 (l.getD j 0)) := Lib.hid fun j => by rw [HL.out j]; exact ⟨by decide, by decide⟩
  have HW32L1 : Hid (∀ j, W32 (L1.getD j 0)) := Lib.hid fun j => by
    rw [HGL1.out.2 j]
    split
    · exact HTW.out.2
    · exact HW32l.out j
  have HW32L2 : Hid (∀ j, W32 (L2.getD j 0)) := Lib.hid fun j => by
    rw [HGL2.out.2 j]
    split
    · exact HLW.out.2
    · exact HW32L1.out j
  have T2 : L2.getD q1 0 = entW 1 true false false := by rw [HGL2.out.2 q1, if_neg (by have := HB1.out; omega), HGL1.out.2 q1, if_pos rfl, HTW.out.1]
  have O2 : ofA (L2.getD (16 + q2) 0) = (⟨fr, true, true, true⟩, true) := by rw [HGL2.out.2 (16 + q2), if_pos rfl, HLW.out.1]
  have E2 := throughA L2 q1 q2 k HB1.out HB2.out HK16.out T2 _ _ O2 true true
  rw [if_pos ⟨rfl, rfl, by simp, by simp, HFB.out.2⟩, HAD.out] at E2
  have HS1 := Lib.hid (fun wx hm => walk_any L2 b 20 v 0 (16 * (p : Int) + (k : Int)) true true wx hm (by decide) HW32L2.out HA32.out)
  rw [E2] at HS1
  unfold pairV at HS1
  clear E2 O2 T2
  go_wp2_with fail
  refine (HS1.out _ HM6.out).mono ?_
  rintro e z1 ⟨rfl, hb⟩
  have HM7 := Lib.hid (HM6.out.below hb)
  have HB7 := Lib.hid (HB6.out.trans (hb.mono HB6.out.size))
  clear hb HS1
  have HW8 := Lib.hid (fun wx hm => mm_write_at L2 b 20 (16 + q2) v X wx hm (by have := HB2.out; omega))
  rw [show ((16 + q2 : Nat) : Int) = 16 + (q2 : Int) by omega] at HW8
  go_wp2_with fail
  refine (HW8.out _ HM7.out).mono ?_
  rintro e w8 ⟨rfl, hm, ho⟩
  have HM8 := Lib.hid hm
  have HB8 := Lib.hid (HB7.out.trans (ho.below HB7.out.size HV.out))
  clear hm ho
  have HGL3 : Hid ((L2.set (16 + q2) X).length = 16 * 20 ∧ ∀ j, (L2.set (16 + q2) X).getD j 0 = if j = 16 + q2 then X else L2.getD j 0) := Lib.hid ⟨by rw [List.length_set]; exact HGL2.out.1, fun j => by
    have := HGL2.out.1
    have := HB2.out
    rw [setD_get _ _ _ _ (by omega)]⟩
  obtain ⟨L3, hL3⟩ : ∃ L, (L2.set (16 + q2) X) = L := ⟨_, rfl⟩
  rw [hL3] at HM8 HGL3
  clear hL3
  have HW32L3 : Hid (∀ j, W32 (L3.getD j 0)) := Lib.hid fun j => by
    rw [HGL3.out.2 j]
    split
    · exact HXW.out
    · exact HW32L2.out j
  have T3 : L3.getD q1 0 = entW 1 true false false := by rw [HGL3.out.2 q1, if_neg (by have := HB1.out; omega), HGL2.out.2 q1, if_neg (by have := HB1.out; omega), HGL1.out.2 q1, if_pos rfl, HTW.out.1]
  have O3 : ofA (L3.getD (16 + q2) 0) = (⟨og, ot, ow, ou⟩, ok) := by rw [HGL3.out.2 (16 + q2), if_pos rfl, HO.out]
  have E3 := throughA L3 q1 q2 k HB1.out HB2.out HK16.out T3 _ _ O3 true true
  rw [HAD.out] at E3
  have HS2 : Hid (∀ r, walkA L3 20 0 (16 * (p : Int) + (k : Int)) true true = r → ∀ wx, MAt wx b v 20 L3 → Calls Tryd.prog 12 #[.pointer (some ⟨b, 0, none⟩), .int .i64 0, .int .u32 (16 * (p : Int) + (k : Int)), .bool true, .bool true] wx fun e w' => e = .returned (pairV r) ∧ Below wx.heap.size wx w') := Lib.hid fun r hr wx hm => hr ▸ walk_any L3 b 20 v 0 (16 * (p : Int) + (k : Int)) true true wx hm (by decide) HW32L3.out HA32.out
  have HS3 := Lib.hid (HS2.out _ E3)
  clear E3 O3 T3 HS2
  obtain ⟨hasb, hhas⟩ : ∃ hb, (ok && ot && ow && ou && decide (og < 20)) = hb := ⟨_, rfl⟩
  have HS4 : Hid (∀ wx, MAt wx b v 20 L3 → Calls Tryd.prog 12 #[.pointer (some ⟨b, 0, none⟩), .int .i64 0, .int .u32 (16 * (p : Int) + (k : Int)), .bool true, .bool true] wx fun e w' => (∃ a, e = .returned (.tuple #[.int .i64 a, .bool (ok && ot && ow && ou && decide (og < 20))])) ∧ Below wx.heap.size wx w') := Lib.hid fun wx hm => (HS3.out wx hm).mono fun e w' ⟨he, hb⟩ => ⟨by
    rw [he]
    unfold pairV
    by_cases hc : ok = true ∧ ot = true ∧ (true = true → ow = true) ∧ (true = true → ou = true) ∧ og < 20
    · rw [if_pos hc]
      obtain ⟨rfl, rfl, h5, h6, h7⟩ := hc
      obtain rfl := h5 rfl
      obtain rfl := h6 rfl
      exact ⟨_, by rw [decide_eq_true h7]; rfl⟩
    · rw [if_neg hc]
      refine ⟨0, ?_⟩
      have : (ok && ot && ow && ou && decide (og < 20)) = false := by
        rw [Bool.eq_false_iff]
        intro h
        simp only [Bool.and_eq_true, decide_eq_true_eq] at h
        exact hc ⟨h.1.1.1.1, h.1.1.1.2, fun _ => h.1.1.2, fun _ => h.1.2, h.2⟩
      rw [this], hb⟩
  rw [hhas] at HS4
  clear HS3
  go_wp2_with fail
  refine (HS4.out _ HM8.out).mono ?_
  rintro e z2 ⟨⟨ra, rfl⟩, hb⟩
  have HM9 := Lib.hid (HM8.out.below hb)
  have HB9 := Lib.hid (HB8.out.trans (hb.mono HB8.out.size))
  clear hb HS4
  go_wp2_with fail
  refine (HOF.out _).mono ?_
  rintro e z3 ⟨rfl, hb⟩
  have HM10' := Lib.hid (HM9.out.below hb)
  have HB10' := Lib.hid (HB9.out.trans (hb.mono HB9.out.size))
  have HM10 : Hid (∀ X, MAt (z3.alloc X) b v 20 L3) := Lib.hid fun X => HM10'.out.below ((Below.refl _ _).alloc (Nat.le_refl _) _)
  have HB10 : Hid (∀ X, Below w.heap.size w (z3.alloc X)) := Lib.hid fun X => HB10'.out.alloc HB10'.out.size _
  clear hb HM10' HB10'
  have HW11 := Lib.hid (fun wx hm => mm_write_at L3 b 20 (16 + q2) v low wx hm (by have := HB2.out; omega))
  rw [show ((16 + q2 : Nat) : Int) = 16 + (q2 : Int) by omega] at HW11
  have HG4 : Hid ((L3.set (16 + q2) low).length = 16 * 20 ∧ ∀ j, (L3.set (16 + q2) low).getD j 0 = if j = 16 + q2 then low else L3.getD j 0) := Lib.hid ⟨by rw [List.length_set]; exact HGL3.out.1, fun j => by
    have := HGL3.out.1
    have := HB2.out
    rw [setD_get _ _ _ _ (by omega)]⟩
  obtain ⟨L4, hL4⟩ : ∃ L, L3.set (16 + q2) low = L := ⟨_, rfl⟩
  rw [hL4] at HW11 HG4
  clear hL4
  have HW12 := Lib.hid (fun wx hm => mm_write_at L4 b 20 q1 v 0 wx hm (by have := HB1.out; omega))
  have HG5 : Hid ((L4.set q1 0).length = 16 * 20 ∧ ∀ j, (L4.set q1 0).getD j 0 = if j = q1 then 0 else L4.getD j 0) := Lib.hid ⟨by rw [List.length_set]; exact HG4.out.1, fun j => by
    have := HG4.out.1
    have := HB1.out
    rw [setD_get _ _ _ _ (by omega)]⟩
  obtain ⟨L5, hL5⟩ : ∃ L, L4.set q1 0 = L := ⟨_, rfl⟩
  rw [hL5] at HW12 HG5
  clear hL5
  have HS5 := Lib.hid (fun wx hm => walk_any L5 b 20 v 0 (16 * (p : Int) + (k : Int)) false false wx hm (by decide) (fun j => by
    rw [HG5.out.2 j]
    split
    · exact ⟨by decide, by decide⟩
    · rw [HG4.out.2 j]
      split
      · exact HLW.out.2
      · exact HW32L3.out j) HA32.out)
  have E5 := notopA L5 q1 q2 k HB1.out HB2.out HK16.out (by rw [HG5.out.2 q1, if_pos rfl]) false false
  rw [HAD.out] at E5
  rw [E5] at HS5
  unfold pairV at HS5
  clear E5
  have hfin : (ok = false) ∨ (ok = true ∧ ot = false) ∨ (ok = true ∧ ot = true ∧ ow = false) ∨ (ok = true ∧ ot = true ∧ ow = true ∧ ou = false) ∨ (ok = true ∧ ot = true ∧ ow = true ∧ ou = true ∧ ¬ og < 20) ∨ (ok = true ∧ ot = true ∧ ow = true ∧ ou = true ∧ og < 20) := by
    by_cases hh : og < 20 <;> cases ok <;> cases ot <;> cases ow <;> cases ou <;> simp [hh]
  rcases hfin with rfl | ⟨rfl, rfl⟩ | ⟨rfl, rfl, rfl⟩ | ⟨rfl, rfl, rfl, rfl⟩ | ⟨rfl, rfl, rfl, rfl, hh⟩ | ⟨rfl, rfl, rfl, rfl, hh⟩
  all_goals
    first
      | rw [decide_eq_true hh] at hhas
      | rw [decide_eq_false hh] at hhas
      | skip
    first
      | have hd : decide (og < 20) = true := decide_eq_true hh
      | have hd : decide (og < 20) = false := decide_eq_false hh
      | skip
    simp only [Bool.false_and, Bool.and_false, Bool.and_true, Bool.true_and, Bool.and_self] at hhas
    subst hhas
    go_wp2_with fail
    refine (HW11.out _ (HM10.out _)).mono ?_
    rintro e w11 ⟨rfl, hm, ho⟩
    have HM11 := Lib.hid hm
    have HB11 := Lib.hid ((HB10.out _).trans (ho.below (HB10.out _).size HV.out))
    clear hm ho
    go_wp2_with fail
    refine (HW12.out _ HM11.out).mono ?_
    rintro e w12 ⟨rfl, hm, ho⟩
    have HM12 := Lib.hid hm
    have HB12 := Lib.hid (HB11.out.trans (ho.below HB11.out.size HV.out))
    clear hm ho
    go_wp2_with fail
    refine (HS5.out _ HM12.out).mono ?_
    rintro e w13 ⟨rfl, hb⟩
    have HB13 := Lib.hid (HB12.out.trans (hb.mono HB12.out.size))
    clear hb
    go_wp2
    go_ret
    exact ⟨rfl, HB13.out⟩
end Go.Proofs.YtpaijiamcjbbcaaDoor
