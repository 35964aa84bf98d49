/-
  WalkPlaces: for every page, frame, flags and address the call returns true; nothing that was there is turned.
-/
import Derived.Test.YtpaijiamcjbbcaaDoorWkPl
namespace Go.Proofs.YtpaijiamcjbbcaaDoor
open Go.RowKit

set_option maxRecDepth 100000 in
set_option maxHeartbeats 8000000 in
theorem walkPlaces_walk (x0 x1 : Int) (wf uf : Bool) (x4 : Int) (w : World) (h0 : -9223372036854775808 ≤ x0 ∧ x0 ≤ 9223372036854775807) (h1 : -9223372036854775808 ≤ x1 ∧ x1 ≤ 9223372036854775807) (h4 : 0 ≤ x4 ∧ x4 ≤ 4294967295) :
    Calls Tryd.prog 5 #[.int .i64 x0, .int .i64 x1, .bool wf, .bool uf, .int .u32 x4] w fun e w' => e = .returned (.bool true) ∧ Below w.heap.size w w' := by
  have HN0 := Lib.hid (fun wx => number_any x0 256 wx h0.1 h0.2 (by decide) (by decide))
  have HN1 := Lib.hid (fun wx => number_any x1 18 wx h1.1 h1.2 (by decide) (by decide))
  obtain ⟨p, hp⟩ : ∃ p : Nat, x0 % 256 = (p : Int) := ⟨(x0 % 256).toNat, by omega⟩
  obtain ⟨f0, hf0⟩ : ∃ f0, x1 % 18 = f0 := ⟨_, rfl⟩
  have hp256 : p < 256 := by omega
  have hf0b : 0 ≤ f0 ∧ f0 < 18 := by omega
  rw [hp] at HN0
  rw [hf0] at HN1
  clear hp hf0 h0 h1
  have hwf := IntWalk.i64_in (f0 + 2) (by omega)
  obtain ⟨fr, hfr⟩ : ∃ fr, f0 + 2 = fr := ⟨_, rfl⟩
  have hfb : 2 ≤ fr ∧ fr < 20 := by omega
  rw [hfr] at hwf
  obtain ⟨a, ha⟩ : ∃ a : Nat, x4 % 5000 = (a : Int) := ⟨(x4 % 5000).toNat, by omega⟩
  have hx4 : IntKind.u32.wrap (x4 % 5000) = x4 % 5000 := IntWalk.u32_in _ (by omega)
  have ha5 : a < 5000 := by omega
  obtain ⟨q1, hq1⟩ : ∃ q : Nat, p / 16 = q := ⟨_, rfl⟩
  obtain ⟨q2, hq2⟩ : ∃ q : Nat, p % 16 = q := ⟨_, rfl⟩
  obtain ⟨qa, hqa⟩ : ∃ q : Nat, a / 16 = q := ⟨_, rfl⟩
  obtain ⟨ra, hra⟩ : ∃ q : Nat, a % 16 = q := ⟨_, rfl⟩
  have t1 : (p : Int).tdiv 16 = (q1 : Int) := by rw [Int.tdiv_eq_ediv_of_nonneg (by omega)]; omega
  have t2 : (p : Int).tmod 16 = (q2 : Int) := by rw [Int.tmod_eq_emod_of_nonneg (by omega)]; omega
  have t3 : (a : Int).tdiv 16 = (qa : Int) := by rw [Int.tdiv_eq_ediv_of_nonneg (by omega)]; omega
  have t4 : (a : Int).tmod 16 = (ra : Int) := by rw [Int.tmod_eq_emod_of_nonneg (by omega)]; omega
  have b1 : q1 < 16 := by omega
  have b2 : q2 < 16 := by omega
  have b4 : ra < 16 := by omega
  have v1 := IntWalk.i64_in (q1 : Int) (by omega)
  have v2 := IntWalk.i64_in (q2 : Int) (by omega)
  have v3 := IntWalk.i64_in (qa : Int) (by omega)
  have v4 := IntWalk.i64_in (ra : Int) (by omega)
  have v5 := IntWalk.i64_in (a : Int) (by omega)
  have v6 := IntWalk.i64_in (16 + (q2 : Int)) (by omega)
  have v7 := IntWalk.i64_in (16 * fr) (by omega)
  have v8 := IntWalk.i64_in (16 * fr + (ra : Int)) (by omega)
  have HA32 : Hid (W32 (a : Int)) := Lib.hid ⟨by omega, by omega⟩
  have HPL : Hid (∀ (l : List Int), (∀ j, l.getD j 0 = if j = 16 + q2 then entW fr true wf uf else if j = q1 then entW 1 true false false else 0) → ∀ wr us, walkA l 20 0 (a : Int) wr us = if qa = p ∧ (wr = true → wf = true) ∧ (us = true → uf = true) then (16 * fr + (ra : Int), true) else (0, false)) := Lib.hid fun l hl wr us => by
    rw [← hqa, ← hra]
    exact placesA l p a fr wf uf (by rw [hq1, hq2]; exact hl) hp256 hfb wr us
  have HLO := Lib.hid (low_ok wf uf hfb)
  have HB1 := Lib.hid b1
  have HB2 := Lib.hid b2
  clear hq1 hq2 hqa hra
  obtain ⟨inn, hinn⟩ : ∃ inn, decide (qa = p) = inn := ⟨_, rfl⟩
  have hin : ((qa : Int) == (p : Int)) = inn := by
    rw [← hinn]
    by_cases e : qa = p
    · subst e; simp
    · have e2 : ¬ ((qa : Int) = (p : Int)) := by omega
      simp [e, e2]
  have HPL2 : Hid (∀ (l : List Int), (∀ j, l.getD j 0 = if j = 16 + q2 then entW fr true wf uf else if j = q1 then entW 1 true false false else 0) → ∀ wr us, walkA l 20 0 (a : Int) wr us = if inn = true ∧ (wr = true → wf = true) ∧ (us = true → uf = true) then (16 * fr + (ra : Int), true) else (0, false)) := Lib.hid fun l hl wr us => by
    rw [HPL.out l hl wr us, ← hinn]
    simp only [decide_eq_true_eq]
  clear HPL hinn
  go_enter Tryd.func5, Tryd.ntmps5
  go_wp2_with fail
  refine (first_true _).mono ?_
  rintro e w1 ⟨rfl, hb1⟩
  have HB := Lib.hid hb1
  clear hb1
  go_wp2_with fail
  refine (HN0.out _).mono ?_
  rintro e w2 ⟨rfl, rfl⟩
  go_wp2_with fail
  refine (HN1.out _).mono ?_
  rintro e w2 ⟨rfl, rfl⟩
  go_wp2_with fail
  refine (memory_any [] none 0 _ (atL_nil _ _) (by decide)).mono ?_
  rintro e w2 ⟨b, v, xb, xv, l, rfl, hm, -, hl, hv, hb2⟩
  have HM := Lib.hid hm
  have HL : Hid (∀ j, l.getD j 0 = 0) := Lib.hid fun j => by rw [hl j]; rfl
  have HV : Hid (∀ k, inRow v k → w.heap.size ≤ k) := Lib.hid fun k hk => Nat.le_trans HB.out.size (hv k hk)
  have HB2' := Lib.hid (HB.out.trans (hb2.mono HB.out.size))
  clear hm hl hv hb2
  go_wp2_with fail
  refine (bits_yes 1 true false false _ top_ok).mono ?_
  rintro e w3 ⟨rfl, hb3⟩
  have HM3 := Lib.hid (HM.out.below hb3)
  have HB3 := Lib.hid (HB2'.out.trans (hb3.mono HB2'.out.size))
  clear hb3
  go_wp2_with fail
  refine (bits_yes fr true wf uf _ HLO.out).mono ?_
  rintro e w4 ⟨rfl, hb4⟩
  have HM4 := Lib.hid (HM3.out.below hb4)
  have HB4 := Lib.hid (HB3.out.trans (hb4.mono HB3.out.size))
  clear hb4
  go_wp2_with fail
  refine (mm_write_at l b 20 q1 v _ _ HM4.out (by have := HB1.out; omega)).mono ?_
  rintro e w5 ⟨rfl, hm5, ho5⟩
  have HM5 := Lib.hid hm5
  have HB5 := Lib.hid (HB4.out.trans (ho5.below HB4.out.size HV.out))
  clear hm5 ho5
  have HW2 := Lib.hid (fun x wx hm => mm_write_at (l.set q1 (entW 1 true false false)) b 20 (16 + q2) v x wx hm (by have := HB2.out; omega))
  rw [show ((16 + q2 : Nat) : Int) = 16 + (q2 : Int) by omega] at HW2
  go_wp2_with fail
  refine (HW2.out _ _ HM5.out).mono ?_
  rintro e w6 ⟨rfl, hm6, ho6⟩
  have HM6 := Lib.hid hm6
  have HB6 := Lib.hid (HB5.out.trans (ho6.below HB5.out.size HV.out))
  have HLL : Hid (∀ j, ((l.set q1 (entW 1 true false false)).set (16 + q2) (entW fr true wf uf)).getD j 0 = if j = 16 + q2 then entW fr true wf uf else if j = q1 then entW 1 true false false else 0) := Lib.hid fun j => by
    have hlen := HM.out.2.2
    have := HB1.out
    have := HB2.out
    rw [setD_get _ _ _ _ (by rw [List.length_set]; omega), setD_get _ _ _ _ (by omega), HL.out j]
  obtain ⟨L, hL⟩ : ∃ L, (l.set q1 (entW 1 true false false)).set (16 + q2) (entW fr true wf uf) = L := ⟨_, rfl⟩
  rw [hL] at HM6 HLL
  clear hm6 ho6 hL
  have HLW : Hid (∀ j, W32 (L.getD j 0)) := Lib.hid fun j => by
    rw [HLL.out j]
    split
    · exact entW_w32 HLO.out
    · split
      · exact entW_w32 top_ok
      · exact ⟨by decide, by decide⟩
  have HS := Lib.hid (fun wr us wx hm => walk_any L b 20 v 0 (a : Int) wr us wx hm (by decide) HLW.out HA32.out)
  have HS1 := Lib.hid (HS.out false false)
  have HS2 := Lib.hid (HS.out true false)
  have HS3 := Lib.hid (HS.out false true)
  have HS4 := Lib.hid (HS.out true true)
  rw [HPL2.out L HLL.out] at HS1 HS2 HS3 HS4
  unfold pairV at HS1 HS2 HS3 HS4
  clear HS HPL2 HLL HLW
  have hx5 := hx4
  rw [ha] at hx4
  clear hx4
  cases inn <;> cases wf <;> cases uf
  all_goals
    simp only [if_true, if_false, false_and, true_and, Bool.false_eq_true, reduceCtorEq, and_true, and_false, and_self, true_implies, false_implies, implies_true, forall_const] at HS1 HS2 HS3 HS4
    go_wp2_with fail
    refine (HS1.out _ HM6.out).mono ?_
    rintro e z1 ⟨rfl, hb⟩
    have HM7 := Lib.hid (HM6.out.below hb)
    have HB7 := Lib.hid (HB6.out.trans (hb.mono HB6.out.size))
    clear hb
    go_wp2_with fail
    refine (HS2.out _ HM7.out).mono ?_
    rintro e z2 ⟨rfl, hb⟩
    have HM8 := Lib.hid (HM7.out.below hb)
    have HB8 := Lib.hid (HB7.out.trans (hb.mono HB7.out.size))
    clear hb
    go_wp2_with fail
    refine (HS3.out _ HM8.out).mono ?_
    rintro e z3 ⟨rfl, hb⟩
    have HM9 := Lib.hid (HM8.out.below hb)
    have HB9 := Lib.hid (HB8.out.trans (hb.mono HB8.out.size))
    clear hb
    go_wp2_with fail
    refine (HS4.out _ HM9.out).mono ?_
    rintro e z4 ⟨rfl, hb⟩
    have HM10 := Lib.hid (HM9.out.below hb)
    have HB10 := Lib.hid (HB9.out.trans (hb.mono HB9.out.size))
    clear hb
    go_wp2
    go_ret
    exact ⟨rfl, HB10.out⟩
end Go.Proofs.YtpaijiamcjbbcaaDoor
