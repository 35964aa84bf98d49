/-
  WalkShares: for every numbers the call returns true; nothing that was there is turned.
-/
import Derived.Test.YtpaijiamcjbbcaaDoorWkPl
namespace Go.Proofs.YtpaijiamcjbbcaaDoor
open Go.RowKit

set_option maxRecDepth 100000 in
set_option maxHeartbeats 8000000 in
theorem walkShares_walk (x0 x1 x2 x3 x4 : Int) (w : World) (h0 : -9223372036854775808 ≤ x0 ∧ x0 ≤ 9223372036854775807) (h1 : -9223372036854775808 ≤ x1 ∧ x1 ≤ 9223372036854775807) (h2 : -9223372036854775808 ≤ x2 ∧ x2 ≤ 9223372036854775807) (h3 : -9223372036854775808 ≤ x3 ∧ x3 ≤ 9223372036854775807) (h4 : -9223372036854775808 ≤ x4 ∧ x4 ≤ 9223372036854775807) :
    Calls Tryd.prog 3 #[.int .i64 x0, .int .i64 x1, .int .i64 x2, .int .i64 x3, .int .i64 x4] w fun e w' => e = .returned (.bool true) ∧ Below w.heap.size w w' := by
  have HN0 := Lib.hid (fun wx => number_any x0 16 wx h0.1 h0.2 (by decide) (by decide))
  obtain ⟨a, ha⟩ : ∃ a : Nat, x0 % 16 = (a : Int) := ⟨(x0 % 16).toNat, by omega⟩
  have ba : a < 16 := by omega
  rw [ha] at HN0
  have HBa := Lib.hid ba
  clear ha h0
  have HN1 := Lib.hid (fun wx => number_any x1 16 wx h1.1 h1.2 (by decide) (by decide))
  obtain ⟨b, hb⟩ : ∃ b : Nat, x1 % 16 = (b : Int) := ⟨(x1 % 16).toNat, by omega⟩
  have bb : b < 16 := by omega
  rw [hb] at HN1
  have HBb := Lib.hid bb
  clear hb h1
  have HN2 := Lib.hid (fun wx => number_any x2 16 wx h2.1 h2.2 (by decide) (by decide))
  obtain ⟨p, hp⟩ : ∃ p : Nat, x2 % 16 = (p : Int) := ⟨(x2 % 16).toNat, by omega⟩
  have bp : p < 16 := by omega
  rw [hp] at HN2
  have HBp := Lib.hid bp
  clear hp h2
  have HN3 := Lib.hid (fun wx => number_any x3 16 wx h3.1 h3.2 (by decide) (by decide))
  obtain ⟨q, hq⟩ : ∃ q : Nat, x3 % 16 = (q : Int) := ⟨(x3 % 16).toNat, by omega⟩
  have bq : q < 16 := by omega
  rw [hq] at HN3
  have HBq := Lib.hid bq
  clear hq h3
  have HN4 := Lib.hid (fun wx => number_any x4 18 wx h4.1 h4.2 (by decide) (by decide))
  obtain ⟨f0, hf0⟩ : ∃ f0, x4 % 18 = f0 := ⟨_, rfl⟩
  have hf0b : 0 ≤ f0 ∧ f0 < 18 := by omega
  rw [hf0] at HN4
  clear hf0 h4
  have hwf := IntWalk.i64_in (f0 + 2) (by omega)
  obtain ⟨fr, hfr⟩ : ∃ fr, f0 + 2 = fr := ⟨_, rfl⟩
  have hfb : 2 ≤ fr ∧ fr < 20 := by omega
  rw [hfr] at hwf
  have HLO := Lib.hid (low_ok true false hfb)
  have HFB := Lib.hid hfb
  have u1 := IntWalk.i64_in (256 * (a : Int)) (by omega)
  have u2 := IntWalk.i64_in (256 * (b : Int)) (by omega)
  have u3 := IntWalk.i64_in (16 * (p : Int)) (by omega)
  have u4 := IntWalk.i64_in (16 * (q : Int)) (by omega)
  have u5 := IntWalk.i64_in (256 * (a : Int) + 16 * (p : Int)) (by omega)
  have u6 := IntWalk.i64_in (256 * (b : Int) + 16 * (q : Int)) (by omega)
  have u7 := IntWalk.i64_in (256 * (a : Int) + 16 * (p : Int) + 3) (by omega)
  have u8 := IntWalk.i64_in (256 * (b : Int) + 16 * (q : Int) + 3) (by omega)
  have u9 := IntWalk.u32_in (256 * (a : Int) + 16 * (p : Int) + 3) (by omega)
  have u10 := IntWalk.u32_in (256 * (b : Int) + 16 * (q : Int) + 3) (by omega)
  have u11 := IntWalk.i64_in (16 * (b : Int)) (by omega)
  have u12 := IntWalk.i64_in (16 * (b : Int) + (p : Int)) (by omega)
  have u13 := IntWalk.i64_in (16 + (p : Int)) (by omega)
  have u14 := IntWalk.i64_in (16 + (q : Int)) (by omega)
  have u15 := IntWalk.i64_in (16 * fr) (by omega)
  have u16 := IntWalk.i64_in (16 * fr + 3) (by omega)
  go_enter Tryd.func3, Tryd.ntmps3
  go_wp2_with fail
  refine (first_true _).mono ?_
  rintro e w1 ⟨rfl, hb1⟩
  have HB := Lib.hid hb1
  clear hb1
  go_wp2_with fail
  refine (HN0.out _).mono ?_
  rintro e w2 ⟨rfl, rfl⟩
  go_wp2_with fail
  refine (HN1.out _).mono ?_
  rintro e w2 ⟨rfl, rfl⟩
  go_wp2_with fail
  refine (HN2.out _).mono ?_
  rintro e w2 ⟨rfl, rfl⟩
  go_wp2_with fail
  refine (HN3.out _).mono ?_
  rintro e w2 ⟨rfl, rfl⟩
  go_wp2_with fail
  refine (HN4.out _).mono ?_
  rintro e w2 ⟨rfl, rfl⟩
  go_wp2_with fail
  refine (memory_any [] none 0 _ (atL_nil _ _) (by decide)).mono ?_
  rintro e w2 ⟨mb, v, xb, xv, l, rfl, hm, -, hl, hv, hb2⟩
  have HM := Lib.hid hm
  have HL : Hid (∀ j, l.getD j 0 = 0) := Lib.hid fun j => by rw [hl j]; rfl
  have HV : Hid (∀ k, inRow v k → w.heap.size ≤ k) := Lib.hid fun k hk => Nat.le_trans HB.out.size (hv k hk)
  have HB2' := Lib.hid (HB.out.trans (hb2.mono HB.out.size))
  clear hm hl hv hb2
  go_wp2_with fail
  refine (bits_yes 1 true false false _ top_ok).mono ?_
  rintro e w3 ⟨rfl, hb3⟩
  have HM3 := Lib.hid (HM.out.below hb3)
  have HB3 := Lib.hid (HB2'.out.trans (hb3.mono HB2'.out.size))
  clear hb3
  go_wp2_with fail
  refine (bits_yes fr true true false _ HLO.out).mono ?_
  rintro e w4 ⟨rfl, hb4⟩
  have HM4 := Lib.hid (HM3.out.below hb4)
  have HB4 := Lib.hid (HB3.out.trans (hb4.mono HB3.out.size))
  clear hb4
  have HW5 := Lib.hid (fun wx hm => mm_write_at l mb 20 (a) v (entW 1 true false false) wx hm (by have := HBa.out; omega))
  go_wp2_with fail
  refine (HW5.out _ HM4.out).mono ?_
  rintro e w5 ⟨rfl, hm, ho⟩
  have HM5 := Lib.hid hm
  have HB5 := Lib.hid (HB4.out.trans (ho.below HB4.out.size HV.out))
  clear hm ho
  have HW6 := Lib.hid (fun wx hm => mm_write_at (l.set (a) (entW 1 true false false)) mb 20 (b) v (entW 1 true false false) wx hm (by have := HBb.out; omega))
  go_wp2_with fail
  refine (HW6.out _ HM5.out).mono ?_
  rintro e w6 ⟨rfl, hm, ho⟩
  have HM6 := Lib.hid hm
  have HB6 := Lib.hid (HB5.out.trans (ho.below HB5.out.size HV.out))
  clear hm ho
  have HW7 := Lib.hid (fun wx hm => mm_write_at ((l.set (a) (entW 1 true false false)).set (b) (entW 1 true false false)) mb 20 (16 + p) v (entW fr true true false) wx hm (by have := HBp.out; omega))
  rw [show ((16 + p : Nat) : Int) = 16 + (p : Int) by omega] at HW7
  go_wp2_with fail
  refine (HW7.out _ HM6.out).mono ?_
  rintro e w7 ⟨rfl, hm, ho⟩
  have HM7 := Lib.hid hm
  have HB7 := Lib.hid (HB6.out.trans (ho.below HB6.out.size HV.out))
  clear hm ho
  have HW8 := Lib.hid (fun wx hm => mm_write_at (((l.set (a) (entW 1 true false false)).set (b) (entW 1 true false false)).set (16 + p) (entW fr true true false)) mb 20 (16 + q) v (entW fr true true false) wx hm (by have := HBq.out; omega))
  rw [show ((16 + q : Nat) : Int) = 16 + (q : Int) by omega] at HW8
  go_wp2_with fail
  refine (HW8.out _ HM7.out).mono ?_
  rintro e w8 ⟨rfl, hm, ho⟩
  have HM8 := Lib.hid hm
  have HB8 := Lib.hid (HB7.out.trans (ho.below HB7.out.size HV.out))
  clear hm ho
  have HLL : Hid (∀ j, (((((l.set (a) (entW 1 true false false)).set (b) (entW 1 true false false)).set (16 + p) (entW fr true true false)).set (16 + q) (entW fr true true false))).getD j 0 = if j = 16 + q then entW fr true true false else if j = 16 + p then entW fr true true false else if j = b then entW 1 true false false else if j = a then entW 1 true false false else 0) := Lib.hid fun j => by
    have hlen := HM.out.2.2
    have := HBa.out
    have := HBb.out
    have := HBp.out
    have := HBq.out
    rw [setD_get _ _ _ _ (by simp only [List.length_set]; omega), setD_get _ _ _ _ (by simp only [List.length_set]; omega), setD_get _ _ _ _ (by simp only [List.length_set]; omega), setD_get _ _ _ _ (by omega), HL.out j]
  obtain ⟨L, hL⟩ : ∃ L, ((((l.set (a) (entW 1 true false false)).set (b) (entW 1 true false false)).set (16 + p) (entW fr true true false)).set (16 + q) (entW fr true true false)) = L := ⟨_, rfl⟩
  rw [hL] at HM8 HLL
  clear hL
  have HLW : Hid (∀ j, W32 (L.getD j 0)) := Lib.hid fun j => by
    rw [HLL.out j]
    repeat' split
    · exact entW_w32 HLO.out
    · exact entW_w32 HLO.out
    · exact entW_w32 top_ok
    · exact entW_w32 top_ok
    · exact ⟨by decide, by decide⟩
  have TA : L.getD a 0 = entW 1 true false false := by
    rw [HLL.out a, if_neg (by omega), if_neg (by omega)]
    split
    · rfl
    · rw [if_pos rfl]
  have TB : L.getD b 0 = entW 1 true false false := by rw [HLL.out b, if_neg (by omega), if_neg (by omega), if_pos rfl]
  have TP : ofA (L.getD (16 + p) 0) = (⟨fr, true, true, false⟩, true) := by
    rw [HLL.out (16 + p), ← ofA_ent HLO.out]
    split
    · rfl
    · rw [if_pos rfl]
  have TQ : ofA (L.getD (16 + q) 0) = (⟨fr, true, true, false⟩, true) := by rw [HLL.out (16 + q), if_pos rfl, ofA_ent HLO.out]
  have E1 := throughA L a p 3 ba bp (by decide) TA _ _ TP true false
  have E2 := throughA L b q 3 bb bq (by decide) TB _ _ TQ false false
  have E3 := throughA L a p 3 ba bp (by decide) TA _ _ TP false true
  have E4 := pageA_top L b p bb bp TB _ _ TP
  rw [if_pos ⟨rfl, rfl, by simp, by simp, HFB.out.2⟩] at E1 E2
  rw [if_neg (by simp)] at E3
  rw [if_pos ⟨rfl, rfl⟩] at E4
  rw [show ((256 * a + 16 * p + 3 : Nat) : Int) = 256 * (a : Int) + 16 * (p : Int) + 3 by omega] at E1 E3
  rw [show ((256 * b + 16 * q + 3 : Nat) : Int) = 256 * (b : Int) + 16 * (q : Int) + 3 by omega] at E2
  rw [show ((16 * b + p : Nat) : Int) = 16 * (b : Int) + (p : Int) by omega] at E4
  have HS1 := Lib.hid (fun wx hm => walk_any L mb 20 v 0 (256 * (a : Int) + 16 * (p : Int) + 3) true false wx hm (by decide) HLW.out ⟨by omega, by omega⟩)
  have HS2 := Lib.hid (fun wx hm => walk_any L mb 20 v 0 (256 * (b : Int) + 16 * (q : Int) + 3) false false wx hm (by decide) HLW.out ⟨by omega, by omega⟩)
  have HS3 := Lib.hid (fun wx hm => walk_any L mb 20 v 0 (256 * (a : Int) + 16 * (p : Int) + 3) false true wx hm (by decide) HLW.out ⟨by omega, by omega⟩)
  have HS4 := Lib.hid (fun wx hm => page_any L mb 20 v 0 (16 * (b : Int) + (p : Int)) wx hm (by decide) HLW.out)
  rw [E1] at HS1
  rw [E2] at HS2
  rw [E3] at HS3
  rw [E4] at HS4
  unfold pairV at HS1 HS2 HS3
  unfold Ent.v at HS4
  clear E1 E2 E3 E4 TA TB TP TQ HLL HLW
  go_wp2_with fail
  refine (HS1.out _ HM8.out).mono ?_
  rintro e z1 ⟨rfl, hb⟩
  have HM9 := Lib.hid (HM8.out.below hb)
  have HB9 := Lib.hid (HB8.out.trans (hb.mono HB8.out.size))
  clear hb
  go_wp2_with fail
  refine (HS2.out _ HM9.out).mono ?_
  rintro e z2 ⟨rfl, hb⟩
  have HM10 := Lib.hid (HM9.out.below hb)
  have HB10 := Lib.hid (HB9.out.trans (hb.mono HB9.out.size))
  clear hb
  go_wp2_with fail
  refine (HS3.out _ HM10.out).mono ?_
  rintro e z3 ⟨rfl, hb⟩
  have HM11 := Lib.hid (HM10.out.below hb)
  have HB11 := Lib.hid (HB10.out.trans (hb.mono HB10.out.size))
  clear hb
  go_wp2_with fail
  refine (HS4.out _ HM11.out).mono ?_
  rintro e z4 ⟨rfl, hb⟩
  have HM12 := Lib.hid (HM11.out.below hb)
  have HB12 := Lib.hid (HB11.out.trans (hb.mono HB11.out.size))
  clear hb
  go_wp2
  go_ret
  exact ⟨rfl, HB12.out.alloc HB12.out.size _⟩
end Go.Proofs.YtpaijiamcjbbcaaDoor
