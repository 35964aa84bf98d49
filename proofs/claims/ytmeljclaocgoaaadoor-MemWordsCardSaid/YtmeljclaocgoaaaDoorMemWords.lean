/-
  MemWords: for every numbers and word the call returns true.
-/
import Derived.Test.YtmeljclaocgoaaaDoorMm7
import Derived.Test.YtmeljclaocgoaaaDoorNumber
import Derived.Test.YtmeljclaocgoaaaDoorSameInts
namespace Go.Proofs.YtmeljclaocgoaaaDoor
open Go.RowKit

theorem atL_two (w : World) (x y : Value) (t : TypeId) : AtL (w.alloc (.cells #[x, y] t)) (some ⟨w.heap.size, 0, none⟩) [x, y] := fun k u hk => by
  have hb := blk_new w (.cells #[x, y] t)
  match k with
  | 0 => obtain rfl : x = u := by simpa using hk
         exact ⟨w.heap.size, 0, rfl, blk_cell hb 0, by simp⟩
  | 1 => obtain rfl : y = u := by simpa using hk
         exact ⟨w.heap.size, 0, rfl, blk_cell hb 1, by simp⟩
  | k + 2 => simp at hk

def WordTo (n : Nat) (i : Value) : Prop := ∃ k : Nat, k ≤ 16 * n ∧ i = .int .i64 k

set_option maxRecDepth 100000 in
set_option maxHeartbeats 3200000 in
theorem words_walk (x0 x1 x2 : Int) (w : World) (h0 : -9223372036854775808 ≤ x0 ∧ x0 ≤ 9223372036854775807) (h1 : -9223372036854775808 ≤ x1 ∧ x1 ≤ 9223372036854775807) :
    Calls Tryd.prog 8 #[.int .i64 x0, .int .i64 x1, .int .u32 x2] w fun e w' => e = .returned (.bool true) ∧ Below w.heap.size w w' := by
  obtain ⟨n, hn⟩ : ∃ n : Nat, x0 % 20 + 1 = (n : Int) := ⟨(x0 % 20 + 1).toNat, by omega⟩
  have hn2 : 1 ≤ n ∧ n ≤ 20 := by omega
  have hw0 := IntWalk.i64_in (x0 % 20 + 1) (by omega)
  have hw1 := IntWalk.i64_in (16 * (n : Int)) (by omega)
  have hw2 := IntWalk.i64_in ((n : Int) + 2) (by omega)
  obtain ⟨a, hf⟩ : ∃ a : Nat, x1 % (16 * (n : Int)) = (a : Int) := ⟨(x1 % (16 * (n : Int))).toNat, by have := Int.emod_nonneg x1 (show (16 * (n : Int)) ≠ 0 by omega); omega⟩
  have ha : a < 16 * n := by have := Int.emod_lt_of_pos x1 (show (0 : Int) < 16 * (n : Int) by omega); omega
  have HFE := Lib.hid hf
  clear hf
  go_enter Tryd.func8, Tryd.ntmps8
  go_wp2_with fail
  refine (mm_first _).mono ?_
  rintro e w1 ⟨rfl, hb1⟩
  have HB1 := Lib.hid hb1
  clear hb1
  go_wp2_with fail
  refine (number_any x0 20 _ h0.1 h0.2 (by decide) (by decide)).mono ?_
  rintro e w2 ⟨rfl, rfl⟩
  go_wp2_with fail
  refine (number_any x1 (16 * (n : Int)) _ h1.1 h1.2 (by omega) (by omega)).mono ?_
  rintro e w2 ⟨rfl, rfl⟩
  rw [HFE.out]
  go_wp2_with fail
  refine (mm_new n _ (by omega) (by omega)).mono ?_
  rintro e w2 ⟨b, v, rfl, hm, hbg, hvg, hb⟩
  have HM := Lib.hid hm
  have HV : Hid (∀ k, inRow v k → w.heap.size ≤ k) := Lib.hid fun k hk => Nat.le_trans HB1.out.size (hvg k hk)
  have HB := Lib.hid (HB1.out.trans (hb.mono HB1.out.size))
  have HN2 : Hid ((n : Int) + 2 = ((n + 2 : Nat) : Int)) := Lib.hid (by omega)
  clear hm hbg hvg hb HB1 hn hw0
  go_wp2_with fail
  rw [HN2.out]
  refine (mm_new (n + 2) _ (by omega) (by omega)).mono ?_
  rintro e w3 ⟨b2, v2, rfl, hm, hbg, hvg, hb⟩
  have HM2 := Lib.hid hm
  have HV2 : Hid (∀ k, inRow v2 k → w.heap.size ≤ k) := Lib.hid fun k hk => Nat.le_trans HB.out.size (hvg k hk)
  have HX1 : Hid (¬ inRow v2 b) := Lib.hid fun h => by have := blk_lt HM.out.1; have := hvg _ h; omega
  have HX2 : Hid (∀ k, inRow v k → ¬ inRow v2 k) := Lib.hid fun k hk h => by have := own_lt HM.out.2.1 hk; have := hvg _ h; omega
  have HX3 : Hid (¬ inRow v b2) := Lib.hid fun h => by have := own_lt HM.out.2.1 h; omega
  have HX4 : Hid (∀ k, inRow v2 k → ¬ inRow v k) := Lib.hid fun k hk h => HX2.out k h hk
  have HM1 := Lib.hid (HM.out.below hb)
  have HB2 := Lib.hid (HB.out.trans (hb.mono HB.out.size))
  clear hm hbg hvg hb HM HB
  go_wp2_with fail
  refine (mm_write_in _ b n a v x2 _ HM1.out ha).mono ?_
  rintro e w4 ⟨rfl, hm4, ho4⟩
  have HM4 := Lib.hid hm4
  have HN4 := Lib.hid (HM2.out.only ho4 HX3.out HX4.out)
  have HB4 := Lib.hid (HB2.out.trans (ho4.below HB2.out.size HV.out))
  clear hm4 ho4 HM1 HM2 HB2
  go_wp2_with fail
  refine (mm_write_in _ b2 (n + 2) a v2 x2 _ HN4.out (by omega)).mono ?_
  rintro e w5 ⟨rfl, hm5, ho5⟩
  have HN5 := Lib.hid hm5
  have HM5 := Lib.hid (HM4.out.only ho5 HX1.out HX2.out)
  have HB5 := Lib.hid (HB4.out.trans (ho5.below HB4.out.size HV2.out))
  clear hm5 ho5 HM4 HN4 HB4
  go_wp2_with fail
  go_loop [12, 13, 14, 15] (fun i _ _ _ => WordTo n i) (fun i _ _ _ => 16 * n - (intOf i).toNat)
  case atStart => exact ⟨0, Nat.zero_le _, rfl⟩
  case round =>
    obtain ⟨k, hk, rfl⟩ := hrel
    by_cases hlt : k < 16 * n
    · have hki : (k : Int) < 16 * (n : Int) := by omega
      go_wp2_with fail
      refine (mm_read_in _ b n k v _ HM5.out hlt).mono ?_
      rintro e w6 ⟨rfl, rfl⟩
      rw [set_getD _ a k x2 (by simp; exact ha), rep_getD]
      by_cases hka : k = a
      · have hb : ((k : Int) == (a : Int)) = true := by simp [hka]
        rw [if_pos hka]
        clear hka
        go_wp2
        go_round
        case rel => exact ⟨k + 1, by omega, by go_num⟩
        case measure => simp [intOf]; omega
      · have hb : ((k : Int) == (a : Int)) = false := by rw [beq_eq_false_iff_ne]; omega
        rw [if_neg hka]
        clear hka
        go_wp2
        go_round
        case rel => exact ⟨k + 1, by omega, by go_num⟩
        case measure => simp [intOf]; omega
    · have hki : ¬ (k : Int) < 16 * (n : Int) := by omega
      obtain ⟨q, hq⟩ : ∃ q : Nat, (a : Int) / 16 = (q : Int) ∧ q < n ∧ (a : Int) % 16 = ((a - 16 * q : Nat) : Int) ∧ 16 * q ≤ a ∧ a - 16 * q < 16 := ⟨a / 16, by omega, by omega, by omega, by omega, by omega⟩
      obtain ⟨hq1, hqn, hq2, hqa, hq16⟩ := hq
      obtain ⟨r, hr⟩ : ∃ r, a - 16 * q = r := ⟨_, rfl⟩
      rw [hr] at hq2 hq16
      have HRE := Lib.hid hr
      have HQA := Lib.hid hqa
      clear hr hqa
      have hq3 : (a : Int).tdiv 16 = (q : Int) := by rw [Int.tdiv_eq_ediv_of_nonneg (by omega)]; exact hq1
      have hq4 : (a : Int).tmod 16 = (r : Int) := by rw [Int.tmod_eq_emod_of_nonneg (by omega)]; exact hq2
      have hwq := IntWalk.i64_in (q : Int) (by omega)
      have hwr := IntWalk.i64_in (r : Int) (by omega)
      go_wp2_with fail
      refine (mm_frame _ b n q v _ HM5.out (by omega) hqn).mono ?_
      rintro e w6 ⟨fv, rfl, hf6, hfg, hb6⟩
      have hfl := frameW_len _ n q HM5.out.2.2 hqn
      obtain ⟨g, cap, rfl, hcap⟩ : ∃ g cap, fv = .slice (some ⟨g, 0, none⟩) 16 cap ∧ 16 ≤ cap := by
        rcases own_shape hf6 with ⟨-, hz, -⟩ | h
        · omega
        · obtain ⟨g, cap, e1, e2, -⟩ := h
          exact ⟨g, cap, e1, e2⟩
      obtain ⟨z, hz⟩ : ∃ z, (frameW ((List.replicate (16 * n) 0).set a x2) q).getD r 0 = z := ⟨_, rfl⟩
      have c0 : w6.cell? ⟨g, r, none⟩ = some (.int .u32 z) := by
        rw [← hz]
        exact (own_cell hf6 r hq16).trans (u32s_get _ r (by rw [hfl]; exact hq16))
      have f0 : w6.frozen? ⟨g, r, none⟩ = false := own_free hf6 r
      have HGG : Hid (w5.heap.size ≤ g) := Lib.hid (hfg g rfl)
      have HM6 := Lib.hid (HM5.out.below hb6)
      have HN6 := Lib.hid (HN5.out.below hb6)
      have HB6 := Lib.hid (HB5.out.trans (hb6.mono HB5.out.size))
      have hg1 : ¬ b = g := fun e => by have := blk_lt HM5.out.1; have := HGG.out; omega
      have hg2 : ¬ b2 = g := fun e => by have := blk_lt HN5.out.1; have := HGG.out; omega
      have hon : ∀ u, Only (fun k => k = g) w6 (w6.setCell ⟨g, r, none⟩ u) := fun u => Only.setCell (F := fun k => k = g) (Only.refl _ _) (p := ⟨g, r, none⟩) (.inl rfl) u
      have HM7 := Lib.hid fun u => HM6.out.only (hon u) hg1 (fun k hk e => by have := own_lt HM5.out.2.1 hk; have := HGG.out; omega)
      have HN7 := Lib.hid fun u => HN6.out.only (hon u) hg2 (fun k hk e => by have := own_lt HN5.out.2.1 hk; have := HGG.out; omega)
      have HB7 := Lib.hid fun u => HB6.out.trans ((hon u).below HB6.out.size (fun k hk => by subst hk; exact Nat.le_trans HB5.out.size HGG.out))
      have hr0 : (0 : Int) ≤ (r : Int) := by omega
      have hr16 : (r : Int) < 16 := by omega
      clear hf6 hfg hfl hz hg1 hg2 hb6 HM5 HN5 HB5 HM6 HN6 HB6 hon hk hlt
      go_wp2_with fail
      refine (mm_read_in _ b n a v _ (HM7.out _) ha).mono ?_
      rintro e w8 ⟨rfl, rfl⟩
      rw [set_getD _ a a x2 (by simp; exact ha), if_pos rfl]
      go_wp2_with fail
      refine (differ_any _ b n v _ b2 (n + 2) v2 _ (HM7.out _) (HN7.out _) (by omega) (by omega)).mono ?_
      rintro e w8 ⟨dv, rfl, hd8, -, hb8⟩
      rw [show max n (n + 2) = n + 2 by omega, difL_two n a x2 ha] at hd8
      obtain ⟨da, dc, rfl⟩ := own_slice hd8
      have hm8 := (HM7.out _).below hb8
      have hn8 := (HN7.out _).below hb8
      have hbb8 := (HB7.out _).trans (hb8.mono (HB7.out _).size)
      have HM8 := Lib.hid hm8
      have HN8 := Lib.hid hn8
      have HB8 := Lib.hid hbb8
      have HD8 := Lib.hid (own_atL hd8)
      have hwn := IntWalk.i64_in ((n : Int) + 1) (by omega)
      clear hb8 hm8 hn8 hbb8 HM7 HN7 HB7 hd8
      go_wp2_with fail
      have HBA := Lib.hid (Below.alloc (Below.refl w8.heap.size w8) (Nat.le_refl _) (.cells #[.int .i64 (n : Int), .int .i64 ((n : Int) + 1)] 3))
      refine (sameInts_any [(n : Int), (n : Int) + 1] [(n : Int), (n : Int) + 1] da (some ⟨w8.heap.size, 0, none⟩) dc 2 _ (HD8.out.mono HBA.out) (atL_two _ _ _ _) (by simp) (by simp)).mono ?_
      rintro e w9 ⟨rfl, nd, rfl⟩
      rw [decide_eq_true rfl]
      have hx9 := below_drewN HBA.out nd
      have HM9 := Lib.hid (HM8.out.below hx9)
      have HN9 := Lib.hid (HN8.out.below hx9)
      have HB9 := Lib.hid (HB8.out.trans (hx9.mono HB8.out.size))
      clear HBA hx9 HM8 HN8 HB8 HD8
      go_wp2_with fail
      refine (differ_any _ b2 (n + 2) v2 _ b n v _ HN9.out HM9.out (by omega) (by omega)).mono ?_
      rintro e w10 ⟨dv, rfl, hd8, -, hb8⟩
      rw [show max (n + 2) n = n + 2 by omega, difL_comm, difL_two n a x2 ha] at hd8
      obtain ⟨da2, dc2, rfl⟩ := own_slice hd8
      have HM10 := Lib.hid (HM9.out.below hb8)
      have HN10 := Lib.hid (HN9.out.below hb8)
      have HB10 := Lib.hid (HB9.out.trans (hb8.mono HB9.out.size))
      have HD10 := Lib.hid (own_atL hd8)
      clear hb8 hd8 HM9 HN9 HB9
      go_wp2_with fail
      have HBA := Lib.hid (Below.alloc (Below.refl w10.heap.size w10) (Nat.le_refl _) (.cells #[.int .i64 (n : Int), .int .i64 ((n : Int) + 1)] 3))
      refine (sameInts_any [(n : Int), (n : Int) + 1] [(n : Int), (n : Int) + 1] da2 (some ⟨w10.heap.size, 0, none⟩) dc2 2 _ (HD10.out.mono HBA.out) (atL_two _ _ _ _) (by simp) (by simp)).mono ?_
      rintro e w11 ⟨rfl, nd2, rfl⟩
      rw [decide_eq_true rfl]
      have hx11 := below_drewN HBA.out nd2
      have HM11 := Lib.hid (HM10.out.below hx11)
      have HB11 := Lib.hid (HB10.out.trans (hx11.mono HB10.out.size))
      clear HBA hx11 HM10 HN10 HB10 HD10
      go_wp2_with fail
      refine (mm_clone _ b n v _ HM11.out (by omega)).mono ?_
      rintro e w12 ⟨cb, cv, rfl, hc, -, -, hb12⟩
      have HC := Lib.hid hc
      have HM12 := Lib.hid (HM11.out.below hb12)
      have HB12 := Lib.hid (HB11.out.trans (hb12.mono HB11.out.size))
      clear hc hb12 HM11 HB11
      go_wp2_with fail
      refine (differ_any _ b n v _ cb n cv _ HM12.out HC.out (by omega) (by omega)).mono ?_
      rintro e w13 ⟨dv, rfl, hd, -, hb13⟩
      rw [difL_self] at hd
      obtain ⟨da3, dc3, rfl⟩ := own_slice hd
      have HB13 := Lib.hid (HB12.out.trans (hb13.mono HB12.out.size))
      clear hd hb13
      go_wp2
      go_ret
      exact ⟨rfl, HB13.out⟩
end Go.Proofs.YtmeljclaocgoaaaDoor
