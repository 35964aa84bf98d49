/-
  MemFills: for every number, number and words the call returns true.
-/
import Derived.Test.YtmeljclaocgoaaaDoorMm6
import Derived.Test.YtmeljclaocgoaaaDoorNumber
import Derived.Test.YtmeljclaocgoaaaDoorSameWords
namespace Go.Proofs.YtmeljclaocgoaaaDoor
open Go.RowKit

def FillTo (w : World) (b n : Nat) (v i : Value) (wr : World) : Prop := ∃ (k : Nat) (l : List Int), k ≤ 16 * n ∧ i = .int .i64 k ∧ MAt wr b v n l ∧ Below w.heap.size w wr
def Upto16 (i : Value) : Prop := ∃ k : Nat, k ≤ 16 ∧ i = .int .i64 k

set_option maxRecDepth 100000 in
set_option maxHeartbeats 3200000 in
theorem fills_walk (x0 x1 : Int) (xs : List Int) (ao : Option Addr) (c1 : Nat) (w : World) (h0 : -9223372036854775808 ≤ x0 ∧ x0 ≤ 9223372036854775807) (h1 : -9223372036854775808 ≤ x1 ∧ x1 ≤ 9223372036854775807) (hr : AtL w ao (u32s xs)) :
    Calls Tryd.prog 11 #[.int .i64 x0, .int .i64 x1, .slice ao xs.length c1] w fun e w' => e = .returned (.bool true) ∧ Below w.heap.size w w' := by
  by_cases hlen : xs.length ≤ 20
  · have hlen2 : ¬ (20 : Int) < (xs.length : Int) := by omega
    have HR := Lib.hid hr
    obtain ⟨n, hn⟩ : ∃ n : Nat, x0 % 10 + 2 = (n : Int) := ⟨(x0 % 10 + 2).toNat, by omega⟩
    have hn2 : 2 ≤ n ∧ n ≤ 11 := by omega
    have hw0 := IntWalk.i64_in (x0 % 10 + 2) (by omega)
    obtain ⟨f, hf⟩ : ∃ f : Nat, x1 % (n : Int) = (f : Int) := ⟨(x1 % (n : Int)).toNat, by have := Int.emod_nonneg x1 (show (n : Int) ≠ 0 by omega); omega⟩
    have hfn : f < n := by have := Int.emod_lt_of_pos x1 (show (0 : Int) < n by omega); omega
    have HFE := Lib.hid hf
    clear hf hr
    go_enter Tryd.func11, Tryd.ntmps11
    go_wp2_with fail
    refine (mm_first _).mono ?_
    rintro e w1 ⟨rfl, hb1⟩
    have HB1 := Lib.hid hb1
    clear hb1
    go_wp2_with fail
    refine (number_any x0 10 _ h0.1 h0.2 (by decide) (by decide)).mono ?_
    rintro e w2 ⟨rfl, rfl⟩
    go_wp2_with fail
    refine (number_any x1 n _ h1.1 h1.2 (by omega) (by omega)).mono ?_
    rintro e w2 ⟨rfl, rfl⟩
    rw [HFE.out]
    go_wp2_with fail
    refine (mm_new n _ (by omega) (by omega)).mono ?_
    rintro e w2 ⟨b, v, rfl, hm, hbg, hvg, hb⟩
    have HM := Lib.hid hm
    have HV : Hid (∀ k, inRow v k → w.heap.size ≤ k) := Lib.hid fun k hk => Nat.le_trans HB1.out.size (hvg k hk)
    have HB := Lib.hid (HB1.out.trans (hb.mono HB1.out.size))
    have hw1 := IntWalk.i64_in (16 * (n : Int)) (by omega)
    clear hm hbg hvg hb HB1 hn hw0
    go_wp2_with fail
    go_loopw [10] (fun i wr => FillTo w b n v i wr) (fun i _ => 16 * n - (intOf i).toNat)
    case atStart => exact ⟨0, _, Nat.zero_le _, rfl, HM.out, HB.out⟩
    case round =>
      obtain ⟨k, l, hk, rfl, hm, hb⟩ := hrel
      have HM2 := Lib.hid hm
      have HB2 := Lib.hid hb
      clear hm hb HM HB
      by_cases hlt : k < 16 * n
      · have hki : (k : Int) < 16 * (n : Int) := by omega
        go_wp2_with fail
        refine (mm_write_in l b n k v _ _ HM2.out hlt).mono ?_
        rintro e w3 ⟨rfl, hm3, ho3⟩
        have HM3 := Lib.hid hm3
        have HB3 := Lib.hid (HB2.out.trans (ho3.below HB2.out.size HV.out))
        clear hm3 ho3 HM2 HB2
        go_wp2
        go_roundw
        case rel => exact ⟨k + 1, _, by omega, by go_num, HM3.out, HB3.out⟩
        case measure => simp [intOf]; omega
      · have hki : ¬ (k : Int) < 16 * (n : Int) := by omega
        go_wp2_with fail
        refine (mm_clone l b n v _ HM2.out (by omega)).mono ?_
        rintro e w3 ⟨cb, cv, rfl, hc, hcb, hcv, hb3⟩
        have HC := Lib.hid hc
        have HM3 := Lib.hid (HM2.out.below hb3)
        have HB3 := Lib.hid (HB2.out.trans (hb3.mono HB2.out.size))
        have HL := Lib.hid HM2.out.2.2
        have HCB : Hid (¬ inRow v cb) := Lib.hid fun h => by have := own_lt HM2.out.2.1 h; omega
        have HCV : Hid (∀ k, inRow cv k → ¬ inRow v k) := Lib.hid fun k hk h => by have := own_lt HM2.out.2.1 h; have := hcv k hk; omega
        clear hc hcb hcv hb3 HB2 hk hlt
        by_cases h16 : xs.length ≤ 16
        · have h16i : (xs.length : Int) ≤ 16 := by omega
          have HAP : Hid (∀ a, 0 < xs.length → ao = some a → ¬ inRow v a.block) := Lib.hid fun a ha e h => by
            obtain ⟨sb, so, rfl, -, hlt⟩ := HR.out 0 _ (u32s_get xs 0 ha)
            cases e
            have := HV.out _ h
            simp at this
            omega
          go_wp2_with fail
          refine (mm_fill_ok l xs b n f xs.length c1 ao v _ HM3.out (by omega) hfn (HR.out.mono HB3.out) rfl h16 HAP.out).mono ?_
          rintro e w4 ⟨rfl, hm4, ho4⟩
          have HM4 := Lib.hid hm4
          have HC4 := Lib.hid (HC.out.only ho4 HCB.out HCV.out)
          have HB4 := Lib.hid (HB3.out.trans (ho4.below HB3.out.size HV.out))
          clear hm4 ho4 HM3 HB3 HC HM2
          go_wp2_with fail
          refine (mm_frame_any _ b n f v _ HM4.out (by omega)).mono ?_
          rintro e w5 ⟨a5, c5, rfl, hp5, hb5⟩
          rw [fw_len _ n f HM4.out.2.2 hfn, decide_eq_true hfn]
          have HP5 := Lib.hid hp5
          have HM5 := Lib.hid (HM4.out.below hb5)
          have HC5 := Lib.hid (HC4.out.below hb5)
          have HB5 := Lib.hid (HB4.out.trans (hb5.mono HB4.out.size))
          clear hp5 hb5 HM4 HC4 HB4
          have HR5 := Lib.hid (HR.out.mono HB5.out)
          go_wp2_with fail
          go_loop [15, 16] (fun i _ => Upto16 i) (fun i _ => 16 - (intOf i).toNat)
          case atStart => exact ⟨0, Nat.zero_le _, rfl⟩
          case round =>
            obtain ⟨j, hj, rfl⟩ := hrel
            by_cases hjl : j < 16
            · have hji : (j : Int) < 16 := by omega
              obtain ⟨db, doff, rfl, p0, -⟩ := HP5.out j _ (u32s_get _ j (by rw [fw_len _ n f HM5.out.2.2 hfn]; exact hjl))
              rw [fw_filled l n f j xs HL.out hfn h16 hjl] at p0
              by_cases hjx : j < xs.length
              · have hjxi : (j : Int) < (xs.length : Int) := by omega
                obtain ⟨sb, so, rfl, q0, -⟩ := HR5.out j _ (u32s_get xs j hjx)
                obtain ⟨z, hz⟩ : ∃ z, xs.getD j 0 = z := ⟨_, rfl⟩
                rw [hz] at p0 q0
                clear hz
                go_wp2
                go_round
                case rel => exact ⟨j + 1, by omega, by go_num⟩
                case measure => simp [intOf]; omega
              · have hjxi : ¬ (j : Int) < (xs.length : Int) := by omega
                have e0 : xs.getD j 0 = 0 := by simp [List.getD_eq_getElem?_getD, List.getElem?_eq_none (show xs.length ≤ j by omega)]
                rw [e0] at p0
                clear e0
                go_wp2
                go_round
                case rel => exact ⟨j + 1, by omega, by go_num⟩
                case measure => simp [intOf]; omega
            · obtain rfl : j = 16 := by omega
              go_wp2_with fail
              refine (differ_any l cb n cv _ b n v _ HC5.out HM5.out (by omega) (by omega)).mono ?_
              rintro e w6 ⟨dv, rfl, hd6, -, hb6⟩
              obtain ⟨da, dc, rfl⟩ := own_slice hd6
              have HD1 := Lib.hid (difL_one l (fillL l f xs) n n f (fun g hg => dif_fill l n f g xs HL.out hfn h16 hg) (max n n))
              have HM6 := Lib.hid (HM5.out.below hb6)
              have HC6 := Lib.hid (HC5.out.below hb6)
              have HB6 := Lib.hid (HB5.out.trans (hb6.mono HB5.out.size))
              obtain ⟨dn, hdn⟩ : ∃ dn, (difL l n (fillL l f xs) n (max n n)).length = dn := ⟨_, rfl⟩
              rw [hdn] at HD1 ⊢
              have hdn1 : (dn : Int) ≤ 1 := by have := HD1.out; omega
              clear hd6 hb6 HM5 HC5 HB5 hdn HR5 HP5
              obtain ⟨g, hg⟩ : ∃ g : Nat, g < n ∧ g ≠ f ∧ ((f : Int) + 1).tmod (n : Int) = (g : Int) := by
                by_cases hl : f + 1 < n
                · exact ⟨f + 1, hl, by omega, by rw [Int.tmod_eq_emod_of_nonneg (by omega), Int.emod_eq_of_lt (by omega) (by omega)]; omega⟩
                · have e : f + 1 = n := by omega
                  exact ⟨0, by omega, by omega, by rw [show (f : Int) + 1 = (n : Int) by omega]; simp⟩
              have hw2 := IntWalk.i64_in ((f : Int) + 1) (by omega)
              have hnz : ¬ (n : Int) = 0 := by omega
              have hgm := hg.2.2
              have HG := Lib.hid hg
              clear hg
              have hw3 := IntWalk.i64_in (g : Int) (by have := HG.out.1; omega)
              go_wp2_with fail
              refine (mm_frame_any _ b n g v _ HM6.out (by omega)).mono ?_
              rintro e w7 ⟨a7, c7, rfl, hp7, hb7⟩
              rw [fw_fill l n f g xs HL.out hfn h16 HG.out.2.1] at hp7 ⊢
              have HP7 := Lib.hid hp7
              have HM7 := Lib.hid (HM6.out.below hb7)
              have HC7 := Lib.hid (HC6.out.below hb7)
              have HB7 := Lib.hid (HB6.out.trans (hb7.mono HB6.out.size))
              clear hp7 hb7 HM6 HC6 HB6
              go_wp2_with fail
              refine (mm_frame_any _ cb n g cv _ HC7.out (by omega)).mono ?_
              rintro e w8 ⟨a8, c8, rfl, hp8, hb8⟩
              have HP8 := Lib.hid hp8
              have HQ8 := Lib.hid (HP7.out.mono hb8)
              have HM8 := Lib.hid (HM7.out.below hb8)
              have HB8 := Lib.hid (HB7.out.trans (hb8.mono HB7.out.size))
              clear hp8 hb8 HM7 HC7 HB7 HP7
              have hfl : (fw l n g).length ≤ 1000000000 := by rw [fw_len l n g HL.out HG.out.1]; decide
              obtain ⟨q, hq⟩ : ∃ q, fw l n g = q := ⟨_, rfl⟩
              rw [hq] at HP8 HQ8 hfl ⊢
              clear hq hgm hw2 hw3 hnz
              go_wp2_with fail
              refine (sameWords_any q q a7 a8 c7 c8 _ HQ8.out HP8.out hfl hfl).mono ?_
              rintro e w9 ⟨rfl, nd, rfl⟩
              rw [decide_eq_true rfl]
              have HM9 := Lib.hid (HM8.out.below (below_drewN (Below.refl _ _) nd))
              have HB9 := Lib.hid (below_drewN HB8.out nd)
              clear HM8 HB8
              go_wp2_with fail
              refine (mm_fill_no _ b n 0 0 none v n _ HM9.out (by omega) (.inr (.inl (Int.le_refl _)))).mono ?_
              rintro e w10 ⟨rfl, rfl⟩
              go_wp2_with fail
              refine (mm_fill_no _ b n 0 0 none v (-1) _ HM9.out (by omega) (.inl (by decide))).mono ?_
              rintro e w10 ⟨rfl, rfl⟩
              go_wp2
              go_ret
              exact ⟨rfl, HB9.out⟩
        · have h16i : ¬ (xs.length : Int) ≤ 16 := by omega
          go_wp2_with fail
          refine (mm_fill_no l b n xs.length c1 ao v f _ HM3.out (by omega) (.inr (.inr (by omega)))).mono ?_
          rintro e w4 ⟨rfl, rfl⟩
          go_wp2_with fail
          refine (differ_any l cb n cv _ b n v _ HC.out HM3.out (by omega) (by omega)).mono ?_
          rintro e w6 ⟨dv, rfl, hd6, -, hb6⟩
          rw [difL_self] at hd6
          obtain ⟨da, dc, rfl⟩ := own_slice hd6
          have HB6 := Lib.hid (HB3.out.trans (hb6.mono HB3.out.size))
          clear hd6 hb6
          go_wp2
          go_ret
          exact ⟨rfl, HB6.out⟩
  · have hlen2 : (20 : Int) < (xs.length : Int) := by omega
    clear hr
    go_enter Tryd.func11, Tryd.ntmps11
    go_wp2_with fail
    refine (mm_first _).mono ?_
    rintro e w1 ⟨rfl, hb1⟩
    go_wp2
    go_ret
    exact ⟨rfl, hb1⟩
theorem fills_any (x0 x1 : Int) (xs : List Int) (v : Value) (w : World) (h0 : -9223372036854775808 ≤ x0 ∧ x0 ≤ 9223372036854775807) (h1 : -9223372036854775808 ≤ x1 ∧ x1 ≤ 9223372036854775807) (hr : Reads w v xs.length (u32s xs)) :
    Calls Tryd.prog 11 #[.int .i64 x0, .int .i64 x1, v] w fun e w' => e = .returned (.bool true) ∧ Below w.heap.size w w' := by
  obtain ⟨ao, cap, rfl, hat⟩ := atL_of_reads hr
  exact fills_walk x0 x1 xs ao cap w h0 h1 hat
end Go.Proofs.YtmeljclaocgoaaaDoor
