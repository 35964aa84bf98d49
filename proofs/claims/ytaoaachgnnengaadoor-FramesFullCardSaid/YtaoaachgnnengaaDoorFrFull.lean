/-
  FramesFull: for every two numbers the call returns true; nothing that was there is turned. Given where the sentinels lie.
-/
import Derived.Test.YtaoaachgnnengaaDoorFrFirst
import Derived.Test.YtaoaachgnnengaaDoorNumber
namespace Go.Proofs.YtaoaachgnnengaaDoor
open Go.RowKit Go.Deep

/-- the first j frames are given out -/
def fullL (n j : Nat) : List Fr := (List.range n).map fun i => if i < j then ⟨((i % 8 : Nat) : Int), 0, 0, 0⟩ else frNo
theorem fullL_len (n j : Nat) : (fullL n j).length = n := by simp [fullL]
theorem fullL_get (n j i : Nat) (h : i < n) : (fullL n j).getD i default = if i < j then ⟨((i % 8 : Nat) : Int), 0, 0, 0⟩ else frNo := by
  unfold fullL
  rw [List.getD_eq_getElem?_getD, List.getElem?_map, List.getElem?_range h]
  rfl
theorem fullL_zero (n : Nat) : fullL n 0 = List.replicate n frNo := by
  apply List.ext_getElem?
  intro i
  unfold fullL
  by_cases h : i < n
  · rw [List.getElem?_map, List.getElem?_range h, List.getElem?_replicate, if_pos h]
    rfl
  · rw [List.getElem?_eq_none (by simp; omega), List.getElem?_eq_none (by simp; omega)]
theorem fullL_set (n j : Nat) (h : j < n) : (fullL n j).set j ⟨((j % 8 : Nat) : Int), 0, 0, 0⟩ = fullL n (j + 1) := by
  apply List.ext_getElem?
  intro i
  by_cases hi : i = j
  · subst hi
    rw [List.getElem?_set_self (by rw [fullL_len]; exact h)]
    unfold fullL
    rw [List.getElem?_map, List.getElem?_range h]
    simp
  · rw [List.getElem?_set_ne (by omega)]
    unfold fullL
    by_cases h' : i < n
    · rw [List.getElem?_map, List.getElem?_map, List.getElem?_range h']
      simp only [Option.map_some]
      congr 1
      by_cases h3 : i < j
      · rw [if_pos h3, if_pos (by omega)]
      · rw [if_neg h3, if_neg (by omega)]
    · rw [List.getElem?_eq_none (by simp; omega), List.getElem?_eq_none (by simp; omega)]
theorem fullL_free (n j : Nat) (h : j < n) : frFree (fullL n j) = some j :=
  frFree_is (by rw [fullL_len]; exact h) (by rw [fullL_get n j j h, if_neg (by omega)]; rfl) (fun k hk => by rw [fullL_get n j k (by omega), if_pos hk]; show ((k % 8 : Nat) : Int) ≠ -1; omega)
theorem fullL_alloc (n j : Nat) (h : j < n) : frAlloc (fullL n j) ((j % 8 : Nat) : Int) = ⟨fullL n (j + 1), (j : Int), 0⟩ := by
  unfold frAlloc
  rw [if_pos (by unfold frOwns; omega), fullL_free n j h]
  dsimp only
  rw [fullL_get n j j h, if_neg (by omega)]
  show FrR.mk ((fullL n j).set j ⟨((j % 8 : Nat) : Int), 0, 0, 0⟩) _ _ = _
  rw [fullL_set n j h]
theorem fullL_full (n : Nat) (who : Int) (h : frOwns who) : frAlloc (fullL n n) who = ⟨fullL n n, 0, 113⟩ := by
  unfold frAlloc
  rw [if_pos h, frFree_no (fun k hk => by rw [fullL_len] at hk; rw [fullL_get n n k hk, if_pos hk]; show ((k % 8 : Nat) : Int) ≠ -1; omega)]
theorem fullL_back (n k : Nat) (h : k < n) : frMine (fullL n n) (k : Int) ((k % 8 : Nat) : Int) kFree = ⟨(fullL n n).set k frNo, 0, 0⟩ := by
  have ha : frAt (fullL n n) (k : Int) = some k := by
    unfold frAt
    rw [if_pos ⟨by omega, by rw [fullL_len]; omega, by rw [Int.toNat_natCast, fullL_get n n k h, if_pos h]; show ((k % 8 : Nat) : Int) ≠ -1; omega⟩, Int.toNat_natCast]
  unfold frMine
  rw [ha]
  dsimp only
  rw [fullL_get n n k h, if_pos h, if_pos rfl]
  rfl
theorem fullL_again (n k : Nat) (h : k < n) : frAlloc ((fullL n n).set k frNo) 100 = ⟨(fullL n n).set k ⟨100, 0, 0, 0⟩, (k : Int), 0⟩ := by
  have hk : ((fullL n n).set k frNo).getD k default = frNo := fr_set_get _ _ (by rw [fullL_len]; exact h) _
  unfold frAlloc
  rw [if_pos (.inr rfl), frFree_is (i := k) (by rw [List.length_set, fullL_len]; exact h) (by rw [hk]; rfl) (fun i hi => by
    rw [List.getD_eq_getElem?_getD, List.getElem?_set_ne (by omega), ← List.getD_eq_getElem?_getD, fullL_get n n i (by omega), if_pos (by omega)]
    show ((i % 8 : Nat) : Int) ≠ -1
    omega)]
  dsimp only
  rw [hk, List.set_set]
  rfl
theorem fullL_none (n k : Nat) : ∀ m, m ≤ n → frOf ((fullL n n).set k ⟨100, 0, 0, 0⟩) (-1) m = []
  | 0, _ => rfl
  | m + 1, hm => by
    rw [frOf_succ, fullL_none n k m (by omega), if_neg]
    by_cases e : m = k
    · subst e
      rw [fr_set_get _ _ (by rw [fullL_len]; omega)]
      decide
    · rw [List.getD_eq_getElem?_getD, List.getElem?_set_ne (by omega), ← List.getD_eq_getElem?_getD, fullL_get n n m (by omega), if_pos (by omega)]
      show ¬ ((m % 8 : Nat) : Int) = -1
      omega
def FuTo (n b g : Nat) (w0 : World) (i : Value) (wr : World) : Prop :=
  ∃ j : Nat, j ≤ n ∧ i = .int .i64 (j : Int) ∧ FrAt 95 33 wr b g n (fullL n j) ∧ Only (fun k => k = g) w0 wr

set_option maxRecDepth 100000 in
set_option maxHeartbeats 4000000 in
theorem framesFull_walk (E : Nat → Addr) (x0 x1 : Int) (w : World) (hE : ErrsAt errT gOf w E all16) (h0 : -9223372036854775808 ≤ x0 ∧ x0 ≤ 9223372036854775807) (h1 : -9223372036854775808 ≤ x1 ∧ x1 ≤ 9223372036854775807) :
    Calls Tryd.prog 3 #[.int .i64 x0, .int .i64 x1] w fun e w' => e = .returned (.bool true) ∧ Below w.heap.size w w' := by
  have HEK : Hid (∀ wx, Below w.heap.size w wx → ErrsAt errT gOf wx E all16) := Lib.hid fun wx hx => hE.mono hx
  have HN0 := Lib.hid (fun wx => number_any x0 30 wx h0.1 h0.2 (by decide) (by decide))
  obtain ⟨a, ha⟩ : ∃ g : Nat, x0 % 30 = (g : Int) := ⟨(x0 % 30).toNat, by omega⟩
  have ha30 : a < 30 := by omega
  rw [ha] at HN0
  obtain ⟨n, hn⟩ : ∃ n : Nat, n = a + 1 := ⟨_, rfl⟩
  have HNI : Hid ((a : Int) + 1 = (n : Int)) := Lib.hid (by omega)
  have wa := IntWalk.i64_in ((a : Int) + 1) (by omega)
  have hn1 : 1 ≤ n := by omega
  have hn30 : n ≤ 30 := by omega
  have HN1 := Lib.hid (fun wx => number_any x1 (n : Int) wx h1.1 h1.2 (by omega) (by omega))
  obtain ⟨B, hB⟩ : ∃ g : Nat, x1 % (n : Int) = (g : Int) := ⟨(x1 % (n : Int)).toNat, by have := Int.emod_nonneg x1 (show (n : Int) ≠ 0 by omega); omega⟩
  have hBn : B < n := by have := Int.emod_lt_of_pos x1 (show (0 : Int) < (n : Int) by omega); omega
  rw [hB] at HN1
  have HN := Lib.hid hn1
  clear hE ha hn h0 h1 hB ha30
  go_enter Tryd.func3, Tryd.ntmps3
  go_wp2_with fail
  refine (fr_first E _ (HEK.out _ (Below.refl _ _))).mono ?_
  rintro e w1 ⟨rfl, hb1⟩
  have HB1 := Lib.hid hb1
  clear hb1
  go_wp2_with fail
  refine (HN0.out _).mono ?_
  rintro e w2 ⟨rfl, rfl⟩
  go_wp2_with fail
  rw [HNI.out]
  refine (fnew_ok n _ hn1 (by omega)).mono ?_
  rintro e w2 ⟨b, g, rfl, hf, hbb, hgg, hb2⟩
  rw [← fullL_zero] at hf
  have HB2 := Lib.hid (HB1.out.trans (hb2.mono HB1.out.size))
  have HST : Hid (FuTo n b g w2 (.int .i64 0) w2) := Lib.hid ⟨0, Nat.zero_le _, rfl, hf, Only.refl _ _⟩
  have HGG : Hid (w.heap.size ≤ g) := Lib.hid (Nat.le_trans HB1.out.size hgg)
  clear hf hbb hgg hb2
  go_wp2_with fail
  go_loopw [8] (fun i wr => FuTo n b g w2 i wr) (fun i _ => n - (intOf i).toNat)
  case atStart => exact HST.out
  case round =>
    obtain ⟨j, hj, rfl, hf, ho⟩ := hrel
    have HF := Lib.hid hf
    have HO := Lib.hid ho
    have HBR : Hid (Below w.heap.size w wr) := Lib.hid (HB2.out.trans (ho.below HB2.out.size (fun k hk => by subst hk; exact HGG.out)))
    clear hf ho HST
    by_cases hlt : j < n
    · have hji : (j : Int) < (n : Int) := by omega
      have HAL := Lib.hid (falloc_any E (fullL n j) b g n ((j % 8 : Nat) : Int) wr (HEK.out _ HBR.out) HF.out)
      rw [fullL_alloc n j hlt] at HAL
      unfold FrQA errC at HAL
      dsimp only at HAL
      rw [if_pos rfl] at HAL
      rw [show ((j % 8 : Nat) : Int) = (j : Int) % 8 from rfl] at HAL
      go_wp2_with fail
      refine HAL.out.mono ?_
      rintro e w3 ⟨rfl, hf3, ho3⟩
      have HF3 := Lib.hid hf3
      have HO3 := Lib.hid (HO.out.trans ho3)
      clear hf3 ho3
      go_wp2
      go_roundw
      case rel => exact ⟨j + 1, by omega, by go_num, HF3.out, HO3.out⟩
      case measure => simp [intOf]; omega
    · obtain rfl : j = n := by omega
      have HAL := Lib.hid (falloc_any E (fullL j j) b g j 0 wr (HEK.out _ HBR.out) HF.out)
      rw [fullL_full j 0 (by unfold frOwns; omega)] at HAL
      unfold FrQA at HAL
      dsimp only at HAL
      rw [show errC E 113 = errV (E 12) from rfl] at HAL
      clear hlt
      go_wp2_with fail
      refine HAL.out.mono ?_
      rintro e w3 ⟨rfl, hf3, ho3⟩
      have HB3 : Hid (Below w.heap.size w w3) := Lib.hid (HBR.out.trans (ho3.below HBR.out.size (fun k hk => by subst hk; exact HGG.out)))
      have HFR := Lib.hid (ffree_any E (fullL j j) b g j (B : Int) ((B % 8 : Nat) : Int) w3 (HEK.out _ HB3.out) hf3)
      rw [fullL_back j B hBn] at HFR
      unfold FrQ at HFR
      dsimp only at HFR
      rw [show errC E 0 = .nilIface from rfl, show ((B % 8 : Nat) : Int) = (B : Int) % 8 from rfl] at HFR
      clear hf3 ho3
      go_wp2_with fail
      refine (HN1.out _).mono ?_
      rintro e w4 ⟨rfl, rfl⟩
      go_wp2_with fail
      refine HFR.out.mono ?_
      rintro e w4 ⟨rfl, hf4, ho4⟩
      have HB4 : Hid (Below w.heap.size w w4) := Lib.hid (HB3.out.trans (ho4.below HB3.out.size (fun k hk => by subst hk; exact HGG.out)))
      have HAM := Lib.hid (falloc_any E ((fullL j j).set B frNo) b g j 100 w4 (HEK.out _ HB4.out) hf4)
      rw [fullL_again j B hBn] at HAM
      unfold FrQA at HAM
      dsimp only at HAM
      rw [show errC E 0 = .nilIface from rfl] at HAM
      clear hf4 ho4
      go_wp2_with fail
      refine HAM.out.mono ?_
      rintro e w5 ⟨rfl, hf5, ho5⟩
      have HB5 : Hid (Below w.heap.size w w5) := Lib.hid (HB4.out.trans (ho5.below HB4.out.size (fun k hk => by subst hk; exact HGG.out)))
      have HF5 := Lib.hid hf5
      have hlen : ((fullL j j).set B ⟨100, 0, 0, 0⟩).length = j := by rw [List.length_set, fullL_len]
      have HGET := Lib.hid (fget_some ((fullL j j).set B ⟨100, 0, 0, 0⟩) b g j B w5 hf5 (by rw [hlen]; exact hBn))
      rw [fr_set_get _ _ (by rw [fullL_len]; exact hBn)] at HGET
      unfold frV at HGET
      dsimp only at HGET
      have HLEN := Lib.hid hlen
      have HOFL := Lib.hid (fullL_none j B j (Nat.le_refl _))
      clear hf5 ho5 hlen
      go_wp2_with fail
      refine HGET.out.mono ?_
      rintro e w6 ⟨rfl, hb6⟩
      have HB6 : Hid (Below w.heap.size w (w6.alloc (.cells #[.int .i64 100, .int .i64 0, .int .i64 0, .int .i64 0] 33))) := Lib.hid ((HB5.out.trans (hb6.mono HB5.out.size)).alloc (HB5.out.trans (hb6.mono HB5.out.size)).size _)
      have HF6 := Lib.hid ((HF5.out.below hb6).below ((Below.refl _ _).alloc (Nat.le_refl _) (.cells #[.int .i64 100, .int .i64 0, .int .i64 0, .int .i64 0] 33)))
      have HX6 := Lib.hid (blk_new w6 (.cells #[.int .i64 100, .int .i64 0, .int .i64 0, .int .i64 0] 33))
      clear hb6
      go_wp2_with fail
      refine (is_any E (errV (E 12)) 113 113 (.inr ⟨12, by decide, rfl, rfl⟩) _ (HEK.out _ HB6.out)).mono ?_
      rintro e w7 ⟨rfl, hb7⟩
      have HB7 := Lib.hid (HB6.out.trans (hb7.mono HB6.out.size))
      have HF7 := Lib.hid (HF6.out.below hb7)
      have x7 := blk_cell (blk_below HX6.out hb7 (blk_lt HX6.out)) 0
      have x7' : w7.cell? ⟨w6.heap.size, 0, none⟩ = some (.int .i64 100) := x7
      have HOF := Lib.hid (fof_any _ b j _ (-1) w7 (by rw [HLEN.out]; omega) HF7.out.rd)
      unfold OfPost at HOF
      rw [HLEN.out, HOFL.out] at HOF
      clear hb7 x7
      go_wp2_with fail
      refine HOF.out.mono ?_
      rintro e w8 ⟨v, rfl, hown, hfr, hb8, ao8, cap8, rfl⟩
      have HB8 := Lib.hid (HB7.out.trans (hb8.mono HB7.out.size))
      clear hown hfr hb8 x7'
      go_wp2
      go_ret
      exact ⟨by simp, HB8.out⟩
end Go.Proofs.YtaoaachgnnengaaDoor
