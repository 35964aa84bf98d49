/-
  RelaxFar: for every number, both ways, the call returns true. No conditions.
-/
import Derived.Test.YtakhpibolhijoaaRxTools
namespace Go.Proofs.Ytakhpibolhijoaa
open Go.RowKit

def zIt : Rx.It := ⟨1, 0, false⟩
def farItems (k : Nat) (back : Bool) : List Rx.It := if back then List.replicate (123 + k) zIt ++ [zIt, ⟨1, 0, true⟩] else [⟨1, (124 + k : Nat), true⟩] ++ List.replicate (123 + k) zIt
def farOf (k : Nat) (back : Bool) : Bool := if back then decide (128 < 124 + k) else decide (127 < 124 + k)
def farAt (k : Nat) (back : Bool) : Nat := if back then 124 + k else 0
theorem far_fair : ∀ k, k < 8 → ∀ back, fairB (farItems k back) = true := by decide +kernel
theorem far_do : ∀ k, k < 8 → ∀ back, doIs (farItems k back) (if farOf k back then 1 else 0) = true := by decide +kernel
theorem far_at : ∀ k, k < 8 → ∀ back, (Rx.it (farItems k back) (if farOf k back then 1 else 0)).getD (farAt k back) false = farOf k back := by decide +kernel
theorem far_fits : ∀ k, k < 8 → ∀ back, farAt k back < (farItems k back).length := by decide +kernel
theorem far_len (k : Nat) (back : Bool) : (farItems k back).length = if back then 125 + k else 124 + k := by
  cases back <;> simp [farItems] <;> omega

def farJ (pre : List Rx.It) (j : Nat) : List Rx.It := pre ++ List.replicate j zIt
theorem farJ_succ (pre : List Rx.It) (j : Nat) : itCells (farJ pre j) ++ itCells [zIt] = itCells (farJ pre (j + 1)) := by
  rw [← itCells_append, farJ, farJ, List.append_assoc, List.replicate_succ']
/-- behind the first items stand j plain ones -/
def FarTo (pre : List Rx.It) (n0 n : Nat) (w : World) (v i : Value) (wr : World) : Prop :=
  ∃ j : Nat, j + 1 ≤ n ∧ i = .int .i64 ((j + 1 : Nat) : Int) ∧ wr.ownsRow 0 29 3 v (n0 + j) (itCells (farJ pre j)) ∧ (∀ k, inRow v k → w.heap.size ≤ k) ∧ Below w.heap.size w wr ∧ ∃ ao cap, v = .slice ao (n0 + j) cap
def BackTo (n : Nat) (w : World) (v i : Value) (wr : World) : Prop :=
  ∃ j : Nat, j + 1 ≤ n ∧ i = .int .i64 ((j + 1 : Nat) : Int) ∧ wr.ownsRow 0 29 3 v j (itCells (farJ [] j)) ∧ (∀ k, inRow v k → w.heap.size ≤ k) ∧ Below w.heap.size w wr ∧ ∃ ao cap, v = .slice ao j cap

set_option maxRecDepth 100000 in
set_option maxHeartbeats 1500000 in
theorem far_fore (n : Int) (w : World) (h1 : -9223372036854775808 ≤ n) (h2 : n ≤ 9223372036854775807) :
    Calls Try.prog 4 #[.int .i64 n, .bool false] w fun e w' => e = .returned (.bool true) ∧ Below w.heap.size w w' := by
  obtain ⟨i0, hi, hz0, hz1, hz2⟩ := info_parts infoIt
  go_enter Try.func4, Try.ntmps4
  go_wp2_with fail
  refine (first_true _).mono ?_
  rintro e w1 ⟨rfl, hb1⟩
  have HB1 := Lib.hid hb1
  clear hb1
  go_wp2_with fail
  refine (number_any n 8 _ h1 h2 (by decide) (by decide)).mono ?_
  rintro e w2 ⟨rfl, rfl⟩
  obtain ⟨k, hk⟩ : ∃ k : Nat, n % 8 = (k : Int) := ⟨(n % 8).toNat, by omega⟩
  have hk8 : k < 8 := by omega
  rw [hk]
  clear hk h1 h2
  have ha : IntKind.i64.wrap ((k : Int) + 124) = ((124 + k : Nat) : Int) := (IntWalk.i64_in _ (by omega)).trans (by omega)
  obtain ⟨m, hm⟩ : ∃ m, 124 + k = m := ⟨_, rfl⟩
  rw [hm] at ha
  have HM := Lib.hid hm
  have hm1 : 124 ≤ m := by omega
  have hm2 : m < 132 := by omega
  clear hm
  go_wp2_with (at_builtin; refine wpList_append_sep _ rfl _ _ 22 rfl 29 i0 (.agg #[.int .i64 0, .int .i64 0, .bool false]) 3 24 Try.underlying22 hi hz0 hz1 hz2 rfl (by decide) _ 0 [] rfl (own_nil _ _ _) ⟨w1.heap.size, 0, none⟩ 1 1 (itCells [⟨1, m, true⟩]) rfl rfl (cells3_new _ ⟨1, m, true⟩ _) (itCells_one _) (by unfold maxLen; omega) (by omega) ?_)
  intro v' w3 ho hg hs
  obtain ⟨ao, cap, rfl⟩ := own_slice ho
  have hw3 : Below w.heap.size w w3 := (HB1.out.alloc HB1.out.size _).grown hg (by have := HB1.out.size; simp; omega) (fun j hj => by simp [Value.ownBlock] at hj)
  have HO3 := Lib.hid (show w3.ownsRow 0 29 3 (.slice ao 1 cap) (1 + 0) (itCells (farJ [⟨1, m, true⟩] 0)) from ho)
  have HW3 := Lib.hid hw3
  have HF3 := Lib.hid (show ∀ j, inRow (.slice ao 1 cap) j → w.heap.size ≤ j from fun j hj => by
    rcases hs j hj with h | h
    · simp [inRow, Value.ownBlock] at h
    · have := HB1.out.size
      omega)
  clear ho hg hs hw3
  go_wp2_with fail
  go_loopw [6, 7] (fun v i wr => FarTo [⟨1, m, true⟩] 1 m w v i wr) (fun _ i _ => m - (intOf i).toNat)
  case atStart => exact ⟨0, by omega, by go_num, HO3.out, HF3.out, HW3.out, _, _, rfl⟩
  case round =>
    obtain ⟨j, hj, rfl, hown, hf, hbw, ao', cap', rfl⟩ := hrel
    have HO := Lib.hid hown
    have HF := Lib.hid hf
    have HW := Lib.hid hbw
    clear hown hf hbw HO3 HF3 HW3
    by_cases hlt : j + 1 < m
    · go_wp2_with (at_builtin; refine wpList_append_sep _ rfl _ _ 22 rfl 29 i0 (.agg #[.int .i64 0, .int .i64 0, .bool false]) 3 24 Try.underlying22 hi hz0 hz1 hz2 rfl (by decide) _ _ _ rfl (HO.out.alloc _) ⟨wr.heap.size, 0, none⟩ 1 1 (itCells [zIt]) rfl rfl (cells3_new _ zIt _) (itCells_one _) (by unfold maxLen; omega) (by omega) ?_)
      intro v' w4 ho2 hg2 hs2
      obtain ⟨ao2, cap2, rfl⟩ := own_slice ho2
      rw [farJ_succ] at ho2
      have hw2 : Below w.heap.size w w4 := (HW.out.alloc HW.out.size _).grown hg2 (by have := HW.out.size; simp; omega) (fun j hj => HF.out j hj)
      have HO2 := Lib.hid ho2
      have HW2 := Lib.hid hw2
      have HF2 := Lib.hid (show ∀ k, inRow (.slice ao2 _ cap2) k → w.heap.size ≤ k from fun k hk => by
        rcases hs2 k hk with h | h
        · exact HF.out k h
        · have h' := h
          try simp only [World.size_alloc] at h'
          have := HW.out.size
          omega)
      clear ho2 hg2 hs2 hw2
      go_wp2
      go_roundw
      case rel => exact ⟨j + 1, by omega, by go_num, HO2.out, HF2.out, HW2.out, _, _, rfl⟩
      case measure => simp [intOf]; omega
    · obtain ⟨ao1, cap1, he, ha⟩ := atL_of_own HO.out
      cases he
      have HJ : Hid (j = 123 + k) := Lib.hid (by have := HM.out; omega)
      have HI : Hid (farJ [⟨1, m, true⟩] j = farItems k false) := Lib.hid (by rw [← HM.out, HJ.out]; rfl)
      rw [HI.out] at ha
      have HL2 : Hid ((farItems k false).length = 1 + j) := Lib.hid (by rw [far_len, HJ.out]; simp; omega)
      have HA := Lib.hid ha
      clear ha
      go_wp2_with fail
      refine (do_n (farItems k false) _ _ _ _ HA.out HL2.out (by omega)).mono ?_
      rintro e w5 ⟨-, hd⟩
      obtain ⟨v, a, r, rfl, hdo, hown, hf5, hb⟩ := hd (far_fair k hk8 false)
      have hkn := do_known (far_do k hk8 false) hdo
      have hat := far_at k hk8 false
      rw [← hkn.1] at hat
      have hfit := far_fits k hk8 false
      have hr := hkn.2
      have ham := hdo.length
      rw [HL2.out] at hown hfit ham
      obtain ⟨av, cv, rfl, hav⟩ := atL_of_own hown
      obtain ⟨b, off, rfl, c0, -⟩ := hav (farAt k false) _ (bls_get a _ (by rw [ham]; exact hfit))
      rw [hat] at c0
      have HW5 := Lib.hid (HW.out.trans (hb.mono HW.out.size))
      have HD : Hid (farOf k false = decide (127 < m)) := Lib.hid (by rw [← HM.out]; rfl)
      have HAT : Hid (farAt k false = 0) := Lib.hid (by rfl)
      rw [HAT.out] at c0
      clear hdo hown hf5 hb hkn hat hfit ham hav hd HAT
      rw [HD.out] at c0 hr
      by_cases hfar : 127 < m
      · rw [decide_eq_true hfar] at c0 hr
        obtain rfl : r = 1 := hr
        rw [Nat.add_zero] at c0
        skip
        go_wp2
        go_ret
        exact ⟨ret_bool (by first | rfl | (simp; omega)), HW5.out⟩
      · rw [decide_eq_false hfar] at c0 hr
        obtain rfl : r = 0 := hr
        rw [Nat.add_zero] at c0
        go_wp2
        go_ret
        exact ⟨ret_bool (by first | rfl | (simp; omega)), HW5.out⟩

set_option maxRecDepth 100000 in
set_option maxHeartbeats 1500000 in
theorem far_back (n : Int) (w : World) (h1 : -9223372036854775808 ≤ n) (h2 : n ≤ 9223372036854775807) :
    Calls Try.prog 4 #[.int .i64 n, .bool true] w fun e w' => e = .returned (.bool true) ∧ Below w.heap.size w w' := by
  obtain ⟨i0, hi, hz0, hz1, hz2⟩ := info_parts infoIt
  go_enter Try.func4, Try.ntmps4
  go_wp2_with fail
  refine (first_true _).mono ?_
  rintro e w1 ⟨rfl, hb1⟩
  have HB1 := Lib.hid hb1
  clear hb1
  go_wp2_with fail
  refine (number_any n 8 _ h1 h2 (by decide) (by decide)).mono ?_
  rintro e w2 ⟨rfl, rfl⟩
  obtain ⟨k, hk⟩ : ∃ k : Nat, n % 8 = (k : Int) := ⟨(n % 8).toNat, by omega⟩
  have hk8 : k < 8 := by omega
  rw [hk]
  clear hk h1 h2
  have ha : IntKind.i64.wrap ((k : Int) + 124) = ((124 + k : Nat) : Int) := (IntWalk.i64_in _ (by omega)).trans (by omega)
  obtain ⟨m, hm⟩ : ∃ m, 124 + k = m := ⟨_, rfl⟩
  rw [hm] at ha
  have HM := Lib.hid hm
  have hm1 : 124 ≤ m := by omega
  have hm2 : m < 132 := by omega
  clear hm
  go_wp2_with fail
  go_loopw [6, 7] (fun v i wr => BackTo m w v i wr) (fun _ i _ => m - (intOf i).toNat)
  case atStart => exact ⟨0, by omega, by go_num, own_nil _ _ _, fun j hj => by simp [inRow, Value.ownBlock] at hj, HB1.out, _, _, rfl⟩
  case round =>
    obtain ⟨j, hj, rfl, hown, hf, hbw, ao', cap', rfl⟩ := hrel
    have HO := Lib.hid hown
    have HF := Lib.hid hf
    have HW := Lib.hid hbw
    clear hown hf hbw 
    by_cases hlt : j + 1 < m
    · go_wp2_with (at_builtin; refine wpList_append_sep _ rfl _ _ 22 rfl 29 i0 (.agg #[.int .i64 0, .int .i64 0, .bool false]) 3 24 Try.underlying22 hi hz0 hz1 hz2 rfl (by decide) _ _ _ rfl (HO.out.alloc _) ⟨wr.heap.size, 0, none⟩ 1 1 (itCells [zIt]) rfl rfl (cells3_new _ zIt _) (itCells_one _) (by unfold maxLen; omega) (by omega) ?_)
      intro v' w4 ho2 hg2 hs2
      obtain ⟨ao2, cap2, rfl⟩ := own_slice ho2
      rw [farJ_succ] at ho2
      have hw2 : Below w.heap.size w w4 := (HW.out.alloc HW.out.size _).grown hg2 (by have := HW.out.size; simp; omega) (fun j hj => HF.out j hj)
      have HO2 := Lib.hid ho2
      have HW2 := Lib.hid hw2
      have HF2 := Lib.hid (show ∀ k, inRow (.slice ao2 _ cap2) k → w.heap.size ≤ k from fun k hk => by
        rcases hs2 k hk with h | h
        · exact HF.out k h
        · have h' := h
          try simp only [World.size_alloc] at h'
          have := HW.out.size
          omega)
      clear ho2 hg2 hs2 hw2
      go_wp2
      go_roundw
      case rel => exact ⟨j + 1, by omega, by go_num, HO2.out, HF2.out, HW2.out, _, _, rfl⟩
      case measure => simp [intOf]; omega
    · go_wp2_with (at_builtin; refine wpList_append_sep _ rfl _ _ 22 rfl 29 i0 (.agg #[.int .i64 0, .int .i64 0, .bool false]) 3 24 Try.underlying22 hi hz0 hz1 hz2 rfl (by decide) _ _ _ rfl (HO.out.alloc _) ⟨wr.heap.size, 0, none⟩ 2 2 (itCells [zIt, ⟨1, 0, true⟩]) rfl rfl (cells6_new _ zIt ⟨1, 0, true⟩ _) (itCells_one _) (by unfold maxLen; omega) (by omega) ?_)
      intro v' w4 ho2 hg2 hs2
      obtain ⟨ao2, cap2, rfl⟩ := own_slice ho2
      have HW2 := Lib.hid (show Below w.heap.size w w4 from (HW.out.alloc HW.out.size _).grown hg2 (by have := HW.out.size; simp; omega) (fun j hj => HF.out j hj))
      have HJ : Hid (j = 123 + k) := Lib.hid (by have := HM.out; omega)
      have HI : Hid (itCells (farJ [] j) ++ itCells [zIt, ⟨1, 0, true⟩] = itCells (farItems k true)) := Lib.hid (by rw [← itCells_append, HJ.out]; rfl)
      rw [HI.out] at ho2
      obtain ⟨ao1, cap1, he, ha⟩ := atL_of_own ho2
      cases he
      have HL2 : Hid ((farItems k true).length = j + 2) := Lib.hid (by rw [far_len, HJ.out]; simp; omega)
      have HA := Lib.hid ha
      clear ha ho2 hg2 hs2
      go_wp2_with fail
      refine (do_n (farItems k true) _ _ _ _ HA.out HL2.out (by omega)).mono ?_
      rintro e w5 ⟨-, hd⟩
      obtain ⟨v, a, r, rfl, hdo, hown, hf5, hb⟩ := hd (far_fair k hk8 true)
      have hkn := do_known (far_do k hk8 true) hdo
      have hat := far_at k hk8 true
      rw [← hkn.1] at hat
      have hfit := far_fits k hk8 true
      have hr := hkn.2
      have ham := hdo.length
      rw [HL2.out] at hown hfit ham
      obtain ⟨av, cv, rfl, hav⟩ := atL_of_own hown
      obtain ⟨b, off, rfl, c0, -⟩ := hav (farAt k true) _ (bls_get a _ (by rw [ham]; exact hfit))
      rw [hat] at c0
      have HW5 := Lib.hid (HW2.out.trans (hb.mono HW2.out.size))
      have HD : Hid (farOf k true = decide (128 < m)) := Lib.hid (by rw [← HM.out]; rfl)
      have HAT : Hid (farAt k true = j + 1) := Lib.hid (by rw [HJ.out]; simp [farAt]; omega)
      rw [HAT.out] at c0
      clear hdo hown hf5 hb hkn hat hfit ham hav hd HAT
      rw [HD.out] at c0 hr
      by_cases hfar : 128 < m
      · rw [decide_eq_true hfar] at c0 hr
        obtain rfl : r = 1 := hr
        skip
        have w9 : IntKind.i64.wrap (((j + 2 : Nat) : Int) - 1) = ((j + 1 : Nat) : Int) := (IntWalk.i64_in _ (by omega)).trans (by omega)
        go_wp2
        go_ret
        exact ⟨ret_bool (by first | rfl | (simp; omega)), HW5.out⟩
      · rw [decide_eq_false hfar] at c0 hr
        obtain rfl : r = 0 := hr
        skip
        go_wp2
        go_ret
        exact ⟨ret_bool (by first | rfl | (simp; omega)), HW5.out⟩

theorem far_walk (n : Int) (back : Bool) (w : World) (h : -9223372036854775808 ≤ n ∧ n ≤ 9223372036854775807) :
    Calls Try.prog 4 #[.int .i64 n, .bool back] w fun e w' => e = .returned (.bool true) ∧ Below w.heap.size w w' := by
  cases back
  · exact far_fore n w h.1 h.2
  · exact far_back n w h.1 h.2
end Go.Proofs.Ytakhpibolhijoaa
