/-
  RelaxChain: for every number, far or not, the call returns true. No conditions.
-/
import Derived.Test.YtakhpibolhijoaaRxTools
namespace Go.Proofs.Ytakhpibolhijoaa
open Go.RowKit

def chainJ : Nat → List Rx.It
  | 0 => []
  | j + 1 => chainJ j ++ [⟨1, ((2 * j + 3 : Nat) : Int), true⟩, ⟨125, 0, false⟩]
theorem chainJ_len : ∀ j, (chainJ j).length = 2 * j
  | 0 => rfl
  | j + 1 => by rw [chainJ, List.length_append, chainJ_len j]; simp; omega
def chainLast (far : Bool) : Int := if far then 2 else 1
def chainItems (n : Nat) (far : Bool) : List Rx.It := chainJ n ++ [⟨chainLast far, 0, false⟩]
theorem chain_len (n : Nat) (far : Bool) : (chainItems n far).length = 2 * n + 1 := by simp [chainItems, chainJ_len]
theorem chain_fair : ∀ k, k < 10 → ∀ far, fairB (chainItems (k + 1) far) = true := by decide +kernel
theorem chain_do : ∀ k, k < 10 → ∀ far, doIs (chainItems (k + 1) far) (if far then k + 1 else 0) = true := by decide +kernel
theorem chain_ok : ∀ k, k < 10 → ∀ far, allOk (chainItems (k + 1) far) (Rx.it (chainItems (k + 1) far) (if far then k + 1 else 0)) = true := by decide +kernel
theorem chain_at : ∀ k, k < 10 → ∀ far, ∀ i, i < k + 1 → (Rx.it (chainItems (k + 1) far) (if far then k + 1 else 0)).getD (2 * i) false = far := by decide +kernel

def ChainTo (n : Nat) (w : World) (v i : Value) (wr : World) : Prop :=
  ∃ j : Nat, j ≤ n ∧ i = .int .i64 (j : Int) ∧ wr.ownsRow 0 29 3 v (2 * j) (itCells (chainJ j)) ∧ (∀ k, inRow v k → w.heap.size ≤ k) ∧ Below w.heap.size w wr ∧ ∃ ao cap, v = .slice ao (2 * j) cap
def ChainAt (n : Nat) (w : World) (i : Value) (wr : World) : Prop := ∃ j : Nat, j ≤ n ∧ i = .int .i64 (j : Int) ∧ wr = w

set_option maxRecDepth 100000 in
set_option maxHeartbeats 2000000 in
theorem chain_false (n : Int) (w : World) (h : -9223372036854775808 ≤ n ∧ n ≤ 9223372036854775807) :
    Calls Try.prog 8 #[.int .i64 n, .bool false] w fun e w' => e = .returned (.bool true) ∧ Below w.heap.size w w' := by
  obtain ⟨i0, hi, hz0, hz1, hz2⟩ := info_parts infoIt
  have h1 := h.1
  have h2 := h.2
  clear h
  go_enter Try.func8, Try.ntmps8
  go_wp2_with fail
  refine (first_true _).mono ?_
  rintro e w1 ⟨rfl, hb1⟩
  have HB1 := Lib.hid hb1
  clear hb1
  go_wp2_with fail
  refine (number_any n 10 _ h1 h2 (by decide) (by decide)).mono ?_
  rintro e w2 ⟨rfl, rfl⟩
  obtain ⟨k, hk⟩ : ∃ k : Nat, n % 10 = (k : Int) := ⟨(n % 10).toNat, by omega⟩
  have hk8 : k < 10 := by omega
  rw [hk]
  clear hk h1 h2
  have ha : IntKind.i64.wrap ((k : Int) + 1) = ((k + 1 : Nat) : Int) := (IntWalk.i64_in _ (by omega)).trans (by omega)
  obtain ⟨m, hm⟩ : ∃ m, k + 1 = m := ⟨_, rfl⟩
  rw [hm] at ha
  have HM := Lib.hid hm
  have hm2 : m ≤ 10 := by omega
  clear hm
  go_wp2_with fail
  go_loopw [6, 7] (fun v i wr => ChainTo m w v i wr) (fun _ i _ => m - (intOf i).toNat)
  case atStart => exact ⟨0, by omega, rfl, own_nil _ _ _, fun j hj => by simp [inRow, Value.ownBlock] at hj, HB1.out, _, _, rfl⟩
  case round =>
    obtain ⟨j, hj, rfl, hown, hf, hbw, ao', cap', rfl⟩ := hrel
    have HO := Lib.hid hown
    have HF := Lib.hid hf
    have HW := Lib.hid hbw
    clear hown hf hbw
    by_cases hlt : j < m
    · have e1 : IntKind.i64.wrap (2 * (j : Int)) = ((2 * j : Nat) : Int) := (IntWalk.i64_in _ (by omega)).trans (by omega)
      have e2 : IntKind.i64.wrap (((2 * j : Nat) : Int) + 3) = ((2 * j + 3 : Nat) : Int) := (IntWalk.i64_in _ (by omega)).trans (by omega)
      obtain ⟨d, hd⟩ : ∃ d, 2 * j = d := ⟨_, rfl⟩
      obtain ⟨q, hq⟩ : ∃ q, 2 * j + 3 = q := ⟨_, rfl⟩
      rw [hq] at e2
      rw [hd] at e1 e2 HO HF ⊢
      have HD := Lib.hid hd
      have HQ := Lib.hid hq
      clear hd hq
      have hd20 : d ≤ 20 := by have := HD.out; omega
      go_wp2_with (at_builtin; refine wpList_append_sep _ rfl _ _ 22 rfl 29 i0 (.agg #[.int .i64 0, .int .i64 0, .bool false]) 3 24 Try.underlying22 hi hz0 hz1 hz2 rfl (by decide) _ _ _ rfl (HO.out.alloc _) ⟨wr.heap.size, 0, none⟩ 2 2 (itCells [⟨1, q, true⟩, ⟨125, 0, false⟩]) rfl rfl (cells6_new _ ⟨1, q, true⟩ ⟨125, 0, false⟩ _) (itCells_one _) (by unfold maxLen; omega) (by omega) ?_)
      intro v' w4 ho2 hg2 hs2
      obtain ⟨ao2, cap2, rfl⟩ := own_slice ho2
      have HO2 : Hid (w4.ownsRow 0 29 3 (.slice ao2 (d + 2) cap2) (2 * (j + 1)) (itCells (chainJ (j + 1)))) := Lib.hid (by
        have h := ho2
        rw [← HQ.out, ← itCells_append] at h
        rw [show 2 * (j + 1) = d + 2 by have := HD.out; omega]
        exact h)
      have HW2 := Lib.hid (show Below w.heap.size w w4 from (HW.out.alloc HW.out.size _).grown hg2 (by have := HW.out.size; simp; omega) (fun j hj => HF.out j hj))
      have HF2 := Lib.hid (show ∀ k, inRow (.slice ao2 (d + 2) cap2) k → w.heap.size ≤ k from fun k hk => by
        rcases hs2 k hk with h | h
        · exact HF.out k h
        · have h' := h
          try simp only [World.size_alloc] at h'
          have := HW.out.size
          omega)
      clear ho2 hg2 hs2
      go_wp2
      go_roundw
      case rel => exact ⟨j + 1, by omega, by go_num, HO2.out, HF2.out, HW2.out, ao2, cap2, by rw [show 2 * (j + 1) = d + 2 by have := HD.out; omega]⟩
      case measure => simp [intOf]; omega
    · obtain rfl : j = m := by omega
      have hd20 : 2 * j ≤ 20 := by omega
      go_wp2_with (at_builtin; refine wpList_append_sep _ rfl _ _ 22 rfl 29 i0 (.agg #[.int .i64 0, .int .i64 0, .bool false]) 3 24 Try.underlying22 hi hz0 hz1 hz2 rfl (by decide) _ _ _ rfl (HO.out.alloc _) ⟨wr.heap.size, 0, none⟩ 1 1 (itCells [⟨1, 0, false⟩]) rfl rfl (cells3_new _ ⟨1, 0, false⟩ _) (itCells_one _) (by unfold maxLen; omega) (by omega) ?_)
      intro v' w4 ho2 hg2 hs2
      obtain ⟨ao2, cap2, rfl⟩ := own_slice ho2
      have HW2 := Lib.hid (show Below w.heap.size w w4 from (HW.out.alloc HW.out.size _).grown hg2 (by have := HW.out.size; simp; omega) (fun j hj => HF.out j hj))
      have HI : Hid (itCells (chainJ j) ++ itCells [⟨1, 0, false⟩] = itCells (chainItems (k + 1) false)) := Lib.hid (by rw [← itCells_append, ← HM.out]; rfl)
      rw [HI.out] at ho2
      obtain ⟨ao1, cap1, he, ha2⟩ := atL_of_own ho2
      cases he
      have HL2 : Hid ((chainItems (k + 1) false).length = 2 * j + 1) := Lib.hid (by rw [chain_len, HM.out])
      have HA := Lib.hid ha2
      clear ha2 ho2 hg2 hs2
      go_wp2_with fail
      refine (do_n (chainItems (k + 1) false) _ _ _ _ HA.out HL2.out (by omega)).mono ?_
      rintro e w5 ⟨-, hd⟩
      obtain ⟨v, a, r, rfl, hdo, hown, hf5, hb⟩ := hd (chain_fair k hk8 false)
      have hkn := do_known (chain_do k hk8 false) hdo
      have hat := chain_at k hk8 false
      have hok := chain_ok k hk8 false
      rw [← hkn.1] at hat hok
      have HR : Hid (r = 0) := Lib.hid (by rw [hkn.2]; rfl)
      have ham := hdo.length
      rw [HL2.out] at hown ham
      obtain ⟨av, cv, rfl, hav⟩ := atL_of_own hown
      have HAV := Lib.hid hav
      have HAM := Lib.hid ham
      have HAT := Lib.hid hat
      have HOK := Lib.hid hok
      have HFR := Lib.hid ((fair_iff _).1 (chain_fair k hk8 false))
      have HB5 := Lib.hid hb
      have HW5 := Lib.hid (HW2.out.trans (hb.mono HW2.out.size))
      clear hdo hown hf5 hb hkn hat hok ham hav hd
      rw [HR.out]
      go_wp2_with fail
      refine (Fits_n (chainItems (k + 1) false) a _ _ _ _ _ _ _ (HA.out.mono HB5.out) HAV.out HL2.out HAM.out rfl HFR.out (by omega)).mono ?_
      rintro e w6 ⟨rfl, hb6⟩
      rw [HOK.out]
      have HB6 := Lib.hid hb6
      have HW6 := Lib.hid (HW5.out.trans (hb6.mono HW5.out.size))
      clear hb6
      go_wp2_with fail
      go_loop [13] (fun i => ∃ q : Nat, q ≤ j ∧ i = .int .i64 (q : Int)) (fun i => j - (intOf i).toNat)
      case atStart => exact ⟨0, by omega, rfl⟩
      case round =>
        obtain ⟨q, hq, rfl⟩ := hrel
        by_cases hqj : q < j
        · obtain ⟨b, off, rfl, c0, -⟩ := (HAV.out.mono HB6.out) (2 * q) _ (bls_get a (2 * q) (by rw [HAM.out]; omega))
          rw [HAT.out q (by rw [HM.out]; exact hqj)] at c0
          have e3 : IntKind.i64.wrap (2 * (q : Int)) = ((2 * q : Nat) : Int) := (IntWalk.i64_in _ (by omega)).trans (by omega)
          obtain ⟨z, hz⟩ : ∃ z, 2 * q = z := ⟨_, rfl⟩
          rw [hz] at e3 c0
          have hz1 : (z : Int) < (2 * j + 1 : Nat) := by omega
          have hz2 : z < 2 * j + 1 := by omega
          clear hz
          go_wp2
          go_round
          case rel => exact ⟨q + 1, by omega, by go_num⟩
          case measure => simp [intOf]; omega
        · go_wp2
          go_ret
          exact ⟨rfl, HW6.out⟩

set_option maxRecDepth 100000 in
set_option maxHeartbeats 2000000 in
theorem chain_true (n : Int) (w : World) (h : -9223372036854775808 ≤ n ∧ n ≤ 9223372036854775807) :
    Calls Try.prog 8 #[.int .i64 n, .bool true] w fun e w' => e = .returned (.bool true) ∧ Below w.heap.size w w' := by
  obtain ⟨i0, hi, hz0, hz1, hz2⟩ := info_parts infoIt
  have h1 := h.1
  have h2 := h.2
  clear h
  go_enter Try.func8, Try.ntmps8
  go_wp2_with fail
  refine (first_true _).mono ?_
  rintro e w1 ⟨rfl, hb1⟩
  have HB1 := Lib.hid hb1
  clear hb1
  go_wp2_with fail
  refine (number_any n 10 _ h1 h2 (by decide) (by decide)).mono ?_
  rintro e w2 ⟨rfl, rfl⟩
  obtain ⟨k, hk⟩ : ∃ k : Nat, n % 10 = (k : Int) := ⟨(n % 10).toNat, by omega⟩
  have hk8 : k < 10 := by omega
  rw [hk]
  clear hk h1 h2
  have ha : IntKind.i64.wrap ((k : Int) + 1) = ((k + 1 : Nat) : Int) := (IntWalk.i64_in _ (by omega)).trans (by omega)
  obtain ⟨m, hm⟩ : ∃ m, k + 1 = m := ⟨_, rfl⟩
  rw [hm] at ha
  have HM := Lib.hid hm
  have hm2 : m ≤ 10 := by omega
  clear hm
  go_wp2_with fail
  go_loopw [6, 7] (fun v i wr => ChainTo m w v i wr) (fun _ i _ => m - (intOf i).toNat)
  case atStart => exact ⟨0, by omega, rfl, own_nil _ _ _, fun j hj => by simp [inRow, Value.ownBlock] at hj, HB1.out, _, _, rfl⟩
  case round =>
    obtain ⟨j, hj, rfl, hown, hf, hbw, ao', cap', rfl⟩ := hrel
    have HO := Lib.hid hown
    have HF := Lib.hid hf
    have HW := Lib.hid hbw
    clear hown hf hbw
    by_cases hlt : j < m
    · have e1 : IntKind.i64.wrap (2 * (j : Int)) = ((2 * j : Nat) : Int) := (IntWalk.i64_in _ (by omega)).trans (by omega)
      have e2 : IntKind.i64.wrap (((2 * j : Nat) : Int) + 3) = ((2 * j + 3 : Nat) : Int) := (IntWalk.i64_in _ (by omega)).trans (by omega)
      obtain ⟨d, hd⟩ : ∃ d, 2 * j = d := ⟨_, rfl⟩
      obtain ⟨q, hq⟩ : ∃ q, 2 * j + 3 = q := ⟨_, rfl⟩
      rw [hq] at e2
      rw [hd] at e1 e2 HO HF ⊢
      have HD := Lib.hid hd
      have HQ := Lib.hid hq
      clear hd hq
      have hd20 : d ≤ 20 := by have := HD.out; omega
      go_wp2_with (at_builtin; refine wpList_append_sep _ rfl _ _ 22 rfl 29 i0 (.agg #[.int .i64 0, .int .i64 0, .bool false]) 3 24 Try.underlying22 hi hz0 hz1 hz2 rfl (by decide) _ _ _ rfl (HO.out.alloc _) ⟨wr.heap.size, 0, none⟩ 2 2 (itCells [⟨1, q, true⟩, ⟨125, 0, false⟩]) rfl rfl (cells6_new _ ⟨1, q, true⟩ ⟨125, 0, false⟩ _) (itCells_one _) (by unfold maxLen; omega) (by omega) ?_)
      intro v' w4 ho2 hg2 hs2
      obtain ⟨ao2, cap2, rfl⟩ := own_slice ho2
      have HO2 : Hid (w4.ownsRow 0 29 3 (.slice ao2 (d + 2) cap2) (2 * (j + 1)) (itCells (chainJ (j + 1)))) := Lib.hid (by
        have h := ho2
        rw [← HQ.out, ← itCells_append] at h
        rw [show 2 * (j + 1) = d + 2 by have := HD.out; omega]
        exact h)
      have HW2 := Lib.hid (show Below w.heap.size w w4 from (HW.out.alloc HW.out.size _).grown hg2 (by have := HW.out.size; simp; omega) (fun j hj => HF.out j hj))
      have HF2 := Lib.hid (show ∀ k, inRow (.slice ao2 (d + 2) cap2) k → w.heap.size ≤ k from fun k hk => by
        rcases hs2 k hk with h | h
        · exact HF.out k h
        · have h' := h
          try simp only [World.size_alloc] at h'
          have := HW.out.size
          omega)
      clear ho2 hg2 hs2
      go_wp2
      go_roundw
      case rel => exact ⟨j + 1, by omega, by go_num, HO2.out, HF2.out, HW2.out, ao2, cap2, by rw [show 2 * (j + 1) = d + 2 by have := HD.out; omega]⟩
      case measure => simp [intOf]; omega
    · obtain rfl : j = m := by omega
      have hd20 : 2 * j ≤ 20 := by omega
      go_wp2_with (at_builtin; refine wpList_append_sep _ rfl _ _ 22 rfl 29 i0 (.agg #[.int .i64 0, .int .i64 0, .bool false]) 3 24 Try.underlying22 hi hz0 hz1 hz2 rfl (by decide) _ _ _ rfl (HO.out.alloc _) ⟨wr.heap.size, 0, none⟩ 1 1 (itCells [⟨2, 0, false⟩]) rfl rfl (cells3_new _ ⟨2, 0, false⟩ _) (itCells_one _) (by unfold maxLen; omega) (by omega) ?_)
      intro v' w4 ho2 hg2 hs2
      obtain ⟨ao2, cap2, rfl⟩ := own_slice ho2
      have HW2 := Lib.hid (show Below w.heap.size w w4 from (HW.out.alloc HW.out.size _).grown hg2 (by have := HW.out.size; simp; omega) (fun j hj => HF.out j hj))
      have HI : Hid (itCells (chainJ j) ++ itCells [⟨2, 0, false⟩] = itCells (chainItems (k + 1) true)) := Lib.hid (by rw [← itCells_append, ← HM.out]; rfl)
      rw [HI.out] at ho2
      obtain ⟨ao1, cap1, he, ha2⟩ := atL_of_own ho2
      cases he
      have HL2 : Hid ((chainItems (k + 1) true).length = 2 * j + 1) := Lib.hid (by rw [chain_len, HM.out])
      have HA := Lib.hid ha2
      clear ha2 ho2 hg2 hs2
      go_wp2_with fail
      refine (do_n (chainItems (k + 1) true) _ _ _ _ HA.out HL2.out (by omega)).mono ?_
      rintro e w5 ⟨-, hd⟩
      obtain ⟨v, a, r, rfl, hdo, hown, hf5, hb⟩ := hd (chain_fair k hk8 true)
      have hkn := do_known (chain_do k hk8 true) hdo
      have hat := chain_at k hk8 true
      have hok := chain_ok k hk8 true
      rw [← hkn.1] at hat hok
      have HR : Hid (r = j) := Lib.hid (by rw [hkn.2]; exact HM.out)
      have ham := hdo.length
      rw [HL2.out] at hown ham
      obtain ⟨av, cv, rfl, hav⟩ := atL_of_own hown
      have HAV := Lib.hid hav
      have HAM := Lib.hid ham
      have HAT := Lib.hid hat
      have HOK := Lib.hid hok
      have HFR := Lib.hid ((fair_iff _).1 (chain_fair k hk8 true))
      have HB5 := Lib.hid hb
      have HW5 := Lib.hid (HW2.out.trans (hb.mono HW2.out.size))
      clear hdo hown hf5 hb hkn hat hok ham hav hd
      rw [HR.out]
      go_wp2_with fail
      refine (Fits_n (chainItems (k + 1) true) a _ _ _ _ _ _ _ (HA.out.mono HB5.out) HAV.out HL2.out HAM.out rfl HFR.out (by omega)).mono ?_
      rintro e w6 ⟨rfl, hb6⟩
      rw [HOK.out]
      have HB6 := Lib.hid hb6
      have HW6 := Lib.hid (HW5.out.trans (hb6.mono HW5.out.size))
      clear hb6
      go_wp2_with fail
      go_loop [13] (fun i => ∃ q : Nat, q ≤ j ∧ i = .int .i64 (q : Int)) (fun i => j - (intOf i).toNat)
      case atStart => exact ⟨0, by omega, rfl⟩
      case round =>
        obtain ⟨q, hq, rfl⟩ := hrel
        by_cases hqj : q < j
        · obtain ⟨b, off, rfl, c0, -⟩ := (HAV.out.mono HB6.out) (2 * q) _ (bls_get a (2 * q) (by rw [HAM.out]; omega))
          rw [HAT.out q (by rw [HM.out]; exact hqj)] at c0
          have e3 : IntKind.i64.wrap (2 * (q : Int)) = ((2 * q : Nat) : Int) := (IntWalk.i64_in _ (by omega)).trans (by omega)
          obtain ⟨z, hz⟩ : ∃ z, 2 * q = z := ⟨_, rfl⟩
          rw [hz] at e3 c0
          have hz1 : (z : Int) < (2 * j + 1 : Nat) := by omega
          have hz2 : z < 2 * j + 1 := by omega
          clear hz
          go_wp2
          go_round
          case rel => exact ⟨q + 1, by omega, by go_num⟩
          case measure => simp [intOf]; omega
        · go_wp2
          go_ret
          exact ⟨rfl, HW6.out⟩

theorem chain_walk (n : Int) (far : Bool) (w : World) (h : -9223372036854775808 ≤ n ∧ n ≤ 9223372036854775807) :
    Calls Try.prog 8 #[.int .i64 n, .bool far] w fun e w' => e = .returned (.bool true) ∧ Below w.heap.size w w' := by
  cases far
  · exact chain_false n w h
  · exact chain_true n w h
end Go.Proofs.Ytakhpibolhijoaa
