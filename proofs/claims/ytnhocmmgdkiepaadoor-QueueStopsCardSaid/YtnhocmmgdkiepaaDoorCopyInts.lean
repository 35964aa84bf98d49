/-
  facaderef.Ints: a copy, in new memory.
-/
import Derived.Test.YtnhocmmgdkiepaaDoorRows
import Derived.Test.YtnhocmmgdkiepaaDoorLists
namespace Go.Proofs.YtnhocmmgdkiepaaDoor
open Go.RowKit

theorem infoInts : (Tryd.prog.info? 3).map (fun i => (i.zero, i.size, i.bytes)) = some (some (.int .i64 0), 1, 8) := by kernel_rfl

/-- the first k are copied -/
def CopyIntsTo (xs : List Int) (w : World) (v i : Value) (wr : World) : Prop :=
  ∃ k : Nat, k ≤ xs.length ∧ i = .int .i64 k ∧ wr.ownsRow 0 3 1 v k (ints (xs.take k)) ∧ (∀ j, inRow v j → w.heap.size ≤ j) ∧ Below w.heap.size w wr ∧ ∃ ao cap, v = .slice ao k cap

set_option maxHeartbeats 800000 in
theorem copyInts_any (ao : Option Addr) (c1 : Nat) (xs : List Int) (w : World) (hr : AtL w ao (ints xs)) (hn : xs.length ≤ 1000000000) :
    Calls Tryd.prog 123 #[.slice ao xs.length c1] w fun e w' => ∃ v', e = .returned v' ∧ w'.ownsRow 0 3 1 v' xs.length (ints xs) ∧ (∀ k, inRow v' k → w.heap.size ≤ k) ∧ Below w.heap.size w w' := by
  obtain ⟨i0, hi, hz0, hz1, hz2⟩ := info_parts infoInts
  have HC := Lib.hid hr
  clear hr
  go_enter Tryd.func123, Tryd.ntmps123
  go_wp2_with (at_make; refine wpList_make_own _ rfl _ _ 35 rfl 0 3 i0 (.int .i64 0) 1 Tryd.underlying35 hi hz0 hz1 _ _ _ xs.length rfl rfl rfl (by rw [hz2]; omega) (by unfold maxLen; omega) (Nat.zero_le _) ?_)
  intro w1 ho hg
  have hO0 : Below w.heap.size w w1 := (Below.refl _ _).grown hg (Nat.le_refl _) (fun k hk => by cases hk)
  have HO := Lib.hid ho
  have HB := Lib.hid hO0
  clear ho hg hO0
  go_wp2_with fail
  go_loopw [3, 4] (fun v i wr => CopyIntsTo xs w v i wr) (fun _ i _ => xs.length - (intOf i).toNat)
  case atStart => exact ⟨0, Nat.zero_le _, rfl, HO.out, fun j hj => by simp [inRow, Value.ownBlock] at hj; omega, HB.out, _, _, rfl⟩
  case round =>
    obtain ⟨k, hk, rfl, hown, hf, hbw, ao', cap', rfl⟩ := hrel
    by_cases hlt : k < xs.length
    · obtain ⟨b, off, rfl, hcell, hbl⟩ := HC.out k _ (ints_get xs k hlt)
      have cr : wr.cell? ⟨b, off + k, none⟩ = some (.int .i64 (xs.getD k 0)) := (hbw.cell (p := ⟨b, off + k, none⟩) hbl).trans hcell
      obtain ⟨z, hz⟩ : ∃ z, xs.getD k 0 = z := ⟨_, rfl⟩
      rw [hz] at cr
      have HZ := Lib.hid hz
      have HF := Lib.hid hf
      have HW := Lib.hid hbw
      clear hz hcell hf hbw
      go_wp2_with (at_builtin; refine wpList_append_sep _ rfl _ _ 35 rfl 3 i0 (.int .i64 0) 1 8 Tryd.underlying35 hi hz0 hz1 hz2 rfl (by decide) _ _ _ rfl (hown.alloc _) ⟨wr.heap.size, 0, none⟩ 1 1 [.int .i64 z] rfl rfl (cell_one_new _ _ _) (by simp [Value.oneCell']) (by unfold maxLen; omega) (by omega) ?_)
      intro v' w2 ho2 hg2 hs2
      obtain ⟨ao2, cap2, rfl⟩ := own_slice ho2
      have e1 : ints (xs.take (k + 1)) = ints (xs.take k) ++ [.int .i64 z] := by
        rw [ints_take xs k hlt, HZ.out]
      rw [← e1] at ho2
      have hw2 : Below w.heap.size w w2 := (HW.out.alloc HW.out.size _).grown hg2 (by have := HW.out.size; simp; omega) (fun j hj => HF.out j hj)
      have HO2 := Lib.hid ho2
      have HW2 := Lib.hid hw2
      have HF2 := Lib.hid (show ∀ j, inRow (.slice ao2 (k + 1) cap2) j → w.heap.size ≤ j from fun j hj => by
        rcases hs2 j hj with h | h
        · exact HF.out j h
        · exact Nat.le_trans HW.out.size (Nat.le_trans (by simp) h))
      clear ho2 hg2 hs2 e1 hw2 hown
      go_wp2
      go_roundw
      case rel => exact ⟨k + 1, by omega, by go_num, HO2.out, HF2.out, HW2.out, _, _, rfl⟩
      case measure => simp [intOf]; omega
    · obtain rfl : k = xs.length := by omega
      have HO2 := Lib.hid hown
      have HF2 := Lib.hid hf
      have HW2 := Lib.hid hbw
      clear hown hf hbw
      go_wp2
      go_ret
      have := HO2.out
      rw [List.take_length] at this
      exact ⟨_, rfl, this, HF2.out, HW2.out⟩
end Go.Proofs.YtnhocmmgdkiepaaDoor
