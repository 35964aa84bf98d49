/-
  info: is there a word that is not 0?
-/
import Derived.Test.YtmeljclaocgoaaaDoorInf
namespace Go.Proofs.YtmeljclaocgoaaaDoor
open Go.RowKit

abbrev nzF : Value := .func (.func 67) #[] #[]
def nzIs (xs : List Int) : Bool := xs.any fun x => x != 0
theorem nz_any (x : Int) (w : World) : Calls Tryd.prog 67 #[.int .u32 x] w fun e w' => e = .returned (.bool (x != 0)) ∧ w = w' := by
  go_enter Tryd.func67, Tryd.ntmps67
  go_wp2
  go_ret
  exact ⟨rfl, rfl⟩

def NzTo (xs : List Int) (i : Value) : Prop := ∃ k : Nat, k ≤ xs.length ∧ i = .int .i64 k ∧ nzIs (xs.take k) = false
theorem take_nz (xs : List Int) (k : Nat) (h : k < xs.length) : nzIs (xs.take (k + 1)) = (nzIs (xs.take k) || (xs.getD k 0 != 0)) := by
  unfold nzIs
  rw [List.take_succ_eq_append_getElem h, List.any_append, List.getD_eq_getElem?_getD, List.getElem?_eq_getElem h]
  simp
theorem nz_of {xs : List Int} {k : Nat} (h : k < xs.length) (hx : (xs.getD k 0 != 0) = true) : nzIs xs = true := by
  unfold nzIs
  rw [List.any_eq_true]
  exact ⟨xs.getD k 0, by rw [List.getD_eq_getElem?_getD, List.getElem?_eq_getElem h]; exact List.getElem_mem _, hx⟩
set_option maxHeartbeats 800000 in
theorem indexFunc_nz (xs : List Int) (n c : Nat) (ao : Option Addr) (w : World) (hx : AtL w ao (u32s xs)) (hn : xs.length = n) (h : n ≤ 1000) :
    Calls Tryd.prog 82 #[.slice ao n c, nzF] w fun e w' => ∃ r, e = .returned (.int .i64 r) ∧ decide (0 ≤ r) = nzIs xs ∧ w = w' := by
  subst hn
  have HX := Lib.hid hx
  clear hx
  go_enter Tryd.func82, Tryd.ntmps82
  go_wp2_with fail
  go_loop [8] (fun i => NzTo xs i) (fun i => xs.length - (intOf i).toNat)
  case atStart => exact ⟨0, Nat.zero_le _, rfl, rfl⟩
  case round =>
    obtain ⟨k, hk, rfl, hno⟩ := hrel
    have HNO := Lib.hid hno
    clear hno
    by_cases hlt : k < xs.length
    · obtain ⟨b, off, rfl, c0, -⟩ := HX.out k _ (u32s_get xs k hlt)
      have hki : (k : Int) < (xs.length : Int) := by omega
      obtain ⟨z, hz⟩ : ∃ z, xs.getD k 0 = z := ⟨_, rfl⟩
      rw [hz] at c0
      have HZ := Lib.hid hz
      clear hz
      go_wp2_with fail
      refine (nz_any z _).mono ?_
      rintro e w1 ⟨rfl, rfl⟩
      cases hz : (z != 0)
      · have HZ0 := Lib.hid hz
        clear hz
        go_wp2
        go_round
        case rel => exact ⟨k + 1, by omega, by go_num, by rw [take_nz xs k hlt, HNO.out, HZ.out, HZ0.out]; rfl⟩
        case measure => simp [intOf]; omega
      · have HZ0 := Lib.hid hz
        clear hz
        go_wp2
        go_ret
        exact ⟨k, rfl, by rw [nz_of hlt (by rw [HZ.out]; exact HZ0.out)]; simp, rfl⟩
    · obtain rfl : k = xs.length := by omega
      go_wp2
      go_ret
      have := HNO.out
      rw [List.take_length] at this
      exact ⟨-1, rfl, by rw [this]; rfl, rfl⟩
set_option maxHeartbeats 400000 in
theorem containsFunc_nz (xs : List Int) (n c : Nat) (ao : Option Addr) (w : World) (hx : AtL w ao (u32s xs)) (hn : xs.length = n) (h : n ≤ 1000) :
    Calls Tryd.prog 66 #[.slice ao n c, nzF] w fun e w' => e = .returned (.bool (nzIs xs)) ∧ w = w' := by
  have HX := Lib.hid hx
  clear hx
  go_enter Tryd.func66, Tryd.ntmps66
  go_wp2_with fail
  refine (indexFunc_nz xs n c ao _ HX.out hn h).mono ?_
  rintro e w1 ⟨r, rfl, hr, rfl⟩
  have HR := Lib.hid hr
  clear hr
  go_wp2
  go_ret
  exact ⟨ret_bool HR.out, rfl⟩
end Go.Proofs.YtmeljclaocgoaaaDoor
