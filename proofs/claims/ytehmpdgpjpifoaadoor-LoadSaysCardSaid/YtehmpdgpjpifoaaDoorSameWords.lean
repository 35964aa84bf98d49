/-
  facaderef.SameWords: are two lists the same?
-/
import Derived.Test.YtehmpdgpjpifoaaDoorRows
import Derived.Test.YtehmpdgpjpifoaaDoorLists
import Derived.BigQuiet
namespace Go.Proofs.YtehmpdgpjpifoaaDoor
open Go.RowKit

/-- the first k are the same -/
def SameWordsTo (xs ys : List Int) (w : World) (i : Value) (wr : World) : Prop := ∃ k : Nat, k ≤ xs.length ∧ i = .int .i64 k ∧ xs.take k = ys.take k ∧ ∃ n, wr = w.drewN n

set_option maxHeartbeats 800000 in
theorem sameWords_any (xs ys : List Int) (ao bo : Option Addr) (c1 c2 : Nat) (w : World) (hx : AtL w ao (u32s xs)) (hy : AtL w bo (u32s ys)) (hl : xs.length ≤ 1000000000) (hl2 : ys.length ≤ 1000000000) :
    Calls Tryd.prog 25 #[.slice ao xs.length c1, .slice bo ys.length c2] w fun e w' => e = .returned (.bool (decide (xs = ys))) ∧ ∃ n, w' = w.drewN n := by
  by_cases hlen : xs.length = ys.length
  · have HX := Lib.hid hx
    have HY := Lib.hid hy
    have HLEN := Lib.hid hlen
    rw [← HLEN.out]
    clear hx hy hlen
    go_enter Tryd.func25, Tryd.ntmps25
    go_wp2_with fail
    go_loopw [5] (fun i wr => SameWordsTo xs ys w i wr) (fun i _ => xs.length - (intOf i).toNat)
    case atStart => exact ⟨0, Nat.zero_le _, rfl, rfl, 0, rfl⟩
    case round =>
      obtain ⟨k, hk, rfl, hs, n, rfl⟩ := hrel
      have HS := Lib.hid hs
      clear hs
      by_cases hlt : k < xs.length
      · have hlt2 : k < ys.length := by have := HLEN.out; omega
        obtain ⟨b, o, rfl, p0, hb⟩ := HX.out k _ (u32s_get xs k hlt)
        obtain ⟨b2, o2, rfl, q0, hb2⟩ := HY.out k _ (u32s_get ys k hlt2)
        obtain ⟨x, hx⟩ : ∃ x, xs.getD k 0 = x := ⟨_, rfl⟩
        obtain ⟨y, hy⟩ : ∃ y, ys.getD k 0 = y := ⟨_, rfl⟩
        rw [hx] at p0
        rw [hy] at q0
        have HXE := Lib.hid hx
        have HYE := Lib.hid hy
        have hki : (k : Int) < (xs.length : Int) := by omega
        clear hx hy
        by_cases hxy : x = y
        · have hbq : (x == y) = true := by simp [hxy]
          have HXY := Lib.hid hxy
          clear hxy
          go_wp2_with fail
          go_quiet (fail)
          go_wp2
          go_roundw
          case rel => exact ⟨k + 1, by omega, by go_num, take_eq 0 hlt hlt2 HS.out (by rw [HXE.out, HYE.out, HXY.out]), n + nq, rfl⟩
          case measure => simp [intOf]; omega
        · have hbq : (x == y) = false := by simp [hxy]
          have HXY := Lib.hid hxy
          clear hxy
          go_wp2_with fail
          go_quiet (fail)
          go_wp2
          go_ret
          refine ⟨ret_bool ?_, n + nq, rfl⟩
          symm
          rw [decide_eq_false_iff_not]
          intro h
          subst h
          exact HXY.out (HXE.out.symm.trans HYE.out)
      · obtain rfl : k = xs.length := by omega
        go_wp2
        go_ret
        refine ⟨ret_bool ?_, n, rfl⟩
        symm
        rw [decide_eq_true_eq]
        have := HS.out
        rwa [List.take_length, List.take_of_length_le (by rw [HLEN.out]; exact Nat.le_refl _)] at this
  · have hne : ((xs.length : Int) != (ys.length : Int)) = true := by rw [bne_iff_ne]; omega
    have HLEN := Lib.hid hlen
    clear hlen hx hy
    go_enter Tryd.func25, Tryd.ntmps25
    go_wp2
    go_ret
    refine ⟨ret_bool ?_, 0, rfl⟩
    symm
    rw [decide_eq_false_iff_not]
    intro h
    exact HLEN.out (by rw [h])
end Go.Proofs.YtehmpdgpjpifoaaDoor
