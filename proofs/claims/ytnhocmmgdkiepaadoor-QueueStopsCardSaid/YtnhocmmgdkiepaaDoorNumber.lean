/-
  facadeworld.Number: any number as one from 0 to below a bound.
-/
import Derived.Test.YtnhocmmgdkiepaaDoorRows
import Derived.Test.YtnhocmmgdkiepaaDoorLists
namespace Go.Proofs.YtnhocmmgdkiepaaDoor
open Go.RowKit

set_option maxHeartbeats 400000 in
theorem number_any (n m : Int) (w : World) (h1 : -9223372036854775808 ≤ n) (h2 : n ≤ 9223372036854775807) (hm : 0 < m) (hm2 : m ≤ 1000000000) :
    Calls Tryd.prog 13 #[.int .i64 n, .int .i64 m] w fun e w' => e = .returned (.int .i64 (n % m)) ∧ w = w' := by
  by_cases hn : 0 ≤ n
  · have h3 := Int.emod_nonneg n (show m ≠ 0 by omega)
    have h4 : ¬ n % m < 0 := by omega
    go_enter Tryd.func13, Tryd.ntmps13
    go_wp2
    go_ret
    exact ⟨rfl, rfl⟩
  · obtain ⟨h3, h4, h5, h6⟩ := emod_of_tmod (show n < 0 by omega) hm
    obtain ⟨t, ht⟩ : ∃ t, n.tmod m = t := ⟨_, rfl⟩
    rw [ht] at h3 h4 h5 h6
    have H3 := Lib.hid h3
    have H4 := Lib.hid h4
    have hw := IntWalk.i64_in (t + m) (by omega)
    clear h3 h4
    by_cases hlt : t < 0
    · go_enter Tryd.func13, Tryd.ntmps13
      go_wp2
      go_ret
      exact ⟨by rw [← H3.out hlt]; rfl, rfl⟩
    · go_enter Tryd.func13, Tryd.ntmps13
      go_wp2
      go_ret
      exact ⟨by rw [← H4.out hlt]; rfl, rfl⟩
end Go.Proofs.YtnhocmmgdkiepaaDoor
