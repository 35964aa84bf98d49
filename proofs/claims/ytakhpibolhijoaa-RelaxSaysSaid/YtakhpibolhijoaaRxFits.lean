/-
  relax.fits: does a branch fit as items stand?
-/
import Derived.Test.YtakhpibolhijoaaRxBase
namespace Go.Proofs.Ytakhpibolhijoaa
open Go.RowKit

set_option maxHeartbeats 1000000 in
theorem fits_any (l : List Rx.It) (p : List Int) (i : Nat) (ao ap : Option Addr) (c1 c2 : Nat) (w : World) (hl : AtIt w ao l) (hp : AtL w ap (ints p)) (hi : i < l.length)
    (hx0 : 0 ≤ (l.getD i default).to_) (hx1 : (l.getD i default).to_ < p.length) (hip : i < p.length) (hb : ∀ j, j < p.length → 0 ≤ p.getD j 0 ∧ p.getD j 0 ≤ 1000000000) (hl2 : l.length ≤ 100000) :
    Calls Try.prog 24 #[.slice ao l.length c1, .slice ap p.length c2, .int .i64 i] w fun e w' => e = .returned (.bool (!Rx.bad (Rx.gap p (l.getD i default) i))) ∧ Below w.heap.size w w' := by
  obtain ⟨b, off, rfl, -, -, ct, -⟩ := hl i hi
  obtain ⟨t, ht⟩ : ∃ t : Nat, (l.getD i default).to_ = (t : Int) := ⟨_, (Int.toNat_of_nonneg hx0).symm⟩
  rw [ht] at hx0 hx1 ct
  have htp : t < p.length := by omega
  obtain ⟨d, q, rfl, e1, -⟩ := hp t _ (ints_get p t htp)
  obtain ⟨d', q', he, e2, -⟩ := hp i _ (ints_get p i hip)
  cases he
  have bu := hb t htp
  have bv := hb i hip
  obtain ⟨u, hu⟩ : ∃ u, p.getD t 0 = u := ⟨_, rfl⟩
  obtain ⟨v, hv⟩ : ∃ v, p.getD i 0 = v := ⟨_, rfl⟩
  have hg : Rx.gap p (l.getD i default) i = u - v := by unfold Rx.gap; rw [ht, Int.toNat_natCast, hu, hv]
  rw [hg]
  rw [hu] at bu e1
  rw [hv] at bv e2
  have w1 := IntWalk.i64_in (u - v) (by omega)
  have f1 : (i : Int) < (l.length : Int) := by omega
  have f2 : (i : Int) < (p.length : Int) := by omega
  have f3 : (t : Int) < (p.length : Int) := by omega
  clear hl hp hb hu hv hg ht bu bv
  by_cases k1 : -128 ≤ u - v
  · by_cases k2 : u - v ≤ 127
    · have HG := Lib.hid (Rx.bad_no k1 k2)
      go_enter Try.func24, Try.ntmps24
      go_wp2_with fail
      go_quiet (fail)
      go_wp2
      go_ret
      exact ⟨ret_bool HG.out.symm, below_drewN (Below.refl _ _) _⟩
    · have HG := Lib.hid (Rx.bad_high k2)
      go_enter Try.func24, Try.ntmps24
      go_wp2_with fail
      go_quiet (fail)
      go_wp2
      go_ret
      exact ⟨ret_bool (by rw [HG.out, decide_eq_false_iff_not]; omega), below_drewN (Below.refl _ _) _⟩
  · have HG := Lib.hid (Rx.bad_low k1)
    go_enter Try.func24, Try.ntmps24
    go_wp2_with fail
    go_quiet (fail)
    go_wp2
    go_ret
    exact ⟨ret_bool HG.out.symm, below_drewN (Below.refl _ _) _⟩
end Go.Proofs.Ytakhpibolhijoaa
