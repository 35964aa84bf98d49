/-
  load.Pages.
-/
import Derived.Test.YtehmpdgpjpifoaaDoorLoadFns
namespace Go.Proofs.YtehmpdgpjpifoaaDoor
open Go.RowKit

set_option maxRecDepth 100000 in
set_option maxHeartbeats 400000 in
theorem Pages_any (e : Int) (ao ac : Option Addr) (n cap m cap2 : Nat) (rv pv sv : Value) (w : World) (hn : n ≤ 100000) (hm : m ≤ 100000) :
    Calls Tryd.prog 17 #[.agg #[.int .u32 e, .slice ao n cap, .slice ac m cap2, rv, pv, sv]] w fun e w' => e = .returned (.tuple #[.int .i64 (pg n : Nat), .int .i64 (pg m : Nat)]) ∧ Below w.heap.size w w' := by
  go_enter Tryd.func17, Tryd.ntmps17
  go_wp2_with fail
  go_quiet ((go_at_call 32; first | exact Calls.quiet_of_same ((pages_any ao n cap _ hn).mono fun e w' h => ⟨h.1, h.2.symm⟩) | exact Calls.quiet_of_same ((pages_any ac m cap2 _ hm).mono fun e w' h => ⟨h.1, h.2.symm⟩)))
  go_wp2
  go_ret2
  exact ⟨rfl, below_drewN (by repeat (first | exact Below.refl _ _ | refine Below.alloc ?_ (by simp) _)) _⟩
end Go.Proofs.YtehmpdgpjpifoaaDoor
