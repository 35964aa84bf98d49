/-
  The first check of chapter 20.
-/
import Derived.Test.YtmeljclaocgoaaaDoorGrSet
import Derived.Test.YtmeljclaocgoaaaDoorGrMap
namespace Go.Proofs.YtmeljclaocgoaaaDoor
open Go.RowKit

def none16 : List Gr := List.replicate 16 {}
theorem gr_zero : Tryd.zeroCells59 = (grCells none16).toArray := by kernel_rfl
theorem gr_new (w : World) : GAt (w.alloc (.cells Tryd.zeroCells59 59)) w.heap.size none16 := ⟨by rw [gr_zero]; exact blk_new _ _, rfl⟩

set_option maxRecDepth 100000 in
set_option maxHeartbeats 1000000 in
theorem gr_first (E : Nat → Addr) (w : World) (hE : ErrsAt errT gOf w E all16) : Calls Tryd.prog 32 #[] w fun e w' => e = .returned (.bool true) ∧ Below w.heap.size w w' := by
  have HG := Lib.hid (gr_new w)
  have HB := Lib.hid (show Below w.heap.size w (w.alloc (.cells Tryd.zeroCells59 59)) from (Below.refl _ _).alloc (Nat.le_refl _) _)
  have HE := Lib.hid (hE.mono HB.out)
  clear hE
  go_enter Tryd.func32, Tryd.ntmps32
  go_wp2_with fail
  refine (revoke_none E _ _ _ _ HE.out HG.out (by decide +kernel)).mono ?_
  rintro e w1 ⟨rfl, rfl⟩
  go_wp2_with fail
  refine (is_any E (errV (E 6)) 107 107 (.inr ⟨6, by decide, rfl, rfl⟩) _ HE.out).mono ?_
  rintro e w1 ⟨rfl, hb1⟩
  have HG1 := Lib.hid (HG.out.below hb1)
  have HB1 := Lib.hid (HB.out.trans (hb1.mono HB.out.size))
  clear hb1
  go_wp2_with fail
  refine (set_new none16 _ 0 5 1 true _ HG1.out (by decide) (by decide) (by decide) (by decide) (by decide) (by decide +kernel)).mono ?_
  rintro e w2 ⟨rfl, -, ho⟩
  have HB2 := Lib.hid (HB1.out.trans (ho.below (B := w.heap.size) HB1.out.size (fun k hk => by subst hk; exact Nat.le_refl _)))
  clear ho
  go_wp2
  go_ret
  exact ⟨rfl, HB2.out⟩
end Go.Proofs.YtmeljclaocgoaaaDoor
