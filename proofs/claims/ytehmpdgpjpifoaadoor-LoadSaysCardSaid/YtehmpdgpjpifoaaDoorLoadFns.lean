/-
  load.pages, load.Pages, load.Quota, load.Page, facademake.Image: what they answer.
-/
import Derived.Test.YtehmpdgpjpifoaaDoorLaw
import Derived.Laws.CopyOwn
import Derived.BigQuiet
import Derived.Deep.RegionWith
import Derived.Deep.RegionHeld3
namespace Go.Proofs.YtehmpdgpjpifoaaDoor
open Go.RowKit

/-- how many pages n words take -/
def pg (n : Nat) : Nat := (n + 15) / 16

set_option maxHeartbeats 400000 in
theorem pages_any (ao : Option Addr) (n cap : Nat) (w : World) (hn : n ≤ 100000) :
    Calls Tryd.prog 32 #[.slice ao n cap] w fun e w' => e = .returned (.int .i64 (pg n : Nat)) ∧ w = w' := by
  have h1 := IntWalk.i64_in ((n : Int) + 16) (by omega)
  have h2 := IntWalk.i64_in ((n : Int) + 16 - 1) (by omega)
  have h3 : ((n : Int) + 16 - 1) / 16 = (pg n : Nat) := by unfold pg; omega
  go_enter Tryd.func32, Tryd.ntmps32
  go_wp2
  go_ret
  refine ⟨?_, rfl⟩
  show Ending.returned (Value.int .i64 (((n : Int) + 16 - 1) / 16)) = _
  rw [h3]

/-- the words of page number at -/
def pageWords (l : List Int) (at_ : Nat) : List Int := (l.drop (at_ * 16)).take 16 ++ List.replicate (16 - ((l.drop (at_ * 16)).take 16).length) 0

set_option maxHeartbeats 400000 in
theorem quota_any (e : Int) (ao ac : Option Addr) (n cap m cap2 : Nat) (rv pv sv : Value) (w : World) (hn : n ≤ 100000) :
    Calls Tryd.prog 23 #[.agg #[.int .u32 e, .slice ao n cap, .slice ac m cap2, rv, pv, sv]] w fun e w' => e = .returned (.int .i64 (17 + (pg n : Nat))) ∧ Below w.heap.size w w' := by
  have hp : pg n ≤ 100000 := by unfold pg; omega
  go_enter Tryd.func23, Tryd.ntmps23
  go_wp2_with fail
  refine (pages_any _ _ _ _ hn).mono ?_
  rintro e w1 ⟨rfl, rfl⟩
  go_wp2
  go_ret
  exact ⟨rfl, by repeat (first | exact Below.refl _ _ | refine Below.alloc ?_ (by simp) _)⟩

theorem first_true (w : World) : Calls Tryd.prog 6 #[] w fun e w' => e = .returned (.bool true) ∧ Below w.heap.size w w' := by
  go_enter Tryd.func6, Tryd.ntmps6
  go_wp2_with fail
  refine (quota_any _ _ _ _ _ _ _ _ _ _ _ (by decide)).mono ?_
  rintro e w1 ⟨rfl, hb⟩
  go_wp2
  go_ret
  exact ⟨rfl, hb⟩

set_option maxHeartbeats 1000000 in
theorem image_any (e : Int) (d c r p s : Nat) (a1 a2 a3 a4 a5 : Option Addr) (k1 k2 k3 k4 k5 : Nat) (x : Int) (w : World) :
    Calls Tryd.prog 11 #[.agg #[.int .u32 e, .slice a1 d k1, .slice a2 c k2, .slice a3 r k3, .slice a4 p k4, .slice a5 s k5], .int .i64 x] w fun e w' => e = .returned (.bool (decide ((d : Int) ≤ x) && decide ((c : Int) ≤ x) && decide ((r : Int) ≤ x) && decide ((p : Int) ≤ x) && decide ((s : Int) ≤ x))) ∧ Below w.heap.size w w' := by
  obtain ⟨b1, h1⟩ : ∃ b, decide ((d : Int) ≤ x) = b := ⟨_, rfl⟩
  obtain ⟨b2, h2⟩ : ∃ b, decide ((c : Int) ≤ x) = b := ⟨_, rfl⟩
  obtain ⟨b3, h3⟩ : ∃ b, decide ((r : Int) ≤ x) = b := ⟨_, rfl⟩
  obtain ⟨b4, h4⟩ : ∃ b, decide ((p : Int) ≤ x) = b := ⟨_, rfl⟩
  obtain ⟨b5, h5⟩ : ∃ b, decide ((s : Int) ≤ x) = b := ⟨_, rfl⟩
  rw [h1, h2, h3, h4, h5]
  go_enter Tryd.func11, Tryd.ntmps11
  cases b1 <;> cases b2 <;> cases b3 <;> cases b4 <;> cases b5
  all_goals
    go_wp2
    go_ret
    exact ⟨rfl, by repeat (first | exact Below.refl _ _ | refine Below.alloc ?_ (by simp) _)⟩
end Go.Proofs.YtehmpdgpjpifoaaDoor
