/-
  LoadPages: the other way; both joined.
-/
import Derived.Test.YtehmpdgpjpifoaaLoadPages
import Derived.Test.YtehmpdgpjpifoaaImage
namespace Go.Proofs.Ytehmpdgpjpifoaa
open Go.RowKit

set_option maxHeartbeats 2000000 in
theorem lp_bad (e page : Int) (d c r p s : Nat) (a1 a2 a3 a4 a5 : Option Addr) (k1 k2 k3 k4 k5 : Nat) (w : World) (h : ¬ (d ≤ 300 ∧ c ≤ 300 ∧ r ≤ 300 ∧ p ≤ 300 ∧ s ≤ 300)) :
    Calls Try.prog 3 #[.agg #[.int .u32 e, .slice a1 d k1, .slice a2 c k2, .slice a3 r k3, .slice a4 p k4, .slice a5 s k5], .int .i64 page] w fun e w' => e = .returned (.bool true) ∧ Below w.heap.size w w' := by
  have hb0 : Below w.heap.size w (w.alloc (.cells #[.int .u32 e, .slice a1 d k1, .slice a2 c k2, .slice a3 r k3, .slice a4 p k4, .slice a5 s k5] 26)) := (Below.refl _ _).alloc (Nat.le_refl _) _
  have hbk := blk_new w (.cells #[.int .u32 e, .slice a1 d k1, .slice a2 c k2, .slice a3 r k3, .slice a4 p k4, .slice a5 s k5] 26)
  have HB0 := Lib.hid hb0
  have HBK := Lib.hid hbk
  have hall : (decide ((d : Int) ≤ 300) && decide ((c : Int) ≤ 300) && decide ((r : Int) ≤ 300) && decide ((p : Int) ≤ 300) && decide ((s : Int) ≤ 300)) = false := by
    rw [← Bool.not_eq_true]
    simp only [Bool.and_eq_true, decide_eq_true_eq]
    omega
  have HALL := Lib.hid hall
  clear hb0 hbk hall h
  go_enter Try.func3, Try.ntmps3
  go_wp2_with fail
  refine (first_true _).mono ?_
  rintro e1 w1 ⟨rfl, hb1⟩
  have HB1 := Lib.hid hb1
  have HK1 := Lib.hid (blk_below HBK.out hb1 (by simp))
  have HW : Hid (Below w.heap.size w w1) := Lib.hid (HB0.out.trans (HB1.out.mono (by simp)))
  have q0 := blk_cell HK1.out 0
  have q1 := blk_cell HK1.out 1
  have q2 := blk_cell HK1.out 2
  have q3 := blk_cell HK1.out 3
  have q4 := blk_cell HK1.out 4
  have q5 := blk_cell HK1.out 5
  clear hb1
  go_wp2_with fail
  refine (image_any _ _ _ _ _ _ _ _ _ _ _ _ _ _ _ _ _ _).mono ?_
  rintro e2 w2 ⟨rfl, hb2⟩
  rw [HALL.out]
  have HW2 := Lib.hid (HW.out.trans (hb2.mono HW.out.size))
  clear hb2
  go_wp2
  go_ret
  exact ⟨rfl, HW2.out⟩

theorem lp_walk (e page : Int) (l1 l2 l3 l4 l5 : List Int) (a1 a2 a3 a4 a5 : Option Addr) (k1 k2 k3 k4 k5 : Nat) (w : World) (hk : l1.length ≤ k1 ∧ l2.length ≤ k2) (h1 : AtL w a1 (u32s l1)) (h2 : AtL w a2 (u32s l2)) (hp : -9223372036854775808 ≤ page ∧ page ≤ 9223372036854775807) :
    Calls Try.prog 3 #[.agg #[.int .u32 e, .slice a1 l1.length k1, .slice a2 l2.length k2, .slice a3 l3.length k3, .slice a4 l4.length k4, .slice a5 l5.length k5], .int .i64 page] w fun e w' => e = .returned (.bool true) ∧ Below w.heap.size w w' := by
  by_cases h : l1.length ≤ 300 ∧ l2.length ≤ 300 ∧ l3.length ≤ 300 ∧ l4.length ≤ 300 ∧ l5.length ≤ 300
  · exact lp_some e page l1 l2 _ _ _ a1 a2 a3 a4 a5 k1 k2 k3 k4 k5 w h.1 h.2.1 h.2.2.1 h.2.2.2.1 h.2.2.2.2 hk.1 hk.2 hp.2 h1 h2
  · exact lp_bad e page _ _ _ _ _ a1 a2 a3 a4 a5 k1 k2 k3 k4 k5 w h
end Go.Proofs.Ytehmpdgpjpifoaa
