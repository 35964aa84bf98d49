/-
  InfoSays: for every info and words the call returns true.
-/
import Derived.Test.YtmeljclaocgoaaaDoorInf5
import Derived.Test.YtmeljclaocgoaaaDoorHeld
namespace Go.Proofs.YtmeljclaocgoaaaDoor
open Go.RowKit

set_option maxRecDepth 100000 in
set_option maxHeartbeats 40000000 in
theorem infoSays_good (p m t : Int) (on : Bool) (q f : Int) (xs : List Int) (c1 : Nat) (ao : Option Addr) (E : Nat → Addr) (w : World) (hE : ErrsAt errT gOf w E all16) (hr : AtL w ao (u32s xs)) (hz : ∀ z ∈ xs, 0 ≤ z ∧ z ≤ 4294967295) (hn : xs.length = 16) (hcap : 16 ≤ c1) (ht : ¬ t < 0) (hq : ¬ q < 0) (hf : ¬ f < 0) (hok : infOK xs = true) :
    Calls Tryd.prog 3 #[infV ⟨p, m, t, on, q, f⟩, .slice ao 16 c1] w fun e w' => e = .returned (.bool true) ∧ Below w.heap.size w w' := by
  have HR := Lib.hid hr
  have HZ := Lib.hid hz
  have HN := Lib.hid hn
  have HOK := Lib.hid hok
  obtain ⟨⟨ap, am, at_, ao_, aq, af⟩, hans⟩ : ∃ r, infOf xs = r := ⟨_, rfl⟩
  have HANS : Hid (infOf xs = ⟨ap, am, at_, ao_, aq, af⟩) := Lib.hid hans
  have HAN2 : Hid (ofAns xs = .tuple #[infV ⟨ap, am, at_, ao_, aq, af⟩, .bool true]) := Lib.hid (by unfold ofAns; rw [hans, hok])
  clear hr hz hn hok hans hE
  go_enter Tryd.func3, Tryd.ntmps3
  go_wp2_with fail
  refine (inf_first _).mono ?_
  rintro e w1 ⟨rfl, hb1⟩
  have hbk : w1.heap[w.heap.size]? = some (.cells #[.int .u32 p, .int .u32 m, .int .i64 t, .bool on, .int .i64 q, .int .i64 f] 24 (0, 0)) := by
    rw [hb1.block _ (by simp)]
    exact blk_new w _
  have hw1 : w.heap.size < w1.heap.size := blk_lt hbk
  have HBK := Lib.hid hbk
  have p2 := blk_cell hbk 2
  have p4 := blk_cell hbk 4
  have p5 := blk_cell hbk 5
  have HB1 : Hid (Below w.heap.size w w1) := Lib.hid (((Below.refl _ _).alloc (Nat.le_refl _) (.cells #[.int .u32 p, .int .u32 m, .int .i64 t, .bool on, .int .i64 q, .int .i64 f] 24)).trans (hb1.mono (by simp)))
  clear hb1 hbk
  go_wp2_with fail
  refine (of_good xs c1 ao _ (HR.out.mono HB1.out) hcap HZ.out HOK.out).mono ?_
  rintro e w2 ⟨rfl, hb2⟩
  rw [HANS.out]
  have hw2 : w1.heap.size ≤ w2.heap.size := hb2.size
  have HB2 : Hid (Below w.heap.size w w2) := Lib.hid (HB1.out.trans (hb2.mono HB1.out.size))
  have HBK2 : Hid (w2.heap[w.heap.size]? = some (.cells #[.int .u32 p, .int .u32 m, .int .i64 t, .bool on, .int .i64 q, .int .i64 f] 24 (0, 0))) := Lib.hid (by rw [hb2.block _ hw1]; exact HBK.out)
  clear hb2 p2 p4 p5
  go_wp2_with fail
  refine (ofi_any xs 16 c1 ao _ (HR.out.mono (HB2.out.alloc HB2.out.size _)) hcap HZ.out HN.out).mono ?_
  rintro e w3 ⟨rfl, hb3⟩
  rw [HAN2.out]
  have hbk2 : w3.heap[w2.heap.size]? = some (.cells #[.int .u32 ap, .int .u32 am, .int .i64 at_, .bool ao_, .int .i64 aq, .int .i64 af] 24 (0, 0)) := by
    rw [hb3.block _ (by simp)]
    exact blk_new w2 _
  have hbk1 : w3.heap[w.heap.size]? = some (.cells #[.int .u32 p, .int .u32 m, .int .i64 t, .bool on, .int .i64 q, .int .i64 f] 24 (0, 0)) := by
    rw [hb3.block _ (by simp; omega), ((Below.refl w2.heap.size w2).alloc (Nat.le_refl _) (.cells #[.int .u32 ap, .int .u32 am, .int .i64 at_, .bool ao_, .int .i64 aq, .int .i64 af] 24)).block _ (by omega)]
    exact HBK2.out
  have hw3 : w2.heap.size < w3.heap.size := blk_lt hbk2
  have HB3 : Hid (Below w.heap.size w w3) := Lib.hid ((HB2.out.alloc HB2.out.size (.cells #[.int .u32 ap, .int .u32 am, .int .i64 at_, .bool ao_, .int .i64 aq, .int .i64 af] 24)).trans (hb3.mono (by have := HB2.out.size; simp; omega)))
  have HW8 : Hid (Below w.heap.size w (w3.alloc (.cells #[.int .u32 ap, .int .u32 am, .int .i64 at_, .bool ao_, .int .i64 aq, .int .i64 af] 31))) := Lib.hid (HB3.out.alloc HB3.out.size _)
  have HK : Hid (∀ wx, Below (w3.alloc (.cells #[.int .u32 ap, .int .u32 am, .int .i64 at_, .bool ao_, .int .i64 aq, .int .i64 af] 31)).heap.size (w3.alloc (.cells #[.int .u32 ap, .int .u32 am, .int .i64 at_, .bool ao_, .int .i64 aq, .int .i64 af] 31)) wx → Below (w3.alloc (.cells #[.int .u32 ap, .int .u32 am, .int .i64 at_, .bool ao_, .int .i64 aq, .int .i64 af] 31)).heap.size (w3.alloc (.cells #[.int .u32 ap, .int .u32 am, .int .i64 at_, .bool ao_, .int .i64 aq, .int .i64 af] 31)) wx ∧ wx.cell? ⟨w.heap.size, 0, none⟩ = some (.int .u32 p) ∧ wx.cell? ⟨w.heap.size, 1, none⟩ = some (.int .u32 m) ∧ wx.cell? ⟨w.heap.size, 2, none⟩ = some (.int .i64 t) ∧ wx.cell? ⟨w.heap.size, 3, none⟩ = some (.bool on) ∧ wx.cell? ⟨w.heap.size, 4, none⟩ = some (.int .i64 q) ∧ wx.cell? ⟨w.heap.size, 5, none⟩ = some (.int .i64 f) ∧ wx.cell? ⟨w2.heap.size, 0, none⟩ = some (.int .u32 ap) ∧ wx.cell? ⟨w2.heap.size, 1, none⟩ = some (.int .u32 am) ∧ wx.cell? ⟨w2.heap.size, 2, none⟩ = some (.int .i64 at_) ∧ wx.cell? ⟨w2.heap.size, 3, none⟩ = some (.bool ao_) ∧ wx.cell? ⟨w2.heap.size, 4, none⟩ = some (.int .i64 aq) ∧ wx.cell? ⟨w2.heap.size, 5, none⟩ = some (.int .i64 af) ∧ wx.cell? ⟨w3.heap.size, 0, none⟩ = some (.int .u32 ap) ∧ wx.cell? ⟨w3.heap.size, 1, none⟩ = some (.int .u32 am) ∧ wx.cell? ⟨w3.heap.size, 2, none⟩ = some (.int .i64 at_) ∧ wx.cell? ⟨w3.heap.size, 3, none⟩ = some (.bool ao_) ∧ wx.cell? ⟨w3.heap.size, 4, none⟩ = some (.int .i64 aq) ∧ wx.cell? ⟨w3.heap.size, 5, none⟩ = some (.int .i64 af)) := Lib.hid fun wx h => by
    have h1 : wx.heap[w.heap.size]? = some (.cells #[.int .u32 p, .int .u32 m, .int .i64 t, .bool on, .int .i64 q, .int .i64 f] 24 (0, 0)) := by
      rw [h.block _ (by simp; omega), ((Below.refl w3.heap.size w3).alloc (Nat.le_refl _) (.cells #[.int .u32 ap, .int .u32 am, .int .i64 at_, .bool ao_, .int .i64 aq, .int .i64 af] 31)).block _ (by omega)]
      exact hbk1
    have h2 : wx.heap[w2.heap.size]? = some (.cells #[.int .u32 ap, .int .u32 am, .int .i64 at_, .bool ao_, .int .i64 aq, .int .i64 af] 24 (0, 0)) := by
      rw [h.block _ (by simp; omega), ((Below.refl w3.heap.size w3).alloc (Nat.le_refl _) (.cells #[.int .u32 ap, .int .u32 am, .int .i64 at_, .bool ao_, .int .i64 aq, .int .i64 af] 31)).block _ (by omega)]
      exact hbk2
    have h3 : wx.heap[w3.heap.size]? = some (.cells #[.int .u32 ap, .int .u32 am, .int .i64 at_, .bool ao_, .int .i64 aq, .int .i64 af] 31 (0, 0)) := by
      rw [h.block _ (by simp)]
      exact blk_new w3 _
    exact ⟨h, blk_cell h1 0, blk_cell h1 1, blk_cell h1 2, blk_cell h1 3, blk_cell h1 4, blk_cell h1 5, blk_cell h2 0, blk_cell h2 1, blk_cell h2 2, blk_cell h2 3, blk_cell h2 4, blk_cell h2 5, blk_cell h3 0, blk_cell h3 1, blk_cell h3 2, blk_cell h3 3, blk_cell h3 4, blk_cell h3 5⟩
  have HWO : Hid (∀ wx, Below (w3.alloc (.cells #[.int .u32 ap, .int .u32 am, .int .i64 at_, .bool ao_, .int .i64 aq, .int .i64 af] 31)).heap.size (w3.alloc (.cells #[.int .u32 ap, .int .u32 am, .int .i64 at_, .bool ao_, .int .i64 aq, .int .i64 af] 31)) wx → Calls Tryd.prog 19 #[infV ⟨p, m, t, on, q, f⟩] wx fun e w' => ∃ g c, e = .returned (.slice (some ⟨g, 0, none⟩) 16 c) ∧ AtL w' (some ⟨g, 0, none⟩) (u32s (infW ⟨p, m, t, on, q, f⟩)) ∧ Below wx.heap.size wx w' ∧ Below (w3.alloc (.cells #[.int .u32 ap, .int .u32 am, .int .i64 at_, .bool ao_, .int .i64 aq, .int .i64 af] 31)).heap.size (w3.alloc (.cells #[.int .u32 ap, .int .u32 am, .int .i64 at_, .bool ao_, .int .i64 aq, .int .i64 af] 31)) w') := Lib.hid fun wx h =>
    (inf_words ⟨p, m, t, on, q, f⟩ wx).mono fun e w' ⟨g, c, he, ho, _, hb⟩ => ⟨g, c, he, own_at ho, hb, h.trans (hb.mono h.size)⟩
  have HOT : Hid (∀ wx, Below (w3.alloc (.cells #[.int .u32 ap, .int .u32 am, .int .i64 at_, .bool ao_, .int .i64 aq, .int .i64 af] 31)).heap.size (w3.alloc (.cells #[.int .u32 ap, .int .u32 am, .int .i64 at_, .bool ao_, .int .i64 aq, .int .i64 af] 31)) wx → Calls Tryd.prog 21 #[infV ⟨p, m, t, on, q, f⟩] wx fun e w' => e = .returned (infV ⟨p, m, t, on, q, f⟩) ∧ Below wx.heap.size wx w' ∧ Below (w3.alloc (.cells #[.int .u32 ap, .int .u32 am, .int .i64 at_, .bool ao_, .int .i64 aq, .int .i64 af] 31)).heap.size (w3.alloc (.cells #[.int .u32 ap, .int .u32 am, .int .i64 at_, .bool ao_, .int .i64 aq, .int .i64 af] 31)) w') := Lib.hid fun wx h =>
    (other_any ⟨p, m, t, on, q, f⟩ wx).mono fun e w' ⟨he, hb⟩ => ⟨he, hb, h.trans (hb.mono h.size)⟩
  have HIW : Hid (∀ wx, Below (w3.alloc (.cells #[.int .u32 ap, .int .u32 am, .int .i64 at_, .bool ao_, .int .i64 aq, .int .i64 af] 31)).heap.size (w3.alloc (.cells #[.int .u32 ap, .int .u32 am, .int .i64 at_, .bool ao_, .int .i64 aq, .int .i64 af] 31)) wx → Calls Tryd.prog 20 #[infV ⟨p, m, t, on, q, f⟩] wx fun e w' => ∃ g, e = .returned (.slice (some ⟨g, 0, none⟩) 16 16) ∧ AtL w' (some ⟨g, 0, none⟩) (u32s (infW ⟨p, m, t, on, q, f⟩)) ∧ Below wx.heap.size wx w' ∧ Below (w3.alloc (.cells #[.int .u32 ap, .int .u32 am, .int .i64 at_, .bool ao_, .int .i64 aq, .int .i64 af] 31)).heap.size (w3.alloc (.cells #[.int .u32 ap, .int .u32 am, .int .i64 at_, .bool ao_, .int .i64 aq, .int .i64 af] 31)) w') := Lib.hid fun wx h =>
    (refWords_any ⟨p, m, t, on, q, f⟩ wx).mono fun e w' ⟨g, he, ho, hb⟩ => ⟨g, he, ho, hb, h.trans (hb.mono h.size)⟩
  have HSW : Hid (∀ (wx : World) (a b : Option Addr) (d1 d2 : Nat), Below (w3.alloc (.cells #[.int .u32 ap, .int .u32 am, .int .i64 at_, .bool ao_, .int .i64 aq, .int .i64 af] 31)).heap.size (w3.alloc (.cells #[.int .u32 ap, .int .u32 am, .int .i64 at_, .bool ao_, .int .i64 aq, .int .i64 af] 31)) wx → AtL wx a (u32s (infW ⟨p, m, t, on, q, f⟩)) → AtL wx b (u32s (infW ⟨p, m, t, on, q, f⟩)) → Calls Tryd.prog 18 #[.slice a 16 d1, .slice b 16 d2] wx fun e w' => e = .returned (.bool true) ∧ Below (w3.alloc (.cells #[.int .u32 ap, .int .u32 am, .int .i64 at_, .bool ao_, .int .i64 aq, .int .i64 af] 31)).heap.size (w3.alloc (.cells #[.int .u32 ap, .int .u32 am, .int .i64 at_, .bool ao_, .int .i64 aq, .int .i64 af] 31)) w') := Lib.hid fun wx a b d1 d2 h h1 h2 =>
    (sameWords_n _ _ 16 16 rfl rfl a b d1 d2 wx h1 h2 (by decide) (by decide)).mono fun e w' ⟨he, n, hw⟩ => ⟨by rw [he]; simp, by rw [hw]; exact below_drewN h n⟩
  have HSA : Hid (∀ wx, Below (w3.alloc (.cells #[.int .u32 ap, .int .u32 am, .int .i64 at_, .bool ao_, .int .i64 aq, .int .i64 af] 31)).heap.size (w3.alloc (.cells #[.int .u32 ap, .int .u32 am, .int .i64 at_, .bool ao_, .int .i64 aq, .int .i64 af] 31)) wx → Calls Tryd.prog 22 #[infV ⟨ap, am, at_, ao_, aq, af⟩, infV ⟨ap, am, at_, ao_, aq, af⟩] wx fun e w' => e = .returned (.bool true) ∧ Below (w3.alloc (.cells #[.int .u32 ap, .int .u32 am, .int .i64 at_, .bool ao_, .int .i64 aq, .int .i64 af] 31)).heap.size (w3.alloc (.cells #[.int .u32 ap, .int .u32 am, .int .i64 at_, .bool ao_, .int .i64 aq, .int .i64 af] 31)) w') := Lib.hid fun wx h =>
    (same_refl ⟨ap, am, at_, ao_, aq, af⟩ wx).mono fun e w' ⟨he, hb⟩ => ⟨he, h.trans (hb.mono h.size)⟩
  have hbd : Below (w3.alloc (.cells #[.int .u32 ap, .int .u32 am, .int .i64 at_, .bool ao_, .int .i64 aq, .int .i64 af] 31)).heap.size (w3.alloc (.cells #[.int .u32 ap, .int .u32 am, .int .i64 at_, .bool ao_, .int .i64 aq, .int .i64 af] 31)) (w3.alloc (.cells #[.int .u32 ap, .int .u32 am, .int .i64 at_, .bool ao_, .int .i64 aq, .int .i64 af] 31)).drew := (Below.refl _ _).drew
  clear hb3 hbk1 hbk2 hw1 hw2 hw3
  go_wp2_with fail
  refine wp_region_noPanic ?_
  refine wp_region_held_drew (S := (fun wx => Below (w3.alloc (.cells #[.int .u32 ap, .int .u32 am, .int .i64 at_, .bool ao_, .int .i64 aq, .int .i64 af] 31)).heap.size (w3.alloc (.cells #[.int .u32 ap, .int .u32 am, .int .i64 at_, .bool ao_, .int .i64 aq, .int .i64 af] 31)) wx ∧ wx.cell? ⟨w.heap.size, 0, none⟩ = some (.int .u32 p) ∧ wx.cell? ⟨w.heap.size, 1, none⟩ = some (.int .u32 m) ∧ wx.cell? ⟨w.heap.size, 2, none⟩ = some (.int .i64 t) ∧ wx.cell? ⟨w.heap.size, 3, none⟩ = some (.bool on) ∧ wx.cell? ⟨w.heap.size, 4, none⟩ = some (.int .i64 q) ∧ wx.cell? ⟨w.heap.size, 5, none⟩ = some (.int .i64 f) ∧ wx.cell? ⟨w2.heap.size, 0, none⟩ = some (.int .u32 ap) ∧ wx.cell? ⟨w2.heap.size, 1, none⟩ = some (.int .u32 am) ∧ wx.cell? ⟨w2.heap.size, 2, none⟩ = some (.int .i64 at_) ∧ wx.cell? ⟨w2.heap.size, 3, none⟩ = some (.bool ao_) ∧ wx.cell? ⟨w2.heap.size, 4, none⟩ = some (.int .i64 aq) ∧ wx.cell? ⟨w2.heap.size, 5, none⟩ = some (.int .i64 af) ∧ wx.cell? ⟨w3.heap.size, 0, none⟩ = some (.int .u32 ap) ∧ wx.cell? ⟨w3.heap.size, 1, none⟩ = some (.int .u32 am) ∧ wx.cell? ⟨w3.heap.size, 2, none⟩ = some (.int .i64 at_) ∧ wx.cell? ⟨w3.heap.size, 3, none⟩ = some (.bool ao_) ∧ wx.cell? ⟨w3.heap.size, 4, none⟩ = some (.int .i64 aq) ∧ wx.cell? ⟨w3.heap.size, 5, none⟩ = some (.int .i64 af))) (by kernel_rfl) ?_ (fun hHeld => ?_)
  · exact HK.out _ (by assumption)
  refine heldTake 0 (v := ?_) (by kernel_rfl) (by kernel_rfl) (by kernel_rfl) (by kernel_rfl) (fun _ _ _ _ _ h => h) (by assumption) (fun oi ho => by (simp only [List.getElem?_toArray, List.getElem?_cons_zero, List.getElem?_cons_succ, Option.some.injEq] at ho; subst ho); rfl) (fun oi ho => ?_) (fun oi ho => ?_)
  rotate_left
  · ((simp only [List.getElem?_toArray, List.getElem?_cons_zero, List.getElem?_cons_succ, Option.some.injEq] at ho; subst ho); intro wx hSx; (try dsimp only at hSx); go_simp; all_goals (with_reducible rfl))
  (simp only [List.getElem?_toArray, List.getElem?_cons_zero, List.getElem?_cons_succ, Option.some.injEq] at ho; subst ho)
  try simp only [Act.put, List.setIfInBounds_toArray, List.set_cons_zero, List.set_cons_succ]
  refine heldTake 1 (v := ?_) (by kernel_rfl) (by kernel_rfl) (by kernel_rfl) (by kernel_rfl) (fun _ _ _ _ _ h => h) (by assumption) (fun oi ho => by (simp only [List.getElem?_toArray, List.getElem?_cons_zero, List.getElem?_cons_succ, Option.some.injEq] at ho; subst ho); rfl) (fun oi ho => ?_) (fun oi ho => ?_)
  rotate_left
  · ((simp only [List.getElem?_toArray, List.getElem?_cons_zero, List.getElem?_cons_succ, Option.some.injEq] at ho; subst ho); intro wx hSx; (try dsimp only at hSx); go_simp; all_goals (with_reducible rfl))
  (simp only [List.getElem?_toArray, List.getElem?_cons_zero, List.getElem?_cons_succ, Option.some.injEq] at ho; subst ho)
  try simp only [Act.put, List.setIfInBounds_toArray, List.set_cons_zero, List.set_cons_succ]
  refine heldTake 2 (v := ?_) (by kernel_rfl) (by kernel_rfl) (by kernel_rfl) (by kernel_rfl) (fun _ _ _ _ _ h => h) (by assumption) (fun oi ho => by (simp only [List.getElem?_toArray, List.getElem?_cons_zero, List.getElem?_cons_succ, Option.some.injEq] at ho; subst ho); rfl) (fun oi ho => ?_) (fun oi ho => ?_)
  rotate_left
  · ((simp only [List.getElem?_toArray, List.getElem?_cons_zero, List.getElem?_cons_succ, Option.some.injEq] at ho; subst ho); intro wx hSx; (try dsimp only at hSx); go_simp; all_goals (with_reducible rfl))
  (simp only [List.getElem?_toArray, List.getElem?_cons_zero, List.getElem?_cons_succ, Option.some.injEq] at ho; subst ho)
  try simp only [Act.put, List.setIfInBounds_toArray, List.set_cons_zero, List.set_cons_succ]
  refine heldTake 4 (v := ?_) (by kernel_rfl) (by kernel_rfl) (by kernel_rfl) (by kernel_rfl) (fun _ _ _ _ _ h => h) (by assumption) (fun oi ho => by (simp only [List.getElem?_toArray, List.getElem?_cons_zero, List.getElem?_cons_succ, Option.some.injEq] at ho; subst ho); rfl) (fun oi ho => ?_) (fun oi ho => ?_)
  rotate_left
  · ((simp only [List.getElem?_toArray, List.getElem?_cons_zero, List.getElem?_cons_succ, Option.some.injEq] at ho; subst ho); intro wx hSx; (try dsimp only at hSx); go_simp; all_goals (with_reducible rfl))
  (simp only [List.getElem?_toArray, List.getElem?_cons_zero, List.getElem?_cons_succ, Option.some.injEq] at ho; subst ho)
  try simp only [Act.put, List.setIfInBounds_toArray, List.set_cons_zero, List.set_cons_succ]
  refine wpAnyH_ready (rs := [3]) (by kernel_rfl) (by simp) ?_
  refine heldOne (by kernel_rfl) (fun oi ho K hK => ?_) AllReadyH.nil
  (simp only [List.getElem?_toArray, List.getElem?_cons_zero, List.getElem?_cons_succ, Option.some.injEq] at ho; subst ho)
  go_simp
  refine (HWO.out _ (by assumption)).mono ?_; rintro e wa ⟨g, c, rfl, hatW, hbW, hba⟩
  first | (refine hK.out _ _ ?_ (fun hHeld => ?_)) | (go_wp2_with fail; refine hK.out _ _ ?_ (fun hHeld => ?_))
  · first | (exact HK.out _ (by assumption)) | ((try dsimp only); exact HK.out _ (by assumption))
  clear hK K
  try simp only [Act.put, List.setIfInBounds_toArray, List.set_cons_zero, List.set_cons_succ]
  refine wpAnyH_ready (rs := [5]) (by kernel_rfl) (by simp) ?_
  refine heldOne (by kernel_rfl) (fun oi ho K hK => ?_) AllReadyH.nil
  (simp only [List.getElem?_toArray, List.getElem?_cons_zero, List.getElem?_cons_succ, Option.some.injEq] at ho; subst ho)
  go_simp
  refine (HOT.out _ (by assumption)).mono ?_; rintro e wb ⟨rfl, hbO, hbb⟩
  first | (refine hK.out _ _ ?_ (fun hHeld => ?_)) | (go_wp2_with fail; refine hK.out _ _ ?_ (fun hHeld => ?_))
  · first | (exact HK.out _ (by assumption)) | ((try dsimp only); exact HK.out _ (by assumption))
  clear hK K
  try simp only [Act.put, List.setIfInBounds_toArray, List.set_cons_zero, List.set_cons_succ]
  refine wpAnyH_ready (rs := [6]) (by kernel_rfl) (by simp) ?_
  refine heldOne (by kernel_rfl) (fun oi ho K hK => ?_) AllReadyH.nil
  (simp only [List.getElem?_toArray, List.getElem?_cons_zero, List.getElem?_cons_succ, Option.some.injEq] at ho; subst ho)
  go_simp
  refine (HIW.out _ (by assumption)).mono ?_; rintro e wc ⟨g2, rfl, hatI, hbI, hbc⟩
  first | (refine hK.out _ _ ?_ (fun hHeld => ?_)) | (go_wp2_with fail; refine hK.out _ _ ?_ (fun hHeld => ?_))
  · first | (exact HK.out _ (by assumption)) | ((try dsimp only); exact HK.out _ (by assumption))
  clear hK K
  try simp only [Act.put, List.setIfInBounds_toArray, List.set_cons_zero, List.set_cons_succ]
  refine wpAnyH_ready (rs := [7]) (by kernel_rfl) (by simp) ?_
  refine heldOne (by kernel_rfl) (fun oi ho K hK => ?_) AllReadyH.nil
  (simp only [List.getElem?_toArray, List.getElem?_cons_zero, List.getElem?_cons_succ, Option.some.injEq] at ho; subst ho)
  go_simp
  refine (HSW.out _ _ _ _ _ (by assumption) (by exact hatW.mono (hbO.trans (hbI.mono hbO.size))) hatI).mono ?_; rintro e wd ⟨rfl, hbS⟩
  first | (refine hK.out _ _ ?_ (fun hHeld => ?_)) | (go_wp2_with fail; refine hK.out _ _ ?_ (fun hHeld => ?_))
  · first | (exact HK.out _ (by assumption)) | ((try dsimp only); exact HK.out _ (by assumption))
  clear hK K
  try simp only [Act.put, List.setIfInBounds_toArray, List.set_cons_zero, List.set_cons_succ]
  refine heldTake 8 (v := ?_) (by kernel_rfl) (by kernel_rfl) (by kernel_rfl) (by kernel_rfl) (fun _ _ _ _ _ h => h) (by assumption) (fun oi ho => by (simp only [List.getElem?_toArray, List.getElem?_cons_zero, List.getElem?_cons_succ, Option.some.injEq] at ho; subst ho); rfl) (fun oi ho => ?_) (fun oi ho => ?_)
  rotate_left
  · ((simp only [List.getElem?_toArray, List.getElem?_cons_zero, List.getElem?_cons_succ, Option.some.injEq] at ho; subst ho); intro wx hSx; (try dsimp only at hSx); go_simp; all_goals (with_reducible rfl))
  (simp only [List.getElem?_toArray, List.getElem?_cons_zero, List.getElem?_cons_succ, Option.some.injEq] at ho; subst ho)
  try simp only [Act.put, List.setIfInBounds_toArray, List.set_cons_zero, List.set_cons_succ]
  refine heldTake 9 (v := ?_) (by kernel_rfl) (by kernel_rfl) (by kernel_rfl) (by kernel_rfl) (fun _ _ _ _ _ h => h) (by assumption) (fun oi ho => by (simp only [List.getElem?_toArray, List.getElem?_cons_zero, List.getElem?_cons_succ, Option.some.injEq] at ho; subst ho); rfl) (fun oi ho => ?_) (fun oi ho => ?_)
  rotate_left
  · ((simp only [List.getElem?_toArray, List.getElem?_cons_zero, List.getElem?_cons_succ, Option.some.injEq] at ho; subst ho); intro wx hSx; (try dsimp only at hSx); go_simp; all_goals (with_reducible rfl))
  (simp only [List.getElem?_toArray, List.getElem?_cons_zero, List.getElem?_cons_succ, Option.some.injEq] at ho; subst ho)
  try simp only [Act.put, List.setIfInBounds_toArray, List.set_cons_zero, List.set_cons_succ]
  refine heldTake 10 (v := ?_) (by kernel_rfl) (by kernel_rfl) (by kernel_rfl) (by kernel_rfl) (fun _ _ _ _ _ h => h) (by assumption) (fun oi ho => by (simp only [List.getElem?_toArray, List.getElem?_cons_zero, List.getElem?_cons_succ, Option.some.injEq] at ho; subst ho); rfl) (fun oi ho => ?_) (fun oi ho => ?_)
  rotate_left
  · ((simp only [List.getElem?_toArray, List.getElem?_cons_zero, List.getElem?_cons_succ, Option.some.injEq] at ho; subst ho); intro wx hSx; (try dsimp only at hSx); go_simp; all_goals (with_reducible rfl))
  (simp only [List.getElem?_toArray, List.getElem?_cons_zero, List.getElem?_cons_succ, Option.some.injEq] at ho; subst ho)
  try simp only [Act.put, List.setIfInBounds_toArray, List.set_cons_zero, List.set_cons_succ]
  refine heldTake 11 (v := ?_) (by kernel_rfl) (by kernel_rfl) (by kernel_rfl) (by kernel_rfl) (fun _ _ _ _ _ h => h) (by assumption) (fun oi ho => by (simp only [List.getElem?_toArray, List.getElem?_cons_zero, List.getElem?_cons_succ, Option.some.injEq] at ho; subst ho); rfl) (fun oi ho => ?_) (fun oi ho => ?_)
  rotate_left
  · ((simp only [List.getElem?_toArray, List.getElem?_cons_zero, List.getElem?_cons_succ, Option.some.injEq] at ho; subst ho); intro wx hSx; (try dsimp only at hSx); go_simp; all_goals (with_reducible rfl))
  (simp only [List.getElem?_toArray, List.getElem?_cons_zero, List.getElem?_cons_succ, Option.some.injEq] at ho; subst ho)
  try simp only [Act.put, List.setIfInBounds_toArray, List.set_cons_zero, List.set_cons_succ]
  refine wpAnyH_ready (rs := [12]) (by kernel_rfl) (by simp) ?_
  refine heldOne (by kernel_rfl) (fun oi ho K hK => ?_) AllReadyH.nil
  (simp only [List.getElem?_toArray, List.getElem?_cons_zero, List.getElem?_cons_succ, Option.some.injEq] at ho; subst ho)
  go_simp
  refine (HSA.out _ (by assumption)).mono ?_; rintro e we ⟨rfl, hbe⟩
  first | (refine hK.out _ _ ?_ (fun hHeld => ?_)) | (go_wp2_with fail; refine hK.out _ _ ?_ (fun hHeld => ?_))
  · first | (exact HK.out _ (by assumption)) | ((try dsimp only); exact HK.out _ (by assumption))
  clear hK K
  try simp only [Act.put, List.setIfInBounds_toArray, List.set_cons_zero, List.set_cons_succ]
  refine heldTake 13 (v := ?_) (by kernel_rfl) (by kernel_rfl) (by kernel_rfl) (by kernel_rfl) (fun _ _ _ _ _ h => h) (by assumption) (fun oi ho => by (simp only [List.getElem?_toArray, List.getElem?_cons_zero, List.getElem?_cons_succ, Option.some.injEq] at ho; subst ho); rfl) (fun oi ho => ?_) (fun oi ho => ?_)
  rotate_left
  · ((simp only [List.getElem?_toArray, List.getElem?_cons_zero, List.getElem?_cons_succ, Option.some.injEq] at ho; subst ho); intro wx hSx; (try dsimp only at hSx); go_simp; all_goals (with_reducible rfl))
  (simp only [List.getElem?_toArray, List.getElem?_cons_zero, List.getElem?_cons_succ, Option.some.injEq] at ho; subst ho)
  try simp only [Act.put, List.setIfInBounds_toArray, List.set_cons_zero, List.set_cons_succ]
  refine heldTake 14 (v := ?_) (by kernel_rfl) (by kernel_rfl) (by kernel_rfl) (by kernel_rfl) (fun _ _ _ _ _ h => h) (by assumption) (fun oi ho => by (simp only [List.getElem?_toArray, List.getElem?_cons_zero, List.getElem?_cons_succ, Option.some.injEq] at ho; subst ho); rfl) (fun oi ho => ?_) (fun oi ho => ?_)
  rotate_left
  · ((simp only [List.getElem?_toArray, List.getElem?_cons_zero, List.getElem?_cons_succ, Option.some.injEq] at ho; subst ho); intro wx hSx; (try dsimp only at hSx); go_simp; all_goals (with_reducible rfl))
  (simp only [List.getElem?_toArray, List.getElem?_cons_zero, List.getElem?_cons_succ, Option.some.injEq] at ho; subst ho)
  try simp only [Act.put, List.setIfInBounds_toArray, List.set_cons_zero, List.set_cons_succ]
  refine heldTake 15 (v := ?_) (by kernel_rfl) (by kernel_rfl) (by kernel_rfl) (by kernel_rfl) (fun _ _ _ _ _ h => h) (by assumption) (fun oi ho => by (simp only [List.getElem?_toArray, List.getElem?_cons_zero, List.getElem?_cons_succ, Option.some.injEq] at ho; subst ho); rfl) (fun oi ho => ?_) (fun oi ho => ?_)
  rotate_left
  · ((simp only [List.getElem?_toArray, List.getElem?_cons_zero, List.getElem?_cons_succ, Option.some.injEq] at ho; subst ho); intro wx hSx; (try dsimp only at hSx); go_simp; all_goals (with_reducible rfl))
  (simp only [List.getElem?_toArray, List.getElem?_cons_zero, List.getElem?_cons_succ, Option.some.injEq] at ho; subst ho)
  try simp only [Act.put, List.setIfInBounds_toArray, List.set_cons_zero, List.set_cons_succ]
  refine heldTake 16 (v := ?_) (by kernel_rfl) (by kernel_rfl) (by kernel_rfl) (by kernel_rfl) (fun _ _ _ _ _ h => h) (by assumption) (fun oi ho => by (simp only [List.getElem?_toArray, List.getElem?_cons_zero, List.getElem?_cons_succ, Option.some.injEq] at ho; subst ho); rfl) (fun oi ho => ?_) (fun oi ho => ?_)
  rotate_left
  · ((simp only [List.getElem?_toArray, List.getElem?_cons_zero, List.getElem?_cons_succ, Option.some.injEq] at ho; subst ho); intro wx hSx; (try dsimp only at hSx); go_simp; all_goals (with_reducible rfl))
  (simp only [List.getElem?_toArray, List.getElem?_cons_zero, List.getElem?_cons_succ, Option.some.injEq] at ho; subst ho)
  try simp only [Act.put, List.setIfInBounds_toArray, List.set_cons_zero, List.set_cons_succ]
  refine heldTake 17 (v := ?_) (by kernel_rfl) (by kernel_rfl) (by kernel_rfl) (by kernel_rfl) (fun _ _ _ _ _ h => h) (by assumption) (fun oi ho => by (simp only [List.getElem?_toArray, List.getElem?_cons_zero, List.getElem?_cons_succ, Option.some.injEq] at ho; subst ho); rfl) (fun oi ho => ?_) (fun oi ho => ?_)
  rotate_left
  · ((simp only [List.getElem?_toArray, List.getElem?_cons_zero, List.getElem?_cons_succ, Option.some.injEq] at ho; subst ho); intro wx hSx; (try dsimp only at hSx); go_simp; all_goals (with_reducible rfl))
  (simp only [List.getElem?_toArray, List.getElem?_cons_zero, List.getElem?_cons_succ, Option.some.injEq] at ho; subst ho)
  try simp only [Act.put, List.setIfInBounds_toArray, List.set_cons_zero, List.set_cons_succ]
  refine heldTake 18 (v := ?_) (by kernel_rfl) (by kernel_rfl) (by kernel_rfl) (by kernel_rfl) (fun _ _ _ _ _ h => h) (by assumption) (fun oi ho => by (simp only [List.getElem?_toArray, List.getElem?_cons_zero, List.getElem?_cons_succ, Option.some.injEq] at ho; subst ho); rfl) (fun oi ho => ?_) (fun oi ho => ?_)
  rotate_left
  · ((simp only [List.getElem?_toArray, List.getElem?_cons_zero, List.getElem?_cons_succ, Option.some.injEq] at ho; subst ho); intro wx hSx; (try dsimp only at hSx); go_simp; all_goals (with_reducible rfl))
  (simp only [List.getElem?_toArray, List.getElem?_cons_zero, List.getElem?_cons_succ, Option.some.injEq] at ho; subst ho)
  try simp only [Act.put, List.setIfInBounds_toArray, List.set_cons_zero, List.set_cons_succ]
  refine heldTake 19 (v := ?_) (by kernel_rfl) (by kernel_rfl) (by kernel_rfl) (by kernel_rfl) (fun _ _ _ _ _ h => h) (by assumption) (fun oi ho => by (simp only [List.getElem?_toArray, List.getElem?_cons_zero, List.getElem?_cons_succ, Option.some.injEq] at ho; subst ho); rfl) (fun oi ho => ?_) (fun oi ho => ?_)
  rotate_left
  · ((simp only [List.getElem?_toArray, List.getElem?_cons_zero, List.getElem?_cons_succ, Option.some.injEq] at ho; subst ho); intro wx hSx; (try dsimp only at hSx); go_simp; all_goals (with_reducible rfl))
  (simp only [List.getElem?_toArray, List.getElem?_cons_zero, List.getElem?_cons_succ, Option.some.injEq] at ho; subst ho)
  try simp only [Act.put, List.setIfInBounds_toArray, List.set_cons_zero, List.set_cons_succ]
  refine heldTake 20 (v := ?_) (by kernel_rfl) (by kernel_rfl) (by kernel_rfl) (by kernel_rfl) (fun _ _ _ _ _ h => h) (by assumption) (fun oi ho => by (simp only [List.getElem?_toArray, List.getElem?_cons_zero, List.getElem?_cons_succ, Option.some.injEq] at ho; subst ho); rfl) (fun oi ho => ?_) (fun oi ho => ?_)
  rotate_left
  · ((simp only [List.getElem?_toArray, List.getElem?_cons_zero, List.getElem?_cons_succ, Option.some.injEq] at ho; subst ho); intro wx hSx; (try dsimp only at hSx); go_simp; all_goals (with_reducible rfl))
  (simp only [List.getElem?_toArray, List.getElem?_cons_zero, List.getElem?_cons_succ, Option.some.injEq] at ho; subst ho)
  try simp only [Act.put, List.setIfInBounds_toArray, List.set_cons_zero, List.set_cons_succ]
  refine heldTake 21 (v := ?_) (by kernel_rfl) (by kernel_rfl) (by kernel_rfl) (by kernel_rfl) (fun _ _ _ _ _ h => h) (by assumption) (fun oi ho => by (simp only [List.getElem?_toArray, List.getElem?_cons_zero, List.getElem?_cons_succ, Option.some.injEq] at ho; subst ho); rfl) (fun oi ho => ?_) (fun oi ho => ?_)
  rotate_left
  · ((simp only [List.getElem?_toArray, List.getElem?_cons_zero, List.getElem?_cons_succ, Option.some.injEq] at ho; subst ho); intro wx hSx; (try dsimp only at hSx); go_simp; all_goals (with_reducible rfl))
  (simp only [List.getElem?_toArray, List.getElem?_cons_zero, List.getElem?_cons_succ, Option.some.injEq] at ho; subst ho)
  try simp only [Act.put, List.setIfInBounds_toArray, List.set_cons_zero, List.set_cons_succ]
  refine heldTake 22 (v := ?_) (by kernel_rfl) (by kernel_rfl) (by kernel_rfl) (by kernel_rfl) (fun _ _ _ _ _ h => h) (by assumption) (fun oi ho => by (simp only [List.getElem?_toArray, List.getElem?_cons_zero, List.getElem?_cons_succ, Option.some.injEq] at ho; subst ho); rfl) (fun oi ho => ?_) (fun oi ho => ?_)
  rotate_left
  · ((simp only [List.getElem?_toArray, List.getElem?_cons_zero, List.getElem?_cons_succ, Option.some.injEq] at ho; subst ho); intro wx hSx; (try dsimp only at hSx); go_simp; all_goals (with_reducible rfl))
  (simp only [List.getElem?_toArray, List.getElem?_cons_zero, List.getElem?_cons_succ, Option.some.injEq] at ho; subst ho)
  try simp only [Act.put, List.setIfInBounds_toArray, List.set_cons_zero, List.set_cons_succ]
  refine heldSkip 23 (by kernel_rfl) (by kernel_rfl) (by kernel_rfl) (by kernel_rfl) (fun _ _ _ _ _ h => h) (by assumption) (fun oi ho => by (simp only [List.getElem?_toArray, List.getElem?_cons_zero, List.getElem?_cons_succ, Option.some.injEq] at ho; subst ho); rfl) (fun oi ho => ?_)
  (simp only [List.getElem?_toArray, List.getElem?_cons_zero, List.getElem?_cons_succ, Option.some.injEq] at ho; subst ho)
  try simp only [Act.put, List.setIfInBounds_toArray, List.set_cons_zero, List.set_cons_succ]
  refine heldSkip 24 (by kernel_rfl) (by kernel_rfl) (by kernel_rfl) (by kernel_rfl) (fun _ _ _ _ _ h => h) (by assumption) (fun oi ho => by (simp only [List.getElem?_toArray, List.getElem?_cons_zero, List.getElem?_cons_succ, Option.some.injEq] at ho; subst ho); rfl) (fun oi ho => ?_)
  (simp only [List.getElem?_toArray, List.getElem?_cons_zero, List.getElem?_cons_succ, Option.some.injEq] at ho; subst ho)
  try simp only [Act.put, List.setIfInBounds_toArray, List.set_cons_zero, List.set_cons_succ]
  refine heldTake 25 (v := ?_) (by kernel_rfl) (by kernel_rfl) (by kernel_rfl) (by kernel_rfl) (fun _ _ _ _ _ h => h) (by assumption) (fun oi ho => by (simp only [List.getElem?_toArray, List.getElem?_cons_zero, List.getElem?_cons_succ, Option.some.injEq] at ho; subst ho); rfl) (fun oi ho => ?_) (fun oi ho => ?_)
  rotate_left
  · ((simp only [List.getElem?_toArray, List.getElem?_cons_zero, List.getElem?_cons_succ, Option.some.injEq] at ho; subst ho); intro wx hSx; (try dsimp only at hSx); go_simp; all_goals (with_reducible rfl))
  (simp only [List.getElem?_toArray, List.getElem?_cons_zero, List.getElem?_cons_succ, Option.some.injEq] at ho; subst ho)
  try simp only [Act.put, List.setIfInBounds_toArray, List.set_cons_zero, List.set_cons_succ]
  refine heldTake 26 (v := ?_) (by kernel_rfl) (by kernel_rfl) (by kernel_rfl) (by kernel_rfl) (fun _ _ _ _ _ h => h) (by assumption) (fun oi ho => by (simp only [List.getElem?_toArray, List.getElem?_cons_zero, List.getElem?_cons_succ, Option.some.injEq] at ho; subst ho); rfl) (fun oi ho => ?_) (fun oi ho => ?_)
  rotate_left
  · ((simp only [List.getElem?_toArray, List.getElem?_cons_zero, List.getElem?_cons_succ, Option.some.injEq] at ho; subst ho); intro wx hSx; (try dsimp only at hSx); go_simp; all_goals (with_reducible rfl))
  (simp only [List.getElem?_toArray, List.getElem?_cons_zero, List.getElem?_cons_succ, Option.some.injEq] at ho; subst ho)
  try simp only [Act.put, List.setIfInBounds_toArray, List.set_cons_zero, List.set_cons_succ]
  refine heldTake 27 (v := ?_) (by kernel_rfl) (by kernel_rfl) (by kernel_rfl) (by kernel_rfl) (fun _ _ _ _ _ h => h) (by assumption) (fun oi ho => by (simp only [List.getElem?_toArray, List.getElem?_cons_zero, List.getElem?_cons_succ, Option.some.injEq] at ho; subst ho); rfl) (fun oi ho => ?_) (fun oi ho => ?_)
  rotate_left
  · ((simp only [List.getElem?_toArray, List.getElem?_cons_zero, List.getElem?_cons_succ, Option.some.injEq] at ho; subst ho); intro wx hSx; (try dsimp only at hSx); go_simp; all_goals (with_reducible rfl))
  (simp only [List.getElem?_toArray, List.getElem?_cons_zero, List.getElem?_cons_succ, Option.some.injEq] at ho; subst ho)
  try simp only [Act.put, List.setIfInBounds_toArray, List.set_cons_zero, List.set_cons_succ]
  refine wpAnyH_done (by kernel_rfl) ?_ _
  refine NoPanic.normal ?_
  all_goals
    go_wp2
    go_ret
    exact ⟨rfl, HW8.out.trans (hbe.mono HW8.out.size)⟩

set_option maxRecDepth 100000 in
set_option maxHeartbeats 40000000 in
theorem infoSays_bad (p m t : Int) (on : Bool) (q f : Int) (xs : List Int) (n : Nat) (c1 : Nat) (ao : Option Addr) (E : Nat → Addr) (w : World) (hE : ErrsAt errT gOf w E all16) (hr : AtL w ao (u32s xs)) (hz : ∀ z ∈ xs, 0 ≤ z ∧ z ≤ 4294967295) (hn : xs.length = n) (hcap : n ≤ c1) (h20 : n ≤ 20) (ht : ¬ t < 0) (hq : ¬ q < 0) (hf : ¬ f < 0) (hok : infOK xs = false) :
    Calls Tryd.prog 3 #[infV ⟨p, m, t, on, q, f⟩, .slice ao n c1] w fun e w' => e = .returned (.bool true) ∧ Below w.heap.size w w' := by
  have HR := Lib.hid hr
  have HZ := Lib.hid hz
  have HN := Lib.hid hn
  have HOK := Lib.hid hok
  obtain ⟨⟨ap, am, at_, ao_, aq, af⟩, hans⟩ : ∃ r, infOf xs = r := ⟨_, rfl⟩
  rw [infOf_no hok] at hans
  have HANS : Hid (infZ = ⟨ap, am, at_, ao_, aq, af⟩) := Lib.hid hans
  have HAN2 : Hid (ofAns xs = .tuple #[infV ⟨ap, am, at_, ao_, aq, af⟩, .bool false]) := Lib.hid (by rw [ofAns_no hok, hans])
  have h20' : ¬ (20 : Int) < (n : Int) := by omega
  have HE := Lib.hid (show SentAt errT w (gOf 1) (E 1) from hE.1 1 (by decide))
  have HE2 := Lib.hid hE
  clear hr hz hn hok hans hE
  go_enter Tryd.func3, Tryd.ntmps3
  go_wp2_with fail
  refine (inf_first _).mono ?_
  rintro e w1 ⟨rfl, hb1⟩
  have hbk : w1.heap[w.heap.size]? = some (.cells #[.int .u32 p, .int .u32 m, .int .i64 t, .bool on, .int .i64 q, .int .i64 f] 24 (0, 0)) := by
    rw [hb1.block _ (by simp)]
    exact blk_new w _
  have hw1 : w.heap.size < w1.heap.size := blk_lt hbk
  have HBK := Lib.hid hbk
  have p2 := blk_cell hbk 2
  have p4 := blk_cell hbk 4
  have p5 := blk_cell hbk 5
  have HB1 : Hid (Below w.heap.size w w1) := Lib.hid (((Below.refl _ _).alloc (Nat.le_refl _) (.cells #[.int .u32 p, .int .u32 m, .int .i64 t, .bool on, .int .i64 q, .int .i64 f] 24)).trans (hb1.mono (by simp)))
  clear hb1 hbk
  go_wp2_with fail
  refine (of_bad (E 1) xs n c1 ao _ (HE.out.mono HB1.out).1 (HR.out.mono HB1.out) hcap HZ.out HN.out HOK.out).mono ?_
  rintro e w2 ⟨rfl, hb2⟩
  rw [HANS.out]
  have hw2 : w1.heap.size ≤ w2.heap.size := hb2.size
  have HB2 : Hid (Below w.heap.size w w2) := Lib.hid (HB1.out.trans (hb2.mono HB1.out.size))
  have HBK2 : Hid (w2.heap[w.heap.size]? = some (.cells #[.int .u32 p, .int .u32 m, .int .i64 t, .bool on, .int .i64 q, .int .i64 f] 24 (0, 0))) := Lib.hid (by rw [hb2.block _ hw1]; exact HBK.out)
  clear hb2 p2 p4 p5
  go_wp2_with fail
  refine (ofi_any xs n c1 ao _ (HR.out.mono (HB2.out.alloc HB2.out.size _)) hcap HZ.out HN.out).mono ?_
  rintro e w3 ⟨rfl, hb3⟩
  rw [HAN2.out]
  have hbk2 : w3.heap[w2.heap.size]? = some (.cells #[.int .u32 ap, .int .u32 am, .int .i64 at_, .bool ao_, .int .i64 aq, .int .i64 af] 24 (0, 0)) := by
    rw [hb3.block _ (by simp)]
    exact blk_new w2 _
  have hbk1 : w3.heap[w.heap.size]? = some (.cells #[.int .u32 p, .int .u32 m, .int .i64 t, .bool on, .int .i64 q, .int .i64 f] 24 (0, 0)) := by
    rw [hb3.block _ (by simp; omega), ((Below.refl w2.heap.size w2).alloc (Nat.le_refl _) (.cells #[.int .u32 ap, .int .u32 am, .int .i64 at_, .bool ao_, .int .i64 aq, .int .i64 af] 24)).block _ (by omega)]
    exact HBK2.out
  have hw3 : w2.heap.size < w3.heap.size := blk_lt hbk2
  have HB3 : Hid (Below w.heap.size w w3) := Lib.hid ((HB2.out.alloc HB2.out.size (.cells #[.int .u32 ap, .int .u32 am, .int .i64 at_, .bool ao_, .int .i64 aq, .int .i64 af] 24)).trans (hb3.mono (by have := HB2.out.size; simp; omega)))
  have HW8 : Hid (Below w.heap.size w (w3.alloc (.cells #[.int .u32 ap, .int .u32 am, .int .i64 at_, .bool ao_, .int .i64 aq, .int .i64 af] 31))) := Lib.hid (HB3.out.alloc HB3.out.size _)
  have HK : Hid (∀ wx, Below (w3.alloc (.cells #[.int .u32 ap, .int .u32 am, .int .i64 at_, .bool ao_, .int .i64 aq, .int .i64 af] 31)).heap.size (w3.alloc (.cells #[.int .u32 ap, .int .u32 am, .int .i64 at_, .bool ao_, .int .i64 aq, .int .i64 af] 31)) wx → Below (w3.alloc (.cells #[.int .u32 ap, .int .u32 am, .int .i64 at_, .bool ao_, .int .i64 aq, .int .i64 af] 31)).heap.size (w3.alloc (.cells #[.int .u32 ap, .int .u32 am, .int .i64 at_, .bool ao_, .int .i64 aq, .int .i64 af] 31)) wx ∧ wx.cell? ⟨w.heap.size, 0, none⟩ = some (.int .u32 p) ∧ wx.cell? ⟨w.heap.size, 1, none⟩ = some (.int .u32 m) ∧ wx.cell? ⟨w.heap.size, 2, none⟩ = some (.int .i64 t) ∧ wx.cell? ⟨w.heap.size, 3, none⟩ = some (.bool on) ∧ wx.cell? ⟨w.heap.size, 4, none⟩ = some (.int .i64 q) ∧ wx.cell? ⟨w.heap.size, 5, none⟩ = some (.int .i64 f) ∧ wx.cell? ⟨w2.heap.size, 0, none⟩ = some (.int .u32 ap) ∧ wx.cell? ⟨w2.heap.size, 1, none⟩ = some (.int .u32 am) ∧ wx.cell? ⟨w2.heap.size, 2, none⟩ = some (.int .i64 at_) ∧ wx.cell? ⟨w2.heap.size, 3, none⟩ = some (.bool ao_) ∧ wx.cell? ⟨w2.heap.size, 4, none⟩ = some (.int .i64 aq) ∧ wx.cell? ⟨w2.heap.size, 5, none⟩ = some (.int .i64 af) ∧ wx.cell? ⟨w3.heap.size, 0, none⟩ = some (.int .u32 ap) ∧ wx.cell? ⟨w3.heap.size, 1, none⟩ = some (.int .u32 am) ∧ wx.cell? ⟨w3.heap.size, 2, none⟩ = some (.int .i64 at_) ∧ wx.cell? ⟨w3.heap.size, 3, none⟩ = some (.bool ao_) ∧ wx.cell? ⟨w3.heap.size, 4, none⟩ = some (.int .i64 aq) ∧ wx.cell? ⟨w3.heap.size, 5, none⟩ = some (.int .i64 af)) := Lib.hid fun wx h => by
    have h1 : wx.heap[w.heap.size]? = some (.cells #[.int .u32 p, .int .u32 m, .int .i64 t, .bool on, .int .i64 q, .int .i64 f] 24 (0, 0)) := by
      rw [h.block _ (by simp; omega), ((Below.refl w3.heap.size w3).alloc (Nat.le_refl _) (.cells #[.int .u32 ap, .int .u32 am, .int .i64 at_, .bool ao_, .int .i64 aq, .int .i64 af] 31)).block _ (by omega)]
      exact hbk1
    have h2 : wx.heap[w2.heap.size]? = some (.cells #[.int .u32 ap, .int .u32 am, .int .i64 at_, .bool ao_, .int .i64 aq, .int .i64 af] 24 (0, 0)) := by
      rw [h.block _ (by simp; omega), ((Below.refl w3.heap.size w3).alloc (Nat.le_refl _) (.cells #[.int .u32 ap, .int .u32 am, .int .i64 at_, .bool ao_, .int .i64 aq, .int .i64 af] 31)).block _ (by omega)]
      exact hbk2
    have h3 : wx.heap[w3.heap.size]? = some (.cells #[.int .u32 ap, .int .u32 am, .int .i64 at_, .bool ao_, .int .i64 aq, .int .i64 af] 31 (0, 0)) := by
      rw [h.block _ (by simp)]
      exact blk_new w3 _
    exact ⟨h, blk_cell h1 0, blk_cell h1 1, blk_cell h1 2, blk_cell h1 3, blk_cell h1 4, blk_cell h1 5, blk_cell h2 0, blk_cell h2 1, blk_cell h2 2, blk_cell h2 3, blk_cell h2 4, blk_cell h2 5, blk_cell h3 0, blk_cell h3 1, blk_cell h3 2, blk_cell h3 3, blk_cell h3 4, blk_cell h3 5⟩
  have HWO : Hid (∀ wx, Below (w3.alloc (.cells #[.int .u32 ap, .int .u32 am, .int .i64 at_, .bool ao_, .int .i64 aq, .int .i64 af] 31)).heap.size (w3.alloc (.cells #[.int .u32 ap, .int .u32 am, .int .i64 at_, .bool ao_, .int .i64 aq, .int .i64 af] 31)) wx → Calls Tryd.prog 19 #[infV ⟨p, m, t, on, q, f⟩] wx fun e w' => ∃ g c, e = .returned (.slice (some ⟨g, 0, none⟩) 16 c) ∧ AtL w' (some ⟨g, 0, none⟩) (u32s (infW ⟨p, m, t, on, q, f⟩)) ∧ Below wx.heap.size wx w' ∧ Below (w3.alloc (.cells #[.int .u32 ap, .int .u32 am, .int .i64 at_, .bool ao_, .int .i64 aq, .int .i64 af] 31)).heap.size (w3.alloc (.cells #[.int .u32 ap, .int .u32 am, .int .i64 at_, .bool ao_, .int .i64 aq, .int .i64 af] 31)) w') := Lib.hid fun wx h =>
    (inf_words ⟨p, m, t, on, q, f⟩ wx).mono fun e w' ⟨g, c, he, ho, _, hb⟩ => ⟨g, c, he, own_at ho, hb, h.trans (hb.mono h.size)⟩
  have HOT : Hid (∀ wx, Below (w3.alloc (.cells #[.int .u32 ap, .int .u32 am, .int .i64 at_, .bool ao_, .int .i64 aq, .int .i64 af] 31)).heap.size (w3.alloc (.cells #[.int .u32 ap, .int .u32 am, .int .i64 at_, .bool ao_, .int .i64 aq, .int .i64 af] 31)) wx → Calls Tryd.prog 21 #[infV ⟨p, m, t, on, q, f⟩] wx fun e w' => e = .returned (infV ⟨p, m, t, on, q, f⟩) ∧ Below wx.heap.size wx w' ∧ Below (w3.alloc (.cells #[.int .u32 ap, .int .u32 am, .int .i64 at_, .bool ao_, .int .i64 aq, .int .i64 af] 31)).heap.size (w3.alloc (.cells #[.int .u32 ap, .int .u32 am, .int .i64 at_, .bool ao_, .int .i64 aq, .int .i64 af] 31)) w') := Lib.hid fun wx h =>
    (other_any ⟨p, m, t, on, q, f⟩ wx).mono fun e w' ⟨he, hb⟩ => ⟨he, hb, h.trans (hb.mono h.size)⟩
  have HIW : Hid (∀ wx, Below (w3.alloc (.cells #[.int .u32 ap, .int .u32 am, .int .i64 at_, .bool ao_, .int .i64 aq, .int .i64 af] 31)).heap.size (w3.alloc (.cells #[.int .u32 ap, .int .u32 am, .int .i64 at_, .bool ao_, .int .i64 aq, .int .i64 af] 31)) wx → Calls Tryd.prog 20 #[infV ⟨p, m, t, on, q, f⟩] wx fun e w' => ∃ g, e = .returned (.slice (some ⟨g, 0, none⟩) 16 16) ∧ AtL w' (some ⟨g, 0, none⟩) (u32s (infW ⟨p, m, t, on, q, f⟩)) ∧ Below wx.heap.size wx w' ∧ Below (w3.alloc (.cells #[.int .u32 ap, .int .u32 am, .int .i64 at_, .bool ao_, .int .i64 aq, .int .i64 af] 31)).heap.size (w3.alloc (.cells #[.int .u32 ap, .int .u32 am, .int .i64 at_, .bool ao_, .int .i64 aq, .int .i64 af] 31)) w') := Lib.hid fun wx h =>
    (refWords_any ⟨p, m, t, on, q, f⟩ wx).mono fun e w' ⟨g, he, ho, hb⟩ => ⟨g, he, ho, hb, h.trans (hb.mono h.size)⟩
  have HSW : Hid (∀ (wx : World) (a b : Option Addr) (d1 d2 : Nat), Below (w3.alloc (.cells #[.int .u32 ap, .int .u32 am, .int .i64 at_, .bool ao_, .int .i64 aq, .int .i64 af] 31)).heap.size (w3.alloc (.cells #[.int .u32 ap, .int .u32 am, .int .i64 at_, .bool ao_, .int .i64 aq, .int .i64 af] 31)) wx → AtL wx a (u32s (infW ⟨p, m, t, on, q, f⟩)) → AtL wx b (u32s (infW ⟨p, m, t, on, q, f⟩)) → Calls Tryd.prog 18 #[.slice a 16 d1, .slice b 16 d2] wx fun e w' => e = .returned (.bool true) ∧ Below (w3.alloc (.cells #[.int .u32 ap, .int .u32 am, .int .i64 at_, .bool ao_, .int .i64 aq, .int .i64 af] 31)).heap.size (w3.alloc (.cells #[.int .u32 ap, .int .u32 am, .int .i64 at_, .bool ao_, .int .i64 aq, .int .i64 af] 31)) w') := Lib.hid fun wx a b d1 d2 h h1 h2 =>
    (sameWords_n _ _ 16 16 rfl rfl a b d1 d2 wx h1 h2 (by decide) (by decide)).mono fun e w' ⟨he, n, hw⟩ => ⟨by rw [he]; simp, by rw [hw]; exact below_drewN h n⟩
  have HSA : Hid (∀ wx, Below (w3.alloc (.cells #[.int .u32 ap, .int .u32 am, .int .i64 at_, .bool ao_, .int .i64 aq, .int .i64 af] 31)).heap.size (w3.alloc (.cells #[.int .u32 ap, .int .u32 am, .int .i64 at_, .bool ao_, .int .i64 aq, .int .i64 af] 31)) wx → Calls Tryd.prog 22 #[infV ⟨ap, am, at_, ao_, aq, af⟩, infV ⟨ap, am, at_, ao_, aq, af⟩] wx fun e w' => e = .returned (.bool true) ∧ Below (w3.alloc (.cells #[.int .u32 ap, .int .u32 am, .int .i64 at_, .bool ao_, .int .i64 aq, .int .i64 af] 31)).heap.size (w3.alloc (.cells #[.int .u32 ap, .int .u32 am, .int .i64 at_, .bool ao_, .int .i64 aq, .int .i64 af] 31)) w') := Lib.hid fun wx h =>
    (same_refl ⟨ap, am, at_, ao_, aq, af⟩ wx).mono fun e w' ⟨he, hb⟩ => ⟨he, h.trans (hb.mono h.size)⟩
  have HIS : Hid (∀ wx, Below (w3.alloc (.cells #[.int .u32 ap, .int .u32 am, .int .i64 at_, .bool ao_, .int .i64 aq, .int .i64 af] 31)).heap.size (w3.alloc (.cells #[.int .u32 ap, .int .u32 am, .int .i64 at_, .bool ao_, .int .i64 aq, .int .i64 af] 31)) wx → Calls Tryd.prog 23 #[errV (E 1), .int .i64 102] wx fun e w' => e = .returned (.bool true) ∧ Below (w3.alloc (.cells #[.int .u32 ap, .int .u32 am, .int .i64 at_, .bool ao_, .int .i64 aq, .int .i64 af] 31)).heap.size (w3.alloc (.cells #[.int .u32 ap, .int .u32 am, .int .i64 at_, .bool ao_, .int .i64 aq, .int .i64 af] 31)) w') := Lib.hid fun wx h =>
    (is_any E (errV (E 1)) 102 102 (Or.inr ⟨1, by decide, rfl, rfl⟩) wx (HE2.out.mono (HW8.out.trans (h.mono HW8.out.size)))).mono fun e w' ⟨he, hb⟩ => ⟨by rw [he]; simp, h.trans (hb.mono h.size)⟩
  have hbd : Below (w3.alloc (.cells #[.int .u32 ap, .int .u32 am, .int .i64 at_, .bool ao_, .int .i64 aq, .int .i64 af] 31)).heap.size (w3.alloc (.cells #[.int .u32 ap, .int .u32 am, .int .i64 at_, .bool ao_, .int .i64 aq, .int .i64 af] 31)) (w3.alloc (.cells #[.int .u32 ap, .int .u32 am, .int .i64 at_, .bool ao_, .int .i64 aq, .int .i64 af] 31)).drew := (Below.refl _ _).drew
  clear hb3 hbk1 hbk2 hw1 hw2 hw3
  go_wp2_with fail
  first | (go_region_held3 (fun wx => Below (w3.alloc (.cells #[.int .u32 ap, .int .u32 am, .int .i64 at_, .bool ao_, .int .i64 aq, .int .i64 af] 31)).heap.size (w3.alloc (.cells #[.int .u32 ap, .int .u32 am, .int .i64 at_, .bool ao_, .int .i64 aq, .int .i64 af] 31)) wx ∧ wx.cell? ⟨w.heap.size, 0, none⟩ = some (.int .u32 p) ∧ wx.cell? ⟨w.heap.size, 1, none⟩ = some (.int .u32 m) ∧ wx.cell? ⟨w.heap.size, 2, none⟩ = some (.int .i64 t) ∧ wx.cell? ⟨w.heap.size, 3, none⟩ = some (.bool on) ∧ wx.cell? ⟨w.heap.size, 4, none⟩ = some (.int .i64 q) ∧ wx.cell? ⟨w.heap.size, 5, none⟩ = some (.int .i64 f) ∧ wx.cell? ⟨w2.heap.size, 0, none⟩ = some (.int .u32 ap) ∧ wx.cell? ⟨w2.heap.size, 1, none⟩ = some (.int .u32 am) ∧ wx.cell? ⟨w2.heap.size, 2, none⟩ = some (.int .i64 at_) ∧ wx.cell? ⟨w2.heap.size, 3, none⟩ = some (.bool ao_) ∧ wx.cell? ⟨w2.heap.size, 4, none⟩ = some (.int .i64 aq) ∧ wx.cell? ⟨w2.heap.size, 5, none⟩ = some (.int .i64 af) ∧ wx.cell? ⟨w3.heap.size, 0, none⟩ = some (.int .u32 ap) ∧ wx.cell? ⟨w3.heap.size, 1, none⟩ = some (.int .u32 am) ∧ wx.cell? ⟨w3.heap.size, 2, none⟩ = some (.int .i64 at_) ∧ wx.cell? ⟨w3.heap.size, 3, none⟩ = some (.bool ao_) ∧ wx.cell? ⟨w3.heap.size, 4, none⟩ = some (.int .i64 aq) ∧ wx.cell? ⟨w3.heap.size, 5, none⟩ = some (.int .i64 af)) (exact HK.out _ (by assumption))
    (first
      | (go_at_call 19; refine (HWO.out _ (by assumption)).mono ?_; rintro e wa ⟨g, c, rfl, hatW, hbW, hba⟩)
      | (go_at_call 21; refine (HOT.out _ (by assumption)).mono ?_; rintro e wb ⟨rfl, hbO, hbb⟩)
      | (go_at_call 20; refine (HIW.out _ (by assumption)).mono ?_; rintro e wc ⟨g2, rfl, hatI, hbI, hbc⟩)
      | (go_at_call 18; refine (HSW.out _ _ _ _ _ (by assumption) (by first | exact hatW.mono (hbO.trans (hbI.mono hbO.size)) | exact hatW.mono hbI | exact hatW) (by first | exact hatI | exact hatI.mono hbW)).mono ?_; rintro e wd ⟨rfl, hbS⟩)
      | (go_at_call 22; refine (HSA.out _ (by assumption)).mono ?_; rintro e we ⟨rfl, hbe⟩)
      | (go_at_call 23; refine (HIS.out _ (by assumption)).mono ?_; rintro e wf ⟨rfl, hbf⟩))) | fail
  all_goals
    go_wp2
    go_ret
    exact ⟨rfl, HW8.out.trans (hbf.mono HW8.out.size)⟩

set_option maxRecDepth 100000 in
set_option maxHeartbeats 1600000 in
theorem infoSays_walk (x : InfS) (xs : List Int) (c1 : Nat) (ao : Option Addr) (E : Nat → Addr) (w : World) (hE : ErrsAt errT gOf w E all16) (hz : ∀ z ∈ xs, 0 ≤ z ∧ z ≤ 4294967295) (hr : AtL w ao (u32s xs)) (hcap : xs.length ≤ c1) :
    Calls Tryd.prog 3 #[infV x, .slice ao xs.length c1] w fun e w' => e = .returned (.bool true) ∧ Below w.heap.size w w' := by
  obtain ⟨p, m, t, on, q, f⟩ := x
  by_cases h20 : xs.length ≤ 20
  · by_cases ht : t < 0
    · have h20' : ¬ (20 : Int) < (xs.length : Int) := by omega
      clear hr hz hE
      go_enter Tryd.func3, Tryd.ntmps3
      go_wp2_with fail
      refine (inf_first _).mono ?_
      rintro e w1 ⟨rfl, hb1⟩
      have hbk : w1.heap[w.heap.size]? = some (.cells #[.int .u32 p, .int .u32 m, .int .i64 t, .bool on, .int .i64 q, .int .i64 f] 24 (0, 0)) := by
        rw [hb1.block _ (by simp)]
        exact blk_new w _
      have p2 := blk_cell hbk 2
      have p4 := blk_cell hbk 4
      have p5 := blk_cell hbk 5
      have HB : Hid (Below w.heap.size w w1) := Lib.hid (((Below.refl _ _).alloc (Nat.le_refl _) (.cells #[.int .u32 p, .int .u32 m, .int .i64 t, .bool on, .int .i64 q, .int .i64 f] 24)).trans (hb1.mono (by simp)))
      clear hb1 hbk
      go_wp2
      go_ret
      exact ⟨rfl, HB.out⟩
    by_cases hq : q < 0
    · have h20' : ¬ (20 : Int) < (xs.length : Int) := by omega
      clear hr hz hE
      go_enter Tryd.func3, Tryd.ntmps3
      go_wp2_with fail
      refine (inf_first _).mono ?_
      rintro e w1 ⟨rfl, hb1⟩
      have hbk : w1.heap[w.heap.size]? = some (.cells #[.int .u32 p, .int .u32 m, .int .i64 t, .bool on, .int .i64 q, .int .i64 f] 24 (0, 0)) := by
        rw [hb1.block _ (by simp)]
        exact blk_new w _
      have p2 := blk_cell hbk 2
      have p4 := blk_cell hbk 4
      have p5 := blk_cell hbk 5
      have HB : Hid (Below w.heap.size w w1) := Lib.hid (((Below.refl _ _).alloc (Nat.le_refl _) (.cells #[.int .u32 p, .int .u32 m, .int .i64 t, .bool on, .int .i64 q, .int .i64 f] 24)).trans (hb1.mono (by simp)))
      clear hb1 hbk
      go_wp2
      go_ret
      exact ⟨rfl, HB.out⟩
    by_cases hf : f < 0
    · have h20' : ¬ (20 : Int) < (xs.length : Int) := by omega
      clear hr hz hE
      go_enter Tryd.func3, Tryd.ntmps3
      go_wp2_with fail
      refine (inf_first _).mono ?_
      rintro e w1 ⟨rfl, hb1⟩
      have hbk : w1.heap[w.heap.size]? = some (.cells #[.int .u32 p, .int .u32 m, .int .i64 t, .bool on, .int .i64 q, .int .i64 f] 24 (0, 0)) := by
        rw [hb1.block _ (by simp)]
        exact blk_new w _
      have p2 := blk_cell hbk 2
      have p4 := blk_cell hbk 4
      have p5 := blk_cell hbk 5
      have HB : Hid (Below w.heap.size w w1) := Lib.hid (((Below.refl _ _).alloc (Nat.le_refl _) (.cells #[.int .u32 p, .int .u32 m, .int .i64 t, .bool on, .int .i64 q, .int .i64 f] 24)).trans (hb1.mono (by simp)))
      clear hb1 hbk
      go_wp2
      go_ret
      exact ⟨rfl, HB.out⟩
    cases hok : infOK xs
    · exact infoSays_bad p m t on q f xs xs.length c1 ao E w hE hr hz rfl hcap h20 ht hq hf hok
    · have h16 : xs.length = 16 := by
        unfold infOK at hok
        simp only [Bool.and_eq_true, decide_eq_true_eq] at hok
        exact hok.1.1.1.1.1
      rw [h16] at hcap ⊢
      exact infoSays_good p m t on q f xs c1 ao E w hE hr hz h16 hcap ht hq hf hok
  · have h20' : (20 : Int) < (xs.length : Int) := by omega
    clear hr hz hE
    go_enter Tryd.func3, Tryd.ntmps3
    go_wp2_with fail
    refine (inf_first _).mono ?_
    rintro e w1 ⟨rfl, hb1⟩
    have hbk : w1.heap[w.heap.size]? = some (.cells #[.int .u32 p, .int .u32 m, .int .i64 t, .bool on, .int .i64 q, .int .i64 f] 24 (0, 0)) := by
      rw [hb1.block _ (by simp)]
      exact blk_new w _
    have p2 := blk_cell hbk 2
    have p4 := blk_cell hbk 4
    have p5 := blk_cell hbk 5
    have HB : Hid (Below w.heap.size w w1) := Lib.hid (((Below.refl _ _).alloc (Nat.le_refl _) (.cells #[.int .u32 p, .int .u32 m, .int .i64 t, .bool on, .int .i64 q, .int .i64 f] 24)).trans (hb1.mono (by simp)))
    clear hb1 hbk
    go_wp2
    go_ret
    exact ⟨rfl, HB.out⟩

end Go.Proofs.YtmeljclaocgoaaaDoor
