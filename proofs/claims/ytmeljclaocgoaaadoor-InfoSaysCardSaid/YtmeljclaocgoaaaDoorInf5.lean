/-
  facadelaw23.other, same; facaderef16.InfoWords; facadelaw23.first.
-/
import Derived.Test.YtmeljclaocgoaaaDoorInf4
namespace Go.Proofs.YtmeljclaocgoaaaDoor
open Go.RowKit

theorem blk_new2 (w : World) (x y : Obj) : ((w.alloc x).alloc y).heap[w.heap.size + 1]? = some y := by have := blk_new (w.alloc x) y; simpa using this
theorem new2_cell (w : World) (x : Obj) (cs : Array Value) (T : TypeId) (i : Nat) : ((w.alloc x).alloc (.cells cs T)).cell? ⟨w.heap.size + 1, i, none⟩ = cs[i]? := blk_cell (blk_new2 w x _) i
theorem two_below (w : World) (x y : Obj) : Below w.heap.size w ((w.alloc x).alloc y) := ((Below.refl _ _).alloc (Nat.le_refl _) _).alloc (by simp) _

theorem other_any (x : InfS) (w : World) : Calls Tryd.prog 21 #[infV x] w fun e w' => e = .returned (infV x) ∧ Below w.heap.size w w' := by
  obtain ⟨p, m, t, on, q, f⟩ := x
  go_enter Tryd.func21, Tryd.ntmps21
  go_wp2
  exact bodyPost_ret (v := infV ⟨p, m, t, on, q, f⟩) (by simp [results, Tryd.results21, go_sem, new2_cell]) rfl ⟨rfl, two_below _ _ _⟩

theorem same_refl (x : InfS) (w : World) : Calls Tryd.prog 22 #[infV x, infV x] w fun e w' => e = .returned (.bool true) ∧ Below w.heap.size w w' := by
  obtain ⟨p, m, t, on, q, f⟩ := x
  go_enter Tryd.func22, Tryd.ntmps22
  go_wp2
  go_ret
  exact ⟨rfl, two_below _ _ _⟩

theorem own_at {w : World} {e : TypeId} {size : Nat} {ao : Option Addr} {m n cap : Nat} {xs : List Value} (h : w.ownsRow 0 e size (.slice ao m cap) n xs) : AtL w ao xs := by
  obtain ⟨ao', cap', e, hat⟩ := atL_of_own h
  cases e
  exact hat
def z16w : Array Value := #[.int .u32 0, .int .u32 0, .int .u32 0, .int .u32 0, .int .u32 0, .int .u32 0, .int .u32 0, .int .u32 0, .int .u32 0, .int .u32 0, .int .u32 0, .int .u32 0, .int .u32 0, .int .u32 0, .int .u32 0, .int .u32 0]
theorem made16w : ∀ w, (Instr.makeSlice 25 (.int .i64 16) (.int .i64 16)).run Tryd.prog w = .ok (.slice (some ⟨w.heap.size, 0, none⟩) 16 16) (w.alloc (.cells z16w 22)) := fun _ => by kernel_rfl
theorem blk_atL {w : World} {g : Nat} {l : List Int} {T : TypeId} {cs : Array Value} {f : Nat × Nat} (h : w.heap[g]? = some (.cells cs T f)) (hf : f = (0, 0)) (hl : cs.toList = u32s l) : AtL w (some ⟨g, 0, none⟩) (u32s l) := by
  subst hf
  intro k u hk
  refine ⟨g, 0, rfl, ?_, blk_lt h⟩
  rw [Nat.zero_add, blk_cell h k, ← Array.getElem?_toList, hl]
  exact hk
theorem sameWords_n (xs ys : List Int) (n m : Nat) (hn : xs.length = n) (hm : ys.length = m) (ao bo : Option Addr) (c1 c2 : Nat) (w : World) (hx : AtL w ao (u32s xs)) (hy : AtL w bo (u32s ys)) (hl : n ≤ 1000000000) (hl2 : m ≤ 1000000000) :
    Calls Tryd.prog 18 #[.slice ao n c1, .slice bo m c2] w fun e w' => e = .returned (.bool (decide (xs = ys))) ∧ ∃ n, w' = w.drewN n := by
  subst hn hm
  exact sameWords_any xs ys ao bo c1 c2 w hx hy hl hl2

set_option maxRecDepth 100000 in
set_option maxHeartbeats 1600000 in
theorem refWords_any (x : InfS) (w : World) : Calls Tryd.prog 20 #[infV x] w fun e w' => ∃ g, e = .returned (.slice (some ⟨g, 0, none⟩) 16 16) ∧ AtL w' (some ⟨g, 0, none⟩) (u32s (infW x)) ∧ Below w.heap.size w w' := by
  obtain ⟨p, m, t, on, q, f⟩ := x
  have hmk := made16w
  unfold z16w at hmk
  cases on
  all_goals
    go_enter Tryd.func20, Tryd.ntmps20
    go_wp2_with fail
    go_ret
    exact ⟨_, rfl, blk_atL (blk_new2 _ _ _) rfl rfl, two_below _ _ _⟩

def infNil : InfS := ⟨0, 0, 0, false, 0, 0⟩
set_option maxRecDepth 100000 in
set_option maxHeartbeats 1600000 in
theorem inf_first (w : World) : Calls Tryd.prog 15 #[] w fun e w' => e = .returned (.bool true) ∧ Below w.heap.size w w' := by
  have hmk := made16w
  unfold z16w at hmk
  have HW : Hid (∀ wx, Below w.heap.size w wx → Calls Tryd.prog 19 #[infV infNil] wx fun e w' => ∃ g c, e = .returned (.slice (some ⟨g, 0, none⟩) 16 c) ∧ AtL w' (some ⟨g, 0, none⟩) (u32s (infW infNil)) ∧ Below wx.heap.size wx w' ∧ Below w.heap.size w w') := Lib.hid fun wx h =>
    (inf_words infNil wx).mono fun e w' ⟨g, c, he, ho, _, hb⟩ => ⟨g, c, he, own_at ho, hb, h.trans (hb.mono h.size)⟩
  have HA : Hid (∀ (wx : World) (g : Nat) (o : Obj), AtL wx (some ⟨g, 0, none⟩) (u32s (infW infNil)) → AtL (wx.alloc o) (some ⟨g, 0, none⟩) (u32s (infW infNil))) := Lib.hid fun wx g o h => h.mono ((Below.refl _ _).alloc (Nat.le_refl _) _)
  have HZ : Hid (∀ (wx w' : World), Below (wx.alloc (.cells z16w 22)).heap.size (wx.alloc (.cells z16w 22)) w' → AtL w' (some ⟨wx.heap.size, 0, none⟩) (u32s (List.replicate 16 0))) := Lib.hid fun wx w' h =>
    (blk_atL (blk_new wx _) rfl rfl : AtL (wx.alloc (.cells z16w 22)) _ _).mono h
  have HZD : Hid (∀ (wx w' : World), Below (wx.alloc (.cells z16w 22)).drew.heap.size (wx.alloc (.cells z16w 22)).drew w' → AtL w' (some ⟨wx.heap.size, 0, none⟩) (u32s (List.replicate 16 0))) := Lib.hid fun wx w' h =>
    (blk_atL (blk_new wx _) rfl rfl : AtL (wx.alloc (.cells z16w 22)).drew _ _).mono h
  have HAL : Hid (∀ (wx : World) (o : Obj), Below w.heap.size w wx → Below w.heap.size w (wx.alloc o)) := Lib.hid fun wx o h => h.alloc h.size o
  have HSW : Hid (∀ (wx : World) (a b : Option Addr) (c1 c2 : Nat), Below w.heap.size w wx → AtL wx a (u32s (infW infNil)) → AtL wx b (u32s (List.replicate 16 0)) → Calls Tryd.prog 18 #[.slice a 16 c1, .slice b 16 c2] wx fun e w' => e = .returned (.bool true) ∧ Below w.heap.size w w') := Lib.hid fun wx a b c1 c2 h h1 h2 =>
    (sameWords_n _ _ 16 16 rfl rfl a b c1 c2 wx h1 h2 (by decide) (by decide)).mono fun e w' ⟨he, n, hw⟩ => ⟨by rw [he]; rfl, by rw [hw]; exact below_drewN h n⟩
  have hbd : Below w.heap.size w w.drew := (Below.refl _ _).drew
  unfold z16w at HZ HZD
  go_enter Tryd.func15, Tryd.ntmps15
  go_wp2_with fail
  go_region_held3 (fun wx => Below w.heap.size w wx) (first | assumption | exact HAL.out _ _ (by assumption))
    (first
      | (go_at_call 19; refine (HW.out _ (by assumption)).mono ?_; rintro e w1 ⟨g, c, rfl, hat, hbz, hb1⟩)
      | (go_at_call 18; refine (HSW.out _ _ _ _ _ (by assumption) (by first | exact HA.out _ _ _ hat | exact hat) (by first | exact HZ.out _ _ (Below.refl _ _) | exact HZ.out _ _ hbz | exact HZD.out _ _ hbz | exact HZD.out _ _ (Below.refl _ _))).mono ?_; rintro e w2 ⟨rfl, hb2⟩))
  all_goals
    go_wp2
    go_ret
    exact ⟨rfl, hb2⟩
end Go.Proofs.YtmeljclaocgoaaaDoor
