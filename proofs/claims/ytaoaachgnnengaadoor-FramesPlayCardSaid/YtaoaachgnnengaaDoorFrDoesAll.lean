/-
  facadelaw16.does, whatever is told; both frames together.
-/
import Derived.Test.YtaoaachgnnengaaDoorFrDoes
namespace Go.Proofs.YtaoaachgnnengaaDoor
open Go.RowKit Go.Deep

set_option maxRecDepth 100000 in
set_option maxHeartbeats 3200000 in
theorem does_1 (E : Nat → Addr) (l : List Fr) (b g x y n : Nat) (m a bb c : Int) (w : World) (hE : ∀ wx, Only (fun k => k = g ∨ k = y) w wx → ErrsAt errT gOf wx E all16) (h1 : FrAt 95 33 w b g n l) (h2 : FrAt 54 51 w x y n l) (hby : b ≠ y) (hgy : g ≠ y) (hxg : x ≠ g) (hOk : FrOk m l) (hm : m ≤ 1000000) :
    Calls Tryd.prog 20 #[.pointer (some ⟨b, 0, none⟩), .pointer (some ⟨x, 0, none⟩), .agg #[.int .i64 1, .int .i64 a, .int .i64 bb, .int .i64 c]] w (DoesPost b g x y n (frAlloc l a).l w) := by
  obtain ⟨wA, hwA⟩ : ∃ wA, wA = w.alloc (.cells #[.int .i64 1, .int .i64 a, .int .i64 bb, .int .i64 c] 45) := ⟨_, rfl⟩
  have hba : Below w.heap.size w wA := hwA ▸ Below.alloc (Below.refl _ _) (Nat.le_refl _) _
  have HBA := Lib.hid hba
  have HBLK : Hid (wA.heap[w.heap.size]? = some (.cells #[.int .i64 1, .int .i64 a, .int .i64 bb, .int .i64 c] 45 (0, 0))) := Lib.hid (hwA ▸ blk_new w _)
  have HNE : Hid (w.heap.size ≠ g ∧ w.heap.size ≠ y) := Lib.hid ⟨by have := h1.lt.2; omega, by have := h2.lt.2; omega⟩
  have HKA : Hid (∀ wx, Only (fun k => k = g ∨ k = y) wA wx → wx.cell? ⟨w.heap.size, 1, none⟩ = some (.int .i64 a)) := Lib.hid fun wx h => by
    have hb := h.blk HBLK.out (fun e => e.elim HNE.out.1 HNE.out.2)
    exact blk_cell hb 1
  have H2 := Lib.hid (h2.below hba)
  have HBY := Lib.hid hby
  have HGY := Lib.hid hgy
  have HXG := Lib.hid hxg
  have HW1 := Lib.hid (falloc_any E l b g n a wA (hE _ (Only.of_below hba)) (h1.below hba))
  have HW2 := Lib.hid (fun w5 (h : FrAt 54 51 w5 x y n l) => ralloc_any l x y n a w5 (fun z hz e => (hOk z hz).1 e) h)
  have HSM := Lib.hid (frC_alloc l a)
  have HEK : Hid (∀ wx, Only (fun k => k = g ∨ k = y) wA wx → ErrsAt errT gOf wx E all16) := Lib.hid fun wx h => hE _ ((Only.of_below hba).trans h)
  obtain ⟨⟨l', nn, cc⟩, hR⟩ : ∃ R, frAlloc l a = R := ⟨_, rfl⟩
  rw [hR] at HW1 HW2 HSM ⊢
  unfold FrQA at HW1
  unfold FrNA at HW2
  unfold DoesPost
  dsimp only at HW1 HW2 HSM ⊢
  have HIS : Hid (∀ w6, Only (fun k => k = g ∨ k = y) wA w6 → Calls Tryd.prog 17 #[errC E cc, .int .i64 cc] w6 fun e w' => e = .returned (.bool true) ∧ Below w6.heap.size w6 w') := Lib.hid fun w6 h => by
    have := is_any E (errC E cc) cc cc (errC_num E cc HSM.out) w6 (HEK.out _ h)
    rwa [decide_eq_true rfl] at this
  have HWA := Lib.hid hwA
  have a0 : wA.cell? ⟨w.heap.size, 1, none⟩ = some (.int .i64 a) := HKA.out _ (Only.refl _ _)
  clear hE h1 h2 hR hba hwA hby hgy hxg hOk hm
  go_enter Tryd.func20, Tryd.ntmps20
  go_wp2_with fail
  rw [← HWA.out]
  refine HW1.out.mono ?_
  rintro e w5 ⟨rfl, hn5, ho5⟩
  have HR5 := Lib.hid (H2.out.only ho5 HXG.out (fun e => HGY.out e.symm))
  have HB5 : Hid (Only (fun k => k = g ∨ k = y) wA w5) := Lib.hid (ho5.mono fun k hk => .inl (.inl hk))
  have HN5 := Lib.hid hn5
  have a5 := HKA.out _ HB5.out
  clear hn5 ho5 a0
  go_wp2_with fail
  refine (HW2.out w5 HR5.out).mono ?_
  rintro e w6 ⟨rfl, hr6, ho6⟩
  have HB6 : Hid (Only (fun k => k = g ∨ k = y) wA w6) := Lib.hid (HB5.out.trans (ho6.mono fun k hk => .inl (.inr hk)))
  have HR6 := Lib.hid hr6
  have HN6 := Lib.hid (HN5.out.only ho6 HBY.out HGY.out)
  clear hr6 ho6 a5
  go_wp2_with fail
  refine (HIS.out _ HB6.out).mono ?_
  rintro e w7 ⟨rfl, hb7⟩
  have HF1 := Lib.hid (HN6.out.below hb7)
  have HF2 := Lib.hid (HR6.out.below hb7)
  have HO := Lib.hid ((Only.of_below (F := fun k => k = g ∨ k = y) HBA.out).trans (HB6.out.below' hb7))
  clear hb7
  go_wp2
  go_ret
  exact ⟨rfl, HF1.out, HF2.out, HO.out⟩
theorem does_all (E : Nat → Addr) (l : List Fr) (b g x y n : Nat) (m kd a bb c : Int) (w : World) (hE : ∀ wx, Only (fun k => k = g ∨ k = y) w wx → ErrsAt errT gOf wx E all16) (h1 : FrAt 95 33 w b g n l) (h2 : FrAt 54 51 w x y n l) (hby : b ≠ y) (hgy : g ≠ y) (hxg : x ≠ g) (hOk : FrOk m l) (hm : m ≤ 1000000) :
    Calls Tryd.prog 20 #[.pointer (some ⟨b, 0, none⟩), .pointer (some ⟨x, 0, none⟩), .agg #[.int .i64 kd, .int .i64 a, .int .i64 bb, .int .i64 c]] w (DoesPost b g x y n (frDo l ⟨kd, a, bb, c⟩).l w) := by
  unfold frDo
  dsimp only
  by_cases k1 : kd = 1
  · subst k1
    rw [if_pos rfl]
    exact does_1 E l b g x y n m a bb c w hE h1 h2 hby hgy hxg hOk hm
  rw [if_neg k1]
  by_cases k2 : kd = 2
  · subst k2
    rw [if_pos rfl]
    exact does_2 E l b g x y n m a bb c w hE h1 h2 hby hgy hxg hOk hm
  rw [if_neg k2]
  by_cases k3 : kd = 3
  · subst k3
    rw [if_pos rfl]
    exact does_3 E l b g x y n m a bb c w hE h1 h2 hby hgy hxg hOk hm
  rw [if_neg k3]
  by_cases k4 : kd = 4
  · subst k4
    rw [if_pos rfl]
    exact does_4 E l b g x y n m a bb c w hE h1 h2 hby hgy hxg hOk hm
  rw [if_neg k4]
  by_cases k5 : kd = 5
  · subst k5
    rw [if_pos rfl]
    exact does_5 E l b g x y n m a bb c w hE h1 h2 hby hgy hxg hOk hm
  rw [if_neg k5]
  by_cases k6 : kd = 6
  · subst k6
    rw [if_pos rfl]
    exact does_6 E l b g x y n m a bb c w hE h1 h2 hby hgy hxg hOk hm
  rw [if_neg k6]
  by_cases k7 : kd = 7
  · subst k7
    rw [if_pos rfl]
    exact does_7 E l b g x y n m a bb c w hE h1 h2 hby hgy hxg hOk hm
  rw [if_neg k7]
  exact does_8 E l b g x y n m a bb c w kd (by simp [k1]) (by simp [k2]) (by simp [k3]) (by simp [k4]) (by simp [k5]) (by simp [k6]) (by simp [k7]) hE h1 h2 hby hgy hxg hOk hm

/-- both frames, the same; in memory that is new -/
structure FrS (w : World) (b g x y n : Nat) (l : List Fr) (wr : World) : Prop where
  n1 : FrAt 95 33 wr b g n l
  r1 : FrAt 54 51 wr x y n l
  by_ : b ≠ y
  gy : g ≠ y
  xg : x ≠ g
  hg : w.heap.size ≤ g
  hy : w.heap.size ≤ y
  wb : Below w.heap.size w wr
theorem FrS.below {w : World} {b g x y n : Nat} {l : List Fr} {wr wy : World} (h : FrS w b g x y n l wr) (hb : Below wr.heap.size wr wy) : FrS w b g x y n l wy :=
  ⟨h.n1.below hb, h.r1.below hb, h.by_, h.gy, h.xg, h.hg, h.hy, h.wb.trans (hb.mono h.wb.size)⟩
theorem FrS.errs {E : Nat → Addr} {w : World} {b g x y n : Nat} {l : List Fr} {wr : World} (h : FrS w b g x y n l wr) (hE : ∀ wx, Below w.heap.size w wx → ErrsAt errT gOf wx E all16) : ∀ wx, Only (fun k => k = g ∨ k = y) wr wx → ErrsAt errT gOf wx E all16 := fun wx ho =>
  hE wx (h.wb.trans (ho.below h.wb.size (fun k hk => by rcases hk with rfl | rfl; exact h.hg; exact h.hy)))
theorem FrS.does {w : World} {b g x y n : Nat} {l l' : List Fr} {wr wy : World} (h : FrS w b g x y n l wr) (h1 : FrAt 95 33 wy b g n l') (h2 : FrAt 54 51 wy x y n l') (ho : Only (fun k => k = g ∨ k = y) wr wy) : FrS w b g x y n l' wy :=
  ⟨h1, h2, h.by_, h.gy, h.xg, h.hg, h.hy, h.wb.trans (ho.below h.wb.size (fun k hk => by rcases hk with rfl | rfl; exact h.hg; exact h.hy))⟩
end Go.Proofs.YtaoaachgnnengaaDoor
