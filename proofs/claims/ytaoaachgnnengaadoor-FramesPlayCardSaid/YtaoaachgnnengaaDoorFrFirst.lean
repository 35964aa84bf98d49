/-
  facadelaw16.first: the chapter's examples.
-/
import Derived.Test.YtaoaachgnnengaaDoorFrNew
import Derived.Test.YtaoaachgnnengaaDoorFrAlloc
import Derived.Test.YtaoaachgnnengaaDoorFrOf
import Derived.Test.YtaoaachgnnengaaDoorSameInts
namespace Go.Proofs.YtaoaachgnnengaaDoor
open Go.RowKit Go.Deep

theorem frOwn_atL {w : World} {v : Value} {l : List Int} (h : w.ownsRow 0 3 1 v l.length (ints l)) : ∃ ao cap, v = .slice ao l.length cap ∧ AtL w ao (ints l) := atL_of_own h
set_option maxRecDepth 100000 in
set_option maxHeartbeats 1600000 in
theorem fr_first (E : Nat → Addr) (w : World) (hE : ErrsAt errT gOf w E all16) :
    Calls Tryd.prog 11 #[] w fun e w' => e = .returned (.bool true) ∧ Below w.heap.size w w' := by
  have HEK : Hid (∀ wx, Below w.heap.size w wx → ErrsAt errT gOf wx E all16) := Lib.hid fun wx hx => hE.mono hx
  clear hE
  go_enter Tryd.func11, Tryd.ntmps11
  go_wp2_with fail
  refine (fnew_ok 3 _ (by decide) (by decide)).mono ?_
  rintro e w1 ⟨b, g, rfl, hf, hbb, hgg, hb1⟩
  have HF := Lib.hid hf
  have HBB := Lib.hid hbb
  have HGG := Lib.hid hgg
  have HB1 := Lib.hid hb1
  clear hf hbb hgg hb1
  go_wp2_with fail
  refine (falloc_any E (List.replicate 3 frNo) b g 3 2 w1 (HEK.out _ HB1.out) HF.out).mono ?_
  rintro e w2 ⟨rfl, hf, ho⟩
  have HF2 : Hid (FrAt 95 33 w2 b g 3 [⟨2, 0, 0, 0⟩, frNo, frNo]) := Lib.hid hf
  have HB2 : Hid (Below w.heap.size w w2) := Lib.hid (HB1.out.trans (ho.below HB1.out.size (fun k hk => by subst hk; exact HGG.out)))
  have hn : (frAlloc (List.replicate 3 frNo) 2).n = 0 := by decide
  have hc : errC E (frAlloc (List.replicate 3 frNo) 2).c = .nilIface := by
    rw [show (frAlloc (List.replicate 3 frNo) 2).c = 0 by decide]
    rfl
  rw [hn, hc]
  clear hf ho hn hc
  go_wp2_with fail
  refine (fof_any [⟨2, 0, 0, 0⟩, frNo, frNo] b 3 _ 2 w2 (by decide) HF2.out.rd).mono ?_
  rintro e w3 ⟨v, rfl, hown, hfr, hb3, -⟩
  have hl : frOf [⟨2, 0, 0, 0⟩, frNo, frNo] 2 3 = [0] := by decide
  have hown' : w3.ownsRow 0 3 1 v 1 (ints [0]) := hown
  obtain ⟨ao, cap, rfl, hat⟩ := atL_of_own hown'
  have HAT := Lib.hid hat
  have HB3 := Lib.hid (HB2.out.trans (hb3.mono HB2.out.size))
  clear hown hown' hfr hb3 hat hl
  go_wp2_with fail
  refine (sameInts_any [0] [0] ao (some ⟨w3.heap.size, 0, none⟩) cap 1 _ (HAT.out.mono ((Below.refl _ _).alloc (Nat.le_refl _) _)) (fun k u hk => ⟨w3.heap.size, 0, rfl, by rw [blk_cell (blk_new w3 _), Nat.zero_add, List.getElem?_toArray]; exact hk, by simp⟩) (by decide) (by decide)).mono ?_
  rintro e w4 ⟨rfl, nq, rfl⟩
  have HB4 : Hid (Below w.heap.size w ((w3.alloc (.cells #[.int .i64 0] 3)).drewN nq)) := Lib.hid (below_drewN (HB3.out.alloc HB3.out.size _) _)
  go_wp2
  go_ret
  exact ⟨rfl, HB4.out⟩
end Go.Proofs.YtaoaachgnnengaaDoor
