/-
  facaderef1.Mem: what its functions answer, over the list of its words.
-/
import Derived.Test.YtehmpdgpjpifoaaDoorMm7
import Derived.Test.YtehmpdgpjpifoaaDoorMrB
import Derived.Test.YtehmpdgpjpifoaaDoorCopyWords
namespace Go.Proofs.YtehmpdgpjpifoaaDoor
open Go.RowKit

set_option maxHeartbeats 800000 in
theorem mr_frame_none (l : List Int) (b n : Nat) (v : Value) (f : Int) (w : World) (h : MAr w b v n l) (hn : n ≤ 1024) (hf : f < 0 ∨ (n : Int) ≤ f) :
    Calls Tryd.prog 48 #[.pointer (some ⟨b, 0, none⟩), .int .i64 f] w fun e w' => e = .returned (.tuple #[.slice none 0 0, .bool false]) ∧ w = w' := by
  have HM := Lib.hid h
  clear h
  by_cases h0 : f < 0
  · clear hf
    go_enter Tryd.func48, Tryd.ntmps48
    go_wp2
    go_ret2
    exact ⟨rfl, rfl⟩
  · have h1 : (n : Int) ≤ f := by omega
    clear hf
    go_enter Tryd.func48, Tryd.ntmps48
    go_wp2_with fail
    refine (mr_frames l b n v _ HM.out hn).mono ?_
    rintro e w1 ⟨rfl, rfl⟩
    go_wp2
    go_ret2
    exact ⟨rfl, rfl⟩

theorem atL_of_mr {w : World} {b n f g cap : Nat} {l : List Int} (h : MAr w b (.slice (some ⟨g, 0, none⟩) (16 * n) cap) n l) (hf : f < n) : AtL w (some ⟨g, 16 * f, none⟩) (u32s (frameW l f)) := fun j u hj => by
  have hlen := h.2.2
  have hj16 : j < 16 := by
    have := (List.getElem?_eq_some_iff.mp hj).1
    rw [u32s, List.length_map, frameW_len l n f hlen hf] at this
    exact this
  rw [u32s_get _ j (by rw [frameW_len l n f hlen hf]; exact hj16), frameW_get l n f j hlen hf hj16] at hj
  have hc : w.cell? ⟨g, 16 * f + j, none⟩ = some u := by
    rw [← hj]
    exact (own_cell h.2.1 (16 * f + j) (by omega)).trans (u32s_get l (16 * f + j) (by omega))
  exact ⟨g, 16 * f, rfl, hc, World.block_lt_of_cell? w ⟨g, 16 * f + j, none⟩ hc⟩

set_option maxHeartbeats 1600000 in
theorem mr_frame (l : List Int) (b n f : Nat) (v : Value) (w : World) (h : MAr w b v n l) (hn : n ≤ 1024) (hf : f < n) :
    Calls Tryd.prog 48 #[.pointer (some ⟨b, 0, none⟩), .int .i64 f] w fun e w' => ∃ v', e = .returned (.tuple #[v', .bool true]) ∧ w'.ownsRow 0 24 1 v' 16 (u32s (frameW l f)) ∧ (∀ k, inRow v' k → w.heap.size ≤ k) ∧ Below w.heap.size w w' := by
  have c := h.cell
  have HM := Lib.hid h
  have hlen := h.2.2
  obtain ⟨g, cap, rfl, hcap⟩ := h.own (by omega)
  have hcw := copyWords_any (some ⟨g, 16 * f, none⟩) (cap - 16 * f) (frameW l f) w (atL_of_mr h hf) (by rw [frameW_len l n f hlen hf]; decide)
  rw [frameW_len l n f hlen hf] at hcw
  have HCW := Lib.hid hcw
  have h1 := IntWalk.i64_in (16 * (f : Int)) (by omega)
  have h3 := IntWalk.i64_in (16 * (f : Int) + 16) (by omega)
  have hfi : (f : Int) < (n : Int) := by omega
  have e1 : (16 * (f : Int)).toNat = 16 * f := by omega
  have e2 : (16 * (f : Int) + 16).toNat = 16 * f + 16 := by omega
  have g1 : (0 : Int) ≤ 16 * (f : Int) := by omega
  have g2 : 16 * (f : Int) ≤ 16 * (f : Int) + 16 := by omega
  have g3 : 16 * (f : Int) + 16 ≤ (cap : Int) := by omega
  clear h hlen hcw
  go_enter Tryd.func48, Tryd.ntmps48
  go_wp2_with fail
  refine (mr_frames l b n _ _ HM.out hn).mono ?_
  rintro e w1 ⟨rfl, rfl⟩
  go_wp2_with fail
  refine HCW.out.mono ?_
  rintro e w2 ⟨v', rfl, ho, hf2, hb2⟩
  have HO := Lib.hid ho
  have HF := Lib.hid hf2
  have HB := Lib.hid hb2
  obtain ⟨ao2, cap2, rfl⟩ := own_slice ho
  clear ho hf2 hb2
  go_wp2
  go_ret2
  exact ⟨_, rfl, HO.out, HF.out, HB.out⟩

end Go.Proofs.YtehmpdgpjpifoaaDoor
