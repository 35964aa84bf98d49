/-
  mem.Mem: Frames, Frame, Clone.
-/
import Derived.Test.YtnhocmmgdkiepaaDoorMm
namespace Go.Proofs.YtnhocmmgdkiepaaDoor
open Go.RowKit

set_option maxHeartbeats 800000 in
theorem mm_frames (l : List Int) (b n : Nat) (v : Value) (w : World) (h : MAt w b v n l) (hn : n ≤ 1024) :
    Calls Tryd.prog 100 #[.pointer (some ⟨b, 0, none⟩)] w fun e w' => e = .returned (.int .i64 n) ∧ w = w' := by
  have c := h.cell
  obtain ⟨ao, cap, rfl, -⟩ := h.slice
  clear h
  obtain ⟨N, hN⟩ : ∃ N, 16 * n = N := ⟨_, rfl⟩
  have H3 : Hid ((N : Int) / 16 = n) := Lib.hid (by omega)
  have hw := IntWalk.i64_in ((N : Int) / 16) (by omega)
  rw [hN] at c
  clear hN
  go_enter Tryd.func100, Tryd.ntmps100
  go_wp2
  go_ret
  refine ⟨?_, rfl⟩
  show Ending.returned (Value.int .i64 ((N : Int) / 16)) = _
  rw [H3.out]

def frameW (l : List Int) (f : Nat) : List Int := (l.drop (16 * f)).take 16
theorem frameW_len (l : List Int) (n f : Nat) (hl : l.length = 16 * n) (hf : f < n) : (frameW l f).length = 16 := by simp [frameW]; omega
theorem frameW_get (l : List Int) (n f k : Nat) (hl : l.length = 16 * n) (hf : f < n) (hk : k < 16) : (frameW l f).getD k 0 = l.getD (16 * f + k) 0 := by
  simp [frameW, List.getD_eq_getElem?_getD, List.getElem?_take, hk]