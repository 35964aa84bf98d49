/-
  mem.Mem: Frames, Frame, Clone.
-/
import Derived.Test.YtehmpdgpjpifoaaDoorMm
namespace Go.Proofs.YtehmpdgpjpifoaaDoor
open Go.RowKit

set_option maxHeartbeats 800000 in
theorem mm_frames (l : List Int) (b n : Nat) (v : Value) (w : World) (h : MAt w b v n l) (hn : n ≤ 1024) :
    Calls Tryd.prog 14 #[.pointer (some ⟨b, 0, none⟩)] w fun e w' => e = .returned (.int .i64 n) ∧ w = w' := by
  have c := h.cell
  obtain ⟨ao, cap, rfl, -⟩ := h.slice
  clear h
  obtain ⟨N, hN⟩ : ∃ N, 16 * n = N := ⟨_, rfl⟩
  have H3 : Hid ((N : Int) / 16 = n) := Lib.hid (by omega)
  have hw := IntWalk.i64_in ((N : Int) / 16) (by omega)
  rw [hN] at c
  clear hN
  go_enter Tryd.func14, Tryd.ntmps14
  go_wp2
  go_ret
  refine ⟨?_, rfl⟩
  show Ending.returned (Value.int .i64 ((N : Int) / 16)) = _
  rw [H3.out]

def frameW (l : List Int) (f : Nat) : List Int := (l.drop (16 * f)).take 16
theorem frameW_len (l : List Int) (n f : Nat) (hl : l.length = 16 * n) (hf : f < n) : (frameW l f).length = 16 := by simp [frameW]; omega
theorem frameW_get (l : List Int) (n f k : Nat) (hl : l.length = 16 * n) (hf : f < n) (hk : k < 16) : (frameW l f).getD k 0 = l.getD (16 * f + k) 0 := by
  simp [frameW, List.getD_eq_getElem?_getD, List.getElem?_take, hk]

set_option maxHeartbeats 800000 in
theorem mm_frame_none (l : List Int) (b n : Nat) (v : Value) (f : Int) (w : World) (h : MAt w b v n l) (hn : n ≤ 1024) (hf : f < 0 ∨ (n : Int) ≤ f) :
    Calls Tryd.prog 47 #[.pointer (some ⟨b, 0, none⟩), .int .i64 f] w fun e w' => e = .returned (.tuple #[.slice none 0 0, .bool false]) ∧ w = w' := by
  have HM := Lib.hid h
  clear h
  by_cases h0 : f < 0
  · clear hf
    go_enter Tryd.func47, Tryd.ntmps47
    go_wp2
    go_ret2
    exact ⟨rfl, rfl⟩
  · have h1 : (n : Int) ≤ f := by omega
    clear hf
    go_enter Tryd.func47, Tryd.ntmps47
    go_wp2_with fail
    refine (mm_frames l b n v _ HM.out hn).mono ?_
    rintro e w1 ⟨rfl, rfl⟩
    go_wp2
    go_ret2
    exact ⟨rfl, rfl⟩

set_option maxHeartbeats 1600000 in
theorem mm_frame (l : List Int) (b n f : Nat) (v : Value) (w : World) (h : MAt w b v n l) (hn : n ≤ 1024) (hf : f < n) :
    Calls Tryd.prog 47 #[.pointer (some ⟨b, 0, none⟩), .int .i64 f] w fun e w' => ∃ v', e = .returned (.tuple #[v', .bool true]) ∧ w'.ownsRow 0 24 1 v' 16 (u32s (frameW l f)) ∧ (∀ k, inRow v' k → w.heap.size ≤ k) ∧ Below w.heap.size w w' := by
  have c := h.cell
  have HM := Lib.hid h
  have hlen := h.2.2
  obtain ⟨g, cap, rfl, hcap⟩ := h.own (by omega)
  have hrd : Reads w (.slice (some ⟨g, 16 * f, none⟩) 16 (cap - 16 * f)) 16 (u32s (frameW l f)) := .inr ⟨⟨g, 16 * f, none⟩, cap - 16 * f, rfl, fun j u hj => by
    have hj16 : j < 16 := by
      have := (List.getElem?_eq_some_iff.mp hj).1
      rw [u32s, List.length_map, frameW_len l n f hlen hf] at this
      exact this
    rw [u32s_get _ j (by rw [frameW_len l n f hlen hf]; exact hj16), frameW_get l n f j hlen hf hj16] at hj
    rw [Addr.add_lit]
    rw [← hj]
    exact (own_cell h.2.1 (16 * f + j) (by omega)).trans (u32s_get l (16 * f + j) (by omega))⟩
  have HRD := Lib.hid hrd
  have HLN : Hid ((u32s (frameW l f)).length = 16 * 1) := Lib.hid (by rw [u32s, List.length_map, frameW_len l n f hlen hf])
  have h1 := IntWalk.i64_in ((f : Int) * 16) (by omega)
  have h2 := IntWalk.i64_in ((f : Int) + 1) (by omega)
  have h3 := IntWalk.i64_in (((f : Int) + 1) * 16) (by omega)
  have hfi : (f : Int) < (n : Int) := by omega
  have e1 : ((f : Int) * 16).toNat = 16 * f := by omega
  have e2 : (((f : Int) + 1) * 16).toNat = 16 * f + 16 := by omega
  have g1 : (0 : Int) ≤ (f : Int) * 16 := by omega
  have g2 : (f : Int) * 16 ≤ ((f : Int) + 1) * 16 := by omega
  have g3 : ((f : Int) + 1) * 16 ≤ (cap : Int) := by omega
  clear h hrd hlen
  go_enter Tryd.func47, Tryd.ntmps47
  go_wp2_with fail
  refine (mm_frames l b n _ _ HM.out hn).mono ?_
  rintro e w1 ⟨rfl, rfl⟩
  go_wp2_with fail
  refine (cloneU32 _ 16 (u32s (frameW l f)) _ HRD.out (by decide) HLN.out (u32s_one _)).mono ?_
  rintro e w2 ⟨v', rfl, ho, hf2, hb2⟩
  have HO := Lib.hid ho
  have HF := Lib.hid hf2
  have HB := Lib.hid hb2
  obtain ⟨ao2, cap2, rfl⟩ := own_slice ho
  clear ho hf2 hb2
  go_wp2
  go_ret2
  exact ⟨_, rfl, HO.out, HF.out, HB.out⟩

set_option maxHeartbeats 800000 in
theorem mm_clone (l : List Int) (b n : Nat) (v : Value) (w : World) (h : MAt w b v n l) (hn : n ≤ 1024) :
    Calls Tryd.prog 37 #[.pointer (some ⟨b, 0, none⟩)] w fun e w' => ∃ cb cv, e = .returned (.pointer (some ⟨cb, 0, none⟩)) ∧ MAt w' cb cv n l ∧ w.heap.size ≤ cb ∧ (∀ k, inRow cv k → w.heap.size ≤ k) ∧ Below w.heap.size w w' := by
  have c := h.cell
  have HR := Lib.hid (own_reads h.2.1)
  have HLN := Lib.hid h.2.2
  have HLN2 : Hid ((u32s l).length = 16 * n * 1) := Lib.hid (by rw [u32s, List.length_map, h.2.2, Nat.mul_one])
  clear h
  go_enter Tryd.func37, Tryd.ntmps37
  go_wp2_with fail
  refine (cloneU32 v (16 * n) (u32s l) _ HR.out (by omega) HLN2.out (u32s_one l)).mono ?_
  rintro e w1 ⟨v', rfl, ho, hf, hb⟩
  have HP : Hid (MAt (w1.alloc (.cells #[v'] 82)) w1.heap.size v' n l) := Lib.hid ⟨blk_new _ _, ho.alloc _, HLN.out⟩
  have HF := Lib.hid hf
  have HB := Lib.hid (hb.alloc hb.size (.cells #[v'] 82))
  have HS := Lib.hid hb.size
  obtain ⟨ao, cap, rfl⟩ := own_slice ho
  clear ho hf hb
  go_wp2
  go_ret
  exact ⟨_, _, rfl, HP.out, HS.out, HF.out, HB.out⟩
end Go.Proofs.YtehmpdgpjpifoaaDoor
