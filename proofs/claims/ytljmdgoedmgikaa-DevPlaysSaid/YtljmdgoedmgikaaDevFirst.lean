/-
  Devices: new ones; the chapter's examples.
-/
import Derived.Test.YtljmdgoedmgikaaDev3
namespace Go.Proofs.Ytljmdgoedmgikaa
open Go.RowKit

theorem DevAt.tight {w : World} {b : Nat} {D : DevS} {F : Nat → Prop} (h : DevAt w b D F) : DevAt w b D (fun k => F k ∧ k < w.heap.size) := by
  obtain ⟨kv, sv, ⟨h1, h2, h3, h4⟩, hk⟩ := h
  refine ⟨kv, sv, ⟨h1, h2, h3, h4⟩, fun k hk' => ⟨hk k hk', ?_⟩⟩
  rcases hk' with rfl | h | h
  · exact blk_lt h1
  · exact own_lt h3 h
  · exact own_lt h4 h
theorem dev_new (w : World) : DevAt (w.alloc (.cells (devCells (.slice none 0 0) (List.replicate 16 0) false 0 (.slice none 0 0)) 28)) w.heap.size {} (fun k => w.heap.size ≤ k) := by
  refine ⟨_, _, ⟨blk_new _ _, rfl, own_nil _ _ _, own_nil _ _ _⟩, ?_⟩
  rintro k (rfl | h | h)
  · exact Nat.le_refl _
  · simp [inRow, Value.ownBlock] at h
  · simp [inRow, Value.ownBlock] at h
theorem due_is (D : DevS) (w : World) (b : Nat) (F : Nat → Prop) (h : DevAt w b D F) (now : Int) (r : Bool) (hr : (D.set && decide (D.due ≤ now)) = r) :
    Calls Try.prog 13 #[.pointer (some ⟨b, 0, none⟩), .int .i64 now] w fun e w' => e = .returned (.bool r) ∧ w = w' := by
  subst hr
  exact due_any D w b F h now
/-- only the call's own was turned -/
theorem DevAt.own {w w' : World} {b B : Nat} {D D' : DevS} (h : DevAt w b D (fun k => B ≤ k)) (h' : DevAt w' b D' (fun k => B ≤ k ∨ w.heap.size ≤ k)) : DevAt w' b D' (fun k => B ≤ k) := by
  obtain ⟨kv, sv, hr, hk⟩ := h
  have := hk b (.inl rfl)
  have hb := blk_lt hr.blk
  exact h'.mono fun k hk => by rcases hk with h | h <;> omega

set_option maxHeartbeats 1000000 in
theorem first_true (w : World) : Calls Try.prog 8 #[] w fun e w' => e = .returned (.bool true) ∧ Below w.heap.size w w' := by
  have hd := dev_new w
  have hO : Only (fun k => w.heap.size ≤ k) w (w.alloc (.cells (devCells (.slice none 0 0) (List.replicate 16 0) false 0 (.slice none 0 0)) 28)) := Only.alloc _ _ _
  have HD := Lib.hid hd
  have HO := Lib.hid hO
  clear hd hO
  go_enter Try.func8, Try.ntmps8
  go_wp2_with fail
  refine (out_any {} _ _ _ HD.out 7 (by decide)).mono ?_
  rintro e w1 ⟨rfl, hd, ho⟩
  have HD1 := Lib.hid (HD.out.own hd)
  have HO1 := Lib.hid (HO.out.trans ho)
  clear HD HO hd ho
  go_wp2_with fail
  refine (seen_any _ _ _ _ HD1.out (by decide)).mono ?_
  rintro e w2 ⟨v', rfl, hs, hf, hb⟩
  rcases own_shape hs with ⟨-, hn, -⟩ | ⟨g, cap, rfl, -, -⟩
  · simp at hn
  have HD2 := Lib.hid (HD1.out.tight.below hb)
  have HO2 := Lib.hid (HO1.out.below' hb)
  have HS := Lib.hid hs
  have HF := Lib.hid hf
  have HZ := Lib.hid hb.size
  clear HD1 HO1 hb hs hf
  go_wp2_with fail
  refine (in_none _ _ _ _ HD2.out rfl).mono ?_
  rintro e w3 ⟨rfl, rfl⟩
  go_wp2_with fail
  refine (press_room _ _ _ 3 _ HD2.out (by decide)).mono ?_
  rintro e w3 ⟨rfl, hd, ho⟩
  have hg : inRow (.slice (some ⟨g, 0, none⟩) [((1 : Int), (0 : Int), (7 : Int))].length cap) g := rfl
  have hS3 := own_only HS.out ho (fun k hk hF => by have := HF.out k hk; omega)
  have HD3 := Lib.hid hd
  have HO3 := Lib.hid (HO2.out.trans' ho (fun k hk => .inl hk.1))
  have HO2size := HO2.out.size
  have hgl := own_lt HS.out hg
  have hgf := HF.out g hg
  have HS3 := Lib.hid hS3
  clear HD2 HO2 hd ho hS3 HS
  go_wp2_with fail
  refine (in_some _ _ _ _ 3 [] HD3.out rfl (by decide)).mono ?_
  rintro e w4 ⟨rfl, hd, ho⟩
  have hS4 := own_only HS3.out ho (fun k hk hF => by
    have := HF.out k hk
    have hkg : k = g := by simpa [inRow, Value.ownBlock] using hk.symm
    subst hkg
    rcases hF with h | h <;> omega)
  have hO4 := Lib.hid (HO3.out.trans' ho (fun k hk => by rcases hk with h | h; exact .inl h.1; exact .inr (Nat.le_trans HO2size h)))
  have c2 : w4.cell? ⟨g, 2, none⟩ = some (.int .u32 7) := (own_cell hS4 2 (by decide)).trans rfl
  clear HD3 HO3 hd ho hS4 HS3 HF hgl hgf hg
  go_wp2
  go_ret
  exact ⟨rfl, hO4.out.below (Nat.le_refl _) (fun k hk => hk)⟩
end Go.Proofs.Ytljmdgoedmgikaa
