/-
  Devices: contracts of Get, Set, Due, Rang, Seen.
-/
import Derived.Test.YtojbcefoofdpfaaDev2
namespace Go.Proofs.Ytojbcefoofdpfaa
open Go.RowKit

set_option maxHeartbeats 400000 in
theorem due_any (D : DevS) (w : World) (b : Nat) (F : Nat → Prop) (h : DevAt w b D F) (now : Int) :
    Calls Try.prog 19 #[.pointer (some ⟨b, 0, none⟩), .int .i64 now] w fun e w' => e = .returned (.bool (D.set && decide (D.due ≤ now))) ∧ w = w' := by
  obtain ⟨kv, sv, ⟨h1, h2, h3, h4⟩, hF⟩ := h
  have c17 : w.cell? ⟨b, 17, none⟩ = some (.bool D.set) := (blk_cell h1 17).trans (devCells_17 _ _ _ _ _ h2)
  have c18 : w.cell? ⟨b, 18, none⟩ = some (.int .i64 D.due) := (blk_cell h1 18).trans (devCells_18 _ _ _ _ _ h2)
  obtain ⟨keys, sec, st, due, seen⟩ := D
  dsimp only at c17 c18 ⊢
  clear h1 h2 h3 h4 hF
  cases st
  all_goals
    go_enter Try.func19, Try.ntmps19
    go_wp2
    go_ret
    exact ⟨ret_bool (by simp), rfl⟩

set_option maxHeartbeats 400000 in
theorem set_zero (D : DevS) (w : World) (b : Nat) (F : Nat → Prop) (h : DevAt w b D F) (now : Int) :
    Calls Try.prog 11 #[.pointer (some ⟨b, 0, none⟩), .int .i64 now, .int .u32 0] w fun e w' => e = .returned (.tuple #[]) ∧ DevAt w' b { D with set := false, due := 0 } F ∧ Only F w w' := by
  obtain ⟨kv, sv, ⟨h1, h2, h3, h4⟩, hF⟩ := h
  have c17 : w.cell? ⟨b, 17, none⟩ = some (.bool D.set) := (blk_cell h1 17).trans (devCells_17 _ _ _ _ _ h2)
  have c18 : w.cell? ⟨b, 18, none⟩ = some (.int .i64 D.due) := (blk_cell h1 18).trans (devCells_18 _ _ _ _ _ h2)
  have f17 := blk_free h1 17
  have f18 := blk_free h1 18
  have HR := Lib.hid ((DevRep.put_set ⟨h1, h2, h3, h4⟩ false).put_due 0)
  have hO : Only F w ((w.setCell ⟨b, 17, none⟩ (.bool false)).setCell ⟨b, 18, none⟩ (.int .i64 0)) := ((Only.refl F w).setCell (.inl (hF b (.inl rfl))) _).setCell (.inl (hF b (.inl rfl))) _
  clear h1 h2 h3 h4
  go_enter Try.func11, Try.ntmps11
  go_wp2
  go_end0
  exact ⟨rfl, ⟨_, _, HR.out, hF⟩, hO⟩

set_option maxHeartbeats 400000 in
theorem set_pos (D : DevS) (w : World) (b : Nat) (F : Nat → Prop) (h : DevAt w b D F) (now a : Int) (ha0 : 0 < a) (ha1 : a ≤ 4294967295) (hn0 : 0 ≤ now) (hn1 : now ≤ 2251799813685248) :
    Calls Try.prog 11 #[.pointer (some ⟨b, 0, none⟩), .int .i64 now, .int .u32 a] w fun e w' => e = .returned (.tuple #[]) ∧ DevAt w' b { D with set := true, due := now + a } F ∧ Only F w w' := by
  obtain ⟨kv, sv, ⟨h1, h2, h3, h4⟩, hF⟩ := h
  have c17 : w.cell? ⟨b, 17, none⟩ = some (.bool D.set) := (blk_cell h1 17).trans (devCells_17 _ _ _ _ _ h2)
  have c18 : w.cell? ⟨b, 18, none⟩ = some (.int .i64 D.due) := (blk_cell h1 18).trans (devCells_18 _ _ _ _ _ h2)
  have f17 := blk_free h1 17
  have f18 := blk_free h1 18
  have HR := Lib.hid (((DevRep.put_set ⟨h1, h2, h3, h4⟩ true).put_due 0).put_due (now + a))
  have hO : Only F w (((w.setCell ⟨b, 17, none⟩ (.bool true)).setCell ⟨b, 18, none⟩ (.int .i64 0)).setCell ⟨b, 18, none⟩ (.int .i64 (now + a))) := (((Only.refl F w).setCell (.inl (hF b (.inl rfl))) _).setCell (.inl (hF b (.inl rfl))) _).setCell (.inl (hF b (.inl rfl))) _
  clear h1 h2 h3 h4
  go_enter Try.func11, Try.ntmps11
  go_wp2
  go_end0
  exact ⟨rfl, ⟨_, _, HR.out, hF⟩, hO⟩