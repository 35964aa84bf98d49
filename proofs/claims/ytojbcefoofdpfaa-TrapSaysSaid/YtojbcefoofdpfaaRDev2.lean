/-
  The document's devices: contracts of the other methods.
-/
import Derived.Test.YtojbcefoofdpfaaRDev
import Derived.Test.YtojbcefoofdpfaaDev3
namespace Go.Proofs.Ytojbcefoofdpfaa
open Go.RowKit

set_option maxHeartbeats 400000 in
theorem rdue_any (D : DevS) (w : World) (b : Nat) (F : Nat → Prop) (h : RDevAt w b D F) (now : Int) :
    Calls Try.prog 21 #[.pointer (some ⟨b, 0, none⟩), .int .i64 now] w fun e w' => e = .returned (.bool (D.set && decide (D.due ≤ now))) ∧ w = w' := by
  obtain ⟨kv, sv, ⟨h1, h2, h3, h4⟩, hF⟩ := h
  have c17 : w.cell? ⟨b, 19, none⟩ = some (.bool D.set) := (blk_cell h1 19).trans (rdevCells_17 _ _ _ _ _ h2)
  have c18 : w.cell? ⟨b, 18, none⟩ = some (.int .i64 D.due) := (blk_cell h1 18).trans (rdevCells_18 _ _ _ _ _ h2)
  obtain ⟨keys, sec, st, due, seen⟩ := D
  dsimp only at c17 c18 ⊢
  clear h1 h2 h3 h4 hF
  cases st
  all_goals
    go_enter Try.func21, Try.ntmps21
    go_wp2
    go_ret
    exact ⟨ret_bool (by simp), rfl⟩

set_option maxHeartbeats 400000 in
theorem rset_any (D : DevS) (w : World) (b : Nat) (F : Nat → Prop) (h : RDevAt w b D F) (now a : Int) (ha0 : 0 ≤ a) (ha1 : a ≤ 4294967295) (hn0 : 0 ≤ now) (hn1 : now ≤ 2251799813685248) :
    Calls Try.prog 12 #[.pointer (some ⟨b, 0, none⟩), .int .i64 now, .int .u32 a] w fun e w' => e = .returned (.tuple #[]) ∧ RDevAt w' b { D with set := decide (0 < a), due := now + a } F ∧ Only F w w' := by
  obtain ⟨kv, sv, ⟨h1, h2, h3, h4⟩, hF⟩ := h
  have c19 : w.cell? ⟨b, 19, none⟩ = some (.bool D.set) := (blk_cell h1 19).trans (rdevCells_17 _ _ _ _ _ h2)
  have c18 : w.cell? ⟨b, 18, none⟩ = some (.int .i64 D.due) := (blk_cell h1 18).trans (rdevCells_18 _ _ _ _ _ h2)
  have f19 := blk_free h1 19
  have f18 := blk_free h1 18
  have HR := Lib.hid ((RDevRep.put_set ⟨h1, h2, h3, h4⟩ (decide (0 < a))).put_due (now + a))
  have hO : Only F w ((w.setCell ⟨b, 19, none⟩ (.bool (decide (0 < a)))).setCell ⟨b, 18, none⟩ (.int .i64 (now + a))) := ((Only.refl F w).setCell (.inl (hF b (.inl rfl))) _).setCell (.inl (hF b (.inl rfl))) _
  clear h1 h2 h3 h4
  go_enter Try.func12, Try.ntmps12
  go_wp2
  go_end0
  exact ⟨rfl, ⟨_, _, HR.out, hF⟩, hO⟩
end Go.Proofs.Ytojbcefoofdpfaa
