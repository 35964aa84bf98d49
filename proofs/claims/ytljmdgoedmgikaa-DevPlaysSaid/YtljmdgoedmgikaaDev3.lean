/-
  Devices: contracts of Get, Set, Due, Rang, Seen.
-/
import Derived.Test.YtljmdgoedmgikaaDev2
namespace Go.Proofs.Ytljmdgoedmgikaa
open Go.RowKit

set_option maxHeartbeats 400000 in
theorem get_any (D : DevS) (w : World) (b : Nat) (F : Nat → Prop) (h : DevAt w b D F) (s : Int) (hs0 : 0 ≤ s) (hs1 : s ≤ 4294967295) :
    Calls Try.prog 18 #[.pointer (some ⟨b, 0, none⟩), .int .u32 s] w fun e w' => e = .returned (.int .u32 (D.sec.getD (s.toNat % 16) 0)) ∧ w = w' := by
  obtain ⟨kv, sv, ⟨h1, h2, h3, h4⟩, hF⟩ := h
  obtain ⟨n, rfl⟩ := Int.eq_ofNat_of_zero_le hs0
  have cs : w.cell? ⟨b, 1 + n % 16, none⟩ = some (.int .u32 (D.sec.getD (n % 16) 0)) := (blk_cell h1 _).trans (devCells_sec _ _ _ _ _ _ (by rw [h2]; exact Nat.mod_lt _ (by omega)))
  obtain ⟨v, hv⟩ : ∃ v, D.sec.getD (n % 16) 0 = v := ⟨_, rfl⟩
  rw [hv] at cs
  rw [Int.toNat_natCast, hv]
  clear hv
  go_enter Try.func18, Try.ntmps18
  go_wp2
  go_ret
  exact ⟨rfl, rfl⟩

set_option maxHeartbeats 400000 in
theorem due_any (D : DevS) (w : World) (b : Nat) (F : Nat → Prop) (h : DevAt w b D F) (now : Int) :
    Calls Try.prog 13 #[.pointer (some ⟨b, 0, none⟩), .int .i64 now] w fun e w' => e = .returned (.bool (D.set && decide (D.due ≤ now))) ∧ w = w' := by
  obtain ⟨kv, sv, ⟨h1, h2, h3, h4⟩, hF⟩ := h
  have c17 : w.cell? ⟨b, 17, none⟩ = some (.bool D.set) := (blk_cell h1 17).trans (devCells_17 _ _ _ _ _ h2)
  have c18 : w.cell? ⟨b, 18, none⟩ = some (.int .i64 D.due) := (blk_cell h1 18).trans (devCells_18 _ _ _ _ _ h2)
  obtain ⟨keys, sec, st, due, seen⟩ := D
  dsimp only at c17 c18 ⊢
  clear h1 h2 h3 h4 hF
  cases st
  all_goals
    go_enter Try.func13, Try.ntmps13
    go_wp2
    go_ret
    exact ⟨ret_bool (by simp), rfl⟩

set_option maxHeartbeats 400000 in
theorem rang_any (D : DevS) (w : World) (b : Nat) (F : Nat → Prop) (h : DevAt w b D F) :
    Calls Try.prog 15 #[.pointer (some ⟨b, 0, none⟩)] w fun e w' => e = .returned (.tuple #[]) ∧ DevAt w' b { D with set := false, due := 0 } F ∧ Only F w w' := by
  obtain ⟨kv, sv, ⟨h1, h2, h3, h4⟩, hF⟩ := h
  have c17 : w.cell? ⟨b, 17, none⟩ = some (.bool D.set) := (blk_cell h1 17).trans (devCells_17 _ _ _ _ _ h2)
  have c18 : w.cell? ⟨b, 18, none⟩ = some (.int .i64 D.due) := (blk_cell h1 18).trans (devCells_18 _ _ _ _ _ h2)
  have f17 := blk_free h1 17
  have f18 := blk_free h1 18
  have HR := Lib.hid ((DevRep.put_set ⟨h1, h2, h3, h4⟩ false).put_due 0)
  have hO : Only F w ((w.setCell ⟨b, 17, none⟩ (.bool false)).setCell ⟨b, 18, none⟩ (.int .i64 0)) := ((Only.refl F w).setCell (.inl (hF b (.inl rfl))) _).setCell (.inl (hF b (.inl rfl))) _
  clear h1 h2 h3 h4
  go_enter Try.func15, Try.ntmps15
  go_wp2
  go_end0
  exact ⟨rfl, ⟨_, _, HR.out, hF⟩, hO⟩

set_option maxHeartbeats 400000 in
theorem set_zero (D : DevS) (w : World) (b : Nat) (F : Nat → Prop) (h : DevAt w b D F) (now : Int) :
    Calls Try.prog 14 #[.pointer (some ⟨b, 0, none⟩), .int .i64 now, .int .u32 0] w fun e w' => e = .returned (.tuple #[]) ∧ DevAt w' b { D with set := false, due := 0 } F ∧ Only F w w' := by
  obtain ⟨kv, sv, ⟨h1, h2, h3, h4⟩, hF⟩ := h
  have c17 : w.cell? ⟨b, 17, none⟩ = some (.bool D.set) := (blk_cell h1 17).trans (devCells_17 _ _ _ _ _ h2)
  have c18 : w.cell? ⟨b, 18, none⟩ = some (.int .i64 D.due) := (blk_cell h1 18).trans (devCells_18 _ _ _ _ _ h2)
  have f17 := blk_free h1 17
  have f18 := blk_free h1 18
  have HR := Lib.hid ((DevRep.put_set ⟨h1, h2, h3, h4⟩ false).put_due 0)
  have hO : Only F w ((w.setCell ⟨b, 17, none⟩ (.bool false)).setCell ⟨b, 18, none⟩ (.int .i64 0)) := ((Only.refl F w).setCell (.inl (hF b (.inl rfl))) _).setCell (.inl (hF b (.inl rfl))) _
  clear h1 h2 h3 h4
  go_enter Try.func14, Try.ntmps14
  go_wp2
  go_end0
  exact ⟨rfl, ⟨_, _, HR.out, hF⟩, hO⟩

set_option maxHeartbeats 400000 in
theorem set_pos (D : DevS) (w : World) (b : Nat) (F : Nat → Prop) (h : DevAt w b D F) (now a : Int) (ha0 : 0 < a) (ha1 : a ≤ 4294967295) (hn0 : 0 ≤ now) (hn1 : now ≤ 2251799813685248) :
    Calls Try.prog 14 #[.pointer (some ⟨b, 0, none⟩), .int .i64 now, .int .u32 a] w fun e w' => e = .returned (.tuple #[]) ∧ DevAt w' b { D with set := true, due := now + a } F ∧ Only F w w' := by
  obtain ⟨kv, sv, ⟨h1, h2, h3, h4⟩, hF⟩ := h
  have c17 : w.cell? ⟨b, 17, none⟩ = some (.bool D.set) := (blk_cell h1 17).trans (devCells_17 _ _ _ _ _ h2)
  have c18 : w.cell? ⟨b, 18, none⟩ = some (.int .i64 D.due) := (blk_cell h1 18).trans (devCells_18 _ _ _ _ _ h2)
  have f17 := blk_free h1 17
  have f18 := blk_free h1 18
  have HR := Lib.hid (((DevRep.put_set ⟨h1, h2, h3, h4⟩ true).put_due 0).put_due (now + a))
  have hO : Only F w (((w.setCell ⟨b, 17, none⟩ (.bool true)).setCell ⟨b, 18, none⟩ (.int .i64 0)).setCell ⟨b, 18, none⟩ (.int .i64 (now + a))) := (((Only.refl F w).setCell (.inl (hF b (.inl rfl))) _).setCell (.inl (hF b (.inl rfl))) _).setCell (.inl (hF b (.inl rfl))) _
  clear h1 h2 h3 h4
  go_enter Try.func14, Try.ntmps14
  go_wp2
  go_end0
  exact ⟨rfl, ⟨_, _, HR.out, hF⟩, hO⟩

set_option maxHeartbeats 400000 in
theorem seen_any (D : DevS) (w : World) (b : Nat) (F : Nat → Prop) (h : DevAt w b D F) (hn : D.seen.length < 100000) :
    Calls Try.prog 12 #[.pointer (some ⟨b, 0, none⟩)] w fun e w' => ∃ v', e = .returned v' ∧ w'.ownsRow 0 39 3 v' D.seen.length (seenCells D.seen) ∧ (∀ k, inRow v' k → w.heap.size ≤ k) ∧ Below w.heap.size w w' := by
  obtain ⟨kv, sv, ⟨h1, h2, h3, h4⟩, hF⟩ := h
  have c19 : w.cell? ⟨b, 19, none⟩ = some sv := (blk_cell h1 19).trans (devCells_19 _ _ _ _ _ h2)
  have hr := Lib.hid (own_reads h4)
  clear h1 h2 h3 h4
  go_enter Try.func12, Try.ntmps12
  go_wp2_with fail
  refine (cloneSeen _ _ _ w hr.out (by omega) (seenCells_len _) (seenCells_one _)).mono ?_
  rintro e w1 ⟨v', rfl, ho, hs, hb⟩
  have HO := Lib.hid ho
  have HS := Lib.hid hs
  clear ho hs
  go_wp2
  go_ret
  exact ⟨_, rfl, HO.out, HS.out, hb⟩
end Go.Proofs.Ytljmdgoedmgikaa
