/-
  Devices: contracts of the other methods.
-/
import Derived.Test.YtljmdgoedmgikaaDev
namespace Go.Proofs.Ytljmdgoedmgikaa
open Go.RowKit

theorem cells_three_new (w : World) (x y z : Value) (t : TypeId) : ∀ j u, [x, y, z][j]? = some u → (w.alloc (.cells #[x, y, z] t)).cell? ((⟨w.heap.size, 0, none⟩ : Addr).add j) = some u := by
  intro j u hj
  rw [Addr.add_lit, Nat.zero_add, blk_cell (blk_new w _) j]
  simpa using hj

set_option maxHeartbeats 400000 in
theorem out_any (D : DevS) (w : World) (b : Nat) (F : Nat → Prop) (h : DevAt w b D F) (x : Int) (hn : D.seen.length < 100000) :
    Calls Try.prog 21 #[.pointer (some ⟨b, 0, none⟩), .int .u32 x] w fun e w' => e = .returned (.tuple #[]) ∧ DevAt w' b { D with seen := D.seen ++ [(1, 0, x)] } (fun k => F k ∨ w.heap.size ≤ k) ∧ Only F w w' := by
  obtain ⟨kv, sv, ⟨h1, h2, h3, h4⟩, hF⟩ := h
  have c0 : w.cell? ⟨b, 19, none⟩ = some sv := (blk_cell h1 19).trans (devCells_19 _ _ _ _ _ h2)
  obtain ⟨i0, hi, hz0, hz1, hz2⟩ := info_parts infoSeen
  obtain ⟨ao, cap, rfl⟩ := own_slice h4
  go_enter Try.func21, Try.ntmps21
  go_wp2_with (at_builtin; refine wpList_append_sep _ rfl _ _ 26 rfl 39 i0 (.agg #[.int .i64 0, .int .u32 0, .int .u32 0]) 3 16 Try.underlying26 hi hz0 hz1 hz2 rfl (by decide) _ _ _ rfl (h4.alloc _) ⟨w.heap.size, 0, none⟩ 1 1 [.int .i64 1, .int .u32 0, .int .u32 x] rfl rfl (cells_three_new _ _ _ _ _) (by simp [Value.oneCell']) (by unfold maxLen; omega) (by omega) ?_)
  intro v' w1 ho hg hs
  obtain ⟨ao', cap', rfl⟩ := own_slice ho
  have h1a := blk_old h1 (.cells #[.int .i64 1, .int .u32 0, .int .u32 x] 39)
  have h1b := blk_grown h1a hg (own_not (h4.alloc _) h1a (by decide))
  have h3b := own_grown (h3.alloc _) hg (fun k hk hk' => own_apart (h3.alloc (.cells #[.int .i64 1, .int .u32 0, .int .u32 x] 39)) (h4.alloc _) (by decide) hk hk')
  have c0b := blk_cell h1b 19
  have f0b := blk_free h1b 19
  rw [devCells_19 _ _ _ _ _ h2] at c0b
  have hO : Only F w w1 := ((Only.refl F w).alloc' _).grown hg (fun k hk => .inl (hF k (.inr (.inr hk))))
  rw [← seenCells_snoc] at ho
  have HR := Lib.hid (DevRep.put_seen h1b h2 h3b ho (by simp))
  have HS := Lib.hid hs
  clear ho hs hg h1b h1a h3b
  go_wp2
  go_end0
  refine ⟨rfl, ⟨_, _, HR.out, ?_⟩, hO.setCell (.inl (hF b (.inl rfl))) _⟩
  rintro k (rfl | hk | hk)
  · exact .inl (hF _ (.inl rfl))
  · exact .inl (hF _ (.inr (.inl hk)))
  · rcases HS.out k hk with h | h
    · exact .inl (hF _ (.inr (.inr h)))
    · exact .inr (Nat.le_trans (by simp) h)

set_option maxHeartbeats 400000 in
theorem end_halt (D : DevS) (w : World) (b : Nat) (F : Nat → Prop) (h : DevAt w b D F) (x : Int) (hn : D.seen.length < 100000) :
    Calls Try.prog 17 #[.pointer (some ⟨b, 0, none⟩), .int .i64 3, .int .u32 x] w fun e w' => e = .returned (.tuple #[]) ∧ DevAt w' b { D with seen := D.seen ++ [(3, 0, x)] } (fun k => F k ∨ w.heap.size ≤ k) ∧ Only F w w' := by
  obtain ⟨kv, sv, ⟨h1, h2, h3, h4⟩, hF⟩ := h
  have c0 : w.cell? ⟨b, 19, none⟩ = some sv := (blk_cell h1 19).trans (devCells_19 _ _ _ _ _ h2)
  obtain ⟨i0, hi, hz0, hz1, hz2⟩ := info_parts infoSeen
  obtain ⟨ao, cap, rfl⟩ := own_slice h4
  go_enter Try.func17, Try.ntmps17
  go_wp2_with (at_builtin; refine wpList_append_sep _ rfl _ _ 26 rfl 39 i0 (.agg #[.int .i64 0, .int .u32 0, .int .u32 0]) 3 16 Try.underlying26 hi hz0 hz1 hz2 rfl (by decide) _ _ _ rfl (h4.alloc _) ⟨w.heap.size, 0, none⟩ 1 1 [.int .i64 3, .int .u32 0, .int .u32 x] rfl rfl (cells_three_new _ _ _ _ _) (by simp [Value.oneCell']) (by unfold maxLen; omega) (by omega) ?_)
  intro v' w1 ho hg hs
  obtain ⟨ao', cap', rfl⟩ := own_slice ho
  have h1a := blk_old h1 (.cells #[.int .i64 3, .int .u32 0, .int .u32 x] 39)
  have h1b := blk_grown h1a hg (own_not (h4.alloc _) h1a (by decide))
  have h3b := own_grown (h3.alloc _) hg (fun k hk hk' => own_apart (h3.alloc (.cells #[.int .i64 3, .int .u32 0, .int .u32 x] 39)) (h4.alloc _) (by decide) hk hk')
  have c0b := blk_cell h1b 19
  have f0b := blk_free h1b 19
  rw [devCells_19 _ _ _ _ _ h2] at c0b
  have hO : Only F w w1 := ((Only.refl F w).alloc' _).grown hg (fun k hk => .inl (hF k (.inr (.inr hk))))
  rw [← seenCells_snoc] at ho
  have HR := Lib.hid (DevRep.put_seen h1b h2 h3b ho (by simp))
  have HS := Lib.hid hs
  clear ho hs hg h1b h1a h3b
  go_wp2
  go_end0
  refine ⟨rfl, ⟨_, _, HR.out, ?_⟩, hO.setCell (.inl (hF b (.inl rfl))) _⟩
  rintro k (rfl | hk | hk)
  · exact .inl (hF _ (.inl rfl))
  · exact .inl (hF _ (.inr (.inl hk)))
  · rcases HS.out k hk with h | h
    · exact .inl (hF _ (.inr (.inr h)))
    · exact .inr (Nat.le_trans (by simp) h)

set_option maxHeartbeats 400000 in
theorem end_fault (D : DevS) (w : World) (b : Nat) (F : Nat → Prop) (h : DevAt w b D F) (x : Int) (hn : D.seen.length < 100000) :
    Calls Try.prog 17 #[.pointer (some ⟨b, 0, none⟩), .int .i64 4, .int .u32 x] w fun e w' => e = .returned (.tuple #[]) ∧ DevAt w' b { D with seen := D.seen ++ [(4, x, 0)] } (fun k => F k ∨ w.heap.size ≤ k) ∧ Only F w w' := by
  obtain ⟨kv, sv, ⟨h1, h2, h3, h4⟩, hF⟩ := h
  have c0 : w.cell? ⟨b, 19, none⟩ = some sv := (blk_cell h1 19).trans (devCells_19 _ _ _ _ _ h2)
  obtain ⟨i0, hi, hz0, hz1, hz2⟩ := info_parts infoSeen
  obtain ⟨ao, cap, rfl⟩ := own_slice h4
  go_enter Try.func17, Try.ntmps17
  go_wp2_with (at_builtin; refine wpList_append_sep _ rfl _ _ 26 rfl 39 i0 (.agg #[.int .i64 0, .int .u32 0, .int .u32 0]) 3 16 Try.underlying26 hi hz0 hz1 hz2 rfl (by decide) _ _ _ rfl (h4.alloc _) ⟨w.heap.size, 0, none⟩ 1 1 [.int .i64 4, .int .u32 x, .int .u32 0] rfl rfl (cells_three_new _ _ _ _ _) (by simp [Value.oneCell']) (by unfold maxLen; omega) (by omega) ?_)
  intro v' w1 ho hg hs
  obtain ⟨ao', cap', rfl⟩ := own_slice ho
  have h1a := blk_old h1 (.cells #[.int .i64 4, .int .u32 x, .int .u32 0] 39)
  have h1b := blk_grown h1a hg (own_not (h4.alloc _) h1a (by decide))
  have h3b := own_grown (h3.alloc _) hg (fun k hk hk' => own_apart (h3.alloc (.cells #[.int .i64 4, .int .u32 x, .int .u32 0] 39)) (h4.alloc _) (by decide) hk hk')
  have c0b := blk_cell h1b 19
  have f0b := blk_free h1b 19
  rw [devCells_19 _ _ _ _ _ h2] at c0b
  have hO : Only F w w1 := ((Only.refl F w).alloc' _).grown hg (fun k hk => .inl (hF k (.inr (.inr hk))))
  rw [← seenCells_snoc] at ho
  have HR := Lib.hid (DevRep.put_seen h1b h2 h3b ho (by simp))
  have HS := Lib.hid hs
  clear ho hs hg h1b h1a h3b
  go_wp2
  go_end0
  refine ⟨rfl, ⟨_, _, HR.out, ?_⟩, hO.setCell (.inl (hF b (.inl rfl))) _⟩
  rintro k (rfl | hk | hk)
  · exact .inl (hF _ (.inl rfl))
  · exact .inl (hF _ (.inr (.inl hk)))
  · rcases HS.out k hk with h | h
    · exact .inl (hF _ (.inr (.inr h)))
    · exact .inr (Nat.le_trans (by simp) h)

set_option maxHeartbeats 400000 in
theorem end_other (D : DevS) (w : World) (b : Nat) (F : Nat → Prop) (h : DevAt w b D F) (c x : Int) (h3' : (c == 3) = false) (h4' : (c == 4) = false) :
    Calls Try.prog 17 #[.pointer (some ⟨b, 0, none⟩), .int .i64 c, .int .u32 x] w fun e w' => e = .returned (.tuple #[]) ∧ w = w' := by
  clear h
  go_enter Try.func17, Try.ntmps17
  go_wp2
  go_end0
  exact ⟨rfl, rfl⟩

set_option maxHeartbeats 400000 in
theorem put_any (D : DevS) (w : World) (b : Nat) (F : Nat → Prop) (h : DevAt w b D F) (s x : Int) (hs0 : 0 ≤ s) (hs1 : s ≤ 4294967295) (hn : D.seen.length < 100000) :
    Calls Try.prog 16 #[.pointer (some ⟨b, 0, none⟩), .int .u32 s, .int .u32 x] w fun e w' => e = .returned (.tuple #[]) ∧ DevAt w' b { D with sec := D.sec.set (s.toNat % 16) x, seen := D.seen ++ [(2, s % 16, x)] } (fun k => F k ∨ w.heap.size ≤ k) ∧ Only F w w' := by
  obtain ⟨kv, sv, ⟨h1, h2, h3, h4⟩, hF⟩ := h
  obtain ⟨n, rfl⟩ := Int.eq_ofNat_of_zero_le hs0
  have hr := DevRep.put_sec ⟨h1, h2, h3, h4⟩ (n % 16) (Nat.mod_lt _ (by omega)) x
  have cs : w.cell? ⟨b, 1 + n % 16, none⟩ = some (.int .u32 (D.sec.getD (n % 16) 0)) := (blk_cell h1 _).trans (devCells_sec _ _ _ _ _ _ (by rw [h2]; exact Nat.mod_lt _ (by omega)))
  have fs := blk_free h1 (1 + n % 16)
  have hO0 : Only F w (w.setCell ⟨b, 1 + n % 16, none⟩ (.int .u32 x)) := (Only.refl F w).setCell (.inl (hF b (.inl rfl))) _
  obtain ⟨g1, g2, g3, g4⟩ := hr
  dsimp only at g1 g2 g3 g4
  have cP : (w.setCell ⟨b, 1 + n % 16, none⟩ (.int .u32 x)).cell? ⟨b, 19, none⟩ = some sv := (blk_cell g1 19).trans (devCells_19 _ _ _ _ _ g2)
  obtain ⟨i0, hi, hz0, hz1, hz2⟩ := info_parts infoSeen
  obtain ⟨ao, cap, rfl⟩ := own_slice h4
  have hnew := cells_three_new (w.setCell ⟨b, 1 + n % 16, none⟩ (.int .u32 x)) (.int .i64 2) (.int .u32 (↑n % 16)) (.int .u32 x) 39
  rw [World.size_setCell] at hnew
  have HN := Lib.hid hnew
  clear h3 h4 h1 h2 hnew
  go_enter Try.func16, Try.ntmps16
  go_wp2_with (at_builtin; refine wpList_append_sep _ rfl _ _ 26 rfl 39 i0 (.agg #[.int .i64 0, .int .u32 0, .int .u32 0]) 3 16 Try.underlying26 hi hz0 hz1 hz2 rfl (by decide) _ _ _ rfl (g4.alloc _) ⟨w.heap.size, 0, none⟩ 1 1 [.int .i64 2, .int .u32 (↑n % 16), .int .u32 x] rfl rfl HN.out (by simp [Value.oneCell']) (by unfold maxLen; omega) (by omega) ?_)
  intro v' w1 ho hg hs
  obtain ⟨ao', cap', rfl⟩ := own_slice ho
  have h1a := blk_old g1 (.cells #[.int .i64 2, .int .u32 (↑n % 16), .int .u32 x] 39)
  have h1b := blk_grown h1a hg (own_not (g4.alloc _) h1a (by decide))
  have h3b := own_grown (g3.alloc _) hg (fun k hk hk' => own_apart (g3.alloc (.cells #[.int .i64 2, .int .u32 (↑n % 16), .int .u32 x] 39)) (g4.alloc _) (by decide) hk hk')
  have c0b := blk_cell h1b 19
  have f0b := blk_free h1b 19
  rw [devCells_19 _ _ _ _ _ g2] at c0b
  have hO : Only F w w1 := (hO0.alloc' _).grown hg (fun k hk => .inl (hF k (.inr (.inr hk))))
  rw [← seenCells_snoc] at ho
  have HR := Lib.hid (DevRep.put_seen (D := { D with sec := D.sec.set (n % 16) x }) h1b g2 h3b ho (by simp))
  have HS := Lib.hid hs
  clear ho hs hg h1b h1a h3b
  go_wp2
  go_end0
  refine ⟨rfl, ⟨_, _, HR.out, ?_⟩, hO.setCell (.inl (hF b (.inl rfl))) _⟩
  rintro k (rfl | hk | hk)
  · exact .inl (hF _ (.inl rfl))
  · exact .inl (hF _ (.inr (.inl hk)))
  · rcases HS.out k hk with h | h
    · exact .inl (hF _ (.inr (.inr h)))
    · exact .inr (Nat.le_trans (by simp) h)
end Go.Proofs.Ytljmdgoedmgikaa
