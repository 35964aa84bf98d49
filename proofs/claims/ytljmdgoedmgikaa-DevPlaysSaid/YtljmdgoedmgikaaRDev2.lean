/-
  The document's devices: contracts of the other methods.
-/
import Derived.Test.YtljmdgoedmgikaaRDev
import Derived.Test.YtljmdgoedmgikaaDev3
namespace Go.Proofs.Ytljmdgoedmgikaa
open Go.RowKit

set_option maxHeartbeats 400000 in
theorem rout_any (D : DevS) (w : World) (b : Nat) (F : Nat → Prop) (h : RDevAt w b D F) (x : Int) (hn : D.seen.length < 100000) :
    Calls Try.prog 24 #[.pointer (some ⟨b, 0, none⟩), .int .u32 x] w fun e w' => e = .returned (.tuple #[]) ∧ RDevAt w' b { D with seen := D.seen ++ [(1, 0, x)] } (fun k => F k ∨ w.heap.size ≤ k) ∧ Only F w w' := by
  obtain ⟨kv, sv, ⟨h1, h2, h3, h4⟩, hF⟩ := h
  have c0 : w.cell? ⟨b, 1, none⟩ = some sv := (blk_cell h1 1).trans (rdevCells_19 _ _ _ _ _ h2)
  obtain ⟨i0, hi, hz0, hz1, hz2⟩ := info_parts infoSeen
  obtain ⟨ao, cap, rfl⟩ := own_slice h4
  go_enter Try.func24, Try.ntmps24
  go_wp2_with (at_builtin; refine wpList_append_sep _ rfl _ _ 26 rfl 39 i0 (.agg #[.int .i64 0, .int .u32 0, .int .u32 0]) 3 16 Try.underlying26 hi hz0 hz1 hz2 rfl (by decide) _ _ _ rfl (h4.alloc _) ⟨w.heap.size, 0, none⟩ 1 1 [.int .i64 1, .int .u32 0, .int .u32 x] rfl rfl (cells_three_new _ _ _ _ _) (by simp [Value.oneCell']) (by unfold maxLen; omega) (by omega) ?_)
  intro v' w1 ho hg hs
  obtain ⟨ao', cap', rfl⟩ := own_slice ho
  have h1a := blk_old h1 (.cells #[.int .i64 1, .int .u32 0, .int .u32 x] 39)
  have h1b := blk_grown h1a hg (own_not (h4.alloc _) h1a (by decide))
  have h3b := own_grown (h3.alloc _) hg (fun k hk hk' => own_apart (h3.alloc (.cells #[.int .i64 1, .int .u32 0, .int .u32 x] 39)) (h4.alloc _) (by decide) hk hk')
  have c0b := blk_cell h1b 1
  have f0b := blk_free h1b 1
  rw [rdevCells_19 _ _ _ _ _ h2] at c0b
  have hO : Only F w w1 := ((Only.refl F w).alloc' _).grown hg (fun k hk => .inl (hF k (.inr (.inr hk))))
  rw [← seenCells_snoc] at ho
  have HR := Lib.hid (RDevRep.put_seen h1b h2 h3b ho (by simp))
  have HS := Lib.hid hs
  clear ho hs hg h1b h1a h3b
  go_wp2
  go_end0
  refine ⟨rfl, ⟨_, _, HR.out, ?_⟩, hO.setCell (.inl (hF b (.inl rfl))) _⟩
  rintro k (rfl | hk | hk)
  · exact .inl (hF _ (.inl rfl))
  · exact .inl (hF _ (.inr (.inl hk)))
  · rcases HS.out k hk with h | h
    · exact .inl (hF _ (.inr (.inr h)))
    · exact .inr (Nat.le_trans (by simp) h)

set_option maxHeartbeats 400000 in
theorem rend_halt (D : DevS) (w : World) (b : Nat) (F : Nat → Prop) (h : RDevAt w b D F) (x : Int) (hn : D.seen.length < 100000) :
    Calls Try.prog 27 #[.pointer (some ⟨b, 0, none⟩), .int .i64 3, .int .u32 x] w fun e w' => e = .returned (.tuple #[]) ∧ RDevAt w' b { D with seen := D.seen ++ [(3, 0, x)] } (fun k => F k ∨ w.heap.size ≤ k) ∧ Only F w w' := by
  obtain ⟨kv, sv, ⟨h1, h2, h3, h4⟩, hF⟩ := h
  have c0 : w.cell? ⟨b, 1, none⟩ = some sv := (blk_cell h1 1).trans (rdevCells_19 _ _ _ _ _ h2)
  obtain ⟨i0, hi, hz0, hz1, hz2⟩ := info_parts infoSeen
  obtain ⟨ao, cap, rfl⟩ := own_slice h4
  go_enter Try.func27, Try.ntmps27
  go_wp2_with (at_builtin; refine wpList_append_sep _ rfl _ _ 26 rfl 39 i0 (.agg #[.int .i64 0, .int .u32 0, .int .u32 0]) 3 16 Try.underlying26 hi hz0 hz1 hz2 rfl (by decide) _ _ _ rfl (h4.alloc _) ⟨w.heap.size, 0, none⟩ 1 1 [.int .i64 3, .int .u32 0, .int .u32 x] rfl rfl (cells_three_new _ _ _ _ _) (by simp [Value.oneCell']) (by unfold maxLen; omega) (by omega) ?_)
  intro v' w1 ho hg hs
  obtain ⟨ao', cap', rfl⟩ := own_slice ho
  have h1a := blk_old h1 (.cells #[.int .i64 3, .int .u32 0, .int .u32 x] 39)
  have h1b := blk_grown h1a hg (own_not (h4.alloc _) h1a (by decide))
  have h3b := own_grown (h3.alloc _) hg (fun k hk hk' => own_apart (h3.alloc (.cells #[.int .i64 3, .int .u32 0, .int .u32 x] 39)) (h4.alloc _) (by decide) hk hk')
  have c0b := blk_cell h1b 1
  have f0b := blk_free h1b 1
  rw [rdevCells_19 _ _ _ _ _ h2] at c0b
  have hO : Only F w w1 := ((Only.refl F w).alloc' _).grown hg (fun k hk => .inl (hF k (.inr (.inr hk))))
  rw [← seenCells_snoc] at ho
  have HR := Lib.hid (RDevRep.put_seen h1b h2 h3b ho (by simp))
  have HS := Lib.hid hs
  clear ho hs hg h1b h1a h3b
  go_wp2
  go_end0
  refine ⟨rfl, ⟨_, _, HR.out, ?_⟩, hO.setCell (.inl (hF b (.inl rfl))) _⟩
  rintro k (rfl | hk | hk)
  · exact .inl (hF _ (.inl rfl))
  · exact .inl (hF _ (.inr (.inl hk)))
  · rcases HS.out k hk with h | h
    · exact .inl (hF _ (.inr (.inr h)))
    · exact .inr (Nat.le_trans (by simp) h)

set_option maxHeartbeats 400000 in
theorem rend_fault (D : DevS) (w : World) (b : Nat) (F : Nat → Prop) (h : RDevAt w b D F) (x : Int) (hn : D.seen.length < 100000) :
    Calls Try.prog 27 #[.pointer (some ⟨b, 0, none⟩), .int .i64 4, .int .u32 x] w fun e w' => e = .returned (.tuple #[]) ∧ RDevAt w' b { D with seen := D.seen ++ [(4, x, 0)] } (fun k => F k ∨ w.heap.size ≤ k) ∧ Only F w w' := by
  obtain ⟨kv, sv, ⟨h1, h2, h3, h4⟩, hF⟩ := h
  have c0 : w.cell? ⟨b, 1, none⟩ = some sv := (blk_cell h1 1).trans (rdevCells_19 _ _ _ _ _ h2)
  obtain ⟨i0, hi, hz0, hz1, hz2⟩ := info_parts infoSeen
  obtain ⟨ao, cap, rfl⟩ := own_slice h4
  go_enter Try.func27, Try.ntmps27
  go_wp2_with (at_builtin; refine wpList_append_sep _ rfl _ _ 26 rfl 39 i0 (.agg #[.int .i64 0, .int .u32 0, .int .u32 0]) 3 16 Try.underlying26 hi hz0 hz1 hz2 rfl (by decide) _ _ _ rfl (h4.alloc _) ⟨w.heap.size, 0, none⟩ 1 1 [.int .i64 4, .int .u32 x, .int .u32 0] rfl rfl (cells_three_new _ _ _ _ _) (by simp [Value.oneCell']) (by unfold maxLen; omega) (by omega) ?_)
  intro v' w1 ho hg hs
  obtain ⟨ao', cap', rfl⟩ := own_slice ho
  have h1a := blk_old h1 (.cells #[.int .i64 4, .int .u32 x, .int .u32 0] 39)
  have h1b := blk_grown h1a hg (own_not (h4.alloc _) h1a (by decide))
  have h3b := own_grown (h3.alloc _) hg (fun k hk hk' => own_apart (h3.alloc (.cells #[.int .i64 4, .int .u32 x, .int .u32 0] 39)) (h4.alloc _) (by decide) hk hk')
  have c0b := blk_cell h1b 1
  have f0b := blk_free h1b 1
  rw [rdevCells_19 _ _ _ _ _ h2] at c0b
  have hO : Only F w w1 := ((Only.refl F w).alloc' _).grown hg (fun k hk => .inl (hF k (.inr (.inr hk))))
  rw [← seenCells_snoc] at ho
  have HR := Lib.hid (RDevRep.put_seen h1b h2 h3b ho (by simp))
  have HS := Lib.hid hs
  clear ho hs hg h1b h1a h3b
  go_wp2
  go_end0
  refine ⟨rfl, ⟨_, _, HR.out, ?_⟩, hO.setCell (.inl (hF b (.inl rfl))) _⟩
  rintro k (rfl | hk | hk)
  · exact .inl (hF _ (.inl rfl))
  · exact .inl (hF _ (.inr (.inl hk)))
  · rcases HS.out k hk with h | h
    · exact .inl (hF _ (.inr (.inr h)))
    · exact .inr (Nat.le_trans (by simp) h)

set_option maxHeartbeats 400000 in
theorem rend_other (D : DevS) (w : World) (b : Nat) (F : Nat → Prop) (h : RDevAt w b D F) (c x : Int) (h3' : (c == 3) = false) (h4' : (c == 4) = false) :
    Calls Try.prog 27 #[.pointer (some ⟨b, 0, none⟩), .int .i64 c, .int .u32 x] w fun e w' => e = .returned (.tuple #[]) ∧ w = w' := by
  clear h
  go_enter Try.func27, Try.ntmps27
  go_wp2
  go_end0
  exact ⟨rfl, rfl⟩

set_option maxHeartbeats 400000 in
theorem rput_any (D : DevS) (w : World) (b : Nat) (F : Nat → Prop) (h : RDevAt w b D F) (s x : Int) (hs0 : 0 ≤ s) (hs1 : s ≤ 4294967295) (hn : D.seen.length < 100000) :
    Calls Try.prog 25 #[.pointer (some ⟨b, 0, none⟩), .int .u32 s, .int .u32 x] w fun e w' => e = .returned (.tuple #[]) ∧ RDevAt w' b { D with sec := D.sec.set (s.toNat % 16) x, seen := D.seen ++ [(2, s % 16, x)] } (fun k => F k ∨ w.heap.size ≤ k) ∧ Only F w w' := by
  obtain ⟨kv, sv, ⟨h1, h2, h3, h4⟩, hF⟩ := h
  obtain ⟨n, rfl⟩ := Int.eq_ofNat_of_zero_le hs0
  have hr := RDevRep.put_sec ⟨h1, h2, h3, h4⟩ (n % 16) (Nat.mod_lt _ (by omega)) x
  have cs : w.cell? ⟨b, 2 + n % 16, none⟩ = some (.int .u32 (D.sec.getD (n % 16) 0)) := (blk_cell h1 _).trans (rdevCells_sec _ _ _ _ _ _ (by rw [h2]; exact Nat.mod_lt _ (by omega)))
  have fs := blk_free h1 (2 + n % 16)
  have hO0 : Only F w (w.setCell ⟨b, 2 + n % 16, none⟩ (.int .u32 x)) := (Only.refl F w).setCell (.inl (hF b (.inl rfl))) _
  obtain ⟨g1, g2, g3, g4⟩ := hr
  dsimp only at g1 g2 g3 g4
  have cP : (w.setCell ⟨b, 2 + n % 16, none⟩ (.int .u32 x)).cell? ⟨b, 1, none⟩ = some sv := (blk_cell g1 1).trans (rdevCells_19 _ _ _ _ _ g2)
  obtain ⟨i0, hi, hz0, hz1, hz2⟩ := info_parts infoSeen
  obtain ⟨ao, cap, rfl⟩ := own_slice h4
  have hnew := cells_three_new (w.setCell ⟨b, 2 + n % 16, none⟩ (.int .u32 x)) (.int .i64 2) (.int .u32 (↑n % 16)) (.int .u32 x) 39
  rw [World.size_setCell] at hnew
  have HN := Lib.hid hnew
  clear h3 h4 h1 h2 hnew
  go_enter Try.func25, Try.ntmps25
  go_wp2_with (at_builtin; refine wpList_append_sep _ rfl _ _ 26 rfl 39 i0 (.agg #[.int .i64 0, .int .u32 0, .int .u32 0]) 3 16 Try.underlying26 hi hz0 hz1 hz2 rfl (by decide) _ _ _ rfl (g4.alloc _) ⟨w.heap.size, 0, none⟩ 1 1 [.int .i64 2, .int .u32 (↑n % 16), .int .u32 x] rfl rfl HN.out (by simp [Value.oneCell']) (by unfold maxLen; omega) (by omega) ?_)
  intro v' w1 ho hg hs
  obtain ⟨ao', cap', rfl⟩ := own_slice ho
  have h1a := blk_old g1 (.cells #[.int .i64 2, .int .u32 (↑n % 16), .int .u32 x] 39)
  have h1b := blk_grown h1a hg (own_not (g4.alloc _) h1a (by decide))
  have h3b := own_grown (g3.alloc _) hg (fun k hk hk' => own_apart (g3.alloc (.cells #[.int .i64 2, .int .u32 (↑n % 16), .int .u32 x] 39)) (g4.alloc _) (by decide) hk hk')
  have c0b := blk_cell h1b 1
  have f0b := blk_free h1b 1
  rw [rdevCells_19 _ _ _ _ _ g2] at c0b
  have hO : Only F w w1 := (hO0.alloc' _).grown hg (fun k hk => .inl (hF k (.inr (.inr hk))))
  rw [← seenCells_snoc] at ho
  have HR := Lib.hid (RDevRep.put_seen (D := { D with sec := D.sec.set (n % 16) x }) h1b g2 h3b ho (by simp))
  have HS := Lib.hid hs
  clear ho hs hg h1b h1a h3b
  go_wp2
  go_end0
  refine ⟨rfl, ⟨_, _, HR.out, ?_⟩, hO.setCell (.inl (hF b (.inl rfl))) _⟩
  rintro k (rfl | hk | hk)
  · exact .inl (hF _ (.inl rfl))
  · exact .inl (hF _ (.inr (.inl hk)))
  · rcases HS.out k hk with h | h
    · exact .inl (hF _ (.inr (.inr h)))
    · exact .inr (Nat.le_trans (by simp) h)

set_option maxHeartbeats 400000 in
theorem rget_any (D : DevS) (w : World) (b : Nat) (F : Nat → Prop) (h : RDevAt w b D F) (s : Int) (hs0 : 0 ≤ s) (hs1 : s ≤ 4294967295) :
    Calls Try.prog 28 #[.pointer (some ⟨b, 0, none⟩), .int .u32 s] w fun e w' => e = .returned (.int .u32 (D.sec.getD (s.toNat % 16) 0)) ∧ w = w' := by
  obtain ⟨kv, sv, ⟨h1, h2, h3, h4⟩, hF⟩ := h
  obtain ⟨n, rfl⟩ := Int.eq_ofNat_of_zero_le hs0
  have cs : w.cell? ⟨b, 2 + n % 16, none⟩ = some (.int .u32 (D.sec.getD (n % 16) 0)) := (blk_cell h1 _).trans (rdevCells_sec _ _ _ _ _ _ (by rw [h2]; exact Nat.mod_lt _ (by omega)))
  obtain ⟨v, hv⟩ : ∃ v, D.sec.getD (n % 16) 0 = v := ⟨_, rfl⟩
  rw [hv] at cs
  rw [Int.toNat_natCast, hv]
  clear hv
  go_enter Try.func28, Try.ntmps28
  go_wp2
  go_ret
  exact ⟨rfl, rfl⟩

set_option maxHeartbeats 400000 in
theorem rdue_any (D : DevS) (w : World) (b : Nat) (F : Nat → Prop) (h : RDevAt w b D F) (now : Int) :
    Calls Try.prog 29 #[.pointer (some ⟨b, 0, none⟩), .int .i64 now] w fun e w' => e = .returned (.bool (D.set && decide (D.due ≤ now))) ∧ w = w' := by
  obtain ⟨kv, sv, ⟨h1, h2, h3, h4⟩, hF⟩ := h
  have c17 : w.cell? ⟨b, 19, none⟩ = some (.bool D.set) := (blk_cell h1 19).trans (rdevCells_17 _ _ _ _ _ h2)
  have c18 : w.cell? ⟨b, 18, none⟩ = some (.int .i64 D.due) := (blk_cell h1 18).trans (rdevCells_18 _ _ _ _ _ h2)
  obtain ⟨keys, sec, st, due, seen⟩ := D
  dsimp only at c17 c18 ⊢
  clear h1 h2 h3 h4 hF
  cases st
  all_goals
    go_enter Try.func29, Try.ntmps29
    go_wp2
    go_ret
    exact ⟨ret_bool (by simp), rfl⟩

set_option maxHeartbeats 400000 in
theorem rset_any (D : DevS) (w : World) (b : Nat) (F : Nat → Prop) (h : RDevAt w b D F) (now a : Int) (ha0 : 0 ≤ a) (ha1 : a ≤ 4294967295) (hn0 : 0 ≤ now) (hn1 : now ≤ 2251799813685248) :
    Calls Try.prog 26 #[.pointer (some ⟨b, 0, none⟩), .int .i64 now, .int .u32 a] w fun e w' => e = .returned (.tuple #[]) ∧ RDevAt w' b { D with set := decide (0 < a), due := now + a } F ∧ Only F w w' := by
  obtain ⟨kv, sv, ⟨h1, h2, h3, h4⟩, hF⟩ := h
  have c19 : w.cell? ⟨b, 19, none⟩ = some (.bool D.set) := (blk_cell h1 19).trans (rdevCells_17 _ _ _ _ _ h2)
  have c18 : w.cell? ⟨b, 18, none⟩ = some (.int .i64 D.due) := (blk_cell h1 18).trans (rdevCells_18 _ _ _ _ _ h2)
  have f19 := blk_free h1 19
  have f18 := blk_free h1 18
  have HR := Lib.hid ((RDevRep.put_set ⟨h1, h2, h3, h4⟩ (decide (0 < a))).put_due (now + a))
  have hO : Only F w ((w.setCell ⟨b, 19, none⟩ (.bool (decide (0 < a)))).setCell ⟨b, 18, none⟩ (.int .i64 (now + a))) := ((Only.refl F w).setCell (.inl (hF b (.inl rfl))) _).setCell (.inl (hF b (.inl rfl))) _
  clear h1 h2 h3 h4
  go_enter Try.func26, Try.ntmps26
  go_wp2
  go_end0
  exact ⟨rfl, ⟨_, _, HR.out, hF⟩, hO⟩
end Go.Proofs.Ytljmdgoedmgikaa
