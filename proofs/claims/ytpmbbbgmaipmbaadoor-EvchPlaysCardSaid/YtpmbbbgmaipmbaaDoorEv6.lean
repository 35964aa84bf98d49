/-
  evch.Net: Clone, Get, a new one; the first check of chapter 21.
-/
import Derived.Test.YtpmbbbgmaipmbaaDoorEv5
namespace Go.Proofs.YtpmbbbgmaipmbaaDoor
open Go.RowKit

def none128 : List Pe := List.replicate 128 {}
theorem ev_zero : Tryd.zeroCells41 = (none128.flatMap peOne).toArray := by kernel_rfl
theorem ev_new (w : World) : NAt (w.alloc (.cells Tryd.zeroCells41 41)) w.heap.size none128 := ⟨by rw [ev_zero]; exact blk_new _ _, rfl⟩
theorem none128_get (i : Nat) : none128.getD i default = {} := by
  unfold none128
  rw [List.getD_eq_getElem?_getD, List.getElem?_replicate]
  split <;> rfl
theorem infoNet : (Tryd.prog.info? 41).map (·.size) = some (128 * 6) := by kernel_rfl
@[go_sem ↓] theorem load_net (a : Addr) : loadVar 41 a = loadT 41 a := rfl
@[go_sem ↓] theorem store_net (a : Addr) (v : Value) : storeVar 41 a v = storeT 41 a v := rfl
theorem load_netB {w : World} {b : Nat} {l : List Pe} (h : NAt w b l) : (loadT 41 ⟨b, 0, none⟩).run Tryd.prog w = .ok (.agg (l.flatMap peOne).toArray) w := by
  show (loadVar 41 ⟨b, 0, none⟩).run Tryd.prog w = _
  have := load_part (P := Tryd.prog) peOne_len 128 Tryd.underlying41 rfl infoNet h.1 0 (by rw [h.2]; omega)
  rw [Nat.zero_mul, List.drop_zero, List.take_of_length_le (by rw [h.2]; exact Nat.le_refl _)] at this
  exact this
theorem peOne_cell (x : Pe) : ∀ u ∈ peOne x, u.oneCell' = true := by
  intro u hu
  simp only [peOne, List.mem_cons, List.not_mem_nil, or_false] at hu
  rcases hu with rfl | rfl | rfl | rfl | rfl | rfl <;> rfl
theorem ev_size (l : List Pe) (h : l.length = 128) : (l.flatMap peOne).toArray.size = 768 := by
  rw [List.size_toArray, rec_len peOne 6 peOne_len, h]
theorem store_netB (w : World) (l : List Pe) (h : l.length = 128) : (storeT 41 ⟨w.heap.size, 0, none⟩ (.agg (l.flatMap peOne).toArray)).run Tryd.prog (w.alloc (.cells Tryd.zeroCells41 41)) = .ok () (w.alloc (.cells (l.flatMap peOne).toArray 41)) := by
  show (storeVar 41 _ _).run Tryd.prog _ = _
  have hz : (Tryd.zeroCells41).size = 768 := by rw [ev_zero]; exact ev_size _ rfl
  rw [run_store_by (P := Tryd.prog) _ 768 infoNet, storeBy_lit, row?_alloc_at _ _ _ rfl]
  dsimp only
  rw [if_pos ⟨ev_size l h, allOne_rec peOne peOne_cell l⟩, if_pos ⟨hz, rfl⟩, setRow_alloc_at _ _ _ _ rfl]
theorem nclone_any (l : List Pe) (b : Nat) (w : World) (h : NAt w b l) :
    Calls Tryd.prog 39 #[.pointer (some ⟨b, 0, none⟩)] w fun e w' => e = .returned (.pointer (some ⟨w.heap.size, 0, none⟩)) ∧ NAt w' w.heap.size l ∧ Below w.heap.size w w' := by
  have hl := load_netB h
  have hs := store_netB w l h.2
  have HN : Hid (NAt (w.alloc (.cells (l.flatMap peOne).toArray 41)) w.heap.size l) := Lib.hid ⟨blk_new _ _, h.2⟩
  have HB : Hid (Below w.heap.size w (w.alloc (.cells (l.flatMap peOne).toArray 41))) := Lib.hid ((Below.refl _ _).alloc (Nat.le_refl _) _)
  obtain ⟨cs, hcs⟩ : ∃ cs, (l.flatMap peOne).toArray = cs := ⟨_, rfl⟩
  rw [hcs] at hl hs HN HB
  clear h hcs
  go_enter Tryd.func39, Tryd.ntmps39
  go_wp2
  go_ret
  exact ⟨rfl, HN.out, HB.out⟩

theorem eget_bad (b : Nat) (g p : Int) (w : World) (h : ¬ (0 ≤ g ∧ g < 8)) :
    Calls Tryd.prog 30 #[.pointer (some ⟨b, 0, none⟩), .int .i64 g, .int .i64 p] w fun e w' => e = .returned (.tuple #[.agg #[.bool false, .bool false, .bool false, .int .i64 0, .int .i64 0], .bool false]) ∧ Below w.heap.size w w' := by
  have HG := Lib.hid (guest_no g h)
  clear h
  go_enter Tryd.func30, Tryd.ntmps30
  go_wp2_with (go_at_call 51; refine (HG.out _).mono ?_; rintro e w1 ⟨rfl, rfl⟩)
  exact bodyPost_ret (v := .tuple #[.agg #[.bool false, .bool false, .bool false, .int .i64 0, .int .i64 0], .bool false]) (by simp [results, Tryd.results30, go_sem]) rfl ⟨rfl, (Below.refl _ _).alloc (Nat.le_refl _) _⟩
theorem eget_none (l : List Pe) (b g : Nat) (p : Int) (w : World) (h : NAt w b l) (hg : g < 8) (ha : atP l g p = none) :
    Calls Tryd.prog 30 #[.pointer (some ⟨b, 0, none⟩), .int .i64 g, .int .i64 p] w fun e w' => e = .returned (.tuple #[.agg #[.bool false, .bool false, .bool false, .int .i64 0, .int .i64 0], .bool false]) ∧ Below w.heap.size w w' := by
  have HG := Lib.hid (guest_yes g hg)
  have hb1 : Below w.heap.size w (w.alloc (.cells #[.bool false, .bool false, .bool false, .int .i64 0, .int .i64 0] 67)) := (Below.refl _ _).alloc (Nat.le_refl _) _
  have HA := Lib.hid (at_any l b g p _ (h.below hb1) hg)
  rw [ha] at HA
  clear h hb1 ha
  go_enter Tryd.func30, Tryd.ntmps30
  go_wp2_with fail
  refine (HG.out _).mono ?_
  rintro e w1 ⟨rfl, rfl⟩
  go_wp2_with fail
  refine HA.out.mono ?_
  rintro e w1 ⟨rfl, rfl⟩
  unfold ptrP
  go_wp2
  exact bodyPost_ret (v := .tuple #[.agg #[.bool false, .bool false, .bool false, .int .i64 0, .int .i64 0], .bool false]) (by simp [results, Tryd.results30, go_sem]) rfl ⟨rfl, (Below.refl _ _).alloc (Nat.le_refl _) _⟩
set_option maxRecDepth 100000 in
set_option maxHeartbeats 1600000 in
theorem eget_some (l : List Pe) (b g r : Nat) (p : Int) (w : World) (h : NAt w b l) (hg : g < 8) (ha : atP l g p = some r) :
    Calls Tryd.prog 30 #[.pointer (some ⟨b, 0, none⟩), .int .i64 g, .int .i64 p] w fun e w' => e = .returned (.tuple #[.agg #[.bool true, .bool (l.getD (g * 16 + r) default).masked, .bool (l.getD (g * 16 + r) default).pend,
      .int .i64 (if (l.getD (g * 16 + r) default).bound then (l.getD (g * 16 + r) default).guest else -1), .int .i64 (if (l.getD (g * 16 + r) default).bound then (l.getD (g * 16 + r) default).port else -1)], .bool true]) ∧ Below w.heap.size w w' := by
  have HG := Lib.hid (guest_yes g hg)
  have hr := (atP_lt ha).1
  have hb1 : Below w.heap.size w (w.alloc (.cells #[.bool false, .bool false, .bool false, .int .i64 0, .int .i64 0] 67)) := (Below.refl _ _).alloc (Nat.le_refl _) _
  have HA := Lib.hid (at_any l b g p _ (h.below hb1) hg)
  have HB1 := Lib.hid hb1
  rw [ha] at HA
  obtain ⟨-, c1, c2, c3, c4, c5⟩ := h.cells g r hg hr
  have hlt := h.lt
  obtain ⟨⟨lv, bd, mk, pn, gu, po⟩, hx⟩ : ∃ x, l.getD (g * 16 + r) default = x := ⟨_, rfl⟩
  rw [hx] at c1 c2 c3 c4 c5 ⊢
  clear h hb1 ha hx
  cases bd
  · go_enter Tryd.func30, Tryd.ntmps30
    go_wp2_with fail
    refine (HG.out _).mono ?_
    rintro e w1 ⟨rfl, rfl⟩
    go_wp2_with fail
    refine HA.out.mono ?_
    rintro e w1 ⟨rfl, rfl⟩
    unfold ptrP
    go_wp2
    go_region
    all_goals
      go_wp2
      refine bodyPost_ret (v := .tuple #[.agg #[.bool true, .bool mk, .bool pn, .int .i64 (-1), .int .i64 (-1)], .bool true]) (by simp [results, Tryd.results30, go_sem]) rfl ⟨rfl, ?_⟩
      repeat (first | exact Below.refl _ _ | refine Below.drew ?_ | refine Below.alloc ?_ (by simp) _ | refine Below.setCell ?_ (by simp) _)
  · go_enter Tryd.func30, Tryd.ntmps30
    go_wp2_with fail
    refine (HG.out _).mono ?_
    rintro e w1 ⟨rfl, rfl⟩
    go_wp2_with fail
    refine HA.out.mono ?_
    rintro e w1 ⟨rfl, rfl⟩
    unfold ptrP
    go_wp2
    go_region
    all_goals
      go_wp2
      go_region
      all_goals
        go_wp2
        refine bodyPost_ret (v := .tuple #[.agg #[.bool true, .bool mk, .bool pn, .int .i64 gu, .int .i64 po], .bool true]) (by simp [results, Tryd.results30, go_sem]) rfl ⟨rfl, ?_⟩
        repeat (first | exact Below.refl _ _ | refine Below.drew ?_ | refine Below.alloc ?_ (by simp) _ | refine Below.setCell ?_ (by simp) _)
end Go.Proofs.YtpmbbbgmaipmbaaDoor
