/-
  Parts of one proof, one behind the other.
-/
import Derived.Test.YtaoaachgnnengaaDoorMg91508a8c08
/-
  frames.Frames: what frames are told.
-/
namespace Go.Proofs.YtaoaachgnnengaaDoor
open Go.RowKit

theorem only_set {g : Nat} {w w' : World} (h : Only (fun k => k = g) w w') (o : Nat) (u : Value) : Only (fun k => k = g) w (w'.setCell ⟨g, o, none⟩ u) := h.setCell (p := ⟨g, o, none⟩) (.inl rfl) u
theorem FrAt.put0x {TB TR : TypeId} {w : World} {b g cap n : Nat} {l : List Fr} {x0 x1 x2 x3 : Int} (h : FrAt TB TR w b g cap l) (hx : l.getD n default = ⟨x0, x1, x2, x3⟩) (hn : n < l.length) (z : Int) : FrAt TB TR (w.setCell ⟨g, n * 4, none⟩ (.int .i64 z)) b g cap (l.set n ⟨z, x1, x2, x3⟩) := by
  have := h.put0 hn z
  rw [hx] at this
  exact this
theorem FrAt.put1x {TB TR : TypeId} {w : World} {b g cap n : Nat} {l : List Fr} {x0 x1 x2 x3 : Int} (h : FrAt TB TR w b g cap l) (hx : l.getD n default = ⟨x0, x1, x2, x3⟩) (hn : n < l.length) (z : Int) : FrAt TB TR (w.setCell ⟨g, n * 4 + 1, none⟩ (.int .i64 z)) b g cap (l.set n ⟨x0, z, x2, x3⟩) := by
  have := h.put1 hn z
  rw [hx] at this
  exact this
theorem FrAt.put2x {TB TR : TypeId} {w : World} {b g cap n : Nat} {l : List Fr} {x0 x1 x2 x3 : Int} (h : FrAt TB TR w b g cap l) (hx : l.getD n default = ⟨x0, x1, x2, x3⟩) (hn : n < l.length) (z : Int) : FrAt TB TR (w.setCell ⟨g, n * 4 + 2, none⟩ (.int .i64 z)) b g cap (l.set n ⟨x0, x1, z, x3⟩) := by
  have := h.put2 hn z
  rw [hx] at this
  exact this
theorem FrAt.put3x {TB TR : TypeId} {w : World} {b g cap n : Nat} {l : List Fr} {x0 x1 x2 x3 : Int} (h : FrAt TB TR w b g cap l) (hx : l.getD n default = ⟨x0, x1, x2, x3⟩) (hn : n < l.length) (z : Int) : FrAt TB TR (w.setCell ⟨g, n * 4 + 3, none⟩ (.int .i64 z)) b g cap (l.set n ⟨x0, x1, x2, z⟩) := by
  have := h.put3 hn z
  rw [hx] at this
  exact this
theorem fr_set_same (l : List Fr) (n : Nat) (hn : n < l.length) : l.set n (l.getD n default) = l := by
  rw [List.getD_eq_getElem?_getD, List.getElem?_eq_getElem hn]
  exact List.set_getElem_self hn

set_option maxRecDepth 100000 in
set_option maxHeartbeats 3200000 in
theorem ffree_any (E : Nat → Addr) (l : List Fr) (b g cap : Nat) (i who : Int) (w : World) (hE : ErrsAt errT gOf w E nine) (h : FrAt 95 33 w b g cap l) :
    Calls Tryd.prog 15 #[.pointer (some ⟨b, 0, none⟩), .int .i64 i, .int .i64 who] w (FrQ 95 33 E b g cap (frMine l i who kFree) w) := by
  have HEK : Hid (∀ wx, Below w.heap.size w wx → wx.cell? ⟨0, 0, none⟩ = some (errV (E 2)) ∧ wx.cell? ⟨4, 0, none⟩ = some (errV (E 10)) ∧ wx.cell? ⟨2, 0, none⟩ = some (errV (E 11)) ∧ wx.cell? ⟨3, 0, none⟩ = some (errV (E 6)) ∧ wx.cell? ⟨6, 0, none⟩ = some (errV (E 9)) ∧ wx.cell? ⟨1, 0, none⟩ = some (errV (E 12))) := Lib.hid fun wx hx => ⟨((hE.mono hx).1 2 (by decide)).1, ((hE.mono hx).1 10 (by decide)).1, ((hE.mono hx).1 11 (by decide)).1, ((hE.mono hx).1 6 (by decide)).1, ((hE.mono hx).1 9 (by decide)).1, ((hE.mono hx).1 12 (by decide)).1⟩
  have HT := Lib.hid (fown_any E l b g cap i who w hE h)
  have HRL := Lib.hid h
  unfold FrQ
  obtain ⟨R, hR⟩ : ∃ R, frMine l i who kFree = R := ⟨_, rfl⟩
  rw [hR]
  unfold frMine at hR
  unfold frOwnC at HT
  cases hN : frAt l i with
  | none =>
    rw [hN] at HT hR
    dsimp only [Option.isSome] at HT hR
    subst hR
    clear h hE hN
    go_enter Tryd.func15, Tryd.ntmps15
    go_wp2_with fail
    refine HT.out.mono ?_
    rintro e w1 ⟨rfl, hb1⟩
    have HB := Lib.hid hb1
    obtain ⟨-, -, -, e6, -, -⟩ := HEK.out _ hb1
    clear hb1
    unfold errC; rw [if_neg (by decide)]
    go_wp2
    go_ret
    exact ⟨rfl, HRL.out.below HB.out, Only.of_below HB.out⟩
  | some n =>
    obtain ⟨rfl, hn, ho⟩ := frAt_some hN
    rw [hN] at HT hR
    dsimp only [Option.isSome] at HT hR
    have hni : (n : Int) < (l.length : Int) := by omega
    have hn0 : (0 : Int) ≤ (n : Int) := by omega
    have HF : Hid (∀ wx, Below w.heap.size w wx → FrAt 95 33 wx b g cap l ∧ wx.cell? ⟨b, 0, none⟩ = some (.slice (some ⟨g, 0, none⟩) l.length cap) ∧ wx.cell? ⟨g, n * 4, none⟩ = some (.int .i64 (l.getD n default).owner) ∧ wx.cell? ⟨g, n * 4 + 1, none⟩ = some (.int .i64 (l.getD n default).kind) ∧ wx.cell? ⟨g, n * 4 + 2, none⟩ = some (.int .i64 (l.getD n default).wr) ∧ wx.cell? ⟨g, n * 4 + 3, none⟩ = some (.int .i64 (l.getD n default).us) ∧ (∀ o, wx.frozen? ⟨g, o, none⟩ = false) ∧ g < wx.heap.size ∧ b < wx.heap.size) := Lib.hid fun wx hx => ⟨h.below hx, (h.below hx).hdr, ((h.below hx).cells n hn).1, ((h.below hx).cells n hn).2.1, ((h.below hx).cells n hn).2.2.1, ((h.below hx).cells n hn).2.2.2, fun o => (h.below hx).free o, (h.below hx).lt.2, (h.below hx).lt.1⟩
    obtain ⟨⟨x0, x1, x2, x3⟩, hx⟩ : ∃ x, l.getD n default = x := ⟨_, rfl⟩
    rw [hx] at HF HT hR
    have HX := Lib.hid hx
    have HN := Lib.hid hn
    dsimp only at HF HT hR
    clear h hE hN ho hx hn
    by_cases hw : x0 = who
    · subst hw
      rw [if_pos rfl] at HT hR
      unfold errC at HT
      rw [if_pos rfl] at HT
      by_cases h2 : 0 < x2
      · rw [show kFree ⟨x0, x1, x2, x3⟩ = (⟨x0, x1, x2, x3⟩, 112) from if_pos (.inl h2)] at hR
        subst hR
        go_enter Tryd.func15, Tryd.ntmps15
        go_wp2_with fail
        refine HT.out.mono ?_
        rintro e w1 ⟨rfl, hb1⟩
        have HB := Lib.hid hb1
        obtain ⟨HF1, c, c0, c1, c2, c3, fz, lg, lb⟩ := HF.out _ hb1
        have HF1 := Lib.hid HF1
        obtain ⟨e2, e10, e11, e6, e9, e12⟩ := HEK.out _ hb1
        have g2 := World.block_lt_of_cell? _ _ e2
        have g10 := World.block_lt_of_cell? _ _ e10
        have g11 := World.block_lt_of_cell? _ _ e11
        have f0 := fz (n * 4)
        have f1 := fz (n * 4 + 1)
        have f2 := fz (n * 4 + 2)
        have f3 := fz (n * 4 + 3)
        clear hb1 fz
        go_wp2
        go_ret
        refine ⟨rfl, ?_, ?_⟩
        · rw [show l.set n _ = l from by rw [← HX.out]; exact fr_set_same l n HN.out]
          repeat (first | exact HF1.out | refine FrAt.below ?_ ((Below.refl _ _).alloc (Nat.le_refl _) _))
        · repeat (first | exact Only.of_below HB.out | refine Only.alloc' ?_ _)
      · by_cases h3 : 0 < x3
        · rw [show kFree ⟨x0, x1, x2, x3⟩ = (⟨x0, x1, x2, x3⟩, 112) from if_pos (.inr h3)] at hR
          subst hR
          go_enter Tryd.func15, Tryd.ntmps15
          go_wp2_with fail
          refine HT.out.mono ?_
          rintro e w1 ⟨rfl, hb1⟩
          have HB := Lib.hid hb1
          obtain ⟨HF1, c, c0, c1, c2, c3, fz, lg, lb⟩ := HF.out _ hb1
          have HF1 := Lib.hid HF1
          obtain ⟨e2, e10, e11, e6, e9, e12⟩ := HEK.out _ hb1
          have g2 := World.block_lt_of_cell? _ _ e2
          have g10 := World.block_lt_of_cell? _ _ e10
          have g11 := World.block_lt_of_cell? _ _ e11
          have f0 := fz (n * 4)
          have f1 := fz (n * 4 + 1)
          have f2 := fz (n * 4 + 2)
          have f3 := fz (n * 4 + 3)
          clear hb1 fz
          go_wp2
          go_ret
          refine ⟨rfl, ?_, ?_⟩
          · rw [show l.set n _ = l from by rw [← HX.out]; exact fr_set_same l n HN.out]
            repeat (first | exact HF1.out | refine FrAt.below ?_ ((Below.refl _ _).alloc (Nat.le_refl _) _))
          · repeat (first | exact Only.of_below HB.out | refine Only.alloc' ?_ _)
        · rw [show kFree ⟨x0, x1, x2, x3⟩ = (frNo, 0) from if_neg (by show ¬ (0 < x2 ∨ 0 < x3); omega)] at hR
          subst hR
          go_enter Tryd.func15, Tryd.ntmps15
          go_wp2_with fail
          refine HT.out.mono ?_
          rintro e w1 ⟨rfl, hb1⟩
          have HB := Lib.hid hb1
          obtain ⟨HF1, c, c0, c1, c2, c3, fz, lg, lb⟩ := HF.out _ hb1
          have HF1 := Lib.hid HF1
          obtain ⟨e2, e10, e11, e6, e9, e12⟩ := HEK.out _ hb1
          have g2 := World.block_lt_of_cell? _ _ e2
          have g10 := World.block_lt_of_cell? _ _ e10
          have g11 := World.block_lt_of_cell? _ _ e11
          have f0 := fz (n * 4)
          have f1 := fz (n * 4 + 1)
          have f2 := fz (n * 4 + 2)
          have f3 := fz (n * 4 + 3)
          clear hb1 fz
          go_wp2
          go_ret
          refine ⟨rfl, ?_, ?_⟩
          · have := HF1.out.putAll (n := n) HN.out frNo; exact this
          · repeat (first | exact Only.of_below HB.out | refine only_set ?_ _ _ | refine Only.alloc' ?_ _)
    · rw [if_neg hw] at HT hR
      unfold errC at HT
      rw [if_neg (by decide)] at HT
      subst hR
      clear hw
      go_enter Tryd.func15, Tryd.ntmps15
      go_wp2_with fail
      refine HT.out.mono ?_
      rintro e w1 ⟨rfl, hb1⟩
      have HB := Lib.hid hb1
      clear hb1
      go_wp2
      go_ret
      exact ⟨rfl, HRL.out.below HB.out, Only.of_below HB.out⟩

set_option maxRecDepth 100000 in
set_option maxHeartbeats 3200000 in
theorem fplain_any (E : Nat → Addr) (l : List Fr) (b g cap : Nat) (i who : Int) (w : World) (hE : ErrsAt errT gOf w E nine) (h : FrAt 95 33 w b g cap l) :
    Calls Tryd.prog 24 #[.pointer (some ⟨b, 0, none⟩), .int .i64 i, .int .i64 who] w (FrQ 95 33 E b g cap (frMine l i who kPlain) w) := by
  have HEK : Hid (∀ wx, Below w.heap.size w wx → wx.cell? ⟨0, 0, none⟩ = some (errV (E 2)) ∧ wx.cell? ⟨4, 0, none⟩ = some (errV (E 10)) ∧ wx.cell? ⟨2, 0, none⟩ = some (errV (E 11)) ∧ wx.cell? ⟨3, 0, none⟩ = some (errV (E 6)) ∧ wx.cell? ⟨6, 0, none⟩ = some (errV (E 9)) ∧ wx.cell? ⟨1, 0, none⟩ = some (errV (E 12))) := Lib.hid fun wx hx => ⟨((hE.mono hx).1 2 (by decide)).1, ((hE.mono hx).1 10 (by decide)).1, ((hE.mono hx).1 11 (by decide)).1, ((hE.mono hx).1 6 (by decide)).1, ((hE.mono hx).1 9 (by decide)).1, ((hE.mono hx).1 12 (by decide)).1⟩
  have HT := Lib.hid (fown_any E l b g cap i who w hE h)
  have HRL := Lib.hid h
  unfold FrQ
  obtain ⟨R, hR⟩ : ∃ R, frMine l i who kPlain = R := ⟨_, rfl⟩
  rw [hR]
  unfold frMine at hR
  unfold frOwnC at HT
  cases hN : frAt l i with
  | none =>
    rw [hN] at HT hR
    dsimp only [Option.isSome] at HT hR
    subst hR
    clear h hE hN
    go_enter Tryd.func24, Tryd.ntmps24
    go_wp2_with fail
    refine HT.out.mono ?_
    rintro e w1 ⟨rfl, hb1⟩
    have HB := Lib.hid hb1
    obtain ⟨-, -, -, e6, -, -⟩ := HEK.out _ hb1
    clear hb1
    unfold errC; rw [if_neg (by decide)]
    go_wp2
    go_ret
    exact ⟨rfl, HRL.out.below HB.out, Only.of_below HB.out⟩
  | some n =>
    obtain ⟨rfl, hn, ho⟩ := frAt_some hN
    rw [hN] at HT hR
    dsimp only [Option.isSome] at HT hR
    have hni : (n : Int) < (l.length : Int) := by omega
    have hn0 : (0 : Int) ≤ (n : Int) := by omega
    have HF : Hid (∀ wx, Below w.heap.size w wx → FrAt 95 33 wx b g cap l ∧ wx.cell? ⟨b, 0, none⟩ = some (.slice (some ⟨g, 0, none⟩) l.length cap) ∧ wx.cell? ⟨g, n * 4, none⟩ = some (.int .i64 (l.getD n default).owner) ∧ wx.cell? ⟨g, n * 4 + 1, none⟩ = some (.int .i64 (l.getD n default).kind) ∧ wx.cell? ⟨g, n * 4 + 2, none⟩ = some (.int .i64 (l.getD n default).wr) ∧ wx.cell? ⟨g, n * 4 + 3, none⟩ = some (.int .i64 (l.getD n default).us) ∧ (∀ o, wx.frozen? ⟨g, o, none⟩ = false) ∧ g < wx.heap.size ∧ b < wx.heap.size) := Lib.hid fun wx hx => ⟨h.below hx, (h.below hx).hdr, ((h.below hx).cells n hn).1, ((h.below hx).cells n hn).2.1, ((h.below hx).cells n hn).2.2.1, ((h.below hx).cells n hn).2.2.2, fun o => (h.below hx).free o, (h.below hx).lt.2, (h.below hx).lt.1⟩
    obtain ⟨⟨x0, x1, x2, x3⟩, hx⟩ : ∃ x, l.getD n default = x := ⟨_, rfl⟩
    rw [hx] at HF HT hR
    have HX := Lib.hid hx
    have HN := Lib.hid hn
    dsimp only at HF HT hR
    clear h hE hN ho hx hn
    by_cases hw : x0 = who
    · subst hw
      rw [if_pos rfl] at HT hR
      unfold errC at HT
      rw [if_pos rfl] at HT
      by_cases h1 : x1 = 0
      · subst h1
        rw [show kPlain ⟨x0, 0, x2, x3⟩ = (⟨x0, 0, x2, x3⟩, 111) from if_pos rfl] at hR
        subst hR
        go_enter Tryd.func24, Tryd.ntmps24
        go_wp2_with fail
        refine HT.out.mono ?_
        rintro e w1 ⟨rfl, hb1⟩
        have HB := Lib.hid hb1
        obtain ⟨HF1, c, c0, c1, c2, c3, fz, lg, lb⟩ := HF.out _ hb1
        have HF1 := Lib.hid HF1
        obtain ⟨e2, e10, e11, e6, e9, e12⟩ := HEK.out _ hb1
        have g2 := World.block_lt_of_cell? _ _ e2
        have g10 := World.block_lt_of_cell? _ _ e10
        have g11 := World.block_lt_of_cell? _ _ e11
        have f0 := fz (n * 4)
        have f1 := fz (n * 4 + 1)
        have f2 := fz (n * 4 + 2)
        have f3 := fz (n * 4 + 3)
        clear hb1 fz
        go_wp2
        go_ret
        refine ⟨rfl, ?_, ?_⟩
        · rw [show l.set n _ = l from by rw [← HX.out]; exact fr_set_same l n HN.out]
          repeat (first | exact HF1.out | refine FrAt.below ?_ ((Below.refl _ _).alloc (Nat.le_refl _) _))
        · repeat (first | exact Only.of_below HB.out | refine Only.alloc' ?_ _)
      · by_cases h3 : 0 < x3
        · have h1' : (x1 == 0) = false := by simp [h1]
          rw [show kPlain ⟨x0, x1, x2, x3⟩ = (⟨x0, x1, x2, x3⟩, 112) from by unfold kPlain; rw [if_neg h1, if_pos h3]] at hR
          clear h1
          subst hR
          go_enter Tryd.func24, Tryd.ntmps24
          go_wp2_with fail
          refine HT.out.mono ?_
          rintro e w1 ⟨rfl, hb1⟩
          have HB := Lib.hid hb1
          obtain ⟨HF1, c, c0, c1, c2, c3, fz, lg, lb⟩ := HF.out _ hb1
          have HF1 := Lib.hid HF1
          obtain ⟨e2, e10, e11, e6, e9, e12⟩ := HEK.out _ hb1
          have g2 := World.block_lt_of_cell? _ _ e2
          have g10 := World.block_lt_of_cell? _ _ e10
          have g11 := World.block_lt_of_cell? _ _ e11
          have f0 := fz (n * 4)
          have f1 := fz (n * 4 + 1)
          have f2 := fz (n * 4 + 2)
          have f3 := fz (n * 4 + 3)
          clear hb1 fz
          go_wp2
          go_ret
          refine ⟨rfl, ?_, ?_⟩
          · rw [show l.set n _ = l from by rw [← HX.out]; exact fr_set_same l n HN.out]
            repeat (first | exact HF1.out | refine FrAt.below ?_ ((Below.refl _ _).alloc (Nat.le_refl _) _))
          · repeat (first | exact Only.of_below HB.out | refine Only.alloc' ?_ _)
        · have h1' : (x1 == 0) = false := by simp [h1]
          rw [show kPlain ⟨x0, x1, x2, x3⟩ = (⟨x0, 0, x2, x3⟩, 0) from by unfold kPlain; rw [if_neg h1, if_neg h3]] at hR
          clear h1
          subst hR
          go_enter Tryd.func24, Tryd.ntmps24
          go_wp2_with fail
          refine HT.out.mono ?_
          rintro e w1 ⟨rfl, hb1⟩
          have HB := Lib.hid hb1
          obtain ⟨HF1, c, c0, c1, c2, c3, fz, lg, lb⟩ := HF.out _ hb1
          have HF1 := Lib.hid HF1
          obtain ⟨e2, e10, e11, e6, e9, e12⟩ := HEK.out _ hb1
          have g2 := World.block_lt_of_cell? _ _ e2
          have g10 := World.block_lt_of_cell? _ _ e10
          have g11 := World.block_lt_of_cell? _ _ e11
          have f0 := fz (n * 4)
          have f1 := fz (n * 4 + 1)
          have f2 := fz (n * 4 + 2)
          have f3 := fz (n * 4 + 3)
          clear hb1 fz
          go_wp2
          go_ret
          refine ⟨rfl, ?_, ?_⟩
          · first | exact FrAt.put1x HF1.out HX.out HN.out _ | exact FrAt.below (FrAt.put1x HF1.out HX.out HN.out _) ((Below.refl _ _).alloc (Nat.le_refl _) _)
          · repeat (first | exact Only.of_below HB.out | refine only_set ?_ _ _ | refine Only.alloc' ?_ _)
    · rw [if_neg hw] at HT hR
      unfold errC at HT
      rw [if_neg (by decide)] at HT
      subst hR
      clear hw
      go_enter Tryd.func24, Tryd.ntmps24
      go_wp2_with fail
      refine HT.out.mono ?_
      rintro e w1 ⟨rfl, hb1⟩
      have HB := Lib.hid hb1
      clear hb1
      go_wp2
      go_ret
      exact ⟨rfl, HRL.out.below HB.out, Only.of_below HB.out⟩

set_option maxRecDepth 100000 in
set_option maxHeartbeats 3200000 in
theorem fmake1 (E : Nat → Addr) (l : List Fr) (b g cap : Nat) (i who : Int) (w : World) (hE : ErrsAt errT gOf w E nine) (h : FrAt 95 33 w b g cap l) :
    Calls Tryd.prog 23 #[.pointer (some ⟨b, 0, none⟩), .int .i64 i, .int .i64 who, .int .i64 1] w (FrQ 95 33 E b g cap (frMine l i who (kMake 1)) w) := by
  have HEK : Hid (∀ wx, Below w.heap.size w wx → wx.cell? ⟨0, 0, none⟩ = some (errV (E 2)) ∧ wx.cell? ⟨4, 0, none⟩ = some (errV (E 10)) ∧ wx.cell? ⟨2, 0, none⟩ = some (errV (E 11)) ∧ wx.cell? ⟨3, 0, none⟩ = some (errV (E 6)) ∧ wx.cell? ⟨6, 0, none⟩ = some (errV (E 9)) ∧ wx.cell? ⟨1, 0, none⟩ = some (errV (E 12))) := Lib.hid fun wx hx => ⟨((hE.mono hx).1 2 (by decide)).1, ((hE.mono hx).1 10 (by decide)).1, ((hE.mono hx).1 11 (by decide)).1, ((hE.mono hx).1 6 (by decide)).1, ((hE.mono hx).1 9 (by decide)).1, ((hE.mono hx).1 12 (by decide)).1⟩
  have HT := Lib.hid (fown_any E l b g cap i who w hE h)
  have HRL := Lib.hid h
  unfold FrQ
  obtain ⟨R, hR⟩ : ∃ R, frMine l i who (kMake 1) = R := ⟨_, rfl⟩
  rw [hR]
  unfold frMine at hR
  unfold frOwnC at HT
  cases hN : frAt l i with
  | none =>
    rw [hN] at HT hR
    dsimp only [Option.isSome] at HT hR
    subst hR
    clear h hE hN
    go_enter Tryd.func23, Tryd.ntmps23
    go_wp2_with fail
    refine HT.out.mono ?_
    rintro e w1 ⟨rfl, hb1⟩
    have HB := Lib.hid hb1
    obtain ⟨-, -, -, e6, -, -⟩ := HEK.out _ hb1
    clear hb1
    unfold errC; rw [if_neg (by decide)]
    go_wp2
    go_ret
    exact ⟨rfl, HRL.out.below HB.out, Only.of_below HB.out⟩
  | some n =>
    obtain ⟨rfl, hn, ho⟩ := frAt_some hN
    rw [hN] at HT hR
    dsimp only [Option.isSome] at HT hR
    have hni : (n : Int) < (l.length : Int) := by omega
    have hn0 : (0 : Int) ≤ (n : Int) := by omega
    have HF : Hid (∀ wx, Below w.heap.size w wx → FrAt 95 33 wx b g cap l ∧ wx.cell? ⟨b, 0, none⟩ = some (.slice (some ⟨g, 0, none⟩) l.length cap) ∧ wx.cell? ⟨g, n * 4, none⟩ = some (.int .i64 (l.getD n default).owner) ∧ wx.cell? ⟨g, n * 4 + 1, none⟩ = some (.int .i64 (l.getD n default).kind) ∧ wx.cell? ⟨g, n * 4 + 2, none⟩ = some (.int .i64 (l.getD n default).wr) ∧ wx.cell? ⟨g, n * 4 + 3, none⟩ = some (.int .i64 (l.getD n default).us) ∧ (∀ o, wx.frozen? ⟨g, o, none⟩ = false) ∧ g < wx.heap.size ∧ b < wx.heap.size) := Lib.hid fun wx hx => ⟨h.below hx, (h.below hx).hdr, ((h.below hx).cells n hn).1, ((h.below hx).cells n hn).2.1, ((h.below hx).cells n hn).2.2.1, ((h.below hx).cells n hn).2.2.2, fun o => (h.below hx).free o, (h.below hx).lt.2, (h.below hx).lt.1⟩
    obtain ⟨⟨x0, x1, x2, x3⟩, hx⟩ : ∃ x, l.getD n default = x := ⟨_, rfl⟩
    rw [hx] at HF HT hR
    have HX := Lib.hid hx
    have HN := Lib.hid hn
    dsimp only at HF HT hR
    clear h hE hN ho hx hn
    by_cases hw : x0 = who
    · subst hw
      rw [if_pos rfl] at HT hR
      unfold errC at HT
      rw [if_pos rfl] at HT
      by_cases h1 : x1 = 0
      · by_cases h2 : 0 < x2
        · subst h1
          rw [show kMake 1 ⟨x0, 0, x2, x3⟩ = (⟨x0, 0, x2, x3⟩, 112) from by unfold kMake; rw [if_neg (fun h => h rfl), if_pos (.inl h2)]] at hR
          subst hR
          go_enter Tryd.func23, Tryd.ntmps23
          go_wp2_with fail
          refine HT.out.mono ?_
          rintro e w1 ⟨rfl, hb1⟩
          have HB := Lib.hid hb1
          obtain ⟨HF1, c, c0, c1, c2, c3, fz, lg, lb⟩ := HF.out _ hb1
          have HF1 := Lib.hid HF1
          obtain ⟨e2, e10, e11, e6, e9, e12⟩ := HEK.out _ hb1
          have g2 := World.block_lt_of_cell? _ _ e2
          have g10 := World.block_lt_of_cell? _ _ e10
          have g11 := World.block_lt_of_cell? _ _ e11
          have f0 := fz (n * 4)
          have f1 := fz (n * 4 + 1)
          have f2 := fz (n * 4 + 2)
          have f3 := fz (n * 4 + 3)
          clear hb1 fz
          go_wp2
          go_ret
          refine ⟨rfl, ?_, ?_⟩
          · rw [show l.set n _ = l from by rw [← HX.out]; exact fr_set_same l n HN.out]
            repeat (first | exact HF1.out | refine FrAt.below ?_ ((Below.refl _ _).alloc (Nat.le_refl _) _))
          · repeat (first | exact Only.of_below HB.out | refine Only.alloc' ?_ _)
        · by_cases h3 : 0 < x3
          · subst h1
            rw [show kMake 1 ⟨x0, 0, x2, x3⟩ = (⟨x0, 0, x2, x3⟩, 112) from by unfold kMake; rw [if_neg (fun h => h rfl), if_pos (.inr h3)]] at hR
            subst hR
            go_enter Tryd.func23, Tryd.ntmps23
            go_wp2_with fail
            refine HT.out.mono ?_
            rintro e w1 ⟨rfl, hb1⟩
            have HB := Lib.hid hb1
            obtain ⟨HF1, c, c0, c1, c2, c3, fz, lg, lb⟩ := HF.out _ hb1
            have HF1 := Lib.hid HF1
            obtain ⟨e2, e10, e11, e6, e9, e12⟩ := HEK.out _ hb1
            have g2 := World.block_lt_of_cell? _ _ e2
            have g10 := World.block_lt_of_cell? _ _ e10
            have g11 := World.block_lt_of_cell? _ _ e11
            have f0 := fz (n * 4)
            have f1 := fz (n * 4 + 1)
            have f2 := fz (n * 4 + 2)
            have f3 := fz (n * 4 + 3)
            clear hb1 fz
            go_wp2
            go_ret
            refine ⟨rfl, ?_, ?_⟩
            · rw [show l.set n _ = l from by rw [← HX.out]; exact fr_set_same l n HN.out]
              repeat (first | exact HF1.out | refine FrAt.below ?_ ((Below.refl _ _).alloc (Nat.le_refl _) _))
            · repeat (first | exact Only.of_below HB.out | refine Only.alloc' ?_ _)
          · subst h1
            rw [show kMake 1 ⟨x0, 0, x2, x3⟩ = (⟨x0, 1, x2, x3⟩, 0) from by unfold kMake; rw [if_neg (fun h => h rfl), if_neg (by show ¬ (0 < x2 ∨ 0 < x3); omega)]] at hR
            subst hR
            go_enter Tryd.func23, Tryd.ntmps23
            go_wp2_with fail
            refine HT.out.mono ?_
            rintro e w1 ⟨rfl, hb1⟩
            have HB := Lib.hid hb1
            obtain ⟨HF1, c, c0, c1, c2, c3, fz, lg, lb⟩ := HF.out _ hb1
            have HF1 := Lib.hid HF1
            obtain ⟨e2, e10, e11, e6, e9, e12⟩ := HEK.out _ hb1
            have g2 := World.block_lt_of_cell? _ _ e2
            have g10 := World.block_lt_of_cell? _ _ e10
            have g11 := World.block_lt_of_cell? _ _ e11
            have f0 := fz (n * 4)
            have f1 := fz (n * 4 + 1)
            have f2 := fz (n * 4 + 2)
            have f3 := fz (n * 4 + 3)
            clear hb1 fz
            go_wp2
            go_ret
            refine ⟨rfl, ?_, ?_⟩
            · first | exact FrAt.put1x HF1.out HX.out HN.out _ | exact FrAt.below (FrAt.put1x HF1.out HX.out HN.out _) ((Below.refl _ _).alloc (Nat.le_refl _) _)
            · repeat (first | exact Only.of_below HB.out | refine only_set ?_ _ _ | refine Only.alloc' ?_ _)
      · have h1' : (x1 == 0) = false := by simp [h1]
        rw [show kMake 1 ⟨x0, x1, x2, x3⟩ = (⟨x0, x1, x2, x3⟩, 111) from by unfold kMake; rw [if_pos h1]] at hR
        clear h1
        subst hR
        go_enter Tryd.func23, Tryd.ntmps23
        go_wp2_with fail
        refine HT.out.mono ?_
        rintro e w1 ⟨rfl, hb1⟩
        have HB := Lib.hid hb1
        obtain ⟨HF1, c, c0, c1, c2, c3, fz, lg, lb⟩ := HF.out _ hb1
        have HF1 := Lib.hid HF1
        obtain ⟨e2, e10, e11, e6, e9, e12⟩ := HEK.out _ hb1
        have g2 := World.block_lt_of_cell? _ _ e2
        have g10 := World.block_lt_of_cell? _ _ e10
        have g11 := World.block_lt_of_cell? _ _ e11
        have f0 := fz (n * 4)
        have f1 := fz (n * 4 + 1)
        have f2 := fz (n * 4 + 2)
        have f3 := fz (n * 4 + 3)
        clear hb1 fz
        go_wp2
        go_ret
        refine ⟨rfl, ?_, ?_⟩
        · rw [show l.set n _ = l from by rw [← HX.out]; exact fr_set_same l n HN.out]
          repeat (first | exact HF1.out | refine FrAt.below ?_ ((Below.refl _ _).alloc (Nat.le_refl _) _))
        · repeat (first | exact Only.of_below HB.out | refine Only.alloc' ?_ _)
    · rw [if_neg hw] at HT hR
      unfold errC at HT
      rw [if_neg (by decide)] at HT
      subst hR
      clear hw
      go_enter Tryd.func23, Tryd.ntmps23
      go_wp2_with fail
      refine HT.out.mono ?_
      rintro e w1 ⟨rfl, hb1⟩
      have HB := Lib.hid hb1
      clear hb1
      go_wp2
      go_ret
      exact ⟨rfl, HRL.out.below HB.out, Only.of_below HB.out⟩

set_option maxRecDepth 100000 in
set_option maxHeartbeats 3200000 in
theorem fmake2 (E : Nat → Addr) (l : List Fr) (b g cap : Nat) (i who : Int) (w : World) (hE : ErrsAt errT gOf w E nine) (h : FrAt 95 33 w b g cap l) :
    Calls Tryd.prog 23 #[.pointer (some ⟨b, 0, none⟩), .int .i64 i, .int .i64 who, .int .i64 2] w (FrQ 95 33 E b g cap (frMine l i who (kMake 2)) w) := by
  have HEK : Hid (∀ wx, Below w.heap.size w wx → wx.cell? ⟨0, 0, none⟩ = some (errV (E 2)) ∧ wx.cell? ⟨4, 0, none⟩ = some (errV (E 10)) ∧ wx.cell? ⟨2, 0, none⟩ = some (errV (E 11)) ∧ wx.cell? ⟨3, 0, none⟩ = some (errV (E 6)) ∧ wx.cell? ⟨6, 0, none⟩ = some (errV (E 9)) ∧ wx.cell? ⟨1, 0, none⟩ = some (errV (E 12))) := Lib.hid fun wx hx => ⟨((hE.mono hx).1 2 (by decide)).1, ((hE.mono hx).1 10 (by decide)).1, ((hE.mono hx).1 11 (by decide)).1, ((hE.mono hx).1 6 (by decide)).1, ((hE.mono hx).1 9 (by decide)).1, ((hE.mono hx).1 12 (by decide)).1⟩
  have HT := Lib.hid (fown_any E l b g cap i who w hE h)
  have HRL := Lib.hid h
  unfold FrQ
  obtain ⟨R, hR⟩ : ∃ R, frMine l i who (kMake 2) = R := ⟨_, rfl⟩
  rw [hR]
  unfold frMine at hR
  unfold frOwnC at HT
  cases hN : frAt l i with
  | none =>
    rw [hN] at HT hR
    dsimp only [Option.isSome] at HT hR
    subst hR
    clear h hE hN
    go_enter Tryd.func23, Tryd.ntmps23
    go_wp2_with fail
    refine HT.out.mono ?_
    rintro e w1 ⟨rfl, hb1⟩
    have HB := Lib.hid hb1
    obtain ⟨-, -, -, e6, -, -⟩ := HEK.out _ hb1
    clear hb1
    unfold errC; rw [if_neg (by decide)]
    go_wp2
    go_ret
    exact ⟨rfl, HRL.out.below HB.out, Only.of_below HB.out⟩
  | some n =>
    obtain ⟨rfl, hn, ho⟩ := frAt_some hN
    rw [hN] at HT hR
    dsimp only [Option.isSome] at HT hR
    have hni : (n : Int) < (l.length : Int) := by omega
    have hn0 : (0 : Int) ≤ (n : Int) := by omega
    have HF : Hid (∀ wx, Below w.heap.size w wx → FrAt 95 33 wx b g cap l ∧ wx.cell? ⟨b, 0, none⟩ = some (.slice (some ⟨g, 0, none⟩) l.length cap) ∧ wx.cell? ⟨g, n * 4, none⟩ = some (.int .i64 (l.getD n default).owner) ∧ wx.cell? ⟨g, n * 4 + 1, none⟩ = some (.int .i64 (l.getD n default).kind) ∧ wx.cell? ⟨g, n * 4 + 2, none⟩ = some (.int .i64 (l.getD n default).wr) ∧ wx.cell? ⟨g, n * 4 + 3, none⟩ = some (.int .i64 (l.getD n default).us) ∧ (∀ o, wx.frozen? ⟨g, o, none⟩ = false) ∧ g < wx.heap.size ∧ b < wx.heap.size) := Lib.hid fun wx hx => ⟨h.below hx, (h.below hx).hdr, ((h.below hx).cells n hn).1, ((h.below hx).cells n hn).2.1, ((h.below hx).cells n hn).2.2.1, ((h.below hx).cells n hn).2.2.2, fun o => (h.below hx).free o, (h.below hx).lt.2, (h.below hx).lt.1⟩
    obtain ⟨⟨x0, x1, x2, x3⟩, hx⟩ : ∃ x, l.getD n default = x := ⟨_, rfl⟩
    rw [hx] at HF HT hR
    have HX := Lib.hid hx
    have HN := Lib.hid hn
    dsimp only at HF HT hR
    clear h hE hN ho hx hn
    by_cases hw : x0 = who
    · subst hw
      rw [if_pos rfl] at HT hR
      unfold errC at HT
      rw [if_pos rfl] at HT
      by_cases h1 : x1 = 0
      · by_cases h2 : 0 < x2
        · subst h1
          rw [show kMake 2 ⟨x0, 0, x2, x3⟩ = (⟨x0, 0, x2, x3⟩, 112) from by unfold kMake; rw [if_neg (fun h => h rfl), if_pos (.inl h2)]] at hR
          subst hR
          go_enter Tryd.func23, Tryd.ntmps23
          go_wp2_with fail
          refine HT.out.mono ?_
          rintro e w1 ⟨rfl, hb1⟩
          have HB := Lib.hid hb1
          obtain ⟨HF1, c, c0, c1, c2, c3, fz, lg, lb⟩ := HF.out _ hb1
          have HF1 := Lib.hid HF1
          obtain ⟨e2, e10, e11, e6, e9, e12⟩ := HEK.out _ hb1
          have g2 := World.block_lt_of_cell? _ _ e2
          have g10 := World.block_lt_of_cell? _ _ e10
          have g11 := World.block_lt_of_cell? _ _ e11
          have f0 := fz (n * 4)
          have f1 := fz (n * 4 + 1)
          have f2 := fz (n * 4 + 2)
          have f3 := fz (n * 4 + 3)
          clear hb1 fz
          go_wp2
          go_ret
          refine ⟨rfl, ?_, ?_⟩
          · rw [show l.set n _ = l from by rw [← HX.out]; exact fr_set_same l n HN.out]
            repeat (first | exact HF1.out | refine FrAt.below ?_ ((Below.refl _ _).alloc (Nat.le_refl _) _))
          · repeat (first | exact Only.of_below HB.out | refine Only.alloc' ?_ _)
        · by_cases h3 : 0 < x3
          · subst h1
            rw [show kMake 2 ⟨x0, 0, x2, x3⟩ = (⟨x0, 0, x2, x3⟩, 112) from by unfold kMake; rw [if_neg (fun h => h rfl), if_pos (.inr h3)]] at hR
            subst hR
            go_enter Tryd.func23, Tryd.ntmps23
            go_wp2_with fail
            refine HT.out.mono ?_
            rintro e w1 ⟨rfl, hb1⟩
            have HB := Lib.hid hb1
            obtain ⟨HF1, c, c0, c1, c2, c3, fz, lg, lb⟩ := HF.out _ hb1
            have HF1 := Lib.hid HF1
            obtain ⟨e2, e10, e11, e6, e9, e12⟩ := HEK.out _ hb1
            have g2 := World.block_lt_of_cell? _ _ e2
            have g10 := World.block_lt_of_cell? _ _ e10
            have g11 := World.block_lt_of_cell? _ _ e11
            have f0 := fz (n * 4)
            have f1 := fz (n * 4 + 1)
            have f2 := fz (n * 4 + 2)
            have f3 := fz (n * 4 + 3)
            clear hb1 fz
            go_wp2
            go_ret
            refine ⟨rfl, ?_, ?_⟩
            · rw [show l.set n _ = l from by rw [← HX.out]; exact fr_set_same l n HN.out]
              repeat (first | exact HF1.out | refine FrAt.below ?_ ((Below.refl _ _).alloc (Nat.le_refl _) _))
            · repeat (first | exact Only.of_below HB.out | refine Only.alloc' ?_ _)
          · subst h1
            rw [show kMake 2 ⟨x0, 0, x2, x3⟩ = (⟨x0, 2, x2, x3⟩, 0) from by unfold kMake; rw [if_neg (fun h => h rfl), if_neg (by show ¬ (0 < x2 ∨ 0 < x3); omega)]] at hR
            subst hR
            go_enter Tryd.func23, Tryd.ntmps23
            go_wp2_with fail
            refine HT.out.mono ?_
            rintro e w1 ⟨rfl, hb1⟩
            have HB := Lib.hid hb1
            obtain ⟨HF1, c, c0, c1, c2, c3, fz, lg, lb⟩ := HF.out _ hb1
            have HF1 := Lib.hid HF1
            obtain ⟨e2, e10, e11, e6, e9, e12⟩ := HEK.out _ hb1
            have g2 := World.block_lt_of_cell? _ _ e2
            have g10 := World.block_lt_of_cell? _ _ e10
            have g11 := World.block_lt_of_cell? _ _ e11
            have f0 := fz (n * 4)
            have f1 := fz (n * 4 + 1)
            have f2 := fz (n * 4 + 2)
            have f3 := fz (n * 4 + 3)
            clear hb1 fz
            go_wp2
            go_ret
            refine ⟨rfl, ?_, ?_⟩
            · first | exact FrAt.put1x HF1.out HX.out HN.out _ | exact FrAt.below (FrAt.put1x HF1.out HX.out HN.out _) ((Below.refl _ _).alloc (Nat.le_refl _) _)
            · repeat (first | exact Only.of_below HB.out | refine only_set ?_ _ _ | refine Only.alloc' ?_ _)
      · have h1' : (x1 == 0) = false := by simp [h1]
        rw [show kMake 2 ⟨x0, x1, x2, x3⟩ = (⟨x0, x1, x2, x3⟩, 111) from by unfold kMake; rw [if_pos h1]] at hR
        clear h1
        subst hR
        go_enter Tryd.func23, Tryd.ntmps23
        go_wp2_with fail
        refine HT.out.mono ?_
        rintro e w1 ⟨rfl, hb1⟩
        have HB := Lib.hid hb1
        obtain ⟨HF1, c, c0, c1, c2, c3, fz, lg, lb⟩ := HF.out _ hb1
        have HF1 := Lib.hid HF1
        obtain ⟨e2, e10, e11, e6, e9, e12⟩ := HEK.out _ hb1
        have g2 := World.block_lt_of_cell? _ _ e2
        have g10 := World.block_lt_of_cell? _ _ e10
        have g11 := World.block_lt_of_cell? _ _ e11
        have f0 := fz (n * 4)
        have f1 := fz (n * 4 + 1)
        have f2 := fz (n * 4 + 2)
        have f3 := fz (n * 4 + 3)
        clear hb1 fz
        go_wp2
        go_ret
        refine ⟨rfl, ?_, ?_⟩
        · rw [show l.set n _ = l from by rw [← HX.out]; exact fr_set_same l n HN.out]
          repeat (first | exact HF1.out | refine FrAt.below ?_ ((Below.refl _ _).alloc (Nat.le_refl _) _))
        · repeat (first | exact Only.of_below HB.out | refine Only.alloc' ?_ _)
    · rw [if_neg hw] at HT hR
      unfold errC at HT
      rw [if_neg (by decide)] at HT
      subst hR
      clear hw
      go_enter Tryd.func23, Tryd.ntmps23
      go_wp2_with fail
      refine HT.out.mono ?_
      rintro e w1 ⟨rfl, hb1⟩
      have HB := Lib.hid hb1
      clear hb1
      go_wp2
      go_ret
      exact ⟨rfl, HRL.out.below HB.out, Only.of_below HB.out⟩

set_option maxRecDepth 100000 in
set_option maxHeartbeats 3200000 in
theorem fwrite_any (E : Nat → Addr) (l : List Fr) (b g cap : Nat) (i : Int) (w : World) (hI : ∀ n, n < l.length → (0 ≤ (l.getD n default).wr ∧ (l.getD n default).wr ≤ 1000000) ∧ (0 ≤ (l.getD n default).us ∧ (l.getD n default).us ≤ 1000000)) (hE : ErrsAt errT gOf w E nine) (h : FrAt 95 33 w b g cap l) :
    Calls Tryd.prog 21 #[.pointer (some ⟨b, 0, none⟩), .int .i64 i] w (FrQ 95 33 E b g cap (frThere l i kWrite) w) := by
  have HEK : Hid (∀ wx, Below w.heap.size w wx → wx.cell? ⟨0, 0, none⟩ = some (errV (E 2)) ∧ wx.cell? ⟨4, 0, none⟩ = some (errV (E 10)) ∧ wx.cell? ⟨2, 0, none⟩ = some (errV (E 11)) ∧ wx.cell? ⟨3, 0, none⟩ = some (errV (E 6)) ∧ wx.cell? ⟨6, 0, none⟩ = some (errV (E 9)) ∧ wx.cell? ⟨1, 0, none⟩ = some (errV (E 12))) := Lib.hid fun wx hx => ⟨((hE.mono hx).1 2 (by decide)).1, ((hE.mono hx).1 10 (by decide)).1, ((hE.mono hx).1 11 (by decide)).1, ((hE.mono hx).1 6 (by decide)).1, ((hE.mono hx).1 9 (by decide)).1, ((hE.mono hx).1 12 (by decide)).1⟩
  have HT := Lib.hid (fthere_any l b g cap i w h)
  have HRL := Lib.hid h
  unfold FrQ
  obtain ⟨R, hR⟩ : ∃ R, frThere l i kWrite = R := ⟨_, rfl⟩
  rw [hR]
  unfold frThere at hR
  skip
  cases hN : frAt l i with
  | none =>
    rw [hN] at HT hR
    dsimp only [Option.isSome] at HT hR
    subst hR
    clear h hE hN
    go_enter Tryd.func21, Tryd.ntmps21
    go_wp2_with fail
    refine HT.out.mono ?_
    rintro e w1 ⟨rfl, hb1⟩
    have HB := Lib.hid hb1
    obtain ⟨-, -, -, e6, -, -⟩ := HEK.out _ hb1
    clear hb1
    skip
    go_wp2
    go_ret
    exact ⟨rfl, HRL.out.below HB.out, Only.of_below HB.out⟩
  | some n =>
    obtain ⟨rfl, hn, ho⟩ := frAt_some hN
    rw [hN] at HT hR
    dsimp only [Option.isSome] at HT hR
    have hni : (n : Int) < (l.length : Int) := by omega
    have hn0 : (0 : Int) ≤ (n : Int) := by omega
    have HF : Hid (∀ wx, Below w.heap.size w wx → FrAt 95 33 wx b g cap l ∧ wx.cell? ⟨b, 0, none⟩ = some (.slice (some ⟨g, 0, none⟩) l.length cap) ∧ wx.cell? ⟨g, n * 4, none⟩ = some (.int .i64 (l.getD n default).owner) ∧ wx.cell? ⟨g, n * 4 + 1, none⟩ = some (.int .i64 (l.getD n default).kind) ∧ wx.cell? ⟨g, n * 4 + 2, none⟩ = some (.int .i64 (l.getD n default).wr) ∧ wx.cell? ⟨g, n * 4 + 3, none⟩ = some (.int .i64 (l.getD n default).us) ∧ (∀ o, wx.frozen? ⟨g, o, none⟩ = false) ∧ g < wx.heap.size ∧ b < wx.heap.size) := Lib.hid fun wx hx => ⟨h.below hx, (h.below hx).hdr, ((h.below hx).cells n hn).1, ((h.below hx).cells n hn).2.1, ((h.below hx).cells n hn).2.2.1, ((h.below hx).cells n hn).2.2.2, fun o => (h.below hx).free o, (h.below hx).lt.2, (h.below hx).lt.1⟩
    have hin := Lib.hid (hI n hn)
    obtain ⟨⟨x0, x1, x2, x3⟩, hx⟩ : ∃ x, l.getD n default = x := ⟨_, rfl⟩
    rw [hx] at HF hR hin
    have HX := Lib.hid hx
    have HN := Lib.hid hn
    dsimp only at HF HT hR hin
    clear h hE hN ho hx hn
    by_cases h1 : x1 = 0
    · subst h1
      have hws := IntWalk.i64_in (x2 + 1) (by have := hin.out; omega)
      rw [show kWrite ⟨x0, 0, x2, x3⟩ = (⟨x0, 0, x2 + 1, x3⟩, 0) from by unfold kWrite; rw [if_neg (fun h => h rfl)]] at hR
      subst hR
      go_enter Tryd.func21, Tryd.ntmps21
      go_wp2_with fail
      refine HT.out.mono ?_
      rintro e w1 ⟨rfl, hb1⟩
      have HB := Lib.hid hb1
      obtain ⟨HF1, c, c0, c1, c2, c3, fz, lg, lb⟩ := HF.out _ hb1
      have HF1 := Lib.hid HF1
      obtain ⟨e2, e10, e11, e6, e9, e12⟩ := HEK.out _ hb1
      have g2 := World.block_lt_of_cell? _ _ e2
      have g10 := World.block_lt_of_cell? _ _ e10
      have g11 := World.block_lt_of_cell? _ _ e11
      have f0 := fz (n * 4)
      have f1 := fz (n * 4 + 1)
      have f2 := fz (n * 4 + 2)
      have f3 := fz (n * 4 + 3)
      clear hb1 fz
      go_wp2
      go_ret
      refine ⟨rfl, ?_, ?_⟩
      · first | exact FrAt.put2x HF1.out HX.out HN.out _ | exact FrAt.below (FrAt.put2x HF1.out HX.out HN.out _) ((Below.refl _ _).alloc (Nat.le_refl _) _)
      · repeat (first | exact Only.of_below HB.out | refine only_set ?_ _ _ | refine Only.alloc' ?_ _)
    · have h1' : (x1 == 0) = false := by simp [h1]
      rw [show kWrite ⟨x0, x1, x2, x3⟩ = (⟨x0, x1, x2, x3⟩, 111) from by unfold kWrite; rw [if_pos h1]] at hR
      clear h1
      subst hR
      go_enter Tryd.func21, Tryd.ntmps21
      go_wp2_with fail
      refine HT.out.mono ?_
      rintro e w1 ⟨rfl, hb1⟩
      have HB := Lib.hid hb1
      obtain ⟨HF1, c, c0, c1, c2, c3, fz, lg, lb⟩ := HF.out _ hb1
      have HF1 := Lib.hid HF1
      obtain ⟨e2, e10, e11, e6, e9, e12⟩ := HEK.out _ hb1
      have g2 := World.block_lt_of_cell? _ _ e2
      have g10 := World.block_lt_of_cell? _ _ e10
      have g11 := World.block_lt_of_cell? _ _ e11
      have f0 := fz (n * 4)
      have f1 := fz (n * 4 + 1)
      have f2 := fz (n * 4 + 2)
      have f3 := fz (n * 4 + 3)
      clear hb1 fz
      go_wp2
      go_ret
      refine ⟨rfl, ?_, ?_⟩
      · rw [show l.set n _ = l from by rw [← HX.out]; exact fr_set_same l n HN.out]
        repeat (first | exact HF1.out | refine FrAt.below ?_ ((Below.refl _ _).alloc (Nat.le_refl _) _))
      · repeat (first | exact Only.of_below HB.out | refine Only.alloc' ?_ _)

set_option maxRecDepth 100000 in
set_option maxHeartbeats 3200000 in
theorem funwrite_any (E : Nat → Addr) (l : List Fr) (b g cap : Nat) (i : Int) (w : World) (hI : ∀ n, n < l.length → (0 ≤ (l.getD n default).wr ∧ (l.getD n default).wr ≤ 1000000) ∧ (0 ≤ (l.getD n default).us ∧ (l.getD n default).us ≤ 1000000)) (hE : ErrsAt errT gOf w E nine) (h : FrAt 95 33 w b g cap l) :
    Calls Tryd.prog 26 #[.pointer (some ⟨b, 0, none⟩), .int .i64 i] w (FrQ 95 33 E b g cap (frThere l i kUnwrite) w) := by
  have HEK : Hid (∀ wx, Below w.heap.size w wx → wx.cell? ⟨0, 0, none⟩ = some (errV (E 2)) ∧ wx.cell? ⟨4, 0, none⟩ = some (errV (E 10)) ∧ wx.cell? ⟨2, 0, none⟩ = some (errV (E 11)) ∧ wx.cell? ⟨3, 0, none⟩ = some (errV (E 6)) ∧ wx.cell? ⟨6, 0, none⟩ = some (errV (E 9)) ∧ wx.cell? ⟨1, 0, none⟩ = some (errV (E 12))) := Lib.hid fun wx hx => ⟨((hE.mono hx).1 2 (by decide)).1, ((hE.mono hx).1 10 (by decide)).1, ((hE.mono hx).1 11 (by decide)).1, ((hE.mono hx).1 6 (by decide)).1, ((hE.mono hx).1 9 (by decide)).1, ((hE.mono hx).1 12 (by decide)).1⟩
  have HT := Lib.hid (fthere_any l b g cap i w h)
  have HRL := Lib.hid h
  unfold FrQ
  obtain ⟨R, hR⟩ : ∃ R, frThere l i kUnwrite = R := ⟨_, rfl⟩
  rw [hR]
  unfold frThere at hR
  skip
  cases hN : frAt l i with
  | none =>
    rw [hN] at HT hR
    dsimp only [Option.isSome] at HT hR
    subst hR
    clear h hE hN
    go_enter Tryd.func26, Tryd.ntmps26
    go_wp2_with fail
    refine HT.out.mono ?_
    rintro e w1 ⟨rfl, hb1⟩
    have HB := Lib.hid hb1
    obtain ⟨-, -, -, e6, -, -⟩ := HEK.out _ hb1
    clear hb1
    skip
    go_wp2
    go_ret
    exact ⟨rfl, HRL.out.below HB.out, Only.of_below HB.out⟩
  | some n =>
    obtain ⟨rfl, hn, ho⟩ := frAt_some hN
    rw [hN] at HT hR
    dsimp only [Option.isSome] at HT hR
    have hni : (n : Int) < (l.length : Int) := by omega
    have hn0 : (0 : Int) ≤ (n : Int) := by omega
    have HF : Hid (∀ wx, Below w.heap.size w wx → FrAt 95 33 wx b g cap l ∧ wx.cell? ⟨b, 0, none⟩ = some (.slice (some ⟨g, 0, none⟩) l.length cap) ∧ wx.cell? ⟨g, n * 4, none⟩ = some (.int .i64 (l.getD n default).owner) ∧ wx.cell? ⟨g, n * 4 + 1, none⟩ = some (.int .i64 (l.getD n default).kind) ∧ wx.cell? ⟨g, n * 4 + 2, none⟩ = some (.int .i64 (l.getD n default).wr) ∧ wx.cell? ⟨g, n * 4 + 3, none⟩ = some (.int .i64 (l.getD n default).us) ∧ (∀ o, wx.frozen? ⟨g, o, none⟩ = false) ∧ g < wx.heap.size ∧ b < wx.heap.size) := Lib.hid fun wx hx => ⟨h.below hx, (h.below hx).hdr, ((h.below hx).cells n hn).1, ((h.below hx).cells n hn).2.1, ((h.below hx).cells n hn).2.2.1, ((h.below hx).cells n hn).2.2.2, fun o => (h.below hx).free o, (h.below hx).lt.2, (h.below hx).lt.1⟩
    have hin := Lib.hid (hI n hn)
    obtain ⟨⟨x0, x1, x2, x3⟩, hx⟩ : ∃ x, l.getD n default = x := ⟨_, rfl⟩
    rw [hx] at HF hR hin
    have HX := Lib.hid hx
    have HN := Lib.hid hn
    dsimp only at HF HT hR hin
    clear h hE hN ho hx hn
    by_cases h2 : x2 = 0
    · subst h2
      rw [show kUnwrite ⟨x0, x1, 0, x3⟩ = (⟨x0, x1, 0, x3⟩, 112) from by unfold kUnwrite; rw [if_pos rfl]] at hR
      subst hR
      go_enter Tryd.func26, Tryd.ntmps26
      go_wp2_with fail
      refine HT.out.mono ?_
      rintro e w1 ⟨rfl, hb1⟩
      have HB := Lib.hid hb1
      obtain ⟨HF1, c, c0, c1, c2, c3, fz, lg, lb⟩ := HF.out _ hb1
      have HF1 := Lib.hid HF1
      obtain ⟨e2, e10, e11, e6, e9, e12⟩ := HEK.out _ hb1
      have g2 := World.block_lt_of_cell? _ _ e2
      have g10 := World.block_lt_of_cell? _ _ e10
      have g11 := World.block_lt_of_cell? _ _ e11
      have f0 := fz (n * 4)
      have f1 := fz (n * 4 + 1)
      have f2 := fz (n * 4 + 2)
      have f3 := fz (n * 4 + 3)
      clear hb1 fz
      go_wp2
      go_ret
      refine ⟨rfl, ?_, ?_⟩
      · rw [show l.set n _ = l from by rw [← HX.out]; exact fr_set_same l n HN.out]
        repeat (first | exact HF1.out | refine FrAt.below ?_ ((Below.refl _ _).alloc (Nat.le_refl _) _))
      · repeat (first | exact Only.of_below HB.out | refine Only.alloc' ?_ _)
    · have h2' : (x2 == 0) = false := by simp [h2]
      have hws := IntWalk.i64_in (x2 - 1) (by have := hin.out; omega)
      rw [show kUnwrite ⟨x0, x1, x2, x3⟩ = (⟨x0, x1, x2 - 1, x3⟩, 0) from by unfold kUnwrite; rw [if_neg h2]] at hR
      clear h2
      subst hR
      go_enter Tryd.func26, Tryd.ntmps26
      go_wp2_with fail
      refine HT.out.mono ?_
      rintro e w1 ⟨rfl, hb1⟩
      have HB := Lib.hid hb1
      obtain ⟨HF1, c, c0, c1, c2, c3, fz, lg, lb⟩ := HF.out _ hb1
      have HF1 := Lib.hid HF1
      obtain ⟨e2, e10, e11, e6, e9, e12⟩ := HEK.out _ hb1
      have g2 := World.block_lt_of_cell? _ _ e2
      have g10 := World.block_lt_of_cell? _ _ e10
      have g11 := World.block_lt_of_cell? _ _ e11
      have f0 := fz (n * 4)
      have f1 := fz (n * 4 + 1)
      have f2 := fz (n * 4 + 2)
      have f3 := fz (n * 4 + 3)
      clear hb1 fz
      go_wp2
      go_ret
      refine ⟨rfl, ?_, ?_⟩
      · first | exact FrAt.put2x HF1.out HX.out HN.out _ | exact FrAt.below (FrAt.put2x HF1.out HX.out HN.out _) ((Below.refl _ _).alloc (Nat.le_refl _) _)
      · repeat (first | exact Only.of_below HB.out | refine only_set ?_ _ _ | refine Only.alloc' ?_ _)

set_option maxRecDepth 100000 in
set_option maxHeartbeats 3200000 in
theorem fuse_any (E : Nat → Addr) (l : List Fr) (b g cap : Nat) (i : Int) (w : World) (hI : ∀ n, n < l.length → (0 ≤ (l.getD n default).wr ∧ (l.getD n default).wr ≤ 1000000) ∧ (0 ≤ (l.getD n default).us ∧ (l.getD n default).us ≤ 1000000)) (hE : ErrsAt errT gOf w E nine) (h : FrAt 95 33 w b g cap l) :
    Calls Tryd.prog 22 #[.pointer (some ⟨b, 0, none⟩), .int .i64 i] w (FrQ 95 33 E b g cap (frThere l i kUse) w) := by
  have HEK : Hid (∀ wx, Below w.heap.size w wx → wx.cell? ⟨0, 0, none⟩ = some (errV (E 2)) ∧ wx.cell? ⟨4, 0, none⟩ = some (errV (E 10)) ∧ wx.cell? ⟨2, 0, none⟩ = some (errV (E 11)) ∧ wx.cell? ⟨3, 0, none⟩ = some (errV (E 6)) ∧ wx.cell? ⟨6, 0, none⟩ = some (errV (E 9)) ∧ wx.cell? ⟨1, 0, none⟩ = some (errV (E 12))) := Lib.hid fun wx hx => ⟨((hE.mono hx).1 2 (by decide)).1, ((hE.mono hx).1 10 (by decide)).1, ((hE.mono hx).1 11 (by decide)).1, ((hE.mono hx).1 6 (by decide)).1, ((hE.mono hx).1 9 (by decide)).1, ((hE.mono hx).1 12 (by decide)).1⟩
  have HT := Lib.hid (fthere_any l b g cap i w h)
  have HRL := Lib.hid h
  unfold FrQ
  obtain ⟨R, hR⟩ : ∃ R, frThere l i kUse = R := ⟨_, rfl⟩
  rw [hR]
  unfold frThere at hR
  skip
  cases hN : frAt l i with
  | none =>
    rw [hN] at HT hR
    dsimp only [Option.isSome] at HT hR
    subst hR
    clear h hE hN
    go_enter Tryd.func22, Tryd.ntmps22
    go_wp2_with fail
    refine HT.out.mono ?_
    rintro e w1 ⟨rfl, hb1⟩
    have HB := Lib.hid hb1
    obtain ⟨-, -, -, e6, -, -⟩ := HEK.out _ hb1
    clear hb1
    skip
    go_wp2
    go_ret
    exact ⟨rfl, HRL.out.below HB.out, Only.of_below HB.out⟩
  | some n =>
    obtain ⟨rfl, hn, ho⟩ := frAt_some hN
    rw [hN] at HT hR
    dsimp only [Option.isSome] at HT hR
    have hni : (n : Int) < (l.length : Int) := by omega
    have hn0 : (0 : Int) ≤ (n : Int) := by omega
    have HF : Hid (∀ wx, Below w.heap.size w wx → FrAt 95 33 wx b g cap l ∧ wx.cell? ⟨b, 0, none⟩ = some (.slice (some ⟨g, 0, none⟩) l.length cap) ∧ wx.cell? ⟨g, n * 4, none⟩ = some (.int .i64 (l.getD n default).owner) ∧ wx.cell? ⟨g, n * 4 + 1, none⟩ = some (.int .i64 (l.getD n default).kind) ∧ wx.cell? ⟨g, n * 4 + 2, none⟩ = some (.int .i64 (l.getD n default).wr) ∧ wx.cell? ⟨g, n * 4 + 3, none⟩ = some (.int .i64 (l.getD n default).us) ∧ (∀ o, wx.frozen? ⟨g, o, none⟩ = false) ∧ g < wx.heap.size ∧ b < wx.heap.size) := Lib.hid fun wx hx => ⟨h.below hx, (h.below hx).hdr, ((h.below hx).cells n hn).1, ((h.below hx).cells n hn).2.1, ((h.below hx).cells n hn).2.2.1, ((h.below hx).cells n hn).2.2.2, fun o => (h.below hx).free o, (h.below hx).lt.2, (h.below hx).lt.1⟩
    have hin := Lib.hid (hI n hn)
    obtain ⟨⟨x0, x1, x2, x3⟩, hx⟩ : ∃ x, l.getD n default = x := ⟨_, rfl⟩
    rw [hx] at HF hR hin
    have HX := Lib.hid hx
    have HN := Lib.hid hn
    dsimp only at HF HT hR hin
    clear h hE hN ho hx hn
    have hws := IntWalk.i64_in (x3 + 1) (by have := hin.out; omega)
    rw [show kUse ⟨x0, x1, x2, x3⟩ = (⟨x0, x1, x2, x3 + 1⟩, 0) from rfl] at hR
    subst hR
    go_enter Tryd.func22, Tryd.ntmps22
    go_wp2_with fail
    refine HT.out.mono ?_
    rintro e w1 ⟨rfl, hb1⟩
    have HB := Lib.hid hb1
    obtain ⟨HF1, c, c0, c1, c2, c3, fz, lg, lb⟩ := HF.out _ hb1
    have HF1 := Lib.hid HF1
    obtain ⟨e2, e10, e11, e6, e9, e12⟩ := HEK.out _ hb1
    have g2 := World.block_lt_of_cell? _ _ e2
    have g10 := World.block_lt_of_cell? _ _ e10
    have g11 := World.block_lt_of_cell? _ _ e11
    have f0 := fz (n * 4)
    have f1 := fz (n * 4 + 1)
    have f2 := fz (n * 4 + 2)
    have f3 := fz (n * 4 + 3)
    clear hb1 fz
    go_wp2
    go_ret
    refine ⟨rfl, ?_, ?_⟩
    · first | exact FrAt.put3x HF1.out HX.out HN.out _ | exact FrAt.below (FrAt.put3x HF1.out HX.out HN.out _) ((Below.refl _ _).alloc (Nat.le_refl _) _)
    · repeat (first | exact Only.of_below HB.out | refine only_set ?_ _ _ | refine Only.alloc' ?_ _)

set_option maxRecDepth 100000 in
set_option maxHeartbeats 3200000 in
theorem funuse_any (E : Nat → Addr) (l : List Fr) (b g cap : Nat) (i : Int) (w : World) (hI : ∀ n, n < l.length → (0 ≤ (l.getD n default).wr ∧ (l.getD n default).wr ≤ 1000000) ∧ (0 ≤ (l.getD n default).us ∧ (l.getD n default).us ≤ 1000000)) (hE : ErrsAt errT gOf w E nine) (h : FrAt 95 33 w b g cap l) :
    Calls Tryd.prog 25 #[.pointer (some ⟨b, 0, none⟩), .int .i64 i] w (FrQ 95 33 E b g cap (frThere l i kUnuse) w) := by
  have HEK : Hid (∀ wx, Below w.heap.size w wx → wx.cell? ⟨0, 0, none⟩ = some (errV (E 2)) ∧ wx.cell? ⟨4, 0, none⟩ = some (errV (E 10)) ∧ wx.cell? ⟨2, 0, none⟩ = some (errV (E 11)) ∧ wx.cell? ⟨3, 0, none⟩ = some (errV (E 6)) ∧ wx.cell? ⟨6, 0, none⟩ = some (errV (E 9)) ∧ wx.cell? ⟨1, 0, none⟩ = some (errV (E 12))) := Lib.hid fun wx hx => ⟨((hE.mono hx).1 2 (by decide)).1, ((hE.mono hx).1 10 (by decide)).1, ((hE.mono hx).1 11 (by decide)).1, ((hE.mono hx).1 6 (by decide)).1, ((hE.mono hx).1 9 (by decide)).1, ((hE.mono hx).1 12 (by decide)).1⟩
  have HT := Lib.hid (fthere_any l b g cap i w h)
  have HRL := Lib.hid h
  unfold FrQ
  obtain ⟨R, hR⟩ : ∃ R, frThere l i kUnuse = R := ⟨_, rfl⟩
  rw [hR]
  unfold frThere at hR
  skip
  cases hN : frAt l i with
  | none =>
    rw [hN] at HT hR
    dsimp only [Option.isSome] at HT hR
    subst hR
    clear h hE hN
    go_enter Tryd.func25, Tryd.ntmps25
    go_wp2_with fail
    refine HT.out.mono ?_
    rintro e w1 ⟨rfl, hb1⟩
    have HB := Lib.hid hb1
    obtain ⟨-, -, -, e6, -, -⟩ := HEK.out _ hb1
    clear hb1
    skip
    go_wp2
    go_ret
    exact ⟨rfl, HRL.out.below HB.out, Only.of_below HB.out⟩
  | some n =>
    obtain ⟨rfl, hn, ho⟩ := frAt_some hN
    rw [hN] at HT hR
    dsimp only [Option.isSome] at HT hR
    have hni : (n : Int) < (l.length : Int) := by omega
    have hn0 : (0 : Int) ≤ (n : Int) := by omega
    have HF : Hid (∀ wx, Below w.heap.size w wx → FrAt 95 33 wx b g cap l ∧ wx.cell? ⟨b, 0, none⟩ = some (.slice (some ⟨g, 0, none⟩) l.length cap) ∧ wx.cell? ⟨g, n * 4, none⟩ = some (.int .i64 (l.getD n default).owner) ∧ wx.cell? ⟨g, n * 4 + 1, none⟩ = some (.int .i64 (l.getD n default).kind) ∧ wx.cell? ⟨g, n * 4 + 2, none⟩ = some (.int .i64 (l.getD n default).wr) ∧ wx.cell? ⟨g, n * 4 + 3, none⟩ = some (.int .i64 (l.getD n default).us) ∧ (∀ o, wx.frozen? ⟨g, o, none⟩ = false) ∧ g < wx.heap.size ∧ b < wx.heap.size) := Lib.hid fun wx hx => ⟨h.below hx, (h.below hx).hdr, ((h.below hx).cells n hn).1, ((h.below hx).cells n hn).2.1, ((h.below hx).cells n hn).2.2.1, ((h.below hx).cells n hn).2.2.2, fun o => (h.below hx).free o, (h.below hx).lt.2, (h.below hx).lt.1⟩
    have hin := Lib.hid (hI n hn)
    obtain ⟨⟨x0, x1, x2, x3⟩, hx⟩ : ∃ x, l.getD n default = x := ⟨_, rfl⟩
    rw [hx] at HF hR hin
    have HX := Lib.hid hx
    have HN := Lib.hid hn
    dsimp only at HF HT hR hin
    clear h hE hN ho hx hn
    by_cases h3 : x3 = 0
    · subst h3
      rw [show kUnuse ⟨x0, x1, x2, 0⟩ = (⟨x0, x1, x2, 0⟩, 112) from by unfold kUnuse; rw [if_pos rfl]] at hR
      subst hR
      go_enter Tryd.func25, Tryd.ntmps25
      go_wp2_with fail
      refine HT.out.mono ?_
      rintro e w1 ⟨rfl, hb1⟩
      have HB := Lib.hid hb1
      obtain ⟨HF1, c, c0, c1, c2, c3, fz, lg, lb⟩ := HF.out _ hb1
      have HF1 := Lib.hid HF1
      obtain ⟨e2, e10, e11, e6, e9, e12⟩ := HEK.out _ hb1
      have g2 := World.block_lt_of_cell? _ _ e2
      have g10 := World.block_lt_of_cell? _ _ e10
      have g11 := World.block_lt_of_cell? _ _ e11
      have f0 := fz (n * 4)
      have f1 := fz (n * 4 + 1)
      have f2 := fz (n * 4 + 2)
      have f3 := fz (n * 4 + 3)
      clear hb1 fz
      go_wp2
      go_ret
      refine ⟨rfl, ?_, ?_⟩
      · rw [show l.set n _ = l from by rw [← HX.out]; exact fr_set_same l n HN.out]
        repeat (first | exact HF1.out | refine FrAt.below ?_ ((Below.refl _ _).alloc (Nat.le_refl _) _))
      · repeat (first | exact Only.of_below HB.out | refine Only.alloc' ?_ _)
    · have h3' : (x3 == 0) = false := by simp [h3]
      have hws := IntWalk.i64_in (x3 - 1) (by have := hin.out; omega)
      rw [show kUnuse ⟨x0, x1, x2, x3⟩ = (⟨x0, x1, x2, x3 - 1⟩, 0) from by unfold kUnuse; rw [if_neg h3]] at hR
      clear h3
      subst hR
      go_enter Tryd.func25, Tryd.ntmps25
      go_wp2_with fail
      refine HT.out.mono ?_
      rintro e w1 ⟨rfl, hb1⟩
      have HB := Lib.hid hb1
      obtain ⟨HF1, c, c0, c1, c2, c3, fz, lg, lb⟩ := HF.out _ hb1
      have HF1 := Lib.hid HF1
      obtain ⟨e2, e10, e11, e6, e9, e12⟩ := HEK.out _ hb1
      have g2 := World.block_lt_of_cell? _ _ e2
      have g10 := World.block_lt_of_cell? _ _ e10
      have g11 := World.block_lt_of_cell? _ _ e11
      have f0 := fz (n * 4)
      have f1 := fz (n * 4 + 1)
      have f2 := fz (n * 4 + 2)
      have f3 := fz (n * 4 + 3)
      clear hb1 fz
      go_wp2
      go_ret
      refine ⟨rfl, ?_, ?_⟩
      · first | exact FrAt.put3x HF1.out HX.out HN.out _ | exact FrAt.below (FrAt.put3x HF1.out HX.out HN.out _) ((Below.refl _ _).alloc (Nat.le_refl _) _)
      · repeat (first | exact Only.of_below HB.out | refine only_set ?_ _ _ | refine Only.alloc' ?_ _)

end Go.Proofs.YtaoaachgnnengaaDoor

