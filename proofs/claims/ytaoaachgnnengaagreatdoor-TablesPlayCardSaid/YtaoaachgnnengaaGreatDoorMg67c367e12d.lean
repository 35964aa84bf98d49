/-
  Parts of one proof, one behind the other.
-/
import Derived.Test.YtaoaachgnnengaaGreatDoorMg9a5a14a2e3
import Derived.Test.YtaoaachgnnengaaGreatDoorRows
import Derived.Test.YtaoaachgnnengaaGreatDoorMg46ad1761f3
/-
  frames.Frames: what frames are told.
-/
namespace Go.Proofs.YtaoaachgnnengaaGreatDoor
open Go.RowKit

theorem only_set {g : Nat} {w w' : World} (h : Only (fun k => k = g) w w') (o : Nat) (u : Value) : Only (fun k => k = g) w (w'.setCell ⟨g, o, none⟩ u) := h.setCell (p := ⟨g, o, none⟩) (.inl rfl) u
theorem FrAt.put0x {TB TR : TypeId} {w : World} {b g cap n : Nat} {l : List Fr} {x0 x1 x2 x3 : Int} (h : FrAt TB TR w b g cap l) (hx : l.getD n default = ⟨x0, x1, x2, x3⟩) (hn : n < l.length) (z : Int) : FrAt TB TR (w.setCell ⟨g, n * 4, none⟩ (.int .i64 z)) b g cap (l.set n ⟨z, x1, x2, x3⟩) := by
  have := h.put0 hn z
  rw [hx] at this
  exact this
theorem FrAt.put1x {TB TR : TypeId} {w : World} {b g cap n : Nat} {l : List Fr} {x0 x1 x2 x3 : Int} (h : FrAt TB TR w b g cap l) (hx : l.getD n default = ⟨x0, x1, x2, x3⟩) (hn : n < l.length) (z : Int) : FrAt TB TR (w.setCell ⟨g, n * 4 + 1, none⟩ (.int .i64 z)) b g cap (l.set n ⟨x0, z, x2, x3⟩) := by
  have := h.put1 hn z
  rw [hx] at this
  exact this
theorem FrAt.put2x {TB TR : TypeId} {w : World} {b g cap n : Nat} {l : List Fr} {x0 x1 x2 x3 : Int} (h : FrAt TB TR w b g cap l) (hx : l.getD n default = ⟨x0, x1, x2, x3⟩) (hn : n < l.length) (z : Int) : FrAt TB TR (w.setCell ⟨g, n * 4 + 2, none⟩ (.int .i64 z)) b g cap (l.set n ⟨x0, x1, z, x3⟩) := by
  have := h.put2 hn z
  rw [hx] at this
  exact this
theorem FrAt.put3x {TB TR : TypeId} {w : World} {b g cap n : Nat} {l : List Fr} {x0 x1 x2 x3 : Int} (h : FrAt TB TR w b g cap l) (hx : l.getD n default = ⟨x0, x1, x2, x3⟩) (hn : n < l.length) (z : Int) : FrAt TB TR (w.setCell ⟨g, n * 4 + 3, none⟩ (.int .i64 z)) b g cap (l.set n ⟨x0, x1, x2, z⟩) := by
  have := h.put3 hn z
  rw [hx] at this
  exact this
theorem fr_set_same (l : List Fr) (n : Nat) (hn : n < l.length) : l.set n (l.getD n default) = l := by
  rw [List.getD_eq_getElem?_getD, List.getElem?_eq_getElem hn]
  exact List.set_getElem_self hn

set_option maxRecDepth 100000 in
set_option maxHeartbeats 3200000 in
theorem ffree_any (E : Nat → Addr) (l : List Fr) (b g cap : Nat) (i who : Int) (w : World) (hE : ErrsAt errT gOf w E nine) (h : FrAt 99 69 w b g cap l) :
    Calls Tryz.prog 49 #[.pointer (some ⟨b, 0, none⟩), .int .i64 i, .int .i64 who] w (FrQ 99 69 E b g cap (frMine l i who kFree) w) := by
  have HEK : Hid (∀ wx, Below w.heap.size w wx → wx.cell? ⟨0, 0, none⟩ = some (errV (E 2)) ∧ wx.cell? ⟨6, 0, none⟩ = some (errV (E 10)) ∧ wx.cell? ⟨5, 0, none⟩ = some (errV (E 11)) ∧ wx.cell? ⟨3, 0, none⟩ = some (errV (E 6)) ∧ wx.cell? ⟨4, 0, none⟩ = some (errV (E 9)) ∧ wx.cell? ⟨1, 0, none⟩ = some (errV (E 12))) := Lib.hid fun wx hx => ⟨((hE.mono hx).1 2 (by decide)).1, ((hE.mono hx).1 10 (by decide)).1, ((hE.mono hx).1 11 (by decide)).1, ((hE.mono hx).1 6 (by decide)).1, ((hE.mono hx).1 9 (by decide)).1, ((hE.mono hx).1 12 (by decide)).1⟩
  have HT := Lib.hid (fown_any E l b g cap i who w hE h)
  have HRL := Lib.hid h
  unfold FrQ
  obtain ⟨R, hR⟩ : ∃ R, frMine l i who kFree = R := ⟨_, rfl⟩
  rw [hR]
  unfold frMine at hR
  unfold frOwnC at HT
  cases hN : frAt l i with
  | none =>
    rw [hN] at HT hR
    dsimp only [Option.isSome] at HT hR
    subst hR
    clear h hE hN
    go_enter Tryz.func49, Tryz.ntmps49
    go_wp2_with fail
    refine HT.out.mono ?_
    rintro e w1 ⟨rfl, hb1⟩
    have HB := Lib.hid hb1
    obtain ⟨-, -, -, e6, -, -⟩ := HEK.out _ hb1
    clear hb1
    unfold errC; rw [if_neg (by decide)]
    go_wp2
    go_ret
    exact ⟨rfl, HRL.out.below HB.out, Only.of_below HB.out⟩
  | some n =>
    obtain ⟨rfl, hn, ho⟩ := frAt_some hN
    rw [hN] at HT hR
    dsimp only [Option.isSome] at HT hR
    have hni : (n : Int) < (l.length : Int) := by omega
    have hn0 : (0 : Int) ≤ (n : Int) := by omega
    have HF : Hid (∀ wx, Below w.heap.size w wx → FrAt 99 69 wx b g cap l ∧ wx.cell? ⟨b, 0, none⟩ = some (.slice (some ⟨g, 0, none⟩) l.length cap) ∧ wx.cell? ⟨g, n * 4, none⟩ = some (.int .i64 (l.getD n default).owner) ∧ wx.cell? ⟨g, n * 4 + 1, none⟩ = some (.int .i64 (l.getD n default).kind) ∧ wx.cell? ⟨g, n * 4 + 2, none⟩ = some (.int .i64 (l.getD n default).wr) ∧ wx.cell? ⟨g, n * 4 + 3, none⟩ = some (.int .i64 (l.getD n default).us) ∧ (∀ o, wx.frozen? ⟨g, o, none⟩ = false) ∧ g < wx.heap.size ∧ b < wx.heap.size) := Lib.hid fun wx hx => ⟨h.below hx, (h.below hx).hdr, ((h.below hx).cells n hn).1, ((h.below hx).cells n hn).2.1, ((h.below hx).cells n hn).2.2.1, ((h.below hx).cells n hn).2.2.2, fun o => (h.below hx).free o, (h.below hx).lt.2, (h.below hx).lt.1⟩
    obtain ⟨⟨x0, x1, x2, x3⟩, hx⟩ : ∃ x, l.getD n default = x := ⟨_, rfl⟩
    rw [hx] at HF HT hR
    have HX := Lib.hid hx
    have HN := Lib.hid hn
    dsimp only at HF HT hR
    clear h hE hN ho hx hn
    by_cases hw : x0 = who
    · subst hw
      rw [if_pos rfl] at HT hR
      unfold errC at HT
      rw [if_pos rfl] at HT
      by_cases h2 : 0 < x2
      · rw [show kFree ⟨x0, x1, x2, x3⟩ = (⟨x0, x1, x2, x3⟩, 112) from if_pos (.inl h2)] at hR
        subst hR
        go_enter Tryz.func49, Tryz.ntmps49
        go_wp2_with fail
        refine HT.out.mono ?_
        rintro e w1 ⟨rfl, hb1⟩
        have HB := Lib.hid hb1
        obtain ⟨HF1, c, c0, c1, c2, c3, fz, lg, lb⟩ := HF.out _ hb1
        have HF1 := Lib.hid HF1
        obtain ⟨e2, e10, e11, e6, e9, e12⟩ := HEK.out _ hb1
        have g2 := World.block_lt_of_cell? _ _ e2
        have g10 := World.block_lt_of_cell? _ _ e10
        have g11 := World.block_lt_of_cell? _ _ e11
        have f0 := fz (n * 4)
        have f1 := fz (n * 4 + 1)
        have f2 := fz (n * 4 + 2)
        have f3 := fz (n * 4 + 3)
        clear hb1 fz
        go_wp2
        go_ret
        refine ⟨rfl, ?_, ?_⟩
        · rw [show l.set n _ = l from by rw [← HX.out]; exact fr_set_same l n HN.out]
          repeat (first | exact HF1.out | refine FrAt.below ?_ ((Below.refl _ _).alloc (Nat.le_refl _) _))
        · repeat (first | exact Only.of_below HB.out | refine Only.alloc' ?_ _)
      · by_cases h3 : 0 < x3
        · rw [show kFree ⟨x0, x1, x2, x3⟩ = (⟨x0, x1, x2, x3⟩, 112) from if_pos (.inr h3)] at hR
          subst hR
          go_enter Tryz.func49, Tryz.ntmps49
          go_wp2_with fail
          refine HT.out.mono ?_
          rintro e w1 ⟨rfl, hb1⟩
          have HB := Lib.hid hb1
          obtain ⟨HF1, c, c0, c1, c2, c3, fz, lg, lb⟩ := HF.out _ hb1
          have HF1 := Lib.hid HF1
          obtain ⟨e2, e10, e11, e6, e9, e12⟩ := HEK.out _ hb1
          have g2 := World.block_lt_of_cell? _ _ e2
          have g10 := World.block_lt_of_cell? _ _ e10
          have g11 := World.block_lt_of_cell? _ _ e11
          have f0 := fz (n * 4)
          have f1 := fz (n * 4 + 1)
          have f2 := fz (n * 4 + 2)
          have f3 := fz (n * 4 + 3)
          clear hb1 fz
          go_wp2
          go_ret
          refine ⟨rfl, ?_, ?_⟩
          · rw [show l.set n _ = l from by rw [← HX.out]; exact fr_set_same l n HN.out]
            repeat (first | exact HF1.out | refine FrAt.below ?_ ((Below.refl _ _).alloc (Nat.le_refl _) _))
          · repeat (first | exact Only.of_below HB.out | refine Only.alloc' ?_ _)
        · rw [show kFree ⟨x0, x1, x2, x3⟩ = (frNo, 0) from if_neg (by show ¬ (0 < x2 ∨ 0 < x3); omega)] at hR
          subst hR
          go_enter Tryz.func49, Tryz.ntmps49
          go_wp2_with fail
          refine HT.out.mono ?_
          rintro e w1 ⟨rfl, hb1⟩
          have HB := Lib.hid hb1
          obtain ⟨HF1, c, c0, c1, c2, c3, fz, lg, lb⟩ := HF.out _ hb1
          have HF1 := Lib.hid HF1
          obtain ⟨e2, e10, e11, e6, e9, e12⟩ := HEK.out _ hb1
          have g2 := World.block_lt_of_cell? _ _ e2
          have g10 := World.block_lt_of_cell? _ _ e10
          have g11 := World.block_lt_of_cell? _ _ e11
          have f0 := fz (n * 4)
          have f1 := fz (n * 4 + 1)
          have f2 := fz (n * 4 + 2)
          have f3 := fz (n * 4 + 3)
          clear hb1 fz
          go_wp2
          go_ret
          refine ⟨rfl, ?_, ?_⟩
          · have := HF1.out.putAll (n := n) HN.out frNo; exact this
          · repeat (first | exact Only.of_below HB.out | refine only_set ?_ _ _ | refine Only.alloc' ?_ _)
    · rw [if_neg hw] at HT hR
      unfold errC at HT
      rw [if_neg (by decide)] at HT
      subst hR
      clear hw
      go_enter Tryz.func49, Tryz.ntmps49
      go_wp2_with fail
      refine HT.out.mono ?_
      rintro e w1 ⟨rfl, hb1⟩
      have HB := Lib.hid hb1
      clear hb1
      go_wp2
      go_ret
      exact ⟨rfl, HRL.out.below HB.out, Only.of_below HB.out⟩

set_option maxRecDepth 100000 in
set_option maxHeartbeats 3200000 in
theorem fmake1 (E : Nat → Addr) (l : List Fr) (b g cap : Nat) (i who : Int) (w : World) (hE : ErrsAt errT gOf w E nine) (h : FrAt 99 69 w b g cap l) :
    Calls Tryz.prog 51 #[.pointer (some ⟨b, 0, none⟩), .int .i64 i, .int .i64 who, .int .i64 1] w (FrQ 99 69 E b g cap (frMine l i who (kMake 1)) w) := by
  have HEK : Hid (∀ wx, Below w.heap.size w wx → wx.cell? ⟨0, 0, none⟩ = some (errV (E 2)) ∧ wx.cell? ⟨6, 0, none⟩ = some (errV (E 10)) ∧ wx.cell? ⟨5, 0, none⟩ = some (errV (E 11)) ∧ wx.cell? ⟨3, 0, none⟩ = some (errV (E 6)) ∧ wx.cell? ⟨4, 0, none⟩ = some (errV (E 9)) ∧ wx.cell? ⟨1, 0, none⟩ = some (errV (E 12))) := Lib.hid fun wx hx => ⟨((hE.mono hx).1 2 (by decide)).1, ((hE.mono hx).1 10 (by decide)).1, ((hE.mono hx).1 11 (by decide)).1, ((hE.mono hx).1 6 (by decide)).1, ((hE.mono hx).1 9 (by decide)).1, ((hE.mono hx).1 12 (by decide)).1⟩
  have HT := Lib.hid (fown_any E l b g cap i who w hE h)
  have HRL := Lib.hid h
  unfold FrQ
  obtain ⟨R, hR⟩ : ∃ R, frMine l i who (kMake 1) = R := ⟨_, rfl⟩
  rw [hR]
  unfold frMine at hR
  unfold frOwnC at HT
  cases hN : frAt l i with
  | none =>
    rw [hN] at HT hR
    dsimp only [Option.isSome] at HT hR
    subst hR
    clear h hE hN
    go_enter Tryz.func51, Tryz.ntmps51
    go_wp2_with fail
    refine HT.out.mono ?_
    rintro e w1 ⟨rfl, hb1⟩
    have HB := Lib.hid hb1
    obtain ⟨-, -, -, e6, -, -⟩ := HEK.out _ hb1
    clear hb1
    unfold errC; rw [if_neg (by decide)]
    go_wp2
    go_ret
    exact ⟨rfl, HRL.out.below HB.out, Only.of_below HB.out⟩
  | some n =>
    obtain ⟨rfl, hn, ho⟩ := frAt_some hN
    rw [hN] at HT hR
    dsimp only [Option.isSome] at HT hR
    have hni : (n : Int) < (l.length : Int) := by omega
    have hn0 : (0 : Int) ≤ (n : Int) := by omega
    have HF : Hid (∀ wx, Below w.heap.size w wx → FrAt 99 69 wx b g cap l ∧ wx.cell? ⟨b, 0, none⟩ = some (.slice (some ⟨g, 0, none⟩) l.length cap) ∧ wx.cell? ⟨g, n * 4, none⟩ = some (.int .i64 (l.getD n default).owner) ∧ wx.cell? ⟨g, n * 4 + 1, none⟩ = some (.int .i64 (l.getD n default).kind) ∧ wx.cell? ⟨g, n * 4 + 2, none⟩ = some (.int .i64 (l.getD n default).wr) ∧ wx.cell? ⟨g, n * 4 + 3, none⟩ = some (.int .i64 (l.getD n default).us) ∧ (∀ o, wx.frozen? ⟨g, o, none⟩ = false) ∧ g < wx.heap.size ∧ b < wx.heap.size) := Lib.hid fun wx hx => ⟨h.below hx, (h.below hx).hdr, ((h.below hx).cells n hn).1, ((h.below hx).cells n hn).2.1, ((h.below hx).cells n hn).2.2.1, ((h.below hx).cells n hn).2.2.2, fun o => (h.below hx).free o, (h.below hx).lt.2, (h.below hx).lt.1⟩
    obtain ⟨⟨x0, x1, x2, x3⟩, hx⟩ : ∃ x, l.getD n default = x := ⟨_, rfl⟩
    rw [hx] at HF HT hR
    have HX := Lib.hid hx
    have HN := Lib.hid hn
    dsimp only at HF HT hR
    clear h hE hN ho hx hn
    by_cases hw : x0 = who
    · subst hw
      rw [if_pos rfl] at HT hR
      unfold errC at HT
      rw [if_pos rfl] at HT
      by_cases h1 : x1 = 0
      · by_cases h2 : 0 < x2
        · subst h1
          rw [show kMake 1 ⟨x0, 0, x2, x3⟩ = (⟨x0, 0, x2, x3⟩, 112) from by unfold kMake; rw [if_neg (fun h => h rfl), if_pos (.inl h2)]] at hR
          subst hR
          go_enter Tryz.func51, Tryz.ntmps51
          go_wp2_with fail
          refine HT.out.mono ?_
          rintro e w1 ⟨rfl, hb1⟩
          have HB := Lib.hid hb1
          obtain ⟨HF1, c, c0, c1, c2, c3, fz, lg, lb⟩ := HF.out _ hb1
          have HF1 := Lib.hid HF1
          obtain ⟨e2, e10, e11, e6, e9, e12⟩ := HEK.out _ hb1
          have g2 := World.block_lt_of_cell? _ _ e2
          have g10 := World.block_lt_of_cell? _ _ e10
          have g11 := World.block_lt_of_cell? _ _ e11
          have f0 := fz (n * 4)
          have f1 := fz (n * 4 + 1)
          have f2 := fz (n * 4 + 2)
          have f3 := fz (n * 4 + 3)
          clear hb1 fz
          go_wp2
          go_ret
          refine ⟨rfl, ?_, ?_⟩
          · rw [show l.set n _ = l from by rw [← HX.out]; exact fr_set_same l n HN.out]
            repeat (first | exact HF1.out | refine FrAt.below ?_ ((Below.refl _ _).alloc (Nat.le_refl _) _))
          · repeat (first | exact Only.of_below HB.out | refine Only.alloc' ?_ _)
        · by_cases h3 : 0 < x3
          · subst h1
            rw [show kMake 1 ⟨x0, 0, x2, x3⟩ = (⟨x0, 0, x2, x3⟩, 112) from by unfold kMake; rw [if_neg (fun h => h rfl), if_pos (.inr h3)]] at hR
            subst hR
            go_enter Tryz.func51, Tryz.ntmps51
            go_wp2_with fail
            refine HT.out.mono ?_
            rintro e w1 ⟨rfl, hb1⟩
            have HB := Lib.hid hb1
            obtain ⟨HF1, c, c0, c1, c2, c3, fz, lg, lb⟩ := HF.out _ hb1
            have HF1 := Lib.hid HF1
            obtain ⟨e2, e10, e11, e6, e9, e12⟩ := HEK.out _ hb1
            have g2 := World.block_lt_of_cell? _ _ e2
            have g10 := World.block_lt_of_cell? _ _ e10
            have g11 := World.block_lt_of_cell? _ _ e11
            have f0 := fz (n * 4)
            have f1 := fz (n * 4 + 1)
            have f2 := fz (n * 4 + 2)
            have f3 := fz (n * 4 + 3)
            clear hb1 fz
            go_wp2
            go_ret
            refine ⟨rfl, ?_, ?_⟩
            · rw [show l.set n _ = l from by rw [← HX.out]; exact fr_set_same l n HN.out]
              repeat (first | exact HF1.out | refine FrAt.below ?_ ((Below.refl _ _).alloc (Nat.le_refl _) _))
            · repeat (first | exact Only.of_below HB.out | refine Only.alloc' ?_ _)
          · subst h1
            rw [show kMake 1 ⟨x0, 0, x2, x3⟩ = (⟨x0, 1, x2, x3⟩, 0) from by unfold kMake; rw [if_neg (fun h => h rfl), if_neg (by show ¬ (0 < x2 ∨ 0 < x3); omega)]] at hR
            subst hR
            go_enter Tryz.func51, Tryz.ntmps51
            go_wp2_with fail
            refine HT.out.mono ?_
            rintro e w1 ⟨rfl, hb1⟩
            have HB := Lib.hid hb1
            obtain ⟨HF1, c, c0, c1, c2, c3, fz, lg, lb⟩ := HF.out _ hb1
            have HF1 := Lib.hid HF1
            obtain ⟨e2, e10, e11, e6, e9, e12⟩ := HEK.out _ hb1
            have g2 := World.block_lt_of_cell? _ _ e2
            have g10 := World.block_lt_of_cell? _ _ e10
            have g11 := World.block_lt_of_cell? _ _ e11
            have f0 := fz (n * 4)
            have f1 := fz (n * 4 + 1)
            have f2 := fz (n * 4 + 2)
            have f3 := fz (n * 4 + 3)
            clear hb1 fz
            go_wp2
            go_ret
            refine ⟨rfl, ?_, ?_⟩
            · first | exact FrAt.put1x HF1.out HX.out HN.out _ | exact FrAt.below (FrAt.put1x HF1.out HX.out HN.out _) ((Below.refl _ _).alloc (Nat.le_refl _) _)
            · repeat (first | exact Only.of_below HB.out | refine only_set ?_ _ _ | refine Only.alloc' ?_ _)
      · have h1' : (x1 == 0) = false := by simp [h1]
        rw [show kMake 1 ⟨x0, x1, x2, x3⟩ = (⟨x0, x1, x2, x3⟩, 111) from by unfold kMake; rw [if_pos h1]] at hR
        clear h1
        subst hR
        go_enter Tryz.func51, Tryz.ntmps51
        go_wp2_with fail
        refine HT.out.mono ?_
        rintro e w1 ⟨rfl, hb1⟩
        have HB := Lib.hid hb1
        obtain ⟨HF1, c, c0, c1, c2, c3, fz, lg, lb⟩ := HF.out _ hb1
        have HF1 := Lib.hid HF1
        obtain ⟨e2, e10, e11, e6, e9, e12⟩ := HEK.out _ hb1
        have g2 := World.block_lt_of_cell? _ _ e2
        have g10 := World.block_lt_of_cell? _ _ e10
        have g11 := World.block_lt_of_cell? _ _ e11
        have f0 := fz (n * 4)
        have f1 := fz (n * 4 + 1)
        have f2 := fz (n * 4 + 2)
        have f3 := fz (n * 4 + 3)
        clear hb1 fz
        go_wp2
        go_ret
        refine ⟨rfl, ?_, ?_⟩
        · rw [show l.set n _ = l from by rw [← HX.out]; exact fr_set_same l n HN.out]
          repeat (first | exact HF1.out | refine FrAt.below ?_ ((Below.refl _ _).alloc (Nat.le_refl _) _))
        · repeat (first | exact Only.of_below HB.out | refine Only.alloc' ?_ _)
    · rw [if_neg hw] at HT hR
      unfold errC at HT
      rw [if_neg (by decide)] at HT
      subst hR
      clear hw
      go_enter Tryz.func51, Tryz.ntmps51
      go_wp2_with fail
      refine HT.out.mono ?_
      rintro e w1 ⟨rfl, hb1⟩
      have HB := Lib.hid hb1
      clear hb1
      go_wp2
      go_ret
      exact ⟨rfl, HRL.out.below HB.out, Only.of_below HB.out⟩

set_option maxRecDepth 100000 in
set_option maxHeartbeats 3200000 in
theorem fmake2 (E : Nat → Addr) (l : List Fr) (b g cap : Nat) (i who : Int) (w : World) (hE : ErrsAt errT gOf w E nine) (h : FrAt 99 69 w b g cap l) :
    Calls Tryz.prog 51 #[.pointer (some ⟨b, 0, none⟩), .int .i64 i, .int .i64 who, .int .i64 2] w (FrQ 99 69 E b g cap (frMine l i who (kMake 2)) w) := by
  have HEK : Hid (∀ wx, Below w.heap.size w wx → wx.cell? ⟨0, 0, none⟩ = some (errV (E 2)) ∧ wx.cell? ⟨6, 0, none⟩ = some (errV (E 10)) ∧ wx.cell? ⟨5, 0, none⟩ = some (errV (E 11)) ∧ wx.cell? ⟨3, 0, none⟩ = some (errV (E 6)) ∧ wx.cell? ⟨4, 0, none⟩ = some (errV (E 9)) ∧ wx.cell? ⟨1, 0, none⟩ = some (errV (E 12))) := Lib.hid fun wx hx => ⟨((hE.mono hx).1 2 (by decide)).1, ((hE.mono hx).1 10 (by decide)).1, ((hE.mono hx).1 11 (by decide)).1, ((hE.mono hx).1 6 (by decide)).1, ((hE.mono hx).1 9 (by decide)).1, ((hE.mono hx).1 12 (by decide)).1⟩
  have HT := Lib.hid (fown_any E l b g cap i who w hE h)
  have HRL := Lib.hid h
  unfold FrQ
  obtain ⟨R, hR⟩ : ∃ R, frMine l i who (kMake 2) = R := ⟨_, rfl⟩
  rw [hR]
  unfold frMine at hR
  unfold frOwnC at HT
  cases hN : frAt l i with
  | none =>
    rw [hN] at HT hR
    dsimp only [Option.isSome] at HT hR
    subst hR
    clear h hE hN
    go_enter Tryz.func51, Tryz.ntmps51
    go_wp2_with fail
    refine HT.out.mono ?_
    rintro e w1 ⟨rfl, hb1⟩
    have HB := Lib.hid hb1
    obtain ⟨-, -, -, e6, -, -⟩ := HEK.out _ hb1
    clear hb1
    unfold errC; rw [if_neg (by decide)]
    go_wp2
    go_ret
    exact ⟨rfl, HRL.out.below HB.out, Only.of_below HB.out⟩
  | some n =>
    obtain ⟨rfl, hn, ho⟩ := frAt_some hN
    rw [hN] at HT hR
    dsimp only [Option.isSome] at HT hR
    have hni : (n : Int) < (l.length : Int) := by omega
    have hn0 : (0 : Int) ≤ (n : Int) := by omega
    have HF : Hid (∀ wx, Below w.heap.size w wx → FrAt 99 69 wx b g cap l ∧ wx.cell? ⟨b, 0, none⟩ = some (.slice (some ⟨g, 0, none⟩) l.length cap) ∧ wx.cell? ⟨g, n * 4, none⟩ = some (.int .i64 (l.getD n default).owner) ∧ wx.cell? ⟨g, n * 4 + 1, none⟩ = some (.int .i64 (l.getD n default).kind) ∧ wx.cell? ⟨g, n * 4 + 2, none⟩ = some (.int .i64 (l.getD n default).wr) ∧ wx.cell? ⟨g, n * 4 + 3, none⟩ = some (.int .i64 (l.getD n default).us) ∧ (∀ o, wx.frozen? ⟨g, o, none⟩ = false) ∧ g < wx.heap.size ∧ b < wx.heap.size) := Lib.hid fun wx hx => ⟨h.below hx, (h.below hx).hdr, ((h.below hx).cells n hn).1, ((h.below hx).cells n hn).2.1, ((h.below hx).cells n hn).2.2.1, ((h.below hx).cells n hn).2.2.2, fun o => (h.below hx).free o, (h.below hx).lt.2, (h.below hx).lt.1⟩
    obtain ⟨⟨x0, x1, x2, x3⟩, hx⟩ : ∃ x, l.getD n default = x := ⟨_, rfl⟩
    rw [hx] at HF HT hR
    have HX := Lib.hid hx
    have HN := Lib.hid hn
    dsimp only at HF HT hR
    clear h hE hN ho hx hn
    by_cases hw : x0 = who
    · subst hw
      rw [if_pos rfl] at HT hR
      unfold errC at HT
      rw [if_pos rfl] at HT
      by_cases h1 : x1 = 0
      · by_cases h2 : 0 < x2
        · subst h1
          rw [show kMake 2 ⟨x0, 0, x2, x3⟩ = (⟨x0, 0, x2, x3⟩, 112) from by unfold kMake; rw [if_neg (fun h => h rfl), if_pos (.inl h2)]] at hR
          subst hR
          go_enter Tryz.func51, Tryz.ntmps51
          go_wp2_with fail
          refine HT.out.mono ?_
          rintro e w1 ⟨rfl, hb1⟩
          have HB := Lib.hid hb1
          obtain ⟨HF1, c, c0, c1, c2, c3, fz, lg, lb⟩ := HF.out _ hb1
          have HF1 := Lib.hid HF1
          obtain ⟨e2, e10, e11, e6, e9, e12⟩ := HEK.out _ hb1
          have g2 := World.block_lt_of_cell? _ _ e2
          have g10 := World.block_lt_of_cell? _ _ e10
          have g11 := World.block_lt_of_cell? _ _ e11
          have f0 := fz (n * 4)
          have f1 := fz (n * 4 + 1)
          have f2 := fz (n * 4 + 2)
          have f3 := fz (n * 4 + 3)
          clear hb1 fz
          go_wp2
          go_ret
          refine ⟨rfl, ?_, ?_⟩
          · rw [show l.set n _ = l from by rw [← HX.out]; exact fr_set_same l n HN.out]
            repeat (first | exact HF1.out | refine FrAt.below ?_ ((Below.refl _ _).alloc (Nat.le_refl _) _))
          · repeat (first | exact Only.of_below HB.out | refine Only.alloc' ?_ _)
        · by_cases h3 : 0 < x3
          · subst h1
            rw [show kMake 2 ⟨x0, 0, x2, x3⟩ = (⟨x0, 0, x2, x3⟩, 112) from by unfold kMake; rw [if_neg (fun h => h rfl), if_pos (.inr h3)]] at hR
            subst hR
            go_enter Tryz.func51, Tryz.ntmps51
            go_wp2_with fail
            refine HT.out.mono ?_
            rintro e w1 ⟨rfl, hb1⟩
            have HB := Lib.hid hb1
            obtain ⟨HF1, c, c0, c1, c2, c3, fz, lg, lb⟩ := HF.out _ hb1
            have HF1 := Lib.hid HF1
            obtain ⟨e2, e10, e11, e6, e9, e12⟩ := HEK.out _ hb1
            have g2 := World.block_lt_of_cell? _ _ e2
            have g10 := World.block_lt_of_cell? _ _ e10
            have g11 := World.block_lt_of_cell? _ _ e11
            have f0 := fz (n * 4)
            have f1 := fz (n * 4 + 1)
            have f2 := fz (n * 4 + 2)
            have f3 := fz (n * 4 + 3)
            clear hb1 fz
            go_wp2
            go_ret
            refine ⟨rfl, ?_, ?_⟩
            · rw [show l.set n _ = l from by rw [← HX.out]; exact fr_set_same l n HN.out]
              repeat (first | exact HF1.out | refine FrAt.below ?_ ((Below.refl _ _).alloc (Nat.le_refl _) _))
            · repeat (first | exact Only.of_below HB.out | refine Only.alloc' ?_ _)
          · subst h1
            rw [show kMake 2 ⟨x0, 0, x2, x3⟩ = (⟨x0, 2, x2, x3⟩, 0) from by unfold kMake; rw [if_neg (fun h => h rfl), if_neg (by show ¬ (0 < x2 ∨ 0 < x3); omega)]] at hR
            subst hR
            go_enter Tryz.func51, Tryz.ntmps51
            go_wp2_with fail
            refine HT.out.mono ?_
            rintro e w1 ⟨rfl, hb1⟩
            have HB := Lib.hid hb1
            obtain ⟨HF1, c, c0, c1, c2, c3, fz, lg, lb⟩ := HF.out _ hb1
            have HF1 := Lib.hid HF1
            obtain ⟨e2, e10, e11, e6, e9, e12⟩ := HEK.out _ hb1
            have g2 := World.block_lt_of_cell? _ _ e2
            have g10 := World.block_lt_of_cell? _ _ e10
            have g11 := World.block_lt_of_cell? _ _ e11
            have f0 := fz (n * 4)
            have f1 := fz (n * 4 + 1)
            have f2 := fz (n * 4 + 2)
            have f3 := fz (n * 4 + 3)
            clear hb1 fz
            go_wp2
            go_ret
            refine ⟨rfl, ?_, ?_⟩
            · first | exact FrAt.put1x HF1.out HX.out HN.out _ | exact FrAt.below (FrAt.put1x HF1.out HX.out HN.out _) ((Below.refl _ _).alloc (Nat.le_refl _) _)
            · repeat (first | exact Only.of_below HB.out | refine only_set ?_ _ _ | refine Only.alloc' ?_ _)
      · have h1' : (x1 == 0) = false := by simp [h1]
        rw [show kMake 2 ⟨x0, x1, x2, x3⟩ = (⟨x0, x1, x2, x3⟩, 111) from by unfold kMake; rw [if_pos h1]] at hR
        clear h1
        subst hR
        go_enter Tryz.func51, Tryz.ntmps51
        go_wp2_with fail
        refine HT.out.mono ?_
        rintro e w1 ⟨rfl, hb1⟩
        have HB := Lib.hid hb1
        obtain ⟨HF1, c, c0, c1, c2, c3, fz, lg, lb⟩ := HF.out _ hb1
        have HF1 := Lib.hid HF1
        obtain ⟨e2, e10, e11, e6, e9, e12⟩ := HEK.out _ hb1
        have g2 := World.block_lt_of_cell? _ _ e2
        have g10 := World.block_lt_of_cell? _ _ e10
        have g11 := World.block_lt_of_cell? _ _ e11
        have f0 := fz (n * 4)
        have f1 := fz (n * 4 + 1)
        have f2 := fz (n * 4 + 2)
        have f3 := fz (n * 4 + 3)
        clear hb1 fz
        go_wp2
        go_ret
        refine ⟨rfl, ?_, ?_⟩
        · rw [show l.set n _ = l from by rw [← HX.out]; exact fr_set_same l n HN.out]
          repeat (first | exact HF1.out | refine FrAt.below ?_ ((Below.refl _ _).alloc (Nat.le_refl _) _))
        · repeat (first | exact Only.of_below HB.out | refine Only.alloc' ?_ _)
    · rw [if_neg hw] at HT hR
      unfold errC at HT
      rw [if_neg (by decide)] at HT
      subst hR
      clear hw
      go_enter Tryz.func51, Tryz.ntmps51
      go_wp2_with fail
      refine HT.out.mono ?_
      rintro e w1 ⟨rfl, hb1⟩
      have HB := Lib.hid hb1
      clear hb1
      go_wp2
      go_ret
      exact ⟨rfl, HRL.out.below HB.out, Only.of_below HB.out⟩

set_option maxRecDepth 100000 in
set_option maxHeartbeats 3200000 in
theorem fwrite_any (E : Nat → Addr) (l : List Fr) (b g cap : Nat) (i : Int) (w : World) (hI : ∀ n, n < l.length → (0 ≤ (l.getD n default).wr ∧ (l.getD n default).wr ≤ 1000000) ∧ (0 ≤ (l.getD n default).us ∧ (l.getD n default).us ≤ 1000000)) (hE : ErrsAt errT gOf w E nine) (h : FrAt 99 69 w b g cap l) :
    Calls Tryz.prog 95 #[.pointer (some ⟨b, 0, none⟩), .int .i64 i] w (FrQ 99 69 E b g cap (frThere l i kWrite) w) := by
  have HEK : Hid (∀ wx, Below w.heap.size w wx → wx.cell? ⟨0, 0, none⟩ = some (errV (E 2)) ∧ wx.cell? ⟨6, 0, none⟩ = some (errV (E 10)) ∧ wx.cell? ⟨5, 0, none⟩ = some (errV (E 11)) ∧ wx.cell? ⟨3, 0, none⟩ = some (errV (E 6)) ∧ wx.cell? ⟨4, 0, none⟩ = some (errV (E 9)) ∧ wx.cell? ⟨1, 0, none⟩ = some (errV (E 12))) := Lib.hid fun wx hx => ⟨((hE.mono hx).1 2 (by decide)).1, ((hE.mono hx).1 10 (by decide)).1, ((hE.mono hx).1 11 (by decide)).1, ((hE.mono hx).1 6 (by decide)).1, ((hE.mono hx).1 9 (by decide)).1, ((hE.mono hx).1 12 (by decide)).1⟩
  have HT := Lib.hid (fthere_any l b g cap i w h)
  have HRL := Lib.hid h
  unfold FrQ
  obtain ⟨R, hR⟩ : ∃ R, frThere l i kWrite = R := ⟨_, rfl⟩
  rw [hR]
  unfold frThere at hR
  skip
  cases hN : frAt l i with
  | none =>
    rw [hN] at HT hR
    dsimp only [Option.isSome] at HT hR
    subst hR
    clear h hE hN
    go_enter Tryz.func95, Tryz.ntmps95
    go_wp2_with fail
    refine HT.out.mono ?_
    rintro e w1 ⟨rfl, hb1⟩
    have HB := Lib.hid hb1
    obtain ⟨-, -, -, e6, -, -⟩ := HEK.out _ hb1
    clear hb1
    skip
    go_wp2
    go_ret
    exact ⟨rfl, HRL.out.below HB.out, Only.of_below HB.out⟩
  | some n =>
    obtain ⟨rfl, hn, ho⟩ := frAt_some hN
    rw [hN] at HT hR
    dsimp only [Option.isSome] at HT hR
    have hni : (n : Int) < (l.length : Int) := by omega
    have hn0 : (0 : Int) ≤ (n : Int) := by omega
    have HF : Hid (∀ wx, Below w.heap.size w wx → FrAt 99 69 wx b g cap l ∧ wx.cell? ⟨b, 0, none⟩ = some (.slice (some ⟨g, 0, none⟩) l.length cap) ∧ wx.cell? ⟨g, n * 4, none⟩ = some (.int .i64 (l.getD n default).owner) ∧ wx.cell? ⟨g, n * 4 + 1, none⟩ = some (.int .i64 (l.getD n default).kind) ∧ wx.cell? ⟨g, n * 4 + 2, none⟩ = some (.int .i64 (l.getD n default).wr) ∧ wx.cell? ⟨g, n * 4 + 3, none⟩ = some (.int .i64 (l.getD n default).us) ∧ (∀ o, wx.frozen? ⟨g, o, none⟩ = false) ∧ g < wx.heap.size ∧ b < wx.heap.size) := Lib.hid fun wx hx => ⟨h.below hx, (h.below hx).hdr, ((h.below hx).cells n hn).1, ((h.below hx).cells n hn).2.1, ((h.below hx).cells n hn).2.2.1, ((h.below hx).cells n hn).2.2.2, fun o => (h.below hx).free o, (h.below hx).lt.2, (h.below hx).lt.1⟩
    have hin := Lib.hid (hI n hn)
    obtain ⟨⟨x0, x1, x2, x3⟩, hx⟩ : ∃ x, l.getD n default = x := ⟨_, rfl⟩
    rw [hx] at HF hR hin
    have HX := Lib.hid hx
    have HN := Lib.hid hn
    dsimp only at HF HT hR hin
    clear h hE hN ho hx hn
    by_cases h1 : x1 = 0
    · subst h1
      have hws := IntWalk.i64_in (x2 + 1) (by have := hin.out; omega)
      rw [show kWrite ⟨x0, 0, x2, x3⟩ = (⟨x0, 0, x2 + 1, x3⟩, 0) from by unfold kWrite; rw [if_neg (fun h => h rfl)]] at hR
      subst hR
      go_enter Tryz.func95, Tryz.ntmps95
      go_wp2_with fail
      refine HT.out.mono ?_
      rintro e w1 ⟨rfl, hb1⟩
      have HB := Lib.hid hb1
      obtain ⟨HF1, c, c0, c1, c2, c3, fz, lg, lb⟩ := HF.out _ hb1
      have HF1 := Lib.hid HF1
      obtain ⟨e2, e10, e11, e6, e9, e12⟩ := HEK.out _ hb1
      have g2 := World.block_lt_of_cell? _ _ e2
      have g10 := World.block_lt_of_cell? _ _ e10
      have g11 := World.block_lt_of_cell? _ _ e11
      have f0 := fz (n * 4)
      have f1 := fz (n * 4 + 1)
      have f2 := fz (n * 4 + 2)
      have f3 := fz (n * 4 + 3)
      clear hb1 fz
      go_wp2
      go_ret
      refine ⟨rfl, ?_, ?_⟩
      · first | exact FrAt.put2x HF1.out HX.out HN.out _ | exact FrAt.below (FrAt.put2x HF1.out HX.out HN.out _) ((Below.refl _ _).alloc (Nat.le_refl _) _)
      · repeat (first | exact Only.of_below HB.out | refine only_set ?_ _ _ | refine Only.alloc' ?_ _)
    · have h1' : (x1 == 0) = false := by simp [h1]
      rw [show kWrite ⟨x0, x1, x2, x3⟩ = (⟨x0, x1, x2, x3⟩, 111) from by unfold kWrite; rw [if_pos h1]] at hR
      clear h1
      subst hR
      go_enter Tryz.func95, Tryz.ntmps95
      go_wp2_with fail
      refine HT.out.mono ?_
      rintro e w1 ⟨rfl, hb1⟩
      have HB := Lib.hid hb1
      obtain ⟨HF1, c, c0, c1, c2, c3, fz, lg, lb⟩ := HF.out _ hb1
      have HF1 := Lib.hid HF1
      obtain ⟨e2, e10, e11, e6, e9, e12⟩ := HEK.out _ hb1
      have g2 := World.block_lt_of_cell? _ _ e2
      have g10 := World.block_lt_of_cell? _ _ e10
      have g11 := World.block_lt_of_cell? _ _ e11
      have f0 := fz (n * 4)
      have f1 := fz (n * 4 + 1)
      have f2 := fz (n * 4 + 2)
      have f3 := fz (n * 4 + 3)
      clear hb1 fz
      go_wp2
      go_ret
      refine ⟨rfl, ?_, ?_⟩
      · rw [show l.set n _ = l from by rw [← HX.out]; exact fr_set_same l n HN.out]
        repeat (first | exact HF1.out | refine FrAt.below ?_ ((Below.refl _ _).alloc (Nat.le_refl _) _))
      · repeat (first | exact Only.of_below HB.out | refine Only.alloc' ?_ _)

set_option maxRecDepth 100000 in
set_option maxHeartbeats 3200000 in
theorem funwrite_any (E : Nat → Addr) (l : List Fr) (b g cap : Nat) (i : Int) (w : World) (hI : ∀ n, n < l.length → (0 ≤ (l.getD n default).wr ∧ (l.getD n default).wr ≤ 1000000) ∧ (0 ≤ (l.getD n default).us ∧ (l.getD n default).us ≤ 1000000)) (hE : ErrsAt errT gOf w E nine) (h : FrAt 99 69 w b g cap l) :
    Calls Tryz.prog 74 #[.pointer (some ⟨b, 0, none⟩), .int .i64 i] w (FrQ 99 69 E b g cap (frThere l i kUnwrite) w) := by
  have HEK : Hid (∀ wx, Below w.heap.size w wx → wx.cell? ⟨0, 0, none⟩ = some (errV (E 2)) ∧ wx.cell? ⟨6, 0, none⟩ = some (errV (E 10)) ∧ wx.cell? ⟨5, 0, none⟩ = some (errV (E 11)) ∧ wx.cell? ⟨3, 0, none⟩ = some (errV (E 6)) ∧ wx.cell? ⟨4, 0, none⟩ = some (errV (E 9)) ∧ wx.cell? ⟨1, 0, none⟩ = some (errV (E 12))) := Lib.hid fun wx hx => ⟨((hE.mono hx).1 2 (by decide)).1, ((hE.mono hx).1 10 (by decide)).1, ((hE.mono hx).1 11 (by decide)).1, ((hE.mono hx).1 6 (by decide)).1, ((hE.mono hx).1 9 (by decide)).1, ((hE.mono hx).1 12 (by decide)).1⟩
  have HT := Lib.hid (fthere_any l b g cap i w h)
  have HRL := Lib.hid h
  unfold FrQ
  obtain ⟨R, hR⟩ : ∃ R, frThere l i kUnwrite = R := ⟨_, rfl⟩
  rw [hR]
  unfold frThere at hR
  skip
  cases hN : frAt l i with
  | none =>
    rw [hN] at HT hR
    dsimp only [Option.isSome] at HT hR
    subst hR
    clear h hE hN
    go_enter Tryz.func74, Tryz.ntmps74
    go_wp2_with fail
    refine HT.out.mono ?_
    rintro e w1 ⟨rfl, hb1⟩
    have HB := Lib.hid hb1
    obtain ⟨-, -, -, e6, -, -⟩ := HEK.out _ hb1
    clear hb1
    skip
    go_wp2
    go_ret
    exact ⟨rfl, HRL.out.below HB.out, Only.of_below HB.out⟩
  | some n =>
    obtain ⟨rfl, hn, ho⟩ := frAt_some hN
    rw [hN] at HT hR
    dsimp only [Option.isSome] at HT hR
    have hni : (n : Int) < (l.length : Int) := by omega
    have hn0 : (0 : Int) ≤ (n : Int) := by omega
    have HF : Hid (∀ wx, Below w.heap.size w wx → FrAt 99 69 wx b g cap l ∧ wx.cell? ⟨b, 0, none⟩ = some (.slice (some ⟨g, 0, none⟩) l.length cap) ∧ wx.cell? ⟨g, n * 4, none⟩ = some (.int .i64 (l.getD n default).owner) ∧ wx.cell? ⟨g, n * 4 + 1, none⟩ = some (.int .i64 (l.getD n default).kind) ∧ wx.cell? ⟨g, n * 4 + 2, none⟩ = some (.int .i64 (l.getD n default).wr) ∧ wx.cell? ⟨g, n * 4 + 3, none⟩ = some (.int .i64 (l.getD n default).us) ∧ (∀ o, wx.frozen? ⟨g, o, none⟩ = false) ∧ g < wx.heap.size ∧ b < wx.heap.size) := Lib.hid fun wx hx => ⟨h.below hx, (h.below hx).hdr, ((h.below hx).cells n hn).1, ((h.below hx).cells n hn).2.1, ((h.below hx).cells n hn).2.2.1, ((h.below hx).cells n hn).2.2.2, fun o => (h.below hx).free o, (h.below hx).lt.2, (h.below hx).lt.1⟩
    have hin := Lib.hid (hI n hn)
    obtain ⟨⟨x0, x1, x2, x3⟩, hx⟩ : ∃ x, l.getD n default = x := ⟨_, rfl⟩
    rw [hx] at HF hR hin
    have HX := Lib.hid hx
    have HN := Lib.hid hn
    dsimp only at HF HT hR hin
    clear h hE hN ho hx hn
    by_cases h2 : x2 = 0
    · subst h2
      rw [show kUnwrite ⟨x0, x1, 0, x3⟩ = (⟨x0, x1, 0, x3⟩, 112) from by unfold kUnwrite; rw [if_pos rfl]] at hR
      subst hR
      go_enter Tryz.func74, Tryz.ntmps74
      go_wp2_with fail
      refine HT.out.mono ?_
      rintro e w1 ⟨rfl, hb1⟩
      have HB := Lib.hid hb1
      obtain ⟨HF1, c, c0, c1, c2, c3, fz, lg, lb⟩ := HF.out _ hb1
      have HF1 := Lib.hid HF1
      obtain ⟨e2, e10, e11, e6, e9, e12⟩ := HEK.out _ hb1
      have g2 := World.block_lt_of_cell? _ _ e2
      have g10 := World.block_lt_of_cell? _ _ e10
      have g11 := World.block_lt_of_cell? _ _ e11
      have f0 := fz (n * 4)
      have f1 := fz (n * 4 + 1)
      have f2 := fz (n * 4 + 2)
      have f3 := fz (n * 4 + 3)
      clear hb1 fz
      go_wp2
      go_ret
      refine ⟨rfl, ?_, ?_⟩
      · rw [show l.set n _ = l from by rw [← HX.out]; exact fr_set_same l n HN.out]
        repeat (first | exact HF1.out | refine FrAt.below ?_ ((Below.refl _ _).alloc (Nat.le_refl _) _))
      · repeat (first | exact Only.of_below HB.out | refine Only.alloc' ?_ _)
    · have h2' : (x2 == 0) = false := by simp [h2]
      have hws := IntWalk.i64_in (x2 - 1) (by have := hin.out; omega)
      rw [show kUnwrite ⟨x0, x1, x2, x3⟩ = (⟨x0, x1, x2 - 1, x3⟩, 0) from by unfold kUnwrite; rw [if_neg h2]] at hR
      clear h2
      subst hR
      go_enter Tryz.func74, Tryz.ntmps74
      go_wp2_with fail
      refine HT.out.mono ?_
      rintro e w1 ⟨rfl, hb1⟩
      have HB := Lib.hid hb1
      obtain ⟨HF1, c, c0, c1, c2, c3, fz, lg, lb⟩ := HF.out _ hb1
      have HF1 := Lib.hid HF1
      obtain ⟨e2, e10, e11, e6, e9, e12⟩ := HEK.out _ hb1
      have g2 := World.block_lt_of_cell? _ _ e2
      have g10 := World.block_lt_of_cell? _ _ e10
      have g11 := World.block_lt_of_cell? _ _ e11
      have f0 := fz (n * 4)
      have f1 := fz (n * 4 + 1)
      have f2 := fz (n * 4 + 2)
      have f3 := fz (n * 4 + 3)
      clear hb1 fz
      go_wp2
      go_ret
      refine ⟨rfl, ?_, ?_⟩
      · first | exact FrAt.put2x HF1.out HX.out HN.out _ | exact FrAt.below (FrAt.put2x HF1.out HX.out HN.out _) ((Below.refl _ _).alloc (Nat.le_refl _) _)
      · repeat (first | exact Only.of_below HB.out | refine only_set ?_ _ _ | refine Only.alloc' ?_ _)

set_option maxRecDepth 100000 in
set_option maxHeartbeats 3200000 in
theorem fuse_any (E : Nat → Addr) (l : List Fr) (b g cap : Nat) (i : Int) (w : World) (hI : ∀ n, n < l.length → (0 ≤ (l.getD n default).wr ∧ (l.getD n default).wr ≤ 1000000) ∧ (0 ≤ (l.getD n default).us ∧ (l.getD n default).us ≤ 1000000)) (hE : ErrsAt errT gOf w E nine) (h : FrAt 99 69 w b g cap l) :
    Calls Tryz.prog 52 #[.pointer (some ⟨b, 0, none⟩), .int .i64 i] w (FrQ 99 69 E b g cap (frThere l i kUse) w) := by
  have HEK : Hid (∀ wx, Below w.heap.size w wx → wx.cell? ⟨0, 0, none⟩ = some (errV (E 2)) ∧ wx.cell? ⟨6, 0, none⟩ = some (errV (E 10)) ∧ wx.cell? ⟨5, 0, none⟩ = some (errV (E 11)) ∧ wx.cell? ⟨3, 0, none⟩ = some (errV (E 6)) ∧ wx.cell? ⟨4, 0, none⟩ = some (errV (E 9)) ∧ wx.cell? ⟨1, 0, none⟩ = some (errV (E 12))) := Lib.hid fun wx hx => ⟨((hE.mono hx).1 2 (by decide)).1, ((hE.mono hx).1 10 (by decide)).1, ((hE.mono hx).1 11 (by decide)).1, ((hE.mono hx).1 6 (by decide)).1, ((hE.mono hx).1 9 (by decide)).1, ((hE.mono hx).1 12 (by decide)).1⟩
  have HT := Lib.hid (fthere_any l b g cap i w h)
  have HRL := Lib.hid h
  unfold FrQ
  obtain ⟨R, hR⟩ : ∃ R, frThere l i kUse = R := ⟨_, rfl⟩
  rw [hR]
  unfold frThere at hR
  skip
  cases hN : frAt l i with
  | none =>
    rw [hN] at HT hR
    dsimp only [Option.isSome] at HT hR
    subst hR
    clear h hE hN
    go_enter Tryz.func52, Tryz.ntmps52
    go_wp2_with fail
    refine HT.out.mono ?_
    rintro e w1 ⟨rfl, hb1⟩
    have HB := Lib.hid hb1
    obtain ⟨-, -, -, e6, -, -⟩ := HEK.out _ hb1
    clear hb1
    skip
    go_wp2
    go_ret
    exact ⟨rfl, HRL.out.below HB.out, Only.of_below HB.out⟩
  | some n =>
    obtain ⟨rfl, hn, ho⟩ := frAt_some hN
    rw [hN] at HT hR
    dsimp only [Option.isSome] at HT hR
    have hni : (n : Int) < (l.length : Int) := by omega
    have hn0 : (0 : Int) ≤ (n : Int) := by omega
    have HF : Hid (∀ wx, Below w.heap.size w wx → FrAt 99 69 wx b g cap l ∧ wx.cell? ⟨b, 0, none⟩ = some (.slice (some ⟨g, 0, none⟩) l.length cap) ∧ wx.cell? ⟨g, n * 4, none⟩ = some (.int .i64 (l.getD n default).owner) ∧ wx.cell? ⟨g, n * 4 + 1, none⟩ = some (.int .i64 (l.getD n default).kind) ∧ wx.cell? ⟨g, n * 4 + 2, none⟩ = some (.int .i64 (l.getD n default).wr) ∧ wx.cell? ⟨g, n * 4 + 3, none⟩ = some (.int .i64 (l.getD n default).us) ∧ (∀ o, wx.frozen? ⟨g, o, none⟩ = false) ∧ g < wx.heap.size ∧ b < wx.heap.size) := Lib.hid fun wx hx => ⟨h.below hx, (h.below hx).hdr, ((h.below hx).cells n hn).1, ((h.below hx).cells n hn).2.1, ((h.below hx).cells n hn).2.2.1, ((h.below hx).cells n hn).2.2.2, fun o => (h.below hx).free o, (h.below hx).lt.2, (h.below hx).lt.1⟩
    have hin := Lib.hid (hI n hn)
    obtain ⟨⟨x0, x1, x2, x3⟩, hx⟩ : ∃ x, l.getD n default = x := ⟨_, rfl⟩
    rw [hx] at HF hR hin
    have HX := Lib.hid hx
    have HN := Lib.hid hn
    dsimp only at HF HT hR hin
    clear h hE hN ho hx hn
    have hws := IntWalk.i64_in (x3 + 1) (by have := hin.out; omega)
    rw [show kUse ⟨x0, x1, x2, x3⟩ = (⟨x0, x1, x2, x3 + 1⟩, 0) from rfl] at hR
    subst hR
    go_enter Tryz.func52, Tryz.ntmps52
    go_wp2_with fail
    refine HT.out.mono ?_
    rintro e w1 ⟨rfl, hb1⟩
    have HB := Lib.hid hb1
    obtain ⟨HF1, c, c0, c1, c2, c3, fz, lg, lb⟩ := HF.out _ hb1
    have HF1 := Lib.hid HF1
    obtain ⟨e2, e10, e11, e6, e9, e12⟩ := HEK.out _ hb1
    have g2 := World.block_lt_of_cell? _ _ e2
    have g10 := World.block_lt_of_cell? _ _ e10
    have g11 := World.block_lt_of_cell? _ _ e11
    have f0 := fz (n * 4)
    have f1 := fz (n * 4 + 1)
    have f2 := fz (n * 4 + 2)
    have f3 := fz (n * 4 + 3)
    clear hb1 fz
    go_wp2
    go_ret
    refine ⟨rfl, ?_, ?_⟩
    · first | exact FrAt.put3x HF1.out HX.out HN.out _ | exact FrAt.below (FrAt.put3x HF1.out HX.out HN.out _) ((Below.refl _ _).alloc (Nat.le_refl _) _)
    · repeat (first | exact Only.of_below HB.out | refine only_set ?_ _ _ | refine Only.alloc' ?_ _)

set_option maxRecDepth 100000 in
set_option maxHeartbeats 3200000 in
theorem funuse_any (E : Nat → Addr) (l : List Fr) (b g cap : Nat) (i : Int) (w : World) (hI : ∀ n, n < l.length → (0 ≤ (l.getD n default).wr ∧ (l.getD n default).wr ≤ 1000000) ∧ (0 ≤ (l.getD n default).us ∧ (l.getD n default).us ≤ 1000000)) (hE : ErrsAt errT gOf w E nine) (h : FrAt 99 69 w b g cap l) :
    Calls Tryz.prog 75 #[.pointer (some ⟨b, 0, none⟩), .int .i64 i] w (FrQ 99 69 E b g cap (frThere l i kUnuse) w) := by
  have HEK : Hid (∀ wx, Below w.heap.size w wx → wx.cell? ⟨0, 0, none⟩ = some (errV (E 2)) ∧ wx.cell? ⟨6, 0, none⟩ = some (errV (E 10)) ∧ wx.cell? ⟨5, 0, none⟩ = some (errV (E 11)) ∧ wx.cell? ⟨3, 0, none⟩ = some (errV (E 6)) ∧ wx.cell? ⟨4, 0, none⟩ = some (errV (E 9)) ∧ wx.cell? ⟨1, 0, none⟩ = some (errV (E 12))) := Lib.hid fun wx hx => ⟨((hE.mono hx).1 2 (by decide)).1, ((hE.mono hx).1 10 (by decide)).1, ((hE.mono hx).1 11 (by decide)).1, ((hE.mono hx).1 6 (by decide)).1, ((hE.mono hx).1 9 (by decide)).1, ((hE.mono hx).1 12 (by decide)).1⟩
  have HT := Lib.hid (fthere_any l b g cap i w h)
  have HRL := Lib.hid h
  unfold FrQ
  obtain ⟨R, hR⟩ : ∃ R, frThere l i kUnuse = R := ⟨_, rfl⟩
  rw [hR]
  unfold frThere at hR
  skip
  cases hN : frAt l i with
  | none =>
    rw [hN] at HT hR
    dsimp only [Option.isSome] at HT hR
    subst hR
    clear h hE hN
    go_enter Tryz.func75, Tryz.ntmps75
    go_wp2_with fail
    refine HT.out.mono ?_
    rintro e w1 ⟨rfl, hb1⟩
    have HB := Lib.hid hb1
    obtain ⟨-, -, -, e6, -, -⟩ := HEK.out _ hb1
    clear hb1
    skip
    go_wp2
    go_ret
    exact ⟨rfl, HRL.out.below HB.out, Only.of_below HB.out⟩
  | some n =>
    obtain ⟨rfl, hn, ho⟩ := frAt_some hN
    rw [hN] at HT hR
    dsimp only [Option.isSome] at HT hR
    have hni : (n : Int) < (l.length : Int) := by omega
    have hn0 : (0 : Int) ≤ (n : Int) := by omega
    have HF : Hid (∀ wx, Below w.heap.size w wx → FrAt 99 69 wx b g cap l ∧ wx.cell? ⟨b, 0, none⟩ = some (.slice (some ⟨g, 0, none⟩) l.length cap) ∧ wx.cell? ⟨g, n * 4, none⟩ = some (.int .i64 (l.getD n default).owner) ∧ wx.cell? ⟨g, n * 4 + 1, none⟩ = some (.int .i64 (l.getD n default).kind) ∧ wx.cell? ⟨g, n * 4 + 2, none⟩ = some (.int .i64 (l.getD n default).wr) ∧ wx.cell? ⟨g, n * 4 + 3, none⟩ = some (.int .i64 (l.getD n default).us) ∧ (∀ o, wx.frozen? ⟨g, o, none⟩ = false) ∧ g < wx.heap.size ∧ b < wx.heap.size) := Lib.hid fun wx hx => ⟨h.below hx, (h.below hx).hdr, ((h.below hx).cells n hn).1, ((h.below hx).cells n hn).2.1, ((h.below hx).cells n hn).2.2.1, ((h.below hx).cells n hn).2.2.2, fun o => (h.below hx).free o, (h.below hx).lt.2, (h.below hx).lt.1⟩
    have hin := Lib.hid (hI n hn)
    obtain ⟨⟨x0, x1, x2, x3⟩, hx⟩ : ∃ x, l.getD n default = x := ⟨_, rfl⟩
    rw [hx] at HF hR hin
    have HX := Lib.hid hx
    have HN := Lib.hid hn
    dsimp only at HF HT hR hin
    clear h hE hN ho hx hn
    by_cases h3 : x3 = 0
    · subst h3
      rw [show kUnuse ⟨x0, x1, x2, 0⟩ = (⟨x0, x1, x2, 0⟩, 112) from by unfold kUnuse; rw [if_pos rfl]] at hR
      subst hR
      go_enter Tryz.func75, Tryz.ntmps75
      go_wp2_with fail
      refine HT.out.mono ?_
      rintro e w1 ⟨rfl, hb1⟩
      have HB := Lib.hid hb1
      obtain ⟨HF1, c, c0, c1, c2, c3, fz, lg, lb⟩ := HF.out _ hb1
      have HF1 := Lib.hid HF1
      obtain ⟨e2, e10, e11, e6, e9, e12⟩ := HEK.out _ hb1
      have g2 := World.block_lt_of_cell? _ _ e2
      have g10 := World.block_lt_of_cell? _ _ e10
      have g11 := World.block_lt_of_cell? _ _ e11
      have f0 := fz (n * 4)
      have f1 := fz (n * 4 + 1)
      have f2 := fz (n * 4 + 2)
      have f3 := fz (n * 4 + 3)
      clear hb1 fz
      go_wp2
      go_ret
      refine ⟨rfl, ?_, ?_⟩
      · rw [show l.set n _ = l from by rw [← HX.out]; exact fr_set_same l n HN.out]
        repeat (first | exact HF1.out | refine FrAt.below ?_ ((Below.refl _ _).alloc (Nat.le_refl _) _))
      · repeat (first | exact Only.of_below HB.out | refine Only.alloc' ?_ _)
    · have h3' : (x3 == 0) = false := by simp [h3]
      have hws := IntWalk.i64_in (x3 - 1) (by have := hin.out; omega)
      rw [show kUnuse ⟨x0, x1, x2, x3⟩ = (⟨x0, x1, x2, x3 - 1⟩, 0) from by unfold kUnuse; rw [if_neg h3]] at hR
      clear h3
      subst hR
      go_enter Tryz.func75, Tryz.ntmps75
      go_wp2_with fail
      refine HT.out.mono ?_
      rintro e w1 ⟨rfl, hb1⟩
      have HB := Lib.hid hb1
      obtain ⟨HF1, c, c0, c1, c2, c3, fz, lg, lb⟩ := HF.out _ hb1
      have HF1 := Lib.hid HF1
      obtain ⟨e2, e10, e11, e6, e9, e12⟩ := HEK.out _ hb1
      have g2 := World.block_lt_of_cell? _ _ e2
      have g10 := World.block_lt_of_cell? _ _ e10
      have g11 := World.block_lt_of_cell? _ _ e11
      have f0 := fz (n * 4)
      have f1 := fz (n * 4 + 1)
      have f2 := fz (n * 4 + 2)
      have f3 := fz (n * 4 + 3)
      clear hb1 fz
      go_wp2
      go_ret
      refine ⟨rfl, ?_, ?_⟩
      · first | exact FrAt.put3x HF1.out HX.out HN.out _ | exact FrAt.below (FrAt.put3x HF1.out HX.out HN.out _) ((Below.refl _ _).alloc (Nat.le_refl _) _)
      · repeat (first | exact Only.of_below HB.out | refine only_set ?_ _ _ | refine Only.alloc' ?_ _)

end Go.Proofs.YtaoaachgnnengaaGreatDoor

/-
  frames.Frames: Alloc; slices.IndexFunc of what is nobody's.
-/
namespace Go.Proofs.YtaoaachgnnengaaGreatDoor
open Go.RowKit

theorem fnobody_any (x : Fr) (w : World) : Calls Tryz.prog 47 #[frV x] w fun e w' => e = .returned (.bool (decide (x.owner = -1))) ∧ Below w.heap.size w w' := by
  obtain ⟨x0, x1, x2, x3⟩ := x
  unfold frV
  dsimp only
  by_cases h : x0 = -1
  · subst h
    go_enter Tryz.func47, Tryz.ntmps47
    go_wp2
    go_ret
    exact ⟨rfl, (Below.refl _ _).alloc (Nat.le_refl _) _⟩
  · have h' : (x0 == -1) = false := by simp [h]
    have H := Lib.hid h
    clear h
    go_enter Tryz.func47, Tryz.ntmps47
    go_wp2
    go_ret
    exact ⟨ret_bool (by simp [H.out]), (Below.refl _ _).alloc (Nat.le_refl _) _⟩
def FiTo (l : List Fr) (w0 : World) (i : Value) (wr : World) : Prop :=
  ∃ j : Nat, j ≤ l.length ∧ i = .int .i64 (j : Int) ∧ (∀ k, k < j → (l.getD k default).owner ≠ -1) ∧ Below w0.heap.size w0 wr
def idxV (o : Option Nat) : Int := match o with
  | none => -1
  | some i => (i : Int)
set_option maxRecDepth 100000 in
set_option maxHeartbeats 1600000 in
theorem findex_any (l : List Fr) (b g cap : Nat) (w : World) (h : FrAt 99 69 w b g cap l) :
    Calls Tryz.prog 46 #[.slice (some ⟨g, 0, none⟩) l.length cap, .func (.func 47) #[] #[]] w fun e w' => e = .returned (.int .i64 (idxV (frFree l))) ∧ Below w.heap.size w w' := by
  have HF : Hid (∀ wx, Below w.heap.size w wx → FrAt 99 69 wx b g cap l) := Lib.hid fun wx hx => h.below hx
  have hlen : l.length ≤ 9223372036854775807 := Nat.le_trans h.2.2.2.1 h.2.2.2.2
  have HST : Hid (FiTo l w (.int .i64 0) w) := Lib.hid ⟨0, Nat.zero_le _, rfl, fun k hk => absurd hk (by omega), Below.refl _ _⟩
  clear h
  go_enter Tryz.func46, Tryz.ntmps46
  go_wp2_with fail
  go_loopw [8] (fun i wr => FiTo l w i wr) (fun i _ => l.length - (intOf i).toNat)
  case atStart => exact HST.out
  case round =>
    obtain ⟨j, hj, rfl, hno, hb⟩ := hrel
    have HNO := Lib.hid hno
    have HB := Lib.hid hb
    clear hno hb HST
    by_cases hlt : j < l.length
    · have hji : (j : Int) < (l.length : Int) := by omega
      obtain ⟨c0, c1, c2, c3⟩ := (HF.out _ HB.out).cells j hlt
      have HC := Lib.hid (fun wx => fnobody_any (l.getD j default) wx)
      have HFR : Hid ((l.getD j default).owner = -1 → frFree l = some j) := Lib.hid fun ho => frFree_is hlt ho HNO.out
      obtain ⟨⟨x0, x1, x2, x3⟩, hx⟩ : ∃ x, l.getD j default = x := ⟨_, rfl⟩
      rw [hx] at c0 c1 c2 c3 HC HFR
      have HX := Lib.hid hx
      unfold frV at HC
      dsimp only at HC HFR c0 c1 c2 c3
      clear hx
      by_cases ho : x0 = -1
      · have HFE := Lib.hid (HFR.out ho)
        rw [decide_eq_true ho] at HC
        clear ho
        go_wp2_with fail
        refine (HC.out _).mono ?_
        rintro e w1 ⟨rfl, hb1⟩
        have HB1 := Lib.hid (HB.out.trans (hb1.mono HB.out.size))
        clear hb1
        go_wp2
        go_ret
        exact ⟨by rw [HFE.out]; rfl, HB1.out⟩
      · have HO := Lib.hid ho
        rw [decide_eq_false ho] at HC
        clear ho
        go_wp2_with fail
        refine (HC.out _).mono ?_
        rintro e w1 ⟨rfl, hb1⟩
        have HB1 := Lib.hid (HB.out.trans (hb1.mono HB.out.size))
        clear hb1
        go_wp2
        go_roundw
        case rel => exact ⟨j + 1, by omega, by go_num, fun k hk => by
          by_cases e : k = j
          · subst e; rw [HX.out]; exact HO.out
          · exact HNO.out k (by omega), HB1.out⟩
        case measure => simp [intOf]; omega
    · obtain rfl : j = l.length := by omega
      have HFE := Lib.hid (frFree_no HNO.out)
      go_wp2
      go_ret
      exact ⟨by rw [HFE.out]; rfl, HB.out⟩

/-- what Alloc does -/
def FrQA (TB TR : TypeId) (E : Nat → Addr) (b g cap : Nat) (R : FrR) (w : World) (e : Ending) (w' : World) : Prop := e = .returned (.tuple #[.int .i64 R.n, errC E R.c]) ∧ FrAt TB TR w' b g cap R.l ∧ Only (fun k => k = g) w w'
set_option maxRecDepth 100000 in
set_option maxHeartbeats 1600000 in
theorem falloc_any (E : Nat → Addr) (l : List Fr) (b g cap : Nat) (who : Int) (w : World) (hE : ErrsAt errT gOf w E nine) (h : FrAt 99 69 w b g cap l) :
    Calls Tryz.prog 19 #[.pointer (some ⟨b, 0, none⟩), .int .i64 who] w (FrQA 99 69 E b g cap (frAlloc l who) w) := by
  have e2 : w.cell? ⟨0, 0, none⟩ = some (errV (E 2)) := (hE.1 2 (by decide)).1
  have HEK : Hid (∀ wx, Below w.heap.size w wx → wx.cell? ⟨1, 0, none⟩ = some (errV (E 12))) := Lib.hid fun wx hx => ((hE.mono hx).1 12 (by decide)).1
  have HF : Hid (∀ wx, Below w.heap.size w wx → FrAt 99 69 wx b g cap l) := Lib.hid fun wx hx => h.below hx
  have HI := Lib.hid (findex_any l b g cap w h)
  have c := h.hdr
  unfold FrQA
  obtain ⟨R, hR⟩ : ∃ R, frAlloc l who = R := ⟨_, rfl⟩
  rw [hR]
  unfold frAlloc at hR
  by_cases hw : frOwns who
  · rw [if_pos hw] at hR
    have hw' := hw
    unfold frOwns at hw'
    have hc : (¬ who < 0 ∧ ¬ 8 ≤ who) ∨ who = 100 := by omega
    clear hw hw' hE
    cases hN : frFree l with
    | none =>
      rw [hN] at hR HI
      unfold idxV at HI
      dsimp only at hR HI
      subst hR
      clear hN h
      rcases hc with ⟨h1, h2⟩ | rfl
      all_goals
        go_enter Tryz.func19, Tryz.ntmps19
        go_wp2_with fail
        refine HI.out.mono ?_
        rintro e w1 ⟨rfl, hb1⟩
        have e12 := HEK.out _ hb1
        have HB := Lib.hid hb1
        clear hb1
        go_wp2_with fail
        go_quiet (fail)
        go_wp2
        go_ret2
        exact ⟨rfl, HF.out _ (below_drewN HB.out _), Only.of_below (below_drewN HB.out _)⟩
    | some i =>
      obtain ⟨hi, -, -⟩ := frFree_some hN
      rw [hN] at hR HI
      unfold idxV at HI
      dsimp only at hR HI
      subst hR
      have hii : (i : Int) < (l.length : Int) := by omega
      have hi0 : ¬ (i : Int) < 0 := by omega
      clear hN h
      rcases hc with ⟨h1, h2⟩ | rfl
      all_goals
        go_enter Tryz.func19, Tryz.ntmps19
        go_wp2_with fail
        refine HI.out.mono ?_
        rintro e w1 ⟨rfl, hb1⟩
        have HF1 := Lib.hid (HF.out _ hb1)
        have HB := Lib.hid hb1
        have c1 := HF1.out.hdr
        obtain ⟨c2, -, -, -⟩ := HF1.out.cells i hi
        have f0 := HF1.out.free (i * 4)
        clear hb1
        go_wp2
        go_ret2
        exact ⟨rfl, FrAt.put0 HF1.out hi _, only_set (Only.of_below HB.out) _ _⟩
  · rw [if_neg hw] at hR
    subst hR
    have hw' := hw
    unfold frOwns at hw'
    have hne : (who == 100) = false := by simp; omega
    have hc : who < 0 ∨ (¬ who < 0 ∧ 8 ≤ who) := by omega
    clear hw hw' hE h
    rcases hc with h1 | ⟨h1, h2⟩
    all_goals
      go_enter Tryz.func19, Tryz.ntmps19
      go_wp2_with fail
      go_quiet (fail)
      go_wp2
      go_ret2
      exact ⟨rfl, HF.out _ (below_drewN (Below.refl _ _) _), Only.of_below (below_drewN (Below.refl _ _) _)⟩
end Go.Proofs.YtaoaachgnnengaaGreatDoor

/-
  slices.Clone at int: the copy is in new memory and reads as what was copied; nothing that was there is turned.
-/
namespace Go.Proofs.YtaoaachgnnengaaGreatDoor
open Go.RowKit
theorem infoI64c : (Tryz.prog.info? 3).map (fun i => (i.zero, i.size, i.bytes)) = some (some (.int .i64 0), 1, 8) := by kernel_rfl

set_option maxHeartbeats 400000 in
theorem cloneInts (v : Value) (n : Nat) (xs : List Value) (w : World) (hr : Reads w v n xs) (hn : n * 8 ≤ 140737488355328) (hl : xs.length = n * 1) (h1 : ∀ u ∈ xs, u.oneCell' = true) :
    Calls Tryz.prog 67 #[v] w fun e w' => ∃ v', e = .returned v' ∧ w'.ownsRow 0 3 1 v' n xs ∧ (∀ k, inRow v' k → w.heap.size ≤ k) ∧ Below w.heap.size w w' := by
  obtain ⟨i0, hi, hz0, hz1, hz2⟩ := info_parts infoI64c
  rcases hr with ⟨rfl, rfl, rfl⟩ | ⟨a, cap, rfl, hc⟩
  · have heq := fun wx => Lib.run_eql_slice_nil (P := Tryz.prog) wx 43 3 none 0 0 0 0 Tryz.underlying43
    clear hl h1 hn
    go_enter Tryz.func67, Tryz.ntmps67
    go_wp2
    go_ret
    exact ⟨_, rfl, own_nil _ _ _, fun k hk => by simp [inRow, Value.ownBlock] at hk, Below.refl _ _⟩
  · have heq := fun wx => Lib.run_eql_slice_nil (P := Tryz.prog) wx 43 3 (some a) n cap 0 0 Tryz.underlying43
    have HC := Lib.hid hc
    have HL := Lib.hid hl
    have H1 := Lib.hid h1
    clear hc hl h1
    go_enter Tryz.func67, Tryz.ntmps67
    go_wp2_with (at_builtin; refine wpList_append_sep _ rfl _ _ 43 rfl 3 i0 (.int .i64 0) 1 8 Tryz.underlying43 hi hz0 hz1 hz2 rfl (by decide) (.slice (some ⟨w.heap.size, 0, none⟩) 0 0) 0 [] rfl (World.ownsRow_made w #[] 0 (Nat.zero_le _) (Nat.zero_le _) rfl) a n cap xs rfl HL.out ?_ H1.out (by unfold maxLen; omega) (by omega) ?_)
    · intro j u hj
      have := HC.out j u hj
      exact (World.cell?_of_block (blk_cell_old this)).trans this
    · intro v' w' ho hg hs
      have hk' : ∀ k, inRow v' k → w.heap.size ≤ k := fun k hk => by
        rcases hs k hk with h | h
        · simp [inRow, Value.ownBlock] at h; omega
        · exact Nat.le_trans (by simp) h
      have hb : Below w.heap.size w w' := ((Below.refl _ _).alloc (Nat.le_refl _) _).grown hg (by simp) (fun k hk => by simp [Value.ownBlock] at hk; omega)
      have ho' : w'.ownsRow 0 3 1 v' n xs := by simpa using ho
      clear ho hg hs HC HL H1
      go_wp2
      go_ret
      exact ⟨_, rfl, ho', hk', hb⟩
end Go.Proofs.YtaoaachgnnengaaGreatDoor

