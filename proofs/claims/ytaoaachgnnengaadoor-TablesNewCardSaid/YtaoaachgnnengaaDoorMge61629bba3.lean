/-
  Parts of one proof, one behind the other.
-/
import Derived.Test.YtaoaachgnnengaaDoorMg22d5afea48
import Derived.Test.YtaoaachgnnengaaDoorMg0cc251d182
/-
  facaderef16.Frames: owner, mine, there; what frames are told.
-/
namespace Go.Proofs.YtaoaachgnnengaaDoor
open Go.RowKit

theorem rowner_any (n : Int) (w : World) : Calls Tryd.prog 86 #[.int .i64 n] w fun e w' => e = .returned (.bool (decide (frOwns n))) ∧ w = w' := by
  by_cases h : frOwns n
  · rw [decide_eq_true h]
    have h' := h
    unfold frOwns at h'
    have hc : (0 ≤ n ∧ n < 8) ∨ n = 100 := h'
    clear h h'
    rcases hc with ⟨h1, h2⟩ | rfl
    all_goals
      go_enter Tryd.func86, Tryd.ntmps86
      go_wp2
      go_ret
      exact ⟨rfl, rfl⟩
  · rw [decide_eq_false h]
    have h' := h
    unfold frOwns at h'
    have hne : (n == 100) = false := by simp; omega
    have hc : ¬ 0 ≤ n ∨ (0 ≤ n ∧ ¬ n < 8) := by omega
    clear h h'
    rcases hc with h1 | ⟨h1, h2⟩
    all_goals
      go_enter Tryd.func86, Tryd.ntmps86
      go_wp2
      go_ret
      exact ⟨rfl, rfl⟩

set_option maxRecDepth 100000 in
set_option maxHeartbeats 1600000 in
theorem rmine_any (l : List Fr) (b g cap : Nat) (i who : Int) (w : World) (h : FrAt 54 51 w b g cap l) :
    Calls Tryd.prog 87 #[.pointer (some ⟨b, 0, none⟩), .int .i64 i, .int .i64 who] w fun e w' => e = .returned (.int .i64 (frOwnC l i who)) ∧ w = w' := by
  have c := h.hdr
  unfold frOwnC
  by_cases hi : 0 ≤ i ∧ i < l.length
  · obtain ⟨n, rfl⟩ := Int.eq_ofNat_of_zero_le hi.1
    have hn : n < l.length := by omega
    have hf : frAt l (n : Int) = if (l.getD n default).owner ≠ -1 then some n else none := by
      unfold frAt
      by_cases ho : (l.getD n default).owner = -1
      · rw [if_neg (by rw [Int.toNat_natCast]; exact fun h => h.2.2 ho), if_neg (fun h => h ho)]
      · rw [if_pos ⟨hi.1, hi.2, by rw [Int.toNat_natCast]; exact ho⟩, if_pos ho, Int.toNat_natCast]
    rw [hf]
    obtain ⟨c0, -, -, -⟩ := h.cells n hn
    have hni : (n : Int) < (l.length : Int) := by omega
    have hn0 : ¬ (n : Int) < 0 := by omega
    have hn2 : ¬ (l.length : Int) ≤ (n : Int) := by omega
    by_cases ho : (l.getD n default).owner = -1
    · rw [if_neg (fun h => h ho)]
      rw [ho] at c0
      dsimp only
      clear h hi hf ho
      go_enter Tryd.func87, Tryd.ntmps87
      go_wp2
      go_ret
      exact ⟨rfl, rfl⟩
    · rw [if_pos ho]
      dsimp only
      have ho' : ((l.getD n default).owner == -1) = false := by simpa using ho
      obtain ⟨o, hoo⟩ : ∃ o, (l.getD n default).owner = o := ⟨_, rfl⟩
      rw [hoo] at c0 ho' ⊢
      by_cases hw : o = who
      · subst hw
        rw [if_pos rfl]
        clear h hi hf ho hoo
        go_enter Tryd.func87, Tryd.ntmps87
        go_wp2
        go_ret
        exact ⟨rfl, rfl⟩
      · rw [if_neg hw]
        have hw' : (o == who) = false := by simp [hw]
        clear h hi hf ho hoo hw
        go_enter Tryd.func87, Tryd.ntmps87
        go_wp2
        go_ret
        exact ⟨rfl, rfl⟩
  · have hf : frAt l i = none := by
      unfold frAt
      rw [if_neg (fun h => hi ⟨h.1, h.2.1⟩)]
    rw [hf]
    dsimp only
    have hc : i < 0 ∨ (¬ i < 0 ∧ (l.length : Int) ≤ i) := by omega
    clear h hi hf
    rcases hc with h1 | ⟨h1, h2⟩
    all_goals
      go_enter Tryd.func87, Tryd.ntmps87
      go_wp2
      go_ret
      exact ⟨rfl, rfl⟩

set_option maxRecDepth 100000 in
set_option maxHeartbeats 1600000 in
theorem rthere_any (l : List Fr) (b g cap : Nat) (i : Int) (w : World) (h : FrAt 54 51 w b g cap l) :
    Calls Tryd.prog 88 #[.pointer (some ⟨b, 0, none⟩), .int .i64 i] w fun e w' => e = .returned (.bool (frAt l i).isSome) ∧ w = w' := by
  have c := h.hdr
  by_cases hi : 0 ≤ i ∧ i < l.length
  · obtain ⟨n, rfl⟩ := Int.eq_ofNat_of_zero_le hi.1
    have hn : n < l.length := by omega
    have hf : frAt l (n : Int) = if (l.getD n default).owner ≠ -1 then some n else none := by
      unfold frAt
      by_cases ho : (l.getD n default).owner = -1
      · rw [if_neg (by rw [Int.toNat_natCast]; exact fun h => h.2.2 ho), if_neg (fun h => h ho)]
      · rw [if_pos ⟨hi.1, hi.2, by rw [Int.toNat_natCast]; exact ho⟩, if_pos ho, Int.toNat_natCast]
    rw [hf]
    obtain ⟨c0, -, -, -⟩ := h.cells n hn
    have hni : (n : Int) < (l.length : Int) := by omega
    have hn0 : (0 : Int) ≤ (n : Int) := by omega
    by_cases ho : (l.getD n default).owner = -1
    · rw [if_neg (fun h => h ho)]
      rw [ho] at c0
      clear h hi hf ho
      go_enter Tryd.func88, Tryd.ntmps88
      go_wp2
      go_ret
      exact ⟨rfl, rfl⟩
    · rw [if_pos ho]
      have ho' : ((l.getD n default).owner == -1) = false := by simpa using ho
      obtain ⟨o, hoo⟩ : ∃ o, (l.getD n default).owner = o := ⟨_, rfl⟩
      rw [hoo] at c0 ho'
      have HO := Lib.hid ho'
      clear h hi hf ho hoo
      go_enter Tryd.func88, Tryd.ntmps88
      go_wp2
      go_ret
      exact ⟨ret_bool (by simpa using HO.out), rfl⟩
  · have hf : frAt l i = none := by
      unfold frAt
      rw [if_neg (fun h => hi ⟨h.1, h.2.1⟩)]
    rw [hf]
    have hc : ¬ 0 ≤ i ∨ (0 ≤ i ∧ ¬ i < (l.length : Int)) := by omega
    clear h hi hf
    rcases hc with h1 | ⟨h1, h2⟩
    all_goals
      go_enter Tryd.func88, Tryd.ntmps88
      go_wp2
      go_ret
      exact ⟨rfl, rfl⟩

set_option maxRecDepth 100000 in
set_option maxHeartbeats 3200000 in
theorem rfree_any (l : List Fr) (b g cap : Nat) (i who : Int) (w : World) (h : FrAt 54 51 w b g cap l) :
    Calls Tryd.prog 54 #[.pointer (some ⟨b, 0, none⟩), .int .i64 i, .int .i64 who] w (FrN 54 51 b g cap (frMine l i who kFree) w) := by
  have HT := Lib.hid (rmine_any l b g cap i who w h)
  have HRL := Lib.hid h
  unfold FrN
  obtain ⟨R, hR⟩ : ∃ R, frMine l i who kFree = R := ⟨_, rfl⟩
  rw [hR]
  unfold frMine at hR
  unfold frOwnC at HT
  cases hN : frAt l i with
  | none =>
    rw [hN] at HT hR
    dsimp only [Option.isSome] at HT hR
    subst hR
    clear h hN
    go_enter Tryd.func54, Tryd.ntmps54
    go_wp2_with fail
    refine HT.out.mono ?_
    rintro e w1 ⟨rfl, rfl⟩
    go_wp2
    go_ret
    exact ⟨rfl, HRL.out, Only.refl _ _⟩
  | some n =>
    obtain ⟨rfl, hn, ho⟩ := frAt_some hN
    rw [hN] at HT hR
    dsimp only [Option.isSome] at HT hR
    have hni : (n : Int) < (l.length : Int) := by omega
    have hn0 : (0 : Int) ≤ (n : Int) := by omega
    have HF : Hid (∀ wx, Below w.heap.size w wx → FrAt 54 51 wx b g cap l ∧ wx.cell? ⟨b, 0, none⟩ = some (.slice (some ⟨g, 0, none⟩) l.length cap) ∧ wx.cell? ⟨g, n * 4, none⟩ = some (.int .i64 (l.getD n default).owner) ∧ wx.cell? ⟨g, n * 4 + 1, none⟩ = some (.int .i64 (l.getD n default).kind) ∧ wx.cell? ⟨g, n * 4 + 2, none⟩ = some (.int .i64 (l.getD n default).wr) ∧ wx.cell? ⟨g, n * 4 + 3, none⟩ = some (.int .i64 (l.getD n default).us) ∧ (∀ o, wx.frozen? ⟨g, o, none⟩ = false) ∧ g < wx.heap.size ∧ b < wx.heap.size) := Lib.hid fun wx hx => ⟨h.below hx, (h.below hx).hdr, ((h.below hx).cells n hn).1, ((h.below hx).cells n hn).2.1, ((h.below hx).cells n hn).2.2.1, ((h.below hx).cells n hn).2.2.2, fun o => (h.below hx).free o, (h.below hx).lt.2, (h.below hx).lt.1⟩
    obtain ⟨⟨x0, x1, x2, x3⟩, hx⟩ : ∃ x, l.getD n default = x := ⟨_, rfl⟩
    rw [hx] at HF HT hR
    have HX := Lib.hid hx
    have HN := Lib.hid hn
    dsimp only at HF HT hR
    clear h hN ho hx hn
    by_cases hw : x0 = who
    · subst hw
      rw [if_pos rfl] at HT hR
      by_cases h2 : 0 < x2
      · rw [show kFree ⟨x0, x1, x2, x3⟩ = (⟨x0, x1, x2, x3⟩, 112) from if_pos (.inl h2)] at hR
        subst hR
        obtain ⟨HF1, c, c0, c1, c2, c3, fz, lg, lb⟩ := HF.out _ (Below.refl _ w)
        have HF1 := Lib.hid HF1
        have f0 := fz (n * 4)
        have f1 := fz (n * 4 + 1)
        have f2 := fz (n * 4 + 2)
        have f3 := fz (n * 4 + 3)
        clear fz
        go_enter Tryd.func54, Tryd.ntmps54
        go_wp2_with fail
        refine HT.out.mono ?_
        rintro e w1 ⟨rfl, rfl⟩
        go_wp2
        go_ret
        refine ⟨rfl, ?_, Only.refl _ _⟩
        rw [show l.set n _ = l from by rw [← HX.out]; exact fr_set_same l n HN.out]
        exact HF1.out
      · by_cases h3 : 0 < x3
        · rw [show kFree ⟨x0, x1, x2, x3⟩ = (⟨x0, x1, x2, x3⟩, 112) from if_pos (.inr h3)] at hR
          subst hR
          obtain ⟨HF1, c, c0, c1, c2, c3, fz, lg, lb⟩ := HF.out _ (Below.refl _ w)
          have HF1 := Lib.hid HF1
          have f0 := fz (n * 4)
          have f1 := fz (n * 4 + 1)
          have f2 := fz (n * 4 + 2)
          have f3 := fz (n * 4 + 3)
          clear fz
          go_enter Tryd.func54, Tryd.ntmps54
          go_wp2_with fail
          refine HT.out.mono ?_
          rintro e w1 ⟨rfl, rfl⟩
          go_wp2
          go_ret
          refine ⟨rfl, ?_, Only.refl _ _⟩
          rw [show l.set n _ = l from by rw [← HX.out]; exact fr_set_same l n HN.out]
          exact HF1.out
        · rw [show kFree ⟨x0, x1, x2, x3⟩ = (frNo, 0) from if_neg (by show ¬ (0 < x2 ∨ 0 < x3); omega)] at hR
          subst hR
          obtain ⟨HF1, c, c0, c1, c2, c3, fz, lg, lb⟩ := HF.out _ (Below.refl _ w)
          have HF1 := Lib.hid HF1
          have f0 := fz (n * 4)
          have f1 := fz (n * 4 + 1)
          have f2 := fz (n * 4 + 2)
          have f3 := fz (n * 4 + 3)
          clear fz
          go_enter Tryd.func54, Tryd.ntmps54
          go_wp2_with fail
          refine HT.out.mono ?_
          rintro e w1 ⟨rfl, rfl⟩
          go_wp2
          go_ret
          refine ⟨rfl, ?_, ?_⟩
          · first | exact FrAt.put0x HF1.out HX.out HN.out _ | exact HF1.out.putAll (n := n) HN.out frNo
          · repeat (first | exact Only.refl _ _ | refine only_set ?_ _ _)
    · rw [if_neg hw] at HT hR
      subst hR
      clear hw
      go_enter Tryd.func54, Tryd.ntmps54
      go_wp2_with fail
      refine HT.out.mono ?_
      rintro e w1 ⟨rfl, rfl⟩
      go_wp2
      go_ret
      exact ⟨rfl, HRL.out, Only.refl _ _⟩

set_option maxRecDepth 100000 in
set_option maxHeartbeats 3200000 in
theorem rplain_any (l : List Fr) (b g cap : Nat) (i who : Int) (w : World) (h : FrAt 54 51 w b g cap l) :
    Calls Tryd.prog 56 #[.pointer (some ⟨b, 0, none⟩), .int .i64 i, .int .i64 who] w (FrN 54 51 b g cap (frMine l i who kPlain) w) := by
  have HT := Lib.hid (rmine_any l b g cap i who w h)
  have HRL := Lib.hid h
  unfold FrN
  obtain ⟨R, hR⟩ : ∃ R, frMine l i who kPlain = R := ⟨_, rfl⟩
  rw [hR]
  unfold frMine at hR
  unfold frOwnC at HT
  cases hN : frAt l i with
  | none =>
    rw [hN] at HT hR
    dsimp only [Option.isSome] at HT hR
    subst hR
    clear h hN
    go_enter Tryd.func56, Tryd.ntmps56
    go_wp2_with fail
    refine HT.out.mono ?_
    rintro e w1 ⟨rfl, rfl⟩
    go_wp2
    go_ret
    exact ⟨rfl, HRL.out, Only.refl _ _⟩
  | some n =>
    obtain ⟨rfl, hn, ho⟩ := frAt_some hN
    rw [hN] at HT hR
    dsimp only [Option.isSome] at HT hR
    have hni : (n : Int) < (l.length : Int) := by omega
    have hn0 : (0 : Int) ≤ (n : Int) := by omega
    have HF : Hid (∀ wx, Below w.heap.size w wx → FrAt 54 51 wx b g cap l ∧ wx.cell? ⟨b, 0, none⟩ = some (.slice (some ⟨g, 0, none⟩) l.length cap) ∧ wx.cell? ⟨g, n * 4, none⟩ = some (.int .i64 (l.getD n default).owner) ∧ wx.cell? ⟨g, n * 4 + 1, none⟩ = some (.int .i64 (l.getD n default).kind) ∧ wx.cell? ⟨g, n * 4 + 2, none⟩ = some (.int .i64 (l.getD n default).wr) ∧ wx.cell? ⟨g, n * 4 + 3, none⟩ = some (.int .i64 (l.getD n default).us) ∧ (∀ o, wx.frozen? ⟨g, o, none⟩ = false) ∧ g < wx.heap.size ∧ b < wx.heap.size) := Lib.hid fun wx hx => ⟨h.below hx, (h.below hx).hdr, ((h.below hx).cells n hn).1, ((h.below hx).cells n hn).2.1, ((h.below hx).cells n hn).2.2.1, ((h.below hx).cells n hn).2.2.2, fun o => (h.below hx).free o, (h.below hx).lt.2, (h.below hx).lt.1⟩
    obtain ⟨⟨x0, x1, x2, x3⟩, hx⟩ : ∃ x, l.getD n default = x := ⟨_, rfl⟩
    rw [hx] at HF HT hR
    have HX := Lib.hid hx
    have HN := Lib.hid hn
    dsimp only at HF HT hR
    clear h hN ho hx hn
    by_cases hw : x0 = who
    · subst hw
      rw [if_pos rfl] at HT hR
      by_cases h1 : x1 = 0
      · subst h1
        rw [show kPlain ⟨x0, 0, x2, x3⟩ = (⟨x0, 0, x2, x3⟩, 111) from if_pos rfl] at hR
        subst hR
        obtain ⟨HF1, c, c0, c1, c2, c3, fz, lg, lb⟩ := HF.out _ (Below.refl _ w)
        have HF1 := Lib.hid HF1
        have f0 := fz (n * 4)
        have f1 := fz (n * 4 + 1)
        have f2 := fz (n * 4 + 2)
        have f3 := fz (n * 4 + 3)
        clear fz
        go_enter Tryd.func56, Tryd.ntmps56
        go_wp2_with fail
        refine HT.out.mono ?_
        rintro e w1 ⟨rfl, rfl⟩
        go_wp2
        go_ret
        refine ⟨rfl, ?_, Only.refl _ _⟩
        rw [show l.set n _ = l from by rw [← HX.out]; exact fr_set_same l n HN.out]
        exact HF1.out
      · by_cases h3 : 0 < x3
        · have h1' : (x1 == 0) = false := by simp [h1]
          rw [show kPlain ⟨x0, x1, x2, x3⟩ = (⟨x0, x1, x2, x3⟩, 112) from by unfold kPlain; rw [if_neg h1, if_pos h3]] at hR
          clear h1
          subst hR
          obtain ⟨HF1, c, c0, c1, c2, c3, fz, lg, lb⟩ := HF.out _ (Below.refl _ w)
          have HF1 := Lib.hid HF1
          have f0 := fz (n * 4)
          have f1 := fz (n * 4 + 1)
          have f2 := fz (n * 4 + 2)
          have f3 := fz (n * 4 + 3)
          clear fz
          go_enter Tryd.func56, Tryd.ntmps56
          go_wp2_with fail
          refine HT.out.mono ?_
          rintro e w1 ⟨rfl, rfl⟩
          go_wp2
          go_ret
          refine ⟨rfl, ?_, Only.refl _ _⟩
          rw [show l.set n _ = l from by rw [← HX.out]; exact fr_set_same l n HN.out]
          exact HF1.out
        · have h1' : (x1 == 0) = false := by simp [h1]
          rw [show kPlain ⟨x0, x1, x2, x3⟩ = (⟨x0, 0, x2, x3⟩, 0) from by unfold kPlain; rw [if_neg h1, if_neg h3]] at hR
          clear h1
          subst hR
          obtain ⟨HF1, c, c0, c1, c2, c3, fz, lg, lb⟩ := HF.out _ (Below.refl _ w)
          have HF1 := Lib.hid HF1
          have f0 := fz (n * 4)
          have f1 := fz (n * 4 + 1)
          have f2 := fz (n * 4 + 2)
          have f3 := fz (n * 4 + 3)
          clear fz
          go_enter Tryd.func56, Tryd.ntmps56
          go_wp2_with fail
          refine HT.out.mono ?_
          rintro e w1 ⟨rfl, rfl⟩
          go_wp2
          go_ret
          refine ⟨rfl, ?_, ?_⟩
          · first | exact FrAt.put1x HF1.out HX.out HN.out _ | exact HF1.out.putAll (n := n) HN.out frNo
          · repeat (first | exact Only.refl _ _ | refine only_set ?_ _ _)
    · rw [if_neg hw] at HT hR
      subst hR
      clear hw
      go_enter Tryd.func56, Tryd.ntmps56
      go_wp2_with fail
      refine HT.out.mono ?_
      rintro e w1 ⟨rfl, rfl⟩
      go_wp2
      go_ret
      exact ⟨rfl, HRL.out, Only.refl _ _⟩

set_option maxRecDepth 100000 in
set_option maxHeartbeats 3200000 in
theorem rmake1 (l : List Fr) (b g cap : Nat) (i who : Int) (w : World) (h : FrAt 54 51 w b g cap l) :
    Calls Tryd.prog 55 #[.pointer (some ⟨b, 0, none⟩), .int .i64 i, .int .i64 who, .int .i64 1] w (FrN 54 51 b g cap (frMine l i who (kMake 1)) w) := by
  have HT := Lib.hid (rmine_any l b g cap i who w h)
  have HRL := Lib.hid h
  unfold FrN
  obtain ⟨R, hR⟩ : ∃ R, frMine l i who (kMake 1) = R := ⟨_, rfl⟩
  rw [hR]
  unfold frMine at hR
  unfold frOwnC at HT
  cases hN : frAt l i with
  | none =>
    rw [hN] at HT hR
    dsimp only [Option.isSome] at HT hR
    subst hR
    clear h hN
    go_enter Tryd.func55, Tryd.ntmps55
    go_wp2_with fail
    refine HT.out.mono ?_
    rintro e w1 ⟨rfl, rfl⟩
    go_wp2
    go_ret
    exact ⟨rfl, HRL.out, Only.refl _ _⟩
  | some n =>
    obtain ⟨rfl, hn, ho⟩ := frAt_some hN
    rw [hN] at HT hR
    dsimp only [Option.isSome] at HT hR
    have hni : (n : Int) < (l.length : Int) := by omega
    have hn0 : (0 : Int) ≤ (n : Int) := by omega
    have HF : Hid (∀ wx, Below w.heap.size w wx → FrAt 54 51 wx b g cap l ∧ wx.cell? ⟨b, 0, none⟩ = some (.slice (some ⟨g, 0, none⟩) l.length cap) ∧ wx.cell? ⟨g, n * 4, none⟩ = some (.int .i64 (l.getD n default).owner) ∧ wx.cell? ⟨g, n * 4 + 1, none⟩ = some (.int .i64 (l.getD n default).kind) ∧ wx.cell? ⟨g, n * 4 + 2, none⟩ = some (.int .i64 (l.getD n default).wr) ∧ wx.cell? ⟨g, n * 4 + 3, none⟩ = some (.int .i64 (l.getD n default).us) ∧ (∀ o, wx.frozen? ⟨g, o, none⟩ = false) ∧ g < wx.heap.size ∧ b < wx.heap.size) := Lib.hid fun wx hx => ⟨h.below hx, (h.below hx).hdr, ((h.below hx).cells n hn).1, ((h.below hx).cells n hn).2.1, ((h.below hx).cells n hn).2.2.1, ((h.below hx).cells n hn).2.2.2, fun o => (h.below hx).free o, (h.below hx).lt.2, (h.below hx).lt.1⟩
    obtain ⟨⟨x0, x1, x2, x3⟩, hx⟩ : ∃ x, l.getD n default = x := ⟨_, rfl⟩
    rw [hx] at HF HT hR
    have HX := Lib.hid hx
    have HN := Lib.hid hn
    dsimp only at HF HT hR
    clear h hN ho hx hn
    by_cases hw : x0 = who
    · subst hw
      rw [if_pos rfl] at HT hR
      by_cases h1 : x1 = 0
      · by_cases h2 : 0 < x2
        · subst h1
          rw [show kMake 1 ⟨x0, 0, x2, x3⟩ = (⟨x0, 0, x2, x3⟩, 112) from by unfold kMake; rw [if_neg (fun h => h rfl), if_pos (.inl h2)]] at hR
          subst hR
          obtain ⟨HF1, c, c0, c1, c2, c3, fz, lg, lb⟩ := HF.out _ (Below.refl _ w)
          have HF1 := Lib.hid HF1
          have f0 := fz (n * 4)
          have f1 := fz (n * 4 + 1)
          have f2 := fz (n * 4 + 2)
          have f3 := fz (n * 4 + 3)
          clear fz
          go_enter Tryd.func55, Tryd.ntmps55
          go_wp2_with fail
          refine HT.out.mono ?_
          rintro e w1 ⟨rfl, rfl⟩
          go_wp2
          go_ret
          refine ⟨rfl, ?_, Only.refl _ _⟩
          rw [show l.set n _ = l from by rw [← HX.out]; exact fr_set_same l n HN.out]
          exact HF1.out
        · by_cases h3 : 0 < x3
          · subst h1
            rw [show kMake 1 ⟨x0, 0, x2, x3⟩ = (⟨x0, 0, x2, x3⟩, 112) from by unfold kMake; rw [if_neg (fun h => h rfl), if_pos (.inr h3)]] at hR
            subst hR
            obtain ⟨HF1, c, c0, c1, c2, c3, fz, lg, lb⟩ := HF.out _ (Below.refl _ w)
            have HF1 := Lib.hid HF1
            have f0 := fz (n * 4)
            have f1 := fz (n * 4 + 1)
            have f2 := fz (n * 4 + 2)
            have f3 := fz (n * 4 + 3)
            clear fz
            go_enter Tryd.func55, Tryd.ntmps55
            go_wp2_with fail
            refine HT.out.mono ?_
            rintro e w1 ⟨rfl, rfl⟩
            go_wp2
            go_ret
            refine ⟨rfl, ?_, Only.refl _ _⟩
            rw [show l.set n _ = l from by rw [← HX.out]; exact fr_set_same l n HN.out]
            exact HF1.out
          · subst h1
            rw [show kMake 1 ⟨x0, 0, x2, x3⟩ = (⟨x0, 1, x2, x3⟩, 0) from by unfold kMake; rw [if_neg (fun h => h rfl), if_neg (by show ¬ (0 < x2 ∨ 0 < x3); omega)]] at hR
            subst hR
            obtain ⟨HF1, c, c0, c1, c2, c3, fz, lg, lb⟩ := HF.out _ (Below.refl _ w)
            have HF1 := Lib.hid HF1
            have f0 := fz (n * 4)
            have f1 := fz (n * 4 + 1)
            have f2 := fz (n * 4 + 2)
            have f3 := fz (n * 4 + 3)
            clear fz
            go_enter Tryd.func55, Tryd.ntmps55
            go_wp2_with fail
            refine HT.out.mono ?_
            rintro e w1 ⟨rfl, rfl⟩
            go_wp2
            go_ret
            refine ⟨rfl, ?_, ?_⟩
            · first | exact FrAt.put1x HF1.out HX.out HN.out _ | exact HF1.out.putAll (n := n) HN.out frNo
            · repeat (first | exact Only.refl _ _ | refine only_set ?_ _ _)
      · have h1' : (x1 == 0) = false := by simp [h1]
        rw [show kMake 1 ⟨x0, x1, x2, x3⟩ = (⟨x0, x1, x2, x3⟩, 111) from by unfold kMake; rw [if_pos h1]] at hR
        clear h1
        subst hR
        obtain ⟨HF1, c, c0, c1, c2, c3, fz, lg, lb⟩ := HF.out _ (Below.refl _ w)
        have HF1 := Lib.hid HF1
        have f0 := fz (n * 4)
        have f1 := fz (n * 4 + 1)
        have f2 := fz (n * 4 + 2)
        have f3 := fz (n * 4 + 3)
        clear fz
        go_enter Tryd.func55, Tryd.ntmps55
        go_wp2_with fail
        refine HT.out.mono ?_
        rintro e w1 ⟨rfl, rfl⟩
        go_wp2
        go_ret
        refine ⟨rfl, ?_, Only.refl _ _⟩
        rw [show l.set n _ = l from by rw [← HX.out]; exact fr_set_same l n HN.out]
        exact HF1.out
    · rw [if_neg hw] at HT hR
      subst hR
      clear hw
      go_enter Tryd.func55, Tryd.ntmps55
      go_wp2_with fail
      refine HT.out.mono ?_
      rintro e w1 ⟨rfl, rfl⟩
      go_wp2
      go_ret
      exact ⟨rfl, HRL.out, Only.refl _ _⟩

set_option maxRecDepth 100000 in
set_option maxHeartbeats 3200000 in
theorem rmake2 (l : List Fr) (b g cap : Nat) (i who : Int) (w : World) (h : FrAt 54 51 w b g cap l) :
    Calls Tryd.prog 55 #[.pointer (some ⟨b, 0, none⟩), .int .i64 i, .int .i64 who, .int .i64 2] w (FrN 54 51 b g cap (frMine l i who (kMake 2)) w) := by
  have HT := Lib.hid (rmine_any l b g cap i who w h)
  have HRL := Lib.hid h
  unfold FrN
  obtain ⟨R, hR⟩ : ∃ R, frMine l i who (kMake 2) = R := ⟨_, rfl⟩
  rw [hR]
  unfold frMine at hR
  unfold frOwnC at HT
  cases hN : frAt l i with
  | none =>
    rw [hN] at HT hR
    dsimp only [Option.isSome] at HT hR
    subst hR
    clear h hN
    go_enter Tryd.func55, Tryd.ntmps55
    go_wp2_with fail
    refine HT.out.mono ?_
    rintro e w1 ⟨rfl, rfl⟩
    go_wp2
    go_ret
    exact ⟨rfl, HRL.out, Only.refl _ _⟩
  | some n =>
    obtain ⟨rfl, hn, ho⟩ := frAt_some hN
    rw [hN] at HT hR
    dsimp only [Option.isSome] at HT hR
    have hni : (n : Int) < (l.length : Int) := by omega
    have hn0 : (0 : Int) ≤ (n : Int) := by omega
    have HF : Hid (∀ wx, Below w.heap.size w wx → FrAt 54 51 wx b g cap l ∧ wx.cell? ⟨b, 0, none⟩ = some (.slice (some ⟨g, 0, none⟩) l.length cap) ∧ wx.cell? ⟨g, n * 4, none⟩ = some (.int .i64 (l.getD n default).owner) ∧ wx.cell? ⟨g, n * 4 + 1, none⟩ = some (.int .i64 (l.getD n default).kind) ∧ wx.cell? ⟨g, n * 4 + 2, none⟩ = some (.int .i64 (l.getD n default).wr) ∧ wx.cell? ⟨g, n * 4 + 3, none⟩ = some (.int .i64 (l.getD n default).us) ∧ (∀ o, wx.frozen? ⟨g, o, none⟩ = false) ∧ g < wx.heap.size ∧ b < wx.heap.size) := Lib.hid fun wx hx => ⟨h.below hx, (h.below hx).hdr, ((h.below hx).cells n hn).1, ((h.below hx).cells n hn).2.1, ((h.below hx).cells n hn).2.2.1, ((h.below hx).cells n hn).2.2.2, fun o => (h.below hx).free o, (h.below hx).lt.2, (h.below hx).lt.1⟩
    obtain ⟨⟨x0, x1, x2, x3⟩, hx⟩ : ∃ x, l.getD n default = x := ⟨_, rfl⟩
    rw [hx] at HF HT hR
    have HX := Lib.hid hx
    have HN := Lib.hid hn
    dsimp only at HF HT hR
    clear h hN ho hx hn
    by_cases hw : x0 = who
    · subst hw
      rw [if_pos rfl] at HT hR
      by_cases h1 : x1 = 0
      · by_cases h2 : 0 < x2
        · subst h1
          rw [show kMake 2 ⟨x0, 0, x2, x3⟩ = (⟨x0, 0, x2, x3⟩, 112) from by unfold kMake; rw [if_neg (fun h => h rfl), if_pos (.inl h2)]] at hR
          subst hR
          obtain ⟨HF1, c, c0, c1, c2, c3, fz, lg, lb⟩ := HF.out _ (Below.refl _ w)
          have HF1 := Lib.hid HF1
          have f0 := fz (n * 4)
          have f1 := fz (n * 4 + 1)
          have f2 := fz (n * 4 + 2)
          have f3 := fz (n * 4 + 3)
          clear fz
          go_enter Tryd.func55, Tryd.ntmps55
          go_wp2_with fail
          refine HT.out.mono ?_
          rintro e w1 ⟨rfl, rfl⟩
          go_wp2
          go_ret
          refine ⟨rfl, ?_, Only.refl _ _⟩
          rw [show l.set n _ = l from by rw [← HX.out]; exact fr_set_same l n HN.out]
          exact HF1.out
        · by_cases h3 : 0 < x3
          · subst h1
            rw [show kMake 2 ⟨x0, 0, x2, x3⟩ = (⟨x0, 0, x2, x3⟩, 112) from by unfold kMake; rw [if_neg (fun h => h rfl), if_pos (.inr h3)]] at hR
            subst hR
            obtain ⟨HF1, c, c0, c1, c2, c3, fz, lg, lb⟩ := HF.out _ (Below.refl _ w)
            have HF1 := Lib.hid HF1
            have f0 := fz (n * 4)
            have f1 := fz (n * 4 + 1)
            have f2 := fz (n * 4 + 2)
            have f3 := fz (n * 4 + 3)
            clear fz
            go_enter Tryd.func55, Tryd.ntmps55
            go_wp2_with fail
            refine HT.out.mono ?_
            rintro e w1 ⟨rfl, rfl⟩
            go_wp2
            go_ret
            refine ⟨rfl, ?_, Only.refl _ _⟩
            rw [show l.set n _ = l from by rw [← HX.out]; exact fr_set_same l n HN.out]
            exact HF1.out
          · subst h1
            rw [show kMake 2 ⟨x0, 0, x2, x3⟩ = (⟨x0, 2, x2, x3⟩, 0) from by unfold kMake; rw [if_neg (fun h => h rfl), if_neg (by show ¬ (0 < x2 ∨ 0 < x3); omega)]] at hR
            subst hR
            obtain ⟨HF1, c, c0, c1, c2, c3, fz, lg, lb⟩ := HF.out _ (Below.refl _ w)
            have HF1 := Lib.hid HF1
            have f0 := fz (n * 4)
            have f1 := fz (n * 4 + 1)
            have f2 := fz (n * 4 + 2)
            have f3 := fz (n * 4 + 3)
            clear fz
            go_enter Tryd.func55, Tryd.ntmps55
            go_wp2_with fail
            refine HT.out.mono ?_
            rintro e w1 ⟨rfl, rfl⟩
            go_wp2
            go_ret
            refine ⟨rfl, ?_, ?_⟩
            · first | exact FrAt.put1x HF1.out HX.out HN.out _ | exact HF1.out.putAll (n := n) HN.out frNo
            · repeat (first | exact Only.refl _ _ | refine only_set ?_ _ _)
      · have h1' : (x1 == 0) = false := by simp [h1]
        rw [show kMake 2 ⟨x0, x1, x2, x3⟩ = (⟨x0, x1, x2, x3⟩, 111) from by unfold kMake; rw [if_pos h1]] at hR
        clear h1
        subst hR
        obtain ⟨HF1, c, c0, c1, c2, c3, fz, lg, lb⟩ := HF.out _ (Below.refl _ w)
        have HF1 := Lib.hid HF1
        have f0 := fz (n * 4)
        have f1 := fz (n * 4 + 1)
        have f2 := fz (n * 4 + 2)
        have f3 := fz (n * 4 + 3)
        clear fz
        go_enter Tryd.func55, Tryd.ntmps55
        go_wp2_with fail
        refine HT.out.mono ?_
        rintro e w1 ⟨rfl, rfl⟩
        go_wp2
        go_ret
        refine ⟨rfl, ?_, Only.refl _ _⟩
        rw [show l.set n _ = l from by rw [← HX.out]; exact fr_set_same l n HN.out]
        exact HF1.out
    · rw [if_neg hw] at HT hR
      subst hR
      clear hw
      go_enter Tryd.func55, Tryd.ntmps55
      go_wp2_with fail
      refine HT.out.mono ?_
      rintro e w1 ⟨rfl, rfl⟩
      go_wp2
      go_ret
      exact ⟨rfl, HRL.out, Only.refl _ _⟩

set_option maxRecDepth 100000 in
set_option maxHeartbeats 3200000 in
theorem rwrite_any (l : List Fr) (b g cap : Nat) (i : Int) (w : World) (hI : ∀ n, n < l.length → (0 ≤ (l.getD n default).wr ∧ (l.getD n default).wr ≤ 1000000) ∧ (0 ≤ (l.getD n default).us ∧ (l.getD n default).us ≤ 1000000)) (h : FrAt 54 51 w b g cap l) :
    Calls Tryd.prog 57 #[.pointer (some ⟨b, 0, none⟩), .int .i64 i] w (FrN 54 51 b g cap (frThere l i kWrite) w) := by
  have HT := Lib.hid (rthere_any l b g cap i w h)
  have HRL := Lib.hid h
  unfold FrN
  obtain ⟨R, hR⟩ : ∃ R, frThere l i kWrite = R := ⟨_, rfl⟩
  rw [hR]
  unfold frThere at hR
  skip
  cases hN : frAt l i with
  | none =>
    rw [hN] at HT hR
    dsimp only [Option.isSome] at HT hR
    subst hR
    clear h hN
    go_enter Tryd.func57, Tryd.ntmps57
    go_wp2_with fail
    refine HT.out.mono ?_
    rintro e w1 ⟨rfl, rfl⟩
    go_wp2
    go_ret
    exact ⟨rfl, HRL.out, Only.refl _ _⟩
  | some n =>
    obtain ⟨rfl, hn, ho⟩ := frAt_some hN
    rw [hN] at HT hR
    dsimp only [Option.isSome] at HT hR
    have hni : (n : Int) < (l.length : Int) := by omega
    have hn0 : (0 : Int) ≤ (n : Int) := by omega
    have HF : Hid (∀ wx, Below w.heap.size w wx → FrAt 54 51 wx b g cap l ∧ wx.cell? ⟨b, 0, none⟩ = some (.slice (some ⟨g, 0, none⟩) l.length cap) ∧ wx.cell? ⟨g, n * 4, none⟩ = some (.int .i64 (l.getD n default).owner) ∧ wx.cell? ⟨g, n * 4 + 1, none⟩ = some (.int .i64 (l.getD n default).kind) ∧ wx.cell? ⟨g, n * 4 + 2, none⟩ = some (.int .i64 (l.getD n default).wr) ∧ wx.cell? ⟨g, n * 4 + 3, none⟩ = some (.int .i64 (l.getD n default).us) ∧ (∀ o, wx.frozen? ⟨g, o, none⟩ = false) ∧ g < wx.heap.size ∧ b < wx.heap.size) := Lib.hid fun wx hx => ⟨h.below hx, (h.below hx).hdr, ((h.below hx).cells n hn).1, ((h.below hx).cells n hn).2.1, ((h.below hx).cells n hn).2.2.1, ((h.below hx).cells n hn).2.2.2, fun o => (h.below hx).free o, (h.below hx).lt.2, (h.below hx).lt.1⟩
    have hin := Lib.hid (hI n hn)
    obtain ⟨⟨x0, x1, x2, x3⟩, hx⟩ : ∃ x, l.getD n default = x := ⟨_, rfl⟩
    rw [hx] at HF hR hin
    have HX := Lib.hid hx
    have HN := Lib.hid hn
    dsimp only at HF HT hR hin
    clear h hN ho hx hn
    by_cases h1 : x1 = 0
    · subst h1
      have hws := IntWalk.i64_in (x2 + 1) (by have := hin.out; omega)
      rw [show kWrite ⟨x0, 0, x2, x3⟩ = (⟨x0, 0, x2 + 1, x3⟩, 0) from by unfold kWrite; rw [if_neg (fun h => h rfl)]] at hR
      subst hR
      obtain ⟨HF1, c, c0, c1, c2, c3, fz, lg, lb⟩ := HF.out _ (Below.refl _ w)
      have HF1 := Lib.hid HF1
      have f0 := fz (n * 4)
      have f1 := fz (n * 4 + 1)
      have f2 := fz (n * 4 + 2)
      have f3 := fz (n * 4 + 3)
      clear fz
      go_enter Tryd.func57, Tryd.ntmps57
      go_wp2_with fail
      refine HT.out.mono ?_
      rintro e w1 ⟨rfl, rfl⟩
      go_wp2_with fail
      go_region
      all_goals
        go_wp2
        go_ret
        refine ⟨rfl, ?_, only_set (Only.refl _ _).drew _ _⟩
        exact FrAt.put2x (HF1.out.below (Below.refl _ _).drew) HX.out HN.out _
    · have h1' : (x1 == 0) = false := by simp [h1]
      rw [show kWrite ⟨x0, x1, x2, x3⟩ = (⟨x0, x1, x2, x3⟩, 111) from by unfold kWrite; rw [if_pos h1]] at hR
      clear h1
      subst hR
      obtain ⟨HF1, c, c0, c1, c2, c3, fz, lg, lb⟩ := HF.out _ (Below.refl _ w)
      have HF1 := Lib.hid HF1
      have f0 := fz (n * 4)
      have f1 := fz (n * 4 + 1)
      have f2 := fz (n * 4 + 2)
      have f3 := fz (n * 4 + 3)
      clear fz
      go_enter Tryd.func57, Tryd.ntmps57
      go_wp2_with fail
      refine HT.out.mono ?_
      rintro e w1 ⟨rfl, rfl⟩
      go_wp2
      go_ret
      refine ⟨rfl, ?_, Only.refl _ _⟩
      rw [show l.set n _ = l from by rw [← HX.out]; exact fr_set_same l n HN.out]
      exact HF1.out

set_option maxRecDepth 100000 in
set_option maxHeartbeats 3200000 in
theorem runwrite_any (l : List Fr) (b g cap : Nat) (i : Int) (w : World) (hI : ∀ n, n < l.length → (0 ≤ (l.getD n default).wr ∧ (l.getD n default).wr ≤ 1000000) ∧ (0 ≤ (l.getD n default).us ∧ (l.getD n default).us ≤ 1000000)) (h : FrAt 54 51 w b g cap l) :
    Calls Tryd.prog 58 #[.pointer (some ⟨b, 0, none⟩), .int .i64 i] w (FrN 54 51 b g cap (frThere l i kUnwrite) w) := by
  have HT := Lib.hid (rthere_any l b g cap i w h)
  have HRL := Lib.hid h
  unfold FrN
  obtain ⟨R, hR⟩ : ∃ R, frThere l i kUnwrite = R := ⟨_, rfl⟩
  rw [hR]
  unfold frThere at hR
  skip
  cases hN : frAt l i with
  | none =>
    rw [hN] at HT hR
    dsimp only [Option.isSome] at HT hR
    subst hR
    clear h hN
    go_enter Tryd.func58, Tryd.ntmps58
    go_wp2_with fail
    refine HT.out.mono ?_
    rintro e w1 ⟨rfl, rfl⟩
    go_wp2
    go_ret
    exact ⟨rfl, HRL.out, Only.refl _ _⟩
  | some n =>
    obtain ⟨rfl, hn, ho⟩ := frAt_some hN
    rw [hN] at HT hR
    dsimp only [Option.isSome] at HT hR
    have hni : (n : Int) < (l.length : Int) := by omega
    have hn0 : (0 : Int) ≤ (n : Int) := by omega
    have HF : Hid (∀ wx, Below w.heap.size w wx → FrAt 54 51 wx b g cap l ∧ wx.cell? ⟨b, 0, none⟩ = some (.slice (some ⟨g, 0, none⟩) l.length cap) ∧ wx.cell? ⟨g, n * 4, none⟩ = some (.int .i64 (l.getD n default).owner) ∧ wx.cell? ⟨g, n * 4 + 1, none⟩ = some (.int .i64 (l.getD n default).kind) ∧ wx.cell? ⟨g, n * 4 + 2, none⟩ = some (.int .i64 (l.getD n default).wr) ∧ wx.cell? ⟨g, n * 4 + 3, none⟩ = some (.int .i64 (l.getD n default).us) ∧ (∀ o, wx.frozen? ⟨g, o, none⟩ = false) ∧ g < wx.heap.size ∧ b < wx.heap.size) := Lib.hid fun wx hx => ⟨h.below hx, (h.below hx).hdr, ((h.below hx).cells n hn).1, ((h.below hx).cells n hn).2.1, ((h.below hx).cells n hn).2.2.1, ((h.below hx).cells n hn).2.2.2, fun o => (h.below hx).free o, (h.below hx).lt.2, (h.below hx).lt.1⟩
    have hin := Lib.hid (hI n hn)
    obtain ⟨⟨x0, x1, x2, x3⟩, hx⟩ : ∃ x, l.getD n default = x := ⟨_, rfl⟩
    rw [hx] at HF hR hin
    have HX := Lib.hid hx
    have HN := Lib.hid hn
    dsimp only at HF HT hR hin
    clear h hN ho hx hn
    by_cases h2 : x2 = 0
    · subst h2
      rw [show kUnwrite ⟨x0, x1, 0, x3⟩ = (⟨x0, x1, 0, x3⟩, 112) from by unfold kUnwrite; rw [if_pos rfl]] at hR
      subst hR
      obtain ⟨HF1, c, c0, c1, c2, c3, fz, lg, lb⟩ := HF.out _ (Below.refl _ w)
      have HF1 := Lib.hid HF1
      have f0 := fz (n * 4)
      have f1 := fz (n * 4 + 1)
      have f2 := fz (n * 4 + 2)
      have f3 := fz (n * 4 + 3)
      clear fz
      go_enter Tryd.func58, Tryd.ntmps58
      go_wp2_with fail
      refine HT.out.mono ?_
      rintro e w1 ⟨rfl, rfl⟩
      go_wp2
      go_ret
      refine ⟨rfl, ?_, Only.refl _ _⟩
      rw [show l.set n _ = l from by rw [← HX.out]; exact fr_set_same l n HN.out]
      exact HF1.out
    · have h2' : (x2 == 0) = false := by simp [h2]
      have hws := IntWalk.i64_in (x2 - 1) (by have := hin.out; omega)
      rw [show kUnwrite ⟨x0, x1, x2, x3⟩ = (⟨x0, x1, x2 - 1, x3⟩, 0) from by unfold kUnwrite; rw [if_neg h2]] at hR
      clear h2
      subst hR
      obtain ⟨HF1, c, c0, c1, c2, c3, fz, lg, lb⟩ := HF.out _ (Below.refl _ w)
      have HF1 := Lib.hid HF1
      have f0 := fz (n * 4)
      have f1 := fz (n * 4 + 1)
      have f2 := fz (n * 4 + 2)
      have f3 := fz (n * 4 + 3)
      clear fz
      go_enter Tryd.func58, Tryd.ntmps58
      go_wp2_with fail
      refine HT.out.mono ?_
      rintro e w1 ⟨rfl, rfl⟩
      go_wp2_with fail
      go_region
      all_goals
        go_wp2
        go_ret
        refine ⟨rfl, ?_, only_set (Only.refl _ _).drew _ _⟩
        exact FrAt.put2x (HF1.out.below (Below.refl _ _).drew) HX.out HN.out _

set_option maxRecDepth 100000 in
set_option maxHeartbeats 3200000 in
theorem ruse_any (l : List Fr) (b g cap : Nat) (i : Int) (w : World) (hI : ∀ n, n < l.length → (0 ≤ (l.getD n default).wr ∧ (l.getD n default).wr ≤ 1000000) ∧ (0 ≤ (l.getD n default).us ∧ (l.getD n default).us ≤ 1000000)) (h : FrAt 54 51 w b g cap l) :
    Calls Tryd.prog 59 #[.pointer (some ⟨b, 0, none⟩), .int .i64 i] w (FrN 54 51 b g cap (frThere l i kUse) w) := by
  have HT := Lib.hid (rthere_any l b g cap i w h)
  have HRL := Lib.hid h
  unfold FrN
  obtain ⟨R, hR⟩ : ∃ R, frThere l i kUse = R := ⟨_, rfl⟩
  rw [hR]
  unfold frThere at hR
  skip
  cases hN : frAt l i with
  | none =>
    rw [hN] at HT hR
    dsimp only [Option.isSome] at HT hR
    subst hR
    clear h hN
    go_enter Tryd.func59, Tryd.ntmps59
    go_wp2_with fail
    refine HT.out.mono ?_
    rintro e w1 ⟨rfl, rfl⟩
    go_wp2
    go_ret
    exact ⟨rfl, HRL.out, Only.refl _ _⟩
  | some n =>
    obtain ⟨rfl, hn, ho⟩ := frAt_some hN
    rw [hN] at HT hR
    dsimp only [Option.isSome] at HT hR
    have hni : (n : Int) < (l.length : Int) := by omega
    have hn0 : (0 : Int) ≤ (n : Int) := by omega
    have HF : Hid (∀ wx, Below w.heap.size w wx → FrAt 54 51 wx b g cap l ∧ wx.cell? ⟨b, 0, none⟩ = some (.slice (some ⟨g, 0, none⟩) l.length cap) ∧ wx.cell? ⟨g, n * 4, none⟩ = some (.int .i64 (l.getD n default).owner) ∧ wx.cell? ⟨g, n * 4 + 1, none⟩ = some (.int .i64 (l.getD n default).kind) ∧ wx.cell? ⟨g, n * 4 + 2, none⟩ = some (.int .i64 (l.getD n default).wr) ∧ wx.cell? ⟨g, n * 4 + 3, none⟩ = some (.int .i64 (l.getD n default).us) ∧ (∀ o, wx.frozen? ⟨g, o, none⟩ = false) ∧ g < wx.heap.size ∧ b < wx.heap.size) := Lib.hid fun wx hx => ⟨h.below hx, (h.below hx).hdr, ((h.below hx).cells n hn).1, ((h.below hx).cells n hn).2.1, ((h.below hx).cells n hn).2.2.1, ((h.below hx).cells n hn).2.2.2, fun o => (h.below hx).free o, (h.below hx).lt.2, (h.below hx).lt.1⟩
    have hin := Lib.hid (hI n hn)
    obtain ⟨⟨x0, x1, x2, x3⟩, hx⟩ : ∃ x, l.getD n default = x := ⟨_, rfl⟩
    rw [hx] at HF hR hin
    have HX := Lib.hid hx
    have HN := Lib.hid hn
    dsimp only at HF HT hR hin
    clear h hN ho hx hn
    have hws := IntWalk.i64_in (x3 + 1) (by have := hin.out; omega)
    rw [show kUse ⟨x0, x1, x2, x3⟩ = (⟨x0, x1, x2, x3 + 1⟩, 0) from rfl] at hR
    subst hR
    obtain ⟨HF1, c, c0, c1, c2, c3, fz, lg, lb⟩ := HF.out _ (Below.refl _ w)
    have HF1 := Lib.hid HF1
    have f0 := fz (n * 4)
    have f1 := fz (n * 4 + 1)
    have f2 := fz (n * 4 + 2)
    have f3 := fz (n * 4 + 3)
    clear fz
    go_enter Tryd.func59, Tryd.ntmps59
    go_wp2_with fail
    refine HT.out.mono ?_
    rintro e w1 ⟨rfl, rfl⟩
    go_wp2_with fail
    go_region
    all_goals
      go_wp2
      go_ret
      refine ⟨rfl, ?_, only_set (Only.refl _ _).drew _ _⟩
      exact FrAt.put3x (HF1.out.below (Below.refl _ _).drew) HX.out HN.out _

set_option maxRecDepth 100000 in
set_option maxHeartbeats 3200000 in
theorem runuse_any (l : List Fr) (b g cap : Nat) (i : Int) (w : World) (hI : ∀ n, n < l.length → (0 ≤ (l.getD n default).wr ∧ (l.getD n default).wr ≤ 1000000) ∧ (0 ≤ (l.getD n default).us ∧ (l.getD n default).us ≤ 1000000)) (h : FrAt 54 51 w b g cap l) :
    Calls Tryd.prog 60 #[.pointer (some ⟨b, 0, none⟩), .int .i64 i] w (FrN 54 51 b g cap (frThere l i kUnuse) w) := by
  have HT := Lib.hid (rthere_any l b g cap i w h)
  have HRL := Lib.hid h
  unfold FrN
  obtain ⟨R, hR⟩ : ∃ R, frThere l i kUnuse = R := ⟨_, rfl⟩
  rw [hR]
  unfold frThere at hR
  skip
  cases hN : frAt l i with
  | none =>
    rw [hN] at HT hR
    dsimp only [Option.isSome] at HT hR
    subst hR
    clear h hN
    go_enter Tryd.func60, Tryd.ntmps60
    go_wp2_with fail
    refine HT.out.mono ?_
    rintro e w1 ⟨rfl, rfl⟩
    go_wp2
    go_ret
    exact ⟨rfl, HRL.out, Only.refl _ _⟩
  | some n =>
    obtain ⟨rfl, hn, ho⟩ := frAt_some hN
    rw [hN] at HT hR
    dsimp only [Option.isSome] at HT hR
    have hni : (n : Int) < (l.length : Int) := by omega
    have hn0 : (0 : Int) ≤ (n : Int) := by omega
    have HF : Hid (∀ wx, Below w.heap.size w wx → FrAt 54 51 wx b g cap l ∧ wx.cell? ⟨b, 0, none⟩ = some (.slice (some ⟨g, 0, none⟩) l.length cap) ∧ wx.cell? ⟨g, n * 4, none⟩ = some (.int .i64 (l.getD n default).owner) ∧ wx.cell? ⟨g, n * 4 + 1, none⟩ = some (.int .i64 (l.getD n default).kind) ∧ wx.cell? ⟨g, n * 4 + 2, none⟩ = some (.int .i64 (l.getD n default).wr) ∧ wx.cell? ⟨g, n * 4 + 3, none⟩ = some (.int .i64 (l.getD n default).us) ∧ (∀ o, wx.frozen? ⟨g, o, none⟩ = false) ∧ g < wx.heap.size ∧ b < wx.heap.size) := Lib.hid fun wx hx => ⟨h.below hx, (h.below hx).hdr, ((h.below hx).cells n hn).1, ((h.below hx).cells n hn).2.1, ((h.below hx).cells n hn).2.2.1, ((h.below hx).cells n hn).2.2.2, fun o => (h.below hx).free o, (h.below hx).lt.2, (h.below hx).lt.1⟩
    have hin := Lib.hid (hI n hn)
    obtain ⟨⟨x0, x1, x2, x3⟩, hx⟩ : ∃ x, l.getD n default = x := ⟨_, rfl⟩
    rw [hx] at HF hR hin
    have HX := Lib.hid hx
    have HN := Lib.hid hn
    dsimp only at HF HT hR hin
    clear h hN ho hx hn
    by_cases h3 : x3 = 0
    · subst h3
      rw [show kUnuse ⟨x0, x1, x2, 0⟩ = (⟨x0, x1, x2, 0⟩, 112) from by unfold kUnuse; rw [if_pos rfl]] at hR
      subst hR
      obtain ⟨HF1, c, c0, c1, c2, c3, fz, lg, lb⟩ := HF.out _ (Below.refl _ w)
      have HF1 := Lib.hid HF1
      have f0 := fz (n * 4)
      have f1 := fz (n * 4 + 1)
      have f2 := fz (n * 4 + 2)
      have f3 := fz (n * 4 + 3)
      clear fz
      go_enter Tryd.func60, Tryd.ntmps60
      go_wp2_with fail
      refine HT.out.mono ?_
      rintro e w1 ⟨rfl, rfl⟩
      go_wp2
      go_ret
      refine ⟨rfl, ?_, Only.refl _ _⟩
      rw [show l.set n _ = l from by rw [← HX.out]; exact fr_set_same l n HN.out]
      exact HF1.out
    · have h3' : (x3 == 0) = false := by simp [h3]
      have hws := IntWalk.i64_in (x3 - 1) (by have := hin.out; omega)
      rw [show kUnuse ⟨x0, x1, x2, x3⟩ = (⟨x0, x1, x2, x3 - 1⟩, 0) from by unfold kUnuse; rw [if_neg h3]] at hR
      clear h3
      subst hR
      obtain ⟨HF1, c, c0, c1, c2, c3, fz, lg, lb⟩ := HF.out _ (Below.refl _ w)
      have HF1 := Lib.hid HF1
      have f0 := fz (n * 4)
      have f1 := fz (n * 4 + 1)
      have f2 := fz (n * 4 + 2)
      have f3 := fz (n * 4 + 3)
      clear fz
      go_enter Tryd.func60, Tryd.ntmps60
      go_wp2_with fail
      refine HT.out.mono ?_
      rintro e w1 ⟨rfl, rfl⟩
      go_wp2_with fail
      go_region
      all_goals
        go_wp2
        go_ret
        refine ⟨rfl, ?_, only_set (Only.refl _ _).drew _ _⟩
        exact FrAt.put3x (HF1.out.below (Below.refl _ _).drew) HX.out HN.out _

set_option maxHeartbeats 1600000 in
theorem rmake_any (l : List Fr) (b g cap : Nat) (i who kind : Int) (w : World) (h : FrAt 54 51 w b g cap l) :
    Calls Tryd.prog 55 #[.pointer (some ⟨b, 0, none⟩), .int .i64 i, .int .i64 who, .int .i64 kind] w (FrN 54 51 b g cap (frMake l i who kind) w) := by
  unfold frMake
  by_cases h1 : kind = 1
  · subst h1
    rw [if_pos (.inl rfl)]
    exact rmake1 l b g cap i who w h
  · by_cases h2 : kind = 2
    · subst h2
      rw [if_pos (.inr rfl)]
      exact rmake2 l b g cap i who w h
    · rw [if_neg (by omega)]
      have k1 : (kind != 1) = true := by simp; omega
      have k2 : (kind != 2) = true := by simp; omega
      have H := Lib.hid h
      clear h h1 h2
      unfold FrN
      dsimp only
      go_enter Tryd.func55, Tryd.ntmps55
      go_wp2
      go_ret
      exact ⟨rfl, H.out, Only.refl _ _⟩
end Go.Proofs.YtaoaachgnnengaaDoor

/-
  frames.Frames: Of: whose frames.
-/
namespace Go.Proofs.YtaoaachgnnengaaDoor
open Go.RowKit Go.Deep

theorem infoI64o : (Tryd.prog.info? 3).map (fun i => (i.zero, i.size, i.bytes)) = some (some (.int .i64 0), 1, 8) := by kernel_rfl
/-- the numbers of somebody's frames, of the first n -/
def frOf (l : List Fr) (who : Int) (n : Nat) : List Int := ((List.range n).filter fun i => decide ((l.getD i default).owner = who)).map Int.ofNat
theorem frOf_succ (l : List Fr) (who : Int) (n : Nat) : frOf l who (n + 1) = if (l.getD n default).owner = who then frOf l who n ++ [(n : Int)] else frOf l who n := by
  unfold frOf
  rw [List.range_succ, List.filter_append, List.map_append]
  by_cases h : (l.getD n default).owner = who
  · rw [if_pos h, List.filter_cons, if_pos (decide_eq_true h)]
    rfl
  · rw [if_neg h, List.filter_cons, if_neg (by rw [decide_eq_false h]; decide)]
    simp
theorem frOf_len (l : List Fr) (who : Int) (n : Nat) : (frOf l who n).length ≤ n := by
  unfold frOf
  rw [List.length_map]
  exact Nat.le_trans (List.length_filter_le _ _) (by simp)
/-- frames that can be read: a header in block b, the frames wherever -/
def FrRd (TB : TypeId) (w : World) (b : Nat) (ao : Option Addr) (cap : Nat) (l : List Fr) : Prop :=
  w.heap[b]? = some (.cells #[.slice ao l.length cap] TB (0, 0)) ∧ AtL w ao (frCells l) ∧ l.length ≤ cap
theorem FrRd.below {TB : TypeId} {w w' : World} {b cap : Nat} {ao : Option Addr} {l : List Fr} (h : FrRd TB w b ao cap l) (hb : Below w.heap.size w w') : FrRd TB w' b ao cap l :=
  ⟨(hb.block b (blk_lt h.1)).trans h.1, h.2.1.mono hb, h.2.2⟩
theorem FrAt.rd {TB TR : TypeId} {w : World} {b g cap : Nat} {l : List Fr} (h : FrAt TB TR w b g cap l) : FrRd TB w b (some ⟨g, 0, none⟩) cap l :=
  ⟨h.1, fun i v hi => ⟨g, 0, rfl, by rw [blk_cell h.2.1, Nat.zero_add, List.getElem?_toArray]; exact hi, blk_lt h.2.1⟩, h.2.2.2.1⟩
def OfTo (l : List Fr) (who : Int) (s : Nat) (w : World) (v i : Value) (wr : World) : Prop :=
  ∃ j : Nat, j ≤ l.length ∧ i = .int .i64 (j : Int) ∧ wr.ownsRow 0 3 1 v (frOf l who j).length (ints (frOf l who j)) ∧ (∀ k, inRow v k → s ≤ k) ∧ Below s w wr ∧ ∃ ao cap, v = .slice ao (frOf l who j).length cap
def OfPost (l : List Fr) (who : Int) (w : World) (e : Ending) (w' : World) : Prop :=
  ∃ v, e = .returned v ∧ w'.ownsRow 0 3 1 v (frOf l who l.length).length (ints (frOf l who l.length)) ∧ (∀ k, inRow v k → w.heap.size ≤ k) ∧ Below w.heap.size w w' ∧ ∃ ao cap, v = .slice ao (frOf l who l.length).length cap

set_option maxRecDepth 100000 in
set_option maxHeartbeats 4000000 in
theorem fof_any (l : List Fr) (b cap : Nat) (ao : Option Addr) (who : Int) (w : World) (hm : l.length ≤ 1024) (h : FrRd 95 w b ao cap l) :
    Calls Tryd.prog 18 #[.pointer (some ⟨b, 0, none⟩), .int .i64 who] w (OfPost l who w) := by
  obtain ⟨i0, hi, hz0, hz1, hz2⟩ := info_parts infoI64o
  have HF : Hid (∀ wx, Below w.heap.size w wx → FrRd 95 wx b ao cap l) := Lib.hid fun wx hx => h.below hx
  have HST : Hid (OfTo l who w.heap.size w (.slice none 0 0) (.int .i64 0) w) := Lib.hid ⟨0, Nat.zero_le _, rfl, own_nil _ _ _, fun k hk => by simp [inRow, Value.ownBlock] at hk, Below.refl _ _, none, 0, rfl⟩
  have c : w.cell? ⟨b, 0, none⟩ = some (.slice ao l.length cap) := blk_cell h.1 0
  have HLT : Hid (b < w.heap.size) := Lib.hid (blk_lt h.1)
  clear h
  go_enter Tryd.func18, Tryd.ntmps18
  go_wp2_with fail
  go_loopw [5, 13] (fun v i wr => OfTo l who w.heap.size w v i wr) (fun _ i _ => l.length - (intOf i).toNat)
  case atStart => exact HST.out
  case round =>
    obtain ⟨j, hj, rfl, hown, hfr, hb, ao', cap', rfl⟩ := hrel
    have HOWN := Lib.hid hown
    have HFR := Lib.hid hfr
    have HB := Lib.hid hb
    clear hown hfr hb HST c
    by_cases hlt : j < l.length
    · have hji : (j : Int) < (l.length : Int) := by omega
      have hl := (HF.out _ HB.out).2.1
      have get : ∀ k u, k < 4 → (frOne (l.getD j default))[k]? = some u → ∃ g off, ao = some ⟨g, off, none⟩ ∧ wr.cell? ⟨g, off + j * 4 + k, none⟩ = some u ∧ g < wr.heap.size := fun k u hk hu => by
        obtain ⟨g, off, e, hcc, hbb⟩ := hl (j * 4 + k) u ((rec_get frOne 4 frOne_len l j k hlt hk).trans hu)
        exact ⟨g, off, e, by rw [Nat.add_assoc]; exact hcc, hbb⟩
      obtain ⟨g, off, rfl, c0, hg⟩ := get 0 _ (by decide) rfl
      obtain ⟨_, _, e1, c1, -⟩ := get 1 _ (by decide) rfl
      cases e1
      obtain ⟨_, _, e2, c2, -⟩ := get 2 _ (by decide) rfl
      cases e2
      obtain ⟨_, _, e3, c3, -⟩ := get 3 _ (by decide) rfl
      cases e3
      rw [Nat.add_zero] at c0
      have HS := Lib.hid (frOf_succ l who j)
      have HLN := Lib.hid (frOf_len l who j)
      obtain ⟨⟨x0, x1, x2, x3⟩, hx⟩ : ∃ x, l.getD j default = x := ⟨_, rfl⟩
      rw [hx] at c0 c1 c2 c3 HS
      dsimp only at c0 c1 c2 c3 HS
      clear get hl hx
      by_cases ho : x0 = who
      · subst ho
        rw [if_pos rfl] at HS
        have HE1 : Hid (ints (frOf l x0 (j + 1)) = ints (frOf l x0 j) ++ [.int .i64 (j : Int)]) := Lib.hid (by rw [HS.out]; simp [ints])
        have HE2 : Hid ((frOf l x0 (j + 1)).length = (frOf l x0 j).length + 1) := Lib.hid (by rw [HS.out]; simp)
        have hdl := HLN.out
        go_wp2_with (at_builtin; refine wpList_append_sep _ rfl _ _ 37 rfl 3 i0 (.int .i64 0) 1 8 Tryd.underlying37 hi hz0 hz1 hz2 rfl (by decide) _ _ _ rfl ((HOWN.out.alloc _).alloc _) ⟨wr.heap.size + 1, 0, none⟩ 1 1 [.int .i64 (j : Int)] rfl rfl ?_ (by simp [Value.oneCell']) (by unfold maxLen; omega) (by omega) ?_)
        · intro k u hk
          rw [Addr.add_lit]
          have hbn := blk_new (wr.alloc (.cells #[.int .i64 x0, .int .i64 x1, .int .i64 x2, .int .i64 x3] 33)) (.cells #[.int .i64 (j : Int)] 3)
          rw [show (wr.alloc (.cells #[.int .i64 x0, .int .i64 x1, .int .i64 x2, .int .i64 x3] 33)).heap.size = wr.heap.size + 1 by simp] at hbn
          refine (blk_cell hbn (0 + k)).trans ?_
          rw [Nat.zero_add, List.getElem?_toArray]
          exact hk
        · intro v' w10 ho4 hg4 hs4
          obtain ⟨ao4, cap4, rfl⟩ := own_slice ho4
          rw [← HE1.out] at ho4
          have hw4 : Below w.heap.size w w10 := ((HB.out.alloc HB.out.size _).alloc (HB.out.alloc HB.out.size _).size _).grown hg4 (Nat.le_trans HB.out.size (by simp; omega)) (fun j hj => HFR.out j hj)
          have HF4 := Lib.hid (show ∀ k, inRow (.slice ao4 ((frOf l x0 j).length + 1) cap4) k → w.heap.size ≤ k from fun k hk => by
            rcases hs4 k hk with h | h
            · exact HFR.out k h
            · have := HB.out.size; omega)
          have HO4 := Lib.hid ho4
          have HW4 := Lib.hid hw4
          clear ho4 hg4 hs4 hw4
          go_wp2
          go_roundw
          case rel => exact ⟨j + 1, by omega, by go_num, by rw [HE2.out]; exact HO4.out, HF4.out, HW4.out, ao4, cap4, by rw [HE2.out]⟩
          case measure => simp [intOf]; omega
      · rw [if_neg ho] at HS
        have ho' : (x0 == who) = false := by simp [ho]
        clear ho
        go_wp2
        go_roundw
        case rel => exact ⟨j + 1, by omega, by go_num, by rw [HS.out]; exact HOWN.out.alloc _, HFR.out, HB.out.alloc HB.out.size _, ao', cap', by rw [HS.out]⟩
        case measure => simp [intOf]; omega
    · obtain rfl : j = l.length := by omega
      go_wp2
      go_ret
      exact ⟨_, rfl, HOWN.out, HFR.out, HB.out, _, _, rfl⟩
end Go.Proofs.YtaoaachgnnengaaDoor

