/-
  Parts of one proof, one behind the other.
-/
import Derived.Test.YtaoaachgnnengaaGreatDoorMg67c367e12d
import Derived.Test.YtaoaachgnnengaaGreatDoorMg46ad1761f3
import Derived.Test.YtaoaachgnnengaaGreatDoorMga85010b3ec
import Derived.Test.YtaoaachgnnengaaGreatDoorMga6fdb5c765
/-
  facaderef16.Frames: owner, mine, there; what frames are told.
-/
namespace Go.Proofs.YtaoaachgnnengaaGreatDoor
open Go.RowKit

theorem rowner_any (n : Int) (w : World) : Calls Tryz.prog 48 #[.int .i64 n] w fun e w' => e = .returned (.bool (decide (frOwns n))) ∧ w = w' := by
  by_cases h : frOwns n
  · rw [decide_eq_true h]
    have h' := h
    unfold frOwns at h'
    have hc : (0 ≤ n ∧ n < 8) ∨ n = 100 := h'
    clear h h'
    rcases hc with ⟨h1, h2⟩ | rfl
    all_goals
      go_enter Tryz.func48, Tryz.ntmps48
      go_wp2
      go_ret
      exact ⟨rfl, rfl⟩
  · rw [decide_eq_false h]
    have h' := h
    unfold frOwns at h'
    have hne : (n == 100) = false := by simp; omega
    have hc : ¬ 0 ≤ n ∨ (0 ≤ n ∧ ¬ n < 8) := by omega
    clear h h'
    rcases hc with h1 | ⟨h1, h2⟩
    all_goals
      go_enter Tryz.func48, Tryz.ntmps48
      go_wp2
      go_ret
      exact ⟨rfl, rfl⟩

set_option maxRecDepth 100000 in
set_option maxHeartbeats 1600000 in
theorem rmine_any (l : List Fr) (b g cap : Nat) (i who : Int) (w : World) (h : FrAt 75 72 w b g cap l) :
    Calls Tryz.prog 91 #[.pointer (some ⟨b, 0, none⟩), .int .i64 i, .int .i64 who] w fun e w' => e = .returned (.int .i64 (frOwnC l i who)) ∧ w = w' := by
  have c := h.hdr
  unfold frOwnC
  by_cases hi : 0 ≤ i ∧ i < l.length
  · obtain ⟨n, rfl⟩ := Int.eq_ofNat_of_zero_le hi.1
    have hn : n < l.length := by omega
    have hf : frAt l (n : Int) = if (l.getD n default).owner ≠ -1 then some n else none := by
      unfold frAt
      by_cases ho : (l.getD n default).owner = -1
      · rw [if_neg (by rw [Int.toNat_natCast]; exact fun h => h.2.2 ho), if_neg (fun h => h ho)]
      · rw [if_pos ⟨hi.1, hi.2, by rw [Int.toNat_natCast]; exact ho⟩, if_pos ho, Int.toNat_natCast]
    rw [hf]
    obtain ⟨c0, -, -, -⟩ := h.cells n hn
    have hni : (n : Int) < (l.length : Int) := by omega
    have hn0 : ¬ (n : Int) < 0 := by omega
    have hn2 : ¬ (l.length : Int) ≤ (n : Int) := by omega
    by_cases ho : (l.getD n default).owner = -1
    · rw [if_neg (fun h => h ho)]
      rw [ho] at c0
      dsimp only
      clear h hi hf ho
      go_enter Tryz.func91, Tryz.ntmps91
      go_wp2
      go_ret
      exact ⟨rfl, rfl⟩
    · rw [if_pos ho]
      dsimp only
      have ho' : ((l.getD n default).owner == -1) = false := by simpa using ho
      obtain ⟨o, hoo⟩ : ∃ o, (l.getD n default).owner = o := ⟨_, rfl⟩
      rw [hoo] at c0 ho' ⊢
      by_cases hw : o = who
      · subst hw
        rw [if_pos rfl]
        clear h hi hf ho hoo
        go_enter Tryz.func91, Tryz.ntmps91
        go_wp2
        go_ret
        exact ⟨rfl, rfl⟩
      · rw [if_neg hw]
        have hw' : (o == who) = false := by simp [hw]
        clear h hi hf ho hoo hw
        go_enter Tryz.func91, Tryz.ntmps91
        go_wp2
        go_ret
        exact ⟨rfl, rfl⟩
  · have hf : frAt l i = none := by
      unfold frAt
      rw [if_neg (fun h => hi ⟨h.1, h.2.1⟩)]
    rw [hf]
    dsimp only
    have hc : i < 0 ∨ (¬ i < 0 ∧ (l.length : Int) ≤ i) := by omega
    clear h hi hf
    rcases hc with h1 | ⟨h1, h2⟩
    all_goals
      go_enter Tryz.func91, Tryz.ntmps91
      go_wp2
      go_ret
      exact ⟨rfl, rfl⟩

set_option maxRecDepth 100000 in
set_option maxHeartbeats 1600000 in
theorem rthere_any (l : List Fr) (b g cap : Nat) (i : Int) (w : World) (h : FrAt 75 72 w b g cap l) :
    Calls Tryz.prog 73 #[.pointer (some ⟨b, 0, none⟩), .int .i64 i] w fun e w' => e = .returned (.bool (frAt l i).isSome) ∧ w = w' := by
  have c := h.hdr
  by_cases hi : 0 ≤ i ∧ i < l.length
  · obtain ⟨n, rfl⟩ := Int.eq_ofNat_of_zero_le hi.1
    have hn : n < l.length := by omega
    have hf : frAt l (n : Int) = if (l.getD n default).owner ≠ -1 then some n else none := by
      unfold frAt
      by_cases ho : (l.getD n default).owner = -1
      · rw [if_neg (by rw [Int.toNat_natCast]; exact fun h => h.2.2 ho), if_neg (fun h => h ho)]
      · rw [if_pos ⟨hi.1, hi.2, by rw [Int.toNat_natCast]; exact ho⟩, if_pos ho, Int.toNat_natCast]
    rw [hf]
    obtain ⟨c0, -, -, -⟩ := h.cells n hn
    have hni : (n : Int) < (l.length : Int) := by omega
    have hn0 : (0 : Int) ≤ (n : Int) := by omega
    by_cases ho : (l.getD n default).owner = -1
    · rw [if_neg (fun h => h ho)]
      rw [ho] at c0
      clear h hi hf ho
      go_enter Tryz.func73, Tryz.ntmps73
      go_wp2
      go_ret
      exact ⟨rfl, rfl⟩
    · rw [if_pos ho]
      have ho' : ((l.getD n default).owner == -1) = false := by simpa using ho
      obtain ⟨o, hoo⟩ : ∃ o, (l.getD n default).owner = o := ⟨_, rfl⟩
      rw [hoo] at c0 ho'
      have HO := Lib.hid ho'
      clear h hi hf ho hoo
      go_enter Tryz.func73, Tryz.ntmps73
      go_wp2
      go_ret
      exact ⟨ret_bool (by simpa using HO.out), rfl⟩
  · have hf : frAt l i = none := by
      unfold frAt
      rw [if_neg (fun h => hi ⟨h.1, h.2.1⟩)]
    rw [hf]
    have hc : ¬ 0 ≤ i ∨ (0 ≤ i ∧ ¬ i < (l.length : Int)) := by omega
    clear h hi hf
    rcases hc with h1 | ⟨h1, h2⟩
    all_goals
      go_enter Tryz.func73, Tryz.ntmps73
      go_wp2
      go_ret
      exact ⟨rfl, rfl⟩

set_option maxRecDepth 100000 in
set_option maxHeartbeats 3200000 in
theorem rfree_any (l : List Fr) (b g cap : Nat) (i who : Int) (w : World) (h : FrAt 75 72 w b g cap l) :
    Calls Tryz.prog 55 #[.pointer (some ⟨b, 0, none⟩), .int .i64 i, .int .i64 who] w (FrN 75 72 b g cap (frMine l i who kFree) w) := by
  have HT := Lib.hid (rmine_any l b g cap i who w h)
  have HRL := Lib.hid h
  unfold FrN
  obtain ⟨R, hR⟩ : ∃ R, frMine l i who kFree = R := ⟨_, rfl⟩
  rw [hR]
  unfold frMine at hR
  unfold frOwnC at HT
  cases hN : frAt l i with
  | none =>
    rw [hN] at HT hR
    dsimp only [Option.isSome] at HT hR
    subst hR
    clear h hN
    go_enter Tryz.func55, Tryz.ntmps55
    go_wp2_with fail
    refine HT.out.mono ?_
    rintro e w1 ⟨rfl, rfl⟩
    go_wp2
    go_ret
    exact ⟨rfl, HRL.out, Only.refl _ _⟩
  | some n =>
    obtain ⟨rfl, hn, ho⟩ := frAt_some hN
    rw [hN] at HT hR
    dsimp only [Option.isSome] at HT hR
    have hni : (n : Int) < (l.length : Int) := by omega
    have hn0 : (0 : Int) ≤ (n : Int) := by omega
    have HF : Hid (∀ wx, Below w.heap.size w wx → FrAt 75 72 wx b g cap l ∧ wx.cell? ⟨b, 0, none⟩ = some (.slice (some ⟨g, 0, none⟩) l.length cap) ∧ wx.cell? ⟨g, n * 4, none⟩ = some (.int .i64 (l.getD n default).owner) ∧ wx.cell? ⟨g, n * 4 + 1, none⟩ = some (.int .i64 (l.getD n default).kind) ∧ wx.cell? ⟨g, n * 4 + 2, none⟩ = some (.int .i64 (l.getD n default).wr) ∧ wx.cell? ⟨g, n * 4 + 3, none⟩ = some (.int .i64 (l.getD n default).us) ∧ (∀ o, wx.frozen? ⟨g, o, none⟩ = false) ∧ g < wx.heap.size ∧ b < wx.heap.size) := Lib.hid fun wx hx => ⟨h.below hx, (h.below hx).hdr, ((h.below hx).cells n hn).1, ((h.below hx).cells n hn).2.1, ((h.below hx).cells n hn).2.2.1, ((h.below hx).cells n hn).2.2.2, fun o => (h.below hx).free o, (h.below hx).lt.2, (h.below hx).lt.1⟩
    obtain ⟨⟨x0, x1, x2, x3⟩, hx⟩ : ∃ x, l.getD n default = x := ⟨_, rfl⟩
    rw [hx] at HF HT hR
    have HX := Lib.hid hx
    have HN := Lib.hid hn
    dsimp only at HF HT hR
    clear h hN ho hx hn
    by_cases hw : x0 = who
    · subst hw
      rw [if_pos rfl] at HT hR
      by_cases h2 : 0 < x2
      · rw [show kFree ⟨x0, x1, x2, x3⟩ = (⟨x0, x1, x2, x3⟩, 112) from if_pos (.inl h2)] at hR
        subst hR
        obtain ⟨HF1, c, c0, c1, c2, c3, fz, lg, lb⟩ := HF.out _ (Below.refl _ w)
        have HF1 := Lib.hid HF1
        have f0 := fz (n * 4)
        have f1 := fz (n * 4 + 1)
        have f2 := fz (n * 4 + 2)
        have f3 := fz (n * 4 + 3)
        clear fz
        go_enter Tryz.func55, Tryz.ntmps55
        go_wp2_with fail
        refine HT.out.mono ?_
        rintro e w1 ⟨rfl, rfl⟩
        go_wp2
        go_ret
        refine ⟨rfl, ?_, Only.refl _ _⟩
        rw [show l.set n _ = l from by rw [← HX.out]; exact fr_set_same l n HN.out]
        exact HF1.out
      · by_cases h3 : 0 < x3
        · rw [show kFree ⟨x0, x1, x2, x3⟩ = (⟨x0, x1, x2, x3⟩, 112) from if_pos (.inr h3)] at hR
          subst hR
          obtain ⟨HF1, c, c0, c1, c2, c3, fz, lg, lb⟩ := HF.out _ (Below.refl _ w)
          have HF1 := Lib.hid HF1
          have f0 := fz (n * 4)
          have f1 := fz (n * 4 + 1)
          have f2 := fz (n * 4 + 2)
          have f3 := fz (n * 4 + 3)
          clear fz
          go_enter Tryz.func55, Tryz.ntmps55
          go_wp2_with fail
          refine HT.out.mono ?_
          rintro e w1 ⟨rfl, rfl⟩
          go_wp2
          go_ret
          refine ⟨rfl, ?_, Only.refl _ _⟩
          rw [show l.set n _ = l from by rw [← HX.out]; exact fr_set_same l n HN.out]
          exact HF1.out
        · rw [show kFree ⟨x0, x1, x2, x3⟩ = (frNo, 0) from if_neg (by show ¬ (0 < x2 ∨ 0 < x3); omega)] at hR
          subst hR
          obtain ⟨HF1, c, c0, c1, c2, c3, fz, lg, lb⟩ := HF.out _ (Below.refl _ w)
          have HF1 := Lib.hid HF1
          have f0 := fz (n * 4)
          have f1 := fz (n * 4 + 1)
          have f2 := fz (n * 4 + 2)
          have f3 := fz (n * 4 + 3)
          clear fz
          go_enter Tryz.func55, Tryz.ntmps55
          go_wp2_with fail
          refine HT.out.mono ?_
          rintro e w1 ⟨rfl, rfl⟩
          go_wp2
          go_ret
          refine ⟨rfl, ?_, ?_⟩
          · first | exact FrAt.put0x HF1.out HX.out HN.out _ | exact HF1.out.putAll (n := n) HN.out frNo
          · repeat (first | exact Only.refl _ _ | refine only_set ?_ _ _)
    · rw [if_neg hw] at HT hR
      subst hR
      clear hw
      go_enter Tryz.func55, Tryz.ntmps55
      go_wp2_with fail
      refine HT.out.mono ?_
      rintro e w1 ⟨rfl, rfl⟩
      go_wp2
      go_ret
      exact ⟨rfl, HRL.out, Only.refl _ _⟩

set_option maxRecDepth 100000 in
set_option maxHeartbeats 3200000 in
theorem rmake1 (l : List Fr) (b g cap : Nat) (i who : Int) (w : World) (h : FrAt 75 72 w b g cap l) :
    Calls Tryz.prog 57 #[.pointer (some ⟨b, 0, none⟩), .int .i64 i, .int .i64 who, .int .i64 1] w (FrN 75 72 b g cap (frMine l i who (kMake 1)) w) := by
  have HT := Lib.hid (rmine_any l b g cap i who w h)
  have HRL := Lib.hid h
  unfold FrN
  obtain ⟨R, hR⟩ : ∃ R, frMine l i who (kMake 1) = R := ⟨_, rfl⟩
  rw [hR]
  unfold frMine at hR
  unfold frOwnC at HT
  cases hN : frAt l i with
  | none =>
    rw [hN] at HT hR
    dsimp only [Option.isSome] at HT hR
    subst hR
    clear h hN
    go_enter Tryz.func57, Tryz.ntmps57
    go_wp2_with fail
    refine HT.out.mono ?_
    rintro e w1 ⟨rfl, rfl⟩
    go_wp2
    go_ret
    exact ⟨rfl, HRL.out, Only.refl _ _⟩
  | some n =>
    obtain ⟨rfl, hn, ho⟩ := frAt_some hN
    rw [hN] at HT hR
    dsimp only [Option.isSome] at HT hR
    have hni : (n : Int) < (l.length : Int) := by omega
    have hn0 : (0 : Int) ≤ (n : Int) := by omega
    have HF : Hid (∀ wx, Below w.heap.size w wx → FrAt 75 72 wx b g cap l ∧ wx.cell? ⟨b, 0, none⟩ = some (.slice (some ⟨g, 0, none⟩) l.length cap) ∧ wx.cell? ⟨g, n * 4, none⟩ = some (.int .i64 (l.getD n default).owner) ∧ wx.cell? ⟨g, n * 4 + 1, none⟩ = some (.int .i64 (l.getD n default).kind) ∧ wx.cell? ⟨g, n * 4 + 2, none⟩ = some (.int .i64 (l.getD n default).wr) ∧ wx.cell? ⟨g, n * 4 + 3, none⟩ = some (.int .i64 (l.getD n default).us) ∧ (∀ o, wx.frozen? ⟨g, o, none⟩ = false) ∧ g < wx.heap.size ∧ b < wx.heap.size) := Lib.hid fun wx hx => ⟨h.below hx, (h.below hx).hdr, ((h.below hx).cells n hn).1, ((h.below hx).cells n hn).2.1, ((h.below hx).cells n hn).2.2.1, ((h.below hx).cells n hn).2.2.2, fun o => (h.below hx).free o, (h.below hx).lt.2, (h.below hx).lt.1⟩
    obtain ⟨⟨x0, x1, x2, x3⟩, hx⟩ : ∃ x, l.getD n default = x := ⟨_, rfl⟩
    rw [hx] at HF HT hR
    have HX := Lib.hid hx
    have HN := Lib.hid hn
    dsimp only at HF HT hR
    clear h hN ho hx hn
    by_cases hw : x0 = who
    · subst hw
      rw [if_pos rfl] at HT hR
      by_cases h1 : x1 = 0
      · by_cases h2 : 0 < x2
        · subst h1
          rw [show kMake 1 ⟨x0, 0, x2, x3⟩ = (⟨x0, 0, x2, x3⟩, 112) from by unfold kMake; rw [if_neg (fun h => h rfl), if_pos (.inl h2)]] at hR
          subst hR
          obtain ⟨HF1, c, c0, c1, c2, c3, fz, lg, lb⟩ := HF.out _ (Below.refl _ w)
          have HF1 := Lib.hid HF1
          have f0 := fz (n * 4)
          have f1 := fz (n * 4 + 1)
          have f2 := fz (n * 4 + 2)
          have f3 := fz (n * 4 + 3)
          clear fz
          go_enter Tryz.func57, Tryz.ntmps57
          go_wp2_with fail
          refine HT.out.mono ?_
          rintro e w1 ⟨rfl, rfl⟩
          go_wp2
          go_ret
          refine ⟨rfl, ?_, Only.refl _ _⟩
          rw [show l.set n _ = l from by rw [← HX.out]; exact fr_set_same l n HN.out]
          exact HF1.out
        · by_cases h3 : 0 < x3
          · subst h1
            rw [show kMake 1 ⟨x0, 0, x2, x3⟩ = (⟨x0, 0, x2, x3⟩, 112) from by unfold kMake; rw [if_neg (fun h => h rfl), if_pos (.inr h3)]] at hR
            subst hR
            obtain ⟨HF1, c, c0, c1, c2, c3, fz, lg, lb⟩ := HF.out _ (Below.refl _ w)
            have HF1 := Lib.hid HF1
            have f0 := fz (n * 4)
            have f1 := fz (n * 4 + 1)
            have f2 := fz (n * 4 + 2)
            have f3 := fz (n * 4 + 3)
            clear fz
            go_enter Tryz.func57, Tryz.ntmps57
            go_wp2_with fail
            refine HT.out.mono ?_
            rintro e w1 ⟨rfl, rfl⟩
            go_wp2
            go_ret
            refine ⟨rfl, ?_, Only.refl _ _⟩
            rw [show l.set n _ = l from by rw [← HX.out]; exact fr_set_same l n HN.out]
            exact HF1.out
          · subst h1
            rw [show kMake 1 ⟨x0, 0, x2, x3⟩ = (⟨x0, 1, x2, x3⟩, 0) from by unfold kMake; rw [if_neg (fun h => h rfl), if_neg (by show ¬ (0 < x2 ∨ 0 < x3); omega)]] at hR
            subst hR
            obtain ⟨HF1, c, c0, c1, c2, c3, fz, lg, lb⟩ := HF.out _ (Below.refl _ w)
            have HF1 := Lib.hid HF1
            have f0 := fz (n * 4)
            have f1 := fz (n * 4 + 1)
            have f2 := fz (n * 4 + 2)
            have f3 := fz (n * 4 + 3)
            clear fz
            go_enter Tryz.func57, Tryz.ntmps57
            go_wp2_with fail
            refine HT.out.mono ?_
            rintro e w1 ⟨rfl, rfl⟩
            go_wp2
            go_ret
            refine ⟨rfl, ?_, ?_⟩
            · first | exact FrAt.put1x HF1.out HX.out HN.out _ | exact HF1.out.putAll (n := n) HN.out frNo
            · repeat (first | exact Only.refl _ _ | refine only_set ?_ _ _)
      · have h1' : (x1 == 0) = false := by simp [h1]
        rw [show kMake 1 ⟨x0, x1, x2, x3⟩ = (⟨x0, x1, x2, x3⟩, 111) from by unfold kMake; rw [if_pos h1]] at hR
        clear h1
        subst hR
        obtain ⟨HF1, c, c0, c1, c2, c3, fz, lg, lb⟩ := HF.out _ (Below.refl _ w)
        have HF1 := Lib.hid HF1
        have f0 := fz (n * 4)
        have f1 := fz (n * 4 + 1)
        have f2 := fz (n * 4 + 2)
        have f3 := fz (n * 4 + 3)
        clear fz
        go_enter Tryz.func57, Tryz.ntmps57
        go_wp2_with fail
        refine HT.out.mono ?_
        rintro e w1 ⟨rfl, rfl⟩
        go_wp2
        go_ret
        refine ⟨rfl, ?_, Only.refl _ _⟩
        rw [show l.set n _ = l from by rw [← HX.out]; exact fr_set_same l n HN.out]
        exact HF1.out
    · rw [if_neg hw] at HT hR
      subst hR
      clear hw
      go_enter Tryz.func57, Tryz.ntmps57
      go_wp2_with fail
      refine HT.out.mono ?_
      rintro e w1 ⟨rfl, rfl⟩
      go_wp2
      go_ret
      exact ⟨rfl, HRL.out, Only.refl _ _⟩

set_option maxRecDepth 100000 in
set_option maxHeartbeats 3200000 in
theorem rmake2 (l : List Fr) (b g cap : Nat) (i who : Int) (w : World) (h : FrAt 75 72 w b g cap l) :
    Calls Tryz.prog 57 #[.pointer (some ⟨b, 0, none⟩), .int .i64 i, .int .i64 who, .int .i64 2] w (FrN 75 72 b g cap (frMine l i who (kMake 2)) w) := by
  have HT := Lib.hid (rmine_any l b g cap i who w h)
  have HRL := Lib.hid h
  unfold FrN
  obtain ⟨R, hR⟩ : ∃ R, frMine l i who (kMake 2) = R := ⟨_, rfl⟩
  rw [hR]
  unfold frMine at hR
  unfold frOwnC at HT
  cases hN : frAt l i with
  | none =>
    rw [hN] at HT hR
    dsimp only [Option.isSome] at HT hR
    subst hR
    clear h hN
    go_enter Tryz.func57, Tryz.ntmps57
    go_wp2_with fail
    refine HT.out.mono ?_
    rintro e w1 ⟨rfl, rfl⟩
    go_wp2
    go_ret
    exact ⟨rfl, HRL.out, Only.refl _ _⟩
  | some n =>
    obtain ⟨rfl, hn, ho⟩ := frAt_some hN
    rw [hN] at HT hR
    dsimp only [Option.isSome] at HT hR
    have hni : (n : Int) < (l.length : Int) := by omega
    have hn0 : (0 : Int) ≤ (n : Int) := by omega
    have HF : Hid (∀ wx, Below w.heap.size w wx → FrAt 75 72 wx b g cap l ∧ wx.cell? ⟨b, 0, none⟩ = some (.slice (some ⟨g, 0, none⟩) l.length cap) ∧ wx.cell? ⟨g, n * 4, none⟩ = some (.int .i64 (l.getD n default).owner) ∧ wx.cell? ⟨g, n * 4 + 1, none⟩ = some (.int .i64 (l.getD n default).kind) ∧ wx.cell? ⟨g, n * 4 + 2, none⟩ = some (.int .i64 (l.getD n default).wr) ∧ wx.cell? ⟨g, n * 4 + 3, none⟩ = some (.int .i64 (l.getD n default).us) ∧ (∀ o, wx.frozen? ⟨g, o, none⟩ = false) ∧ g < wx.heap.size ∧ b < wx.heap.size) := Lib.hid fun wx hx => ⟨h.below hx, (h.below hx).hdr, ((h.below hx).cells n hn).1, ((h.below hx).cells n hn).2.1, ((h.below hx).cells n hn).2.2.1, ((h.below hx).cells n hn).2.2.2, fun o => (h.below hx).free o, (h.below hx).lt.2, (h.below hx).lt.1⟩
    obtain ⟨⟨x0, x1, x2, x3⟩, hx⟩ : ∃ x, l.getD n default = x := ⟨_, rfl⟩
    rw [hx] at HF HT hR
    have HX := Lib.hid hx
    have HN := Lib.hid hn
    dsimp only at HF HT hR
    clear h hN ho hx hn
    by_cases hw : x0 = who
    · subst hw
      rw [if_pos rfl] at HT hR
      by_cases h1 : x1 = 0
      · by_cases h2 : 0 < x2
        · subst h1
          rw [show kMake 2 ⟨x0, 0, x2, x3⟩ = (⟨x0, 0, x2, x3⟩, 112) from by unfold kMake; rw [if_neg (fun h => h rfl), if_pos (.inl h2)]] at hR
          subst hR
          obtain ⟨HF1, c, c0, c1, c2, c3, fz, lg, lb⟩ := HF.out _ (Below.refl _ w)
          have HF1 := Lib.hid HF1
          have f0 := fz (n * 4)
          have f1 := fz (n * 4 + 1)
          have f2 := fz (n * 4 + 2)
          have f3 := fz (n * 4 + 3)
          clear fz
          go_enter Tryz.func57, Tryz.ntmps57
          go_wp2_with fail
          refine HT.out.mono ?_
          rintro e w1 ⟨rfl, rfl⟩
          go_wp2
          go_ret
          refine ⟨rfl, ?_, Only.refl _ _⟩
          rw [show l.set n _ = l from by rw [← HX.out]; exact fr_set_same l n HN.out]
          exact HF1.out
        · by_cases h3 : 0 < x3
          · subst h1
            rw [show kMake 2 ⟨x0, 0, x2, x3⟩ = (⟨x0, 0, x2, x3⟩, 112) from by unfold kMake; rw [if_neg (fun h => h rfl), if_pos (.inr h3)]] at hR
            subst hR
            obtain ⟨HF1, c, c0, c1, c2, c3, fz, lg, lb⟩ := HF.out _ (Below.refl _ w)
            have HF1 := Lib.hid HF1
            have f0 := fz (n * 4)
            have f1 := fz (n * 4 + 1)
            have f2 := fz (n * 4 + 2)
            have f3 := fz (n * 4 + 3)
            clear fz
            go_enter Tryz.func57, Tryz.ntmps57
            go_wp2_with fail
            refine HT.out.mono ?_
            rintro e w1 ⟨rfl, rfl⟩
            go_wp2
            go_ret
            refine ⟨rfl, ?_, Only.refl _ _⟩
            rw [show l.set n _ = l from by rw [← HX.out]; exact fr_set_same l n HN.out]
            exact HF1.out
          · subst h1
            rw [show kMake 2 ⟨x0, 0, x2, x3⟩ = (⟨x0, 2, x2, x3⟩, 0) from by unfold kMake; rw [if_neg (fun h => h rfl), if_neg (by show ¬ (0 < x2 ∨ 0 < x3); omega)]] at hR
            subst hR
            obtain ⟨HF1, c, c0, c1, c2, c3, fz, lg, lb⟩ := HF.out _ (Below.refl _ w)
            have HF1 := Lib.hid HF1
            have f0 := fz (n * 4)
            have f1 := fz (n * 4 + 1)
            have f2 := fz (n * 4 + 2)
            have f3 := fz (n * 4 + 3)
            clear fz
            go_enter Tryz.func57, Tryz.ntmps57
            go_wp2_with fail
            refine HT.out.mono ?_
            rintro e w1 ⟨rfl, rfl⟩
            go_wp2
            go_ret
            refine ⟨rfl, ?_, ?_⟩
            · first | exact FrAt.put1x HF1.out HX.out HN.out _ | exact HF1.out.putAll (n := n) HN.out frNo
            · repeat (first | exact Only.refl _ _ | refine only_set ?_ _ _)
      · have h1' : (x1 == 0) = false := by simp [h1]
        rw [show kMake 2 ⟨x0, x1, x2, x3⟩ = (⟨x0, x1, x2, x3⟩, 111) from by unfold kMake; rw [if_pos h1]] at hR
        clear h1
        subst hR
        obtain ⟨HF1, c, c0, c1, c2, c3, fz, lg, lb⟩ := HF.out _ (Below.refl _ w)
        have HF1 := Lib.hid HF1
        have f0 := fz (n * 4)
        have f1 := fz (n * 4 + 1)
        have f2 := fz (n * 4 + 2)
        have f3 := fz (n * 4 + 3)
        clear fz
        go_enter Tryz.func57, Tryz.ntmps57
        go_wp2_with fail
        refine HT.out.mono ?_
        rintro e w1 ⟨rfl, rfl⟩
        go_wp2
        go_ret
        refine ⟨rfl, ?_, Only.refl _ _⟩
        rw [show l.set n _ = l from by rw [← HX.out]; exact fr_set_same l n HN.out]
        exact HF1.out
    · rw [if_neg hw] at HT hR
      subst hR
      clear hw
      go_enter Tryz.func57, Tryz.ntmps57
      go_wp2_with fail
      refine HT.out.mono ?_
      rintro e w1 ⟨rfl, rfl⟩
      go_wp2
      go_ret
      exact ⟨rfl, HRL.out, Only.refl _ _⟩

set_option maxRecDepth 100000 in
set_option maxHeartbeats 3200000 in
theorem rwrite_any (l : List Fr) (b g cap : Nat) (i : Int) (w : World) (hI : ∀ n, n < l.length → (0 ≤ (l.getD n default).wr ∧ (l.getD n default).wr ≤ 1000000) ∧ (0 ≤ (l.getD n default).us ∧ (l.getD n default).us ≤ 1000000)) (h : FrAt 75 72 w b g cap l) :
    Calls Tryz.prog 96 #[.pointer (some ⟨b, 0, none⟩), .int .i64 i] w (FrN 75 72 b g cap (frThere l i kWrite) w) := by
  have HT := Lib.hid (rthere_any l b g cap i w h)
  have HRL := Lib.hid h
  unfold FrN
  obtain ⟨R, hR⟩ : ∃ R, frThere l i kWrite = R := ⟨_, rfl⟩
  rw [hR]
  unfold frThere at hR
  skip
  cases hN : frAt l i with
  | none =>
    rw [hN] at HT hR
    dsimp only [Option.isSome] at HT hR
    subst hR
    clear h hN
    go_enter Tryz.func96, Tryz.ntmps96
    go_wp2_with fail
    refine HT.out.mono ?_
    rintro e w1 ⟨rfl, rfl⟩
    go_wp2
    go_ret
    exact ⟨rfl, HRL.out, Only.refl _ _⟩
  | some n =>
    obtain ⟨rfl, hn, ho⟩ := frAt_some hN
    rw [hN] at HT hR
    dsimp only [Option.isSome] at HT hR
    have hni : (n : Int) < (l.length : Int) := by omega
    have hn0 : (0 : Int) ≤ (n : Int) := by omega
    have HF : Hid (∀ wx, Below w.heap.size w wx → FrAt 75 72 wx b g cap l ∧ wx.cell? ⟨b, 0, none⟩ = some (.slice (some ⟨g, 0, none⟩) l.length cap) ∧ wx.cell? ⟨g, n * 4, none⟩ = some (.int .i64 (l.getD n default).owner) ∧ wx.cell? ⟨g, n * 4 + 1, none⟩ = some (.int .i64 (l.getD n default).kind) ∧ wx.cell? ⟨g, n * 4 + 2, none⟩ = some (.int .i64 (l.getD n default).wr) ∧ wx.cell? ⟨g, n * 4 + 3, none⟩ = some (.int .i64 (l.getD n default).us) ∧ (∀ o, wx.frozen? ⟨g, o, none⟩ = false) ∧ g < wx.heap.size ∧ b < wx.heap.size) := Lib.hid fun wx hx => ⟨h.below hx, (h.below hx).hdr, ((h.below hx).cells n hn).1, ((h.below hx).cells n hn).2.1, ((h.below hx).cells n hn).2.2.1, ((h.below hx).cells n hn).2.2.2, fun o => (h.below hx).free o, (h.below hx).lt.2, (h.below hx).lt.1⟩
    have hin := Lib.hid (hI n hn)
    obtain ⟨⟨x0, x1, x2, x3⟩, hx⟩ : ∃ x, l.getD n default = x := ⟨_, rfl⟩
    rw [hx] at HF hR hin
    have HX := Lib.hid hx
    have HN := Lib.hid hn
    dsimp only at HF HT hR hin
    clear h hN ho hx hn
    by_cases h1 : x1 = 0
    · subst h1
      have hws := IntWalk.i64_in (x2 + 1) (by have := hin.out; omega)
      rw [show kWrite ⟨x0, 0, x2, x3⟩ = (⟨x0, 0, x2 + 1, x3⟩, 0) from by unfold kWrite; rw [if_neg (fun h => h rfl)]] at hR
      subst hR
      obtain ⟨HF1, c, c0, c1, c2, c3, fz, lg, lb⟩ := HF.out _ (Below.refl _ w)
      have HF1 := Lib.hid HF1
      have f0 := fz (n * 4)
      have f1 := fz (n * 4 + 1)
      have f2 := fz (n * 4 + 2)
      have f3 := fz (n * 4 + 3)
      clear fz
      go_enter Tryz.func96, Tryz.ntmps96
      go_wp2_with fail
      refine HT.out.mono ?_
      rintro e w1 ⟨rfl, rfl⟩
      go_wp2_with fail
      go_region
      all_goals
        go_wp2
        go_ret
        refine ⟨rfl, ?_, only_set (Only.refl _ _).drew _ _⟩
        exact FrAt.put2x (HF1.out.below (Below.refl _ _).drew) HX.out HN.out _
    · have h1' : (x1 == 0) = false := by simp [h1]
      rw [show kWrite ⟨x0, x1, x2, x3⟩ = (⟨x0, x1, x2, x3⟩, 111) from by unfold kWrite; rw [if_pos h1]] at hR
      clear h1
      subst hR
      obtain ⟨HF1, c, c0, c1, c2, c3, fz, lg, lb⟩ := HF.out _ (Below.refl _ w)
      have HF1 := Lib.hid HF1
      have f0 := fz (n * 4)
      have f1 := fz (n * 4 + 1)
      have f2 := fz (n * 4 + 2)
      have f3 := fz (n * 4 + 3)
      clear fz
      go_enter Tryz.func96, Tryz.ntmps96
      go_wp2_with fail
      refine HT.out.mono ?_
      rintro e w1 ⟨rfl, rfl⟩
      go_wp2
      go_ret
      refine ⟨rfl, ?_, Only.refl _ _⟩
      rw [show l.set n _ = l from by rw [← HX.out]; exact fr_set_same l n HN.out]
      exact HF1.out

set_option maxRecDepth 100000 in
set_option maxHeartbeats 3200000 in
theorem runwrite_any (l : List Fr) (b g cap : Nat) (i : Int) (w : World) (hI : ∀ n, n < l.length → (0 ≤ (l.getD n default).wr ∧ (l.getD n default).wr ≤ 1000000) ∧ (0 ≤ (l.getD n default).us ∧ (l.getD n default).us ≤ 1000000)) (h : FrAt 75 72 w b g cap l) :
    Calls Tryz.prog 77 #[.pointer (some ⟨b, 0, none⟩), .int .i64 i] w (FrN 75 72 b g cap (frThere l i kUnwrite) w) := by
  have HT := Lib.hid (rthere_any l b g cap i w h)
  have HRL := Lib.hid h
  unfold FrN
  obtain ⟨R, hR⟩ : ∃ R, frThere l i kUnwrite = R := ⟨_, rfl⟩
  rw [hR]
  unfold frThere at hR
  skip
  cases hN : frAt l i with
  | none =>
    rw [hN] at HT hR
    dsimp only [Option.isSome] at HT hR
    subst hR
    clear h hN
    go_enter Tryz.func77, Tryz.ntmps77
    go_wp2_with fail
    refine HT.out.mono ?_
    rintro e w1 ⟨rfl, rfl⟩
    go_wp2
    go_ret
    exact ⟨rfl, HRL.out, Only.refl _ _⟩
  | some n =>
    obtain ⟨rfl, hn, ho⟩ := frAt_some hN
    rw [hN] at HT hR
    dsimp only [Option.isSome] at HT hR
    have hni : (n : Int) < (l.length : Int) := by omega
    have hn0 : (0 : Int) ≤ (n : Int) := by omega
    have HF : Hid (∀ wx, Below w.heap.size w wx → FrAt 75 72 wx b g cap l ∧ wx.cell? ⟨b, 0, none⟩ = some (.slice (some ⟨g, 0, none⟩) l.length cap) ∧ wx.cell? ⟨g, n * 4, none⟩ = some (.int .i64 (l.getD n default).owner) ∧ wx.cell? ⟨g, n * 4 + 1, none⟩ = some (.int .i64 (l.getD n default).kind) ∧ wx.cell? ⟨g, n * 4 + 2, none⟩ = some (.int .i64 (l.getD n default).wr) ∧ wx.cell? ⟨g, n * 4 + 3, none⟩ = some (.int .i64 (l.getD n default).us) ∧ (∀ o, wx.frozen? ⟨g, o, none⟩ = false) ∧ g < wx.heap.size ∧ b < wx.heap.size) := Lib.hid fun wx hx => ⟨h.below hx, (h.below hx).hdr, ((h.below hx).cells n hn).1, ((h.below hx).cells n hn).2.1, ((h.below hx).cells n hn).2.2.1, ((h.below hx).cells n hn).2.2.2, fun o => (h.below hx).free o, (h.below hx).lt.2, (h.below hx).lt.1⟩
    have hin := Lib.hid (hI n hn)
    obtain ⟨⟨x0, x1, x2, x3⟩, hx⟩ : ∃ x, l.getD n default = x := ⟨_, rfl⟩
    rw [hx] at HF hR hin
    have HX := Lib.hid hx
    have HN := Lib.hid hn
    dsimp only at HF HT hR hin
    clear h hN ho hx hn
    by_cases h2 : x2 = 0
    · subst h2
      rw [show kUnwrite ⟨x0, x1, 0, x3⟩ = (⟨x0, x1, 0, x3⟩, 112) from by unfold kUnwrite; rw [if_pos rfl]] at hR
      subst hR
      obtain ⟨HF1, c, c0, c1, c2, c3, fz, lg, lb⟩ := HF.out _ (Below.refl _ w)
      have HF1 := Lib.hid HF1
      have f0 := fz (n * 4)
      have f1 := fz (n * 4 + 1)
      have f2 := fz (n * 4 + 2)
      have f3 := fz (n * 4 + 3)
      clear fz
      go_enter Tryz.func77, Tryz.ntmps77
      go_wp2_with fail
      refine HT.out.mono ?_
      rintro e w1 ⟨rfl, rfl⟩
      go_wp2
      go_ret
      refine ⟨rfl, ?_, Only.refl _ _⟩
      rw [show l.set n _ = l from by rw [← HX.out]; exact fr_set_same l n HN.out]
      exact HF1.out
    · have h2' : (x2 == 0) = false := by simp [h2]
      have hws := IntWalk.i64_in (x2 - 1) (by have := hin.out; omega)
      rw [show kUnwrite ⟨x0, x1, x2, x3⟩ = (⟨x0, x1, x2 - 1, x3⟩, 0) from by unfold kUnwrite; rw [if_neg h2]] at hR
      clear h2
      subst hR
      obtain ⟨HF1, c, c0, c1, c2, c3, fz, lg, lb⟩ := HF.out _ (Below.refl _ w)
      have HF1 := Lib.hid HF1
      have f0 := fz (n * 4)
      have f1 := fz (n * 4 + 1)
      have f2 := fz (n * 4 + 2)
      have f3 := fz (n * 4 + 3)
      clear fz
      go_enter Tryz.func77, Tryz.ntmps77
      go_wp2_with fail
      refine HT.out.mono ?_
      rintro e w1 ⟨rfl, rfl⟩
      go_wp2_with fail
      go_region
      all_goals
        go_wp2
        go_ret
        refine ⟨rfl, ?_, only_set (Only.refl _ _).drew _ _⟩
        exact FrAt.put2x (HF1.out.below (Below.refl _ _).drew) HX.out HN.out _

set_option maxRecDepth 100000 in
set_option maxHeartbeats 3200000 in
theorem ruse_any (l : List Fr) (b g cap : Nat) (i : Int) (w : World) (hI : ∀ n, n < l.length → (0 ≤ (l.getD n default).wr ∧ (l.getD n default).wr ≤ 1000000) ∧ (0 ≤ (l.getD n default).us ∧ (l.getD n default).us ≤ 1000000)) (h : FrAt 75 72 w b g cap l) :
    Calls Tryz.prog 58 #[.pointer (some ⟨b, 0, none⟩), .int .i64 i] w (FrN 75 72 b g cap (frThere l i kUse) w) := by
  have HT := Lib.hid (rthere_any l b g cap i w h)
  have HRL := Lib.hid h
  unfold FrN
  obtain ⟨R, hR⟩ : ∃ R, frThere l i kUse = R := ⟨_, rfl⟩
  rw [hR]
  unfold frThere at hR
  skip
  cases hN : frAt l i with
  | none =>
    rw [hN] at HT hR
    dsimp only [Option.isSome] at HT hR
    subst hR
    clear h hN
    go_enter Tryz.func58, Tryz.ntmps58
    go_wp2_with fail
    refine HT.out.mono ?_
    rintro e w1 ⟨rfl, rfl⟩
    go_wp2
    go_ret
    exact ⟨rfl, HRL.out, Only.refl _ _⟩
  | some n =>
    obtain ⟨rfl, hn, ho⟩ := frAt_some hN
    rw [hN] at HT hR
    dsimp only [Option.isSome] at HT hR
    have hni : (n : Int) < (l.length : Int) := by omega
    have hn0 : (0 : Int) ≤ (n : Int) := by omega
    have HF : Hid (∀ wx, Below w.heap.size w wx → FrAt 75 72 wx b g cap l ∧ wx.cell? ⟨b, 0, none⟩ = some (.slice (some ⟨g, 0, none⟩) l.length cap) ∧ wx.cell? ⟨g, n * 4, none⟩ = some (.int .i64 (l.getD n default).owner) ∧ wx.cell? ⟨g, n * 4 + 1, none⟩ = some (.int .i64 (l.getD n default).kind) ∧ wx.cell? ⟨g, n * 4 + 2, none⟩ = some (.int .i64 (l.getD n default).wr) ∧ wx.cell? ⟨g, n * 4 + 3, none⟩ = some (.int .i64 (l.getD n default).us) ∧ (∀ o, wx.frozen? ⟨g, o, none⟩ = false) ∧ g < wx.heap.size ∧ b < wx.heap.size) := Lib.hid fun wx hx => ⟨h.below hx, (h.below hx).hdr, ((h.below hx).cells n hn).1, ((h.below hx).cells n hn).2.1, ((h.below hx).cells n hn).2.2.1, ((h.below hx).cells n hn).2.2.2, fun o => (h.below hx).free o, (h.below hx).lt.2, (h.below hx).lt.1⟩
    have hin := Lib.hid (hI n hn)
    obtain ⟨⟨x0, x1, x2, x3⟩, hx⟩ : ∃ x, l.getD n default = x := ⟨_, rfl⟩
    rw [hx] at HF hR hin
    have HX := Lib.hid hx
    have HN := Lib.hid hn
    dsimp only at HF HT hR hin
    clear h hN ho hx hn
    have hws := IntWalk.i64_in (x3 + 1) (by have := hin.out; omega)
    rw [show kUse ⟨x0, x1, x2, x3⟩ = (⟨x0, x1, x2, x3 + 1⟩, 0) from rfl] at hR
    subst hR
    obtain ⟨HF1, c, c0, c1, c2, c3, fz, lg, lb⟩ := HF.out _ (Below.refl _ w)
    have HF1 := Lib.hid HF1
    have f0 := fz (n * 4)
    have f1 := fz (n * 4 + 1)
    have f2 := fz (n * 4 + 2)
    have f3 := fz (n * 4 + 3)
    clear fz
    go_enter Tryz.func58, Tryz.ntmps58
    go_wp2_with fail
    refine HT.out.mono ?_
    rintro e w1 ⟨rfl, rfl⟩
    go_wp2_with fail
    go_region
    all_goals
      go_wp2
      go_ret
      refine ⟨rfl, ?_, only_set (Only.refl _ _).drew _ _⟩
      exact FrAt.put3x (HF1.out.below (Below.refl _ _).drew) HX.out HN.out _

set_option maxRecDepth 100000 in
set_option maxHeartbeats 3200000 in
theorem runuse_any (l : List Fr) (b g cap : Nat) (i : Int) (w : World) (hI : ∀ n, n < l.length → (0 ≤ (l.getD n default).wr ∧ (l.getD n default).wr ≤ 1000000) ∧ (0 ≤ (l.getD n default).us ∧ (l.getD n default).us ≤ 1000000)) (h : FrAt 75 72 w b g cap l) :
    Calls Tryz.prog 78 #[.pointer (some ⟨b, 0, none⟩), .int .i64 i] w (FrN 75 72 b g cap (frThere l i kUnuse) w) := by
  have HT := Lib.hid (rthere_any l b g cap i w h)
  have HRL := Lib.hid h
  unfold FrN
  obtain ⟨R, hR⟩ : ∃ R, frThere l i kUnuse = R := ⟨_, rfl⟩
  rw [hR]
  unfold frThere at hR
  skip
  cases hN : frAt l i with
  | none =>
    rw [hN] at HT hR
    dsimp only [Option.isSome] at HT hR
    subst hR
    clear h hN
    go_enter Tryz.func78, Tryz.ntmps78
    go_wp2_with fail
    refine HT.out.mono ?_
    rintro e w1 ⟨rfl, rfl⟩
    go_wp2
    go_ret
    exact ⟨rfl, HRL.out, Only.refl _ _⟩
  | some n =>
    obtain ⟨rfl, hn, ho⟩ := frAt_some hN
    rw [hN] at HT hR
    dsimp only [Option.isSome] at HT hR
    have hni : (n : Int) < (l.length : Int) := by omega
    have hn0 : (0 : Int) ≤ (n : Int) := by omega
    have HF : Hid (∀ wx, Below w.heap.size w wx → FrAt 75 72 wx b g cap l ∧ wx.cell? ⟨b, 0, none⟩ = some (.slice (some ⟨g, 0, none⟩) l.length cap) ∧ wx.cell? ⟨g, n * 4, none⟩ = some (.int .i64 (l.getD n default).owner) ∧ wx.cell? ⟨g, n * 4 + 1, none⟩ = some (.int .i64 (l.getD n default).kind) ∧ wx.cell? ⟨g, n * 4 + 2, none⟩ = some (.int .i64 (l.getD n default).wr) ∧ wx.cell? ⟨g, n * 4 + 3, none⟩ = some (.int .i64 (l.getD n default).us) ∧ (∀ o, wx.frozen? ⟨g, o, none⟩ = false) ∧ g < wx.heap.size ∧ b < wx.heap.size) := Lib.hid fun wx hx => ⟨h.below hx, (h.below hx).hdr, ((h.below hx).cells n hn).1, ((h.below hx).cells n hn).2.1, ((h.below hx).cells n hn).2.2.1, ((h.below hx).cells n hn).2.2.2, fun o => (h.below hx).free o, (h.below hx).lt.2, (h.below hx).lt.1⟩
    have hin := Lib.hid (hI n hn)
    obtain ⟨⟨x0, x1, x2, x3⟩, hx⟩ : ∃ x, l.getD n default = x := ⟨_, rfl⟩
    rw [hx] at HF hR hin
    have HX := Lib.hid hx
    have HN := Lib.hid hn
    dsimp only at HF HT hR hin
    clear h hN ho hx hn
    by_cases h3 : x3 = 0
    · subst h3
      rw [show kUnuse ⟨x0, x1, x2, 0⟩ = (⟨x0, x1, x2, 0⟩, 112) from by unfold kUnuse; rw [if_pos rfl]] at hR
      subst hR
      obtain ⟨HF1, c, c0, c1, c2, c3, fz, lg, lb⟩ := HF.out _ (Below.refl _ w)
      have HF1 := Lib.hid HF1
      have f0 := fz (n * 4)
      have f1 := fz (n * 4 + 1)
      have f2 := fz (n * 4 + 2)
      have f3 := fz (n * 4 + 3)
      clear fz
      go_enter Tryz.func78, Tryz.ntmps78
      go_wp2_with fail
      refine HT.out.mono ?_
      rintro e w1 ⟨rfl, rfl⟩
      go_wp2
      go_ret
      refine ⟨rfl, ?_, Only.refl _ _⟩
      rw [show l.set n _ = l from by rw [← HX.out]; exact fr_set_same l n HN.out]
      exact HF1.out
    · have h3' : (x3 == 0) = false := by simp [h3]
      have hws := IntWalk.i64_in (x3 - 1) (by have := hin.out; omega)
      rw [show kUnuse ⟨x0, x1, x2, x3⟩ = (⟨x0, x1, x2, x3 - 1⟩, 0) from by unfold kUnuse; rw [if_neg h3]] at hR
      clear h3
      subst hR
      obtain ⟨HF1, c, c0, c1, c2, c3, fz, lg, lb⟩ := HF.out _ (Below.refl _ w)
      have HF1 := Lib.hid HF1
      have f0 := fz (n * 4)
      have f1 := fz (n * 4 + 1)
      have f2 := fz (n * 4 + 2)
      have f3 := fz (n * 4 + 3)
      clear fz
      go_enter Tryz.func78, Tryz.ntmps78
      go_wp2_with fail
      refine HT.out.mono ?_
      rintro e w1 ⟨rfl, rfl⟩
      go_wp2_with fail
      go_region
      all_goals
        go_wp2
        go_ret
        refine ⟨rfl, ?_, only_set (Only.refl _ _).drew _ _⟩
        exact FrAt.put3x (HF1.out.below (Below.refl _ _).drew) HX.out HN.out _

set_option maxHeartbeats 1600000 in
theorem rmake_any (l : List Fr) (b g cap : Nat) (i who kind : Int) (w : World) (h : FrAt 75 72 w b g cap l) :
    Calls Tryz.prog 57 #[.pointer (some ⟨b, 0, none⟩), .int .i64 i, .int .i64 who, .int .i64 kind] w (FrN 75 72 b g cap (frMake l i who kind) w) := by
  unfold frMake
  by_cases h1 : kind = 1
  · subst h1
    rw [if_pos (.inl rfl)]
    exact rmake1 l b g cap i who w h
  · by_cases h2 : kind = 2
    · subst h2
      rw [if_pos (.inr rfl)]
      exact rmake2 l b g cap i who w h
    · rw [if_neg (by omega)]
      have k1 : (kind != 1) = true := by simp; omega
      have k2 : (kind != 2) = true := by simp; omega
      have H := Lib.hid h
      clear h h1 h2
      unfold FrN
      dsimp only
      go_enter Tryz.func57, Tryz.ntmps57
      go_wp2
      go_ret
      exact ⟨rfl, H.out, Only.refl _ _⟩
end Go.Proofs.YtaoaachgnnengaaGreatDoor

/-
  frames.Frames: Of: whose frames.
-/
namespace Go.Proofs.YtaoaachgnnengaaGreatDoor
open Go.RowKit Go.Deep

theorem infoI64o : (Tryz.prog.info? 3).map (fun i => (i.zero, i.size, i.bytes)) = some (some (.int .i64 0), 1, 8) := by kernel_rfl
/-- the numbers of somebody's frames, of the first n -/
def frOf (l : List Fr) (who : Int) (n : Nat) : List Int := ((List.range n).filter fun i => decide ((l.getD i default).owner = who)).map Int.ofNat
theorem frOf_succ (l : List Fr) (who : Int) (n : Nat) : frOf l who (n + 1) = if (l.getD n default).owner = who then frOf l who n ++ [(n : Int)] else frOf l who n := by
  unfold frOf
  rw [List.range_succ, List.filter_append, List.map_append]
  by_cases h : (l.getD n default).owner = who
  · rw [if_pos h, List.filter_cons, if_pos (decide_eq_true h)]
    rfl
  · rw [if_neg h, List.filter_cons, if_neg (by rw [decide_eq_false h]; decide)]
    simp
theorem frOf_len (l : List Fr) (who : Int) (n : Nat) : (frOf l who n).length ≤ n := by
  unfold frOf
  rw [List.length_map]
  exact Nat.le_trans (List.length_filter_le _ _) (by simp)
/-- frames that can be read: a header in block b, the frames wherever -/
def FrRd (TB : TypeId) (w : World) (b : Nat) (ao : Option Addr) (cap : Nat) (l : List Fr) : Prop :=
  w.heap[b]? = some (.cells #[.slice ao l.length cap] TB (0, 0)) ∧ AtL w ao (frCells l) ∧ l.length ≤ cap
theorem FrRd.below {TB : TypeId} {w w' : World} {b cap : Nat} {ao : Option Addr} {l : List Fr} (h : FrRd TB w b ao cap l) (hb : Below w.heap.size w w') : FrRd TB w' b ao cap l :=
  ⟨(hb.block b (blk_lt h.1)).trans h.1, h.2.1.mono hb, h.2.2⟩
theorem FrAt.rd {TB TR : TypeId} {w : World} {b g cap : Nat} {l : List Fr} (h : FrAt TB TR w b g cap l) : FrRd TB w b (some ⟨g, 0, none⟩) cap l :=
  ⟨h.1, fun i v hi => ⟨g, 0, rfl, by rw [blk_cell h.2.1, Nat.zero_add, List.getElem?_toArray]; exact hi, blk_lt h.2.1⟩, h.2.2.2.1⟩
def OfTo (l : List Fr) (who : Int) (s : Nat) (w : World) (v i : Value) (wr : World) : Prop :=
  ∃ j : Nat, j ≤ l.length ∧ i = .int .i64 (j : Int) ∧ wr.ownsRow 0 3 1 v (frOf l who j).length (ints (frOf l who j)) ∧ (∀ k, inRow v k → s ≤ k) ∧ Below s w wr ∧ ∃ ao cap, v = .slice ao (frOf l who j).length cap
def OfPost (l : List Fr) (who : Int) (w : World) (e : Ending) (w' : World) : Prop :=
  ∃ v, e = .returned v ∧ w'.ownsRow 0 3 1 v (frOf l who l.length).length (ints (frOf l who l.length)) ∧ (∀ k, inRow v k → w.heap.size ≤ k) ∧ Below w.heap.size w w' ∧ ∃ ao cap, v = .slice ao (frOf l who l.length).length cap
end Go.Proofs.YtaoaachgnnengaaGreatDoor

/-
  facaderef16.Frames: Alloc, NewFrames, Of.
-/
namespace Go.Proofs.YtaoaachgnnengaaGreatDoor
open Go.RowKit Go.Deep

def RaTo (l : List Fr) (w0 : World) (i : Value) (wr : World) : Prop :=
  ∃ j : Nat, j ≤ l.length ∧ i = .int .i64 (j : Int) ∧ (∀ k, k < j → (l.getD k default).owner ≠ -1) ∧ wr = w0
/-- what the document's Alloc does -/
def FrNA (TB TR : TypeId) (b g cap : Nat) (R : FrR) (w : World) (e : Ending) (w' : World) : Prop := e = .returned (.tuple #[.int .i64 R.n, .int .i64 R.c]) ∧ FrAt TB TR w' b g cap R.l ∧ Only (fun k => k = g) w w'
set_option maxRecDepth 100000 in
set_option maxHeartbeats 1600000 in
theorem ralloc_any (l : List Fr) (b g cap : Nat) (who : Int) (w : World) (hno : ∀ x ∈ l, x.owner = -1 → x = frNo) (h : FrAt 75 72 w b g cap l) :
    Calls Tryz.prog 20 #[.pointer (some ⟨b, 0, none⟩), .int .i64 who] w (FrNA 75 72 b g cap (frAlloc l who) w) := by
  have HF := Lib.hid h
  have HNO := Lib.hid hno
  have c := h.hdr
  have hlen : l.length ≤ 9223372036854775807 := Nat.le_trans h.2.2.2.1 h.2.2.2.2
  have HOW := Lib.hid (rowner_any who)
  unfold FrNA
  obtain ⟨R, hR⟩ : ∃ R, frAlloc l who = R := ⟨_, rfl⟩
  rw [hR]
  unfold frAlloc at hR
  by_cases hw : frOwns who
  · rw [if_pos hw] at hR
    rw [decide_eq_true hw] at HOW
    have HR := Lib.hid hR
    have HST : Hid (RaTo l w (.int .i64 0) w) := Lib.hid ⟨0, Nat.zero_le _, rfl, fun k hk => absurd hk (by omega), rfl⟩
    clear hw hR h hno
    go_enter Tryz.func20, Tryz.ntmps20
    go_wp2_with fail
    refine (HOW.out _).mono ?_
    rintro e w1 ⟨rfl, rfl⟩
    go_wp2_with fail
    go_loopw [6] (fun i wr => RaTo l w i wr) (fun i _ => l.length - (intOf i).toNat)
    case atStart => exact HST.out
    case round =>
      obtain ⟨j, hj, rfl, hmo, rfl⟩ := hrel
      have HMO := Lib.hid hmo
      clear hmo HST
      by_cases hlt : j < l.length
      · have hji : (j : Int) < (l.length : Int) := by omega
        obtain ⟨c0, c1, c2, c3⟩ := HF.out.cells j hlt
        have HFR : Hid ((l.getD j default).owner = -1 → frFree l = some j) := Lib.hid fun ho => frFree_is hlt ho HMO.out
        have f0 := HF.out.free (j * 4)
        have f1 := HF.out.free (j * 4 + 1)
        have f2 := HF.out.free (j * 4 + 2)
        have f3 := HF.out.free (j * 4 + 3)
        have HMEM : Hid (l.getD j default ∈ l) := Lib.hid (by
          rw [List.getD_eq_getElem?_getD, List.getElem?_eq_getElem hlt]
          exact List.getElem_mem _)
        obtain ⟨⟨x0, x1, x2, x3⟩, hx⟩ : ∃ x, l.getD j default = x := ⟨_, rfl⟩
        rw [hx] at c0 c1 c2 c3 HFR HMEM
        have HX := Lib.hid hx
        dsimp only at c0 c1 c2 c3 HFR
        clear hx
        by_cases ho : x0 = -1
        · subst ho
          have HFE := Lib.hid (HFR.out rfl)
          have hz := HNO.out _ HMEM.out rfl
          simp only [frNo, Fr.mk.injEq, true_and] at hz
          obtain ⟨rfl, rfl, rfl⟩ := hz
          have HRE : Hid (R = ⟨l.set j ⟨who, 0, 0, 0⟩, (j : Int), 0⟩) := Lib.hid (by
            have := HR.out
            rw [HFE.out] at this
            dsimp only at this
            rw [HX.out] at this
            exact this.symm)
          go_wp2
          go_ret2
          rw [HRE.out]
          exact ⟨rfl, HF.out.putAll hlt ⟨who, 0, 0, 0⟩, only_set (only_set (only_set (only_set (Only.refl _ _) _ _) _ _) _ _) _ _⟩
        · have HO := Lib.hid ho
          have ho' : (x0 == -1) = false := by simp [ho]
          clear ho
          go_wp2
          go_roundw
          case rel => exact ⟨j + 1, by omega, by go_num, fun k hk => by
            by_cases e : k = j
            · subst e; rw [HX.out]; exact HO.out
            · exact HMO.out k (by omega), rfl⟩
          case measure => simp [intOf]; omega
      · obtain rfl : j = l.length := by omega
        have HFE := Lib.hid (frFree_no HMO.out)
        have HRE : Hid (R = ⟨l, 0, 113⟩) := Lib.hid (by
          have := HR.out
          rw [HFE.out] at this
          exact this.symm)
        go_wp2
        go_ret2
        rw [HRE.out]
        exact ⟨rfl, HF.out, Only.refl _ _⟩
  · rw [if_neg hw] at hR
    rw [decide_eq_false hw] at HOW
    subst hR
    dsimp only
    clear hw h hno
    go_enter Tryz.func20, Tryz.ntmps20
    go_wp2_with fail
    refine (HOW.out _).mono ?_
    rintro e w1 ⟨rfl, rfl⟩
    go_wp2
    go_ret2
    exact ⟨rfl, HF.out, Only.refl _ _⟩

theorem infoRFr : (Tryz.prog.info? 72).map (fun i => (i.zero, i.size, i.bytes)) = some (some (.agg #[.int .i64 0, .int .i64 0, .int .i64 0, .int .i64 0]), 4, 32) := by kernel_rfl
theorem frZ_cells (m : Nat) : frCells (List.replicate m frZ) = List.replicate (m * 4) (.int .i64 0) := by
  induction m with
  | zero => rfl
  | succ m ih =>
    unfold frCells at ih ⊢
    rw [List.replicate_succ, List.flatMap_cons, ih, Nat.succ_mul, Nat.add_comm, ← List.replicate_append_replicate]
    rfl
theorem made_rfr (w : World) (n : Nat) (h : n ≤ 1024) : (Instr.makeSlice 73 (.int .i64 (n : Int)) (.int .i64 (n : Int))).run Tryz.prog w = .ok (.slice (some ⟨w.heap.size, 0, none⟩) n n) (w.alloc (.cells (frCells (List.replicate n frZ)).toArray 72)) := by
  obtain ⟨i, hi, hz0, hz1, hz2⟩ := info_parts infoRFr
  have e := run_make (P := Tryz.prog) w 73 72 i (.agg #[.int .i64 0, .int .i64 0, .int .i64 0, .int .i64 0]) Tryz.underlying73 hi hz0 .i64 .i64 n n (by omega) (by omega) (by rw [hz2]; omega) (by omega)
  rw [e, hz1, Int.toNat_natCast]
  have : madeCells (Value.agg #[.int .i64 0, .int .i64 0, .int .i64 0, .int .i64 0]).cells (n * 4) = (frCells (List.replicate n frZ)).toArray := by
    rw [show (Value.agg #[.int .i64 0, .int .i64 0, .int .i64 0, .int .i64 0]).cells = #[Value.int IntKind.i64 0, .int .i64 0, .int .i64 0, .int .i64 0] from rfl]
    apply Array.toList_inj.1
    apply List.ext_getElem?
    intro j
    have hz : ∀ k, k < 4 → (#[Value.int IntKind.i64 0, .int .i64 0, .int .i64 0, .int .i64 0] : Array Value)[k]? = some (.int .i64 0) := fun k hk => by
      match k, hk with
      | 0, _ => rfl
      | 1, _ => rfl
      | 2, _ => rfl
      | 3, _ => rfl
    rw [frZ_cells]
    by_cases hj : j < n * 4
    · simp [madeCells, hj]
      have := hz (j % 4) (Nat.mod_lt _ (by decide))
      rw [List.getElem?_toArray] at this
      rw [this]
      rfl
    · simp [madeCells, hj]
  rw [this]
theorem repL_set (n k : Nat) (h : k < n) : (repL n k).set k frNo = repL n (k + 1) := by
  unfold repL
  rw [List.set_append_right _ _ (by rw [List.length_replicate]; exact Nat.le_refl _), List.length_replicate, Nat.sub_self, show n - k = (n - (k + 1)) + 1 by omega, List.replicate_succ, List.set_cons_zero, List.replicate_succ', List.append_assoc]
  rfl
theorem repL_at (n k : Nat) (h : k < n) : (repL n k).getD k default = frZ := by
  unfold repL
  rw [List.getD_eq_getElem?_getD, List.getElem?_append_right (by rw [List.length_replicate]; exact Nat.le_refl _), List.length_replicate, Nat.sub_self, List.getElem?_replicate, if_pos (by omega)]
  rfl
def RnTo (n b g : Nat) (s : Nat) (w0 : World) (i : Value) (wr : World) : Prop :=
  ∃ k : Nat, k ≤ n ∧ i = .int .i64 (k : Int) ∧ FrAt 75 72 wr b g n (repL n k) ∧ Below s w0 wr
set_option maxRecDepth 100000 in
set_option maxHeartbeats 1600000 in
theorem rnew_ok (n : Nat) (w : World) (hn : n ≤ 1024) :
    Calls Tryz.prog 18 #[.int .i64 (n : Int)] w fun e w' => ∃ b g, e = .returned (.pointer (some ⟨b, 0, none⟩)) ∧ FrAt 75 72 w' b g n (List.replicate n frNo) ∧ w.heap.size ≤ b ∧ w.heap.size ≤ g ∧ Below w.heap.size w w' := by
  have hmk := made_rfr w n hn
  have HST : Hid (RnTo n (w.heap.size + 1) w.heap.size w.heap.size w (.int .i64 0) ((w.alloc (.cells (frCells (List.replicate n frZ)).toArray 72)).alloc (.cells #[.slice (some ⟨w.heap.size, 0, none⟩) n n] 75))) := Lib.hid ⟨0, Nat.zero_le _, rfl, by
    have hr : repL n 0 = List.replicate n frZ := by simp [repL]
    rw [hr]
    refine ⟨?_, blk_old (blk_new _ _) _, by omega, by rw [List.length_replicate]; exact Nat.le_refl _, by omega⟩
    have := blk_new (w.alloc (.cells (frCells (List.replicate n frZ)).toArray 72)) (.cells #[.slice (some ⟨w.heap.size, 0, none⟩) n n] 75)
    rw [List.length_replicate]
    simpa using this, ((Below.refl _ _).alloc (Nat.le_refl _) _).alloc (by simp) _⟩
  go_enter Tryz.func18, Tryz.ntmps18
  go_wp2_with fail
  generalize (w.alloc (.cells (frCells (List.replicate n frZ)).toArray 72)).alloc (.cells #[.slice (some ⟨w.heap.size, 0, none⟩) n n] 75) = w2 at HST ⊢
  clear hmk
  go_loopw [4] (fun i wr => RnTo n (w.heap.size + 1) w.heap.size w.heap.size w i wr) (fun i _ => n - (intOf i).toNat)
  case atStart => exact HST.out
  case round =>
    obtain ⟨k, hk, rfl, hf, hb⟩ := hrel
    have HF := Lib.hid hf
    have HB := Lib.hid hb
    have c := hf.hdr
    rw [repL_len n k hk] at c
    clear hf hb HST
    by_cases hlt : k < n
    · have hki : (k : Int) < (n : Int) := by omega
      obtain ⟨c0, -, -, -⟩ := HF.out.cells k (by rw [repL_len n k hk]; exact hlt)
      have f0 := HF.out.free (k * 4)
      rw [repL_at n k hlt] at c0
      have HN : Hid (FrAt 75 72 (wr.setCell ⟨w.heap.size, k * 4, none⟩ (.int .i64 (-1))) (w.heap.size + 1) w.heap.size n (repL n (k + 1))) := Lib.hid (by
        have := HF.out.put0x (repL_at n k hlt) (by rw [repL_len n k hk]; exact hlt) (-1)
        rw [← repL_set n k hlt]
        exact this)
      have HB2 : Hid (Below w.heap.size w (wr.setCell ⟨w.heap.size, k * 4, none⟩ (.int .i64 (-1)))) := Lib.hid (HB.out.setCell (p := ⟨w.heap.size, k * 4, none⟩) (Nat.le_refl _) _)
      go_wp2
      go_roundw
      case rel => exact ⟨k + 1, by omega, by go_num, HN.out, HB2.out⟩
      case measure => simp [intOf]; omega
    · obtain rfl : k = n := by omega
      go_wp2
      go_ret
      refine ⟨w.heap.size + 1, w.heap.size, rfl, ?_, by omega, Nat.le_refl _, HB.out⟩
      have := HF.out
      rw [show repL k k = List.replicate k frNo from by simp [repL]] at this
      exact this
end Go.Proofs.YtaoaachgnnengaaGreatDoor

/-
  The document's tables: where their parts lie.
-/
namespace Go.Proofs.YtaoaachgnnengaaGreatDoor
open Go.RowKit

/-- where the document's tables lie -/
structure Zl where
  zb : Nat
  mb : Nat
  fb : Nat
  fg : Nat
  mv : Value
  gv : Value
/-- what is never written; memory's words; frames; the list of the guest's frames -/
def Zl.z0 (z : Zl) (k : Nat) : Prop := k = z.mb ∨ k = z.fb
def Zl.z1 (z : Zl) (k : Nat) : Prop := inRow z.mv k
def Zl.z2 (z : Zl) (k : Nat) : Prop := k = z.fg
def Zl.z3 (z : Zl) (k : Nat) : Prop := k = z.zb ∨ inRow z.gv k
structure Zl.Apart (p : Zl) : Prop where
  a01 : ∀ k, p.z0 k → ¬ p.z1 k
  a02 : ∀ k, p.z0 k → ¬ p.z2 k
  a03 : ∀ k, p.z0 k → ¬ p.z3 k
  a12 : ∀ k, p.z1 k → ¬ p.z2 k
  a13 : ∀ k, p.z1 k → ¬ p.z3 k
  a23 : ∀ k, p.z2 k → ¬ p.z3 k
def Zl.zw (p : Zl) (k : Nat) : Prop := p.z1 k ∨ p.z2 k ∨ p.z3 k
def ztCells (z : Zl) (who : Int) : Array Value := #[.pointer (some ⟨z.mb, 0, none⟩), .pointer (some ⟨z.fb, 0, none⟩), .int .i64 who, z.gv]
structure ZAt (w : World) (z : Zl) (n : Nat) (M : List Int) (F : List Fr) (P : List Int) (who : Int) : Prop where
  row : w.heap[z.zb]? = some (.cells (ztCells z who) 45 (0, 0))
  mem : MAr w z.mb z.mv n M
  fr : FrAt 75 72 w z.fb z.fg n F
  gl : w.ownsRow 0 3 1 z.gv P.length (ints P)
  apart : z.Apart
def ZtAt (w : World) (z : Zl) (s : Ts) : Prop := ZAt w z s.n s.M s.F s.P s.who
theorem MAr.only' {F : Nat → Prop} {w w' : World} {b n : Nat} {v : Value} {l : List Int} (h : MAr w b v n l) (ho : Only F w w') (hb : ¬ F b) (hv : ∀ k, inRow v k → ¬ F k) : MAr w' b v n l := ⟨ho.blk h.1 hb, own_only h.2.1 ho hv, h.2.2⟩
theorem ZAt.keep {G : Nat → Prop} {w w' : World} {z : Zl} {n : Nat} {M : List Int} {F : List Fr} {P : List Int} {who : Int} (h : ZAt w z n M F P who) (ho : Only G w w') (h0 : ∀ k, z.z0 k → ¬ G k) (h1 : ∀ k, z.z1 k → ¬ G k) (h2 : ∀ k, z.z2 k → ¬ G k) (h3 : ∀ k, z.z3 k → ¬ G k) : ZAt w' z n M F P who :=
  ⟨ho.blk h.row (h3 _ (.inl rfl)), h.mem.only' ho (h0 _ (.inl rfl)) h1, h.fr.only ho (h0 _ (.inr rfl)) (h2 _ rfl), own_only h.gl ho (fun k hk => h3 k (.inr hk)), h.apart⟩
theorem ZAt.below {w w' : World} {z : Zl} {n : Nat} {M : List Int} {F : List Fr} {P : List Int} {who : Int} (h : ZAt w z n M F P who) (hb : Below w.heap.size w w') : ZAt w' z n M F P who :=
  h.keep (G := fun _ => False) (Only.of_below hb) (fun _ _ h => h) (fun _ _ h => h) (fun _ _ h => h) (fun _ _ h => h)
theorem ZAt.mem' {w w' : World} {z : Zl} {n : Nat} {M M' : List Int} {F : List Fr} {P : List Int} {who : Int} (h : ZAt w z n M F P who) (ho : Only (fun k => inRow z.mv k) w w') (hm : MAr w' z.mb z.mv n M') : ZAt w' z n M' F P who :=
  ⟨ho.blk h.row (fun h' => h.apart.a13 _ h' (.inl rfl)), hm, h.fr.only ho (h.apart.a01 _ (.inr rfl)) (fun h' => h.apart.a12 _ h' rfl), own_only h.gl ho (fun k hk h' => h.apart.a13 k h' (.inr hk)), h.apart⟩
theorem ZAt.fr' {w w' : World} {z : Zl} {n : Nat} {M : List Int} {F F' : List Fr} {P : List Int} {who : Int} (h : ZAt w z n M F P who) (ho : Only (fun k => k = z.fg) w w') (hm : FrAt 75 72 w' z.fb z.fg n F') : ZAt w' z n M F' P who :=
  ⟨ho.blk h.row (fun h' => h.apart.a23 _ h' (.inl rfl)), h.mem.only' ho (h.apart.a02 _ (.inl rfl)) (fun k hk h' => h.apart.a12 _ hk h'), hm, own_only h.gl ho (fun k hk h' => h.apart.a23 k h' (.inr hk)), h.apart⟩
theorem ZAt.lt {w : World} {z : Zl} {n : Nat} {M : List Int} {F : List Fr} {P : List Int} {who : Int} (h : ZAt w z n M F P who) : ∀ k, (z.z0 k ∨ z.z1 k ∨ z.z2 k ∨ z.z3 k) → k < w.heap.size := fun k hk => by
  rcases hk with (rfl | rfl) | hk | hk | (rfl | hk)
  · exact blk_lt h.mem.1
  · exact h.fr.lt.1
  · exact own_lt h.mem.2.1 hk
  · rw [show k = z.fg from hk]; exact h.fr.lt.2
  · exact blk_lt h.row
  · exact own_lt h.gl hk
theorem ZAt.cells {w : World} {z : Zl} {n : Nat} {M : List Int} {F : List Fr} {P : List Int} {who : Int} (h : ZAt w z n M F P who) : w.cell? ⟨z.zb, 0, none⟩ = some (.pointer (some ⟨z.mb, 0, none⟩)) ∧ w.cell? ⟨z.zb, 1, none⟩ = some (.pointer (some ⟨z.fb, 0, none⟩)) ∧ w.cell? ⟨z.zb, 2, none⟩ = some (.int .i64 who) ∧ w.cell? ⟨z.zb, 3, none⟩ = some z.gv ∧ w.frozen? ⟨z.zb, 3, none⟩ = false ∧ z.zb < w.heap.size :=
  ⟨blk_cell h.row 0, blk_cell h.row 1, blk_cell h.row 2, blk_cell h.row 3, blk_free h.row 3, blk_lt h.row⟩
theorem ZAt.not {w : World} {z : Zl} {n : Nat} {M : List Int} {F : List Fr} {P : List Int} {who : Int} (h : ZAt w z n M F P who) : ¬ inRow z.gv z.zb := fun h' => own_not h.gl h.row (by decide) h'
/-- the list has another one -/
theorem ZAt.list' {w w' : World} {z : Zl} {n : Nat} {M : List Int} {F : List Fr} {P P' : List Int} {who : Int} {gv' : Value} (h : ZAt w z n M F P who) (ho : Only (fun k => k = z.zb ∨ inRow z.gv k) w w') (hrow : w'.heap[z.zb]? = some (.cells (ztCells { z with gv := gv' } who) 45 (0, 0))) (ht : w'.ownsRow 0 3 1 gv' P'.length (ints P')) (hr : ∀ k, inRow gv' k → inRow z.gv k ∨ w.heap.size ≤ k) : ZAt w' { z with gv := gv' } n M F P' who := by
  have hz3 : ∀ k, Zl.z3 { z with gv := gv' } k → z.z3 k ∨ w.heap.size ≤ k := fun k hk => by
    rcases hk with hk | hk
    · exact .inl (.inl hk)
    · rcases hr k hk with h | h
      · exact .inl (.inr h)
      · exact .inr h
  exact ⟨hrow, h.mem.only' ho (h.apart.a03 _ (.inl rfl)) (fun k hk h' => h.apart.a13 k hk h'), h.fr.only ho (h.apart.a03 _ (.inr rfl)) (h.apart.a23 _ rfl), ht,
    ⟨h.apart.a01, h.apart.a02, fun k h0 h3 => by
      rcases hz3 k h3 with h' | h'
      · exact h.apart.a03 k h0 h'
      · have := h.lt k (.inl h0); omega, h.apart.a12, fun k h1 h3 => by
      rcases hz3 k h3 with h' | h'
      · exact h.apart.a13 k h1 h'
      · have := h.lt k (.inr (.inl h1)); omega, fun k h2 h3 => by
      rcases hz3 k h3 with h' | h'
      · exact h.apart.a23 k h2 h'
      · have := h.lt k (.inr (.inr (.inl h2))); omega⟩⟩
end Go.Proofs.YtaoaachgnnengaaGreatDoor

