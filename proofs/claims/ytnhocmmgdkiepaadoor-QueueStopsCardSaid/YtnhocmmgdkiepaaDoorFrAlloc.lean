/-
  frames.Frames: Alloc; slices.IndexFunc of what is nobody's.
-/
import Derived.Test.YtnhocmmgdkiepaaDoorFrDo
namespace Go.Proofs.YtnhocmmgdkiepaaDoor
open Go.RowKit

theorem fnobody_any (x : Fr) (w : World) : Calls Tryd.prog 98 #[frV x] w fun e w' => e = .returned (.bool (decide (x.owner = -1))) ∧ Below w.heap.size w w' := by
  obtain ⟨x0, x1, x2, x3⟩ := x
  unfold frV
  dsimp only
  by_cases h : x0 = -1
  · subst h
    go_enter Tryd.func98, Tryd.ntmps98
    go_wp2
    go_ret
    exact ⟨rfl, (Below.refl _ _).alloc (Nat.le_refl _) _⟩
  · have h' : (x0 == -1) = false := by simp [h]
    have H := Lib.hid h
    clear h
    go_enter Tryd.func98, Tryd.ntmps98
    go_wp2
    go_ret
    exact ⟨ret_bool (by simp [H.out]), (Below.refl _ _).alloc (Nat.le_refl _) _⟩
def FiTo (l : List Fr) (w0 : World) (i : Value) (wr : World) : Prop :=
  ∃ j : Nat, j ≤ l.length ∧ i = .int .i64 (j : Int) ∧ (∀ k, k < j → (l.getD k default).owner ≠ -1) ∧ Below w0.heap.size w0 wr
def idxV (o : Option Nat) : Int := match o with
  | none => -1
  | some i => (i : Int)
set_option maxRecDepth 100000 in
set_option maxHeartbeats 1600000 in
theorem findex_any (l : List Fr) (b g cap : Nat) (w : World) (h : FrAt 128 126 w b g cap l) :
    Calls Tryd.prog 97 #[.slice (some ⟨g, 0, none⟩) l.length cap, .func (.func 98) #[] #[]] w fun e w' => e = .returned (.int .i64 (idxV (frFree l))) ∧ Below w.heap.size w w' := by
  have HF : Hid (∀ wx, Below w.heap.size w wx → FrAt 128 126 wx b g cap l) := Lib.hid fun wx hx => h.below hx
  have hlen : l.length ≤ 9223372036854775807 := Nat.le_trans h.2.2.2.1 h.2.2.2.2
  have HST : Hid (FiTo l w (.int .i64 0) w) := Lib.hid ⟨0, Nat.zero_le _, rfl, fun k hk => absurd hk (by omega), Below.refl _ _⟩
  clear h
  go_enter Tryd.func97, Tryd.ntmps97
  go_wp2_with fail
  go_loopw [8] (fun i wr => FiTo l w i wr) (fun i _ => l.length - (intOf i).toNat)
  case atStart => exact HST.out
  case round =>
    obtain ⟨j, hj, rfl, hno, hb⟩ := hrel
    have HNO := Lib.hid hno
    have HB := Lib.hid hb
    clear hno hb HST
    by_cases hlt : j < l.length
    · have hji : (j : Int) < (l.length : Int) := by omega
      obtain ⟨c0, c1, c2, c3⟩ := (HF.out _ HB.out).cells j hlt
      have HC := Lib.hid (fun wx => fnobody_any (l.getD j default) wx)
      have HFR : Hid ((l.getD j default).owner = -1 → frFree l = some j) := Lib.hid fun ho => frFree_is hlt ho HNO.out
      obtain ⟨⟨x0, x1, x2, x3⟩, hx⟩ : ∃ x, l.getD j default = x := ⟨_, rfl⟩
      rw [hx] at c0 c1 c2 c3 HC HFR
      have HX := Lib.hid hx
      unfold frV at HC
      dsimp only at HC HFR c0 c1 c2 c3
      clear hx
      by_cases ho : x0 = -1
      · have HFE := Lib.hid (HFR.out ho)
        rw [decide_eq_true ho] at HC
        clear ho
        go_wp2_with fail
        refine (HC.out _).mono ?_
        rintro e w1 ⟨rfl, hb1⟩
        have HB1 := Lib.hid (HB.out.trans (hb1.mono HB.out.size))
        clear hb1
        go_wp2
        go_ret
        exact ⟨by rw [HFE.out]; rfl, HB1.out⟩
      · have HO := Lib.hid ho
        rw [decide_eq_false ho] at HC
        clear ho
        go_wp2_with fail
        refine (HC.out _).mono ?_
        rintro e w1 ⟨rfl, hb1⟩
        have HB1 := Lib.hid (HB.out.trans (hb1.mono HB.out.size))
        clear hb1
        go_wp2
        go_roundw
        case rel => exact ⟨j + 1, by omega, by go_num, fun k hk => by
          by_cases e : k = j
          · subst e; rw [HX.out]; exact HO.out
          · exact HNO.out k (by omega), HB1.out⟩
        case measure => simp [intOf]; omega
    · obtain rfl : j = l.length := by omega
      have HFE := Lib.hid (frFree_no HNO.out)
      go_wp2
      go_ret
      exact ⟨by rw [HFE.out]; rfl, HB.out⟩

/-- what Alloc does -/
def FrQA (TB TR : TypeId) (E : Nat → Addr) (b g cap : Nat) (R : FrR) (w : World) (e : Ending) (w' : World) : Prop := e = .returned (.tuple #[.int .i64 R.n, errC E R.c]) ∧ FrAt TB TR w' b g cap R.l ∧ Only (fun k => k = g) w w'
set_option maxRecDepth 100000 in
set_option maxHeartbeats 1600000 in
theorem falloc_any (E : Nat → Addr) (l : List Fr) (b g cap : Nat) (who : Int) (w : World) (hE : ErrsAt errT gOf w E nine) (h : FrAt 128 126 w b g cap l) :
    Calls Tryd.prog 66 #[.pointer (some ⟨b, 0, none⟩), .int .i64 who] w (FrQA 128 126 E b g cap (frAlloc l who) w) := by
  have e2 : w.cell? ⟨0, 0, none⟩ = some (errV (E 2)) := (hE.1 2 (by decide)).1
  have HEK : Hid (∀ wx, Below w.heap.size w wx → wx.cell? ⟨3, 0, none⟩ = some (errV (E 12))) := Lib.hid fun wx hx => ((hE.mono hx).1 12 (by decide)).1
  have HF : Hid (∀ wx, Below w.heap.size w wx → FrAt 128 126 wx b g cap l) := Lib.hid fun wx hx => h.below hx
  have HI := Lib.hid (findex_any l b g cap w h)
  have c := h.hdr
  unfold FrQA
  obtain ⟨R, hR⟩ : ∃ R, frAlloc l who = R := ⟨_, rfl⟩
  rw [hR]
  unfold frAlloc at hR
  by_cases hw : frOwns who
  · rw [if_pos hw] at hR
    have hw' := hw
    unfold frOwns at hw'
    have hc : (¬ who < 0 ∧ ¬ 8 ≤ who) ∨ who = 100 := by omega
    clear hw hw' hE
    cases hN : frFree l with
    | none =>
      rw [hN] at hR HI
      unfold idxV at HI
      dsimp only at hR HI
      subst hR
      clear hN h
      rcases hc with ⟨h1, h2⟩ | rfl
      all_goals
        go_enter Tryd.func66, Tryd.ntmps66
        go_wp2_with fail
        refine HI.out.mono ?_
        rintro e w1 ⟨rfl, hb1⟩
        have e12 := HEK.out _ hb1
        have HB := Lib.hid hb1
        clear hb1
        go_wp2_with fail
        go_quiet (fail)
        go_wp2
        go_ret2
        exact ⟨rfl, HF.out _ (below_drewN HB.out _), Only.of_below (below_drewN HB.out _)⟩
    | some i =>
      obtain ⟨hi, -, -⟩ := frFree_some hN
      rw [hN] at hR HI
      unfold idxV at HI
      dsimp only at hR HI
      subst hR
      have hii : (i : Int) < (l.length : Int) := by omega
      have hi0 : ¬ (i : Int) < 0 := by omega
      clear hN h
      rcases hc with ⟨h1, h2⟩ | rfl
      all_goals
        go_enter Tryd.func66, Tryd.ntmps66
        go_wp2_with fail
        refine HI.out.mono ?_
        rintro e w1 ⟨rfl, hb1⟩
        have HF1 := Lib.hid (HF.out _ hb1)
        have HB := Lib.hid hb1
        have c1 := HF1.out.hdr
        obtain ⟨c2, -, -, -⟩ := HF1.out.cells i hi
        have f0 := HF1.out.free (i * 4)
        clear hb1
        go_wp2
        go_ret2
        exact ⟨rfl, FrAt.put0 HF1.out hi _, only_set (Only.of_below HB.out) _ _⟩
  · rw [if_neg hw] at hR
    subst hR
    have hw' := hw
    unfold frOwns at hw'
    have hne : (who == 100) = false := by simp; omega
    have hc : who < 0 ∨ (¬ who < 0 ∧ 8 ≤ who) := by omega
    clear hw hw' hE h
    rcases hc with h1 | ⟨h1, h2⟩
    all_goals
      go_enter Tryd.func66, Tryd.ntmps66
      go_wp2_with fail
      go_quiet (fail)
      go_wp2
      go_ret2
      exact ⟨rfl, HF.out _ (below_drewN (Below.refl _ _) _), Only.of_below (below_drewN (Below.refl _ _) _)⟩
end Go.Proofs.YtnhocmmgdkiepaaDoor
