/-
  facaderef16.Net: what its functions answer.
-/
import Derived.Test.YtpmbbbgmaipmbaaDoorEvRef
namespace Go.Proofs.YtpmbbbgmaipmbaaDoor
open Go.RowKit

theorem rguest_any (g : Int) (w : World) : Calls Tryd.prog 59 #[.int .i64 g] w fun e w' => e = .returned (.bool (gIs g)) ∧ w = w' := by
  have HG : Hid (∀ r : Bool, r = gIs g ↔ (r = true ↔ 0 ≤ g ∧ g < 8)) := Lib.hid fun r => by unfold gIs; cases r <;> simp <;> omega
  by_cases h0 : g < 0
  · go_enter Tryd.func59, Tryd.ntmps59
    go_wp2
    go_ret
    exact ⟨ret_bool ((HG.out _).2 (by simp; omega)), rfl⟩
  · go_enter Tryd.func59, Tryd.ntmps59
    go_wp2
    go_ret
    exact ⟨ret_bool ((HG.out _).2 (by simp; omega)), rfl⟩
theorem rguest_yes (g : Nat) (h : g < 8) (w : World) : Calls Tryd.prog 59 #[.int .i64 g] w fun e w' => e = .returned (.bool true) ∧ w = w' := by
  have e : gIs (g : Int) = true := by unfold gIs; simp; omega
  have := rguest_any (g : Int) w
  rwa [e] at this
theorem rguest_no (g : Int) (h : ¬ (0 ≤ g ∧ g < 8)) (w : World) : Calls Tryd.prog 59 #[.int .i64 g] w fun e w' => e = .returned (.bool false) ∧ w = w' := by
  have e : gIs g = false := by unfold gIs; rw [Bool.eq_false_iff]; simp; omega
  have := rguest_any g w
  rwa [e] at this

set_option maxHeartbeats 800000 in
theorem rlive_any (l : List Pe) (b g : Nat) (p : Int) (w : World) (h : RNAt w b l) (hg : g < 8) :
    Calls Tryd.prog 60 #[.pointer (some ⟨b, 0, none⟩), .int .i64 g, .int .i64 p] w fun e w' => e = .returned (.bool (atP l g p).isSome) ∧ w = w' := by
  have hgi : (g : Int) < 8 := by omega
  by_cases h0 : p < 0
  · have hN : Hid (atP l g p = none) := Lib.hid (by unfold atP; rw [if_neg (by omega)])
    have hp : decide (0 ≤ p) = false := by simp; omega
    clear h
    go_enter Tryd.func60, Tryd.ntmps60
    go_wp2
    go_ret
    exact ⟨by rw [hN.out]; rfl, rfl⟩
  · by_cases h1 : 16 ≤ p
    · have hN : Hid (atP l g p = none) := Lib.hid (by unfold atP; rw [if_neg (by omega)])
      have hp : decide (p < 16) = false := by simp; omega
      clear h
      go_enter Tryd.func60, Tryd.ntmps60
      go_wp2
      go_ret
      exact ⟨by rw [hN.out]; rfl, rfl⟩
    · obtain ⟨r, rfl⟩ := Int.eq_ofNat_of_zero_le (show 0 ≤ p by omega)
      have hr : r < 16 := by omega
      obtain ⟨c0, -, -, -, -⟩ := h.cells g r hg hr
      have hlt := h.lt
      have HL : Hid ((atP l g (r : Int)).isSome = (l.getD (g * 16 + r) default).live) := Lib.hid (by
        unfold atP
        by_cases e : (l.getD (g * 16 + r) default).live = true
        · rw [if_pos ⟨by omega, by omega, by simpa using e⟩, e]; rfl
        · rw [if_neg (fun h => e (by simpa using h.2.2))]
          revert e
          cases (l.getD (g * 16 + r) default).live <;> simp)
      obtain ⟨v, hv⟩ : ∃ v, (l.getD (g * 16 + r) default).live = v := ⟨_, rfl⟩
      rw [hv] at c0 HL
      have hri : (r : Int) < 16 := by omega
      clear h hv
      go_enter Tryd.func60, Tryd.ntmps60
      go_wp2
      go_ret
      exact ⟨by rw [HL.out]; rfl, rfl⟩

/-- what Alloc answers -/
def RAllocPost (l : List Pe) (b g : Nat) (w : World) (e : Ending) (w' : World) : Prop :=
  (∀ i, allocP l g = some i → e = .returned (.tuple #[.int .i64 (i : Int), .int .i64 0]) ∧ RNAt w' b (l.set (g * 16 + i) { live := true }) ∧ Only (fun k => k = b) w w') ∧
  (allocP l g = none → e = .returned (.tuple #[.int .i64 0, .int .i64 104]) ∧ w = w')
theorem ralloc_bad (b : Nat) (g : Int) (w : World) (h : ¬ (0 ≤ g ∧ g < 8)) :
    Calls Tryd.prog 40 #[.pointer (some ⟨b, 0, none⟩), .int .i64 g] w fun e w' => e = .returned (.tuple #[.int .i64 0, .int .i64 103]) ∧ w = w' := by
  have HG := Lib.hid (rguest_no g h)
  clear h
  go_enter Tryd.func40, Tryd.ntmps40
  go_wp2_with (go_at_call 59; refine (HG.out _).mono ?_; rintro e w1 ⟨rfl, rfl⟩)
  go_ret2
  exact ⟨rfl, rfl⟩
set_option maxRecDepth 100000 in
set_option maxHeartbeats 1600000 in
theorem ralloc_any (l : List Pe) (b g : Nat) (w : World) (h : RNAt w b l) (hg : g < 8) :
    Calls Tryd.prog 40 #[.pointer (some ⟨b, 0, none⟩), .int .i64 g] w (RAllocPost l b g w) := by
  have HG := Lib.hid (rguest_yes g hg)
  have HN := Lib.hid h
  have hlt := h.lt
  have hgi : (g : Int) < 8 := by omega
  clear h
  go_enter Tryd.func40, Tryd.ntmps40
  go_wp2_with (go_at_call 59; refine (HG.out _).mono ?_; rintro e w1 ⟨rfl, rfl⟩)
  go_loop [6] (fun i => AllTo l g i) (fun i => 16 - (intOf i).toNat)
  case atStart => exact ⟨0, Nat.zero_le _, fun k hk => absurd hk (by omega), rfl⟩
  case round =>
    obtain ⟨j, hj, hall, rfl⟩ := hrel
    have HALL := Lib.hid hall
    clear hall
    by_cases hlt16 : j < 16
    · obtain ⟨c0, c1, c2, c3, c4⟩ := HN.out.cells g j hg hlt16
      have f0 := HN.out.free (g * 80 + j * 5)
      have f1 := HN.out.free (g * 80 + j * 5 + 1)
      have f2 := HN.out.free (g * 80 + j * 5 + 2)
      have f3 := HN.out.free (g * 80 + j * 5 + 3)
      have f4 := HN.out.free (g * 80 + j * 5 + 4)
      have hji : (j : Int) < 16 := by omega
      obtain ⟨v, hv⟩ : ∃ v, (l.getD (g * 16 + j) default).live = v := ⟨_, rfl⟩
      have HV := Lib.hid hv
      have HP := Lib.hid (HN.out.putAll g j hg hlt16 { live := true } (.bool true) (.bool false) (.bool false) (.int .i64 (-1)) (.int .i64 (-1)) rfl)
      have HO := Lib.hid (ev5 w b (g * 80 + j * 5) (g * 80 + j * 5 + 1) (g * 80 + j * 5 + 2) (g * 80 + j * 5 + 3) (g * 80 + j * 5 + 4) (.bool true) (.bool false) (.bool false) (.int .i64 (-1)) (.int .i64 (-1)))
      rw [hv] at c0
      clear hv
      cases v
      · go_wp2
        go_ret2
        exact ⟨fun i hi => by
          rw [allocP_some l g j HALL.out hlt16 HV.out] at hi
          obtain rfl := Option.some.inj hi
          exact ⟨rfl, HP.out, HO.out⟩, fun hn => by rw [allocP_some l g j HALL.out hlt16 HV.out] at hn; cases hn⟩
      · go_wp2
        go_round
        case rel => exact ⟨j + 1, by omega, fun k hk => by
          by_cases e : k = j
          · subst e; exact HV.out
          · exact HALL.out k (by omega), by go_num⟩
        case measure => simp [intOf]; omega
    · obtain rfl : j = 16 := by omega
      go_wp2
      go_ret2
      exact ⟨(fun i hi => by rw [allocP_none l g HALL.out] at hi; cases hi), fun _ => ⟨rfl, rfl⟩⟩

theorem rmask_bad (b : Nat) (g p : Int) (v : Bool) (w : World) (h : ¬ (0 ≤ g ∧ g < 8)) :
    Calls Tryd.prog 43 #[.pointer (some ⟨b, 0, none⟩), .int .i64 g, .int .i64 p, .bool v] w fun e w' => e = .returned (.int .i64 103) ∧ w = w' := by
  have HG := Lib.hid (rguest_no g h)
  clear h
  go_enter Tryd.func43, Tryd.ntmps43
  go_wp2_with (go_at_call 59; refine (HG.out _).mono ?_; rintro e w1 ⟨rfl, rfl⟩)
  go_ret
  exact ⟨rfl, rfl⟩
theorem rmask_none (l : List Pe) (b g : Nat) (p : Int) (v : Bool) (w : World) (h : RNAt w b l) (hg : g < 8) (ha : atP l g p = none) :
    Calls Tryd.prog 43 #[.pointer (some ⟨b, 0, none⟩), .int .i64 g, .int .i64 p, .bool v] w fun e w' => e = .returned (.int .i64 107) ∧ w = w' := by
  have HG := Lib.hid (rguest_yes g hg)
  have HA := Lib.hid (rlive_any l b g p w h hg)
  rw [ha] at HA
  clear h ha
  go_enter Tryd.func43, Tryd.ntmps43
  go_wp2_with fail
  refine (HG.out _).mono ?_
  rintro e w1 ⟨rfl, rfl⟩
  go_wp2_with fail
  refine HA.out.mono ?_
  rintro e w1 ⟨rfl, rfl⟩
  rw [Option.isSome_none]
  go_wp2
  go_ret
  exact ⟨rfl, rfl⟩
theorem rmask_ok (l : List Pe) (b g r : Nat) (v : Bool) (w : World) (h : RNAt w b l) (hg : g < 8) (ha : atP l g r = some r) :
    Calls Tryd.prog 43 #[.pointer (some ⟨b, 0, none⟩), .int .i64 g, .int .i64 r, .bool v] w fun e w' => e = .returned (.int .i64 0) ∧ RNAt w' b (l.set (g * 16 + r) { l.getD (g * 16 + r) default with masked := v }) ∧ Only (fun k => k = b) w w' := by
  have hr := (atP_lt ha).1
  have hgi : (g : Int) < 8 := by omega
  have hri : (r : Int) < 16 := by omega
  have HG := Lib.hid (rguest_yes g hg)
  have HA := Lib.hid (rlive_any l b g r w h hg)
  rw [ha] at HA
  obtain ⟨-, c1, -, -, -⟩ := h.cells g r hg hr
  have f1 := h.free (g * 80 + r * 5 + 1)
  have HP := Lib.hid (h.put g r 1 hg hr (by decide) { l.getD (g * 16 + r) default with masked := v } (.bool v) rfl)
  have HO := Lib.hid (ev1 w b (g * 80 + r * 5 + 1) (.bool v))
  clear h ha
  go_enter Tryd.func43, Tryd.ntmps43
  go_wp2_with fail
  refine (HG.out _).mono ?_
  rintro e w1 ⟨rfl, rfl⟩
  go_wp2_with fail
  refine HA.out.mono ?_
  rintro e w1 ⟨rfl, rfl⟩
  rw [Option.isSome_some]
  go_wp2
  go_ret
  exact ⟨rfl, HP.out, HO.out⟩

theorem rsend_bad (b : Nat) (g p : Int) (w : World) (h : ¬ (0 ≤ g ∧ g < 8)) :
    Calls Tryd.prog 42 #[.pointer (some ⟨b, 0, none⟩), .int .i64 g, .int .i64 p] w fun e w' => e = .returned (.int .i64 103) ∧ w = w' := by
  have HG := Lib.hid (rguest_no g h)
  clear h
  go_enter Tryd.func42, Tryd.ntmps42
  go_wp2_with (go_at_call 59; refine (HG.out _).mono ?_; rintro e w1 ⟨rfl, rfl⟩)
  go_ret
  exact ⟨rfl, rfl⟩
set_option maxHeartbeats 800000 in
theorem rsend_none (l : List Pe) (b g : Nat) (p : Int) (w : World) (h : RNAt w b l) (hi : Inv l) (hg : g < 8) (ha : sendP l g p = none) :
    Calls Tryd.prog 42 #[.pointer (some ⟨b, 0, none⟩), .int .i64 g, .int .i64 p] w fun e w' => e = .returned (.int .i64 107) ∧ w = w' := by
  have hgi : (g : Int) < 8 := by omega
  have HG := Lib.hid (rguest_yes g hg)
  have HA := Lib.hid (rlive_any l b g p w h hg)
  unfold sendP at ha
  cases hq : atP l g p with
  | none =>
    rw [hq] at HA
    clear h ha hq
    go_enter Tryd.func42, Tryd.ntmps42
    go_wp2_with fail
    refine (HG.out _).mono ?_
    rintro e w1 ⟨rfl, rfl⟩
    go_wp2_with fail
    refine HA.out.mono ?_
    rintro e w1 ⟨rfl, rfl⟩
    rw [Option.isSome_none]
    go_wp2
    go_ret
    exact ⟨rfl, rfl⟩
  | some r =>
    rw [hq] at HA ha
    obtain ⟨hr, rfl, hlv⟩ := atP_lt hq
    have hri : (r : Int) < 16 := by omega
    have hbd : (l.getD (g * 16 + r) default).bound = false := by
      dsimp only at ha
      revert ha
      cases (l.getD (g * 16 + r) default).bound <;> simp
    obtain ⟨-, -, -, c3, -⟩ := h.cells g r hg hr
    have hs := (hi.sign (g * 16 + r) (by omega) hlv).2
    rw [hbd] at hs
    obtain ⟨z, hz⟩ : ∃ z, gP (l.getD (g * 16 + r) default) = z := ⟨_, rfl⟩
    rw [hz] at c3 hs
    have hs' : z < 0 := by simpa using hs
    clear h hi ha hq hbd hz hlv hs
    go_enter Tryd.func42, Tryd.ntmps42
    go_wp2_with fail
    refine (HG.out _).mono ?_
    rintro e w1 ⟨rfl, rfl⟩
    go_wp2_with fail
    refine HA.out.mono ?_
    rintro e w1 ⟨rfl, rfl⟩
    rw [Option.isSome_some]
    go_wp2
    go_ret
    exact ⟨rfl, rfl⟩
set_option maxRecDepth 100000 in
set_option maxHeartbeats 800000 in
theorem rsend_ok (l : List Pe) (b g r og op : Nat) (w : World) (h : RNAt w b l) (hg : g < 8) (ha : sendP l g r = some r) (hog : (l.getD (g * 16 + r) default).guest = (og : Int)) (hop : (l.getD (g * 16 + r) default).port = (op : Int)) (hog8 : og < 8) (hop16 : op < 16) :
    Calls Tryd.prog 42 #[.pointer (some ⟨b, 0, none⟩), .int .i64 g, .int .i64 r] w fun e w' => e = .returned (.int .i64 0) ∧ RNAt w' b (l.set (og * 16 + op) { l.getD (og * 16 + op) default with pend := true }) ∧ Only (fun k => k = b) w w' := by
  have hgi : (g : Int) < 8 := by omega
  have HG := Lib.hid (rguest_yes g hg)
  have HA := Lib.hid (rlive_any l b g r w h hg)
  unfold sendP at ha
  cases hq : atP l g r with
  | none => rw [hq] at ha; cases ha
  | some r' =>
    obtain ⟨hr, hrr, hlv⟩ := atP_lt hq
    obtain rfl : r = r' := by omega
    rw [hq] at HA ha
    dsimp only at ha
    split at ha
    · rename_i hbd
      have hri : (r : Int) < 16 := by omega
      obtain ⟨c0, c1, c2, c3, c4⟩ := h.cells g r hg hr
      have hg' : gP (l.getD (g * 16 + r) default) = (og : Int) := by unfold gP; rw [if_pos hbd, hog]
      have hp' : pP (l.getD (g * 16 + r) default) = (op : Int) := by unfold pP; rw [if_pos hbd, hop]
      rw [hg'] at c3
      rw [hp'] at c4
      obtain ⟨v1, hv1⟩ : ∃ v, (l.getD (g * 16 + r) default).masked = v := ⟨_, rfl⟩
      obtain ⟨v2, hv2⟩ : ∃ v, (l.getD (g * 16 + r) default).pend = v := ⟨_, rfl⟩
      rw [hlv] at c0
      rw [hv1] at c1
      rw [hv2] at c2
      have HB : Hid (∀ X, Below w.heap.size w (w.alloc X)) := Lib.hid fun X => (Below.refl _ _).alloc (Nat.le_refl _) _
      have HPP : Hid (∀ X, RNAt ((w.setCell ⟨b, og * 80 + op * 5 + 2, none⟩ (.bool true)).alloc X).drew b (l.set (og * 16 + op) { l.getD (og * 16 + op) default with pend := true })) := Lib.hid fun X => by
        have h1 := (h.put og op 2 hog8 hop16 (by decide) { l.getD (og * 16 + op) default with pend := true } (.bool true) rfl).below ((Below.refl _ _).alloc (Nat.le_refl _) X)
        exact ⟨h1.1, h1.2⟩
      have HO : Hid (∀ X, Only (fun k => k = b) w ((w.setCell ⟨b, og * 80 + op * 5 + 2, none⟩ (.bool true)).alloc X).drew) := Lib.hid fun X => ((ev1 w b _ _).alloc' X).drew
      have HC := h.cells og op hog8 hop16
      have k3 := HC.2.2.1
      have f3 := h.free (og * 80 + op * 5 + 2)
      have i1 : (og : Int) < 8 := by omega
      have i2 : (op : Int) < 16 := by omega
      have hlt := h.lt
      clear h ha hq hbd hog hop HC hg' hp' hv1 hv2 hlv hrr
      go_enter Tryd.func42, Tryd.ntmps42
      go_wp2_with fail
      refine (HG.out _).mono ?_
      rintro e w1 ⟨rfl, rfl⟩
      go_wp2_with fail
      refine HA.out.mono ?_
      rintro e w1 ⟨rfl, rfl⟩
      rw [Option.isSome_some]
      go_wp2
      go_region
      all_goals
        go_wp2
        go_ret
        exact ⟨rfl, HPP.out _, HO.out _⟩
    · cases ha
end Go.Proofs.YtpmbbbgmaipmbaaDoor
