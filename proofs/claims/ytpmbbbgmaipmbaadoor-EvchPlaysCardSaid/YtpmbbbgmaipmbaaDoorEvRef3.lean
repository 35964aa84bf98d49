/-
  facaderef16.Net: Bind, Look, Take, Bits.
-/
import Derived.Test.YtpmbbbgmaipmbaaDoorEvRef2
namespace Go.Proofs.YtpmbbbgmaipmbaaDoor
open Go.RowKit

theorem rbind_bad (b : Nat) (g p o q : Int) (w : World) (h : ¬ (0 ≤ g ∧ g < 8) ∨ ¬ (0 ≤ o ∧ o < 8)) :
    Calls Tryd.prog 41 #[.pointer (some ⟨b, 0, none⟩), .int .i64 g, .int .i64 p, .int .i64 o, .int .i64 q] w fun e w' => e = .returned (.int .i64 103) ∧ w = w' := by
  by_cases hg : 0 ≤ g ∧ g < 8
  · have hy : Hid (∀ wx, Calls Tryd.prog 59 #[.int .i64 g] wx fun e w' => e = .returned (.bool true) ∧ wx = w') := Lib.hid fun wx => by
      obtain ⟨n, rfl⟩ := Int.eq_ofNat_of_zero_le hg.1
      exact rguest_yes n (by omega) wx
    have hn := Lib.hid (rguest_no o (h.resolve_left (fun h => h hg)))
    clear h hg
    go_enter Tryd.func41, Tryd.ntmps41
    go_wp2_with fail
    refine (hy.out _).mono ?_
    rintro e w1 ⟨rfl, rfl⟩
    go_wp2_with fail
    refine (hn.out _).mono ?_
    rintro e w1 ⟨rfl, rfl⟩
    go_wp2
    go_ret
    exact ⟨rfl, rfl⟩
  · have HG := Lib.hid (rguest_no g hg)
    clear h hg
    go_enter Tryd.func41, Tryd.ntmps41
    go_wp2_with (go_at_call 59; refine (HG.out _).mono ?_; rintro e w1 ⟨rfl, rfl⟩)
    go_ret
    exact ⟨rfl, rfl⟩
set_option maxRecDepth 100000 in
set_option maxHeartbeats 1600000 in
theorem rbind_none (l : List Pe) (b g o : Nat) (p q : Int) (w : World) (h : RNAt w b l) (hg : g < 8) (ho : o < 8) (ha : atP l g p = none ∨ atP l o q = none) :
    Calls Tryd.prog 41 #[.pointer (some ⟨b, 0, none⟩), .int .i64 g, .int .i64 p, .int .i64 o, .int .i64 q] w fun e w' => e = .returned (.int .i64 107) ∧ w = w' := by
  have HG := Lib.hid (rguest_yes g hg)
  have HGo := Lib.hid (rguest_yes o ho)
  have HA := Lib.hid (rlive_any l b g p w h hg)
  have HB := Lib.hid (rlive_any l b o q w h ho)
  obtain ⟨u, hu⟩ : ∃ u, atP l g p = u := ⟨_, rfl⟩
  obtain ⟨v, hv⟩ : ∃ v, atP l o q = v := ⟨_, rfl⟩
  rw [hu] at HA ha
  rw [hv] at HB ha
  clear h hu hv
  have hc : u = none ∨ ∃ r, u = some r ∧ v = none := by
    rcases ha with h | h
    · exact .inl h
    · cases u with
      | none => exact .inl rfl
      | some r => exact .inr ⟨r, rfl, h⟩
  clear ha
  rcases hc with rfl | ⟨r, rfl, rfl⟩
  · go_enter Tryd.func41, Tryd.ntmps41
    go_wp2_with fail
    refine (HG.out _).mono ?_
    rintro e w1 ⟨rfl, rfl⟩
    go_wp2_with fail
    refine (HGo.out _).mono ?_
    rintro e w1 ⟨rfl, rfl⟩
    go_wp2_with fail
    refine HA.out.mono ?_
    rintro e w1 ⟨rfl, rfl⟩
    rw [Option.isSome_none]
    go_wp2
    go_ret
    exact ⟨rfl, rfl⟩
  · go_enter Tryd.func41, Tryd.ntmps41
    go_wp2_with fail
    refine (HG.out _).mono ?_
    rintro e w1 ⟨rfl, rfl⟩
    go_wp2_with fail
    refine (HGo.out _).mono ?_
    rintro e w1 ⟨rfl, rfl⟩
    go_wp2_with fail
    refine HA.out.mono ?_
    rintro e w1 ⟨rfl, rfl⟩
    rw [Option.isSome_some]
    go_wp2_with fail
    refine HB.out.mono ?_
    rintro e w1 ⟨rfl, rfl⟩
    rw [Option.isSome_none]
    go_wp2
    go_ret
    exact ⟨rfl, rfl⟩
set_option maxRecDepth 100000 in
set_option maxHeartbeats 1600000 in
theorem rbind_busy (l : List Pe) (b g o r s : Nat) (w : World) (h : RNAt w b l) (hi : Inv l) (hg : g < 8) (ho : o < 8) (ha : atP l g r = some r) (hb : atP l o s = some s) (hbs : busyB l g r o s) :
    Calls Tryd.prog 41 #[.pointer (some ⟨b, 0, none⟩), .int .i64 g, .int .i64 r, .int .i64 o, .int .i64 s] w fun e w' => e = .returned (.int .i64 112) ∧ w = w' := by
  have HG := Lib.hid (rguest_yes g hg)
  have HGo := Lib.hid (rguest_yes o ho)
  have HA := Lib.hid (rlive_any l b g r w h hg)
  have HB := Lib.hid (rlive_any l b o s w h ho)
  obtain ⟨hr, -, hlv1⟩ := atP_lt ha
  obtain ⟨hs, -, hlv2⟩ := atP_lt hb
  have hgi : (g : Int) < 8 := by omega
  have hoi : (o : Int) < 8 := by omega
  have hri : (r : Int) < 16 := by omega
  have hsi : (s : Int) < 16 := by omega
  rw [ha] at HA
  rw [hb] at HB
  obtain ⟨-, -, -, ca, -⟩ := h.cells g r hg hr
  obtain ⟨-, -, -, cb, -⟩ := h.cells o s ho hs
  have sa := (hi.sign (g * 16 + r) (by omega) hlv1).1
  have sb := (hi.sign (o * 16 + s) (by omega) hlv2).1
  obtain ⟨u, hu⟩ : ∃ u, (l.getD (g * 16 + r) default).bound = u := ⟨_, rfl⟩
  obtain ⟨v, hv⟩ : ∃ v, (l.getD (o * 16 + s) default).bound = v := ⟨_, rfl⟩
  obtain ⟨x, hx⟩ : ∃ u, gP (l.getD (g * 16 + r) default) = u := ⟨_, rfl⟩
  obtain ⟨y, hy⟩ : ∃ u, gP (l.getD (o * 16 + s) default) = u := ⟨_, rfl⟩
  unfold busyB at hbs
  rw [hu] at sa hbs
  rw [hv] at sb hbs
  rw [hx] at sa ca
  rw [hy] at sb cb
  clear h hi ha hb hu hv hx hy hlv1 hlv2
  have hc : u = true ∨ (u = false ∧ v = true) ∨ (u = false ∧ v = false ∧ g = o ∧ r = s) := by
    cases u <;> cases v <;> simp_all
  clear hbs
  rcases hc with rfl | ⟨rfl, rfl⟩ | ⟨rfl, rfl, rfl, rfl⟩
  all_goals
    go_enter Tryd.func41, Tryd.ntmps41
    go_wp2_with fail
    refine (HG.out _).mono ?_
    rintro e w1 ⟨rfl, rfl⟩
    go_wp2_with fail
    refine (HGo.out _).mono ?_
    rintro e w1 ⟨rfl, rfl⟩
    go_wp2_with fail
    refine HA.out.mono ?_
    rintro e w1 ⟨rfl, rfl⟩
    rw [Option.isSome_some]
    go_wp2_with fail
    refine HB.out.mono ?_
    rintro e w1 ⟨rfl, rfl⟩
    rw [Option.isSome_some]
    go_wp2
    go_ret
    exact ⟨rfl, rfl⟩
set_option maxRecDepth 100000 in
set_option maxHeartbeats 1600000 in
theorem rbind_ok (l : List Pe) (b g o r s : Nat) (w : World) (h : RNAt w b l) (hi : Inv l) (hg : g < 8) (ho : o < 8) (ha : atP l g r = some r) (hb : atP l o s = some s) (hbs : ¬ busyB l g r o s) :
    Calls Tryd.prog 41 #[.pointer (some ⟨b, 0, none⟩), .int .i64 g, .int .i64 r, .int .i64 o, .int .i64 s] w fun e w' => e = .returned (.int .i64 0) ∧ RNAt w' b (bindTo (bindTo l (g * 16 + r) o s) (o * 16 + s) g r) ∧ Only (fun k => k = b) w w' := by
  have HG := Lib.hid (rguest_yes g hg)
  have HGo := Lib.hid (rguest_yes o ho)
  have HA := Lib.hid (rlive_any l b g r w h hg)
  have HB := Lib.hid (rlive_any l b o s w h ho)
  obtain ⟨hr, -, hlv1⟩ := atP_lt ha
  obtain ⟨hs, -, hlv2⟩ := atP_lt hb
  have hgi : (g : Int) < 8 := by omega
  have hoi : (o : Int) < 8 := by omega
  have hri : (r : Int) < 16 := by omega
  have hsi : (s : Int) < 16 := by omega
  rw [ha] at HA
  rw [hb] at HB
  obtain ⟨-, -, -, ca, k4⟩ := h.cells g r hg hr
  obtain ⟨-, -, -, cb, m4⟩ := h.cells o s ho hs
  have f3 := h.free (g * 80 + r * 5 + 3)
  have f4 := h.free (g * 80 + r * 5 + 4)
  have e3 := h.free (o * 80 + s * 5 + 3)
  have e4 := h.free (o * 80 + s * 5 + 4)
  have hne : g * 16 + r ≠ o * 16 + s := fun e => hbs (.inr (.inr ⟨by omega, by omega⟩))
  have hu : (l.getD (g * 16 + r) default).bound = false := by
    have : ¬ (l.getD (g * 16 + r) default).bound = true := fun e => hbs (.inl e)
    simpa using this
  have hv : (l.getD (o * 16 + s) default).bound = false := by
    have : ¬ (l.getD (o * 16 + s) default).bound = true := fun e => hbs (.inr (.inl e))
    simpa using this
  have sa := (hi.sign (g * 16 + r) (by omega) hlv1).1
  have sb := (hi.sign (o * 16 + s) (by omega) hlv2).1
  rw [hu] at sa
  rw [hv] at sb
  have HP := Lib.hid ((h.bind g r hg hr o s hlv1 hu).bind o s ho hs g r (by
    unfold bindTo
    rw [set_getD _ _ _ _ (by rw [h.2]; omega), if_neg (fun e => hne e.symm)]
    exact hlv2) (by
    unfold bindTo
    rw [set_getD _ _ _ _ (by rw [h.2]; omega), if_neg (fun e => hne e.symm)]
    exact hv))
  have HO := Lib.hid ((ev2 w b (g * 80 + r * 5 + 3) (g * 80 + r * 5 + 4) (.int .i64 o) (.int .i64 s)).trans (ev2 _ b (o * 80 + s * 5 + 3) (o * 80 + s * 5 + 4) (.int .i64 g) (.int .i64 r)))
  have hnn : g = o → ¬ ((r : Int) == (s : Int)) = true := fun e => by simp; omega
  obtain ⟨x, hx⟩ : ∃ u, gP (l.getD (g * 16 + r) default) = u := ⟨_, rfl⟩
  obtain ⟨y, hy⟩ : ∃ u, gP (l.getD (o * 16 + s) default) = u := ⟨_, rfl⟩
  rw [hx] at sa ca
  rw [hy] at sb cb
  have n3 : g * 80 + r * 5 + 3 ≠ o * 80 + s * 5 + 3 := by omega
  have n4 : g * 80 + r * 5 + 4 ≠ o * 80 + s * 5 + 4 := by omega
  have HNN := Lib.hid hnn
  have HNE := Lib.hid hne
  clear h hi ha hb hu hv hbs hx hy hlv1 hlv2 hnn hne
  by_cases hgo : g = o
  · have b1 : ((r : Int) == (s : Int)) = false := by simpa using HNN.out hgo
    subst hgo
    go_enter Tryd.func41, Tryd.ntmps41
    go_wp2_with fail
    refine (HG.out _).mono ?_
    rintro e w1 ⟨rfl, rfl⟩
    go_wp2_with fail
    refine (HGo.out _).mono ?_
    rintro e w1 ⟨rfl, rfl⟩
    go_wp2_with fail
    refine HA.out.mono ?_
    rintro e w1 ⟨rfl, rfl⟩
    rw [Option.isSome_some]
    go_wp2_with fail
    refine HB.out.mono ?_
    rintro e w1 ⟨rfl, rfl⟩
    rw [Option.isSome_some]
    go_wp2
    go_ret
    exact ⟨rfl, HP.out, HO.out⟩
  · have b1 : ((g : Int) == (o : Int)) = false := by simp; omega
    clear hgo
    go_enter Tryd.func41, Tryd.ntmps41
    go_wp2_with fail
    refine (HG.out _).mono ?_
    rintro e w1 ⟨rfl, rfl⟩
    go_wp2_with fail
    refine (HGo.out _).mono ?_
    rintro e w1 ⟨rfl, rfl⟩
    go_wp2_with fail
    refine HA.out.mono ?_
    rintro e w1 ⟨rfl, rfl⟩
    rw [Option.isSome_some]
    go_wp2_with fail
    refine HB.out.mono ?_
    rintro e w1 ⟨rfl, rfl⟩
    rw [Option.isSome_some]
    go_wp2
    go_ret
    exact ⟨rfl, HP.out, HO.out⟩

theorem rlook_bad (b : Nat) (g : Int) (w : World) (h : ¬ (0 ≤ g ∧ g < 8)) :
    Calls Tryd.prog 44 #[.pointer (some ⟨b, 0, none⟩), .int .i64 g] w fun e w' => e = .returned (.int .u32 0) ∧ w = w' := by
  have HG := Lib.hid (rguest_no g h)
  clear h
  go_enter Tryd.func44, Tryd.ntmps44
  go_wp2_with fail
  go_loop [5, 6] (fun p i => p = .int .u32 0 ∧ i = .int .i64 0) (fun _ _ => 0)
  case atStart => exact ⟨rfl, rfl⟩
  case round =>
    obtain ⟨rfl, rfl⟩ := hrel
    go_wp2_with (go_at_call 59; refine (HG.out _).mono ?_; rintro e w1 ⟨rfl, rfl⟩)
    go_ret
    exact ⟨rfl, rfl⟩
def LookTo (f : Nat → Bool) (p i : Value) : Prop := ∃ j : Nat, j ≤ 16 ∧ i = .int .i64 (j : Int) ∧ p = .int .u32 (orN f j : Nat)
set_option maxRecDepth 100000 in
set_option maxHeartbeats 1600000 in
theorem rlook_any (l : List Pe) (b g : Nat) (w : World) (h : RNAt w b l) (hg : g < 8) :
    Calls Tryd.prog 44 #[.pointer (some ⟨b, 0, none⟩), .int .i64 g] w fun e w' => e = .returned (.int .u32 (anyE l g : Nat)) ∧ w = w' := by
  have HG := Lib.hid (rguest_yes g hg)
  have HN := Lib.hid h
  have hgi : (g : Int) < 8 := by omega
  have hlt := h.lt
  clear h
  go_enter Tryd.func44, Tryd.ntmps44
  go_wp2_with fail
  go_loop [5, 6] (fun p i => LookTo (fun i => pendB l g i && !maskB l g i) p i) (fun _ i => 16 - (intOf i).toNat)
  case atStart => exact ⟨0, Nat.zero_le _, rfl, rfl⟩
  case round =>
    obtain ⟨j, hj, rfl, rfl⟩ := hrel
    by_cases hlt16 : j < 16
    · have hji : (j : Int) < 16 := by omega
      obtain ⟨-, c1, c2, -, -⟩ := HN.out.cells g j hg hlt16
      have HP1 := Lib.hid (orN_step' (fun i => pendB l g i && !maskB l g i) j (by omega))
      have HP0 := Lib.hid (orN_skip (fun i => pendB l g i && !maskB l g i) j)
      have HPB : Hid (pendB l g j = (l.getD (g * 16 + j) default).pend ∧ maskB l g j = (l.getD (g * 16 + j) default).masked) := Lib.hid ⟨rfl, rfl⟩
      obtain ⟨mk, hmk⟩ : ∃ x, (l.getD (g * 16 + j) default).masked = x := ⟨_, rfl⟩
      obtain ⟨pn, hpn⟩ : ∃ x, (l.getD (g * 16 + j) default).pend = x := ⟨_, rfl⟩
      rw [hmk] at c1 HPB
      rw [hpn] at c2 HPB
      obtain ⟨P0, hP0⟩ : ∃ S : Int, ((orN (fun i => pendB l g i && !maskB l g i) j : Nat) : Int) = S := ⟨_, rfl⟩
      have HPe := Lib.hid hP0
      rw [hP0] at HP1 ⊢
      clear hP0 hmk hpn
      cases pn
      · have HF : Hid ((pendB l g j && !maskB l g j) = false) := Lib.hid (by rw [HPB.out.1]; rfl)
        go_wp2_with (go_at_call 59; refine (HG.out _).mono ?_; rintro e w1 ⟨rfl, rfl⟩)
        go_round
        case rel => exact ⟨j + 1, by omega, by go_num, by rw [HP0.out HF.out, HPe.out]⟩
        case measure => simp [intOf]; omega
      · cases mk
        · have HF : Hid ((pendB l g j && !maskB l g j) = true) := Lib.hid (by rw [HPB.out.1, HPB.out.2]; rfl)
          have hq := HP1.out HF.out
          go_wp2_with (go_at_call 59; refine (HG.out _).mono ?_; rintro e w1 ⟨rfl, rfl⟩)
          go_round
          case rel => exact ⟨j + 1, by omega, by go_num, rfl⟩
          case measure => simp [intOf]; omega
        · have HF : Hid ((pendB l g j && !maskB l g j) = false) := Lib.hid (by rw [HPB.out.2, Bool.not_true, Bool.and_false])
          go_wp2_with (go_at_call 59; refine (HG.out _).mono ?_; rintro e w1 ⟨rfl, rfl⟩)
          go_round
          case rel => exact ⟨j + 1, by omega, by go_num, by rw [HP0.out HF.out, HPe.out]⟩
          case measure => simp [intOf]; omega
    · obtain rfl : j = 16 := by omega
      go_wp2_with (go_at_call 59; refine (HG.out _).mono ?_; rintro e w1 ⟨rfl, rfl⟩)
      go_ret
      exact ⟨rfl, rfl⟩
theorem rbits_bad (b : Nat) (g : Int) (w : World) (h : ¬ (0 ≤ g ∧ g < 8)) :
    Calls Tryd.prog 46 #[.pointer (some ⟨b, 0, none⟩), .int .i64 g] w fun e w' => e = .returned (.tuple #[.int .u32 0, .int .u32 0]) ∧ w = w' := by
  have HG := Lib.hid (rguest_no g h)
  clear h
  go_enter Tryd.func46, Tryd.ntmps46
  go_wp2_with fail
  go_loop [6, 7, 8] (fun p q i => p = .int .u32 0 ∧ q = .int .u32 0 ∧ i = .int .i64 0) (fun _ _ _ => 0)
  case atStart => exact ⟨rfl, rfl, rfl⟩
  case round =>
    obtain ⟨rfl, rfl, rfl⟩ := hrel
    go_wp2_with (go_at_call 59; refine (HG.out _).mono ?_; rintro e w1 ⟨rfl, rfl⟩)
    go_ret2
    exact ⟨rfl, rfl⟩
def RBitsTo (l : List Pe) (g : Nat) (p m i : Value) : Prop :=
  ∃ j : Nat, j ≤ 16 ∧ i = .int .i64 (j : Int) ∧ p = .int .u32 (orN (pendB l g) j : Nat) ∧ m = .int .u32 (orN (maskB l g) j : Nat)
set_option maxRecDepth 100000 in
set_option maxHeartbeats 1600000 in
theorem rbits_any (l : List Pe) (b g : Nat) (w : World) (h : RNAt w b l) (hg : g < 8) :
    Calls Tryd.prog 46 #[.pointer (some ⟨b, 0, none⟩), .int .i64 g] w fun e w' => e = .returned (.tuple #[.int .u32 (orN (pendB l g) 16 : Nat), .int .u32 (orN (maskB l g) 16 : Nat)]) ∧ w = w' := by
  have HG := Lib.hid (rguest_yes g hg)
  have HN := Lib.hid h
  have hgi : (g : Int) < 8 := by omega
  have hlt := h.lt
  clear h
  go_enter Tryd.func46, Tryd.ntmps46
  go_wp2_with fail
  go_loop [6, 7, 8] (fun p m i => RBitsTo l g p m i) (fun _ _ i => 16 - (intOf i).toNat)
  case atStart => exact ⟨0, Nat.zero_le _, rfl, rfl, rfl⟩
  case round =>
    obtain ⟨j, hj, rfl, rfl, rfl⟩ := hrel
    by_cases hlt16 : j < 16
    · have hji : (j : Int) < 16 := by omega
      obtain ⟨-, c1, c2, -, -⟩ := HN.out.cells g j hg hlt16
      have HP1 := Lib.hid (orN_step' (pendB l g) j (by omega))
      have HP0 := Lib.hid (orN_skip (pendB l g) j)
      have HM1 := Lib.hid (orN_step' (maskB l g) j (by omega))
      have HM0 := Lib.hid (orN_skip (maskB l g) j)
      have HPB : Hid (pendB l g j = (l.getD (g * 16 + j) default).pend ∧ maskB l g j = (l.getD (g * 16 + j) default).masked) := Lib.hid ⟨rfl, rfl⟩
      obtain ⟨mk, hmk⟩ : ∃ x, (l.getD (g * 16 + j) default).masked = x := ⟨_, rfl⟩
      obtain ⟨pn, hpn⟩ : ∃ x, (l.getD (g * 16 + j) default).pend = x := ⟨_, rfl⟩
      rw [hmk] at c1 HPB
      rw [hpn] at c2 HPB
      obtain ⟨P0, hP0⟩ : ∃ S : Int, ((orN (pendB l g) j : Nat) : Int) = S := ⟨_, rfl⟩
      obtain ⟨M0, hM0⟩ : ∃ S : Int, ((orN (maskB l g) j : Nat) : Int) = S := ⟨_, rfl⟩
      have HPe := Lib.hid hP0
      have HMe := Lib.hid hM0
      rw [hP0] at HP1 ⊢
      rw [hM0] at HM1 ⊢
      clear hP0 hM0 hmk hpn
      cases pn
      all_goals
        cases mk
        all_goals
          first
            | have hq1 := HP1.out HPB.out.1
            | have HQ1 := Lib.hid (HP0.out HPB.out.1)
          first
            | have hq2 := HM1.out HPB.out.2
            | have HQ2 := Lib.hid (HM0.out HPB.out.2)
          go_wp2_with (go_at_call 59; refine (HG.out _).mono ?_; rintro e w1 ⟨rfl, rfl⟩)
          go_round
          case rel => exact ⟨j + 1, by omega, by go_num, by first | rfl | rw [HQ1.out, HPe.out], by first | rfl | rw [HQ2.out, HMe.out]⟩
          case measure => simp [intOf]; omega
    · obtain rfl : j = 16 := by omega
      go_wp2_with (go_at_call 59; refine (HG.out _).mono ?_; rintro e w1 ⟨rfl, rfl⟩)
      go_ret2
      exact ⟨rfl, rfl⟩
theorem rtake_bad (b : Nat) (g : Int) (w : World) (h : ¬ (0 ≤ g ∧ g < 8)) :
    Calls Tryd.prog 45 #[.pointer (some ⟨b, 0, none⟩), .int .i64 g] w fun e w' => e = .returned (.int .u32 0) ∧ w = w' := by
  have HG := Lib.hid (rguest_no g h)
  have HL := Lib.hid (rlook_bad b g w h)
  clear h
  go_enter Tryd.func45, Tryd.ntmps45
  go_wp2_with fail
  refine HL.out.mono ?_
  rintro e w1 ⟨rfl, rfl⟩
  go_wp2_with fail
  go_loop [6] (fun i => i = .int .i64 0) (fun _ => 0)
  case atStart => rfl
  case round =>
    subst hrel
    go_wp2_with (go_at_call 59; refine (HG.out _).mono ?_; rintro e w1 ⟨rfl, rfl⟩)
    go_ret
    exact ⟨rfl, rfl⟩
def RTakeTo (l : List Pe) (b g : Nat) (w : World) (i : Value) (wr : World) : Prop :=
  ∃ j : Nat, j ≤ 16 ∧ i = .int .i64 (j : Int) ∧ RNAt wr b (takeE l g j) ∧ Only (fun k => k = b) w wr
theorem bit_test (f : Nat → Bool) (j : Nat) (hj : j < 16) : (bits BinOp.and IntKind.u32 ((orN f 16 : Nat) / 2 ^ j : Int) 1 == 1) = f j := by
  have e2 : ((2 : Int) ^ j) = ((2 ^ j : Nat) : Int) := by simp
  have hw := orN_w f 16 (by decide)
  have e : ((orN f 16 : Nat) / 2 ^ j : Int) = ((orN f 16 / 2 ^ j : Nat) : Int) := by rw [e2]; rfl
  rw [e, show (1 : Int) = ((1 : Nat) : Int) from rfl, bits_and32 _ _ (Nat.lt_of_le_of_lt (Nat.div_le_self _ _) hw) (by decide)]
  have hb := orN_bit f 16 j
  rw [decide_eq_true hj, Bool.true_and] at hb
  rw [← hb, Nat.testBit, Nat.and_comm, Nat.shiftRight_eq_div_pow]
  generalize orN f 16 / 2 ^ j = z
  rw [Nat.one_and_eq_mod_two]
  rcases mod2 z with h | h <;> rw [h] <;> rfl
set_option maxRecDepth 100000 in
set_option maxHeartbeats 1600000 in
theorem rtake_any (l : List Pe) (b g : Nat) (w : World) (h : RNAt w b l) (hg : g < 8) :
    Calls Tryd.prog 45 #[.pointer (some ⟨b, 0, none⟩), .int .i64 g] w fun e w' => e = .returned (.int .u32 (anyE l g : Nat)) ∧ RNAt w' b (takeE l g 16) ∧ Only (fun k => k = b) w w' := by
  have HG := Lib.hid (rguest_yes g hg)
  have HLK := Lib.hid (rlook_any l b g w h hg)
  have hgi : (g : Int) < 8 := by omega
  have HL := Lib.hid h.2
  have HST : Hid (RTakeTo l b g w (.int .i64 0) w) := Lib.hid ⟨0, Nat.zero_le _, rfl, h, Only.refl _ _⟩
  have HBIT : Hid (∀ j, j < 16 → (bits BinOp.and IntKind.u32 ((anyE l g : Nat) / 2 ^ j : Int) 1 == 1) = (pendB l g j && !maskB l g j)) := Lib.hid fun j hj => bit_test (fun i => pendB l g i && !maskB l g i) j hj
  obtain ⟨A, hA⟩ : ∃ A : Nat, anyE l g = A := ⟨_, rfl⟩
  rw [hA] at HLK HBIT ⊢
  clear h hA
  go_enter Tryd.func45, Tryd.ntmps45
  go_wp2_with fail
  refine HLK.out.mono ?_
  rintro e w1 ⟨rfl, rfl⟩
  go_wp2_with fail
  go_loopw [6] (fun i wr => RTakeTo l b g w i wr) (fun i _ => 16 - (intOf i).toNat)
  case atStart => exact HST.out
  case round =>
    obtain ⟨j, hj, rfl, hn, ho⟩ := hrel
    have HN := Lib.hid hn
    have HO := Lib.hid ho
    have hltr : b < wr.heap.size := hn.lt
    clear hn ho HST
    by_cases hlt16 : j < 16
    · have hji : (j : Int) < 16 := by omega
      obtain ⟨-, -, c2, -, -⟩ := HN.out.cells g j hg hlt16
      have f2 := HN.out.free (g * 80 + j * 5 + 2)
      have HPUT := Lib.hid (HN.out.put g j 2 hg hlt16 (by decide) { (takeE l g j).getD (g * 16 + j) default with pend := false } (.bool false) rfl)
      rw [takeE_get l g j (g * 16 + j) (by rw [HL.out]; omega), if_neg (by omega)] at HPUT
      have HO1 := Lib.hid (HO.out.trans (ev1 wr b (g * 80 + j * 5 + 2) (.bool false)))
      have HT : Hid (takeE l g (j + 1) = if pendB l g j && !maskB l g j then (takeE l g j).set (g * 16 + j) { l.getD (g * 16 + j) default with pend := false } else takeE l g j) := Lib.hid rfl
      have HN1 : Hid ((pendB l g j && !maskB l g j) = true → RNAt (wr.setCell ⟨b, g * 80 + j * 5 + 2, none⟩ (.bool false)) b (takeE l g (j + 1))) := Lib.hid fun hc => by
        rw [HT.out, if_pos hc]; exact HPUT.out
      have HN0 : Hid ((pendB l g j && !maskB l g j) = false → RNAt wr b (takeE l g (j + 1))) := Lib.hid fun hc => by
        rw [HT.out, hc]; exact HN.out
      have hbit := HBIT.out j hlt16
      obtain ⟨t, ht⟩ : ∃ t, (pendB l g j && !maskB l g j) = t := ⟨_, rfl⟩
      rw [ht] at hbit HN1 HN0
      clear ht
      cases t
      · go_wp2_with (go_at_call 59; refine (HG.out _).mono ?_; rintro e w1 ⟨rfl, rfl⟩)
        go_roundw
        case rel => exact ⟨j + 1, by omega, by go_num, HN0.out (by trivial), HO.out⟩
        case measure => simp [intOf]; omega
      · go_wp2_with (go_at_call 59; refine (HG.out _).mono ?_; rintro e w1 ⟨rfl, rfl⟩)
        go_roundw
        case rel => exact ⟨j + 1, by omega, by go_num, HN1.out (by trivial), HO1.out⟩
        case measure => simp [intOf]; omega
    · obtain rfl : j = 16 := by omega
      go_wp2_with (go_at_call 59; refine (HG.out _).mono ?_; rintro e w1 ⟨rfl, rfl⟩)
      go_ret
      exact ⟨rfl, HN.out, HO.out⟩
end Go.Proofs.YtpmbbbgmaipmbaaDoor
