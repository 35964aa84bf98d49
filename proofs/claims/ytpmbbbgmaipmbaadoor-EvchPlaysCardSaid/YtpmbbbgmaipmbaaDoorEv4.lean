/-
  evch.Net: Bind.
-/
import Derived.Test.YtpmbbbgmaipmbaaDoorEv3
import Derived.LaidEqlPtr
namespace Go.Proofs.YtpmbbbgmaipmbaaDoor
open Go.RowKit

theorem end_info : (Tryd.prog.info? 37).map (·.size) = some 6 := by kernel_rfl
theorem eql_end_same (a : Addr) (w : World) : (binOp .eql 107 (.pointer (some a)) (.pointer (some a))).run Tryd.prog w = .ok (.bool true) w := by
  obtain ⟨j, hj, -⟩ := Option.map_eq_some_iff.1 end_info
  exact run_eql_ptr_same w a Tryd.underlying107 hj
theorem eql_end_other {w : World} {b : Nat} {l : List Pe} (h : NAt w b l) (i j : Nat) (hij : i ≠ j) : (binOp .eql 107 (.pointer (some ⟨b, i, none⟩)) (.pointer (some ⟨b, j, none⟩))).run Tryd.prog w = .ok (.bool false) w := by
  obtain ⟨k, hk, hs⟩ := Option.map_eq_some_iff.1 end_info
  exact run_eql_ptr_other w Tryd.underlying107 hk (by omega) (fun e => hij (by injection e)) h.1 h.1
theorem bind_bad (E : Nat → Addr) (b : Nat) (g p o q : Int) (w : World) (S : List Nat) (h2 : 2 ∈ S) (hE : ErrsAt errT gOf w E S) (h : ¬ (0 ≤ g ∧ g < 8) ∨ ¬ (0 ≤ o ∧ o < 8)) :
    Calls Tryd.prog 20 #[.pointer (some ⟨b, 0, none⟩), .int .i64 g, .int .i64 p, .int .i64 o, .int .i64 q] w fun e w' => e = .returned (errV (E 2)) ∧ w = w' := by
  have c : w.cell? ⟨1, 0, none⟩ = some (errV (E 2)) := (hE.1 2 h2).1
  by_cases hg : 0 ≤ g ∧ g < 8
  · have hy : Hid (∀ wx, Calls Tryd.prog 51 #[.int .i64 g] wx fun e w' => e = .returned (.bool true) ∧ wx = w') := Lib.hid fun wx => by
      obtain ⟨n, rfl⟩ := Int.eq_ofNat_of_zero_le hg.1
      exact guest_yes n (by omega) wx
    have hn := Lib.hid (guest_no o (h.resolve_left (fun h => h hg)))
    clear hE h h2 hg
    go_enter Tryd.func20, Tryd.ntmps20
    go_wp2_with fail
    refine (hy.out _).mono ?_
    rintro e w1 ⟨rfl, rfl⟩
    go_wp2_with fail
    refine (hn.out _).mono ?_
    rintro e w1 ⟨rfl, rfl⟩
    go_wp2
    go_ret
    exact ⟨rfl, rfl⟩
  · have HG := Lib.hid (guest_no g hg)
    clear hE h h2 hg
    go_enter Tryd.func20, Tryd.ntmps20
    go_wp2_with (go_at_call 51; refine (HG.out _).mono ?_; rintro e w1 ⟨rfl, rfl⟩)
    go_ret
    exact ⟨rfl, rfl⟩
theorem bind_none (E : Nat → Addr) (l : List Pe) (b g o : Nat) (p q : Int) (w : World) (S : List Nat) (h6 : 6 ∈ S) (hE : ErrsAt errT gOf w E S) (h : NAt w b l) (hg : g < 8) (ho : o < 8) (ha : atP l g p = none ∨ atP l o q = none) :
    Calls Tryd.prog 20 #[.pointer (some ⟨b, 0, none⟩), .int .i64 g, .int .i64 p, .int .i64 o, .int .i64 q] w fun e w' => e = .returned (errV (E 6)) ∧ w = w' := by
  have c : w.cell? ⟨3, 0, none⟩ = some (errV (E 6)) := (hE.1 6 h6).1
  have HG := Lib.hid (guest_yes g hg)
  have HGo := Lib.hid (guest_yes o ho)
  have HA := Lib.hid (at_any l b g p w h hg)
  have HB := Lib.hid (at_any l b o q w h ho)
  obtain ⟨u, hu⟩ : ∃ u, atP l g p = u := ⟨_, rfl⟩
  obtain ⟨v, hv⟩ : ∃ v, atP l o q = v := ⟨_, rfl⟩
  rw [hu] at HA ha
  rw [hv] at HB ha
  clear hE h h6 hu hv
  have hc : u = none ∨ ∃ r, u = some r ∧ v = none := by
    rcases ha with h | h
    · exact .inl h
    · cases u with
      | none => exact .inl rfl
      | some r => exact .inr ⟨r, rfl, h⟩
  clear ha
  rcases hc with rfl | ⟨r, rfl, rfl⟩
  all_goals
    go_enter Tryd.func20, Tryd.ntmps20
    go_wp2_with fail
    refine (HG.out _).mono ?_
    rintro e w1 ⟨rfl, rfl⟩
    go_wp2_with fail
    refine (HGo.out _).mono ?_
    rintro e w1 ⟨rfl, rfl⟩
    go_wp2_with fail
    refine HA.out.mono ?_
    rintro e w1 ⟨rfl, rfl⟩
    unfold ptrP
    go_wp2_with fail
    refine HB.out.mono ?_
    rintro e w1 ⟨rfl, rfl⟩
    try unfold ptrP
    go_wp2
    all_goals
      go_ret
      exact ⟨rfl, rfl⟩
/-- bound already, or the same -/
def busyB (l : List Pe) (g r o q : Nat) : Prop := (l.getD (g * 16 + r) default).bound = true ∨ (l.getD (o * 16 + q) default).bound = true ∨ (g = o ∧ r = q)
instance (l : List Pe) (g r o q : Nat) : Decidable (busyB l g r o q) := by unfold busyB; infer_instance
set_option maxRecDepth 100000 in
set_option maxHeartbeats 1600000 in
theorem bind_busy (E : Nat → Addr) (l : List Pe) (b g o r s : Nat) (p q : Int) (w : World) (S : List Nat) (h11 : 11 ∈ S) (hE : ErrsAt errT gOf w E S) (h : NAt w b l) (hg : g < 8) (ho : o < 8) (ha : atP l g p = some r) (hb : atP l o q = some s) (hbs : busyB l g r o s) :
    Calls Tryd.prog 20 #[.pointer (some ⟨b, 0, none⟩), .int .i64 g, .int .i64 p, .int .i64 o, .int .i64 q] w fun e w' => e = .returned (errV (E 11)) ∧ w = w' := by
  have c : w.cell? ⟨4, 0, none⟩ = some (errV (E 11)) := (hE.1 11 h11).1
  have HG := Lib.hid (guest_yes g hg)
  have HGo := Lib.hid (guest_yes o ho)
  have HA := Lib.hid (at_any l b g p w h hg)
  have HB := Lib.hid (at_any l b o q w h ho)
  have hr := (atP_lt ha).1
  have hs := (atP_lt hb).1
  rw [ha] at HA
  rw [hb] at HB
  obtain ⟨-, ca, -, -, -⟩ := h.cells g r hg hr
  obtain ⟨-, cb, -, -, -⟩ := h.cells o s ho hs
  obtain ⟨u, hu⟩ : ∃ u, (l.getD (g * 16 + r) default).bound = u := ⟨_, rfl⟩
  obtain ⟨v, hv⟩ : ∃ v, (l.getD (o * 16 + s) default).bound = v := ⟨_, rfl⟩
  unfold busyB at hbs
  rw [hu] at ca hbs
  rw [hv] at cb hbs
  have heq := eql_end_same ⟨b, g * 96 + r * 6, none⟩ w
  clear hE h h11 ha hb hu hv
  have hc : u = true ∨ (u = false ∧ v = true) ∨ (u = false ∧ v = false ∧ g = o ∧ r = s) := by
    cases u <;> cases v <;> simp_all
  clear hbs
  rcases hc with rfl | ⟨rfl, rfl⟩ | ⟨rfl, rfl, rfl, rfl⟩
  all_goals
    go_enter Tryd.func20, Tryd.ntmps20
    go_wp2_with fail
    refine (HG.out _).mono ?_
    rintro e w1 ⟨rfl, rfl⟩
    go_wp2_with fail
    refine (HGo.out _).mono ?_
    rintro e w1 ⟨rfl, rfl⟩
    go_wp2_with fail
    refine HA.out.mono ?_
    rintro e w1 ⟨rfl, rfl⟩
    unfold ptrP
    go_wp2_with fail
    refine HB.out.mono ?_
    rintro e w1 ⟨rfl, rfl⟩
    try unfold ptrP
    go_wp2
    go_ret
    exact ⟨rfl, rfl⟩
set_option maxRecDepth 100000 in
set_option maxHeartbeats 1600000 in
theorem bind_ok (l : List Pe) (b g o r s : Nat) (w : World) (h : NAt w b l) (hg : g < 8) (ho : o < 8) (ha : atP l g r = some r) (hb : atP l o s = some s) (hbs : ¬ busyB l g r o s) :
    Calls Tryd.prog 20 #[.pointer (some ⟨b, 0, none⟩), .int .i64 g, .int .i64 r, .int .i64 o, .int .i64 s] w fun e w' => e = .returned .nilIface ∧ NAt w' b (bindTo (bindTo l (g * 16 + r) o s) (o * 16 + s) g r) ∧ Only (fun k => k = b) w w' := by
  have HG := Lib.hid (guest_yes g hg)
  have HGo := Lib.hid (guest_yes o ho)
  have HA := Lib.hid (at_any l b g r w h hg)
  have HB := Lib.hid (at_any l b o s w h ho)
  have hr := (atP_lt ha).1
  have hs := (atP_lt hb).1
  rw [ha] at HA
  rw [hb] at HB
  obtain ⟨-, ca, -, -, k4, k5⟩ := h.cells g r hg hr
  obtain ⟨-, cb, -, -, m4, m5⟩ := h.cells o s ho hs
  have f1 := h.free (g * 96 + r * 6 + 1)
  have f4 := h.free (g * 96 + r * 6 + 4)
  have f5 := h.free (g * 96 + r * 6 + 5)
  have e1 := h.free (o * 96 + s * 6 + 1)
  have e4 := h.free (o * 96 + s * 6 + 4)
  have e5 := h.free (o * 96 + s * 6 + 5)
  have hne : ¬ (g * 96 + r * 6 = o * 96 + s * 6) := fun e => hbs (.inr (.inr ⟨by omega, by omega⟩))
  have hu : (l.getD (g * 16 + r) default).bound = false := by
    have : ¬ (l.getD (g * 16 + r) default).bound = true := fun e => hbs (.inl e)
    simpa using this
  have hv : (l.getD (o * 16 + s) default).bound = false := by
    have : ¬ (l.getD (o * 16 + s) default).bound = true := fun e => hbs (.inr (.inl e))
    simpa using this
  have heq := eql_end_other h _ _ hne
  have HP := Lib.hid ((h.bind g r hg hr o s).bind o s ho hs g r)
  have HO := Lib.hid ((ev3 w b (g * 96 + r * 6 + 1) (g * 96 + r * 6 + 4) (g * 96 + r * 6 + 5) (.bool true) (.int .i64 o) (.int .i64 s)).trans (ev3 _ b (o * 96 + s * 6 + 1) (o * 96 + s * 6 + 4) (o * 96 + s * 6 + 5) (.bool true) (.int .i64 g) (.int .i64 r)))
  rw [hu] at ca
  rw [hv] at cb
  clear h ha hb hu hv hbs
  have n1 : g * 96 + r * 6 + 1 ≠ o * 96 + s * 6 + 1 := by omega
  have n4 : g * 96 + r * 6 + 4 ≠ o * 96 + s * 6 + 4 := by omega
  have n5 : g * 96 + r * 6 + 5 ≠ o * 96 + s * 6 + 5 := by omega
  go_enter Tryd.func20, Tryd.ntmps20
  go_wp2_with fail
  refine (HG.out _).mono ?_
  rintro e w1 ⟨rfl, rfl⟩
  go_wp2_with fail
  refine (HGo.out _).mono ?_
  rintro e w1 ⟨rfl, rfl⟩
  go_wp2_with fail
  refine HA.out.mono ?_
  rintro e w1 ⟨rfl, rfl⟩
  unfold ptrP
  go_wp2_with fail
  refine HB.out.mono ?_
  rintro e w1 ⟨rfl, rfl⟩
  try unfold ptrP
  go_wp2
  go_ret
  exact ⟨rfl, HP.out, HO.out⟩
end Go.Proofs.YtpmbbbgmaipmbaaDoor
