/-
  evch.Net: Alloc, Mask, Send.
-/
import Derived.Test.YtpmbbbgmaipmbaaDoorEv
namespace Go.Proofs.YtpmbbbgmaipmbaaDoor
open Go.RowKit

/-- the error of a number, or none -/
def errO (E : Nat → Addr) : Option Nat → Value
  | none => .nilIface
  | some k => errV (E k)
theorem errO_num (E : Nat → Addr) (o : Option Nat) (h : ∀ k, o = some k → k < 16) : errNum (errO E o) E (match o with | none => 0 | some k => ((101 + k : Nat) : Int)) := by
  cases o with
  | none => exact .inl ⟨rfl, rfl⟩
  | some k => exact .inr ⟨k, h k rfl, rfl, rfl⟩
theorem ev1 (w : World) (b o : Nat) (v : Value) : Only (fun k => k = b) w (w.setCell ⟨b, o, none⟩ v) :=
  Only.setCell (F := fun k => k = b) (Only.refl _ _) (p := ⟨b, o, none⟩) (.inl rfl) v

def allocP (l : List Pe) (g : Nat) : Option Nat := (List.range 16).find? fun i => !(l.getD (g * 16 + i) default).live
theorem allocP_some (l : List Pe) (g j : Nat) (h : ∀ i, i < j → (l.getD (g * 16 + i) default).live = true) (hj : j < 16) (hl : (l.getD (g * 16 + j) default).live = false) : allocP l g = some j := by
  unfold allocP
  rw [List.find?_range_eq_some]
  exact ⟨by rw [hl]; rfl, by simpa using hj, fun i hi => by rw [h i hi]; rfl⟩
theorem allocP_none (l : List Pe) (g : Nat) (h : ∀ i, i < 16 → (l.getD (g * 16 + i) default).live = true) : allocP l g = none := by
  unfold allocP
  rw [List.find?_eq_none]
  intro i hi
  simp only [List.mem_range] at hi
  rw [h i hi]
  decide
theorem allocP_lt {l : List Pe} {g i : Nat} (h : allocP l g = some i) : i < 16 ∧ (l.getD (g * 16 + i) default).live = false := by
  unfold allocP at h
  rw [List.find?_range_eq_some] at h
  exact ⟨by simpa using h.2.1, by have := h.1; revert this; cases (l.getD (g * 16 + i) default).live <;> decide⟩

def AllTo (l : List Pe) (g : Nat) (i : Value) : Prop := ∃ j : Nat, j ≤ 16 ∧ (∀ k, k < j → (l.getD (g * 16 + k) default).live = true) ∧ i = .int .i64 (j : Int)
/-- what Alloc answers -/
def AllocPost (E : Nat → Addr) (l : List Pe) (b g : Nat) (w : World) (e : Ending) (w' : World) : Prop :=
  (∀ i, allocP l g = some i → e = .returned (.tuple #[.int .i64 (i : Int), .nilIface]) ∧ NAt w' b (l.set (g * 16 + i) { l.getD (g * 16 + i) default with live := true }) ∧ Only (fun k => k = b) w w') ∧
  (allocP l g = none → e = .returned (.tuple #[.int .i64 0, errV (E 3)]) ∧ Below w.heap.size w w')
theorem alloc_bad (E : Nat → Addr) (b : Nat) (g : Int) (w : World) (S : List Nat) (h2 : 2 ∈ S) (hE : ErrsAt errT gOf w E S) (h : ¬ (0 ≤ g ∧ g < 8)) :
    Calls Tryd.prog 19 #[.pointer (some ⟨b, 0, none⟩), .int .i64 g] w fun e w' => e = .returned (.tuple #[.int .i64 0, errV (E 2)]) ∧ Below w.heap.size w w' := by
  have c : w.cell? ⟨1, 0, none⟩ = some (errV (E 2)) := (hE.1 2 h2).1
  have HG := Lib.hid (guest_no g h)
  clear hE h h2
  go_enter Tryd.func19, Tryd.ntmps19
  go_wp2_with (go_at_call 51; refine (HG.out _).mono ?_; rintro e w1 ⟨rfl, rfl⟩)
  go_quiet (fail)
  go_wp2
  go_ret2
  exact ⟨rfl, below_drewN (Below.refl _ _) _⟩
set_option maxHeartbeats 1600000 in
theorem alloc_any (E : Nat → Addr) (l : List Pe) (b g : Nat) (w : World) (S : List Nat) (h3 : 3 ∈ S) (hE : ErrsAt errT gOf w E S) (h : NAt w b l) (hg : g < 8) :
    Calls Tryd.prog 19 #[.pointer (some ⟨b, 0, none⟩), .int .i64 g] w (AllocPost E l b g w) := by
  have c : w.cell? ⟨2, 0, none⟩ = some (errV (E 3)) := (hE.1 3 h3).1
  have HG := Lib.hid (guest_yes g hg)
  have HN := Lib.hid h
  have hlt := h.lt
  have hgi : (g : Int) < 8 := by omega
  clear hE h h3
  go_enter Tryd.func19, Tryd.ntmps19
  go_wp2_with (go_at_call 51; refine (HG.out _).mono ?_; rintro e w1 ⟨rfl, rfl⟩)
  go_loop [11] (fun i => AllTo l g i) (fun i => 16 - (intOf i).toNat)
  case atStart => exact ⟨0, Nat.zero_le _, fun k hk => absurd hk (by omega), rfl⟩
  case round =>
    obtain ⟨j, hj, hall, rfl⟩ := hrel
    have HALL := Lib.hid hall
    clear hall
    by_cases hlt16 : j < 16
    · obtain ⟨c0, -, -, -, -⟩ := HN.out.cells g j hg hlt16
      have f0 := HN.out.free (g * 96 + j * 6)
      have hji : (j : Int) < 16 := by omega
      obtain ⟨v, hv⟩ : ∃ v, (l.getD (g * 16 + j) default).live = v := ⟨_, rfl⟩
      have HV := Lib.hid hv
      have HP := Lib.hid (HN.out.put0 g j hg hlt16 true)
      have HO := Lib.hid (ev1 w b (g * 96 + j * 6) (.bool true))
      rw [hv] at c0
      clear hv
      cases v
      · go_wp2
        go_ret2
        exact ⟨fun i hi => by
          rw [allocP_some l g j HALL.out hlt16 HV.out] at hi
          obtain rfl := Option.some.inj hi
          exact ⟨rfl, HP.out, HO.out⟩, fun hn => by rw [allocP_some l g j HALL.out hlt16 HV.out] at hn; cases hn⟩
      · go_wp2
        go_round
        case rel => exact ⟨j + 1, by omega, fun k hk => by
          by_cases e : k = j
          · subst e; exact HV.out
          · exact HALL.out k (by omega), by go_num⟩
        case measure => simp [intOf]; omega
    · obtain rfl : j = 16 := by omega
      go_wp2
      go_quiet (fail)
      go_wp2
      go_ret2
      exact ⟨(fun i hi => by rw [allocP_none l g HALL.out] at hi; cases hi), fun _ => ⟨rfl, below_drewN (Below.refl _ _) _⟩⟩
end Go.Proofs.YtpmbbbgmaipmbaaDoor
