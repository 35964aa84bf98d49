/-
  evch.Net: Mask, Send, Bind.
-/
import Derived.Test.YtpmbbbgmaipmbaaDoorEv2
import Derived.RegionTactic
namespace Go.Proofs.YtpmbbbgmaipmbaaDoor
open Go.RowKit

theorem NAt.put1 {w : World} {b : Nat} {l : List Pe} (h : NAt w b l) (g p : Nat) (hg : g < 8) (hp : p < 16) (v : Bool) : NAt (w.setCell ⟨b, g * 96 + p * 6 + 2, none⟩ (.bool v)) b (l.set (g * 16 + p) { l.getD (g * 16 + p) default with masked := v }) :=
  h.put g p 2 hg hp (by decide) _ _ rfl
theorem NAt.put3 {w : World} {b : Nat} {l : List Pe} (h : NAt w b l) (g p : Nat) (hg : g < 8) (hp : p < 16) (v : Bool) : NAt (w.setCell ⟨b, g * 96 + p * 6 + 3, none⟩ (.bool v)) b (l.set (g * 16 + p) { l.getD (g * 16 + p) default with pend := v }) :=
  h.put g p 3 hg hp (by decide) _ _ rfl
theorem set_set {α : Type} (l : List α) (i : Nat) (x y : α) : (l.set i x).set i y = l.set i y := by simp
theorem set_getD {α : Type} [Inhabited α] (l : List α) (i j : Nat) (x : α) (hi : i < l.length) : (l.set i x).getD j default = if j = i then x else l.getD j default := by
  rw [List.getD_eq_getElem?_getD, List.getElem?_set]
  by_cases h : i = j
  · subst h
    rw [if_pos rfl, if_pos hi, if_pos rfl]
    rfl
  · rw [if_neg h, if_neg (fun e => h e.symm), List.getD_eq_getElem?_getD]
/-- port p of guest g bound to another one's -/
def bindTo (l : List Pe) (i : Nat) (og op : Int) : List Pe := l.set i { l.getD i default with bound := true, guest := og, port := op }
theorem NAt.bind {w : World} {b : Nat} {l : List Pe} (h : NAt w b l) (g p : Nat) (hg : g < 8) (hp : p < 16) (og op : Int) :
    NAt (((w.setCell ⟨b, g * 96 + p * 6 + 1, none⟩ (.bool true)).setCell ⟨b, g * 96 + p * 6 + 4, none⟩ (.int .i64 og)).setCell ⟨b, g * 96 + p * 6 + 5, none⟩ (.int .i64 op)) b (bindTo l (g * 16 + p) og op) := by
  have hi : g * 16 + p < l.length := by rw [h.2]; omega
  have h1 := h.put g p 1 hg hp (by decide) { l.getD (g * 16 + p) default with bound := true } (.bool true) rfl
  have h2 := h1.put g p 4 hg hp (by decide) { l.getD (g * 16 + p) default with bound := true, guest := og } (.int .i64 og) (by rw [set_getD _ _ _ _ hi, if_pos rfl]; rfl)
  have h3 := h2.put g p 5 hg hp (by decide) { l.getD (g * 16 + p) default with bound := true, guest := og, port := op } (.int .i64 op) (by
    rw [set_getD _ _ _ _ (by rw [List.length_set]; exact hi), if_pos rfl]; rfl)
  rw [set_set, set_set] at h3
  exact h3
theorem ev3 (w : World) (b o0 o1 o2 : Nat) (v0 v1 v2 : Value) : Only (fun k => k = b) w (((w.setCell ⟨b, o0, none⟩ v0).setCell ⟨b, o1, none⟩ v1).setCell ⟨b, o2, none⟩ v2) :=
  ((ev1 w b o0 v0).trans (ev1 _ b o1 v1)).trans (ev1 _ b o2 v2)

theorem mask_bad (E : Nat → Addr) (b : Nat) (g p : Int) (v : Bool) (w : World) (S : List Nat) (h2 : 2 ∈ S) (hE : ErrsAt errT gOf w E S) (h : ¬ (0 ≤ g ∧ g < 8)) :
    Calls Tryd.prog 29 #[.pointer (some ⟨b, 0, none⟩), .int .i64 g, .int .i64 p, .bool v] w fun e w' => e = .returned (errV (E 2)) ∧ w = w' := by
  have c : w.cell? ⟨1, 0, none⟩ = some (errV (E 2)) := (hE.1 2 h2).1
  have HG := Lib.hid (guest_no g h)
  clear hE h h2
  go_enter Tryd.func29, Tryd.ntmps29
  go_wp2_with (go_at_call 51; refine (HG.out _).mono ?_; rintro e w1 ⟨rfl, rfl⟩)
  go_ret
  exact ⟨rfl, rfl⟩
theorem mask_none (E : Nat → Addr) (l : List Pe) (b g : Nat) (p : Int) (v : Bool) (w : World) (S : List Nat) (h6 : 6 ∈ S) (hE : ErrsAt errT gOf w E S) (h : NAt w b l) (hg : g < 8) (ha : atP l g p = none) :
    Calls Tryd.prog 29 #[.pointer (some ⟨b, 0, none⟩), .int .i64 g, .int .i64 p, .bool v] w fun e w' => e = .returned (errV (E 6)) ∧ w = w' := by
  have c : w.cell? ⟨3, 0, none⟩ = some (errV (E 6)) := (hE.1 6 h6).1
  have HG := Lib.hid (guest_yes g hg)
  have HA := Lib.hid (at_any l b g p w h hg)
  rw [ha] at HA
  clear hE h h6 ha
  go_enter Tryd.func29, Tryd.ntmps29
  go_wp2_with (first | (go_at_call 51; refine (HG.out _).mono ?_; rintro e w1 ⟨rfl, rfl⟩) | (go_at_call 52; refine HA.out.mono ?_; rintro e w1 ⟨rfl, rfl⟩; unfold ptrP))
  go_ret
  exact ⟨rfl, rfl⟩
theorem mask_ok (l : List Pe) (b g r : Nat) (p : Int) (v : Bool) (w : World) (h : NAt w b l) (hg : g < 8) (ha : atP l g p = some r) :
    Calls Tryd.prog 29 #[.pointer (some ⟨b, 0, none⟩), .int .i64 g, .int .i64 p, .bool v] w fun e w' => e = .returned .nilIface ∧ NAt w' b (l.set (g * 16 + r) { l.getD (g * 16 + r) default with masked := v }) ∧ Only (fun k => k = b) w w' := by
  have hr := (atP_lt ha).1
  have HG := Lib.hid (guest_yes g hg)
  have HA := Lib.hid (at_any l b g p w h hg)
  rw [ha] at HA
  obtain ⟨-, -, c2, -, -⟩ := h.cells g r hg hr
  have f2 := h.free (g * 96 + r * 6 + 2)
  have HP := Lib.hid (h.put1 g r hg hr v)
  have HO := Lib.hid (ev1 w b (g * 96 + r * 6 + 2) (.bool v))
  clear h ha
  go_enter Tryd.func29, Tryd.ntmps29
  go_wp2_with (first | (go_at_call 51; refine (HG.out _).mono ?_; rintro e w1 ⟨rfl, rfl⟩) | (go_at_call 52; refine HA.out.mono ?_; rintro e w1 ⟨rfl, rfl⟩; unfold ptrP))
  go_ret
  exact ⟨rfl, HP.out, HO.out⟩

theorem send_bad (E : Nat → Addr) (b : Nat) (g p : Int) (w : World) (S : List Nat) (h2 : 2 ∈ S) (hE : ErrsAt errT gOf w E S) (h : ¬ (0 ≤ g ∧ g < 8)) :
    Calls Tryd.prog 21 #[.pointer (some ⟨b, 0, none⟩), .int .i64 g, .int .i64 p] w fun e w' => e = .returned (errV (E 2)) ∧ w = w' := by
  have c : w.cell? ⟨1, 0, none⟩ = some (errV (E 2)) := (hE.1 2 h2).1
  have HG := Lib.hid (guest_no g h)
  clear hE h h2
  go_enter Tryd.func21, Tryd.ntmps21
  go_wp2_with (go_at_call 51; refine (HG.out _).mono ?_; rintro e w1 ⟨rfl, rfl⟩)
  go_ret
  exact ⟨rfl, rfl⟩
/-- the port that is sent by, if it is live and bound -/
def sendP (l : List Pe) (g : Nat) (p : Int) : Option Nat := match atP l g p with
  | none => none
  | some r => if (l.getD (g * 16 + r) default).bound = true then some r else none
theorem send_none (E : Nat → Addr) (l : List Pe) (b g : Nat) (p : Int) (w : World) (S : List Nat) (h6 : 6 ∈ S) (hE : ErrsAt errT gOf w E S) (h : NAt w b l) (hg : g < 8) (ha : sendP l g p = none) :
    Calls Tryd.prog 21 #[.pointer (some ⟨b, 0, none⟩), .int .i64 g, .int .i64 p] w fun e w' => e = .returned (errV (E 6)) ∧ w = w' := by
  have c : w.cell? ⟨3, 0, none⟩ = some (errV (E 6)) := (hE.1 6 h6).1
  have HG := Lib.hid (guest_yes g hg)
  have HA := Lib.hid (at_any l b g p w h hg)
  unfold sendP at ha
  cases hq : atP l g p with
  | none =>
    rw [hq] at HA
    clear hE h h6 ha hq
    go_enter Tryd.func21, Tryd.ntmps21
    go_wp2_with (first | (go_at_call 51; refine (HG.out _).mono ?_; rintro e w1 ⟨rfl, rfl⟩) | (go_at_call 52; refine HA.out.mono ?_; rintro e w1 ⟨rfl, rfl⟩; unfold ptrP))
    go_ret
    exact ⟨rfl, rfl⟩
  | some r =>
    rw [hq] at HA ha
    have hr := (atP_lt hq).1
    have hbd : (l.getD (g * 16 + r) default).bound = false := by
      dsimp only at ha
      revert ha
      cases (l.getD (g * 16 + r) default).bound <;> simp
    obtain ⟨-, c1, -, -, -⟩ := h.cells g r hg hr
    rw [hbd] at c1
    clear hE h h6 ha hq hbd
    go_enter Tryd.func21, Tryd.ntmps21
    go_wp2_with (first | (go_at_call 51; refine (HG.out _).mono ?_; rintro e w1 ⟨rfl, rfl⟩) | (go_at_call 52; refine HA.out.mono ?_; rintro e w1 ⟨rfl, rfl⟩; unfold ptrP))
    go_ret
    exact ⟨rfl, rfl⟩
theorem send_ok (l : List Pe) (b g r og op : Nat) (p : Int) (w : World) (h : NAt w b l) (hg : g < 8) (ha : sendP l g p = some r) (hog : (l.getD (g * 16 + r) default).guest = (og : Int)) (hop : (l.getD (g * 16 + r) default).port = (op : Int)) (hog8 : og < 8) (hop16 : op < 16) :
    Calls Tryd.prog 21 #[.pointer (some ⟨b, 0, none⟩), .int .i64 g, .int .i64 p] w fun e w' => e = .returned .nilIface ∧ NAt w' b (l.set (og * 16 + op) { l.getD (og * 16 + op) default with pend := true }) ∧ Only (fun k => k = b) w w' := by
  have HG := Lib.hid (guest_yes g hg)
  have HA := Lib.hid (at_any l b g p w h hg)
  unfold sendP at ha
  cases hq : atP l g p with
  | none => rw [hq] at ha; cases ha
  | some r' =>
    rw [hq] at HA ha
    dsimp only at ha
    split at ha
    · rename_i hbd
      obtain rfl := Option.some.inj ha
      have hr := (atP_lt hq).1
      obtain ⟨-, c1, -, -, c4, c5⟩ := h.cells g r' hg hr
      rw [hbd] at c1
      rw [hog] at c4
      rw [hop] at c5
      have HC := h.cells og op hog8 hop16
      have k3 := HC.2.2.2.1
      have f3 := h.free (og * 96 + op * 6 + 3)
      have HP := Lib.hid (h.put3 og op hog8 hop16 true)
      have HO := Lib.hid (ev1 w b (og * 96 + op * 6 + 3) (.bool true))
      have i1 : (og : Int) < 8 := by omega
      have i2 : (op : Int) < 16 := by omega
      have hlt := h.lt
      clear h ha hq hbd hog hop HC
      go_enter Tryd.func21, Tryd.ntmps21
      go_wp2_with (first | (go_at_call 51; refine (HG.out _).mono ?_; rintro e w1 ⟨rfl, rfl⟩) | (go_at_call 52; refine HA.out.mono ?_; rintro e w1 ⟨rfl, rfl⟩; unfold ptrP))
      go_region
      all_goals
        go_wp2
        go_ret
        exact ⟨rfl, HP.out, HO.out.drew⟩
    · cases ha
end Go.Proofs.YtpmbbbgmaipmbaaDoor
