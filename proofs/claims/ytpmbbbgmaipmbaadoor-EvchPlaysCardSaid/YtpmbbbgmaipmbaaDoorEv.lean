/-
  evch.Net: the plain form of all ports, 16 of each of eight guests; what guest and at answer.
-/
import Derived.Test.YtpmbbbgmaipmbaaDoorSee
import Derived.Test.YtpmbbbgmaipmbaaDoorRec
import Derived.Test.YtpmbbbgmaipmbaaDoorRow
namespace Go.Proofs.YtpmbbbgmaipmbaaDoor
open Go.RowKit

structure Pe where
  live : Bool := false
  bound : Bool := false
  masked : Bool := false
  pend : Bool := false
  guest : Int := 0
  port : Int := 0
deriving Inhabited
def peOne (x : Pe) : List Value := [.bool x.live, .bool x.bound, .bool x.masked, .bool x.pend, .int .i64 x.guest, .int .i64 x.port]
theorem peOne_len (x : Pe) : (peOne x).length = 6 := rfl
def NAt (w : World) (b : Nat) (l : List Pe) : Prop := RecAt peOne 41 w b l ∧ l.length = 128
theorem NAt.below {w w' : World} {b : Nat} {l : List Pe} (h : NAt w b l) (hb : Below w.heap.size w w') : NAt w' b l := ⟨h.1.below hb, h.2⟩
theorem NAt.lt {w : World} {b : Nat} {l : List Pe} (h : NAt w b l) : b < w.heap.size := blk_lt h.1
theorem NAt.cells {w : World} {b : Nat} {l : List Pe} (h : NAt w b l) (g p : Nat) (hg : g < 8) (hp : p < 16) :
    w.cell? ⟨b, g * 96 + p * 6, none⟩ = some (.bool (l.getD (g * 16 + p) default).live) ∧ w.cell? ⟨b, g * 96 + p * 6 + 1, none⟩ = some (.bool (l.getD (g * 16 + p) default).bound) ∧ w.cell? ⟨b, g * 96 + p * 6 + 2, none⟩ = some (.bool (l.getD (g * 16 + p) default).masked) ∧
    w.cell? ⟨b, g * 96 + p * 6 + 3, none⟩ = some (.bool (l.getD (g * 16 + p) default).pend) ∧ w.cell? ⟨b, g * 96 + p * 6 + 4, none⟩ = some (.int .i64 (l.getD (g * 16 + p) default).guest) ∧ w.cell? ⟨b, g * 96 + p * 6 + 5, none⟩ = some (.int .i64 (l.getD (g * 16 + p) default).port) := by
  have hi : g * 16 + p < l.length := by rw [h.2]; omega
  have e : g * 96 + p * 6 = (g * 16 + p) * 6 := by omega
  rw [e]
  exact ⟨h.1.cell peOne_len _ 0 hi (by decide), h.1.cell peOne_len _ 1 hi (by decide), h.1.cell peOne_len _ 2 hi (by decide), h.1.cell peOne_len _ 3 hi (by decide), h.1.cell peOne_len _ 4 hi (by decide), h.1.cell peOne_len _ 5 hi (by decide)⟩
theorem NAt.free {w : World} {b : Nat} {l : List Pe} (h : NAt w b l) (o : Nat) : w.frozen? ⟨b, o, none⟩ = false := h.1.free o
theorem NAt.put {w : World} {b : Nat} {l : List Pe} (h : NAt w b l) (g p j : Nat) (hg : g < 8) (hp : p < 16) (hj : j < 6) (y : Pe) (v : Value) (hy : peOne y = (peOne (l.getD (g * 16 + p) default)).set j v) :
    NAt (w.setCell ⟨b, g * 96 + p * 6 + j, none⟩ v) b (l.set (g * 16 + p) y) := by
  have hi : g * 16 + p < l.length := by rw [h.2]; omega
  have e : g * 96 + p * 6 = (g * 16 + p) * 6 := by omega
  rw [e]
  exact ⟨h.1.put peOne_len _ j hi hj y v hy, by rw [List.length_set]; exact h.2⟩
theorem NAt.put0 {w : World} {b : Nat} {l : List Pe} (h : NAt w b l) (g p : Nat) (hg : g < 8) (hp : p < 16) (v : Bool) : NAt (w.setCell ⟨b, g * 96 + p * 6, none⟩ (.bool v)) b (l.set (g * 16 + p) { l.getD (g * 16 + p) default with live := v }) :=
  h.put g p 0 hg hp (by decide) _ _ rfl

def gIs (g : Int) : Bool := decide (0 ≤ g) && decide (g < 8)
theorem guest_any (g : Int) (w : World) : Calls Tryd.prog 51 #[.int .i64 g] w fun e w' => e = .returned (.bool (gIs g)) ∧ w = w' := by
  have HG : Hid (∀ r : Bool, r = gIs g ↔ (r = true ↔ 0 ≤ g ∧ g < 8)) := Lib.hid fun r => by unfold gIs; cases r <;> simp <;> omega
  by_cases h0 : g < 0
  · go_enter Tryd.func51, Tryd.ntmps51
    go_wp2
    go_ret
    exact ⟨ret_bool ((HG.out _).2 (by simp; omega)), rfl⟩
  · go_enter Tryd.func51, Tryd.ntmps51
    go_wp2
    go_ret
    exact ⟨ret_bool ((HG.out _).2 (by simp; omega)), rfl⟩
theorem guest_yes (g : Nat) (h : g < 8) (w : World) : Calls Tryd.prog 51 #[.int .i64 g] w fun e w' => e = .returned (.bool true) ∧ w = w' := by
  have e : gIs (g : Int) = true := by unfold gIs; simp; omega
  have := guest_any (g : Int) w
  rwa [e] at this
theorem guest_no (g : Int) (h : ¬ (0 ≤ g ∧ g < 8)) (w : World) : Calls Tryd.prog 51 #[.int .i64 g] w fun e w' => e = .returned (.bool false) ∧ w = w' := by
  have e : gIs g = false := by unfold gIs; rw [Bool.eq_false_iff]; simp; omega
  have := guest_any g w
  rwa [e] at this

/-- a port of guest g that is live: its place -/
def atP (l : List Pe) (g : Nat) (p : Int) : Option Nat := if 0 ≤ p ∧ p < 16 ∧ (l.getD (g * 16 + p.toNat) default).live = true then some p.toNat else none
def ptrP (b g : Nat) : Option Nat → Value
  | none => .pointer none
  | some p => .pointer (some ⟨b, g * 96 + p * 6, none⟩)
theorem atP_lt {l : List Pe} {g : Nat} {p : Int} {r : Nat} (h : atP l g p = some r) : r < 16 ∧ p = (r : Int) ∧ (l.getD (g * 16 + r) default).live = true := by
  unfold atP at h
  split at h
  · rename_i hc
    obtain rfl := Option.some.inj h
    exact ⟨by omega, by omega, hc.2.2⟩
  · cases h

set_option maxHeartbeats 800000 in
theorem at_any (l : List Pe) (b g : Nat) (p : Int) (w : World) (h : NAt w b l) (hg : g < 8) :
    Calls Tryd.prog 52 #[.pointer (some ⟨b, 0, none⟩), .int .i64 g, .int .i64 p] w fun e w' => e = .returned (ptrP b g (atP l g p)) ∧ w = w' := by
  have hgi : (g : Int) < 8 := by omega
  by_cases h0 : p < 0
  · have hN : Hid (atP l g p = none) := Lib.hid (by unfold atP; rw [if_neg (by omega)])
    clear h
    go_enter Tryd.func52, Tryd.ntmps52
    go_wp2
    go_ret
    exact ⟨by rw [hN.out]; rfl, rfl⟩
  · by_cases h1 : 16 ≤ p
    · have hN : Hid (atP l g p = none) := Lib.hid (by unfold atP; rw [if_neg (by omega)])
      clear h
      go_enter Tryd.func52, Tryd.ntmps52
      go_wp2
      go_ret
      exact ⟨by rw [hN.out]; rfl, rfl⟩
    · obtain ⟨r, rfl⟩ := Int.eq_ofNat_of_zero_le (show 0 ≤ p by omega)
      have hr : r < 16 := by omega
      obtain ⟨c0, -, -, -, -⟩ := h.cells g r hg hr
      have hlt := h.lt
      have HL : Hid (atP l g (r : Int) = if (l.getD (g * 16 + r) default).live = true then some r else none) := Lib.hid (by
        unfold atP
        by_cases e : (l.getD (g * 16 + r) default).live = true
        · rw [if_pos e, if_pos ⟨by omega, by omega, by simpa using e⟩]; simp
        · rw [if_neg e, if_neg (fun h => e (by simpa using h.2.2))])
      obtain ⟨v, hv⟩ : ∃ v, (l.getD (g * 16 + r) default).live = v := ⟨_, rfl⟩
      rw [hv] at c0 HL
      have hri : (r : Int) < 16 := by omega
      clear h hv
      cases v
      · go_enter Tryd.func52, Tryd.ntmps52
        go_wp2
        go_ret
        exact ⟨by rw [HL.out]; rfl, rfl⟩
      · go_enter Tryd.func52, Tryd.ntmps52
        go_wp2
        go_ret
        exact ⟨by rw [HL.out]; rfl, rfl⟩
end Go.Proofs.YtpmbbbgmaipmbaaDoor
