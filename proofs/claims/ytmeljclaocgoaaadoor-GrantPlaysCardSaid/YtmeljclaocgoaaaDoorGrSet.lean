/-
  grant.Table: Set.
-/
import Derived.Test.YtmeljclaocgoaaaDoorGr
namespace Go.Proofs.YtmeljclaocgoaaaDoor
open Go.RowKit

def setBad (ref frame to_ : Int) : Bool := decide (ref < 0) || decide (16 ≤ ref) || decide (frame < 0) || decide (1024 ≤ frame) || decide (to_ < 0) || decide (8 ≤ to_)

set_option maxHeartbeats 800000 in
theorem set_bad (E : Nat → Addr) (b : Nat) (ref frame to_ : Int) (wr : Bool) (w : World) (hE : ErrsAt errT gOf w E all16) (h : setBad ref frame to_ = true) :
    Calls Tryd.prog 33 #[.pointer (some ⟨b, 0, none⟩), .int .i64 ref, .int .i64 frame, .int .i64 to_, .bool wr] w fun e w' => e = .returned (errV (E 2)) ∧ w = w' := by
  have c : w.cell? ⟨1, 0, none⟩ = some (errV (E 2)) := (hE.1 2 (by decide)).1
  simp only [setBad, Bool.or_eq_true, decide_eq_true_eq] at h
  clear hE
  by_cases h0 : ref < 0
  · clear h
    go_enter Tryd.func33, Tryd.ntmps33
    go_wp2
    go_ret
    exact ⟨rfl, rfl⟩
  · by_cases h1 : 16 ≤ ref
    · clear h
      go_enter Tryd.func33, Tryd.ntmps33
      go_wp2
      go_ret
      exact ⟨rfl, rfl⟩
    · by_cases h2 : frame < 0
      · clear h
        go_enter Tryd.func33, Tryd.ntmps33
        go_wp2
        go_ret
        exact ⟨rfl, rfl⟩
      · by_cases h3 : 1024 ≤ frame
        · clear h
          go_enter Tryd.func33, Tryd.ntmps33
          go_wp2
          go_ret
          exact ⟨rfl, rfl⟩
        · by_cases h4 : to_ < 0
          · clear h
            go_enter Tryd.func33, Tryd.ntmps33
            go_wp2
            go_ret
            exact ⟨rfl, rfl⟩
          · have h5 : 8 ≤ to_ := by omega
            clear h
            go_enter Tryd.func33, Tryd.ntmps33
            go_wp2
            go_ret
            exact ⟨rfl, rfl⟩

set_option maxHeartbeats 800000 in
theorem set_live (E : Nat → Addr) (l : List Gr) (b r : Nat) (frame to_ : Int) (wr : Bool) (w : World) (hE : ErrsAt errT gOf w E all16) (h : GAt w b l) (hr : r < 16) (hf0 : 0 ≤ frame) (hf1 : frame < 1024) (ht0 : 0 ≤ to_) (ht1 : to_ < 8) (hl : (l.getD r default).live = true) :
    Calls Tryd.prog 33 #[.pointer (some ⟨b, 0, none⟩), .int .i64 r, .int .i64 frame, .int .i64 to_, .bool wr] w fun e w' => e = .returned (errV (E 5)) ∧ w = w' := by
  have c : w.cell? ⟨2, 0, none⟩ = some (errV (E 5)) := (hE.1 5 (by decide)).1
  obtain ⟨c0, -, -, -, -⟩ := h.cells r hr
  rw [hl] at c0
  have hri : (r : Int) < 16 := by omega
  have hr0 : (0 : Int) ≤ (r : Int) := by omega
  clear hE h hl
  go_enter Tryd.func33, Tryd.ntmps33
  go_wp2
  go_ret
  exact ⟨rfl, rfl⟩
set_option maxHeartbeats 800000 in
theorem set_new (l : List Gr) (b r : Nat) (frame to_ : Int) (wr : Bool) (w : World) (h : GAt w b l) (hr : r < 16) (hf0 : 0 ≤ frame) (hf1 : frame < 1024) (ht0 : 0 ≤ to_) (ht1 : to_ < 8) (hl : (l.getD r default).live = false) :
    Calls Tryd.prog 33 #[.pointer (some ⟨b, 0, none⟩), .int .i64 r, .int .i64 frame, .int .i64 to_, .bool wr] w fun e w' => e = .returned .nilIface ∧ GAt w' b (l.set r ⟨true, wr, false, frame, to_⟩) ∧ Only (fun k => k = b) w w' := by
  obtain ⟨c0, c1, c2, c3, c4⟩ := h.cells r hr
  rw [hl] at c0
  have f0 := h.free (r * 5)
  have f1 := h.free (r * 5 + 1)
  have f2 := h.free (r * 5 + 2)
  have f3 := h.free (r * 5 + 3)
  have f4 := h.free (r * 5 + 4)
  have hri : (r : Int) < 16 := by omega
  have hr0 : (0 : Int) ≤ (r : Int) := by omega
  have HP := Lib.hid (h.put r hr ⟨true, wr, false, frame, to_⟩)
  have HO : Hid (Only (fun k => k = b) w (((((w.setCell ⟨b, r * 5, none⟩ (.bool true)).setCell ⟨b, r * 5 + 1, none⟩ (.bool wr)).setCell ⟨b, r * 5 + 2, none⟩ (.bool false)).setCell ⟨b, r * 5 + 3, none⟩ (.int .i64 frame)).setCell ⟨b, r * 5 + 4, none⟩ (.int .i64 to_))) := Lib.hid (only5 _ _ _ _ _ _ _ _ _ _ _ _)
  clear h hl
  go_enter Tryd.func33, Tryd.ntmps33
  go_wp2
  go_ret
  exact ⟨rfl, HP.out, HO.out⟩
end Go.Proofs.YtmeljclaocgoaaaDoor
