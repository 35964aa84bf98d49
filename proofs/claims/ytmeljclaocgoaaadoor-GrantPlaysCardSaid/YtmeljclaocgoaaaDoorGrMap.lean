/-
  grant.Table: Map, Unmap, Revoke, Get.
-/
import Derived.Test.YtmeljclaocgoaaaDoorGr
namespace Go.Proofs.YtmeljclaocgoaaaDoor
open Go.RowKit

theorem liveAt_lt {l : List Gr} {ref : Int} {r : Nat} (h : liveAt l ref = some r) : r < 16 ∧ (l.getD r default).live = true := by
  unfold liveAt at h
  split at h
  · rename_i hc
    cases h
    exact ⟨by omega, hc.2.2⟩
  · cases h

/-- what Map answers -/
def mapNum (l : List Gr) (ref by_ : Int) : Option Nat := match liveAt l ref with
  | none => some 6
  | some r => if (l.getD r default).to_ = by_ then (if (l.getD r default).used then some 11 else none) else some 9

set_option maxHeartbeats 800000 in
theorem map_none (E : Nat → Addr) (l : List Gr) (b : Nat) (ref by_ : Int) (w : World) (hE : ErrsAt errT gOf w E all16) (h : GAt w b l) (hn : liveAt l ref = none) :
    Calls Tryd.prog 34 #[.pointer (some ⟨b, 0, none⟩), .int .i64 ref, .int .i64 by_] w fun e w' => e = .returned (.tuple #[.int .i64 0, .bool false, errV (E 6)]) ∧ Below w.heap.size w w' := by
  have c : w.cell? ⟨4, 0, none⟩ = some (errV (E 6)) := (hE.1 6 (by decide)).1
  have HG := Lib.hid h
  have HN := Lib.hid hn
  clear hE h hn
  go_enter Tryd.func34, Tryd.ntmps34
  go_wp2_with fail
  refine (live_any l b ref _ HG.out).mono ?_
  rintro e w1 ⟨rfl, rfl⟩
  rw [HN.out, ptrAt]
  go_wp2_with fail
  go_quiet (fail)
  go_wp2
  go_ret3
  exact ⟨rfl, below_drewN (Below.refl _ _) _⟩
set_option maxHeartbeats 800000 in
theorem map_other (E : Nat → Addr) (l : List Gr) (b r : Nat) (ref by_ : Int) (w : World) (hE : ErrsAt errT gOf w E all16) (h : GAt w b l) (hn : liveAt l ref = some r) (ho : (l.getD r default).to_ ≠ by_) :
    Calls Tryd.prog 34 #[.pointer (some ⟨b, 0, none⟩), .int .i64 ref, .int .i64 by_] w fun e w' => e = .returned (.tuple #[.int .i64 0, .bool false, errV (E 9)]) ∧ Below w.heap.size w w' := by
  have c : w.cell? ⟨5, 0, none⟩ = some (errV (E 9)) := (hE.1 9 (by decide)).1
  have HG := Lib.hid h
  have HN := Lib.hid hn
  obtain ⟨c0, c1, c2, c3, c4⟩ := h.cells r (liveAt_lt hn).1
  obtain ⟨t, ht⟩ : ∃ t, (l.getD r default).to_ = t := ⟨_, rfl⟩
  rw [ht] at c4 ho
  have hne : (t != by_) = true := by simp [ho]
  clear hE h hn ht ho
  go_enter Tryd.func34, Tryd.ntmps34
  go_wp2_with fail
  refine (live_any l b ref _ HG.out).mono ?_
  rintro e w1 ⟨rfl, rfl⟩
  rw [HN.out, ptrAt]
  go_wp2_with fail
  go_quiet (fail)
  go_wp2
  go_ret3
  exact ⟨rfl, below_drewN (Below.refl _ _) _⟩
set_option maxHeartbeats 800000 in
theorem map_used (E : Nat → Addr) (l : List Gr) (b r : Nat) (ref by_ : Int) (w : World) (hE : ErrsAt errT gOf w E all16) (h : GAt w b l) (hn : liveAt l ref = some r) (ho : (l.getD r default).to_ = by_) (hu : (l.getD r default).used = true) :
    Calls Tryd.prog 34 #[.pointer (some ⟨b, 0, none⟩), .int .i64 ref, .int .i64 by_] w fun e w' => e = .returned (.tuple #[.int .i64 0, .bool false, errV (E 11)]) ∧ Below w.heap.size w w' := by
  have c : w.cell? ⟨6, 0, none⟩ = some (errV (E 11)) := (hE.1 11 (by decide)).1
  have HG := Lib.hid h
  have HN := Lib.hid hn
  obtain ⟨c0, c1, c2, c3, c4⟩ := h.cells r (liveAt_lt hn).1
  rw [ho] at c4
  rw [hu] at c2
  clear hE h hn ho hu
  go_enter Tryd.func34, Tryd.ntmps34
  go_wp2_with fail
  refine (live_any l b ref _ HG.out).mono ?_
  rintro e w1 ⟨rfl, rfl⟩
  rw [HN.out, ptrAt]
  go_wp2_with fail
  go_quiet (fail)
  go_wp2
  go_ret3
  exact ⟨rfl, below_drewN (Below.refl _ _) _⟩
set_option maxHeartbeats 800000 in
theorem map_ok (l : List Gr) (b r : Nat) (ref by_ : Int) (w : World) (h : GAt w b l) (hn : liveAt l ref = some r) (ho : (l.getD r default).to_ = by_) (hu : (l.getD r default).used = false) :
    Calls Tryd.prog 34 #[.pointer (some ⟨b, 0, none⟩), .int .i64 ref, .int .i64 by_] w fun e w' => e = .returned (.tuple #[.int .i64 (l.getD r default).frame, .bool (l.getD r default).w, .nilIface]) ∧ GAt w' b (l.set r { l.getD r default with used := true }) ∧ Only (fun k => k = b) w w' := by
  have HG := Lib.hid h
  have HN := Lib.hid hn
  have hr := (liveAt_lt hn).1
  obtain ⟨c0, c1, c2, c3, c4⟩ := h.cells r hr
  have f2 := h.free (r * 5 + 2)
  rw [ho] at c4
  rw [hu] at c2
  have HP := Lib.hid (h.use r hr true)
  have HO := Lib.hid (only1 w b (r * 5 + 2) (.bool true))
  obtain ⟨t, ht⟩ : ∃ t, (l.getD r default).frame = t := ⟨_, rfl⟩
  obtain ⟨q, hq⟩ : ∃ q, (l.getD r default).w = q := ⟨_, rfl⟩
  rw [ht] at c3
  rw [hq] at c1
  rw [ht, hq]
  clear h hn ho hu ht hq
  go_enter Tryd.func34, Tryd.ntmps34
  go_wp2_with fail
  refine (live_any l b ref _ HG.out).mono ?_
  rintro e w1 ⟨rfl, rfl⟩
  rw [HN.out, ptrAt]
  go_wp2_with fail
  go_quiet (fail)
  go_wp2
  go_ret3
  exact ⟨rfl, ⟨HP.out.1, HP.out.2⟩, ⟨HO.out.os, HO.out.tape, HO.out.output, HO.out.size, HO.out.block⟩⟩

set_option maxHeartbeats 800000 in
theorem revoke_none (E : Nat → Addr) (l : List Gr) (b : Nat) (ref : Int) (w : World) (hE : ErrsAt errT gOf w E all16) (h : GAt w b l) (hn : liveAt l ref = none) :
    Calls Tryd.prog 50 #[.pointer (some ⟨b, 0, none⟩), .int .i64 ref] w fun e w' => e = .returned (errV (E 6)) ∧ w = w' := by
  have c : w.cell? ⟨4, 0, none⟩ = some (errV (E 6)) := (hE.1 6 (by decide)).1
  have HG := Lib.hid h
  have HN := Lib.hid hn
  clear hE h hn
  go_enter Tryd.func50, Tryd.ntmps50
  go_wp2_with fail
  refine (live_any l b ref _ HG.out).mono ?_
  rintro e w1 ⟨rfl, rfl⟩
  rw [HN.out, ptrAt]
  go_wp2
  go_ret
  exact ⟨rfl, rfl⟩
set_option maxHeartbeats 800000 in
theorem revoke_used (E : Nat → Addr) (l : List Gr) (b r : Nat) (ref : Int) (w : World) (hE : ErrsAt errT gOf w E all16) (h : GAt w b l) (hn : liveAt l ref = some r) (hu : (l.getD r default).used = true) :
    Calls Tryd.prog 50 #[.pointer (some ⟨b, 0, none⟩), .int .i64 ref] w fun e w' => e = .returned (errV (E 11)) ∧ w = w' := by
  have c : w.cell? ⟨6, 0, none⟩ = some (errV (E 11)) := (hE.1 11 (by decide)).1
  have HG := Lib.hid h
  have HN := Lib.hid hn
  obtain ⟨c0, c1, c2, c3, c4⟩ := h.cells r (liveAt_lt hn).1
  rw [hu] at c2
  clear hE h hn hu
  go_enter Tryd.func50, Tryd.ntmps50
  go_wp2_with fail
  refine (live_any l b ref _ HG.out).mono ?_
  rintro e w1 ⟨rfl, rfl⟩
  rw [HN.out, ptrAt]
  go_wp2
  go_ret
  exact ⟨rfl, rfl⟩
set_option maxHeartbeats 800000 in
theorem revoke_ok (l : List Gr) (b r : Nat) (ref : Int) (w : World) (h : GAt w b l) (hn : liveAt l ref = some r) (hu : (l.getD r default).used = false) :
    Calls Tryd.prog 50 #[.pointer (some ⟨b, 0, none⟩), .int .i64 ref] w fun e w' => e = .returned .nilIface ∧ GAt w' b (l.set r {}) ∧ Only (fun k => k = b) w w' := by
  have HG := Lib.hid h
  have HN := Lib.hid hn
  have hr := (liveAt_lt hn).1
  obtain ⟨c0, c1, c2, c3, c4⟩ := h.cells r hr
  have f0 := h.free (r * 5)
  have f1 := h.free (r * 5 + 1)
  have f2 := h.free (r * 5 + 2)
  have f3 := h.free (r * 5 + 3)
  have f4 := h.free (r * 5 + 4)
  rw [hu] at c2
  have HP := Lib.hid (h.put r hr {})
  have HO : Hid (Only (fun k => k = b) w (((((w.setCell ⟨b, r * 5, none⟩ (.bool false)).setCell ⟨b, r * 5 + 1, none⟩ (.bool false)).setCell ⟨b, r * 5 + 2, none⟩ (.bool false)).setCell ⟨b, r * 5 + 3, none⟩ (.int .i64 0)).setCell ⟨b, r * 5 + 4, none⟩ (.int .i64 0))) := Lib.hid (only5 _ _ _ _ _ _ _ _ _ _ _ _)
  clear h hn hu
  go_enter Tryd.func50, Tryd.ntmps50
  go_wp2_with fail
  refine (live_any l b ref _ HG.out).mono ?_
  rintro e w1 ⟨rfl, rfl⟩
  rw [HN.out, ptrAt]
  go_wp2
  go_ret
  exact ⟨rfl, HP.out, HO.out⟩

set_option maxHeartbeats 800000 in
theorem unmap_ok (l : List Gr) (b r : Nat) (ref by_ : Int) (w : World) (h : GAt w b l) (hn : liveAt l ref = some r) (ho : (l.getD r default).to_ = by_) (hu : (l.getD r default).used = true) :
    Calls Tryd.prog 51 #[.pointer (some ⟨b, 0, none⟩), .int .i64 ref, .int .i64 by_] w fun e w' => e = .returned .nilIface ∧ GAt w' b (l.set r { l.getD r default with used := false }) ∧ Only (fun k => k = b) w w' := by
  have HG := Lib.hid h
  have HN := Lib.hid hn
  have hr := (liveAt_lt hn).1
  obtain ⟨c0, c1, c2, c3, c4⟩ := h.cells r hr
  have f2 := h.free (r * 5 + 2)
  rw [ho] at c4
  rw [hu] at c2
  have HP := Lib.hid (h.use r hr false)
  have HO := Lib.hid (only1 w b (r * 5 + 2) (.bool false))
  clear h hn ho hu
  go_enter Tryd.func51, Tryd.ntmps51
  go_wp2_with fail
  refine (live_any l b ref _ HG.out).mono ?_
  rintro e w1 ⟨rfl, rfl⟩
  rw [HN.out, ptrAt]
  go_wp2
  go_ret
  exact ⟨rfl, HP.out, HO.out⟩
end Go.Proofs.YtmeljclaocgoaaaDoor
