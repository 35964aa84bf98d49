/-
  facaderef16.Grants: the document's loans, over the same plain list; what one told thing does to it.
-/
import Derived.Test.YtmeljclaocgoaaaDoorGrSet
import Derived.Test.YtmeljclaocgoaaaDoorGrMap
import Derived.Test.YtmeljclaocgoaaaDoorGrLent
import Derived.RegionTactic
namespace Go.Proofs.YtmeljclaocgoaaaDoor
open Go.RowKit

def RGr (w : World) (b : Nat) (l : List Gr) : Prop := w.heap[b]? = some (.cells (grCells l).toArray 106 (0, 0)) ∧ l.length = 16
theorem RGr.below {w w' : World} {b : Nat} {l : List Gr} (h : RGr w b l) (hb : Below w.heap.size w w') : RGr w' b l := ⟨by rw [hb.block b (blk_lt h.1)]; exact h.1, h.2⟩
theorem RGr.only {F : Nat → Prop} {w w' : World} {b : Nat} {l : List Gr} (h : RGr w b l) (ho : Only F w w') (hF : ¬ F b) : RGr w' b l := ⟨ho.blk h.1 hF, h.2⟩
theorem GAt.only {F : Nat → Prop} {w w' : World} {b : Nat} {l : List Gr} (h : GAt w b l) (ho : Only F w w') (hF : ¬ F b) : GAt w' b l := ⟨ho.blk h.1 hF, h.2⟩
theorem RGr.cells {w : World} {b : Nat} {l : List Gr} (h : RGr w b l) (r : Nat) (hr : r < 16) : w.cell? ⟨b, r * 5, none⟩ = some (.bool (l.getD r default).live) ∧ w.cell? ⟨b, r * 5 + 1, none⟩ = some (.bool (l.getD r default).w) ∧ w.cell? ⟨b, r * 5 + 2, none⟩ = some (.bool (l.getD r default).used) ∧
    w.cell? ⟨b, r * 5 + 3, none⟩ = some (.int .i64 (l.getD r default).frame) ∧ w.cell? ⟨b, r * 5 + 4, none⟩ = some (.int .i64 (l.getD r default).to_) := by
  obtain ⟨c0, c1, c2, c3, c4⟩ := grCells_at l r (by rw [h.2]; exact hr)
  exact ⟨(blk_cell h.1 _).trans (by simpa using c0), (blk_cell h.1 _).trans (by simpa using c1), (blk_cell h.1 _).trans (by simpa using c2), (blk_cell h.1 _).trans (by simpa using c3), (blk_cell h.1 _).trans (by simpa using c4)⟩
theorem RGr.free {w : World} {b : Nat} {l : List Gr} (h : RGr w b l) (o : Nat) : w.frozen? ⟨b, o, none⟩ = false := blk_free h.1 o
theorem RGr.put {w : World} {b : Nat} {l : List Gr} (h : RGr w b l) (r : Nat) (hr : r < 16) (x : Gr) :
    RGr (((((w.setCell ⟨b, r * 5, none⟩ (.bool x.live)).setCell ⟨b, r * 5 + 1, none⟩ (.bool x.w)).setCell ⟨b, r * 5 + 2, none⟩ (.bool x.used)).setCell ⟨b, r * 5 + 3, none⟩ (.int .i64 x.frame)).setCell ⟨b, r * 5 + 4, none⟩ (.int .i64 x.to_)) b (l.set r x) := by
  refine ⟨?_, by simp [h.2]⟩
  have h1 := blk_put (blk_put (blk_put (blk_put (blk_put h.1 (r * 5) (.bool x.live)) (r * 5 + 1) (.bool x.w)) (r * 5 + 2) (.bool x.used)) (r * 5 + 3) (.int .i64 x.frame)) (r * 5 + 4) (.int .i64 x.to_)
  rw [h1, ← grCells_set l r (by rw [h.2]; exact hr) x]
  simp
theorem RGr.use {w : World} {b : Nat} {l : List Gr} (h : RGr w b l) (r : Nat) (hr : r < 16) (u : Bool) : RGr (w.setCell ⟨b, r * 5 + 2, none⟩ (.bool u)) b (l.set r { l.getD r default with used := u }) := by
  refine ⟨?_, by simp [h.2]⟩
  have h1 := blk_put h.1 (r * 5 + 2) (.bool u)
  rw [h1, ← grCells_used l r (by rw [h.2]; exact hr) u]
  simp

/-- what is told, plain: the loans then, the error's number -/
def setE (l : List Gr) (ref frame to_ : Int) (wr : Bool) : List Gr × Option Nat :=
  if setBad ref frame to_ = true then (l, some 2) else if (l.getD ref.toNat default).live = true then (l, some 5) else (l.set ref.toNat ⟨true, wr, false, frame, to_⟩, none)
def revE (l : List Gr) (ref : Int) : List Gr × Option Nat := match liveAt l ref with
  | none => (l, some 6)
  | some r => if (l.getD r default).used = true then (l, some 11) else (l.set r {}, none)
def mapE (l : List Gr) (ref by_ : Int) : List Gr × Option Nat × Int × Bool := match liveAt l ref with
  | none => (l, some 6, 0, false)
  | some r => if (l.getD r default).to_ ≠ by_ then (l, some 9, 0, false) else if (l.getD r default).used = true then (l, some 11, 0, false) else (l.set r { l.getD r default with used := true }, none, (l.getD r default).frame, (l.getD r default).w)
def unmE (l : List Gr) (ref by_ : Int) : List Gr × Option Nat := match liveAt l ref with
  | none => (l, some 6)
  | some r => if (l.getD r default).to_ ≠ by_ then (l, some 9) else if (l.getD r default).used = true then (l.set r { l.getD r default with used := false }, none) else (l, some 6)
def codeOf : Option Nat → Int
  | none => 0
  | some k => ((101 + k : Nat) : Int)
theorem errOf_code (E : Nat → Addr) (o : Option Nat) (h : ∀ k, o = some k → k < 16) : errNum (errOf E o) E (codeOf o) := by
  cases o with
  | none => exact .inl ⟨rfl, rfl⟩
  | some k => exact .inr ⟨k, h k rfl, rfl, rfl⟩
theorem setE_small (l : List Gr) (ref frame to_ : Int) (wr : Bool) : ∀ k, (setE l ref frame to_ wr).2 = some k → k < 16 := by
  intro k
  unfold setE
  split
  · rintro h; obtain rfl := Option.some.inj h; decide
  · split
    · rintro h; obtain rfl := Option.some.inj h; decide
    · rintro h; cases h
theorem revE_small (l : List Gr) (ref : Int) : ∀ k, (revE l ref).2 = some k → k < 16 := by
  intro k
  unfold revE
  split
  · rintro h; obtain rfl := Option.some.inj h; decide
  · split
    · rintro h; obtain rfl := Option.some.inj h; decide
    · rintro h; cases h
theorem mapE_small (l : List Gr) (ref by_ : Int) : ∀ k, (mapE l ref by_).2.1 = some k → k < 16 := by
  intro k
  unfold mapE
  split
  · rintro h; obtain rfl := Option.some.inj h; decide
  · split
    · rintro h; obtain rfl := Option.some.inj h; decide
    · split
      · rintro h; obtain rfl := Option.some.inj h; decide
      · rintro h; cases h
theorem unmE_small (l : List Gr) (ref by_ : Int) : ∀ k, (unmE l ref by_).2 = some k → k < 16 := by
  intro k
  unfold unmE
  split
  · rintro h; obtain rfl := Option.some.inj h; decide
  · split
    · rintro h; obtain rfl := Option.some.inj h; decide
    · split
      · rintro h; cases h
      · rintro h; obtain rfl := Option.some.inj h; decide

def OpPost (E : Nat → Addr) (b : Nat) (r : List Gr × Option Nat) (w : World) (e : Ending) (w' : World) : Prop := e = .returned (errOf E r.2) ∧ GAt w' b r.1 ∧ Only (fun k => k = b) w w'
def ROpPost (b : Nat) (r : List Gr × Option Nat) (w : World) (e : Ending) (w' : World) : Prop := e = .returned (.int .i64 (codeOf r.2)) ∧ RGr w' b r.1 ∧ Only (fun k => k = b) w w'

theorem set_all (E : Nat → Addr) (l : List Gr) (b : Nat) (ref frame to_ : Int) (wr : Bool) (w : World) (hE : ErrsAt errT gOf w E all16) (h : GAt w b l) :
    Calls Tryd.prog 33 #[.pointer (some ⟨b, 0, none⟩), .int .i64 ref, .int .i64 frame, .int .i64 to_, .bool wr] w (OpPost E b (setE l ref frame to_ wr) w) := by
  by_cases hb : setBad ref frame to_ = true
  · refine (set_bad E b ref frame to_ wr w hE hb).mono ?_
    rintro e w' ⟨rfl, rfl⟩
    unfold OpPost setE
    rw [if_pos hb]
    exact ⟨rfl, h, Only.refl _ _⟩
  · have hb2 := hb
    simp only [setBad, Bool.or_eq_true, decide_eq_true_eq, not_or] at hb2
    obtain ⟨⟨⟨⟨⟨a0, a1⟩, a2⟩, a3⟩, a4⟩, a5⟩ := hb2
    obtain ⟨r, rfl⟩ := Int.eq_ofNat_of_zero_le (show 0 ≤ ref by omega)
    have hr : r < 16 := by omega
    unfold setE
    rw [if_neg hb]
    simp only [Int.toNat_natCast]
    by_cases hl : (l.getD r default).live = true
    · refine (set_live E l b r frame to_ wr w hE h hr (by omega) (by omega) (by omega) (by omega) hl).mono ?_
      rintro e w' ⟨rfl, rfl⟩
      unfold OpPost
      rw [if_pos hl]
      exact ⟨rfl, h, Only.refl _ _⟩
    · refine (set_new l b r frame to_ wr w h hr (by omega) (by omega) (by omega) (by omega) (by simpa using hl)).mono ?_
      rintro e w' ⟨rfl, h1, h2⟩
      unfold OpPost
      rw [if_neg hl]
      exact ⟨rfl, h1, h2⟩
theorem rev_all (E : Nat → Addr) (l : List Gr) (b : Nat) (ref : Int) (w : World) (hE : ErrsAt errT gOf w E all16) (h : GAt w b l) :
    Calls Tryd.prog 50 #[.pointer (some ⟨b, 0, none⟩), .int .i64 ref] w (OpPost E b (revE l ref) w) := by
  unfold revE
  cases hn : liveAt l ref with
  | none =>
    refine (revoke_none E l b ref w hE h hn).mono ?_
    rintro e w' ⟨rfl, rfl⟩
    exact ⟨rfl, h, Only.refl _ _⟩
  | some r =>
    dsimp only
    by_cases hu : (l.getD r default).used = true
    · refine (revoke_used E l b r ref w hE h hn hu).mono ?_
      rintro e w' ⟨rfl, rfl⟩
      rw [if_pos hu]
      exact ⟨rfl, h, Only.refl _ _⟩
    · refine (revoke_ok l b r ref w h hn (by simpa using hu)).mono ?_
      rintro e w' ⟨rfl, h1, h2⟩
      rw [if_neg hu]
      exact ⟨rfl, h1, h2⟩
def MPost (E : Nat → Addr) (b : Nat) (r : List Gr × Option Nat × Int × Bool) (w : World) (e : Ending) (w' : World) : Prop := e = .returned (.tuple #[.int .i64 r.2.2.1, .bool r.2.2.2, errOf E r.2.1]) ∧ GAt w' b r.1 ∧ Only (fun k => k = b) w w'
def RMPost (b : Nat) (r : List Gr × Option Nat × Int × Bool) (w : World) (e : Ending) (w' : World) : Prop := e = .returned (.tuple #[.int .i64 r.2.2.1, .bool r.2.2.2, .int .i64 (codeOf r.2.1)]) ∧ RGr w' b r.1 ∧ Only (fun k => k = b) w w'
theorem map_all (E : Nat → Addr) (l : List Gr) (b : Nat) (ref by_ : Int) (w : World) (hE : ErrsAt errT gOf w E all16) (h : GAt w b l) :
    Calls Tryd.prog 34 #[.pointer (some ⟨b, 0, none⟩), .int .i64 ref, .int .i64 by_] w (MPost E b (mapE l ref by_) w) := by
  unfold mapE
  cases hn : liveAt l ref with
  | none =>
    refine (map_none E l b ref by_ w hE h hn).mono ?_
    rintro e w' ⟨rfl, hb⟩
    exact ⟨rfl, h.below hb, Only.of_below hb⟩
  | some r =>
    dsimp only
    by_cases ho : (l.getD r default).to_ ≠ by_
    · refine (map_other E l b r ref by_ w hE h hn ho).mono ?_
      rintro e w' ⟨rfl, hb⟩
      rw [if_pos ho]
      exact ⟨rfl, h.below hb, Only.of_below hb⟩
    · rw [if_neg ho]
      by_cases hu : (l.getD r default).used = true
      · refine (map_used E l b r ref by_ w hE h hn (by simpa using ho) hu).mono ?_
        rintro e w' ⟨rfl, hb⟩
        rw [if_pos hu]
        exact ⟨rfl, h.below hb, Only.of_below hb⟩
      · refine (map_ok l b r ref by_ w h hn (by simpa using ho) (by simpa using hu)).mono ?_
        rintro e w' ⟨rfl, h1, h2⟩
        rw [if_neg hu]
        exact ⟨rfl, h1, h2⟩
set_option maxHeartbeats 800000 in
theorem unmap_none (E : Nat → Addr) (l : List Gr) (b : Nat) (ref by_ : Int) (w : World) (hE : ErrsAt errT gOf w E all16) (h : GAt w b l) (hn : liveAt l ref = none) :
    Calls Tryd.prog 51 #[.pointer (some ⟨b, 0, none⟩), .int .i64 ref, .int .i64 by_] w fun e w' => e = .returned (errV (E 6)) ∧ w = w' := by
  have c : w.cell? ⟨4, 0, none⟩ = some (errV (E 6)) := (hE.1 6 (by decide)).1
  have HG := Lib.hid h
  have HN := Lib.hid hn
  clear hE h hn
  go_enter Tryd.func51, Tryd.ntmps51
  go_wp2_with fail
  refine (live_any l b ref _ HG.out).mono ?_
  rintro e w1 ⟨rfl, rfl⟩
  rw [HN.out, ptrAt]
  go_wp2
  go_ret
  exact ⟨rfl, rfl⟩
set_option maxHeartbeats 800000 in
theorem unmap_other (E : Nat → Addr) (l : List Gr) (b r : Nat) (ref by_ : Int) (w : World) (hE : ErrsAt errT gOf w E all16) (h : GAt w b l) (hn : liveAt l ref = some r) (ho : (l.getD r default).to_ ≠ by_) :
    Calls Tryd.prog 51 #[.pointer (some ⟨b, 0, none⟩), .int .i64 ref, .int .i64 by_] w fun e w' => e = .returned (errV (E 9)) ∧ w = w' := by
  have c : w.cell? ⟨5, 0, none⟩ = some (errV (E 9)) := (hE.1 9 (by decide)).1
  have HG := Lib.hid h
  have HN := Lib.hid hn
  obtain ⟨c0, c1, c2, c3, c4⟩ := h.cells r (liveAt_lt hn).1
  obtain ⟨t, ht⟩ : ∃ t, (l.getD r default).to_ = t := ⟨_, rfl⟩
  rw [ht] at c4 ho
  have hne : (t != by_) = true := by simp [ho]
  clear hE h hn ht ho
  go_enter Tryd.func51, Tryd.ntmps51
  go_wp2_with fail
  refine (live_any l b ref _ HG.out).mono ?_
  rintro e w1 ⟨rfl, rfl⟩
  rw [HN.out, ptrAt]
  go_wp2
  go_ret
  exact ⟨rfl, rfl⟩
set_option maxHeartbeats 800000 in
theorem unmap_free (E : Nat → Addr) (l : List Gr) (b r : Nat) (ref by_ : Int) (w : World) (hE : ErrsAt errT gOf w E all16) (h : GAt w b l) (hn : liveAt l ref = some r) (ho : (l.getD r default).to_ = by_) (hu : (l.getD r default).used = false) :
    Calls Tryd.prog 51 #[.pointer (some ⟨b, 0, none⟩), .int .i64 ref, .int .i64 by_] w fun e w' => e = .returned (errV (E 6)) ∧ w = w' := by
  have c : w.cell? ⟨4, 0, none⟩ = some (errV (E 6)) := (hE.1 6 (by decide)).1
  have HG := Lib.hid h
  have HN := Lib.hid hn
  obtain ⟨c0, c1, c2, c3, c4⟩ := h.cells r (liveAt_lt hn).1
  rw [ho] at c4
  rw [hu] at c2
  clear hE h hn ho hu
  go_enter Tryd.func51, Tryd.ntmps51
  go_wp2_with fail
  refine (live_any l b ref _ HG.out).mono ?_
  rintro e w1 ⟨rfl, rfl⟩
  rw [HN.out, ptrAt]
  go_wp2
  go_ret
  exact ⟨rfl, rfl⟩
theorem unm_all (E : Nat → Addr) (l : List Gr) (b : Nat) (ref by_ : Int) (w : World) (hE : ErrsAt errT gOf w E all16) (h : GAt w b l) :
    Calls Tryd.prog 51 #[.pointer (some ⟨b, 0, none⟩), .int .i64 ref, .int .i64 by_] w (OpPost E b (unmE l ref by_) w) := by
  unfold unmE
  cases hn : liveAt l ref with
  | none =>
    refine (unmap_none E l b ref by_ w hE h hn).mono ?_
    rintro e w' ⟨rfl, rfl⟩
    exact ⟨rfl, h, Only.refl _ _⟩
  | some r =>
    dsimp only
    by_cases ho : (l.getD r default).to_ ≠ by_
    · refine (unmap_other E l b r ref by_ w hE h hn ho).mono ?_
      rintro e w' ⟨rfl, rfl⟩
      rw [if_pos ho]
      exact ⟨rfl, h, Only.refl _ _⟩
    · rw [if_neg ho]
      by_cases hu : (l.getD r default).used = true
      · refine (unmap_ok l b r ref by_ w h hn (by simpa using ho) hu).mono ?_
        rintro e w' ⟨rfl, h1, h2⟩
        rw [if_pos hu]
        exact ⟨rfl, h1, h2⟩
      · refine (unmap_free E l b r ref by_ w hE h hn (by simpa using ho) (by simpa using hu)).mono ?_
        rintro e w' ⟨rfl, rfl⟩
        rw [if_neg hu]
        exact ⟨rfl, h, Only.refl _ _⟩
end Go.Proofs.YtmeljclaocgoaaaDoor
