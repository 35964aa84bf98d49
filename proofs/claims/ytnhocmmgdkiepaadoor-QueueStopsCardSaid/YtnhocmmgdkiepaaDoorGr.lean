/-
  grant.Table: what its functions answer, over a plain list of sixteen loans.
-/
import Derived.Test.YtnhocmmgdkiepaaDoorSee
namespace Go.Proofs.YtnhocmmgdkiepaaDoor
open Go.RowKit

structure Gr where
  live : Bool := false
  w : Bool := false
  used : Bool := false
  frame : Int := 0
  to_ : Int := 0
deriving Inhabited
def grOne (x : Gr) : List Value := [.bool x.live, .bool x.w, .bool x.used, .int .i64 x.frame, .int .i64 x.to_]
def grCells (l : List Gr) : List Value := l.flatMap grOne
theorem grCells_cons (x : Gr) (l : List Gr) : grCells (x :: l) = grOne x ++ grCells l := rfl
theorem grCells_at (l : List Gr) (r : Nat) (h : r < l.length) : (grCells l)[r * 5]? = some (.bool (l.getD r default).live) ∧ (grCells l)[r * 5 + 1]? = some (.bool (l.getD r default).w) ∧ (grCells l)[r * 5 + 2]? = some (.bool (l.getD r default).used) ∧
    (grCells l)[r * 5 + 3]? = some (.int .i64 (l.getD r default).frame) ∧ (grCells l)[r * 5 + 4]? = some (.int .i64 (l.getD r default).to_) := by
  induction l generalizing r with
  | nil => simp at h
  | cons x l ih =>
    cases r with
    | zero => simp [grCells_cons, grOne]
    | succ r =>
      have := ih r (by simpa using h)
      rw [grCells_cons, List.getD_cons_succ, show (r + 1) * 5 = 5 + r * 5 by omega]
      have e : ∀ i, (grOne x ++ grCells l)[5 + r * 5 + i]? = (grCells l)[r * 5 + i]? := fun i => by
        rw [List.getElem?_append_right (by simp [grOne]; omega)]
        congr 1
        simp [grOne]
        omega
      have e0 := e 0
      rw [Nat.add_zero, Nat.add_zero] at e0
      rw [e0, e 1, e 2, e 3, e 4]
      exact this
theorem grCells_set (l : List Gr) (r : Nat) (h : r < l.length) (x : Gr) :
    (((((grCells l).set (r * 5) (.bool x.live)).set (r * 5 + 1) (.bool x.w)).set (r * 5 + 2) (.bool x.used)).set (r * 5 + 3) (.int .i64 x.frame)).set (r * 5 + 4) (.int .i64 x.to_) = grCells (l.set r x) := by
  induction l generalizing r with
  | nil => simp at h
  | cons y l ih =>
    cases r with
    | zero => simp [grCells_cons, grOne]
    | succ r =>
      have := ih r (by simpa using h)
      rw [grCells_cons, List.set_cons_succ, grCells_cons, ← this, show (r + 1) * 5 + 1 = r * 5 + 1 + 5 by omega, show (r + 1) * 5 + 2 = r * 5 + 2 + 5 by omega, show (r + 1) * 5 + 3 = r * 5 + 3 + 5 by omega, show (r + 1) * 5 + 4 = r * 5 + 4 + 5 by omega, show (r + 1) * 5 = r * 5 + 5 by omega]
      simp [grOne]
theorem grCells_used (l : List Gr) (r : Nat) (h : r < l.length) (b : Bool) : (grCells l).set (r * 5 + 2) (.bool b) = grCells (l.set r { l.getD r default with used := b }) := by
  induction l generalizing r with
  | nil => simp at h
  | cons y l ih =>
    cases r with
    | zero => simp [grCells_cons, grOne]
    | succ r =>
      have := ih r (by simpa using h)
      rw [grCells_cons, List.set_cons_succ, List.getD_cons_succ, grCells_cons, ← this, show (r + 1) * 5 + 2 = r * 5 + 2 + 5 by omega]
      simp [grOne]

theorem only1 (w : World) (b o : Nat) (v : Value) : Only (fun k => k = b) w (w.setCell ⟨b, o, none⟩ v) :=
  Only.setCell (F := fun k => k = b) (Only.refl _ _) (p := ⟨b, o, none⟩) (.inl rfl) v
theorem only5 (w : World) (b o0 o1 o2 o3 o4 : Nat) (v0 v1 v2 v3 v4 : Value) : Only (fun k => k = b) w (((((w.setCell ⟨b, o0, none⟩ v0).setCell ⟨b, o1, none⟩ v1).setCell ⟨b, o2, none⟩ v2).setCell ⟨b, o3, none⟩ v3).setCell ⟨b, o4, none⟩ v4) :=
  ((((only1 w b o0 v0).trans (only1 _ b o1 v1)).trans (only1 _ b o2 v2)).trans (only1 _ b o3 v3)).trans (only1 _ b o4 v4)

/-- the error of a number, or none -/
def errOf (E : Nat → Addr) : Option Nat → Value
  | none => .nilIface
  | some k => errV (E k)
theorem errOf_num (E : Nat → Addr) (o : Option Nat) (h : ∀ k, o = some k → k < 16) : errNum (errOf E o) E (match o with | none => 0 | some k => ((101 + k : Nat) : Int)) := by
  cases o with
  | none => exact .inl ⟨rfl, rfl⟩
  | some k => exact .inr ⟨k, h k rfl, rfl, rfl⟩

/-- a loan that is live, if there is one -/
def liveAt (l : List Gr) (ref : Int) : Option Nat := if 0 ≤ ref ∧ ref < 16 ∧ (l.getD ref.toNat default).live = true then some ref.toNat else none
def ptrAt (b : Nat) : Option Nat → Value
  | none => .pointer none
  | some r => .pointer (some ⟨b, r * 5, none⟩)