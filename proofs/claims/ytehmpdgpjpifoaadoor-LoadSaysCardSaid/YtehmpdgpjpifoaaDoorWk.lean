/-
  walk: where an address is, over the list of a memory's words.
-/
import Derived.Test.YtehmpdgpjpifoaaDoorMm2
import Derived.Test.YtehmpdgpjpifoaaDoorMmB
import Derived.Test.YtehmpdgpjpifoaaDoorWalkBack
namespace Go.Proofs.YtehmpdgpjpifoaaDoor
open Go.RowKit

/-- a word of a memory -/
def W32 (x : Int) : Prop := 0 ≤ x ∧ x ≤ 4294967295
structure Ent where
  f : Int
  t : Bool
  w : Bool
  u : Bool
def Ent.v (e : Ent) : Value := .agg #[.int .i64 e.f, .bool e.t, .bool e.w, .bool e.u]
def Ent.z : Ent := ⟨0, false, false, false⟩
def entOkB (f : Int) (t wr u : Bool) : Bool := decide (0 ≤ f ∧ f < 1024) && (t || (decide (f = 0) && !wr && !u))
def isEntB (x : Int) : Bool := entOkB (x / 256) (flag x 1) (flag x 2) (flag x 4) && decide (entW (x / 256) (flag x 1) (flag x 2) (flag x 4) = x)
theorem entOkB_iff (f : Int) (t wr u : Bool) : entOkB f t wr u = true ↔ entOk f t wr u := by
  unfold entOkB entOk
  cases t <;> cases wr <;> cases u <;> simp
  all_goals omega
theorem isEntB_iff (x : Int) : isEntB x = true ↔ isEnt x := by
  unfold isEntB isEnt
  rw [Bool.and_eq_true, entOkB_iff, decide_eq_true_eq]
/-- a word as an entry -/
def ofA (x : Int) : Ent × Bool := if isEntB x then (⟨x / 256, flag x 1, flag x 2, flag x 4⟩, true) else (Ent.z, false)
/-- an entry of a frame that is there -/
def entryA (l : List Int) (n : Nat) (f : Int) (i : Nat) : Ent × Bool :=
  if 0 ≤ f ∧ f < (n : Int) ∧ (ofA (l.getD (16 * f.toNat + i) 0)).2 = true ∧ (ofA (l.getD (16 * f.toNat + i) 0)).1.t = true then ((ofA (l.getD (16 * f.toNat + i) 0)).1, true) else (Ent.z, false)
/-- a page's entry -/
def pageA (l : List Int) (n : Nat) (root page : Int) : Ent × Bool :=
  if 0 ≤ page ∧ page < 256 ∧ (entryA l n root (page.toNat / 16)).2 = true then entryA l n (entryA l n root (page.toNat / 16)).1.f (page.toNat % 16) else (Ent.z, false)
/-- where an address is -/
def walkA (l : List Int) (n : Nat) (root addr : Int) (wr us : Bool) : Int × Bool :=
  if addr < 4096 ∧ (pageA l n root (addr / 16)).2 = true ∧ (wr = true → (pageA l n root (addr / 16)).1.w = true) ∧ (us = true → (pageA l n root (addr / 16)).1.u = true) ∧ (pageA l n root (addr / 16)).1.f < (n : Int) then ((pageA l n root (addr / 16)).1.f * 16 + addr % 16, true) else (0, false)
theorem ofA_range (x : Int) (h : 0 ≤ x) : 0 ≤ (ofA x).1.f ∧ (ofA x).1.f < 1024 := by
  unfold ofA
  by_cases hx : isEntB x = true
  · rw [if_pos hx]
    have := (isEntB_iff x).1 hx
    exact ⟨this.1.1, this.1.2.1⟩
  · rw [if_neg hx]
    exact ⟨by decide, by decide⟩
theorem entryA_f (l : List Int) (n : Nat) (f : Int) (i : Nat) (hl : ∀ j, W32 (l.getD j 0)) : 0 ≤ (entryA l n f i).1.f ∧ (entryA l n f i).1.f < 1024 := by
  unfold entryA
  split
  · exact ofA_range _ (hl _).1
  · exact ⟨by decide, by decide⟩
theorem pageA_f (l : List Int) (n : Nat) (r p : Int) (hl : ∀ j, W32 (l.getD j 0)) : 0 ≤ (pageA l n r p).1.f ∧ (pageA l n r p).1.f < 1024 := by
  unfold pageA
  split
  · exact entryA_f _ _ _ _ hl
  · exact ⟨by decide, by decide⟩

theorem set4 {B : Nat} {w w' : World} (h : Below B w w') {b : Nat} (hb : B ≤ b) (x y z u : Value) : Below B w ((((w'.setCell ⟨b, 0, none⟩ x).setCell ⟨b, 1, none⟩ y).setCell ⟨b, 2, none⟩ z).setCell ⟨b, 3, none⟩ u) :=
  (((h.setCell (p := ⟨b, 0, none⟩) hb x).setCell (p := ⟨b, 1, none⟩) hb y).setCell (p := ⟨b, 2, none⟩) hb z).setCell (p := ⟨b, 3, none⟩) hb u
theorem set4a {w w' : World} (h : Below w.heap.size w w') {b : Nat} (hb : w.heap.size ≤ b) (x y z u : Value) (o : Obj) : Below w.heap.size w (((((w'.setCell ⟨b, 0, none⟩ x).setCell ⟨b, 1, none⟩ y).setCell ⟨b, 2, none⟩ z).setCell ⟨b, 3, none⟩ u).alloc o) :=
  (set4 h hb x y z u).alloc (set4 h hb x y z u).size o

theorem walkA_of (l : List Int) (n : Nat) (root addr : Int) (wr us : Bool) (e : Ent) (ok : Bool) (h : addr < 4096) (hp : pageA l n root (addr / 16) = (e, ok)) :
    walkA l n root addr wr us = if ok = true ∧ (wr = true → e.w = true) ∧ (us = true → e.u = true) ∧ e.f < (n : Int) then (e.f * 16 + addr % 16, true) else (0, false) := by
  unfold walkA
  rw [hp]
  by_cases hc : ok = true ∧ (wr = true → e.w = true) ∧ (us = true → e.u = true) ∧ e.f < (n : Int)
  · rw [if_pos hc, if_pos ⟨h, hc.1, hc.2.1, hc.2.2.1, hc.2.2.2⟩]
  · rw [if_neg hc, if_neg (fun h => hc ⟨h.2.1, h.2.2.1, h.2.2.2.1, h.2.2.2.2⟩)]
def pairV (p : Int × Bool) : Value := .tuple #[.int .i64 p.1, .bool p.2]