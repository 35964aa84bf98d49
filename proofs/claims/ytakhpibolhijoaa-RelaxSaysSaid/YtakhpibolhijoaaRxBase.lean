/-
  Items of relaxing in memory.
-/
import Derived.Test.YtakhpibolhijoaaRxLaw
import Derived.Test.YtakhpibolhijoaaRows
import Derived.Test.YtakhpibolhijoaaLists
import Derived.BigQuiet
namespace Go.Proofs.Ytakhpibolhijoaa
open Go.RowKit

def itCells (l : List Rx.It) : List Value := l.flatMap fun x => [.int .i64 x.size, .int .i64 x.to_, .bool x.br]
theorem itCells_cons (x : Rx.It) (l : List Rx.It) : itCells (x :: l) = [.int .i64 x.size, .int .i64 x.to_, .bool x.br] ++ itCells l := rfl
theorem itCells_append (l m : List Rx.It) : itCells (l ++ m) = itCells l ++ itCells m := by simp [itCells]
theorem itCells_len (l : List Rx.It) : (itCells l).length = l.length * 3 := by
  induction l with
  | nil => rfl
  | cons x l ih => rw [itCells_cons, List.length_append, ih, List.length_cons]; simp; omega
theorem itCells_at (l : List Rx.It) (k : Nat) (h : k < l.length) : (itCells l)[k * 3]? = some (.int .i64 (l.getD k default).size) ∧ (itCells l)[k * 3 + 1]? = some (.int .i64 (l.getD k default).to_) ∧ (itCells l)[k * 3 + 2]? = some (.bool (l.getD k default).br) := by
  induction l generalizing k with
  | nil => simp at h
  | cons x l ih =>
    cases k with
    | zero => simp [itCells_cons]
    | succ k =>
      have := ih k (by simpa using h)
      rw [itCells_cons, List.getD_cons_succ]
      have e3 : (k + 1) * 3 = 3 + k * 3 := by omega
      rw [e3]
      simp only [List.getElem?_append, List.length_cons, List.length_nil]
      rw [if_neg (by omega), if_neg (by omega), if_neg (by omega), show 3 + k * 3 - (0 + 1 + 1 + 1) = k * 3 from by omega, show 3 + k * 3 + 1 - (0 + 1 + 1 + 1) = k * 3 + 1 from by omega, show 3 + k * 3 + 2 - (0 + 1 + 1 + 1) = k * 3 + 2 from by omega]
      exact this
theorem itCells_one (l : List Rx.It) : ∀ u ∈ itCells l, u.oneCell' = true := by
  intro u hu
  simp only [itCells, List.mem_flatMap] at hu
  obtain ⟨x, -, hu⟩ := hu
  simp only [List.mem_cons, List.not_mem_nil, or_false] at hu
  rcases hu with rfl | rfl | rfl <;> rfl

/-- items at an address that may be none -/
def AtIt (w : World) (ao : Option Addr) (l : List Rx.It) : Prop := ∀ k, k < l.length → ∃ b off, ao = some ⟨b, off, none⟩ ∧ b < w.heap.size ∧
  w.cell? ⟨b, off + k * 3, none⟩ = some (.int .i64 (l.getD k default).size) ∧ w.cell? ⟨b, off + k * 3 + 1, none⟩ = some (.int .i64 (l.getD k default).to_) ∧ w.cell? ⟨b, off + k * 3 + 2, none⟩ = some (.bool (l.getD k default).br)
theorem AtIt.of {w : World} {ao : Option Addr} {l : List Rx.It} (h : AtL w ao (itCells l)) : AtIt w ao l := fun k hk => by
  obtain ⟨h0, h1, h2⟩ := itCells_at l k hk
  obtain ⟨b, off, e, c0, hl⟩ := h _ _ h0
  obtain ⟨b1, off1, e1, c1, -⟩ := h _ _ h1
  obtain ⟨b2, off2, e2, c2, -⟩ := h _ _ h2
  subst e
  cases e1
  cases e2
  exact ⟨b, off, rfl, hl, c0, by rw [Nat.add_assoc]; exact c1, by rw [Nat.add_assoc]; exact c2⟩
theorem AtIt.mono {W w : World} {ao : Option Addr} {l : List Rx.It} (h : AtIt W ao l) (hb : Below W.heap.size W w) : AtIt w ao l := fun k hk => by
  obtain ⟨b, off, e, hl, c0, c1, c2⟩ := h k hk
  exact ⟨b, off, e, Nat.lt_of_lt_of_le hl hb.size, (hb.cell (p := ⟨b, off + k * 3, none⟩) hl).trans c0, (hb.cell (p := ⟨b, off + k * 3 + 1, none⟩) hl).trans c1, (hb.cell (p := ⟨b, off + k * 3 + 2, none⟩) hl).trans c2⟩

theorem getD_mem_it (l : List Rx.It) (k : Nat) (h : k < l.length) : l.getD k default ∈ l := by
  rw [List.getD_eq_getElem?_getD, List.getElem?_eq_getElem h]
  exact List.getElem_mem _
end Go.Proofs.Ytakhpibolhijoaa
