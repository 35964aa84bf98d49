/-
  Rows of records: a list of records laid out cell by cell; plain facts.
-/
import Derived.Test.YtnhocmmgdkiepaaDoorOwn
namespace Go.Proofs.YtnhocmmgdkiepaaDoor
open Go.RowKit

theorem rec_len {α V : Type} (f : α → List V) (n : Nat) (hf : ∀ x, (f x).length = n) (l : List α) : (l.flatMap f).length = l.length * n := by
  induction l with
  | nil => simp
  | cons x l ih => rw [List.flatMap_cons, List.length_append, ih, hf, List.length_cons, Nat.succ_mul, Nat.add_comm]
theorem rec_get {α V : Type} [Inhabited α] (f : α → List V) (n : Nat) (hf : ∀ x, (f x).length = n) (l : List α) (i j : Nat) (hi : i < l.length) (hj : j < n) : (l.flatMap f)[i * n + j]? = (f (l.getD i default))[j]? := by
  induction l generalizing i with
  | nil => simp at hi
  | cons x l ih =>
    cases i with
    | zero => rw [List.flatMap_cons, List.getElem?_append_left (by rw [hf]; omega)]; simp
    | succ i =>
      rw [List.flatMap_cons, List.getElem?_append_right (by rw [hf, Nat.succ_mul]; omega), hf, List.getD_cons_succ, ← ih i (by simpa using hi)]
      congr 1
      rw [Nat.succ_mul]
      omega
theorem rec_set {α V : Type} [Inhabited α] (f : α → List V) (n : Nat) (hf : ∀ x, (f x).length = n) (l : List α) (i j : Nat) (hi : i < l.length) (hj : j < n) (y : α) (v : V) (h : f y = (f (l.getD i default)).set j v) : (l.flatMap f).set (i * n + j) v = (l.set i y).flatMap f := by
  induction l generalizing i with
  | nil => simp at hi
  | cons x l ih =>
    cases i with
    | zero =>
      simp only [List.getD_cons_zero] at h
      rw [List.flatMap_cons, List.set_append_left _ _ (by rw [hf]; omega), List.set_cons_zero, List.flatMap_cons, h]
      simp
    | succ i =>
      rw [List.flatMap_cons, List.set_append_right _ _ (by rw [hf, Nat.succ_mul]; omega), List.set_cons_succ, List.flatMap_cons, ← ih i (by simpa using hi) h]
      congr 2
      rw [hf, Nat.succ_mul]
      omega
theorem rec_ext {α V : Type} [Inhabited α] (f : α → List V) (n : Nat) (hf : ∀ x, (f x).length = n) (l : List α) (i : Nat) (hi : i < l.length) : ((l.flatMap f).drop (i * n)).take n = f (l.getD i default) := by
  induction l generalizing i with
  | nil => simp at hi
  | cons x l ih =>
    cases i with
    | zero =>
      rw [List.flatMap_cons, Nat.zero_mul, List.drop_zero]
      rw [show n = (f x).length from (hf x).symm, List.take_left]
      simp
    | succ i =>
      rw [List.flatMap_cons, Nat.succ_mul, Nat.add_comm, ← List.drop_drop, show n = (f x).length from (hf x).symm, List.drop_left, hf, List.getD_cons_succ, ih i (by simpa using hi)]
/-- a part of the whole, of m records from record i on -/
theorem rec_part {α V : Type} (f : α → List V) (n : Nat) (hf : ∀ x, (f x).length = n) (l : List α) (i m : Nat) : ((l.flatMap f).drop (i * n)).take (m * n) = ((l.drop i).take m).flatMap f := by
  induction l generalizing i m with
  | nil => simp
  | cons x l ih =>
    cases i with
    | zero =>
      cases m with
      | zero => simp
      | succ m =>
        have := ih 0 m
        rw [Nat.zero_mul, List.drop_zero, List.drop_zero] at this
        rw [Nat.zero_mul, List.drop_zero, List.drop_zero, List.take_succ_cons, List.flatMap_cons, List.flatMap_cons, ← this, Nat.succ_mul, Nat.add_comm, List.take_append, hf, List.take_of_length_le (by rw [hf]; omega)]
        congr 2
        omega
    | succ i =>
      rw [List.flatMap_cons, Nat.succ_mul, Nat.add_comm, ← List.drop_drop, show n = (f x).length from (hf x).symm, List.drop_left, hf, List.drop_succ_cons, ih i m]

/-- block b holds the records l, each of n cells -/
def RecAt {α : Type} (f : α → List Value) (T : TypeId) (w : World) (b : Nat) (l : List α) : Prop := w.heap[b]? = some (.cells (l.flatMap f).toArray T (0, 0))
theorem RecAt.below {α : Type} {f : α → List Value} {T : TypeId} {w w' : World} {b : Nat} {l : List α} (h : RecAt f T w b l) (hb : Below w.heap.size w w') : RecAt f T w' b l := by
  unfold RecAt at h ⊢
  rw [hb.block b (blk_lt h)]
  exact h
theorem RecAt.only {α : Type} {F : Nat → Prop} {f : α → List Value} {T : TypeId} {w w' : World} {b : Nat} {l : List α} (h : RecAt f T w b l) (hb : Only F w w') (hF : ¬ F b) : RecAt f T w' b l := hb.blk h hF
theorem RecAt.cell {α : Type} [Inhabited α] {f : α → List Value} {n : Nat} (hf : ∀ x, (f x).length = n) {T : TypeId} {w : World} {b : Nat} {l : List α} (h : RecAt f T w b l) (i j : Nat) (hi : i < l.length) (hj : j < n) : w.cell? ⟨b, i * n + j, none⟩ = (f (l.getD i default))[j]? := by
  rw [blk_cell h, List.getElem?_toArray, rec_get f n hf l i j hi hj]
theorem RecAt.free {α : Type} {f : α → List Value} {T : TypeId} {w : World} {b : Nat} {l : List α} (h : RecAt f T w b l) (o : Nat) : w.frozen? ⟨b, o, none⟩ = false := blk_free h o
theorem RecAt.put {α : Type} [Inhabited α] {f : α → List Value} {n : Nat} (hf : ∀ x, (f x).length = n) {T : TypeId} {w : World} {b : Nat} {l : List α} (h : RecAt f T w b l) (i j : Nat) (hi : i < l.length) (hj : j < n) (y : α) (v : Value) (hy : f y = (f (l.getD i default)).set j v) :
    RecAt f T (w.setCell ⟨b, i * n + j, none⟩ v) b (l.set i y) := by
  have := blk_put h (i * n + j) v
  unfold RecAt
  rw [this, ← rec_set f n hf l i j hi hj y v hy]
  simp
end Go.Proofs.YtnhocmmgdkiepaaDoor
