/-
  Rows of rows: a part of a row loaded, an element of a row that is a value.
-/
import Derived.Test.YtmeljclaocgoaaaDoorRec
import Derived.Test.YtmeljclaocgoaaaDoorRow
namespace Go.Proofs.YtmeljclaocgoaaaDoor
open Go Go.RowKit

theorem index_row {P : Program} {t e : TypeId} {len n : Nat} {d : TypeDesc} (ht : P.underlying t = some (.array len e)) (hd : P.underlying e = some d) (hag : (match d with | .struct _ | .array _ _ => true | _ => false) = true)
    (hn : (P.info? e).map (·.size) = some n) (cs : Array Value) (j : Nat) (hj : j < len) (w : World) : (Instr.index t (.agg cs) (.int .i64 (j : Int))).run P w = .ok (.agg (cs.extract (j * n) (j * n + n))) w := by
  obtain ⟨i, hi, hs⟩ := Option.map_eq_some_iff.1 hn
  have hagg : (isAgg e).run P w = .ok true w := by
    unfold isAgg
    rw [Sem.run_bind, run_underlying hd w]
    cases d <;> simp_all
  simp [Instr.index, asIntOf, run_underlying ht, part, hagg, sizeOf, typeInfo, hi, hs, hj, go_sem]
theorem rec_extract {α : Type} [Inhabited α] (f : α → List Value) (n : Nat) (hf : ∀ x, (f x).length = n) (l : List α) (i : Nat) (hi : i < l.length) : (l.flatMap f).toArray.extract (i * n) (i * n + n) = (f (l.getD i default)).toArray := by
  apply Array.toList_inj.1
  simp only [Array.toList_extract, List.extract_eq_take_drop]
  rw [show i * n + n - i * n = n by omega]
  exact rec_ext f n hf l i hi
theorem rec_cut {α : Type} (f : α → List Value) (n : Nat) (hf : ∀ x, (f x).length = n) (l : List α) (i m : Nat) : (l.flatMap f).toArray.extract (i * n) (i * n + m * n) = (((l.drop i).take m).flatMap f).toArray := by
  apply Array.toList_inj.1
  simp only [Array.toList_extract, List.extract_eq_take_drop]
  rw [show i * n + m * n - i * n = m * n by omega]
  exact rec_part f n hf l i m
/-- m records from record i on, loaded at once -/
theorem load_part {P : Program} {α : Type} {f : α → List Value} {n : Nat} (hf : ∀ x, (f x).length = n) {U T : TypeId} {d : TypeDesc} (m : Nat) (hu : P.underlying T = some d) (hd : (match d with | .struct _ | .array _ _ => true | _ => false) = true) (hi : (P.info? T).map (·.size) = some (m * n))
    {w : World} {b : Nat} {l : List α} (h : RecAt f U w b l) (i : Nat) (him : i + m ≤ l.length) : (loadVar T ⟨b, i * n, none⟩).run P w = .ok (.agg (((l.drop i).take m).flatMap f).toArray) w := by
  have hs : (l.flatMap f).toArray.size = l.length * n := by rw [List.size_toArray, rec_len f n hf]
  rw [run_load_by T (m * n) d hu hd hi, loadBy_lit, row?_of h, ← rec_cut f n hf]
  dsimp only
  rw [hs]
  have h1 : i * n + m * n ≤ l.length * n := by rw [← Nat.add_mul]; exact Nat.mul_le_mul_right _ him
  split
  · rename_i hc
    obtain ⟨hc1, hc2⟩ := hc
    rw [hc2, Nat.zero_add, ← hc1, ← hs, Array.extract_eq_self_of_le (Nat.le_refl _)]
  · first | rfl | rw [if_pos h1]
theorem allOne_rec {α : Type} (f : α → List Value) (h1 : ∀ x, ∀ u ∈ f x, u.oneCell' = true) (l : List α) : allOne (l.flatMap f).toArray = true := by
  unfold allOne
  rw [Array.all_eq_true']
  intro u hu
  simp only [List.mem_toArray, List.mem_flatMap] at hu
  obtain ⟨x, -, hx⟩ := hu
  exact h1 x u hx
theorem row_setRow {w : World} {g : Nat} {cs old : Array Value} {t : TypeId} (h : w.heap[g]? = some (.cells old t (0, 0))) : (w.setRow g cs).heap[g]? = some (.cells cs t (0, 0)) := by
  simp [World.setRow, Array.getElem?_modify, h]
theorem row_setRow_other {w : World} {g k : Nat} {cs : Array Value} (h : k ≠ g) : (w.setRow g cs).heap[k]? = w.heap[k]? := by
  have h' : ¬ g = k := fun e => h e.symm
  simp [World.setRow, Array.getElem?_modify, h']
theorem only_setRow {F : Nat → Prop} {a w : World} {g : Nat} {cs : Array Value} (h : Only F a w) (hg : F g ∨ a.heap.size ≤ g) : Only F a (w.setRow g cs) :=
  ⟨h.os, h.tape, h.output, by simp only [World.setRow, Array.size_modify]; exact h.size, fun k hk hf => by
    rw [row_setRow_other (fun e => by subst e; rcases hg with h1 | h1; exact hf h1; omega)]
    exact h.block k hk hf⟩
theorem setRow_below {B : Nat} {a w : World} {g : Nat} {cs : Array Value} (h : Below B a w) (hg : B ≤ g) : Below B a (w.setRow g cs) :=
  ⟨h.os, h.tape, h.output, by simp only [World.setRow, Array.size_modify]; exact h.size, fun k hk => by
    rw [row_setRow_other (by omega)]
    exact h.block k hk⟩
end Go.Proofs.YtmeljclaocgoaaaDoor
