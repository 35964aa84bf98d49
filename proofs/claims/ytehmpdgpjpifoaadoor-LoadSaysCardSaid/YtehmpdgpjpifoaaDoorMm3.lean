/-
  mem.Differ: the frames that differ.
-/
import Derived.Test.YtehmpdgpjpifoaaDoorMm2
import Derived.Test.YtehmpdgpjpifoaaDoorEqWords
namespace Go.Proofs.YtehmpdgpjpifoaaDoor
open Go.RowKit

theorem infoMInt : (Tryd.prog.info? 3).map (fun i => (i.zero, i.size, i.bytes)) = some (some (.int .i64 0), 1, 8) := by kernel_rfl

def fw (l : List Int) (n f : Nat) : List Int := if f < n then frameW l f else []
theorem mm_frame_any (l : List Int) (b n f : Nat) (v : Value) (w : World) (h : MAt w b v n l) (hn : n ≤ 1024) :
    Calls Tryd.prog 47 #[.pointer (some ⟨b, 0, none⟩), .int .i64 f] w fun e w' => ∃ av cap, e = .returned (.tuple #[.slice av (fw l n f).length cap, .bool (decide (f < n))]) ∧ AtL w' av (u32s (fw l n f)) ∧ Below w.heap.size w w' := by
  by_cases hf : f < n
  · refine (mm_frame l b n f v w h hn hf).mono ?_
    rintro e w' ⟨v', rfl, ho, -, hb⟩
    obtain ⟨av, cap, rfl, hat⟩ := atL_of_own ho
    have e1 : fw l n f = frameW l f := by unfold fw; rw [if_pos hf]
    rw [e1, frameW_len l n f h.2.2 hf, decide_eq_true hf]
    exact ⟨av, cap, rfl, hat, hb⟩
  · refine (mm_frame_none l b n v f w h hn (.inr (by omega))).mono ?_
    rintro e w' ⟨rfl, rfl⟩
    have e1 : fw l n f = [] := by unfold fw; rw [if_neg hf]
    rw [e1, decide_eq_false hf]
    exact ⟨none, 0, rfl, atL_nil _ _, Below.refl _ _⟩

def dif (l1 : List Int) (n1 : Nat) (l2 : List Int) (n2 f : Nat) : Bool := (decide (f < n1) != decide (f < n2)) || !decide (fw l1 n1 f = fw l2 n2 f)
def difL (l1 : List Int) (n1 : Nat) (l2 : List Int) (n2 k : Nat) : List Int := ((List.range k).filter (dif l1 n1 l2 n2)).map fun (f : Nat) => (f : Int)
theorem difL_succ (l1 : List Int) (n1 : Nat) (l2 : List Int) (n2 k : Nat) : difL l1 n1 l2 n2 (k + 1) = if dif l1 n1 l2 n2 k then difL l1 n1 l2 n2 k ++ [(k : Int)] else difL l1 n1 l2 n2 k := by
  unfold difL
  rw [List.range_succ, List.filter_append, List.map_append]
  cases h : dif l1 n1 l2 n2 k <;> simp [h]
theorem difL_len (l1 : List Int) (n1 : Nat) (l2 : List Int) (n2 k : Nat) : (difL l1 n1 l2 n2 k).length ≤ k := by
  unfold difL
  rw [List.length_map]
  exact Nat.le_trans (List.length_filter_le _ _) (by simp)
end Go.Proofs.YtehmpdgpjpifoaaDoor
