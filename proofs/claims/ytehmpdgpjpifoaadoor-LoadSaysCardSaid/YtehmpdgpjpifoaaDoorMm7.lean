/-
  mem.Mem: a word that is there; what differs between a memory and a greater one.
-/
import Derived.Test.YtehmpdgpjpifoaaDoorMm6
namespace Go.Proofs.YtehmpdgpjpifoaaDoor
open Go.RowKit

theorem mm_read_in (l : List Int) (b n j : Nat) (v : Value) (w : World) (h : MAt w b v n l) (hj : j < 16 * n) :
    Calls Tryd.prog 15 #[.pointer (some ⟨b, 0, none⟩), .int .i64 j] w fun e w' => e = .returned (.tuple #[.int .u32 (l.getD j 0), .bool true]) ∧ w = w' := by
  have hl := h.2.2
  have e1 : readAns l (j : Int) = .tuple #[.int .u32 (l.getD j 0), .bool true] := by unfold readAns; rw [if_pos (by omega), Int.toNat_natCast]
  have := mm_read l b n v (j : Int) w h
  rw [e1] at this
  exact this
theorem own_atL {w : World} {e : TypeId} {size : Nat} {ao : Option Addr} {m n cap : Nat} {xs : List Value} (h : w.ownsRow 0 e size (.slice ao m cap) n xs) : AtL w ao xs := by
  obtain ⟨ao', cap', e, hat⟩ := atL_of_own h
  cases e
  exact hat
theorem set_getD (l : List Int) (a k : Nat) (x : Int) (ha : a < l.length) : (l.set a x).getD k 0 = if k = a then x else l.getD k 0 := by
  by_cases h : k = a
  · subst h
    simp [List.getD_eq_getElem?_getD, ha]
  · rw [if_neg h]
    simp [List.getD_eq_getElem?_getD, List.getElem?_set_ne (fun e => h e.symm)]
theorem rep_getD (n k : Nat) : (List.replicate n (0 : Int)).getD k 0 = 0 := by
  simp only [List.getD_eq_getElem?_getD, List.getElem?_replicate]
  split <;> rfl
theorem dif_comm (l l' : List Int) (n n' f : Nat) : dif l n l' n' f = dif l' n' l n f := by
  unfold dif
  have e1 : (decide (f < n) != decide (f < n')) = (decide (f < n') != decide (f < n)) := by cases decide (f < n) <;> cases decide (f < n') <;> rfl
  have e2 : decide (fw l n f = fw l' n' f) = decide (fw l' n' f = fw l n f) := by rw [decide_eq_decide]; exact eq_comm
  rw [e1, e2]
theorem difL_comm (l l' : List Int) (n n' k : Nat) : difL l n l' n' k = difL l' n' l n k := by
  unfold difL
  congr 2
  funext f
  exact dif_comm l l' n n' f
/-- the same memory, and two frames more -/
theorem difL_two (n a : Nat) (x : Int) (ha : a < 16 * n) : difL ((List.replicate (16 * n) 0).set a x) n ((List.replicate (16 * (n + 2)) 0).set a x) (n + 2) (n + 2) = [(n : Int), (n : Int) + 1] := by
  have l1 : ((List.replicate (16 * n) (0 : Int)).set a x).length = 16 * n := by simp
  have l2 : ((List.replicate (16 * (n + 2)) (0 : Int)).set a x).length = 16 * (n + 2) := by simp
  have h0 : ∀ j, j < n → dif ((List.replicate (16 * n) 0).set a x) n ((List.replicate (16 * (n + 2)) 0).set a x) (n + 2) j = false := fun j hj => by
    unfold dif
    rw [fw_ext _ _ n (n + 2) j l1 l2 hj (by omega) fun i hi => by rw [set_getD _ _ _ _ (by simp; exact ha), set_getD _ _ _ _ (by simp; omega), rep_getD, rep_getD], decide_eq_true hj, decide_eq_true (show j < n + 2 by omega)]
    simp
  have h1 : dif ((List.replicate (16 * n) 0).set a x) n ((List.replicate (16 * (n + 2)) 0).set a x) (n + 2) n = true := by
    unfold dif
    rw [decide_eq_false (show ¬ n < n by omega), decide_eq_true (show n < n + 2 by omega)]
    rfl
  have h2 : dif ((List.replicate (16 * n) 0).set a x) n ((List.replicate (16 * (n + 2)) 0).set a x) (n + 2) (n + 1) = true := by
    unfold dif
    rw [decide_eq_false (show ¬ n + 1 < n by omega), decide_eq_true (show n + 1 < n + 2 by omega)]
    rfl
  rw [difL_succ, h2, if_pos rfl, difL_succ, h1, if_pos rfl, difL_none _ _ _ _ _ h0]
  simp
end Go.Proofs.YtehmpdgpjpifoaaDoor
