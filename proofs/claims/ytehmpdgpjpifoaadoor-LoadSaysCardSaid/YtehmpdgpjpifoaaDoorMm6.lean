/-
  mem.Mem: the chapter's examples; what differs where one frame was filled.
-/
import Derived.Test.YtehmpdgpjpifoaaDoorMm4
import Derived.Test.YtehmpdgpjpifoaaDoorMm5
namespace Go.Proofs.YtehmpdgpjpifoaaDoor
open Go.RowKit

theorem mm_write_in (l : List Int) (b n j : Nat) (v : Value) (x : Int) (w : World) (h : MAt w b v n l) (hj : j < 16 * n) :
    Calls Tryd.prog 51 #[.pointer (some ⟨b, 0, none⟩), .int .i64 j, .int .u32 x] w fun e w' => e = .returned (.bool true) ∧ MAt w' b v n (l.set j x) ∧ Only (fun k => inRow v k) w w' := by
  have hl := h.2.2
  have e1 : writeL l (j : Int) x = l.set j x := by unfold writeL; rw [if_pos (by omega), Int.toNat_natCast]
  have e2 : (decide (0 ≤ (j : Int)) && decide ((j : Int) < (l.length : Int))) = true := by simp; omega
  have := mm_write l b n v (j : Int) x w h
  rw [e1, e2] at this
  exact this
theorem mm_write_out (l : List Int) (b n : Nat) (v : Value) (i x : Int) (w : World) (h : MAt w b v n l) (hj : i < 0 ∨ (16 * n : Nat) ≤ i) :
    Calls Tryd.prog 51 #[.pointer (some ⟨b, 0, none⟩), .int .i64 i, .int .u32 x] w fun e w' => e = .returned (.bool false) ∧ MAt w' b v n l ∧ Only (fun k => inRow v k) w w' := by
  have hl := h.2.2
  have e1 : writeL l i x = l := by unfold writeL; rw [if_neg (by omega)]
  have e2 : (decide (0 ≤ i) && decide (i < (l.length : Int))) = false := by simp; omega
  have := mm_write l b n v i x w h
  rw [e1, e2] at this
  exact this

theorem dif_self (l : List Int) (n f : Nat) : dif l n l n f = false := by simp [dif]
theorem filter_none {p : Nat → Bool} : ∀ (l : List Nat), (∀ j ∈ l, p j = false) → l.filter p = []
  | [], _ => rfl
  | x :: l, h => by rw [List.filter_cons_of_neg (by rw [h x (by simp)]; decide), filter_none l (fun j hj => h j (by simp [hj]))]
theorem difL_none (l l' : List Int) (n n' k : Nat) (h : ∀ j, j < k → dif l n l' n' j = false) : difL l n l' n' k = [] := by
  unfold difL
  rw [filter_none _ (fun j hj => h j (List.mem_range.1 hj))]
  rfl
theorem difL_self (l : List Int) (n k : Nat) : difL l n l n k = [] := difL_none _ _ _ _ _ fun j _ => dif_self l n j
theorem difL_one (l l' : List Int) (n n' f : Nat) (h : ∀ j, j ≠ f → dif l n l' n' j = false) : ∀ k, (difL l n l' n' k).length ≤ 1
  | 0 => by simp [difL]
  | k + 1 => by
    by_cases hf : k = f
    · subst hf
      rw [difL_succ, difL_none l l' n n' k (fun j hj => h j (by omega))]
      split <;> simp
    · rw [difL_succ, h k hf, if_neg (by decide)]
      exact difL_one l l' n n' f h k
theorem ext_getD {xs ys : List Int} (hl : xs.length = ys.length) (h : ∀ j, j < xs.length → xs.getD j 0 = ys.getD j 0) : xs = ys := by
  apply List.ext_getElem hl
  intro j h1 h2
  have := h j h1
  simpa [List.getD_eq_getElem?_getD, h1, h2] using this
theorem fw_get (l : List Int) (n f j : Nat) (hl : l.length = 16 * n) (hf : f < n) (hj : j < 16) : (fw l n f).getD j 0 = l.getD (16 * f + j) 0 := by
  unfold fw
  rw [if_pos hf, frameW_get l n f j hl hf hj]
theorem fw_len (l : List Int) (n f : Nat) (hl : l.length = 16 * n) (hf : f < n) : (fw l n f).length = 16 := by
  unfold fw
  rw [if_pos hf, frameW_len l n f hl hf]
theorem fw_ext (l l' : List Int) (n n' f : Nat) (hl : l.length = 16 * n) (hl' : l'.length = 16 * n') (hf : f < n) (hf' : f < n') (h : ∀ j, j < 16 → l.getD (16 * f + j) 0 = l'.getD (16 * f + j) 0) : fw l n f = fw l' n' f := by
  refine ext_getD (by rw [fw_len l n f hl hf, fw_len l' n' f hl' hf']) fun j hj => ?_
  rw [fw_len l n f hl hf] at hj
  rw [fw_get l n f j hl hf hj, fw_get l' n' f j hl' hf' hj, h j hj]
theorem fw_past (l : List Int) (n f : Nat) (hf : n ≤ f) : fw l n f = [] := by
  unfold fw
  rw [if_neg (by omega)]
theorem fw_fill (l : List Int) (n f g : Nat) (xs : List Int) (hl : l.length = 16 * n) (hf : f < n) (hx : xs.length ≤ 16) (hg : g ≠ f) : fw (fillL l f xs) n g = fw l n g := by
  by_cases hgn : g < n
  · refine fw_ext _ _ n n g (by rw [fillL_len, hl]) hl hgn hgn fun j hj => ?_
    rw [fillL_get l n f xs _ hl hf hx, if_neg (by omega)]
  · rw [fw_past _ _ _ (by omega), fw_past _ _ _ (by omega)]
theorem fw_filled (l : List Int) (n f j : Nat) (xs : List Int) (hl : l.length = 16 * n) (hf : f < n) (hx : xs.length ≤ 16) (hj : j < 16) : (fw (fillL l f xs) n f).getD j 0 = xs.getD j 0 := by
  rw [fw_get _ n f j (by rw [fillL_len, hl]) hf hj, fillL_get l n f xs _ hl hf hx, if_pos (by omega)]
  congr 1
  omega
theorem dif_fill (l : List Int) (n f g : Nat) (xs : List Int) (hl : l.length = 16 * n) (hf : f < n) (hx : xs.length ≤ 16) (hg : g ≠ f) : dif l n (fillL l f xs) n g = false := by
  unfold dif
  rw [fw_fill l n f g xs hl hf hx hg]
  simp
end Go.Proofs.YtehmpdgpjpifoaaDoor
