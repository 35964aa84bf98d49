/-
  mem.Fill: a frame's words.
-/
import Derived.Test.YtnhocmmgdkiepaaDoorMm2
import Derived.Lib.SliceRun
namespace Go.Proofs.YtnhocmmgdkiepaaDoor
open Go.RowKit

def setL : List Int → Nat → List Int → List Int
  | l, _, [] => l
  | l, o, x :: xs => setL (l.set o x) (o + 1) xs
theorem setL_len : ∀ (xs l : List Int) (o : Nat), (setL l o xs).length = l.length
  | [], l, o => rfl
  | x :: xs, l, o => by rw [setL, setL_len xs]; simp
theorem setL_get : ∀ (xs l : List Int) (o j : Nat), o + xs.length ≤ l.length → (setL l o xs).getD j 0 = if o ≤ j ∧ j < o + xs.length then xs.getD (j - o) 0 else l.getD j 0
  | [], l, o, j, h => by
    rw [setL, if_neg (by simp)]
  | x :: xs, l, o, j, h => by
    have h' : o + 1 + xs.length ≤ l.length := by simp at h; omega
    rw [setL, setL_get xs (l.set o x) (o + 1) j (by simp; omega)]
    by_cases h1 : o = j
    · subst h1
      rw [if_neg (by omega), if_pos (by simp)]
      simp [List.getD_eq_getElem?_getD, show o < l.length by omega]
    · by_cases h2 : o + 1 ≤ j ∧ j < o + 1 + xs.length
      · rw [if_pos h2, if_pos (by simp; omega)]
        obtain ⟨d, rfl⟩ : ∃ d, j = o + 1 + d := ⟨j - (o + 1), by omega⟩
        rw [show o + 1 + d - (o + 1) = d by omega, show o + 1 + d - o = d + 1 by omega]
        simp
      · rw [if_neg h2, if_neg (by simp; omega)]
        simp [List.getD_eq_getElem?_getD, List.getElem?_set_ne h1]
theorem setCells_at {b n g cap : Nat} : ∀ (xs : List Int) (o : Nat) (l : List Int) (w : World), MAt w b (.slice (some ⟨g, 0, none⟩) (16 * n) cap) n l → MAt (w.setCells g o (u32s xs)) b (.slice (some ⟨g, 0, none⟩) (16 * n) cap) n (setL l o xs) ∧ Only (fun k => inRow (.slice (some ⟨g, 0, none⟩) (16 * n) cap) k) w (w.setCells g o (u32s xs))
  | [], o, l, w, h => ⟨h, Only.refl _ _⟩
  | x :: xs, o, l, w, h => by
    have hgb : ¬ b = g := fun e => h.not (by subst e; rfl)
    have h1 : MAt (w.setCell ⟨g, o, none⟩ (.int .u32 x)) b (.slice (some ⟨g, 0, none⟩) (16 * n) cap) n (l.set o x) := ⟨blk_set h.1 (by exact hgb) _, by
      rw [← u32s_set]
      exact (h.2.1.stored o _).1, by rw [List.length_set]; exact h.2.2⟩
    have h2 : Only (fun k => inRow (.slice (some ⟨g, 0, none⟩) (16 * n) cap) k) w (w.setCell ⟨g, o, none⟩ (.int .u32 x)) :=
      Only.setCell (F := fun k => inRow (.slice (some ⟨g, 0, none⟩) (16 * n) cap) k) (Only.refl _ _) (p := ⟨g, o, none⟩) (.inl rfl) _
    obtain ⟨h3, h4⟩ := setCells_at xs (o + 1) _ _ h1
    exact ⟨h3, h2.trans h4⟩

def zeros16 : List Int := List.replicate 16 0
def fillL (l : List Int) (f : Nat) (xs : List Int) : List Int := setL (setL l (16 * f) zeros16) (16 * f) xs
theorem fillL_len (l : List Int) (f : Nat) (xs : List Int) : (fillL l f xs).length = l.length := by unfold fillL; rw [setL_len, setL_len]
theorem fillL_get (l : List Int) (n f : Nat) (xs : List Int) (j : Nat) (hl : l.length = 16 * n) (hf : f < n) (hx : xs.length ≤ 16) : (fillL l f xs).getD j 0 = if 16 * f ≤ j ∧ j < 16 * f + 16 then xs.getD (j - 16 * f) 0 else l.getD j 0 := by
  have hz : zeros16.length = 16 := rfl
  unfold fillL
  rw [setL_get xs _ _ _ (by rw [setL_len]; omega), setL_get zeros16 _ _ _ (by rw [hz]; omega), hz]
  by_cases h1 : 16 * f ≤ j ∧ j < 16 * f + 16
  · rw [if_pos h1, if_pos h1]
    by_cases h2 : j < 16 * f + xs.length
    · rw [if_pos ⟨h1.1, h2⟩]
    · rw [if_neg (by omega)]
      have e1 : xs.getD (j - 16 * f) 0 = 0 := by simp [List.getD_eq_getElem?_getD, List.getElem?_eq_none (show xs.length ≤ j - 16 * f by omega)]
      rw [e1]
      simp only [zeros16, List.getD_eq_getElem?_getD, List.getElem?_replicate]
      split <;> rfl
  · rw [if_neg (by omega), if_neg h1, if_neg h1]

theorem infoMm4 : (Tryd.prog.info? 43).map (·.size) = some 1 := by kernel_rfl
theorem zeroU32 : ∀ w, (zeroValue 43).run Tryd.prog w = .ok (.int .u32 0) w := fun _ => by kernel_rfl

set_option maxHeartbeats 800000 in
theorem mm_fill_no (l : List Int) (b n m c1 : Nat) (ao : Option Addr) (v : Value) (f : Int) (w : World) (h : MAt w b v n l) (hn : n ≤ 1024) (hno : f < 0 ∨ (n : Int) ≤ f ∨ 16 < m) :
    Calls Tryd.prog 68 #[.pointer (some ⟨b, 0, none⟩), .int .i64 f, .slice ao m c1] w fun e w' => e = .returned (.bool false) ∧ w = w' := by
  have HM := Lib.hid h
  clear h
  by_cases h0 : f < 0
  · clear hno
    go_enter Tryd.func68, Tryd.ntmps68
    go_wp2
    go_ret
    exact ⟨rfl, rfl⟩
  · by_cases h1 : (n : Int) ≤ f
    · clear hno
      go_enter Tryd.func68, Tryd.ntmps68
      go_wp2_with fail
      refine (mm_frames l b n v _ HM.out hn).mono ?_
      rintro e w1 ⟨rfl, rfl⟩
      go_wp2
      go_ret
      exact ⟨rfl, rfl⟩
    · have h2 : (16 : Int) < (m : Int) := by omega
      clear hno
      go_enter Tryd.func68, Tryd.ntmps68
      go_wp2_with fail
      refine (mm_frames l b n v _ HM.out hn).mono ?_
      rintro e w1 ⟨rfl, rfl⟩
      go_wp2
      go_ret
      exact ⟨rfl, rfl⟩

set_option maxRecDepth 100000 in
set_option maxHeartbeats 1600000 in
theorem mm_fill_ok (l xs : List Int) (b n f m c1 : Nat) (ao : Option Addr) (v : Value) (w : World) (h : MAt w b v n l) (hn : n ≤ 1024) (hf : f < n) (hs : AtL w ao (u32s xs)) (hm : xs.length = m) (hx : m ≤ 16) (hap : ∀ a, 0 < m → ao = some a → ¬ inRow v a.block) :
    Calls Tryd.prog 68 #[.pointer (some ⟨b, 0, none⟩), .int .i64 f, .slice ao m c1] w fun e w' => e = .returned (.bool true) ∧ MAt w' b v n (fillL l f xs) ∧ Only (fun k => inRow v k) w w' := by
  have c := h.cell
  have HM := Lib.hid h
  obtain ⟨g, cap, rfl, hcap⟩ := h.own (by omega)
  have hcl : ∀ j, j < 16 * n → w.cell? ⟨g, j, none⟩ = some (.int .u32 (l.getD j 0)) := fun j hj => (own_cell h.2.1 j (by omega)).trans (u32s_get l j (by have := h.2.2; omega))
  have hfz : ∀ j, w.frozen? ⟨g, j, none⟩ = false := fun j => own_free h.2.1 j
  have hz : u32s zeros16 = List.replicate 16 (.int .u32 0) := rfl
  have hu := Tryd.underlying69
  obtain ⟨W1, hW1⟩ : ∃ W1, W1 = w.setCells g (16 * f) (u32s zeros16) := ⟨_, rfl⟩
  have hclr : ∀ ty, (Builtin.clear_ #[69] ty #[.slice (some ⟨g, 16 * f, none⟩) 16 (cap - 16 * f)]).run Tryd.prog w = .ok (.tuple #[]) W1 := fun ty => by
    rw [hW1, hz]
    exact Lib.run_clear_slice w 69 43 ty (.int .u32 0) hu zeroU32 rfl rfl g (16 * f) 16 _ (by decide) (fun j hj => by rw [hcl _ (by omega)]; rfl) (fun j _ => hfz _)
  obtain ⟨m1, o1⟩ := setCells_at zeros16 (16 * f) l w h
  rw [← hW1] at m1 o1
  obtain ⟨m2, o2⟩ := setCells_at xs (16 * f) _ W1 m1
  obtain ⟨W2, hW2⟩ : ∃ W2, W2 = W1.setCells g (16 * f) (u32s xs) := ⟨_, rfl⟩
  rw [← hW2] at m2 o2
  have hcp : ∀ ty, (Builtin.copy_ #[69, 69] ty #[.slice (some ⟨g, 16 * f, none⟩) 16 (cap - 16 * f), .slice ao m c1]).run Tryd.prog W1 = .ok (goInt m) W2 := fun ty => by
    by_cases h0 : m = 0
    · obtain rfl : xs = [] := List.eq_nil_of_length_eq_zero (by omega)
      subst h0
      rw [hW2]
      exact run_copy_none W1 69 69 ty 43 _ _ _ _ _ _ hu infoMm4 (by simp)
    · obtain ⟨sb, so, rfl, -, -⟩ := hs 0 _ (u32s_get xs 0 (by omega))
      have hne : sb ≠ g := fun e => hap _ (by omega) rfl (by subst e; rfl)
      have hl : (u32s xs).length = m := by rw [u32s, List.length_map, hm]
      rw [hW2, show (goInt m) = goInt (u32s xs).length by rw [hl]]
      refine run_copy_cells W1 69 69 ty 43 g (16 * f) 16 (cap - 16 * f) ⟨sb, so, none⟩ m c1 (u32s xs) hu infoMm4 (by rw [hl]; exact (Nat.min_eq_left hx).symm) (fun j u hj => ?_) (fun j hj => ?_) (fun j _ => own_free m1.2.1 _) (u32s_one xs)
      · obtain ⟨b2, o2, e, hc2, -⟩ := hs j u hj
        obtain ⟨rfl, rfl⟩ : sb = b2 ∧ so = o2 := by simpa using e
        rw [Addr.add_lit, hW1, World.cell?_setCells_out g _ _ _ _ (fun e _ => (hne e).elim)]
        exact hc2
      · rw [own_cell m1.2.1 (16 * f + j) (by omega), u32s_get _ _ (by rw [m1.2.2]; omega)]
        rfl
  have HM2 := Lib.hid m2
  have HO2 := Lib.hid (o1.trans o2)
  have h1 := IntWalk.i64_in ((f : Int) * 16) (by omega)
  have h2 := IntWalk.i64_in ((f : Int) + 1) (by omega)
  have h3 := IntWalk.i64_in (((f : Int) + 1) * 16) (by omega)
  have hfi : (f : Int) < (n : Int) := by omega
  have e1 : ((f : Int) * 16).toNat = 16 * f := by omega
  have e2 : (((f : Int) + 1) * 16).toNat = 16 * f + 16 := by omega
  have g1 : (0 : Int) ≤ (f : Int) * 16 := by omega
  have g2 : (f : Int) * 16 ≤ ((f : Int) + 1) * 16 := by omega
  have g3 : ((f : Int) + 1) * 16 ≤ (cap : Int) := by omega
  have g4 : (m : Int) ≤ 16 := by omega
  have HN := Lib.hid hn
  clear h hcl hfz hz hu hW1 m1 o1 m2 o2 hW2 hs hap hm hx hcap hf hn
  go_enter Tryd.func68, Tryd.ntmps68
  go_wp2_with fail
  refine (mm_frames l b n _ _ HM.out HN.out).mono ?_
  rintro e w1 ⟨rfl, rfl⟩
  go_wp2
  go_ret
  exact ⟨rfl, HM2.out, HO2.out⟩
end Go.Proofs.YtnhocmmgdkiepaaDoor
