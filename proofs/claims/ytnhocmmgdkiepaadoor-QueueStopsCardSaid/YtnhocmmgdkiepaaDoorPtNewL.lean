/-
  Tables of nothing, while they are made: plain laws.
-/
import Derived.Test.YtnhocmmgdkiepaaDoorPtLaw
import Derived.Test.YtnhocmmgdkiepaaDoorFrNew
namespace Go.Proofs.YtnhocmmgdkiepaaDoor
open Go.RowKit

/-- frames: o of another one's, k of whose tables are made -/
def frU (n o k : Nat) (who : Int) : List Fr := (List.range n).map fun i => if i < o then ⟨3, 0, 0, 0⟩ else if i < o + k then ⟨who, 0, 0, 0⟩ else frNo
/-- the same, k of 17 tables made -/
def frM (n o k : Nat) (who : Int) : List Fr := (List.range n).map fun i => if i < o then ⟨3, 0, 0, 0⟩ else if i < o + 17 then (if i < o + k then ⟨who, if i = o then 1 else 2, 0, 1⟩ else ⟨who, 0, 0, 0⟩) else frNo
def rngF (o k : Nat) : List Int := (List.range k).map fun i => ((o + i : Nat) : Int)
theorem frU_len (n o k : Nat) (who : Int) : (frU n o k who).length = n := by simp [frU]
theorem frM_len (n o k : Nat) (who : Int) : (frM n o k who).length = n := by simp [frM]
theorem frU_get (n o k i : Nat) (who : Int) (h : i < n) : (frU n o k who).getD i default = if i < o then ⟨3, 0, 0, 0⟩ else if i < o + k then ⟨who, 0, 0, 0⟩ else frNo := by simp [frU, h]
theorem frM_get (n o k i : Nat) (who : Int) (h : i < n) : (frM n o k who).getD i default = if i < o then ⟨3, 0, 0, 0⟩ else if i < o + 17 then (if i < o + k then ⟨who, if i = o then 1 else 2, 0, 1⟩ else ⟨who, 0, 0, 0⟩) else frNo := by simp [frM, h]
theorem fr_ext {xs ys : List Fr} (hl : xs.length = ys.length) (h : ∀ i, i < xs.length → xs.getD i default = ys.getD i default) : xs = ys := by
  apply List.ext_getElem hl
  intro i h1 h2
  have := h i h1
  rw [List.getD_eq_getElem?_getD, List.getD_eq_getElem?_getD, List.getElem?_eq_getElem h1, List.getElem?_eq_getElem h2] at this
  exact this
theorem fr_setD (l : List Fr) (a i : Nat) (x : Fr) (ha : a < l.length) : (l.set a x).getD i default = if i = a then x else l.getD i default := by
  rw [List.getD_eq_getElem?_getD, List.getElem?_set]
  by_cases h : a = i
  · subst h
    simp [ha]
  · rw [if_neg h, if_neg (fun e => h e.symm), ← List.getD_eq_getElem?_getD]
theorem rngF_len (o k : Nat) : (rngF o k).length = k := by simp [rngF]
theorem rngF_get (o k i : Nat) (h : i < k) : (rngF o k).getD i 0 = ((o + i : Nat) : Int) := by simp [rngF, h]
theorem rngF_succ (o k : Nat) : rngF o (k + 1) = rngF o k ++ [((o + k : Nat) : Int)] := by simp [rngF, List.range_succ]
theorem rngF_mem (o k : Nat) (x : Int) (h : x ∈ rngF o k) : ∃ i, i < k ∧ x = ((o + i : Nat) : Int) := by
  unfold rngF at h
  obtain ⟨i, hi, rfl⟩ := List.mem_map.1 h
  exact ⟨i, List.mem_range.1 hi, rfl⟩
theorem frOwns_ne {who : Int} (h : frOwns who) : who ≠ -1 := by unfold frOwns at h; omega
theorem frU_alloc (n o k : Nat) (who : Int) (hw : frOwns who) (hk : o + k < n) : frAlloc (frU n o k who) who = ⟨frU n o (k + 1) who, ((o + k : Nat) : Int), 0⟩ := by
  have hf : frFree (frU n o k who) = some (o + k) := frFree_is (by rw [frU_len]; exact hk) (by rw [frU_get n o k _ who hk, if_neg (by omega), if_neg (by omega)]; rfl) fun i hi => by
    rw [frU_get n o k i who (by omega)]
    split
    · decide
    · first | exact frOwns_ne hw | (rw [if_pos (by omega)]; exact frOwns_ne hw)
  unfold frAlloc
  rw [if_pos hw, hf]
  dsimp only
  congr 1
  apply fr_ext
  · rw [List.length_set, frU_len, frU_len]
  · intro i hi
    rw [List.length_set, frU_len] at hi
    rw [fr_setD _ _ _ _ (by rw [frU_len]; exact hk), frU_get n o (k + 1) i who hi]
    by_cases h : i = o + k
    · subst h
      rw [if_pos rfl, if_neg (by omega), if_pos (by omega), frU_get n o k _ who hk, if_neg (by omega), if_neg (by omega)]
      rfl
    · rw [if_neg h, frU_get n o k i who hi]
      by_cases h1 : i < o
      · rw [if_pos h1, if_pos h1]
      · rw [if_neg h1, if_neg h1]
        by_cases h2 : i < o + k
        · rw [if_pos h2, if_pos (by omega)]
        · rw [if_neg h2, if_neg (by omega)]
theorem frM_zero (n o : Nat) (who : Int) : frM n o 0 who = frU n o 17 who := by
  apply fr_ext
  · rw [frM_len, frU_len]
  · intro i hi
    rw [frM_len] at hi
    rw [frM_get n o 0 i who hi, frU_get n o 17 i who hi]
    split
    · rfl
    · split
      · rw [if_neg (by omega)]
      · rfl
theorem frM_at (n o k : Nat) (who : Int) (hw : frOwns who) (hn : o + 17 ≤ n) (hk : k < 17) : frAt (frM n o k who) ((o + k : Nat) : Int) = some (o + k) := by
  unfold frAt
  rw [if_pos ⟨by omega, by rw [frM_len]; omega, by
    rw [Int.toNat_natCast, frM_get n o k _ who (by omega), if_neg (by omega), if_pos (by omega), if_neg (by omega)]
    exact frOwns_ne hw⟩, Int.toNat_natCast]
/-- a table's frame is made one -/
theorem frM_make (n o k : Nat) (who : Int) (hw : frOwns who) (hn : o + 17 ≤ n) (hk : k < 17) : frMine (frM n o k who) ((o + k : Nat) : Int) who (kMake (if k = 0 then 1 else 2)) = ⟨(frM n o k who).set (o + k) ⟨who, if k = 0 then 1 else 2, 0, 0⟩, 0, 0⟩ := by
  unfold frMine
  rw [frM_at n o k who hw hn hk]
  dsimp only
  have hg : (frM n o k who).getD (o + k) default = ⟨who, 0, 0, 0⟩ := by rw [frM_get n o k _ who (by omega), if_neg (by omega), if_pos (by omega), if_neg (by omega)]
  rw [hg, if_pos rfl]
  rfl
/-- it is used -/
theorem frM_use (n o k : Nat) (who : Int) (hw : frOwns who) (hn : o + 17 ≤ n) (hk : k < 17) : frThere ((frM n o k who).set (o + k) ⟨who, if k = 0 then 1 else 2, 0, 0⟩) ((o + k : Nat) : Int) kUse = ⟨frM n o (k + 1) who, 0, 0⟩ := by
  obtain ⟨kd, hkd⟩ : ∃ kd : Int, (if k = 0 then 1 else 2) = kd := ⟨_, rfl⟩
  have hk2 : (if o + k = o then (1 : Int) else 2) = kd := by
    rw [← hkd]
    by_cases h0 : k = 0
    · rw [if_pos (show o + k = o by omega), if_pos h0]
    · rw [if_neg (show ¬ o + k = o by omega), if_neg h0]
  rw [hkd]
  have hl : o + k < (frM n o k who).length := by rw [frM_len]; omega
  have hg : ((frM n o k who).set (o + k) ⟨who, kd, 0, 0⟩).getD (o + k) default = ⟨who, kd, 0, 0⟩ := by rw [fr_setD _ _ _ _ hl, if_pos rfl]
  have hat : frAt ((frM n o k who).set (o + k) ⟨who, kd, 0, 0⟩) ((o + k : Nat) : Int) = some (o + k) := by
    unfold frAt
    rw [if_pos ⟨by omega, by rw [List.length_set]; omega, by rw [Int.toNat_natCast, hg]; exact frOwns_ne hw⟩, Int.toNat_natCast]
  unfold frThere
  rw [hat]
  dsimp only
  rw [hg]
  unfold kUse
  dsimp only
  congr 1
  rw [List.set_set]
  apply fr_ext
  · rw [List.length_set, frM_len, frM_len]
  · intro i hi
    rw [List.length_set, frM_len] at hi
    rw [fr_setD _ _ _ _ hl, frM_get n o (k + 1) i who hi]
    by_cases h : i = o + k
    · subst h
      rw [if_pos rfl, if_neg (show ¬ o + k < o by omega), if_pos (show o + k < o + 17 by omega), if_pos (show o + k < o + (k + 1) by omega), hk2]
      rfl
    · rw [if_neg h, frM_get n o k i who hi]
      by_cases h1 : i < o
      · rw [if_pos h1, if_pos h1]
      · rw [if_neg h1, if_neg h1]
        by_cases h2 : i < o + 17
        · rw [if_pos h2, if_pos h2]
          by_cases h3 : i < o + k
          · rw [if_pos h3, if_pos (show i < o + (k + 1) by omega)]
          · rw [if_neg h3, if_neg (show ¬ i < o + (k + 1) by omega)]
        · rw [if_neg h2, if_neg h2]
/-- memory, as many tables made -/
def tM (M : List Int) (o : Nat) : Nat → List Int
  | 0 => M
  | k + 1 => if k = 0 then fillL (tM M o k) (o + k) [] else putE (fillL (tM M o k) (o + k) []) (o : Int) ((k : Int) - 1) ⟨((o + k : Nat) : Int), true, true, true⟩
theorem putE_ok (l : List Int) (f i : Int) (g : Nat) (h : g < 1024) : putE l f i ⟨(g : Int), true, true, true⟩ = writeL l (f * 16 + i) (entW (g : Int) true true true) := by
  unfold putE bitsA
  have hok : entOkB (g : Int) true true true = true := (entOkB_iff _ _ _ _).2 ⟨by omega, by omega, fun h => by cases h⟩
  rw [if_pos hok]
  rfl
theorem wlen (l : List Int) (i x : Int) : (writeL l i x).length = l.length := by
  unfold writeL
  split
  · simp
  · rfl
theorem tM_len (M : List Int) (o : Nat) : ∀ k, k ≤ 17 → o + k ≤ 1024 → (tM M o k).length = M.length
  | 0, _, _ => rfl
  | k + 1, hk, ho => by
    unfold tM
    split
    · rw [fillL_len, tM_len M o k (by omega) (by omega)]
    · rw [putE_ok _ _ _ _ (by omega), wlen, fillL_len, tM_len M o k (by omega) (by omega)]
theorem tM_get (M : List Int) (n o j : Nat) (hM : M.length = 16 * n) (hn : n ≤ 1024) : ∀ k, k ≤ 17 → o + k ≤ n → (tM M o k).getD j 0 = if 16 * o ≤ j ∧ j + 1 < 16 * o + k then entW ((o + 1 + (j - 16 * o) : Nat) : Int) true true true else if 16 * o ≤ j ∧ j < 16 * (o + k) then 0 else M.getD j 0
  | 0, _, _ => by
    rw [if_neg (by omega), if_neg (by omega)]
    rfl
  | k + 1, hk, hok => by
    have ih := tM_get M n o j hM hn k (by omega) (by omega)
    have hlen := tM_len M o k (by omega) (by omega)
    have hf : (fillL (tM M o k) (o + k) []).getD j 0 = if 16 * (o + k) ≤ j ∧ j < 16 * (o + k) + 16 then 0 else (tM M o k).getD j 0 := by
      rw [fillL_get _ n (o + k) [] j (by rw [hlen, hM]) (by omega) (by decide)]
      split
      · simp
      · rfl
    unfold tM
    by_cases h0 : k = 0
    · rw [if_pos h0, hf]
      subst h0
      rw [ih]
      by_cases h1 : 16 * o ≤ j ∧ j < 16 * o + 16
      · rw [if_pos (by omega), if_neg (by omega), if_pos (by omega)]
      · rw [if_neg (by omega), if_neg (by omega), if_neg (by omega), if_neg (by omega), if_neg (by omega)]
    · rw [if_neg h0, putE_ok _ _ _ _ (by omega), show (o : Int) * 16 + ((k : Int) - 1) = ((16 * o + (k - 1) : Nat) : Int) by omega]
      unfold writeL
      rw [if_pos (by rw [fillL_len, hlen, hM]; omega), Int.toNat_natCast, setD_get _ _ _ _ (by rw [fillL_len, hlen, hM]; omega), hf]
      by_cases h1 : j = 16 * o + (k - 1)
      · rw [if_pos h1, if_pos (by omega), show o + 1 + (j - 16 * o) = o + k by omega]
      · rw [if_neg h1, ih]
        by_cases h2 : 16 * (o + k) ≤ j ∧ j < 16 * (o + k) + 16
        · rw [if_pos h2, if_neg (by omega), if_pos (by omega)]
        · rw [if_neg h2]
          by_cases h3 : 16 * o ≤ j ∧ j + 1 < 16 * o + k
          · rw [if_pos h3, if_pos (show 16 * o ≤ j ∧ j + 1 < 16 * o + (k + 1) by omega)]
          · rw [if_neg h3, if_neg (show ¬ (16 * o ≤ j ∧ j + 1 < 16 * o + (k + 1)) by omega)]
            by_cases h4 : 16 * o ≤ j ∧ j < 16 * (o + k)
            · rw [if_pos h4, if_pos (show 16 * o ≤ j ∧ j < 16 * (o + (k + 1)) by omega)]
            · rw [if_neg h4, if_neg (show ¬ (16 * o ≤ j ∧ j < 16 * (o + (k + 1))) by omega)]
/-- tables of nothing -/
def tNew (n o : Nat) (who : Int) : Ts := ⟨n, tM (List.replicate (16 * n) 0) o 17, frM n o 17 who, rngF o 17, who⟩
set_option maxRecDepth 100000 in
theorem tNew_inv (n o : Nat) (who : Int) (hw : frOwns who) (hn : o + 17 ≤ n) (hn2 : n ≤ 1024) : TInv 1 (tNew n o who) := by
  have hM : (List.replicate (16 * n) (0 : Int)).length = 16 * n := List.length_replicate
  refine ⟨hn2, ?_, frM_len _ _ _ _, fun j => ?_, fun x hx => ?_, by show 17 ≤ (rngF o 17).length; rw [rngF_len]; exact Nat.le_refl _, by show (rngF o 17).length ≤ 512; rw [rngF_len]; decide, fun i hi => ?_, fun i j hi hj e => ?_, fun k hk => ?_⟩
  · exact (tM_len _ o 17 (by omega) (by omega)).trans hM
  · show W32 ((tM (List.replicate (16 * n) 0) o 17).getD j 0)
    rw [tM_get _ n o j hM hn2 17 (by omega) hn]
    split
    · have hok : entOk ((o + 1 + (j - 16 * o) : Nat) : Int) true true true := ⟨by omega, by omega, fun h => by cases h⟩
      exact ⟨(entW_range hok).1, by have := (entW_range hok).2; omega⟩
    · split
      · exact w32_zero
      · rw [repD_get]; exact w32_zero
  · have hx' : x ∈ frM n o 17 who := hx
    obtain ⟨i, hi, rfl⟩ := List.mem_map.1 hx'
    have hne := frOwns_ne hw
    unfold frIn
    split
    · exact ⟨fun h => (by cases h), by decide, by decide, by decide, by decide, fun _ => rfl⟩
    · split
      · split
        all_goals
          first
          | exact ⟨fun h => absurd h hne, by show (0 : Int) ≤ 0; decide, by show (0 : Int) ≤ 1; decide, by show (0 : Int) ≤ 1; decide, by show (1 : Int) ≤ 1; decide, fun _ => rfl⟩
          | exact ⟨fun h => absurd h hne, by show (0 : Int) ≤ 0; decide, by show (0 : Int) ≤ 1; decide, by show (0 : Int) ≤ 0; decide, by show (0 : Int) ≤ 1; decide, fun _ => rfl⟩
      · exact ⟨fun _ => rfl, by decide, by decide, by decide, by decide, fun _ => rfl⟩
  · have hi' : i < 17 := by have := hi; rw [show (tNew n o who).P = rngF o 17 from rfl, rngF_len] at this; exact this
    rw [show (tNew n o who).P = rngF o 17 from rfl, rngF_get o 17 i hi']
    refine ⟨by omega, by show ((o + i : Nat) : Int) < (n : Int); omega, ?_⟩
    show ((frM n o 17 who).getD (((o + i : Nat) : Int)).toNat default).owner ≠ -1
    rw [Int.toNat_natCast, frM_get n o 17 _ who (by omega), if_neg (by omega), if_pos (by omega), if_pos (by omega)]
    exact frOwns_ne hw
  · rw [show (tNew n o who).P = rngF o 17 from rfl, rngF_len] at hi hj
    rw [show (tNew n o who).P = rngF o 17 from rfl, rngF_get o 17 i hi, rngF_get o 17 j hj] at e
    omega
  · rw [show (tNew n o who).P = rngF o 17 from rfl, rngF_get o 17 0 (by decide), rngF_get o 17 (k + 1) (by omega)]
    show (tM (List.replicate (16 * n) 0) o 17).getD _ 0 = _
    rw [tM_get _ n o _ hM hn2 17 (by omega) hn, Int.toNat_natCast, if_pos (by omega), show o + 1 + (16 * (o + 0) + k - 16 * o) = o + (k + 1) by omega]
end Go.Proofs.YtnhocmmgdkiepaaDoor
