/-
  What lies where in a memory that an image was laid into: plain laws.
-/
import Derived.Test.YtehmpdgpjpifoaaDoorLdFill
import Derived.Test.YtehmpdgpjpifoaaDoorWkrW
namespace Go.Proofs.YtehmpdgpjpifoaaDoor
open Go.RowKit

theorem getD_end (l : List Int) (i : Nat) (h : l.length ≤ i) : l.getD i 0 = 0 := by
  rw [List.getD_eq_getElem?_getD, List.getElem?_eq_none h]
  rfl
theorem wl_len (l : List Int) (i x : Int) : (writeL l i x).length = l.length := by
  unfold writeL
  split
  · simp
  · rfl
theorem wl_get (l : List Int) (i j : Nat) (x : Int) (hi : i < l.length) : (writeL l (i : Int) x).getD j 0 = if j = i then x else l.getD j 0 := by
  unfold writeL
  rw [if_pos (by omega), Int.toNat_natCast]
  exact setD_get l i j x hi
theorem pw_get (l : List Int) (a i : Nat) (hi : i < 16) : (pageWords l a).getD i 0 = l.getD (16 * a + i) 0 := by
  unfold pageWords
  have hl : ((l.drop (a * 16)).take 16).length = min 16 (l.length - a * 16) := by simp
  rw [List.getD_eq_getElem?_getD, List.getD_eq_getElem?_getD, List.getElem?_append]
  split
  · rw [List.getElem?_take_of_lt hi, List.getElem?_drop, Nat.mul_comm a 16]
  · rename_i h
    rw [hl] at h
    rw [List.getElem?_eq_none (l := l) (by omega), List.getElem?_replicate]
    split <;> rfl

/-- a page's entry -/
def tabV (D C : List Int) (q p : Nat) : Int :=
  if p < 128 then (if p < pg D.length then entW ((17 + p : Nat) : Int) true true true else 0) else (if p - 128 < pg C.length then entW ((q + p - 128 : Nat) : Int) true false true else 0)
/-- a word of memory, as many pages laid -/
def memK (D C : List Int) (q k j : Nat) : Int :=
  if j < 16 then entW ((j : Int) + 1) true true true
  else if j < 272 then (if j - 16 < k then tabV D C q (j - 16) else 0)
  else if j < 16 * q then (if (j - 272) / 16 < k then D.getD (j - 272) 0 else 0)
  else if 128 + (j - 16 * q) / 16 < k then C.getD (j - 16 * q) 0 else 0
/-- a word of memory -/
def memV (D C : List Int) (q j : Nat) : Int :=
  if j < 16 then entW ((j : Int) + 1) true true true
  else if j < 272 then tabV D C q (j - 16)
  else if j < 16 * q then D.getD (j - 272) 0
  else C.getD (j - 16 * q) 0
theorem tabL_len (l : List Int) : ∀ k, (tabL l k).length = l.length
  | 0 => rfl
  | k + 1 => by rw [tabL, wl_len, tabL_len l k]
theorem tabL_get (l : List Int) (j : Nat) (hl : 16 ≤ l.length) : ∀ k, k ≤ 16 → (tabL l k).getD j 0 = if j < k then entW ((j : Int) + 1) true true true else l.getD j 0
  | 0, _ => by rw [if_neg (by omega)]; rfl
  | k + 1, hk => by
    rw [tabL, wl_get _ _ _ _ (by rw [tabL_len]; omega), tabL_get l j hl k (by omega)]
    by_cases h : j = k
    · rw [if_pos h, if_pos (by omega), h]
    · rw [if_neg h]
      by_cases h2 : j < k
      · rw [if_pos h2, if_pos (by omega)]
      · rw [if_neg h2, if_neg (by omega)]
theorem memK_none (D C : List Int) (q k j : Nat) (hD : D.length ≤ 2048) (h : pageOf D C k = none) : memK D C q (k + 1) j = memK D C q k j := by
  unfold memK
  by_cases h1 : j < 16
  · rw [if_pos h1, if_pos h1]
  rw [if_neg h1, if_neg h1]
  by_cases h2 : j < 272
  · rw [if_pos h2, if_pos h2]
    by_cases h3 : j - 16 < k
    · rw [if_pos h3, if_pos (by omega)]
    · rw [if_neg h3]
      by_cases h4 : j - 16 < k + 1
      · rw [if_pos h4, show j - 16 = k by omega]
        unfold tabV
        unfold pageOf at h
        by_cases h5 : k < 128
        · rw [if_pos h5] at h ⊢
          by_cases h6 : k < pg D.length
          · rw [if_pos h6] at h; cases h
          · rw [if_neg h6]
        · rw [if_neg h5] at h ⊢
          by_cases h6 : k - 128 < pg C.length
          · rw [if_pos h6] at h; cases h
          · rw [if_neg h6]
      · rw [if_neg h4]
  rw [if_neg h2, if_neg h2]
  by_cases h3 : j < 16 * q
  · rw [if_pos h3, if_pos h3]
    by_cases h4 : (j - 272) / 16 < k
    · rw [if_pos h4, if_pos (by omega)]
    · rw [if_neg h4]
      by_cases h5 : (j - 272) / 16 < k + 1
      · rw [if_pos h5]
        apply getD_end
        unfold pageOf at h
        by_cases h6 : k < 128
        · rw [if_pos h6] at h
          by_cases h7 : k < pg D.length
          · rw [if_pos h7] at h; cases h
          · unfold pg at h7; omega
        · omega
      · rw [if_neg h5]
  rw [if_neg h3, if_neg h3]
  by_cases h4 : 128 + (j - 16 * q) / 16 < k
  · rw [if_pos h4, if_pos (by omega)]
  · rw [if_neg h4]
    by_cases h5 : 128 + (j - 16 * q) / 16 < k + 1
    · rw [if_pos h5]
      apply getD_end
      unfold pageOf at h
      rw [if_neg (by omega)] at h
      by_cases h7 : k - 128 < pg C.length
      · rw [if_pos h7] at h; cases h
      · unfold pg at h7; omega
    · rw [if_neg h5]
/-- one page more -/
theorem memK_some (D C : List Int) (q k j : Nat) (ws : List Int) (hD : D.length ≤ 2048) (hq : 17 + pg D.length ≤ q) (hk : k < 256) (h : pageOf D C k = some ws) :
    memK D C q (k + 1) j = if j = 16 + k then entW ((pgF q k : Nat) : Int) true (decide (k < 128)) true else if 16 * pgF q k ≤ j ∧ j < 16 * pgF q k + 16 then ws.getD (j - 16 * pgF q k) 0 else memK D C q k j := by
  unfold pageOf at h
  unfold pgF
  by_cases hk1 : k < 128
  · rw [if_pos hk1] at h
    rw [if_pos hk1]
    by_cases hkd : k < pg D.length
    · rw [if_pos hkd] at h
      obtain rfl := Option.some.inj h
      by_cases h0 : j = 16 + k
      · rw [if_pos h0]
        subst h0
        unfold memK
        rw [if_neg (by omega), if_pos (by omega), if_pos (by omega), show 16 + k - 16 = k by omega]
        unfold tabV
        rw [if_pos hk1, if_pos hkd, decide_eq_true hk1]
      · rw [if_neg h0]
        by_cases hr : 16 * (17 + k) ≤ j ∧ j < 16 * (17 + k) + 16
        · rw [if_pos hr, pw_get _ _ _ (by omega)]
          unfold memK
          rw [if_neg (by omega), if_neg (by omega), if_pos (by omega), if_pos (by omega)]
          exact congrArg (fun i => D.getD i 0) (by omega)
        · rw [if_neg hr]
          unfold memK
          by_cases h1 : j < 16
          · rw [if_pos h1, if_pos h1]
          rw [if_neg h1, if_neg h1]
          by_cases h2 : j < 272
          · rw [if_pos h2, if_pos h2]
            by_cases h3 : j - 16 < k
            · rw [if_pos h3, if_pos (by omega)]
            · rw [if_neg h3, if_neg (by omega)]
          rw [if_neg h2, if_neg h2]
          by_cases h3 : j < 16 * q
          · rw [if_pos h3, if_pos h3]
            by_cases h4 : (j - 272) / 16 < k
            · rw [if_pos h4, if_pos (by omega)]
            · rw [if_neg h4, if_neg (by omega)]
          rw [if_neg h3, if_neg h3, if_neg (by omega), if_neg (by omega)]
    · rw [if_neg hkd] at h
      cases h
  · rw [if_neg hk1] at h
    rw [if_neg hk1]
    by_cases hkc : k - 128 < pg C.length
    · rw [if_pos hkc] at h
      obtain rfl := Option.some.inj h
      by_cases h0 : j = 16 + k
      · rw [if_pos h0]
        subst h0
        unfold memK
        rw [if_neg (by omega), if_pos (by omega), if_pos (by omega), show 16 + k - 16 = k by omega]
        unfold tabV
        rw [if_neg hk1, if_pos hkc, decide_eq_false hk1]
      · rw [if_neg h0]
        by_cases hr : 16 * (q + k - 128) ≤ j ∧ j < 16 * (q + k - 128) + 16
        · rw [if_pos hr, pw_get _ _ _ (by omega)]
          unfold memK
          rw [if_neg (by omega), if_neg (by omega), if_neg (by omega), if_pos (by omega)]
          exact congrArg (fun i => C.getD i 0) (by omega)
        · rw [if_neg hr]
          unfold memK
          by_cases h1 : j < 16
          · rw [if_pos h1, if_pos h1]
          rw [if_neg h1, if_neg h1]
          by_cases h2 : j < 272
          · rw [if_pos h2, if_pos h2]
            by_cases h3 : j - 16 < k
            · rw [if_pos h3, if_pos (by omega)]
            · rw [if_neg h3, if_neg (by omega)]
          rw [if_neg h2, if_neg h2]
          by_cases h3 : j < 16 * q
          · rw [if_pos h3, if_pos h3]
            by_cases h4 : (j - 272) / 16 < k
            · rw [if_pos h4, if_pos (by omega)]
            · rw [if_neg h4]
              by_cases h5 : (j - 272) / 16 < k + 1
              · rw [if_pos h5]
                exact getD_end _ _ (by omega)
              · rw [if_neg h5]
          rw [if_neg h3, if_neg h3]
          by_cases h4 : 128 + (j - 16 * q) / 16 < k
          · rw [if_pos h4, if_pos (by omega)]
          · rw [if_neg h4, if_neg (by omega)]
    · rw [if_neg hkc] at h
      cases h
theorem pgL_inv (D C : List Int) (q n : Nat) (hD : D.length ≤ 2048) (hC : C.length ≤ 2048) (hn : n = q + pg C.length) (hq : 17 + pg D.length ≤ q) : ∀ k, k ≤ 256 →
    (pgL D C q (tabL (List.replicate (16 * n) 0) 16) k).length = 16 * n ∧ ∀ j, (pgL D C q (tabL (List.replicate (16 * n) 0) 16) k).getD j 0 = memK D C q k j
  | 0, _ => by
    refine ⟨by rw [pgL, tabL_len, List.length_replicate], fun j => ?_⟩
    rw [pgL, tabL_get _ _ (by rw [List.length_replicate]; omega) 16 (Nat.le_refl _), repD_get]
    unfold memK
    by_cases h : j < 16
    · rw [if_pos h, if_pos h]
    · rw [if_neg h, if_neg h]
      split
      · rw [if_neg (by omega)]
      · split
        · rw [if_neg (by omega)]
        · rw [if_neg (by omega)]
  | k + 1, hk => by
    obtain ⟨hl, hg⟩ := pgL_inv D C q n hD hC hn hq k (by omega)
    cases hP : pageOf D C k with
    | none =>
      have e : pgL D C q (tabL (List.replicate (16 * n) 0) 16) (k + 1) = pgL D C q (tabL (List.replicate (16 * n) 0) 16) k := by rw [pgL, hP]
      rw [e]
      exact ⟨hl, fun j => by rw [hg j, memK_none D C q k j hD hP]⟩
    | some ws =>
      have e : pgL D C q (tabL (List.replicate (16 * n) 0) 16) (k + 1) = writeL (fillL (pgL D C q (tabL (List.replicate (16 * n) 0) 16) k) (pgF q k) ws) (((1 + k / 16 : Nat) : Int) * 16 + ((k % 16 : Nat) : Int)) (entW (pgF q k : Nat) true (decide (k < 128)) true) := by rw [pgL, hP]
      rw [e, show ((1 + k / 16 : Nat) : Int) * 16 + ((k % 16 : Nat) : Int) = ((16 + k : Nat) : Int) by omega]
      refine ⟨by rw [wl_len, fillL_len, hl], fun j => ?_⟩
      have hlt := pgF_lt (C := C) hP hq
      rw [wl_get _ _ _ _ (by rw [fillL_len, hl]; omega), fillL_get _ n _ _ _ hl (by omega) (by rw [pageOf_len hP]; omega), hg j, memK_some D C q k j ws hD hq (by omega) hP]
theorem memK_all (D C : List Int) (q j : Nat) (hq : q ≤ 256) (hC : C.length ≤ 2048) : memK D C q 256 j = memV D C q j := by
  unfold memK memV
  by_cases h1 : j < 16
  · rw [if_pos h1, if_pos h1]
  rw [if_neg h1, if_neg h1]
  by_cases h2 : j < 272
  · rw [if_pos h2, if_pos h2, if_pos (by omega)]
  rw [if_neg h2, if_neg h2]
  by_cases h3 : j < 16 * q
  · rw [if_pos h3, if_pos h3, if_pos (by omega)]
  rw [if_neg h3, if_neg h3]
  by_cases h4 : 128 + (j - 16 * q) / 16 < 256
  · rw [if_pos h4]
  · rw [if_neg h4, getD_end C _ (by omega)]
/-- each word of a memory that an image was laid into -/
theorem load_get (D C : List Int) (q n : Nat) (hD : D.length ≤ 2048) (hC : C.length ≤ 2048) (hn : n = q + pg C.length) (hq : 17 + pg D.length ≤ q) (hq2 : q ≤ 256) (j : Nat) : (loadL D C q (List.replicate (16 * n) 0)).getD j 0 = memV D C q j := by
  unfold loadL
  rw [(pgL_inv D C q n hD hC hn hq 256 (Nat.le_refl _)).2 j, memK_all D C q j hq2 hC]
theorem load_len (D C : List Int) (q n : Nat) (hD : D.length ≤ 2048) (hC : C.length ≤ 2048) (hn : n = q + pg C.length) (hq : 17 + pg D.length ≤ q) : (loadL D C q (List.replicate (16 * n) 0)).length = 16 * n := by
  unfold loadL
  exact (pgL_inv D C q n hD hC hn hq 256 (Nat.le_refl _)).1

theorem ofA_ent' {f : Int} {t wr u : Bool} (h : entOk f t wr u) : ofA (entW f t wr u) = (⟨f, t, wr, u⟩, true) := by
  unfold ofA
  rw [if_pos ((isEntB_iff _).2 (ent_is h))]
  obtain ⟨e1, e2, e3, e4⟩ := ent_back h
  rw [e1, e2, e3, e4]
theorem ofA_zero' : ofA 0 = (Ent.z, true) := ofA_ent' (f := 0) (t := false) (wr := false) (u := false) ⟨by decide, by decide, fun _ => ⟨rfl, rfl, rfl⟩⟩
theorem ent_there {f : Int} (wr u : Bool) (h : 0 ≤ f ∧ f < 1024) : entOk f true wr u := ⟨h.1, h.2, fun h => by cases h⟩
theorem entW_w32' {f : Int} {t wr u : Bool} (h : entOk f t wr u) : W32 (entW f t wr u) := ⟨(entW_range h).1, by have := (entW_range h).2; omega⟩
theorem tabV_w32 (D C : List Int) (q p : Nat) (hq : q ≤ 256) (hC : C.length ≤ 2048) : W32 (tabV D C q p) := by
  have hpc : pg C.length ≤ 128 := by unfold pg; omega
  unfold tabV
  split
  · split
    · exact entW_w32' (ent_there _ _ (by omega))
    · exact ⟨by decide, by decide⟩
  · split
    · exact entW_w32' (ent_there _ _ (by omega))
    · exact ⟨by decide, by decide⟩
theorem getD_w32 (l : List Int) (h : ∀ z ∈ l, W32 z) (i : Nat) : W32 (l.getD i 0) := by
  rw [List.getD_eq_getElem?_getD]
  cases hx : l[i]? with
  | none => exact ⟨by decide, by decide⟩
  | some z => exact h z (List.mem_of_getElem? hx)
theorem memV_w32 (D C : List Int) (q : Nat) (hq : q ≤ 256) (hC : C.length ≤ 2048) (hd : ∀ z ∈ D, W32 z) (hc : ∀ z ∈ C, W32 z) (j : Nat) : W32 (memV D C q j) := by
  unfold memV
  split
  · exact entW_w32' (ent_there _ _ (by omega))
  · split
    · exact tabV_w32 D C q _ hq hC
    · split
      · exact getD_w32 D hd _
      · exact getD_w32 C hc _
/-- an entry of a page -/
theorem page_ld (D C L : List Int) (q n p : Nat) (hn : n = q + pg C.length) (hq : 17 + pg D.length ≤ q) (hq2 : q ≤ 256) (hC : C.length ≤ 2048) (hD : D.length ≤ 2048) (hL : ∀ j, L.getD j 0 = memV D C q j) (hp : p < 256) :
    pageA L n 0 (p : Int) = if p < pg D.length then (⟨((17 + p : Nat) : Int), true, true, true⟩, true) else if 128 ≤ p ∧ p < 128 + pg C.length then (⟨((q + p - 128 : Nat) : Int), true, false, true⟩, true) else (Ent.z, false) := by
  have hpc : pg C.length ≤ 128 := by unfold pg; omega
  have e1 : L.getD (16 * 0 + p / 16) 0 = entW (((p / 16 : Nat) : Int) + 1) true true true := by
    rw [hL]
    unfold memV
    rw [if_pos (by omega), Nat.mul_zero, Nat.zero_add]
  have h1 := pageA_by L n 0 p (by omega) hp ⟨((p / 16 : Nat) : Int) + 1, true, true, true⟩ true (by rw [e1, ofA_ent' (ent_there _ _ (by omega))])
  rw [if_pos ⟨rfl, rfl⟩] at h1
  refine h1.trans ?_
  have e2 : L.getD (16 * (((p / 16 : Nat) : Int) + 1).toNat + p % 16) 0 = tabV D C q p := by
    rw [hL, show 16 * (((p / 16 : Nat) : Int) + 1).toNat + p % 16 = 16 + p by omega]
    unfold memV
    rw [if_neg (by omega), if_pos (by omega), show 16 + p - 16 = p by omega]
  by_cases hd : p < pg D.length
  · rw [if_pos hd]
    by_cases h128 : p < 128
    · have et : tabV D C q p = entW ((17 + p : Nat) : Int) true true true := by unfold tabV; rw [if_pos h128, if_pos hd]
      rw [entryA_by L n (((p / 16 : Nat) : Int) + 1) (p % 16) (by omega) (by omega) ⟨((17 + p : Nat) : Int), true, true, true⟩ true (by rw [e2, et, ofA_ent' (ent_there _ _ (by omega))]), if_pos ⟨rfl, rfl⟩]
    · unfold pg at hd; omega
  · rw [if_neg hd]
    by_cases hc : 128 ≤ p ∧ p < 128 + pg C.length
    · rw [if_pos hc]
      have et : tabV D C q p = entW ((q + p - 128 : Nat) : Int) true false true := by unfold tabV; rw [if_neg (by omega), if_pos (by omega)]
      rw [entryA_by L n (((p / 16 : Nat) : Int) + 1) (p % 16) (by omega) (by omega) ⟨((q + p - 128 : Nat) : Int), true, false, true⟩ true (by rw [e2, et, ofA_ent' (ent_there _ _ (by omega))]), if_pos ⟨rfl, rfl⟩]
    · rw [if_neg hc]
      have et : tabV D C q p = 0 := by
        unfold tabV
        by_cases h128 : p < 128
        · rw [if_pos h128, if_neg hd]
        · rw [if_neg h128, if_neg (by omega)]
      rw [entryA_by L n (((p / 16 : Nat) : Int) + 1) (p % 16) (by omega) (by omega) Ent.z true (by rw [e2, et, ofA_zero']), if_neg (by decide)]
/-- where an address is -/
theorem walk_ld (D C L : List Int) (q n a : Nat) (wr : Bool) (hn : n = q + pg C.length) (hq : 17 + pg D.length ≤ q) (hq2 : q ≤ 256) (hC : C.length ≤ 2048) (hD : D.length ≤ 2048) (hL : ∀ j, L.getD j 0 = memV D C q j) :
    walkA L n 0 (a : Int) wr true = if a / 16 < pg D.length then (((272 + a : Nat) : Int), true) else if 128 ≤ a / 16 ∧ a / 16 < 128 + pg C.length ∧ wr = false then (((16 * q + (a - 2048) : Nat) : Int), true) else (0, false) := by
  have hpc : pg C.length ≤ 128 := by unfold pg; omega
  have hpd : pg D.length ≤ 128 := by unfold pg; omega
  by_cases h4 : 4096 ≤ a
  · rw [if_neg (by omega), if_neg (by omega)]
    unfold walkA
    rw [if_neg (by omega)]
  · have hp := page_ld D C L q n (a / 16) hn hq hq2 hC hD hL (by omega)
    have ea : (a : Int) / 16 = ((a / 16 : Nat) : Int) := by omega
    by_cases hd : a / 16 < pg D.length
    · rw [if_pos hd] at hp ⊢
      rw [walkA_of L n 0 (a : Int) wr true _ true (by omega) (by rw [ea]; exact hp), if_pos ⟨rfl, fun _ => rfl, fun _ => rfl, by show ((17 + a / 16 : Nat) : Int) < (n : Int); omega⟩]
      show (((17 + a / 16 : Nat) : Int) * 16 + (a : Int) % 16, true) = _
      rw [show ((17 + a / 16 : Nat) : Int) * 16 + (a : Int) % 16 = ((272 + a : Nat) : Int) by omega]
    · rw [if_neg hd] at hp ⊢
      by_cases hc : 128 ≤ a / 16 ∧ a / 16 < 128 + pg C.length
      · rw [if_pos hc] at hp
        rw [walkA_of L n 0 (a : Int) wr true _ true (by omega) (by rw [ea]; exact hp)]
        cases wr with
        | true => rw [if_neg (fun h => by have := h.2.1 rfl; cases this), if_neg (fun h => by cases h.2.2)]
        | false =>
          rw [if_pos ⟨rfl, fun h => (by cases h), fun _ => rfl, by show ((q + a / 16 - 128 : Nat) : Int) < (n : Int); omega⟩, if_pos ⟨hc.1, hc.2, rfl⟩]
          show (((q + a / 16 - 128 : Nat) : Int) * 16 + (a : Int) % 16, true) = _
          rw [show ((q + a / 16 - 128 : Nat) : Int) * 16 + (a : Int) % 16 = ((16 * q + (a - 2048) : Nat) : Int) by omega]
      · rw [if_neg hc] at hp
        rw [walkA_of L n 0 (a : Int) wr true Ent.z false (by omega) (by rw [ea]; exact hp), if_neg (fun h => by cases h.1), if_neg (fun h => hc ⟨h.1, h.2.1⟩)]
end Go.Proofs.YtehmpdgpjpifoaaDoor
