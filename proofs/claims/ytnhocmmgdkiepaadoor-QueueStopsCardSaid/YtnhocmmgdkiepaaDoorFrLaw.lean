/-
  Frames, plain: what each thing that frames are told answers, and what is there behind it.
-/
import Derived.Test.YtnhocmmgdkiepaaDoorRec
namespace Go.Proofs.YtnhocmmgdkiepaaDoor
open Go.RowKit

/-- a frame: whose, what, how many write it, how many use it -/
structure Fr where
  owner : Int
  kind : Int
  wr : Int
  us : Int
deriving Inhabited, DecidableEq
def frOne (x : Fr) : List Value := [.int .i64 x.owner, .int .i64 x.kind, .int .i64 x.wr, .int .i64 x.us]
theorem frOne_len (x : Fr) : (frOne x).length = 4 := rfl
def frCells (l : List Fr) : List Value := l.flatMap frOne
def frNo : Fr := ⟨-1, 0, 0, 0⟩
def frOwns (n : Int) : Prop := (0 ≤ n ∧ n < 8) ∨ n = 100
instance (n : Int) : Decidable (frOwns n) := by unfold frOwns; exact inferInstance
/-- frame i, if it is somebody's -/
def frAt (l : List Fr) (i : Int) : Option Nat := if 0 ≤ i ∧ i < l.length ∧ (l.getD i.toNat default).owner ≠ -1 then some i.toNat else none
theorem frAt_some {l : List Fr} {i : Int} {n : Nat} (h : frAt l i = some n) : i = (n : Int) ∧ n < l.length ∧ (l.getD n default).owner ≠ -1 := by
  unfold frAt at h
  split at h
  · rename_i hh
    have := Option.some.inj h
    subst this
    exact ⟨by omega, by omega, hh.2.2⟩
  · cases h
theorem frAt_none {l : List Fr} {i : Int} (h : frAt l i = none) : ¬ (0 ≤ i ∧ i < l.length) ∨ (0 ≤ i ∧ i < l.length ∧ (l.getD i.toNat default).owner = -1) := by
  unfold frAt at h
  split at h
  · cases h
  · rename_i hh
    by_cases hi : 0 ≤ i ∧ i < l.length
    · refine .inr ⟨hi.1, hi.2, ?_⟩
      by_cases ho : (l.getD i.toNat default).owner = -1
      · exact ho
      · exact absurd ⟨hi.1, hi.2, ho⟩ hh
    · exact .inl hi
/-- what is amiss with a frame that has to be this one's: 0: nothing -/
def frOwnC (l : List Fr) (i who : Int) : Int := match frAt l i with
  | none => 107
  | some n => if (l.getD n default).owner = who then 0 else 110
/-- the least that is nobody's -/
def frFree (l : List Fr) : Option Nat := l.findIdx? fun x => decide (x.owner = -1)
/-- what one is told: what is there then, the answer, the error -/
structure FrR where
  l : List Fr
  n : Int
  c : Int
def frAlloc (l : List Fr) (who : Int) : FrR := if frOwns who then (match frFree l with
  | none => ⟨l, 0, 113⟩
  | some i => ⟨l.set i ⟨who, (l.getD i default).kind, (l.getD i default).wr, (l.getD i default).us⟩, (i : Int), 0⟩) else ⟨l, 0, 103⟩
def frMine (l : List Fr) (i who : Int) (k : Fr → Fr × Int) : FrR := match frAt l i with
  | none => ⟨l, 0, 107⟩
  | some n => if (l.getD n default).owner = who then ⟨l.set n (k (l.getD n default)).1, 0, (k (l.getD n default)).2⟩ else ⟨l, 0, 110⟩
def frThere (l : List Fr) (i : Int) (k : Fr → Fr × Int) : FrR := match frAt l i with
  | none => ⟨l, 0, 107⟩
  | some n => ⟨l.set n (k (l.getD n default)).1, 0, (k (l.getD n default)).2⟩
def kFree (x : Fr) : Fr × Int := if 0 < x.wr ∨ 0 < x.us then (x, 112) else (frNo, 0)
def kMake (kind : Int) (x : Fr) : Fr × Int := if x.kind ≠ 0 then (x, 111) else if 0 < x.wr ∨ 0 < x.us then (x, 112) else (⟨x.owner, kind, x.wr, x.us⟩, 0)
def kPlain (x : Fr) : Fr × Int := if x.kind = 0 then (x, 111) else if 0 < x.us then (x, 112) else (⟨x.owner, 0, x.wr, x.us⟩, 0)
def kWrite (x : Fr) : Fr × Int := if x.kind ≠ 0 then (x, 111) else (⟨x.owner, x.kind, x.wr + 1, x.us⟩, 0)
def kUnwrite (x : Fr) : Fr × Int := if x.wr = 0 then (x, 112) else (⟨x.owner, x.kind, x.wr - 1, x.us⟩, 0)
def kUse (x : Fr) : Fr × Int := (⟨x.owner, x.kind, x.wr, x.us + 1⟩, 0)
def kUnuse (x : Fr) : Fr × Int := if x.us = 0 then (x, 112) else (⟨x.owner, x.kind, x.wr, x.us - 1⟩, 0)
def frMake (l : List Fr) (i who kind : Int) : FrR := if kind = 1 ∨ kind = 2 then frMine l i who (kMake kind) else ⟨l, 0, 103⟩
/-- what is told -/
structure FDo16 where
  kind : Int
  a : Int
  b : Int
  c : Int
deriving Inhabited
def frDo (l : List Fr) (d : FDo16) : FrR :=
  if d.kind = 1 then frAlloc l d.a else if d.kind = 2 then frMine l d.a d.b kFree else if d.kind = 3 then frMake l d.a d.b d.c else if d.kind = 4 then frMine l d.a d.b kPlain
  else if d.kind = 5 then frThere l d.a kWrite else if d.kind = 6 then frThere l d.a kUnwrite else if d.kind = 7 then frThere l d.a kUse else frThere l d.a kUnuse

/-- what holds of each frame, behind so many things -/
def frIn (m : Int) (x : Fr) : Prop := (x.owner = -1 → x = frNo) ∧ 0 ≤ x.wr ∧ x.wr ≤ m ∧ 0 ≤ x.us ∧ x.us ≤ m ∧ (x.kind ≠ 0 → x.wr = 0)
def FrOk (m : Int) (l : List Fr) : Prop := ∀ x ∈ l, frIn m x
theorem frNo_in (m : Int) (h : 0 ≤ m) : frIn m frNo := ⟨fun _ => rfl, Int.le_refl 0, h, Int.le_refl 0, h, fun _ => rfl⟩
theorem frOk_new (n : Nat) : FrOk 0 (List.replicate n frNo) := fun x hx => by
  rw [List.eq_of_mem_replicate hx]
  exact frNo_in 0 (Int.le_refl 0)
theorem frIn_mono {m : Int} {x : Fr} (h : frIn m x) : frIn (m + 1) x := ⟨h.1, h.2.1, by have := h.2.2.1; omega, h.2.2.2.1, by have := h.2.2.2.2.1; omega, h.2.2.2.2.2⟩
theorem frOk_mono {m : Int} {l : List Fr} (h : FrOk m l) : FrOk (m + 1) l := fun x hx => frIn_mono (h x hx)
theorem frOk_set {m : Int} {l : List Fr} (h : FrOk m l) (n : Nat) (y : Fr) (hy : frIn m y) : FrOk m (l.set n y) := fun x hx => by
  rcases List.mem_or_eq_of_mem_set hx with hx | rfl
  · exact h x hx
  · exact hy
theorem frOk_get {m : Int} {l : List Fr} (h : FrOk m l) (n : Nat) (hn : n < l.length) : frIn m (l.getD n default) := by
  rw [List.getD_eq_getElem?_getD, List.getElem?_eq_getElem hn]
  exact h _ (List.getElem_mem _)
theorem kFree_in {m : Int} {x : Fr} (h : frIn m x) : frIn (m + 1) (kFree x).1 := by
  unfold kFree
  have hm : 0 ≤ m + 1 := by have := h.2.1; have := h.2.2.1; omega
  split
  · exact frIn_mono h
  · exact frNo_in _ hm
theorem kMake_in {m : Int} {x : Fr} (k : Int) (h : frIn m x) (ho : x.owner ≠ -1) : frIn (m + 1) (kMake k x).1 := by
  unfold kMake
  split
  · exact frIn_mono h
  · split
    · exact frIn_mono h
    · rename_i hh
      obtain ⟨h1, h2, h3, h4, h5, h6⟩ := h
      exact ⟨fun e => absurd e ho, h2, by show x.wr ≤ _; omega, h4, by show x.us ≤ _; omega, fun _ => by show x.wr = 0; omega⟩
theorem kPlain_in {m : Int} {x : Fr} (h : frIn m x) (ho : x.owner ≠ -1) : frIn (m + 1) (kPlain x).1 := by
  unfold kPlain
  split
  · exact frIn_mono h
  · split
    · exact frIn_mono h
    · obtain ⟨h1, h2, h3, h4, h5, h6⟩ := h
      exact ⟨fun e => absurd e ho, h2, by show x.wr ≤ _; omega, h4, by show x.us ≤ _; omega, fun e => absurd rfl e⟩
theorem kWrite_in {m : Int} {x : Fr} (h : frIn m x) (ho : x.owner ≠ -1) : frIn (m + 1) (kWrite x).1 := by
  unfold kWrite
  split
  · exact frIn_mono h
  · rename_i hh
    obtain ⟨h1, h2, h3, h4, h5, h6⟩ := h
    exact ⟨fun e => absurd e ho, by show 0 ≤ x.wr + 1; omega, by show x.wr + 1 ≤ _; omega, h4, by show x.us ≤ _; omega, fun e => absurd e hh⟩
theorem kUnwrite_in {m : Int} {x : Fr} (h : frIn m x) (ho : x.owner ≠ -1) : frIn (m + 1) (kUnwrite x).1 := by
  unfold kUnwrite
  split
  · exact frIn_mono h
  · rename_i hh
    obtain ⟨h1, h2, h3, h4, h5, h6⟩ := h
    exact ⟨fun e => absurd e ho, by show 0 ≤ x.wr - 1; omega, by show x.wr - 1 ≤ _; omega, h4, by show x.us ≤ _; omega, fun e => absurd (h6 e) hh⟩
theorem kUse_in {m : Int} {x : Fr} (h : frIn m x) (ho : x.owner ≠ -1) : frIn (m + 1) (kUse x).1 := by
  obtain ⟨h1, h2, h3, h4, h5, h6⟩ := h
  exact ⟨fun e => absurd e ho, h2, by show x.wr ≤ _; omega, by show 0 ≤ x.us + 1; omega, by show x.us + 1 ≤ _; omega, h6⟩
theorem kUnuse_in {m : Int} {x : Fr} (h : frIn m x) (ho : x.owner ≠ -1) : frIn (m + 1) (kUnuse x).1 := by
  unfold kUnuse
  split
  · exact frIn_mono h
  · rename_i hh
    obtain ⟨h1, h2, h3, h4, h5, h6⟩ := h
    exact ⟨fun e => absurd e ho, h2, by show x.wr ≤ _; omega, by show 0 ≤ x.us - 1; omega, by show x.us - 1 ≤ _; omega, h6⟩
theorem frMine_in {m : Int} {l : List Fr} (h : FrOk m l) (i who : Int) (k : Fr → Fr × Int) (hk : ∀ x, frIn m x → x.owner ≠ -1 → frIn (m + 1) (k x).1) : FrOk (m + 1) (frMine l i who k).l := by
  unfold frMine
  split
  · exact frOk_mono h
  · rename_i n hn
    obtain ⟨-, h2, h3⟩ := frAt_some hn
    split
    · exact frOk_set (frOk_mono h) _ _ (hk _ (frOk_get h n h2) h3)
    · exact frOk_mono h
theorem frThere_in {m : Int} {l : List Fr} (h : FrOk m l) (i : Int) (k : Fr → Fr × Int) (hk : ∀ x, frIn m x → x.owner ≠ -1 → frIn (m + 1) (k x).1) : FrOk (m + 1) (frThere l i k).l := by
  unfold frThere
  split
  · exact frOk_mono h
  · rename_i n hn
    obtain ⟨-, h2, h3⟩ := frAt_some hn
    exact frOk_set (frOk_mono h) _ _ (hk _ (frOk_get h n h2) h3)
theorem frFree_some {l : List Fr} {i : Nat} (h : frFree l = some i) : i < l.length ∧ (l.getD i default).owner = -1 ∧ ∀ k, k < i → (l.getD k default).owner ≠ -1 := by
  unfold frFree at h
  rw [List.findIdx?_eq_some_iff_getElem] at h
  obtain ⟨h1, h2, h3⟩ := h
  refine ⟨h1, ?_, fun k hk => ?_⟩
  · rw [List.getD_eq_getElem?_getD, List.getElem?_eq_getElem h1]
    simpa using h2
  · have := h3 k hk
    rw [List.getD_eq_getElem?_getD, List.getElem?_eq_getElem (by omega)]
    simpa using this
theorem frFree_none {l : List Fr} (h : frFree l = none) : ∀ k, k < l.length → (l.getD k default).owner ≠ -1 := by
  unfold frFree at h
  rw [List.findIdx?_eq_none_iff] at h
  intro k hk
  rw [List.getD_eq_getElem?_getD, List.getElem?_eq_getElem hk]
  simpa using h _ (List.getElem_mem hk)
theorem frFree_is {l : List Fr} {i : Nat} (h1 : i < l.length) (h2 : (l.getD i default).owner = -1) (h3 : ∀ k, k < i → (l.getD k default).owner ≠ -1) : frFree l = some i := by
  unfold frFree
  rw [List.findIdx?_eq_some_iff_getElem]
  refine ⟨h1, ?_, fun k hk => ?_⟩
  · rw [List.getD_eq_getElem?_getD, List.getElem?_eq_getElem h1] at h2
    simpa using h2
  · have := h3 k hk
    rw [List.getD_eq_getElem?_getD, List.getElem?_eq_getElem (by omega)] at this
    simpa using this
theorem frFree_no {l : List Fr} (h : ∀ k, k < l.length → (l.getD k default).owner ≠ -1) : frFree l = none := by
  unfold frFree
  rw [List.findIdx?_eq_none_iff]
  intro x hx
  obtain ⟨k, hk, rfl⟩ := List.getElem_of_mem hx
  have := h k hk
  rw [List.getD_eq_getElem?_getD, List.getElem?_eq_getElem hk] at this
  simpa using this
theorem frAlloc_in {m : Int} {l : List Fr} (h : FrOk m l) (who : Int) : FrOk (m + 1) (frAlloc l who).l := by
  unfold frAlloc
  split
  · rename_i hw
    split
    · exact frOk_mono h
    · rename_i i hi
      obtain ⟨h1, h2, -⟩ := frFree_some hi
      have hx := frOk_get h i h1
      have hz := hx.1 h2
      have hwo : who ≠ -1 := by unfold frOwns at hw; omega
      rw [hz]
      have hm : 0 ≤ m := by have := hx.2.1; have := hx.2.2.1; omega
      refine frOk_set (frOk_mono h) _ _ ⟨fun e => absurd e hwo, Int.le_refl 0, ?_, Int.le_refl 0, ?_, fun e => absurd rfl e⟩
      · show (0 : Int) ≤ m + 1; omega
      · show (0 : Int) ≤ m + 1; omega
  · exact frOk_mono h
theorem frDo_in {m : Int} {l : List Fr} (h : FrOk m l) (d : FDo16) : FrOk (m + 1) (frDo l d).l := by
  unfold frDo
  split
  · exact frAlloc_in h _
  split
  · exact frMine_in h _ _ _ fun x hx _ => kFree_in hx
  split
  · unfold frMake
    split
    · exact frMine_in h _ _ _ fun x hx ho => kMake_in _ hx ho
    · exact frOk_mono h
  split
  · exact frMine_in h _ _ _ fun x hx ho => kPlain_in hx ho
  split
  · exact frThere_in h _ _ fun x hx ho => kWrite_in hx ho
  split
  · exact frThere_in h _ _ fun x hx ho => kUnwrite_in hx ho
  split
  · exact frThere_in h _ _ fun x hx ho => kUse_in hx ho
  · exact frThere_in h _ _ fun x hx ho => kUnuse_in hx ho
theorem frMine_len (l : List Fr) (i who : Int) (k : Fr → Fr × Int) : (frMine l i who k).l.length = l.length := by
  unfold frMine
  split
  · rfl
  · split <;> simp
theorem frThere_len (l : List Fr) (i : Int) (k : Fr → Fr × Int) : (frThere l i k).l.length = l.length := by
  unfold frThere
  split <;> simp
theorem frDo_len (l : List Fr) (d : FDo16) : (frDo l d).l.length = l.length := by
  unfold frDo
  split
  · unfold frAlloc
    split
    · split <;> simp
    · rfl
  split
  · exact frMine_len _ _ _ _
  split
  · unfold frMake
    split
    · exact frMine_len _ _ _ _
    · rfl
  split
  · exact frMine_len _ _ _ _
  repeat (first | exact frThere_len _ _ _ | split)
end Go.Proofs.YtnhocmmgdkiepaaDoor
