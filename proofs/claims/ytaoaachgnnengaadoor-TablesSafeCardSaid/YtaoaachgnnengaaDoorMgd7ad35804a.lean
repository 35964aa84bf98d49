/-
  Parts of one proof, one behind the other.
-/
import Derived.Test.YtaoaachgnnengaaDoorMgc64a197dac
import Derived.Test.YtaoaachgnnengaaDoorMg423b7060be
/-
  Frames, plain: what each thing that frames are told answers, and what is there behind it.
-/
namespace Go.Proofs.YtaoaachgnnengaaDoor
open Go.RowKit

/-- a frame: whose, what, how many write it, how many use it -/
structure Fr where
  owner : Int
  kind : Int
  wr : Int
  us : Int
deriving Inhabited, DecidableEq
def frOne (x : Fr) : List Value := [.int .i64 x.owner, .int .i64 x.kind, .int .i64 x.wr, .int .i64 x.us]
theorem frOne_len (x : Fr) : (frOne x).length = 4 := rfl
def frCells (l : List Fr) : List Value := l.flatMap frOne
def frNo : Fr := ⟨-1, 0, 0, 0⟩
def frOwns (n : Int) : Prop := (0 ≤ n ∧ n < 8) ∨ n = 100
instance (n : Int) : Decidable (frOwns n) := by unfold frOwns; exact inferInstance
/-- frame i, if it is somebody's -/
def frAt (l : List Fr) (i : Int) : Option Nat := if 0 ≤ i ∧ i < l.length ∧ (l.getD i.toNat default).owner ≠ -1 then some i.toNat else none
theorem frAt_some {l : List Fr} {i : Int} {n : Nat} (h : frAt l i = some n) : i = (n : Int) ∧ n < l.length ∧ (l.getD n default).owner ≠ -1 := by
  unfold frAt at h
  split at h
  · rename_i hh
    have := Option.some.inj h
    subst this
    exact ⟨by omega, by omega, hh.2.2⟩
  · cases h
theorem frAt_none {l : List Fr} {i : Int} (h : frAt l i = none) : ¬ (0 ≤ i ∧ i < l.length) ∨ (0 ≤ i ∧ i < l.length ∧ (l.getD i.toNat default).owner = -1) := by
  unfold frAt at h
  split at h
  · cases h
  · rename_i hh
    by_cases hi : 0 ≤ i ∧ i < l.length
    · refine .inr ⟨hi.1, hi.2, ?_⟩
      by_cases ho : (l.getD i.toNat default).owner = -1
      · exact ho
      · exact absurd ⟨hi.1, hi.2, ho⟩ hh
    · exact .inl hi
/-- what is amiss with a frame that has to be this one's: 0: nothing -/
def frOwnC (l : List Fr) (i who : Int) : Int := match frAt l i with
  | none => 107
  | some n => if (l.getD n default).owner = who then 0 else 110
/-- the least that is nobody's -/
def frFree (l : List Fr) : Option Nat := l.findIdx? fun x => decide (x.owner = -1)
/-- what one is told: what is there then, the answer, the error -/
structure FrR where
  l : List Fr
  n : Int
  c : Int
def frAlloc (l : List Fr) (who : Int) : FrR := if frOwns who then (match frFree l with
  | none => ⟨l, 0, 113⟩
  | some i => ⟨l.set i ⟨who, (l.getD i default).kind, (l.getD i default).wr, (l.getD i default).us⟩, (i : Int), 0⟩) else ⟨l, 0, 103⟩
def frMine (l : List Fr) (i who : Int) (k : Fr → Fr × Int) : FrR := match frAt l i with
  | none => ⟨l, 0, 107⟩
  | some n => if (l.getD n default).owner = who then ⟨l.set n (k (l.getD n default)).1, 0, (k (l.getD n default)).2⟩ else ⟨l, 0, 110⟩
def frThere (l : List Fr) (i : Int) (k : Fr → Fr × Int) : FrR := match frAt l i with
  | none => ⟨l, 0, 107⟩
  | some n => ⟨l.set n (k (l.getD n default)).1, 0, (k (l.getD n default)).2⟩
def kFree (x : Fr) : Fr × Int := if 0 < x.wr ∨ 0 < x.us then (x, 112) else (frNo, 0)
def kMake (kind : Int) (x : Fr) : Fr × Int := if x.kind ≠ 0 then (x, 111) else if 0 < x.wr ∨ 0 < x.us then (x, 112) else (⟨x.owner, kind, x.wr, x.us⟩, 0)
def kPlain (x : Fr) : Fr × Int := if x.kind = 0 then (x, 111) else if 0 < x.us then (x, 112) else (⟨x.owner, 0, x.wr, x.us⟩, 0)
def kWrite (x : Fr) : Fr × Int := if x.kind ≠ 0 then (x, 111) else (⟨x.owner, x.kind, x.wr + 1, x.us⟩, 0)
def kUnwrite (x : Fr) : Fr × Int := if x.wr = 0 then (x, 112) else (⟨x.owner, x.kind, x.wr - 1, x.us⟩, 0)
def kUse (x : Fr) : Fr × Int := (⟨x.owner, x.kind, x.wr, x.us + 1⟩, 0)
def kUnuse (x : Fr) : Fr × Int := if x.us = 0 then (x, 112) else (⟨x.owner, x.kind, x.wr, x.us - 1⟩, 0)
def frMake (l : List Fr) (i who kind : Int) : FrR := if kind = 1 ∨ kind = 2 then frMine l i who (kMake kind) else ⟨l, 0, 103⟩
/-- what is told -/
structure FDo16 where
  kind : Int
  a : Int
  b : Int
  c : Int
deriving Inhabited
def frDo (l : List Fr) (d : FDo16) : FrR :=
  if d.kind = 1 then frAlloc l d.a else if d.kind = 2 then frMine l d.a d.b kFree else if d.kind = 3 then frMake l d.a d.b d.c else if d.kind = 4 then frMine l d.a d.b kPlain
  else if d.kind = 5 then frThere l d.a kWrite else if d.kind = 6 then frThere l d.a kUnwrite else if d.kind = 7 then frThere l d.a kUse else frThere l d.a kUnuse

/-- what holds of each frame, behind so many things -/
def frIn (m : Int) (x : Fr) : Prop := (x.owner = -1 → x = frNo) ∧ 0 ≤ x.wr ∧ x.wr ≤ m ∧ 0 ≤ x.us ∧ x.us ≤ m ∧ (x.kind ≠ 0 → x.wr = 0)
def FrOk (m : Int) (l : List Fr) : Prop := ∀ x ∈ l, frIn m x
theorem frNo_in (m : Int) (h : 0 ≤ m) : frIn m frNo := ⟨fun _ => rfl, Int.le_refl 0, h, Int.le_refl 0, h, fun _ => rfl⟩
theorem frOk_new (n : Nat) : FrOk 0 (List.replicate n frNo) := fun x hx => by
  rw [List.eq_of_mem_replicate hx]
  exact frNo_in 0 (Int.le_refl 0)
theorem frIn_mono {m : Int} {x : Fr} (h : frIn m x) : frIn (m + 1) x := ⟨h.1, h.2.1, by have := h.2.2.1; omega, h.2.2.2.1, by have := h.2.2.2.2.1; omega, h.2.2.2.2.2⟩
theorem frOk_mono {m : Int} {l : List Fr} (h : FrOk m l) : FrOk (m + 1) l := fun x hx => frIn_mono (h x hx)
theorem frOk_set {m : Int} {l : List Fr} (h : FrOk m l) (n : Nat) (y : Fr) (hy : frIn m y) : FrOk m (l.set n y) := fun x hx => by
  rcases List.mem_or_eq_of_mem_set hx with hx | rfl
  · exact h x hx
  · exact hy
theorem frOk_get {m : Int} {l : List Fr} (h : FrOk m l) (n : Nat) (hn : n < l.length) : frIn m (l.getD n default) := by
  rw [List.getD_eq_getElem?_getD, List.getElem?_eq_getElem hn]
  exact h _ (List.getElem_mem _)
theorem kFree_in {m : Int} {x : Fr} (h : frIn m x) : frIn (m + 1) (kFree x).1 := by
  unfold kFree
  have hm : 0 ≤ m + 1 := by have := h.2.1; have := h.2.2.1; omega
  split
  · exact frIn_mono h
  · exact frNo_in _ hm
theorem kMake_in {m : Int} {x : Fr} (k : Int) (h : frIn m x) (ho : x.owner ≠ -1) : frIn (m + 1) (kMake k x).1 := by
  unfold kMake
  split
  · exact frIn_mono h
  · split
    · exact frIn_mono h
    · rename_i hh
      obtain ⟨h1, h2, h3, h4, h5, h6⟩ := h
      exact ⟨fun e => absurd e ho, h2, by show x.wr ≤ _; omega, h4, by show x.us ≤ _; omega, fun _ => by show x.wr = 0; omega⟩
theorem kPlain_in {m : Int} {x : Fr} (h : frIn m x) (ho : x.owner ≠ -1) : frIn (m + 1) (kPlain x).1 := by
  unfold kPlain
  split
  · exact frIn_mono h
  · split
    · exact frIn_mono h
    · obtain ⟨h1, h2, h3, h4, h5, h6⟩ := h
      exact ⟨fun e => absurd e ho, h2, by show x.wr ≤ _; omega, h4, by show x.us ≤ _; omega, fun e => absurd rfl e⟩
theorem kWrite_in {m : Int} {x : Fr} (h : frIn m x) (ho : x.owner ≠ -1) : frIn (m + 1) (kWrite x).1 := by
  unfold kWrite
  split
  · exact frIn_mono h
  · rename_i hh
    obtain ⟨h1, h2, h3, h4, h5, h6⟩ := h
    exact ⟨fun e => absurd e ho, by show 0 ≤ x.wr + 1; omega, by show x.wr + 1 ≤ _; omega, h4, by show x.us ≤ _; omega, fun e => absurd e hh⟩
theorem kUnwrite_in {m : Int} {x : Fr} (h : frIn m x) (ho : x.owner ≠ -1) : frIn (m + 1) (kUnwrite x).1 := by
  unfold kUnwrite
  split
  · exact frIn_mono h
  · rename_i hh
    obtain ⟨h1, h2, h3, h4, h5, h6⟩ := h
    exact ⟨fun e => absurd e ho, by show 0 ≤ x.wr - 1; omega, by show x.wr - 1 ≤ _; omega, h4, by show x.us ≤ _; omega, fun e => absurd (h6 e) hh⟩
theorem kUse_in {m : Int} {x : Fr} (h : frIn m x) (ho : x.owner ≠ -1) : frIn (m + 1) (kUse x).1 := by
  obtain ⟨h1, h2, h3, h4, h5, h6⟩ := h
  exact ⟨fun e => absurd e ho, h2, by show x.wr ≤ _; omega, by show 0 ≤ x.us + 1; omega, by show x.us + 1 ≤ _; omega, h6⟩
theorem kUnuse_in {m : Int} {x : Fr} (h : frIn m x) (ho : x.owner ≠ -1) : frIn (m + 1) (kUnuse x).1 := by
  unfold kUnuse
  split
  · exact frIn_mono h
  · rename_i hh
    obtain ⟨h1, h2, h3, h4, h5, h6⟩ := h
    exact ⟨fun e => absurd e ho, h2, by show x.wr ≤ _; omega, by show 0 ≤ x.us - 1; omega, by show x.us - 1 ≤ _; omega, h6⟩
theorem frMine_in {m : Int} {l : List Fr} (h : FrOk m l) (i who : Int) (k : Fr → Fr × Int) (hk : ∀ x, frIn m x → x.owner ≠ -1 → frIn (m + 1) (k x).1) : FrOk (m + 1) (frMine l i who k).l := by
  unfold frMine
  split
  · exact frOk_mono h
  · rename_i n hn
    obtain ⟨-, h2, h3⟩ := frAt_some hn
    split
    · exact frOk_set (frOk_mono h) _ _ (hk _ (frOk_get h n h2) h3)
    · exact frOk_mono h
theorem frThere_in {m : Int} {l : List Fr} (h : FrOk m l) (i : Int) (k : Fr → Fr × Int) (hk : ∀ x, frIn m x → x.owner ≠ -1 → frIn (m + 1) (k x).1) : FrOk (m + 1) (frThere l i k).l := by
  unfold frThere
  split
  · exact frOk_mono h
  · rename_i n hn
    obtain ⟨-, h2, h3⟩ := frAt_some hn
    exact frOk_set (frOk_mono h) _ _ (hk _ (frOk_get h n h2) h3)
theorem frFree_some {l : List Fr} {i : Nat} (h : frFree l = some i) : i < l.length ∧ (l.getD i default).owner = -1 ∧ ∀ k, k < i → (l.getD k default).owner ≠ -1 := by
  unfold frFree at h
  rw [List.findIdx?_eq_some_iff_getElem] at h
  obtain ⟨h1, h2, h3⟩ := h
  refine ⟨h1, ?_, fun k hk => ?_⟩
  · rw [List.getD_eq_getElem?_getD, List.getElem?_eq_getElem h1]
    simpa using h2
  · have := h3 k hk
    rw [List.getD_eq_getElem?_getD, List.getElem?_eq_getElem (by omega)]
    simpa using this
theorem frFree_none {l : List Fr} (h : frFree l = none) : ∀ k, k < l.length → (l.getD k default).owner ≠ -1 := by
  unfold frFree at h
  rw [List.findIdx?_eq_none_iff] at h
  intro k hk
  rw [List.getD_eq_getElem?_getD, List.getElem?_eq_getElem hk]
  simpa using h _ (List.getElem_mem hk)
theorem frFree_is {l : List Fr} {i : Nat} (h1 : i < l.length) (h2 : (l.getD i default).owner = -1) (h3 : ∀ k, k < i → (l.getD k default).owner ≠ -1) : frFree l = some i := by
  unfold frFree
  rw [List.findIdx?_eq_some_iff_getElem]
  refine ⟨h1, ?_, fun k hk => ?_⟩
  · rw [List.getD_eq_getElem?_getD, List.getElem?_eq_getElem h1] at h2
    simpa using h2
  · have := h3 k hk
    rw [List.getD_eq_getElem?_getD, List.getElem?_eq_getElem (by omega)] at this
    simpa using this
theorem frFree_no {l : List Fr} (h : ∀ k, k < l.length → (l.getD k default).owner ≠ -1) : frFree l = none := by
  unfold frFree
  rw [List.findIdx?_eq_none_iff]
  intro x hx
  obtain ⟨k, hk, rfl⟩ := List.getElem_of_mem hx
  have := h k hk
  rw [List.getD_eq_getElem?_getD, List.getElem?_eq_getElem hk] at this
  simpa using this
theorem frAlloc_in {m : Int} {l : List Fr} (h : FrOk m l) (who : Int) : FrOk (m + 1) (frAlloc l who).l := by
  unfold frAlloc
  split
  · rename_i hw
    split
    · exact frOk_mono h
    · rename_i i hi
      obtain ⟨h1, h2, -⟩ := frFree_some hi
      have hx := frOk_get h i h1
      have hz := hx.1 h2
      have hwo : who ≠ -1 := by unfold frOwns at hw; omega
      rw [hz]
      have hm : 0 ≤ m := by have := hx.2.1; have := hx.2.2.1; omega
      refine frOk_set (frOk_mono h) _ _ ⟨fun e => absurd e hwo, Int.le_refl 0, ?_, Int.le_refl 0, ?_, fun e => absurd rfl e⟩
      · show (0 : Int) ≤ m + 1; omega
      · show (0 : Int) ≤ m + 1; omega
  · exact frOk_mono h
theorem frDo_in {m : Int} {l : List Fr} (h : FrOk m l) (d : FDo16) : FrOk (m + 1) (frDo l d).l := by
  unfold frDo
  split
  · exact frAlloc_in h _
  split
  · exact frMine_in h _ _ _ fun x hx _ => kFree_in hx
  split
  · unfold frMake
    split
    · exact frMine_in h _ _ _ fun x hx ho => kMake_in _ hx ho
    · exact frOk_mono h
  split
  · exact frMine_in h _ _ _ fun x hx ho => kPlain_in hx ho
  split
  · exact frThere_in h _ _ fun x hx ho => kWrite_in hx ho
  split
  · exact frThere_in h _ _ fun x hx ho => kUnwrite_in hx ho
  split
  · exact frThere_in h _ _ fun x hx ho => kUse_in hx ho
  · exact frThere_in h _ _ fun x hx ho => kUnuse_in hx ho
theorem frMine_len (l : List Fr) (i who : Int) (k : Fr → Fr × Int) : (frMine l i who k).l.length = l.length := by
  unfold frMine
  split
  · rfl
  · split <;> simp
theorem frThere_len (l : List Fr) (i : Int) (k : Fr → Fr × Int) : (frThere l i k).l.length = l.length := by
  unfold frThere
  split <;> simp
theorem frDo_len (l : List Fr) (d : FDo16) : (frDo l d).l.length = l.length := by
  unfold frDo
  split
  · unfold frAlloc
    split
    · split <;> simp
    · rfl
  split
  · exact frMine_len _ _ _ _
  split
  · unfold frMake
    split
    · exact frMine_len _ _ _ _
    · rfl
  split
  · exact frMine_len _ _ _ _
  repeat (first | exact frThere_len _ _ _ | split)
end Go.Proofs.YtaoaachgnnengaaDoor

/-
  The nine sentinels that tables and their frames tell of.
-/
namespace Go.Proofs.YtaoaachgnnengaaDoor
open Go.RowKit

abbrev nine : List Nat := [1, 2, 3, 5, 6, 9, 10, 11, 12]
theorem nine_lt {k : Nat} (h : k ∈ nine) : k < 16 := by
  simp [nine] at h
  omega
theorem errs9 {W : World} {E : Nat → Addr} (h : ErrsAt errT gOf W E all16) : ErrsAt errT gOf W E nine :=
  ⟨fun k hk => h.1 k (mem16 (nine_lt hk)), fun i hi j hj hne => h.2 i (mem16 (nine_lt hi)) j (mem16 (nine_lt hj)) hne⟩
end Go.Proofs.YtaoaachgnnengaaDoor

/-
  frames.Frames: its cells; Get, there, own.
-/
namespace Go.Proofs.YtaoaachgnnengaaDoor
open Go.RowKit

/-- frames lie in block g, their header in block b -/
def FrAt (TB TR : TypeId) (w : World) (b g cap : Nat) (l : List Fr) : Prop :=
  w.heap[b]? = some (.cells #[.slice (some ⟨g, 0, none⟩) l.length cap] TB (0, 0)) ∧ RecAt frOne TR w g l ∧ b ≠ g ∧ l.length ≤ cap ∧ cap ≤ 9223372036854775807
theorem FrAt.only {TB TR : TypeId} {F : Nat → Prop} {w w' : World} {b g cap : Nat} {l : List Fr} (h : FrAt TB TR w b g cap l) (ho : Only F w w') (hb : ¬ F b) (hg : ¬ F g) : FrAt TB TR w' b g cap l :=
  ⟨ho.blk h.1 hb, h.2.1.only ho hg, h.2.2.1, h.2.2.2⟩
theorem FrAt.below {TB TR : TypeId} {w w' : World} {b g cap : Nat} {l : List Fr} (h : FrAt TB TR w b g cap l) (hb : Below w.heap.size w w') : FrAt TB TR w' b g cap l :=
  h.only (F := fun _ => False) (Only.of_below hb) (fun h => h) (fun h => h)
theorem FrAt.hdr {TB TR : TypeId} {w : World} {b g cap : Nat} {l : List Fr} (h : FrAt TB TR w b g cap l) : w.cell? ⟨b, 0, none⟩ = some (.slice (some ⟨g, 0, none⟩) l.length cap) := blk_cell h.1 0
theorem FrAt.cells {TB TR : TypeId} {w : World} {b g cap : Nat} {l : List Fr} (h : FrAt TB TR w b g cap l) (n : Nat) (hn : n < l.length) :
    w.cell? ⟨g, n * 4, none⟩ = some (.int .i64 (l.getD n default).owner) ∧ w.cell? ⟨g, n * 4 + 1, none⟩ = some (.int .i64 (l.getD n default).kind) ∧ w.cell? ⟨g, n * 4 + 2, none⟩ = some (.int .i64 (l.getD n default).wr) ∧ w.cell? ⟨g, n * 4 + 3, none⟩ = some (.int .i64 (l.getD n default).us) :=
  ⟨h.2.1.cell frOne_len n 0 hn (by decide), h.2.1.cell frOne_len n 1 hn (by decide), h.2.1.cell frOne_len n 2 hn (by decide), h.2.1.cell frOne_len n 3 hn (by decide)⟩
theorem FrAt.free {TB TR : TypeId} {w : World} {b g cap : Nat} {l : List Fr} (h : FrAt TB TR w b g cap l) (o : Nat) : w.frozen? ⟨g, o, none⟩ = false := h.2.1.free o
theorem FrAt.lt {TB TR : TypeId} {w : World} {b g cap : Nat} {l : List Fr} (h : FrAt TB TR w b g cap l) : b < w.heap.size ∧ g < w.heap.size := ⟨blk_lt h.1, blk_lt h.2.1⟩
/-- one cell is put -/
theorem FrAt.put {TB TR : TypeId} {w : World} {b g cap : Nat} {l : List Fr} (h : FrAt TB TR w b g cap l) (n j : Nat) (hn : n < l.length) (hj : j < 4) (y : Fr) (v : Value) (hy : frOne y = (frOne (l.getD n default)).set j v) : FrAt TB TR (w.setCell ⟨g, n * 4 + j, none⟩ v) b g cap (l.set n y) := by
  refine ⟨?_, h.2.1.put frOne_len n j hn hj y v hy, h.2.2.1, ?_, h.2.2.2.2⟩
  · rw [List.length_set]
    exact ((Only.refl (fun k => k = g) w).setCell (p := ⟨g, n * 4 + j, none⟩) (.inl rfl) v).blk h.1 h.2.2.1
  · rw [List.length_set]
    exact h.2.2.2.1
theorem fr_set_get (l : List Fr) (n : Nat) (hn : n < l.length) (y : Fr) : (l.set n y).getD n default = y := by
  rw [List.getD_eq_getElem?_getD, List.getElem?_set_self hn]
  rfl
theorem FrAt.put0 {TB TR : TypeId} {w : World} {b g cap n : Nat} {l : List Fr} (h : FrAt TB TR w b g cap l) (hn : n < l.length) (z : Int) : FrAt TB TR (w.setCell ⟨g, n * 4, none⟩ (.int .i64 z)) b g cap (l.set n ⟨z, (l.getD n default).kind, (l.getD n default).wr, (l.getD n default).us⟩) := h.put n 0 hn (by decide) _ _ rfl
theorem FrAt.put1 {TB TR : TypeId} {w : World} {b g cap n : Nat} {l : List Fr} (h : FrAt TB TR w b g cap l) (hn : n < l.length) (z : Int) : FrAt TB TR (w.setCell ⟨g, n * 4 + 1, none⟩ (.int .i64 z)) b g cap (l.set n ⟨(l.getD n default).owner, z, (l.getD n default).wr, (l.getD n default).us⟩) := h.put n 1 hn (by decide) _ _ rfl
theorem FrAt.put2 {TB TR : TypeId} {w : World} {b g cap n : Nat} {l : List Fr} (h : FrAt TB TR w b g cap l) (hn : n < l.length) (z : Int) : FrAt TB TR (w.setCell ⟨g, n * 4 + 2, none⟩ (.int .i64 z)) b g cap (l.set n ⟨(l.getD n default).owner, (l.getD n default).kind, z, (l.getD n default).us⟩) := h.put n 2 hn (by decide) _ _ rfl
theorem FrAt.put3 {TB TR : TypeId} {w : World} {b g cap n : Nat} {l : List Fr} (h : FrAt TB TR w b g cap l) (hn : n < l.length) (z : Int) : FrAt TB TR (w.setCell ⟨g, n * 4 + 3, none⟩ (.int .i64 z)) b g cap (l.set n ⟨(l.getD n default).owner, (l.getD n default).kind, (l.getD n default).wr, z⟩) := h.put n 3 hn (by decide) _ _ rfl
/-- all four are put -/
theorem FrAt.putAll {TB TR : TypeId} {w : World} {b g cap n : Nat} {l : List Fr} (h : FrAt TB TR w b g cap l) (hn : n < l.length) (y : Fr) :
    FrAt TB TR ((((w.setCell ⟨g, n * 4, none⟩ (.int .i64 y.owner)).setCell ⟨g, n * 4 + 1, none⟩ (.int .i64 y.kind)).setCell ⟨g, n * 4 + 2, none⟩ (.int .i64 y.wr)).setCell ⟨g, n * 4 + 3, none⟩ (.int .i64 y.us)) b g cap (l.set n y) := by
  have h0 := h.put0 hn y.owner
  have h1 := h0.put1 (n := n) (by rw [List.length_set]; exact hn) y.kind
  rw [fr_set_get l n hn, List.set_set] at h1
  have h2 := h1.put2 (n := n) (by rw [List.length_set]; exact hn) y.wr
  rw [fr_set_get l n hn, List.set_set] at h2
  have h3 := h2.put3 (n := n) (by rw [List.length_set]; exact hn) y.us
  rw [fr_set_get l n hn, List.set_set] at h3
  exact h3
def frV (x : Fr) : Value := .agg #[.int .i64 x.owner, .int .i64 x.kind, .int .i64 x.wr, .int .i64 x.us]
/-- an error's number as an error -/
def errC (E : Nat → Addr) (c : Int) : Value := if c = 0 then .nilIface else errV (E (c - 101).toNat)
theorem errC_num (E : Nat → Addr) (c : Int) (h : c = 0 ∨ (101 ≤ c ∧ c ≤ 116)) : errNum (errC E c) E c := by
  unfold errC errNum
  by_cases h0 : c = 0
  · rw [if_pos h0]
    exact .inl ⟨rfl, h0⟩
  · rw [if_neg h0]
    exact .inr ⟨(c - 101).toNat, by omega, rfl, by omega⟩
/-- what a method of frames does: the error, the frames then -/
def FrQ (TB TR : TypeId) (E : Nat → Addr) (b g cap : Nat) (R : FrR) (w : World) (e : Ending) (w' : World) : Prop := e = .returned (errC E R.c) ∧ FrAt TB TR w' b g cap R.l ∧ Only (fun k => k = g) w w'
/-- the same, the document's: the number -/
def FrN (TB TR : TypeId) (b g cap : Nat) (R : FrR) (w : World) (e : Ending) (w' : World) : Prop := e = .returned (.int .i64 R.c) ∧ FrAt TB TR w' b g cap R.l ∧ Only (fun k => k = g) w w'

set_option maxRecDepth 100000 in
set_option maxHeartbeats 1600000 in
theorem fget_some (l : List Fr) (b g cap n : Nat) (w : World) (h : FrAt 95 33 w b g cap l) (hn : n < l.length) :
    Calls Tryd.prog 16 #[.pointer (some ⟨b, 0, none⟩), .int .i64 (n : Int)] w fun e w' => e = .returned (.tuple #[frV (l.getD n default), .bool true]) ∧ Below w.heap.size w w' := by
  have hb1 : Below w.heap.size w (w.alloc (.cells #[.int .i64 0, .int .i64 0, .int .i64 0, .int .i64 0] 33)) := (Below.refl _ _).alloc (Nat.le_refl _) _
  have h1 := h.below hb1
  have c := h1.hdr
  obtain ⟨c0, c1, c2, c3⟩ := h1.cells n hn
  obtain ⟨lb, lg⟩ := h.lt
  have hni : (n : Int) < (l.length : Int) := by omega
  have hn0 : (0 : Int) ≤ (n : Int) := by omega
  unfold frV
  obtain ⟨⟨x0, x1, x2, x3⟩, hx⟩ : ∃ x, l.getD n default = x := ⟨_, rfl⟩
  rw [hx] at c0 c1 c2 c3 ⊢
  clear h h1 hb1 hx hn
  go_enter Tryd.func16, Tryd.ntmps16
  go_wp2
  refine bodyPost_ret (v := .tuple #[.agg #[.int .i64 x0, .int .i64 x1, .int .i64 x2, .int .i64 x3], .bool true]) (by simp [results, Tryd.results16, go_sem]) rfl ⟨rfl, ?_⟩
  repeat (first | exact Below.refl _ _ | refine Below.setCell ?_ (by first | (simp; done) | (simp; omega)) _ | refine Below.alloc ?_ (by first | (simp; done) | (simp; omega)) _)
set_option maxRecDepth 100000 in
set_option maxHeartbeats 1600000 in
theorem fget_none (l : List Fr) (b g cap : Nat) (i : Int) (w : World) (h : FrAt 95 33 w b g cap l) (hn : ¬ (0 ≤ i ∧ i < l.length)) :
    Calls Tryd.prog 16 #[.pointer (some ⟨b, 0, none⟩), .int .i64 i] w fun e w' => e = .returned (.tuple #[.agg #[.int .i64 0, .int .i64 0, .int .i64 0, .int .i64 0], .bool false]) ∧ Below w.heap.size w w' := by
  have hb1 : Below w.heap.size w (w.alloc (.cells #[.int .i64 0, .int .i64 0, .int .i64 0, .int .i64 0] 33)) := (Below.refl _ _).alloc (Nat.le_refl _) _
  have c := (h.below hb1).hdr
  obtain ⟨lb, lg⟩ := h.lt
  have hc : i < 0 ∨ (¬ i < 0 ∧ (l.length : Int) ≤ i) := by omega
  clear h hb1 hn
  rcases hc with hc | ⟨hc, hd⟩
  all_goals
    go_enter Tryd.func16, Tryd.ntmps16
    go_wp2
    refine bodyPost_ret (v := .tuple #[.agg #[.int .i64 0, .int .i64 0, .int .i64 0, .int .i64 0], .bool false]) (by simp [results, Tryd.results16, go_sem]) rfl ⟨rfl, ?_⟩
    repeat (first | exact Below.refl _ _ | refine Below.setCell ?_ (by first | (simp; done) | (simp; omega)) _ | refine Below.alloc ?_ (by first | (simp; done) | (simp; omega)) _)

set_option maxRecDepth 100000 in
set_option maxHeartbeats 1600000 in
theorem fthere_any (l : List Fr) (b g cap : Nat) (i : Int) (w : World) (h : FrAt 95 33 w b g cap l) :
    Calls Tryd.prog 61 #[.pointer (some ⟨b, 0, none⟩), .int .i64 i] w fun e w' => e = .returned (.bool (frAt l i).isSome) ∧ Below w.heap.size w w' := by
  by_cases hi : 0 ≤ i ∧ i < l.length
  · obtain ⟨n, rfl⟩ := Int.eq_ofNat_of_zero_le hi.1
    have hn : n < l.length := by omega
    have HG := Lib.hid (fget_some l b g cap n w h hn)
    have hf : frAt l (n : Int) = if (l.getD n default).owner ≠ -1 then some n else none := by
      unfold frAt
      by_cases ho : (l.getD n default).owner = -1
      · rw [if_neg (by rw [Int.toNat_natCast]; exact fun h => h.2.2 ho), if_neg (fun h => h ho)]
      · rw [if_pos ⟨hi.1, hi.2, by rw [Int.toNat_natCast]; exact ho⟩, if_pos ho, Int.toNat_natCast]
    rw [hf]
    unfold frV at HG
    obtain ⟨⟨x0, x1, x2, x3⟩, hx⟩ : ∃ x, l.getD n default = x := ⟨_, rfl⟩
    rw [hx] at HG ⊢
    dsimp only at HG ⊢
    clear hf hi h hx hn
    by_cases ho : x0 = -1
    · subst ho
      go_enter Tryd.func61, Tryd.ntmps61
      go_wp2_with fail
      refine HG.out.mono ?_
      rintro e w1 ⟨rfl, hb1⟩
      have HB := Lib.hid hb1
      clear hb1
      go_wp2
      go_ret
      exact ⟨rfl, HB.out.alloc HB.out.size _⟩
    · have ho' : (x0 == -1) = false := by simp [ho]
      rw [if_pos ho]
      have HO := Lib.hid ho
      clear ho
      go_enter Tryd.func61, Tryd.ntmps61
      go_wp2_with fail
      refine HG.out.mono ?_
      rintro e w1 ⟨rfl, hb1⟩
      have HB := Lib.hid hb1
      clear hb1
      go_wp2
      go_ret
      exact ⟨by simp [HO.out], HB.out.alloc HB.out.size _⟩
  · have HG := Lib.hid (fget_none l b g cap i w h hi)
    have hf : frAt l i = none := by
      unfold frAt
      rw [if_neg (fun h => hi ⟨h.1, h.2.1⟩)]
    rw [hf]
    clear hf hi h
    go_enter Tryd.func61, Tryd.ntmps61
    go_wp2_with fail
    refine HG.out.mono ?_
    rintro e w1 ⟨rfl, hb1⟩
    have HB := Lib.hid hb1
    clear hb1
    go_wp2
    go_ret
    exact ⟨rfl, HB.out.alloc HB.out.size _⟩

set_option maxRecDepth 100000 in
set_option maxHeartbeats 1600000 in
theorem fown_any (E : Nat → Addr) (l : List Fr) (b g cap : Nat) (i who : Int) (w : World) (hE : ErrsAt errT gOf w E nine) (h : FrAt 95 33 w b g cap l) :
    Calls Tryd.prog 50 #[.pointer (some ⟨b, 0, none⟩), .int .i64 i, .int .i64 who] w fun e w' => e = .returned (errC E (frOwnC l i who)) ∧ Below w.heap.size w w' := by
  have HT := Lib.hid (fthere_any l b g cap i w h)
  have HEK : Hid (∀ wx, Below w.heap.size w wx → wx.cell? ⟨3, 0, none⟩ = some (errV (E 6)) ∧ wx.cell? ⟨6, 0, none⟩ = some (errV (E 9))) := Lib.hid fun wx hx => ⟨((hE.mono hx).1 6 (by decide)).1, ((hE.mono hx).1 9 (by decide)).1⟩
  unfold frOwnC
  cases hN : frAt l i with
  | none =>
    rw [hN] at HT
    dsimp only [Option.isSome] at HT ⊢
    clear h hE hN
    go_enter Tryd.func50, Tryd.ntmps50
    go_wp2_with fail
    refine HT.out.mono ?_
    rintro e w1 ⟨rfl, hb1⟩
    obtain ⟨e6, -⟩ := HEK.out _ hb1
    have HB := Lib.hid hb1
    clear hb1
    go_wp2
    go_ret
    exact ⟨rfl, HB.out⟩
  | some n =>
    obtain ⟨rfl, hn, ho⟩ := frAt_some hN
    rw [hN] at HT
    dsimp only [Option.isSome] at HT ⊢
    have hni : (n : Int) < (l.length : Int) := by omega
    have hn0 : (0 : Int) ≤ (n : Int) := by omega
    have HF : Hid (∀ wx, Below w.heap.size w wx → wx.cell? ⟨b, 0, none⟩ = some (.slice (some ⟨g, 0, none⟩) l.length cap) ∧ wx.cell? ⟨g, n * 4, none⟩ = some (.int .i64 (l.getD n default).owner)) := Lib.hid fun wx hx => ⟨(h.below hx).hdr, ((h.below hx).cells n hn).1⟩
    obtain ⟨⟨x0, x1, x2, x3⟩, hx⟩ : ∃ x, l.getD n default = x := ⟨_, rfl⟩
    rw [hx] at HF ⊢
    dsimp only at HF ⊢
    clear h hE hN ho hx hn
    by_cases hw : x0 = who
    · subst hw
      rw [if_pos rfl]
      go_enter Tryd.func50, Tryd.ntmps50
      go_wp2_with fail
      refine HT.out.mono ?_
      rintro e w1 ⟨rfl, hb1⟩
      obtain ⟨c, c0⟩ := HF.out _ hb1
      have HB := Lib.hid hb1
      clear hb1
      go_wp2
      go_ret
      exact ⟨rfl, HB.out⟩
    · rw [if_neg hw]
      have hw' : (x0 == who) = false := by simp [hw]
      clear hw
      go_enter Tryd.func50, Tryd.ntmps50
      go_wp2_with fail
      refine HT.out.mono ?_
      rintro e w1 ⟨rfl, hb1⟩
      obtain ⟨c, c0⟩ := HF.out _ hb1
      obtain ⟨-, e9⟩ := HEK.out _ hb1
      have HB := Lib.hid hb1
      clear hb1
      go_wp2
      go_ret
      exact ⟨rfl, HB.out⟩
end Go.Proofs.YtaoaachgnnengaaDoor

