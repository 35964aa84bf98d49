/-
  Whole rows of cells: a load or a store of a large aggregate at once.
-/
import Derived.Test.YtehmpdgpjpifoaaDoorOwn
namespace Go.Proofs.YtehmpdgpjpifoaaDoor
open Go Go.RowKit

/-- the cells of a block, none of them frozen -/
def row? (w : World) (n : Nat) : Option (Array Value) :=
  match w.heap[n]? with
  | some (.cells c _ (0, 0)) => some c
  | _ => none

theorem row?_of {w : World} {n : Nat} {c : Array Value} {t : TypeId} (h : w.heap[n]? = some (.cells c t (0, 0))) : row? w n = some c := by simp [row?, h]
theorem of_row? {w : World} {n : Nat} {c : Array Value} (h : row? w n = some c) : ∃ t, w.heap[n]? = some (.cells c t (0, 0)) := by
  unfold row? at h
  split at h
  · rename_i c' t hb
    cases h
    exact ⟨t, hb⟩
  · cases h
@[go_sem] theorem row?_alloc_at {w : World} (c : Array Value) (t : TypeId) (n : Nat) (hn : n = w.heap.size) : row? (w.alloc (.cells c t)) n = some c := by
  subst hn
  exact row?_of (blk_new w _)
@[go_sem] theorem row?_alloc_past {w : World} (o : Obj) (n : Nat) (hn : n < w.heap.size) : row? (w.alloc o) n = row? w n := by
  simp only [row?, Below.heap_alloc w o n hn]
@[go_sem] theorem row?_drew (w : World) (n : Nat) : row? w.drew n = row? w n := rfl
@[go_sem] theorem row?_set_other {w : World} (a : Addr) (v : Value) (n : Nat) (h : n ≠ a.block) : row? (w.setCell a v) n = row? w n := by
  simp only [row?, Below.heap_setCell w a v n h]

@[go_sem] theorem row?_set_same (w : World) (n i : Nat) (v : Value) : row? (w.setCell ⟨n, i, none⟩ v) n = (row? w n).map (fun c => c.setIfInBounds i v) := by
  unfold row?
  cases h : w.heap[n]? with
  | none => simp [World.setCell, Array.getElem?_modify, h]
  | some o =>
    cases o with
    | cells c t fr =>
      have := blk_put h i v
      rw [this]
      obtain ⟨a, b⟩ := fr
      cases a <;> cases b <;> rfl
    | _ => simp [World.setCell, Array.getElem?_modify, h]

@[go_sem] theorem setRow_alloc_at {w : World} (c cs : Array Value) (t : TypeId) (n : Nat) (hn : n = w.heap.size) : (w.alloc (.cells c t)).setRow n cs = w.alloc (.cells cs t) := by
  subst hn
  have hh : (w.alloc (.cells c t)).heap = w.heap.push (.cells c t) := rfl
  have ha : (w.alloc (.cells cs t)).heap = w.heap.push (.cells cs t) := rfl
  have e : ((w.alloc (.cells c t)).setRow w.heap.size cs).heap = (w.alloc (.cells cs t)).heap := by
    simp only [World.setRow, hh, ha]
    apply Array.ext_getElem?
    intro i
    rw [Array.getElem?_modify, Array.getElem?_push, Array.getElem?_push]
    by_cases hi : i = w.heap.size
    · subst hi; simp
    · rw [if_neg (fun h => hi h.symm), if_neg hi, if_neg hi]
  exact congrArg (fun H => ({ w with heap := H } : World)) e

/-- a load of n cells at a, if the block is known whole; else what it was -/
def loadBy (n : Nat) (a : Addr) (w : World) (orig : Result Value) : Result Value :=
  match row? w a.block with
  | some cs => if a.spot = none then (if cs.size = n ∧ a.off = 0 then .ok (.agg cs) w else if a.off + n ≤ cs.size then .ok (.agg (cs.extract a.off (a.off + n))) w else orig) else orig
  | none => orig

@[go_sem] theorem loadBy_lit (n g o : Nat) (w : World) (orig : Result Value) : loadBy n ⟨g, o, none⟩ w orig =
    match row? w g with
    | some cs => (if cs.size = n ∧ o = 0 then .ok (.agg cs) w else if o + n ≤ cs.size then .ok (.agg (cs.extract o (o + n))) w else orig)
    | none => orig := by
  simp [loadBy]

theorem run_load_by {P : Program} (T : TypeId) (n : Nat) (d : TypeDesc) (hu : P.underlying T = some d) (hd : (match d with | .struct _ | .array _ _ => true | _ => false) = true) (hi : (P.info? T).map (·.size) = some n)
    (a : Addr) (w : World) : (loadVar T a).run P w = loadBy n a w ((loadVar T a).run P w) := by
  unfold loadBy
  split
  · rename_i cs hr
    obtain ⟨t, hg⟩ := of_row? hr
    obtain ⟨g, o, sp⟩ := a
    dsimp only at hg ⊢
    split
    · rename_i hsp
      subst hsp
      split
      · rename_i h
        obtain ⟨h1, rfl⟩ := h
        exact run_loadVar_row w g t T cs (0, 0) d hg hu hd (by rw [h1]; exact hi)
      · split
        · rename_i h1 h2
          have hl : (cs.extract o (o + n)).size = n := by simp; omega
          have hload : (loadCells ⟨g, o, none⟩ n).run P w = .ok (cs.extract o (o + n)) w := by
            have := run_loadCells_list (P := P) w ⟨g, o, none⟩ (cs.extract o (o + n)).toList (fun j v hv => by
              have hj := (List.getElem?_eq_some_iff.1 hv).1
              rw [Addr.add_lit, blk_cell hg]
              simp only [Array.length_toList, hl] at hj
              simp only [Array.getElem?_toList, Array.getElem?_extract] at hv
              rw [if_pos (by omega)] at hv
              exact hv)
            rw [Array.length_toList, hl, Array.toArray_toList] at this
            exact this
          cases hq : P.info? T with
          | none => simp [hq] at hi
          | some i =>
            have hs : i.size = n := by simpa [hq] using hi
            have hagg : (isAgg T).run P w = .ok true w := by
              unfold isAgg
              rw [Sem.run_bind, run_underlying hu w]
              cases d <;> simp_all
            simp [loadVar, Sem.run_bind, hagg, sizeOf, typeInfo, hq, hs, hload]
        · rfl
    · rfl
  · rfl

/-- a load, a store, kept shut -/
def loadT (T : TypeId) (a : Addr) : Sem Value := loadVar T a
def storeT (T : TypeId) (a : Addr) (v : Value) : Sem Unit := storeVar T a v
def origLoad (P : Program) (T : TypeId) (a : Addr) (w : World) : Result Value := (loadVar T a).run P w
def origStore (P : Program) (T : TypeId) (a : Addr) (v : Value) (w : World) : Result Unit := (storeVar T a v).run P w

def allOne (cs : Array Value) : Bool := cs.all (·.oneCell')
/-- new cells over a part of a row -/
def splice (cs : Array Value) (o : Nat) (new : Array Value) : Array Value := (cs.toList.take o ++ new.toList ++ cs.toList.drop (o + new.size)).toArray
theorem splice_all (cs new : Array Value) (h : cs.size = new.size) : splice cs 0 new = new := by
  unfold splice
  rw [List.take_zero, List.nil_append, Nat.zero_add, List.drop_of_length_le (by rw [Array.length_toList, h]; exact Nat.le_refl _), List.append_nil]

/-- a store of an aggregate of n cells at a, if the block is known whole; else what it was -/
def storeBy (n : Nat) (a : Addr) (v : Value) (w : World) (orig : Result Unit) : Result Unit :=
  match row? w a.block, v with
  | some cs, .agg new => if a.spot = none ∧ new.size = n ∧ allOne new = true then (if cs.size = n ∧ a.off = 0 then .ok () (w.setRow a.block new) else if a.off + n ≤ cs.size then .ok () (w.setRow a.block (splice cs a.off new)) else orig) else orig
  | _, _ => orig

@[go_sem] theorem storeBy_lit (n g o : Nat) (new : Array Value) (w : World) (orig : Result Unit) : storeBy n ⟨g, o, none⟩ (.agg new) w orig =
    match row? w g with
    | some cs => (if new.size = n ∧ allOne new = true then (if cs.size = n ∧ o = 0 then .ok () (w.setRow g new) else if o + n ≤ cs.size then .ok () (w.setRow g (splice cs o new)) else orig) else orig)
    | none => orig := by
  unfold storeBy
  cases row? w g <;> simp

theorem run_store_by {P : Program} (T : TypeId) (n : Nat) (hi : (P.info? T).map (·.size) = some n)
    (a : Addr) (v : Value) (w : World) : (storeVar T a v).run P w = storeBy n a v w ((storeVar T a v).run P w) := by
  unfold storeBy
  split
  · rename_i cs new hr
    obtain ⟨t, hg⟩ := of_row? hr
    obtain ⟨g, o, sp⟩ := a
    dsimp only at hg ⊢
    split
    · rename_i h
      obtain ⟨rfl, hn, h1⟩ := h
      have h1' : ∀ u ∈ new.toList, u.oneCell' = true := fun u hu => by
        unfold allOne at h1
        rw [Array.all_eq_true'] at h1
        exact h1 u (by simpa using hu)
      have key : o + n ≤ cs.size → (storeVar T ⟨g, o, none⟩ (.agg new)).run P w = .ok () (w.setRow g (splice cs o new)) := fun ho => by
        have hst := run_storeCells_at P g o t new.toList 0 cs w hg (by simp; omega) h1'
        simp only [Nat.add_zero] at hst
        cases hq : P.info? T with
        | none => simp [hq] at hi
        | some i =>
          have hs : i.size = n := by simpa [hq] using hi
          have hc : (Value.agg new).cells = new := rfl
          simp [storeVar, sizeOf, typeInfo, hq, hs, hc, hn, Sem.run_bind, hst, splice]
      split
      · rename_i h2
        obtain ⟨h2, rfl⟩ := h2
        rw [key (by omega), splice_all cs new (by omega)]
      · split
        · rename_i h3
          exact key h3
        · rfl
    · rfl
  · rfl
end Go.Proofs.YtehmpdgpjpifoaaDoor
