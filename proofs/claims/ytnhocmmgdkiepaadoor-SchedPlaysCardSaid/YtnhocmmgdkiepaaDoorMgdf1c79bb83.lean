/-
  Parts of one proof, one behind the other.
-/
import Derived.Test.YtnhocmmgdkiepaaDoorMg314fc8bd28
import Derived.Test.YtnhocmmgdkiepaaDoorRows
import Derived.Test.YtnhocmmgdkiepaaDoorMg891e6fd1b3
/-
  facaderef16.Sched: what its list says; plain.
-/
namespace Go.Proofs.YtnhocmmgdkiepaaDoor
open Go.RowKit

structure Tn where
  id : Int
  wt : Int
  us : Int
  sl : Bool
  un : Int
deriving Inhabited
def tnOne (t : Tn) : List Value := [.int .i64 t.id, .int .i64 t.wt, .int .i64 t.us, .bool t.sl, .int .i64 t.un]
theorem tnOne_len (t : Tn) : (tnOne t).length = 5 := rfl
def tnCells (l : List Tn) : List Value := l.flatMap tnOne
def tg (l : List Tn) (i : Nat) : Tn := l.getD i default
def tnOk (t : Tn) : Prop := (0 ≤ t.id ∧ t.id < 8) ∧ (1 ≤ t.wt ∧ t.wt ≤ 100) ∧ (0 ≤ t.us ∧ t.us ≤ 1152921504606846976) ∧ -9223372036854775808 ≤ t.un ∧ t.un ≤ 9223372036854775807
def tnFit (t : Tn) (g : Gu) : Prop := g.wt = t.wt ∧ g.us = t.us ∧ g.sl = t.sl ∧ (t.sl = true → g.un = t.un)
structure SdS (L : List Tn) (st : Int → Option Gu) : Prop where
  ok : ∀ i, i < L.length → tnOk (tg L i)
  nd : ∀ i j, i < L.length → j < L.length → (tg L i).id = (tg L j).id → i = j
  s1 : ∀ i, i < L.length → ∃ g, st (tg L i).id = some g ∧ tnFit (tg L i) g
  s2 : ∀ x g, st x = some g → ∃ i, i < L.length ∧ (tg L i).id = x
theorem sdS_nil : SdS [] noOne := ⟨(fun i h => by simp at h), (fun i j h => by simp at h), (fun i h => by simp at h), fun x g h => by cases h⟩
theorem tg_set_eq (L : List Tn) (i : Nat) (t : Tn) (h : i < L.length) : tg (L.set i t) i = t := by
  unfold tg
  rw [List.getD_eq_getElem?_getD, List.getElem?_set_self h]
  rfl
theorem tg_set_ne (L : List Tn) (i j : Nat) (t : Tn) (h : j ≠ i) : tg (L.set i t) j = tg L j := by
  unfold tg
  rw [List.getD_eq_getElem?_getD, List.getElem?_set_ne (fun e => h e.symm), List.getD_eq_getElem?_getD]
theorem tg_app_lt (L : List Tn) (t : Tn) (j : Nat) (h : j < L.length) : tg (L ++ [t]) j = tg L j := by
  unfold tg
  rw [List.getD_eq_getElem?_getD, List.getElem?_append_left h, List.getD_eq_getElem?_getD]
theorem tg_app_eq (L : List Tn) (t : Tn) : tg (L ++ [t]) L.length = t := by
  unfold tg
  rw [List.getD_eq_getElem?_getD, List.getElem?_append_right (Nat.le_refl _)]
  simp
theorem tg_del (L : List Tn) (i j : Nat) (hi : i < L.length) : tg (L.take i ++ L.drop (i + 1)) j = if j < i then tg L j else tg L (j + 1) := by
  unfold tg
  rw [List.getD_eq_getElem?_getD]
  by_cases h : j < i
  · rw [if_pos h, List.getElem?_append_left (by rw [List.length_take]; omega), List.getElem?_take_of_lt h, List.getD_eq_getElem?_getD]
  · rw [if_neg h, List.getElem?_append_right (by rw [List.length_take]; omega), List.getElem?_drop, List.getD_eq_getElem?_getD, List.length_take]
    congr 2
    omega
theorem del_len (L : List Tn) (i : Nat) (hi : i < L.length) : (L.take i ++ L.drop (i + 1)).length = L.length - 1 := by
  rw [List.length_append, List.length_take, List.length_drop]
  omega
theorem SdS.set {L : List Tn} {st : Int → Option Gu} (h : SdS L st) {i : Nat} (hi : i < L.length) (t : Tn) (hid : t.id = (tg L i).id) (hok : tnOk t) (g : Gu) (hf : tnFit t g) : SdS (L.set i t) (upd st t.id (some g)) := by
  have hlen : (L.set i t).length = L.length := List.length_set
  have hg : ∀ j, (tg (L.set i t) j).id = (tg L j).id := fun j => by
    by_cases e : j = i
    · rw [e, tg_set_eq L i t hi, hid]
    · rw [tg_set_ne L i j t e]
  refine ⟨fun j hj => ?_, fun a b ha hb => ?_, fun j hj => ?_, fun x g' hx => ?_⟩
  · by_cases e : j = i
    · rw [e, tg_set_eq L i t hi]; exact hok
    · rw [tg_set_ne L i j t e]; exact h.ok j (by omega)
  · rw [hg, hg]
    exact h.nd a b (by omega) (by omega)
  · by_cases e : j = i
    · rw [e, tg_set_eq L i t hi, updSame]
      exact ⟨g, rfl, hf⟩
    · rw [tg_set_ne L i j t e, updElse _ _ _ _ (fun e2 => e (h.nd j i (by omega) hi (by rw [e2, hid])))]
      exact h.s1 j (by omega)
  · by_cases e : x = t.id
    · exact ⟨i, by omega, by rw [tg_set_eq L i t hi, e]⟩
    · rw [updElse _ _ _ _ e] at hx
      obtain ⟨j, hj, rfl⟩ := h.s2 x g' hx
      exact ⟨j, by omega, hg j⟩
theorem SdS.app {L : List Tn} {st : Int → Option Gu} (h : SdS L st) (t : Tn) (hok : tnOk t) (hno : st t.id = none) (g : Gu) (hf : tnFit t g) : SdS (L ++ [t]) (upd st t.id (some g)) := by
  have hlen : (L ++ [t]).length = L.length + 1 := by rw [List.length_append]; rfl
  have hne : ∀ j, j < L.length → (tg L j).id ≠ t.id := fun j hj e => by
    obtain ⟨g', h1, -⟩ := h.s1 j hj
    rw [e, hno] at h1
    cases h1
  refine ⟨fun j hj => ?_, fun a b ha hb => ?_, fun j hj => ?_, fun x g' hx => ?_⟩
  · by_cases e : j < L.length
    · rw [tg_app_lt L t j e]; exact h.ok j e
    · rw [show j = L.length by omega, tg_app_eq]; exact hok
  · by_cases e1 : a < L.length
    · by_cases e2 : b < L.length
      · rw [tg_app_lt L t a e1, tg_app_lt L t b e2]
        exact h.nd a b e1 e2
      · rw [tg_app_lt L t a e1, show b = L.length by omega, tg_app_eq]
        exact fun e => absurd e (hne a e1)
    · by_cases e2 : b < L.length
      · rw [tg_app_lt L t b e2, show a = L.length by omega, tg_app_eq]
        exact fun e => absurd e.symm (hne b e2)
      · intro _
        omega
  · by_cases e : j < L.length
    · rw [tg_app_lt L t j e, updElse _ _ _ _ (hne j e)]
      exact h.s1 j e
    · rw [show j = L.length by omega, tg_app_eq, updSame]
      exact ⟨g, rfl, hf⟩
  · by_cases e : x = t.id
    · exact ⟨L.length, by omega, by rw [tg_app_eq, e]⟩
    · rw [updElse _ _ _ _ e] at hx
      obtain ⟨j, hj, rfl⟩ := h.s2 x g' hx
      exact ⟨j, by omega, by rw [tg_app_lt L t j hj]⟩
theorem SdS.del {L : List Tn} {st : Int → Option Gu} (h : SdS L st) {i : Nat} (hi : i < L.length) : SdS (L.take i ++ L.drop (i + 1)) (upd st (tg L i).id none) := by
  have hlen := del_len L i hi
  refine ⟨fun j hj => ?_, fun a b ha hb => ?_, fun j hj => ?_, fun x g' hx => ?_⟩
  · rw [tg_del L i j hi]
    split
    · exact h.ok j (by omega)
    · exact h.ok (j + 1) (by omega)
  · rw [tg_del L i a hi, tg_del L i b hi]
    intro e
    split at e
    · split at e
      · exact h.nd a b (by omega) (by omega) e
      · have := h.nd a (b + 1) (by omega) (by omega) e
        omega
    · split at e
      · have := h.nd (a + 1) b (by omega) (by omega) e
        omega
      · have := h.nd (a + 1) (b + 1) (by omega) (by omega) e
        omega
  · rw [tg_del L i j hi]
    split
    · rename_i e
      rw [updElse _ _ _ _ (fun e2 => by have := h.nd j i (by omega) hi e2; omega)]
      exact h.s1 j (by omega)
    · rename_i e
      rw [updElse _ _ _ _ (fun e2 => by have := h.nd (j + 1) i (by omega) hi e2; omega)]
      exact h.s1 (j + 1) (by omega)
  · by_cases e : x = (tg L i).id
    · rw [e, updSame] at hx
      cases hx
    · rw [updElse _ _ _ _ e] at hx
      obtain ⟨j, hj, rfl⟩ := h.s2 x g' hx
      by_cases h1 : j < i
      · exact ⟨j, by omega, by rw [tg_del L i j hi, if_pos h1]⟩
      · have h2 : j ≠ i := fun e2 => e (by rw [e2])
        exact ⟨j - 1, by omega, by rw [tg_del L i (j - 1) hi, if_neg (by omega), show j - 1 + 1 = j by omega]⟩
theorem SdS.none {L : List Tn} {st : Int → Option Gu} (h : SdS L st) (x : Int) (hn : ∀ j, j < L.length → (tg L j).id ≠ x) : st x = none := by
  cases hg : st x with
  | none => rfl
  | some g =>
    obtain ⟨i, hi, e⟩ := h.s2 x g hg
    exact absurd e (hn i hi)
/-- the best of the first k: of those of p the one of the least key, then of the least number -/
def Best (p : Tn → Bool) (key : Tn → Int) (L : List Tn) (k : Nat) (b : Int) : Prop := (b = -1 ∧ ∀ j, j < k → p (tg L j) = false) ∨ ∃ i, i < k ∧ b = (i : Int) ∧ p (tg L i) = true ∧ ∀ j, j < k → p (tg L j) = true → key (tg L i) < key (tg L j) ∨ (key (tg L i) = key (tg L j) ∧ (tg L i).id ≤ (tg L j).id)
theorem best_zero (p : Tn → Bool) (key : Tn → Int) (L : List Tn) : Best p key L 0 (-1) := .inl ⟨rfl, fun j h => by omega⟩
theorem best_no {p : Tn → Bool} {key : Tn → Int} {L : List Tn} {k : Nat} {b : Int} (h : Best p key L k b) (hp : p (tg L k) = false) : Best p key L (k + 1) b := by
  rcases h with ⟨rfl, h⟩ | ⟨i, hi, rfl, h1, h2⟩
  · refine .inl ⟨rfl, fun j hj => ?_⟩
    by_cases e : j = k
    · rw [e]; exact hp
    · exact h j (by omega)
  · refine .inr ⟨i, by omega, rfl, h1, fun j hj hpj => ?_⟩
    by_cases e : j = k
    · rw [e, hp] at hpj; cases hpj
    · exact h2 j (by omega) hpj
theorem best_first {p : Tn → Bool} {key : Tn → Int} {L : List Tn} {k : Nat} (h : Best p key L k (-1)) (hp : p (tg L k) = true) : Best p key L (k + 1) (k : Int) := by
  rcases h with ⟨-, h⟩ | ⟨i, hi, e, h1, h2⟩
  · refine .inr ⟨k, by omega, rfl, hp, fun j hj hpj => ?_⟩
    by_cases e : j = k
    · rw [e]; exact .inr ⟨rfl, Int.le_refl _⟩
    · rw [h j (by omega)] at hpj; cases hpj
  · omega
theorem best_take {p : Tn → Bool} {key : Tn → Int} {L : List Tn} {k i : Nat} (h : Best p key L k (i : Int)) (hp : p (tg L k) = true) (hlt : key (tg L k) < key (tg L i) ∨ (key (tg L k) = key (tg L i) ∧ (tg L k).id < (tg L i).id)) : Best p key L (k + 1) (k : Int) := by
  rcases h with ⟨e, -⟩ | ⟨i', hi, e, h1, h2⟩
  · omega
  · obtain rfl : i = i' := by omega
    refine .inr ⟨k, by omega, rfl, hp, fun j hj hpj => ?_⟩
    by_cases e : j = k
    · rw [e]; exact .inr ⟨rfl, Int.le_refl _⟩
    · have := h2 j (by omega) hpj
      omega
theorem best_stay {p : Tn → Bool} {key : Tn → Int} {L : List Tn} {k i : Nat} (h : Best p key L k (i : Int)) (hlt : ¬ (key (tg L k) < key (tg L i) ∨ (key (tg L k) = key (tg L i) ∧ (tg L k).id < (tg L i).id))) : Best p key L (k + 1) (i : Int) := by
  rcases h with ⟨e, -⟩ | ⟨i', hi, e, h1, h2⟩
  · omega
  · obtain rfl : i = i' := by omega
    refine .inr ⟨i, by omega, rfl, h1, fun j hj hpj => ?_⟩
    by_cases e : j = k
    · rw [e]; omega
    · exact h2 j (by omega) hpj
/-- the least of the first k -/
def LeastU (L : List Tn) (k : Nat) (u : Int) : Prop := (k = 0 ∧ u = 0) ∨ ((∃ i, i < k ∧ (tg L i).us = u) ∧ ∀ j, j < k → u ≤ (tg L j).us)
theorem leastU_take {L : List Tn} {k : Nat} {u : Int} (h : LeastU L k u) (hlt : k = 0 ∨ (tg L k).us < u) : LeastU L (k + 1) (tg L k).us := by
  refine .inr ⟨⟨k, by omega, rfl⟩, fun j hj => ?_⟩
  by_cases e : j = k
  · rw [e]; exact Int.le_refl _
  · rcases h with ⟨e0, -⟩ | ⟨-, h2⟩
    · omega
    · have := h2 j (by omega)
      omega
theorem leastU_stay {L : List Tn} {k : Nat} {u : Int} (h : LeastU L k u) (h0 : k ≠ 0) (hlt : ¬ (tg L k).us < u) : LeastU L (k + 1) u := by
  rcases h with ⟨e0, -⟩ | ⟨⟨i, hi, e⟩, h2⟩
  · omega
  · refine .inr ⟨⟨i, by omega, e⟩, fun j hj => ?_⟩
    by_cases e : j = k
    · rw [e]; omega
    · exact h2 j (by omega)
theorem SdS.minU {L : List Tn} {st : Int → Option Gu} (h : SdS L st) {u : Int} (hu : LeastU L L.length u) : MinU st u := by
  rcases hu with ⟨h0, rfl⟩ | ⟨⟨i, hi, rfl⟩, h2⟩
  · exact .inl ⟨fun x _ => h.none x fun j hj => by omega, rfl⟩
  · obtain ⟨g, h3, h4⟩ := h.s1 i hi
    refine .inr ⟨⟨_, g, kw_of (by have := (h.ok i hi).1; omega), h3, h4.2.1⟩, fun x g' _ hx => ?_⟩
    obtain ⟨j, hj, rfl⟩ := h.s2 x g' hx
    obtain ⟨g2, h5, h6⟩ := h.s1 j hj
    rw [hx] at h5
    obtain rfl := Option.some.inj h5
    rw [h6.2.1]
    exact h2 j hj
theorem SdS.us {L : List Tn} {st : Int → Option Gu} (h : SdS L st) {u : Int} (hu : LeastU L L.length u) : 0 ≤ u ∧ u ≤ 1152921504606846976 := by
  rcases hu with ⟨h0, rfl⟩ | ⟨⟨i, hi, rfl⟩, h2⟩
  · omega
  · exact (h.ok i hi).2.2.1
theorem minU_uniq {st : Int → Option Gu} {u u' : Int} (h : MinU st u) (h' : MinU st u') : u = u' := by
  rcases h with ⟨h1, rfl⟩ | ⟨⟨x, g, h1, h2, rfl⟩, h3⟩
  · rcases h' with ⟨-, rfl⟩ | ⟨⟨y, g', h4, h5, -⟩, -⟩
    · rfl
    · rw [h1 y h4] at h5; cases h5
  · rcases h' with ⟨h4, -⟩ | ⟨⟨y, g', h4, h5, rfl⟩, h6⟩
    · rw [h4 x h1] at h2; cases h2
    · have := h3 y g' h4 h5
      have := h6 x g h1 h2
      omega
theorem addR_uniq {st s1 s2 : Int → Option Gu} {x wt c1 c2 : Int} (h : AddR st x wt c1 s1) (h' : AddR st x wt c2 s2) : c1 = c2 ∧ s1 = s2 := by
  rcases h with ⟨a1, a2, a3⟩ | ⟨a1, a2, a3, a4⟩ | ⟨a1, a2, a3, u, a4, a5⟩
  · rcases h' with ⟨b1, b2, b3⟩ | ⟨b1, b2, b3, b4⟩ | ⟨b1, b2, b3, u', b4, b5⟩
    · exact ⟨a2.trans b2.symm, a3.trans b3.symm⟩
    · exact absurd a1 b1
    · exact absurd a1 b1
  · rcases h' with ⟨b1, b2, b3⟩ | ⟨b1, b2, b3, b4⟩ | ⟨b1, b2, b3, u', b4, b5⟩
    · exact absurd b1 a1
    · exact ⟨a3.trans b3.symm, a4.trans b4.symm⟩
    · rw [b2] at a2; cases a2
  · rcases h' with ⟨b1, b2, b3⟩ | ⟨b1, b2, b3, b4⟩ | ⟨b1, b2, b3, u', b4, b5⟩
    · exact absurd b1 a1
    · rw [a2] at b2; cases b2
    · rw [minU_uniq a4 b4] at a5
      exact ⟨a3.trans b3.symm, a5.trans b5.symm⟩
theorem woke_uniq {st s1 s2 : Int → Option Gu} {now : Int} {l1 l2 : List Int} (h : Woke st now l1 s1) (h' : Woke st now l2 s2) : l1 = l2 ∧ s1 = s2 := by
  have a := woke_spec h
  have b := woke_spec h'
  have e : l1 = l2 := sorted_uniq (wkLt st) (wkLt_asym st) l1 l2 a.sorted b.sorted fun x => by rw [a.mem, b.mem]
  subst e
  refine ⟨rfl, funext fun x => ?_⟩
  by_cases hx : x ∈ l1
  · obtain ⟨g, h1, h2⟩ := a.woken x hx
    obtain ⟨g', h3, h4⟩ := b.woken x hx
    rw [h1] at h3
    rw [h2, h4, Option.some.inj h3]
  · rw [a.same x hx, b.same x hx]
def pkP (t : Tn) : Bool := !t.sl
def wkP (now : Int) (t : Tn) : Bool := t.sl && decide (t.un ≤ now)
/-- whose turn it is: -1: nobody's -/
def PickN (st : Int → Option Gu) (m : Int) : Prop := ((∀ x g, st x = some g → g.sl = true) ∧ m = -1) ∨ ∃ g, st m = some g ∧ g.sl = false ∧ 0 ≤ m ∧ ∀ y g', st y = some g' → g'.sl = false → g.us < g'.us ∨ (g.us = g'.us ∧ m ≤ y)
theorem SdS.pickNone {L : List Tn} {st : Int → Option Gu} (h : SdS L st) (hb : Best pkP Tn.us L L.length (-1)) : PickN st (-1) := by
  rcases hb with ⟨-, hb⟩ | ⟨i, -, e, -⟩
  · refine .inl ⟨fun x g hx => ?_, rfl⟩
    obtain ⟨j, hj, rfl⟩ := h.s2 x g hx
    obtain ⟨g2, h5, h6⟩ := h.s1 j hj
    rw [hx] at h5
    obtain rfl := Option.some.inj h5
    rw [h6.2.2.1]
    have := hb j hj
    unfold pkP at this
    simpa using this
  · omega
theorem SdS.pickSome {L : List Tn} {st : Int → Option Gu} (h : SdS L st) {i : Nat} (hb : Best pkP Tn.us L L.length (i : Int)) : i < L.length ∧ PickN st (tg L i).id := by
  rcases hb with ⟨e, -⟩ | ⟨i', hi, e, h1, h2⟩
  · omega
  · obtain rfl : i = i' := by omega
    obtain ⟨g, h3, h4⟩ := h.s1 i hi
    refine ⟨hi, .inr ⟨g, h3, ?_, (h.ok i hi).1.1, fun y g' hy hsl => ?_⟩⟩
    · rw [h4.2.2.1]
      unfold pkP at h1
      simpa using h1
    · obtain ⟨j, hj, rfl⟩ := h.s2 y g' hy
      obtain ⟨g2, h5, h6⟩ := h.s1 j hj
      rw [hy] at h5
      obtain rfl := Option.some.inj h5
      have := h2 j hj (by unfold pkP; rw [← h6.2.2.1, hsl]; rfl)
      rw [h4.2.1, h6.2.1]
      exact this
theorem pickN_Q {st : Int → Option Gu} {m : Int} {v : Value} (h : PickN st m) (h' : PickQ st v) : (m = -1 ∧ v = .tuple #[.int .i64 0, .bool false]) ∨ (0 ≤ m ∧ v = .tuple #[.int .i64 m, .bool true]) := by
  rcases h with ⟨h1, rfl⟩ | ⟨g, hg, hsl, h0, hmin⟩
  · rcases h' with ⟨-, h2⟩ | ⟨y, g', hg', hsl', -, -⟩
    · exact .inl ⟨rfl, h2⟩
    · rw [h1 y g' hg'] at hsl'; cases hsl'
  · rcases h' with ⟨h1, -⟩ | ⟨y, g', hg', hsl', hmin', hv'⟩
    · rw [h1 m g hg] at hsl; cases hsl
    · have h3 := hmin y g' hg' hsl'
      have h4 := hmin' m g hg hsl
      have : m = y := by omega
      exact .inr ⟨h0, by rw [hv', this]⟩
theorem SdS.wokeDone {L : List Tn} {st : Int → Option Gu} (h : SdS L st) {now : Int} (hb : Best (wkP now) Tn.un L L.length (-1)) : Woke st now [] st := by
  rcases hb with ⟨-, hb⟩ | ⟨i, -, e, -⟩
  · refine .done st now fun x g hx hsl => ?_
    obtain ⟨j, hj, rfl⟩ := h.s2 x g hx
    obtain ⟨g2, h5, h6⟩ := h.s1 j hj
    rw [hx] at h5
    obtain rfl := Option.some.inj h5
    have := hb j hj
    have hs : (tg L j).sl = true := by rw [← h6.2.2.1]; exact hsl
    unfold wkP at this
    rw [hs, Bool.true_and, decide_eq_false_iff_not] at this
    rw [h6.2.2.2 hs]
    omega
  · omega
theorem SdS.wokeStep {L : List Tn} {st : Int → Option Gu} (h : SdS L st) {now : Int} {i : Nat} (hb : Best (wkP now) Tn.un L L.length (i : Int)) :
    i < L.length ∧ ∃ g, st (tg L i).id = some g ∧ SdS (L.set i { tg L i with sl := false }) (upd st (tg L i).id (some ⟨g.wt, g.us, false, 0⟩)) ∧ ∀ l st', Woke (upd st (tg L i).id (some ⟨g.wt, g.us, false, 0⟩)) now l st' → Woke st now ((tg L i).id :: l) st' := by
  rcases hb with ⟨e, -⟩ | ⟨i', hi, e, h1, h2⟩
  · omega
  · obtain rfl : i = i' := by omega
    obtain ⟨g, h3, h4⟩ := h.s1 i hi
    unfold wkP at h1
    rw [Bool.and_eq_true, decide_eq_true_eq] at h1
    have hun := h4.2.2.2 h1.1
    refine ⟨hi, g, h3, h.set hi { tg L i with sl := false } rfl (h.ok i hi) ⟨g.wt, g.us, false, 0⟩ ⟨h4.1, h4.2.1, rfl, fun e => by cases e⟩, fun l st' hw => .step st st' now _ g l h3 (by rw [h4.2.2.1]; exact h1.1) (by rw [hun]; exact h1.2) (fun y g' hy hsl => ?_) hw⟩
    obtain ⟨j, hj, rfl⟩ := h.s2 y g' hy
    obtain ⟨g2, h5, h6⟩ := h.s1 j hj
    rw [hy] at h5
    obtain rfl := Option.some.inj h5
    have hs : (tg L j).sl = true := by rw [← h6.2.2.1]; exact hsl
    rw [hun, h6.2.2.2 hs]
    by_cases hn : (tg L j).un ≤ now
    · exact h2 j hj (by unfold wkP; rw [hs, Bool.true_and, decide_eq_true_eq]; exact hn)
    · omega
/-- a number put into those that rise -/
def putL (l : List Int) (k : Nat) (n : Int) : List Int := if k < l.length ∧ l.getD k 0 = n then l else l.take k ++ [n] ++ l.drop k
def PutK (l : List Int) (n : Int) (k : Nat) : Prop := k ≤ l.length ∧ (∀ j, j < k → l.getD j 0 < n) ∧ (k < l.length → n ≤ l.getD k 0)
theorem getD_at {l : List Int} {i : Nat} (h : i < l.length) : l.getD i 0 = l[i] := by
  rw [List.getD_eq_getElem?_getD, List.getElem?_eq_getElem h]
  rfl
theorem putL_mem {l : List Int} {n : Int} {k : Nat} (x : Int) : x ∈ putL l k n ↔ x ∈ l ∨ x = n := by
  unfold putL
  split
  · rename_i hc
    constructor
    · exact .inl
    · rintro (h | h)
      · exact h
      · rw [h, ← hc.2, getD_at hc.1]
        exact List.getElem_mem _
  · rw [List.mem_append, List.mem_append, List.mem_singleton]
    have e : x ∈ l ↔ x ∈ l.take k ∨ x ∈ l.drop k := by
      rw [← List.mem_append, List.take_append_drop]
    rw [e]
    constructor
    · rintro ((h | h) | h)
      · exact .inl (.inl h)
      · exact .inr h
      · exact .inl (.inr h)
    · rintro ((h | h) | h)
      · exact .inl (.inl h)
      · exact .inr h
      · exact .inl (.inr h)
theorem putL_sorted {l : List Int} {n : Int} {k : Nat} (hs : l.Pairwise (· < ·)) (h : PutK l n k) : (putL l k n).Pairwise (· < ·) := by
  unfold putL
  split
  · exact hs
  · rename_i hc
    obtain ⟨h1, h2, h3⟩ := h
    have hs2 : (l.take k ++ l.drop k).Pairwise (· < ·) := by rw [List.take_append_drop]; exact hs
    obtain ⟨p1, p2, p3⟩ := List.pairwise_append.1 hs2
    have hlt : ∀ x ∈ l.take k, x < n := fun x hx => by
      obtain ⟨j, hj, rfl⟩ := List.getElem_of_mem hx
      rw [List.length_take] at hj
      rw [List.getElem_take, ← getD_at (by omega)]
      exact h2 j (by omega)
    have hgt : ∀ x ∈ l.drop k, n < x := fun x hx => by
      obtain ⟨j, hj, rfl⟩ := List.getElem_of_mem hx
      have hj2 := hj
      rw [List.length_drop] at hj2
      have h4 : n < l.getD k 0 := by
        have := h3 (by omega)
        have h5 : ¬ l.getD k 0 = n := fun e => hc ⟨by omega, e⟩
        omega
      rw [List.getElem_drop]
      by_cases e : j = 0
      · subst e
        rw [getD_at (by omega)] at h4
        exact h4
      · have h6 := List.pairwise_iff_getElem.1 hs k (k + j) (by omega) (by omega) (by omega)
        rw [getD_at (by omega)] at h4
        omega
    rw [List.append_assoc, List.pairwise_append]
    refine ⟨p1, ?_, fun a ha b hb => ?_⟩
    · rw [List.singleton_append, List.pairwise_cons]
      exact ⟨hgt, p2⟩
    · rw [List.singleton_append, List.mem_cons] at hb
      rcases hb with rfl | hb
      · exact hlt a ha
      · exact p3 a ha b hb
theorem putL_len {l : List Int} {n : Int} {k : Nat} : (putL l k n).length ≤ l.length + 1 := by
  unfold putL
  split
  · omega
  · rw [List.length_append, List.length_append, List.length_take, List.length_drop, List.length_singleton]
    omega
/-- those of the first k that are awake, rising -/
def RdP (L : List Tn) (k : Nat) (xs : List Int) : Prop := xs.Pairwise (· < ·) ∧ xs.length ≤ k ∧ ∀ x, x ∈ xs ↔ ∃ j, j < k ∧ (tg L j).sl = false ∧ (tg L j).id = x
theorem rdP_zero (L : List Tn) : RdP L 0 [] := ⟨List.Pairwise.nil, Nat.le_refl _, fun x => ⟨fun h => by simp at h, fun ⟨j, h, _⟩ => by omega⟩⟩
theorem rdP_no {L : List Tn} {k : Nat} {xs : List Int} (h : RdP L k xs) (hs : (tg L k).sl = true) : RdP L (k + 1) xs := by
  obtain ⟨h1, h2, h3⟩ := h
  refine ⟨h1, by omega, fun x => (h3 x).trans ⟨fun ⟨j, a, b⟩ => ⟨j, by omega, b⟩, fun ⟨j, a, b, c⟩ => ?_⟩⟩
  by_cases e : j = k
  · rw [e, hs] at b; cases b
  · exact ⟨j, by omega, b, c⟩
theorem rdP_yes {L : List Tn} {k : Nat} {xs : List Int} (h : RdP L k xs) (hs : (tg L k).sl = false) {q : Nat} (hq : PutK xs (tg L k).id q) : RdP L (k + 1) (putL xs q (tg L k).id) := by
  obtain ⟨h1, h2, h3⟩ := h
  refine ⟨putL_sorted h1 hq, Nat.le_trans putL_len (by omega), fun x => ?_⟩
  rw [putL_mem, h3]
  constructor
  · rintro (⟨j, a, b⟩ | rfl)
    · exact ⟨j, by omega, b⟩
    · exact ⟨k, by omega, hs, rfl⟩
  · rintro ⟨j, a, b, c⟩
    by_cases e : j = k
    · right; rw [← c, e]
    · exact .inl ⟨j, by omega, b, c⟩
theorem SdS.ready {L : List Tn} {st : Int → Option Gu} (h : SdS L st) {xs : List Int} (hx : RdP L L.length xs) : xs = rdL st := by
  obtain ⟨h1, -, h3⟩ := hx
  refine sorted_uniq (· < ·) int_asym _ _ h1 (rdL_sorted st) fun x => ?_
  rw [h3, mem_rdL]
  constructor
  · rintro ⟨j, hj, a, rfl⟩
    obtain ⟨g, h4, h5⟩ := h.s1 j hj
    exact ⟨(h.ok j hj).1, g, h4, by rw [h5.2.2.1]; exact a⟩
  · rintro ⟨-, g, a, b⟩
    obtain ⟨j, hj, rfl⟩ := h.s2 x g a
    obtain ⟨g2, h5, h6⟩ := h.s1 j hj
    rw [a] at h5
    obtain rfl := Option.some.inj h5
    exact ⟨j, hj, by rw [← h6.2.2.1]; exact b, rfl⟩
end Go.Proofs.YtnhocmmgdkiepaaDoor

/-
  facadeworld.Number: any number as one from 0 to below a bound.
-/
namespace Go.Proofs.YtnhocmmgdkiepaaDoor
open Go.RowKit

set_option maxHeartbeats 400000 in
theorem number_any (n m : Int) (w : World) (h1 : -9223372036854775808 ≤ n) (h2 : n ≤ 9223372036854775807) (hm : 0 < m) (hm2 : m ≤ 1000000000) :
    Calls Tryd.prog 13 #[.int .i64 n, .int .i64 m] w fun e w' => e = .returned (.int .i64 (n % m)) ∧ w = w' := by
  by_cases hn : 0 ≤ n
  · have h3 := Int.emod_nonneg n (show m ≠ 0 by omega)
    have h4 : ¬ n % m < 0 := by omega
    go_enter Tryd.func13, Tryd.ntmps13
    go_wp2
    go_ret
    exact ⟨rfl, rfl⟩
  · obtain ⟨h3, h4, h5, h6⟩ := emod_of_tmod (show n < 0 by omega) hm
    obtain ⟨t, ht⟩ : ∃ t, n.tmod m = t := ⟨_, rfl⟩
    rw [ht] at h3 h4 h5 h6
    have H3 := Lib.hid h3
    have H4 := Lib.hid h4
    have hw := IntWalk.i64_in (t + m) (by omega)
    clear h3 h4
    by_cases hlt : t < 0
    · go_enter Tryd.func13, Tryd.ntmps13
      go_wp2
      go_ret
      exact ⟨by rw [← H3.out hlt]; rfl, rfl⟩
    · go_enter Tryd.func13, Tryd.ntmps13
      go_wp2
      go_ret
      exact ⟨by rw [← H4.out hlt]; rfl, rfl⟩
end Go.Proofs.YtnhocmmgdkiepaaDoor

/-
  One scheduler, step by step; the chapter's examples.
-/
namespace Go.Proofs.YtnhocmmgdkiepaaDoor
open Go.RowKit

structure ScL (w wr : World) (sb m : Nat) (st : Int → Option Gu) : Prop where
  sc : ScAt wr (fun b => w.heap.size ≤ b) sb m st
  b : Below w.heap.size w wr
theorem ScL.below {w wr w' : World} {sb m : Nat} {st : Int → Option Gu} (h : ScL w wr sb m st) (hb : Below wr.heap.size wr w') : ScL w w' sb m st := ⟨h.sc.below hb, h.b.trans (hb.mono h.b.size)⟩
theorem ScL.step {w wr w' : World} {sb m m' : Nat} {st st' : Int → Option Gu} (h : ScL w wr sb m st) (h1 : ScAt w' (fun b => w.heap.size ≤ b ∨ wr.heap.size ≤ b) sb m' st') (ho : Only (fun b => w.heap.size ≤ b) wr w') : ScL w w' sb m' st' :=
  ⟨h1.mono fun b _ hb => by
    rcases hb with hb | hb
    · exact hb
    · exact Nat.le_trans h.b.size hb, h.b.trans (ho.below (B := w.heap.size) h.b.size fun _ h => h)⟩
theorem scErr_of {E : Nat → Addr} {w : World} {l : List Nat} (h : ErrsAt errT gOf w E l) (h2 : 2 ∈ l) (h5 : 5 ∈ l) (h6 : 6 ∈ l) : ScErr E w := by
  have a := (h.1 2 h2).1
  have b := (h.1 5 h5).1
  have c := (h.1 6 h6).1
  exact ⟨⟨a, World.block_lt_of_cell? _ _ a⟩, ⟨b, World.block_lt_of_cell? _ _ b⟩, c, World.block_lt_of_cell? _ _ c⟩
theorem errD_num (E : Nat → Addr) (c : Int) (h : c = 0 ∨ (101 ≤ c ∧ c ≤ 116)) : errNum (errD E c) E c := by
  unfold errD errNum
  by_cases h0 : c = 0
  · rw [if_pos h0]
    exact .inl ⟨rfl, h0⟩
  · rw [if_neg h0]
    exact .inr ⟨(c - 101).toNat, by omega, rfl, by omega⟩
def ErrL (E : Nat → Addr) (w : World) : Prop := ∀ wx, Below w.heap.size w wx → ScErr E wx
theorem addR_ok {st st' : Int → Option Gu} {x wt c : Int} (h : AddR st x wt c st') (hb : ¬ addBad x wt) (hn : st x = none) : c = 0 ∧ ∃ u, MinU st u ∧ st' = upd st x (some ⟨wt, u, false, 0⟩) := by
  rcases h with ⟨h1, -⟩ | ⟨-, h1, -⟩ | ⟨-, -, h1, h2⟩
  · exact absurd h1 hb
  · rw [hn] at h1; cases h1
  · exact ⟨h1, h2⟩
theorem slNew (w wr : World) (hb : Below w.heap.size w wr) : Calls Tryd.prog 14 #[] wr fun e w' => ∃ sb, e = .returned (.pointer (some ⟨sb, 0, none⟩)) ∧ ScL w w' sb 0 noOne :=
  (snew_any wr).mono fun e w' ⟨sb, h1, h2, _, h4⟩ => ⟨sb, h1, h2.mono fun b _ hb2 => Nat.le_trans hb.size hb2, hb.trans (h4.mono hb.size)⟩
theorem slAdd {E : Nat → Addr} {w wr : World} {sb m : Nat} {st : Int → Option Gu} (hE : ErrL E w) (h : ScL w wr sb m st) (hm : m < 100) (x wt : Int) (hb : ¬ addBad x wt) (hn : st x = none) :
    Calls Tryd.prog 15 #[.pointer (some ⟨sb, 0, none⟩), .int .i64 x, .int .i64 wt] wr fun e w' => e = .returned .nilIface ∧ ∃ u, MinU st u ∧ ScL w w' sb (m + 1) (upd st x (some ⟨wt, u, false, 0⟩)) :=
  (sadd_any E wr _ sb m st h.sc (hE _ h.b) x wt hm).mono fun e w' ⟨c, st', h1, h2, h3, h4⟩ => by
    obtain ⟨rfl, u, hu, rfl⟩ := addR_ok h2 hb hn
    exact ⟨h1, u, hu, h.step h3 h4⟩
theorem slAddErr {E : Nat → Addr} {w wr : World} {sb m : Nat} {st : Int → Option Gu} (hE : ErrL E w) (h : ScL w wr sb m st) (hm : m < 100) (x wt : Int) (c : Int) (hc : (addBad x wt ∧ c = 103) ∨ (¬ addBad x wt ∧ (st x).isSome = true ∧ c = 106)) :
    Calls Tryd.prog 15 #[.pointer (some ⟨sb, 0, none⟩), .int .i64 x, .int .i64 wt] wr fun e w' => e = .returned (errD E c) ∧ ScL w w' sb (m + 1) st :=
  (sadd_any E wr _ sb m st h.sc (hE _ h.b) x wt hm).mono fun e w' ⟨c', st', h1, h2, h3, h4⟩ => by
    have : c' = c ∧ st' = st := by
      rcases hc with ⟨a, b⟩ | ⟨a, b, d⟩
      · rcases h2 with ⟨_, e1, e2⟩ | ⟨e0, -⟩ | ⟨e0, -⟩
        · exact ⟨e1.trans b.symm, e2⟩
        · exact absurd a e0
        · exact absurd a e0
      · rcases h2 with ⟨e0, -⟩ | ⟨_, _, e1, e2⟩ | ⟨_, e0, -⟩
        · exact absurd e0 a
        · exact ⟨e1.trans d.symm, e2⟩
        · rw [e0] at b; cases b
    obtain ⟨rfl, rfl⟩ := this
    exact ⟨h1, h.step h3 h4⟩
theorem slRan {E : Nat → Addr} {w wr : World} {sb m : Nat} {st : Int → Option Gu} (hE : ErrL E w) (h : ScL w wr sb m st) (x n : Int) (hx : kw x) (g : Gu) (hg : st x = some g) (hn : 0 ≤ n ∧ n ≤ 1073741824) :
    Calls Tryd.prog 16 #[.pointer (some ⟨sb, 0, none⟩), .int .i64 x, .int .i64 n] wr fun e w' => e = .returned .nilIface ∧ ScL w w' sb m (upd st x (some ⟨g.wt, ranU g.us n g.wt, g.sl, g.un⟩)) :=
  (sran_any E wr _ sb m st h.sc (hE _ h.b) x n hx).mono fun e w' ⟨h1, h3, h4⟩ => by
    have hr : scRan st x n = (upd st x (some ⟨g.wt, ranU g.us n g.wt, g.sl, g.un⟩), 0) := by unfold scRan; rw [hg]; dsimp only; rw [if_neg (by omega)]
    rw [hr] at h1 h3
    exact ⟨h1, h.step h3 h4⟩
theorem slRanErr {E : Nat → Addr} {w wr : World} {sb m : Nat} {st : Int → Option Gu} (hE : ErrL E w) (h : ScL w wr sb m st) (x n : Int) (hx : kw x) (c : Int) (hc : scRan st x n = (st, c)) :
    Calls Tryd.prog 16 #[.pointer (some ⟨sb, 0, none⟩), .int .i64 x, .int .i64 n] wr fun e w' => e = .returned (errD E c) ∧ ScL w w' sb m st :=
  (sran_any E wr _ sb m st h.sc (hE _ h.b) x n hx).mono fun e w' ⟨h1, h3, h4⟩ => by
    rw [hc] at h1 h3
    exact ⟨h1, h.step h3 h4⟩
theorem slDel {E : Nat → Addr} {w wr : World} {sb m : Nat} {st : Int → Option Gu} (hE : ErrL E w) (h : ScL w wr sb m st) (x : Int) (hx : kw x) (g : Gu) (hg : st x = some g) :
    Calls Tryd.prog 18 #[.pointer (some ⟨sb, 0, none⟩), .int .i64 x] wr fun e w' => e = .returned .nilIface ∧ ScL w w' sb m (upd st x none) :=
  (sdel_any E wr _ sb m st h.sc (hE _ h.b) x hx).mono fun e w' ⟨h1, h3, h4⟩ => by
    have hr : scDel st x = (upd st x none, 0) := by unfold scDel; rw [hg]
    rw [hr] at h1 h3
    exact ⟨h1, h.step h3 h4⟩
theorem slSleep {E : Nat → Addr} {w wr : World} {sb m : Nat} {st : Int → Option Gu} (hE : ErrL E w) (h : ScL w wr sb m st) (x n : Int) (hx : kw x) (hn : kw n) (g : Gu) (hg : st x = some g) :
    Calls Tryd.prog 20 #[.pointer (some ⟨sb, 0, none⟩), .int .i64 x, .int .i64 n] wr fun e w' => e = .returned .nilIface ∧ ScL w w' sb m (upd st x (some ⟨g.wt, g.us, true, n⟩)) :=
  (ssleep_any E wr _ sb m st h.sc (hE _ h.b) x n hx hn).mono fun e w' ⟨h1, h3, h4⟩ => by
    have hr : scSleep st x n = (upd st x (some ⟨g.wt, g.us, true, n⟩), 0) := by unfold scSleep; rw [hg]
    rw [hr] at h1 h3
    exact ⟨h1, h.step h3 h4⟩
theorem minU_no {u : Int} (h : MinU noOne u) : u = 0 := by
  rcases h with ⟨-, h⟩ | ⟨⟨x, g, -, h, -⟩, -⟩
  · exact h
  · cases h
theorem upd_same (st : Int → Option Gu) (x : Int) (g : Option Gu) : upd st x g x = g := if_pos rfl
theorem upd_else (st : Int → Option Gu) (x y : Int) (g : Option Gu) (h : y ≠ x) : upd st x g y = st y := if_neg h
theorem kw_lit (x : Int) (h : -1000 ≤ x ∧ x ≤ 1000) : kw x := kw_of (by omega)
theorem pick_no {v : Value} (h : PickQ noOne v) : v = .tuple #[.int .i64 0, .bool false] := by
  rcases h with ⟨-, h⟩ | ⟨x, g, h, -⟩
  · exact h
  · cases h
theorem pick_one {v : Value} {x : Int} {g : Gu} (hg : g.sl = false) (h : PickQ (upd noOne x (some g)) v) : v = .tuple #[.int .i64 x, .bool true] := by
  rcases h with ⟨h, -⟩ | ⟨y, g', h, -, -, hv⟩
  · have := h x g (upd_same _ _ _)
    rw [hg] at this; cases this
  · by_cases e : y = x
    · rw [hv, e]
    · rw [upd_else _ _ _ _ e] at h; cases h
set_option maxRecDepth 100000 in
set_option maxHeartbeats 3200000 in
theorem scfirst_true (E : Nat → Addr) (w : World) (hE : ErrL E w) :
    Calls Tryd.prog 12 #[] w fun e w' => e = .returned (.bool true) ∧ Below w.heap.size w w' := by
  have HE := Lib.hid hE
  have HN := Lib.hid (slNew w w (Below.refl _ _))
  clear hE
  go_enter Tryd.func12, Tryd.ntmps12
  go_wp2_with fail
  refine HN.out.mono ?_
  rintro y w1 ⟨sb, rfl, h1⟩
  have H1 := Lib.hid h1
  have HP1 := Lib.hid (spick_any w1 _ sb 0 noOne h1.sc)
  clear h1
  go_wp2_with fail
  refine HP1.out.mono ?_
  rintro y w2 ⟨⟨v, rfl, hv⟩, rfl⟩
  obtain rfl := pick_no hv
  have HA := Lib.hid (slAdd HE.out H1.out (by decide) 3 10 (by unfold addBad; omega) rfl)
  clear hv
  go_wp2_with fail
  refine HA.out.mono ?_
  rintro y w2 ⟨rfl, u, hu, h2⟩
  obtain rfl := minU_no hu
  have H2 := Lib.hid h2
  have HP2 := Lib.hid (spick_any w2 _ sb _ _ h2.sc)
  clear hu h2
  go_wp2_with fail
  refine HP2.out.mono ?_
  rintro y w3 ⟨⟨v, rfl, hv⟩, rfl⟩
  obtain rfl := pick_one rfl hv
  clear hv
  go_wp2
  go_ret
  exact ⟨rfl, H2.out.b⟩
end Go.Proofs.YtnhocmmgdkiepaaDoor

/-
  SchedSleeps: plain laws.
-/
namespace Go.Proofs.YtnhocmmgdkiepaaDoor
open Go.RowKit

def slD (l : List Int) (x : Int) : Int := (l.getD x.toNat 0) % 20
theorem slD_range (l : List Int) (x : Int) : 0 ≤ slD l x ∧ slD l x < 20 := by unfold slD; omega
def slSt (l : List Int) (k : Nat) : Int → Option Gu := fun x => if 0 ≤ x ∧ x < (k : Int) then some ⟨10, 0, true, slD l x⟩ else none
theorem slSt_zero (l : List Int) : noOne = slSt l 0 := by
  funext x
  unfold slSt
  rw [if_neg (by omega)]
  rfl
theorem slSt_in (l : List Int) (k : Nat) (x : Int) (h : 0 ≤ x ∧ x < (k : Int)) : slSt l k x = some ⟨10, 0, true, slD l x⟩ := if_pos h
theorem slSt_out (l : List Int) (k : Nat) (x : Int) (h : ¬ (0 ≤ x ∧ x < (k : Int))) : slSt l k x = none := if_neg h
theorem slSt_some (l : List Int) (k : Nat) (x : Int) (g : Gu) (h : slSt l k x = some g) : (0 ≤ x ∧ x < (k : Int)) ∧ g = ⟨10, 0, true, slD l x⟩ := by
  by_cases hx : 0 ≤ x ∧ x < (k : Int)
  · rw [slSt_in l k x hx] at h
    exact ⟨hx, (Option.some.inj h).symm⟩
  · rw [slSt_out l k x hx] at h
    cases h
theorem slSt_add (l : List Int) (k : Nat) : upd (slSt l k) (k : Int) (some ⟨10, 0, true, slD l (k : Int)⟩) = slSt l (k + 1) := by
  funext x
  by_cases h : x = (k : Int)
  · rw [h, updSame, slSt_in _ _ _ (by omega)]
  · rw [updElse _ _ _ _ h]
    by_cases h2 : 0 ≤ x ∧ x < (k : Int)
    · rw [slSt_in _ _ _ h2, slSt_in _ _ _ (by omega)]
    · rw [slSt_out _ _ _ h2, slSt_out _ _ _ (by omega)]
theorem slSt_minU {l : List Int} {k : Nat} {u : Int} (h : MinU (slSt l k) u) : u = 0 := by
  rcases h with ⟨-, hu⟩ | ⟨⟨x, g, -, hg, e⟩, -⟩
  · exact hu
  · obtain ⟨-, rfl⟩ := slSt_some l k x g hg
    exact e.symm
def idx (n : Nat) : List Int := (List.range n).map Int.ofNat
theorem mem_idx (n : Nat) (x : Int) : x ∈ idx n ↔ (0 ≤ x ∧ x < (n : Int)) := by
  unfold idx
  rw [List.mem_map]
  constructor
  · rintro ⟨i, hi, rfl⟩
    have := List.mem_range.1 hi
    exact ⟨Int.natCast_nonneg i, by show (i : Int) < _; omega⟩
  · rintro ⟨h0, h1⟩
    exact ⟨x.toNat, List.mem_range.2 (by omega), by show ((x.toNat : Nat) : Int) = x; omega⟩
theorem idx_succ (n : Nat) : idx (n + 1) = idx n ++ [(n : Int)] := by
  unfold idx
  rw [List.range_succ, List.map_append]
  rfl
theorem idx_sorted (n : Nat) : (idx n).Pairwise (· < ·) := by
  unfold idx
  rw [List.pairwise_map]
  exact List.pairwise_lt_range.imp fun h => by show ((_ : Nat) : Int) < ((_ : Nat) : Int); omega
/-- at one time, the first i -/
def wnI (l : List Int) (t : Int) (i : Nat) : List Int := (idx i).filter fun x => decide (slD l x = t)
/-- at the first t times -/
def wnT (l : List Int) (n t : Nat) : List Int := (List.range t).flatMap fun j : Nat => wnI l (j : Int) n
theorem wnI_yes (l : List Int) (t : Int) (i : Nat) (h : slD l (i : Int) = t) : wnI l t (i + 1) = wnI l t i ++ [(i : Int)] := by
  unfold wnI
  rw [idx_succ, List.filter_append]
  simp [h]
theorem wnI_no (l : List Int) (t : Int) (i : Nat) (h : ¬ slD l (i : Int) = t) : wnI l t (i + 1) = wnI l t i := by
  unfold wnI
  rw [idx_succ, List.filter_append]
  simp [h]
theorem wnI_len (l : List Int) (t : Int) (i : Nat) : (wnI l t i).length ≤ i := by
  have h := List.length_filter_le (fun x => decide (slD l x = t)) (idx i)
  have h2 : (idx i).length = i := by unfold idx; rw [List.length_map, List.length_range]
  unfold wnI
  omega
theorem wnT_succ (l : List Int) (n t : Nat) : wnT l n (t + 1) = wnT l n t ++ wnI l (t : Int) n := by
  unfold wnT
  rw [List.range_succ, List.flatMap_append]
  simp
theorem wnT_len (l : List Int) (n t : Nat) : (wnT l n t).length ≤ n * t := by
  induction t with
  | zero => simp [wnT]
  | succ t ih =>
    rw [wnT_succ, List.length_append, Nat.mul_succ]
    have := wnI_len l (t : Int) n
    omega
theorem mem_wnT (l : List Int) (n t : Nat) (x : Int) : x ∈ wnT l n t ↔ (0 ≤ x ∧ x < (n : Int)) ∧ slD l x < (t : Int) := by
  have hr := slD_range l x
  unfold wnT wnI
  rw [List.mem_flatMap]
  constructor
  · rintro ⟨j, hj, hx⟩
    rw [List.mem_filter, mem_idx] at hx
    have h1 := List.mem_range.1 hj
    have h2 := of_decide_eq_true hx.2
    exact ⟨hx.1, by omega⟩
  · rintro ⟨h1, h2⟩
    refine ⟨(slD l x).toNat, List.mem_range.2 (by omega), ?_⟩
    rw [List.mem_filter, mem_idx]
    exact ⟨h1, decide_eq_true (by omega)⟩
theorem wnT_sorted (l : List Int) (n t : Nat) : (wnT l n t).Pairwise (wkLt (slSt l n)) := by
  unfold wnT
  rw [List.pairwise_flatMap]
  have hm : ∀ (j : Nat) (x : Int), x ∈ wnI l (j : Int) n → unO (slSt l n) x = (j : Int) := fun j x hx => by
    unfold wnI at hx
    rw [List.mem_filter, mem_idx] at hx
    unfold unO
    rw [slSt_in l n x hx.1]
    exact of_decide_eq_true hx.2
  refine ⟨fun j _ => ?_, List.pairwise_lt_range.imp fun {a b} hab x hx y hy => .inl (by rw [hm a x hx, hm b y hy]; omega)⟩
  refine ((idx_sorted n).filter _).imp_of_mem fun {a b} ha hb h => .inr ⟨?_, h⟩
  rw [hm j a ha, hm j b hb]
theorem sleeps_got {l : List Int} {n t : Nat} {lw : List Int} {st' : Int → Option Gu} (h : Woke (slSt l n) (t : Int) lw st') : lw = wnT l n (t + 1) := by
  have hs := woke_spec h
  refine sorted_uniq (wkLt (slSt l n)) (wkLt_asym _) _ _ hs.sorted (wnT_sorted l n (t + 1)) fun x => ?_
  rw [hs.mem, mem_wnT]
  constructor
  · rintro ⟨g, h1, h2, h3⟩
    obtain ⟨h4, rfl⟩ := slSt_some l n x g h1
    dsimp only at h3
    exact ⟨h4, by omega⟩
  · rintro ⟨h1, h2⟩
    exact ⟨_, slSt_in l n x h1, rfl, by show slD l x ≤ _; omega⟩
theorem sleeps_awake {l : List Int} {n t : Nat} {lw : List Int} {st' : Int → Option Gu} (h : Woke (slSt l n) (t : Int) lw st') (x : Int) (g : Gu) (hg : st' x = some g) (hsl : g.sl = false) : x ∈ lw ∧ g.us = 0 := by
  have hs := woke_spec h
  by_cases hx : x ∈ lw
  · obtain ⟨g', h1, h2⟩ := hs.woken x hx
    rw [hg] at h2
    obtain ⟨-, rfl⟩ := slSt_some l n x g' h1
    exact ⟨hx, by rw [Option.some.inj h2]⟩
  · rw [hs.same x hx] at hg
    obtain ⟨-, rfl⟩ := slSt_some l n x g hg
    cases hsl
theorem sleeps_in {l : List Int} {n t : Nat} {lw : List Int} {st' : Int → Option Gu} (h : Woke (slSt l n) (t : Int) lw st') (x : Int) (hx : x ∈ lw) : st' x = some ⟨10, 0, false, 0⟩ := by
  obtain ⟨g', h1, h2⟩ := (woke_spec h).woken x hx
  obtain ⟨-, rfl⟩ := slSt_some l n x g' h1
  exact h2
theorem sleeps_again {l lw l2 : List Int} {n t : Nat} {st' st2 : Int → Option Gu} (h : Woke (slSt l n) (t : Int) lw st') (h2 : Woke st' (t : Int) l2 st2) : l2 = [] ∧ st2 = st' := by
  cases h2 with
  | done _ _ _ => exact ⟨rfl, rfl⟩
  | step _ _ _ x g l2 hg hs hu hf _ =>
    have hs1 := woke_spec h
    by_cases hx : x ∈ lw
    · rw [sleeps_in h x hx] at hg
      rw [← Option.some.inj hg] at hs
      cases hs
    · have hg2 := hg
      rw [hs1.same x hx] at hg2
      exact absurd ((hs1.mem x).2 ⟨g, hg2, hs, hu⟩) hx
theorem sleeps_ready {l lw : List Int} {n t : Nat} {st' : Int → Option Gu} (h : Woke (slSt l n) (t : Int) lw st') (hn : n ≤ 8) : (rdL st').length = lw.length := by
  refine (List.perm_ext_iff_of_nodup ((rdL_sorted st').imp fun h => by omega) ((woke_spec h).sorted.imp fun {a b} h e => ?_) |>.2 fun x => ?_).length_eq
  · subst e
    exact wkLt_asym _ _ _ h h
  · rw [mem_rdL]
    constructor
    · rintro ⟨-, g, hg, hsl⟩
      exact (sleeps_awake h x g hg hsl).1
    · intro hx
      obtain ⟨g, hg, -⟩ := ((woke_spec h).mem x).1 hx
      obtain ⟨h1, -⟩ := slSt_some l n x g hg
      exact ⟨by omega, _, sleeps_in h x hx, rfl⟩
theorem sleeps_nine {l lw : List Int} {n t : Nat} {st' : Int → Option Gu} (h : Woke (slSt l n) (t : Int) lw st') (hn : n ≤ 8) : st' 9 = none := by
  have h9 : slSt l n 9 = none := slSt_out _ _ _ (by omega)
  rw [(woke_spec h).same 9 fun hx => ?_, h9]
  obtain ⟨g, hg, -⟩ := ((woke_spec h).mem 9).1 hx
  rw [h9] at hg
  cases hg
theorem sleeps_none {l : List Int} {n : Nat} {v : Value} (h : PickQ (slSt l n) v) : v = .tuple #[.int .i64 0, .bool false] := by
  rcases h with ⟨-, h⟩ | ⟨x, g, hg, hs, -⟩
  · exact h
  · obtain ⟨-, rfl⟩ := slSt_some l n x g hg
    cases hs
/-- the least so far -/
def LsOk (l : List Int) (z : Int) : Prop := (l = [] ∧ z = -1) ∨ (z ∈ l ∧ 0 ≤ z ∧ ∀ y ∈ l, z ≤ y)
theorem LsOk.next {l : List Int} {z x z' : Int} (h : LsOk l z) (hx : 0 ≤ x) (hz : ((z < 0 ∨ x < z) ∧ z' = x) ∨ (¬ z < 0 ∧ ¬ x < z ∧ z' = z)) : LsOk (l ++ [x]) z' := by
  refine .inr ?_
  rcases h with ⟨rfl, rfl⟩ | ⟨h1, h2, h3⟩
  · rcases hz with ⟨-, rfl⟩ | ⟨h, -⟩
    · exact ⟨by simp, hx, fun y hy => by
        have : y = z' := by simpa using hy
        omega⟩
    · omega
  · rcases hz with ⟨h4, rfl⟩ | ⟨h4, h5, rfl⟩
    · refine ⟨by simp, hx, fun y hy => ?_⟩
      rcases List.mem_append.1 hy with h | h
      · have := h3 y h; omega
      · have : y = z' := by simpa using h
        omega
    · refine ⟨List.mem_append.2 (.inl h1), h2, fun y hy => ?_⟩
      rcases List.mem_append.1 hy with h | h
      · exact h3 y h
      · have : y = x := by simpa using h
        omega
theorem sleeps_pick {l lw : List Int} {n t : Nat} {st' : Int → Option Gu} (h : Woke (slSt l n) (t : Int) lw st') {v : Value} (hv : PickQ st' v) {z : Int} (hz : LsOk lw z) : (lw = [] ∧ v = .tuple #[.int .i64 0, .bool false]) ∨ (lw ≠ [] ∧ v = .tuple #[.int .i64 z, .bool true]) := by
  rcases hv with ⟨h1, h2⟩ | ⟨x, g, hg, hsl, hmin, hv⟩
  · refine .inl ⟨?_, h2⟩
    cases lw with
    | nil => rfl
    | cons x lw =>
      have := h1 x _ (sleeps_in h x List.mem_cons_self)
      cases this
  · obtain ⟨hx, hu⟩ := sleeps_awake h x g hg hsl
    rcases hz with ⟨rfl, -⟩ | ⟨hz1, -, hz3⟩
    · exact absurd hx (by simp)
    · refine .inr ⟨fun e => ?_, ?_⟩
      · rw [e] at hx
        exact absurd hx (by simp)
      · have h1 := hz3 x hx
        have h2 := hmin z _ (sleeps_in h z hz1) rfl
        rw [hu] at h2
        dsimp only at h2
        have : x = z := by omega
        rw [hv, this]
end Go.Proofs.YtnhocmmgdkiepaaDoor

/-
  facaderef16.Sched: where it lies; guest, find.
-/
namespace Go.Proofs.YtnhocmmgdkiepaaDoor
open Go.RowKit

def SdAt (w : World) (xb : Nat) (v : Value) (L : List Tn) : Prop := w.heap[xb]? = some (.cells #[v] 92 (0, 0)) ∧ w.ownsRow 0 98 5 v L.length (tnCells L)
def sdz (xb : Nat) (v : Value) (b : Nat) : Prop := b = xb ∨ inRow v b
theorem SdAt.not {w : World} {xb : Nat} {v : Value} {L : List Tn} (h : SdAt w xb v L) : ¬ inRow v xb := own_not h.2 h.1 (by decide)
theorem SdAt.cell {w : World} {xb : Nat} {v : Value} {L : List Tn} (h : SdAt w xb v L) : w.cell? ⟨xb, 0, none⟩ = some v := blk_cell h.1 0
theorem SdAt.lt {w : World} {xb : Nat} {v : Value} {L : List Tn} (h : SdAt w xb v L) : xb < w.heap.size ∧ ∀ b, sdz xb v b → b < w.heap.size := ⟨blk_lt h.1, fun b hb => by
  rcases hb with rfl | hb
  · exact blk_lt h.1
  · exact own_lt h.2 hb⟩
theorem SdAt.only {F : Nat → Prop} {w w' : World} {xb : Nat} {v : Value} {L : List Tn} (h : SdAt w xb v L) (ho : Only F w w') (hF : ∀ b, sdz xb v b → ¬ F b) : SdAt w' xb v L :=
  ⟨ho.blk h.1 (hF _ (.inl rfl)), own_only h.2 ho fun k hk => hF k (.inr hk)⟩
theorem SdAt.below {w w' : World} {xb : Nat} {v : Value} {L : List Tn} (h : SdAt w xb v L) (hb : Below w.heap.size w w') : SdAt w' xb v L :=
  h.only (F := fun _ => False) (Only.of_below hb) (fun _ _ h => h)
theorem SdAt.slice {w : World} {xb : Nat} {v : Value} {L : List Tn} (h : SdAt w xb v L) : ∃ ao cap, v = .slice ao L.length cap := own_slice h.2
theorem SdAt.row {w : World} {xb : Nat} {v : Value} {L : List Tn} (h : SdAt w xb v L) (h0 : 0 < L.length) : ∃ g cap, v = .slice (some ⟨g, 0, none⟩) L.length cap := by
  rcases own_shape h.2 with ⟨-, h1, -⟩ | ⟨g, cap, h1, -⟩
  · omega
  · exact ⟨g, cap, h1⟩
theorem SdAt.at {w : World} {xb g cap : Nat} {L : List Tn} (h : SdAt w xb (.slice (some ⟨g, 0, none⟩) L.length cap) L) (k : Nat) (hk : k < L.length) :
    w.cell? ⟨g, k * 5, none⟩ = some (.int .i64 (tg L k).id) ∧ w.cell? ⟨g, k * 5 + 1, none⟩ = some (.int .i64 (tg L k).wt) ∧ w.cell? ⟨g, k * 5 + 2, none⟩ = some (.int .i64 (tg L k).us) ∧ w.cell? ⟨g, k * 5 + 3, none⟩ = some (.bool (tg L k).sl) ∧ w.cell? ⟨g, k * 5 + 4, none⟩ = some (.int .i64 (tg L k).un) :=
  ⟨(own_cell h.2 (k * 5) (by omega)).trans (rec_get tnOne 5 tnOne_len L k 0 hk (by decide)), (own_cell h.2 (k * 5 + 1) (by omega)).trans (rec_get tnOne 5 tnOne_len L k 1 hk (by decide)), (own_cell h.2 (k * 5 + 2) (by omega)).trans (rec_get tnOne 5 tnOne_len L k 2 hk (by decide)), (own_cell h.2 (k * 5 + 3) (by omega)).trans (rec_get tnOne 5 tnOne_len L k 3 hk (by decide)), (own_cell h.2 (k * 5 + 4) (by omega)).trans (rec_get tnOne 5 tnOne_len L k 4 hk (by decide))⟩
theorem own_putN {w : World} {e : TypeId} {n g cap s : Nat} {xs : List Value} (h : w.ownsRow 0 e s (.slice (some ⟨g, 0, none⟩) n cap) n xs) (j : Nat) (u : Value) : (w.setCell ⟨g, j, none⟩ u).ownsRow 0 e s (.slice (some ⟨g, 0, none⟩) n cap) n (xs.set j u) := by
  obtain ⟨h1, h2⟩ := h
  refine ⟨by rw [List.length_set]; exact h1, ?_⟩
  rcases h2 with ⟨h2, -⟩ | ⟨g', cap', cur, he, hg, hh, hn, hm, hs, hx⟩
  · cases h2
  · cases he
    refine .inr ⟨g, cap, cur.setIfInBounds j u, rfl, hg, blk_put hh j u, hn, hm, by simpa using hs, ?_⟩
    rw [← hx, Array.toList_setIfInBounds, List.take_set]
theorem SdAt.put {w : World} {xb g cap : Nat} {L : List Tn} (h : SdAt w xb (.slice (some ⟨g, 0, none⟩) L.length cap) L) (k : Nat) (hk : k < L.length) (j : Nat) (hj : j < 5) (t : Tn) (u : Value) (ht : tnOne t = (tnOne (tg L k)).set j u) :
    SdAt (w.setCell ⟨g, k * 5 + j, none⟩ u) xb (.slice (some ⟨g, 0, none⟩) (L.set k t).length cap) (L.set k t) ∧ Only (sdz xb (.slice (some ⟨g, 0, none⟩) L.length cap)) w (w.setCell ⟨g, k * 5 + j, none⟩ u) := by
  have hn : xb ≠ g := fun e => h.not (by rw [e]; rfl)
  have h2 := own_putN h.2 (k * 5 + j) u
  refine ⟨⟨?_, ?_⟩, Only.setCell (F := sdz xb (.slice (some ⟨g, 0, none⟩) L.length cap)) (Only.refl _ _) (p := ⟨g, k * 5 + j, none⟩) (.inl (.inr rfl)) _⟩
  · rw [Below.heap_setCell _ _ _ _ hn, List.length_set]
    exact h.1
  · rw [List.length_set]
    have e := rec_set tnOne 5 tnOne_len L k j hk hj t u ht
    unfold tnCells at h2 ⊢
    rw [e] at h2
    exact h2
theorem guest_any16 (x : Int) (w : World) : Calls Tryd.prog 88 #[.int .i64 x] w fun e w' => e = .returned (.bool (decide (0 ≤ x) && decide (x < 8))) ∧ w = w' := by
  by_cases h0 : x < 0
  · have h1 : decide (0 ≤ x) = false := decide_eq_false (by omega)
    go_enter Tryd.func88, Tryd.ntmps88
    go_wp2
    go_ret
    exact ⟨by simp [h1], rfl⟩
  · have h1 : decide (0 ≤ x) = true := decide_eq_true (by omega)
    by_cases h8 : x < 8
    · have h2 : decide (x < 8) = true := decide_eq_true h8
      go_enter Tryd.func88, Tryd.ntmps88
      go_wp2
      go_ret
      exact ⟨by simp [h1, h2], rfl⟩
    · have h2 : decide (x < 8) = false := decide_eq_false h8
      go_enter Tryd.func88, Tryd.ntmps88
      go_wp2
      go_ret
      exact ⟨by simp [h1, h2], rfl⟩
def FindTo (L : List Tn) (x : Int) (w : World) (i : Value) (wr : World) : Prop := ∃ k : Nat, k ≤ L.length ∧ i = .int .i64 (k : Int) ∧ (∀ j, j < k → (tg L j).id ≠ x) ∧ w = wr
def FindR (L : List Tn) (x r : Int) : Prop := (r = -1 ∧ ∀ j, j < L.length → (tg L j).id ≠ x) ∨ ∃ i : Nat, i < L.length ∧ (tg L i).id = x ∧ r = (i : Int)
set_option maxRecDepth 100000 in
set_option maxHeartbeats 3200000 in
theorem sdfind_any (w : World) (xb : Nat) (v : Value) (L : List Tn) (h : SdAt w xb v L) (h100 : L.length ≤ 100) (x : Int) :
    Calls Tryd.prog 89 #[.pointer (some ⟨xb, 0, none⟩), .int .i64 x] w fun e w' => ∃ r, e = .returned (.int .i64 r) ∧ FindR L x r ∧ w = w' := by
  have c := h.cell
  have lt := blk_lt h.1
  have HH := Lib.hid h
  obtain ⟨ao, cap, rfl⟩ := h.slice
  clear h
  go_enter Tryd.func89, Tryd.ntmps89
  go_wp2_with fail
  go_loopw [5] (fun i wr => FindTo L x w i wr) (fun i _ => L.length - (intOf i).toNat)
  case atStart => exact ⟨0, Nat.zero_le _, rfl, (fun j hj => by omega), rfl⟩
  case round =>
    obtain ⟨k, hk, rfl, hn, rfl⟩ := hrel
    have HN := Lib.hid hn
    clear hn
    by_cases hlt : k < L.length
    · have hki : (k : Int) < (L.length : Int) := by omega
      have wk := IntWalk.i64_in ((k : Int) + 1) (by omega)
      obtain ⟨g, cap2, hv⟩ := HH.out.row (by omega)
      obtain ⟨rfl, -, rfl⟩ := Value.slice.inj hv
      obtain ⟨c0, -, -, -, -⟩ := HH.out.at k hlt
      have ltg := own_lt HH.out.2 (k := g) rfl
      obtain ⟨z, hz⟩ : ∃ z, (tg L k).id = z := ⟨_, rfl⟩
      have HZ := Lib.hid hz
      rw [hz] at c0
      clear hz hv
      by_cases hzx : z = x
      · have hzb : (z == x) = true := by rw [beq_iff_eq]; exact hzx
        have HZX := Lib.hid hzx
        clear hzx
        go_wp2_with fail
        go_ret
        exact ⟨_, rfl, .inr ⟨k, hlt, HZ.out.trans HZX.out, rfl⟩, rfl⟩
      · have hzb : (z == x) = false := by rw [beq_eq_false_iff_ne]; exact hzx
        have HN2 : Hid (∀ j, j < k + 1 → (tg L j).id ≠ x) := Lib.hid fun j hj => by
          by_cases e : j = k
          · rw [e, HZ.out]; exact hzx
          · exact HN.out j (by omega)
        clear hzx
        go_wp2_with fail
        go_roundw
        case rel => exact ⟨k + 1, hlt, by go_num, HN2.out, rfl⟩
        case measure => simp [intOf]; omega
    · have hki : ¬ (k : Int) < (L.length : Int) := by omega
      obtain rfl : k = L.length := by omega
      go_wp2_with fail
      go_ret
      exact ⟨-1, rfl, .inl ⟨rfl, HN.out⟩, rfl⟩
end Go.Proofs.YtnhocmmgdkiepaaDoor

