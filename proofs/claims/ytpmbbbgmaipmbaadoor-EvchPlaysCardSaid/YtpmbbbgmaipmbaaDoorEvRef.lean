/-
  facaderef16.Net: the document's ports, over the same plain form.
-/
import Derived.Test.YtpmbbbgmaipmbaaDoorEv6
namespace Go.Proofs.YtpmbbbgmaipmbaaDoor
open Go.RowKit

theorem rec_set5 {α V : Type} (f : α → List V) (hf : ∀ x, (f x).length = 5) (l : List α) (i : Nat) (hi : i < l.length) (y : α) (a b c d e : V) (h : f y = [a, b, c, d, e]) :
    ((((((l.flatMap f).set (i * 5) a).set (i * 5 + 1) b).set (i * 5 + 2) c).set (i * 5 + 3) d).set (i * 5 + 4) e) = (l.set i y).flatMap f := by
  induction l generalizing i with
  | nil => simp at hi
  | cons x l ih =>
    cases i with
    | zero =>
      rw [List.flatMap_cons, List.set_cons_zero, List.flatMap_cons, h]
      have hx := hf x
      match f x, hx with
      | [x0, x1, x2, x3, x4], _ => simp
    | succ i =>
      have ih := ih i (by simpa using hi)
      rw [List.flatMap_cons, List.set_cons_succ, List.flatMap_cons, ← ih]
      have hx := hf x
      have e0 : ∀ (m : List V) k v, (f x ++ m).set ((i + 1) * 5 + k) v = f x ++ m.set (i * 5 + k) v := fun m k v => by
        rw [List.set_append_right _ _ (by rw [hx]; omega), hx]
        congr 2
        omega
      have e00 := fun m v => e0 m 0 v
      simp only [Nat.add_zero] at e00
      rw [e00, e0, e0, e0, e0]

def gP (x : Pe) : Int := if x.bound = true then x.guest else if x.live = true then -1 else 0
def pP (x : Pe) : Int := if x.bound = true then x.port else if x.live = true then -1 else 0
def poOne (x : Pe) : List Value := [.bool x.live, .bool x.masked, .bool x.pend, .int .i64 (gP x), .int .i64 (pP x)]
theorem poOne_len (x : Pe) : (poOne x).length = 5 := rfl
def RNAt (w : World) (b : Nat) (l : List Pe) : Prop := RecAt poOne 96 w b l ∧ l.length = 128
theorem RNAt.below {w w' : World} {b : Nat} {l : List Pe} (h : RNAt w b l) (hb : Below w.heap.size w w') : RNAt w' b l := ⟨h.1.below hb, h.2⟩
theorem RNAt.lt {w : World} {b : Nat} {l : List Pe} (h : RNAt w b l) : b < w.heap.size := blk_lt h.1
theorem RNAt.cells {w : World} {b : Nat} {l : List Pe} (h : RNAt w b l) (g p : Nat) (hg : g < 8) (hp : p < 16) :
    w.cell? ⟨b, g * 80 + p * 5, none⟩ = some (.bool (l.getD (g * 16 + p) default).live) ∧ w.cell? ⟨b, g * 80 + p * 5 + 1, none⟩ = some (.bool (l.getD (g * 16 + p) default).masked) ∧ w.cell? ⟨b, g * 80 + p * 5 + 2, none⟩ = some (.bool (l.getD (g * 16 + p) default).pend) ∧
    w.cell? ⟨b, g * 80 + p * 5 + 3, none⟩ = some (.int .i64 (gP (l.getD (g * 16 + p) default))) ∧ w.cell? ⟨b, g * 80 + p * 5 + 4, none⟩ = some (.int .i64 (pP (l.getD (g * 16 + p) default))) := by
  have hi : g * 16 + p < l.length := by rw [h.2]; omega
  have e : g * 80 + p * 5 = (g * 16 + p) * 5 := by omega
  rw [e]
  exact ⟨h.1.cell poOne_len _ 0 hi (by decide), h.1.cell poOne_len _ 1 hi (by decide), h.1.cell poOne_len _ 2 hi (by decide), h.1.cell poOne_len _ 3 hi (by decide), h.1.cell poOne_len _ 4 hi (by decide)⟩
theorem RNAt.free {w : World} {b : Nat} {l : List Pe} (h : RNAt w b l) (o : Nat) : w.frozen? ⟨b, o, none⟩ = false := h.1.free o
theorem RNAt.put {w : World} {b : Nat} {l : List Pe} (h : RNAt w b l) (g p j : Nat) (hg : g < 8) (hp : p < 16) (hj : j < 5) (y : Pe) (v : Value) (hy : poOne y = (poOne (l.getD (g * 16 + p) default)).set j v) :
    RNAt (w.setCell ⟨b, g * 80 + p * 5 + j, none⟩ v) b (l.set (g * 16 + p) y) := by
  have hi : g * 16 + p < l.length := by rw [h.2]; omega
  have e : g * 80 + p * 5 = (g * 16 + p) * 5 := by omega
  rw [e]
  exact ⟨h.1.put poOne_len _ j hi hj y v hy, by rw [List.length_set]; exact h.2⟩
theorem RNAt.putAll {w : World} {b : Nat} {l : List Pe} (h : RNAt w b l) (g p : Nat) (hg : g < 8) (hp : p < 16) (y : Pe) (a1 a2 a3 a4 a5 : Value) (hy : poOne y = [a1, a2, a3, a4, a5]) :
    RNAt (((((w.setCell ⟨b, g * 80 + p * 5, none⟩ a1).setCell ⟨b, g * 80 + p * 5 + 1, none⟩ a2).setCell ⟨b, g * 80 + p * 5 + 2, none⟩ a3).setCell ⟨b, g * 80 + p * 5 + 3, none⟩ a4).setCell ⟨b, g * 80 + p * 5 + 4, none⟩ a5) b (l.set (g * 16 + p) y) := by
  have hi : g * 16 + p < l.length := by rw [h.2]; omega
  have e : g * 80 + p * 5 = (g * 16 + p) * 5 := by omega
  rw [e]
  refine ⟨?_, by rw [List.length_set]; exact h.2⟩
  have h1 := blk_put (blk_put (blk_put (blk_put (blk_put h.1 ((g * 16 + p) * 5) a1) ((g * 16 + p) * 5 + 1) a2) ((g * 16 + p) * 5 + 2) a3) ((g * 16 + p) * 5 + 3) a4) ((g * 16 + p) * 5 + 4) a5
  unfold RecAt
  rw [h1, ← rec_set5 poOne poOne_len l _ hi y a1 a2 a3 a4 a5 hy]
  simp
theorem RNAt.bind {w : World} {b : Nat} {l : List Pe} (h : RNAt w b l) (g p : Nat) (hg : g < 8) (hp : p < 16) (og op : Int) (hlv : (l.getD (g * 16 + p) default).live = true) (hub : (l.getD (g * 16 + p) default).bound = false) :
    RNAt ((w.setCell ⟨b, g * 80 + p * 5 + 3, none⟩ (.int .i64 og)).setCell ⟨b, g * 80 + p * 5 + 4, none⟩ (.int .i64 op)) b (bindTo l (g * 16 + p) og op) := by
  have hi : g * 16 + p < l.length := by rw [h.2]; omega
  have h1 := h.put g p 3 hg hp (by decide) { l.getD (g * 16 + p) default with bound := true, guest := og, port := -1 } (.int .i64 og) (by
    unfold poOne pP gP
    rw [hub, hlv]
    rfl)
  have h2 := h1.put g p 4 hg hp (by decide) { l.getD (g * 16 + p) default with bound := true, guest := og, port := op } (.int .i64 op) (by rw [set_getD _ _ _ _ hi, if_pos rfl]; rfl)
  rw [set_set] at h2
  exact h2
theorem ev2 (w : World) (b o0 o1 : Nat) (v0 v1 : Value) : Only (fun k => k = b) w ((w.setCell ⟨b, o0, none⟩ v0).setCell ⟨b, o1, none⟩ v1) := (ev1 w b o0 v0).trans (ev1 _ b o1 v1)
theorem ev5 (w : World) (b o0 o1 o2 o3 o4 : Nat) (v0 v1 v2 v3 v4 : Value) : Only (fun k => k = b) w (((((w.setCell ⟨b, o0, none⟩ v0).setCell ⟨b, o1, none⟩ v1).setCell ⟨b, o2, none⟩ v2).setCell ⟨b, o3, none⟩ v3).setCell ⟨b, o4, none⟩ v4) :=
  (((ev1 w b o0 v0).trans (ev1 _ b o1 v1)).trans (ev2 _ b o2 o3 v2 v3)).trans (ev1 _ b o4 v4)

/-- what is not live is nothing; what is bound is bound to a live port -/
def Inv (l : List Pe) : Prop := l.length = 128 ∧ ∀ i, i < 128 → ((l.getD i default).live = false → l.getD i default = {}) ∧ ((l.getD i default).bound = true → ∃ og op : Nat, (l.getD i default).guest = (og : Int) ∧ (l.getD i default).port = (op : Int) ∧ og < 8 ∧ op < 16 ∧ (l.getD (og * 16 + op) default).live = true)
theorem inv_none : Inv none128 := ⟨rfl, fun i _ => ⟨fun _ => none128_get i, fun h => by rw [none128_get] at h; cases h⟩⟩
/-- what leaves live and bound as they are -/
theorem Inv.keep {l : List Pe} (h : Inv l) (k : Nat) (hk : k < 128) (y : Pe) (h1 : y.live = true) (h2 : (l.getD k default).live = true) (h3 : y.bound = (l.getD k default).bound) (h4 : y.guest = (l.getD k default).guest) (h5 : y.port = (l.getD k default).port) : Inv (l.set k y) := by
  obtain ⟨hl, hi⟩ := h
  have g : ∀ i, (l.set k y).getD i default = if i = k then y else l.getD i default := fun i => set_getD _ _ _ _ (by omega)
  have lv : ∀ i, ((l.set k y).getD i default).live = (l.getD i default).live := fun i => by
    rw [g]
    by_cases e : i = k
    · subst e; rw [if_pos rfl, h1, h2]
    · rw [if_neg e]
  refine ⟨by rw [List.length_set, hl], fun i h => ⟨fun hlv => ?_, fun hb => ?_⟩⟩
  · rw [lv] at hlv
    rw [g]
    by_cases e : i = k
    · subst e; rw [h2] at hlv; cases hlv
    · rw [if_neg e]; exact (hi i h).1 hlv
  · have hb' : (l.getD i default).bound = true ∧ ((l.set k y).getD i default).guest = (l.getD i default).guest ∧ ((l.set k y).getD i default).port = (l.getD i default).port := by
      rw [g] at hb ⊢
      by_cases e : i = k
      · subst e
        rw [if_pos rfl] at hb ⊢
        exact ⟨by rw [← h3]; exact hb, h4, h5⟩
      · rw [if_neg e] at hb ⊢
        exact ⟨hb, rfl, rfl⟩
    obtain ⟨og, op, a1, a2, a3, a4, a5⟩ := (hi i h).2 hb'.1
    exact ⟨og, op, by rw [hb'.2.1, a1], by rw [hb'.2.2, a2], a3, a4, by rw [lv]; exact a5⟩
theorem Inv.alloc {l : List Pe} (h : Inv l) (k : Nat) (hk : k < 128) (hlv : (l.getD k default).live = false) : ({ l.getD k default with live := true } : Pe) = { live := true } ∧ Inv (l.set k { live := true }) := by
  obtain ⟨hl, hi⟩ := h
  have hz := (hi k hk).1 hlv
  have g : ∀ i, (l.set k { live := true }).getD i default = if i = k then { live := true } else l.getD i default := fun i => set_getD _ _ _ _ (by omega)
  refine ⟨by rw [hz], by rw [List.length_set, hl], fun i h => ?_⟩
  rw [g]
  by_cases e : i = k
  · rw [if_pos e]
    exact ⟨(fun h => by cases h), (fun h => by cases h)⟩
  · rw [if_neg e]
    refine ⟨(hi i h).1, fun hb => ?_⟩
    obtain ⟨og, op, a1, a2, a3, a4, a5⟩ := (hi i h).2 hb
    refine ⟨og, op, a1, a2, a3, a4, ?_⟩
    rw [g]
    split
    · rfl
    · exact a5
theorem Inv.bind {l : List Pe} (h : Inv l) (g r o s : Nat) (hg : g < 8) (hr : r < 16) (ho : o < 8) (hs : s < 16) (h1 : (l.getD (g * 16 + r) default).live = true) (h2 : (l.getD (o * 16 + s) default).live = true) : Inv (bindTo l (g * 16 + r) o s) := by
  obtain ⟨hl, hi⟩ := h
  have gt : ∀ i, (bindTo l (g * 16 + r) o s).getD i default = if i = g * 16 + r then { l.getD (g * 16 + r) default with bound := true, guest := o, port := s } else l.getD i default := fun i => set_getD _ _ _ _ (by omega)
  have lv : ∀ i, ((bindTo l (g * 16 + r) o s).getD i default).live = (l.getD i default).live := fun i => by
    rw [gt]
    by_cases e : i = g * 16 + r
    · subst e; rw [if_pos rfl]
    · rw [if_neg e]
  refine ⟨by unfold bindTo; rw [List.length_set, hl], fun i h => ⟨fun hlv => ?_, fun hb => ?_⟩⟩
  · rw [lv] at hlv
    rw [gt]
    by_cases e : i = g * 16 + r
    · subst e; rw [h1] at hlv; cases hlv
    · rw [if_neg e]; exact (hi i h).1 hlv
  · by_cases e : i = g * 16 + r
    · subst e
      rw [gt, if_pos rfl]
      exact ⟨o, s, rfl, rfl, ho, hs, by rw [lv]; exact h2⟩
    · rw [gt, if_neg e] at hb
      obtain ⟨og, op, a1, a2, a3, a4, a5⟩ := (hi i h).2 hb
      rw [gt, if_neg e]
      exact ⟨og, op, a1, a2, a3, a4, by rw [lv]; exact a5⟩
theorem Inv.take {l : List Pe} (h : Inv l) (g : Nat) (hg : g < 8) : Inv (takeE l g 16) := by
  obtain ⟨hl, hi⟩ := h
  have gt : ∀ i, (takeE l g 16).getD i default = if g * 16 ≤ i ∧ i < g * 16 + 16 then { l.getD i default with pend := (l.getD i default).pend && (l.getD i default).masked } else l.getD i default := fun i => takeE_get _ _ _ _ (by omega)
  have lv : ∀ i, ((takeE l g 16).getD i default).live = (l.getD i default).live ∧ ((takeE l g 16).getD i default).bound = (l.getD i default).bound ∧ ((takeE l g 16).getD i default).guest = (l.getD i default).guest ∧ ((takeE l g 16).getD i default).port = (l.getD i default).port := fun i => by
    rw [gt]
    split <;> exact ⟨rfl, rfl, rfl, rfl⟩
  refine ⟨by rw [takeE_len, hl], fun i h => ⟨fun hlv => ?_, fun hb => ?_⟩⟩
  · rw [(lv i).1] at hlv
    rw [gt, (hi i h).1 hlv]
    split <;> rfl
  · rw [(lv i).2.1] at hb
    obtain ⟨og, op, a1, a2, a3, a4, a5⟩ := (hi i h).2 hb
    exact ⟨og, op, by rw [(lv i).2.2.1, a1], by rw [(lv i).2.2.2, a2], a3, a4, by rw [(lv _).1]; exact a5⟩
theorem Inv.sign {l : List Pe} (h : Inv l) (i : Nat) (hi : i < 128) (hlv : (l.getD i default).live = true) : decide (0 ≤ gP (l.getD i default)) = (l.getD i default).bound ∧ decide (gP (l.getD i default) < 0) = !(l.getD i default).bound := by
  have h2 := (h.2 i hi).2
  unfold gP
  cases hb : (l.getD i default).bound
  · rw [hlv, if_neg (show ¬ (false = true) by decide), if_pos rfl]; decide
  · obtain ⟨og, op, a1, -⟩ := h2 hb
    rw [if_pos rfl, a1]
    exact ⟨by simp, by simp⟩
end Go.Proofs.YtpmbbbgmaipmbaaDoor
