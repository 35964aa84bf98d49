/-
  frames.Frames: its cells; Get, there, own.
-/
import Derived.Test.YtnhocmmgdkiepaaDoorFrLaw
import Derived.Test.YtnhocmmgdkiepaaDoorNine
namespace Go.Proofs.YtnhocmmgdkiepaaDoor
open Go.RowKit

/-- frames lie in block g, their header in block b -/
def FrAt (TB TR : TypeId) (w : World) (b g cap : Nat) (l : List Fr) : Prop :=
  w.heap[b]? = some (.cells #[.slice (some ⟨g, 0, none⟩) l.length cap] TB (0, 0)) ∧ RecAt frOne TR w g l ∧ b ≠ g ∧ l.length ≤ cap ∧ cap ≤ 9223372036854775807
theorem FrAt.only {TB TR : TypeId} {F : Nat → Prop} {w w' : World} {b g cap : Nat} {l : List Fr} (h : FrAt TB TR w b g cap l) (ho : Only F w w') (hb : ¬ F b) (hg : ¬ F g) : FrAt TB TR w' b g cap l :=
  ⟨ho.blk h.1 hb, h.2.1.only ho hg, h.2.2.1, h.2.2.2⟩
theorem FrAt.below {TB TR : TypeId} {w w' : World} {b g cap : Nat} {l : List Fr} (h : FrAt TB TR w b g cap l) (hb : Below w.heap.size w w') : FrAt TB TR w' b g cap l :=
  h.only (F := fun _ => False) (Only.of_below hb) (fun h => h) (fun h => h)
theorem FrAt.hdr {TB TR : TypeId} {w : World} {b g cap : Nat} {l : List Fr} (h : FrAt TB TR w b g cap l) : w.cell? ⟨b, 0, none⟩ = some (.slice (some ⟨g, 0, none⟩) l.length cap) := blk_cell h.1 0
theorem FrAt.cells {TB TR : TypeId} {w : World} {b g cap : Nat} {l : List Fr} (h : FrAt TB TR w b g cap l) (n : Nat) (hn : n < l.length) :
    w.cell? ⟨g, n * 4, none⟩ = some (.int .i64 (l.getD n default).owner) ∧ w.cell? ⟨g, n * 4 + 1, none⟩ = some (.int .i64 (l.getD n default).kind) ∧ w.cell? ⟨g, n * 4 + 2, none⟩ = some (.int .i64 (l.getD n default).wr) ∧ w.cell? ⟨g, n * 4 + 3, none⟩ = some (.int .i64 (l.getD n default).us) :=
  ⟨h.2.1.cell frOne_len n 0 hn (by decide), h.2.1.cell frOne_len n 1 hn (by decide), h.2.1.cell frOne_len n 2 hn (by decide), h.2.1.cell frOne_len n 3 hn (by decide)⟩
theorem FrAt.free {TB TR : TypeId} {w : World} {b g cap : Nat} {l : List Fr} (h : FrAt TB TR w b g cap l) (o : Nat) : w.frozen? ⟨g, o, none⟩ = false := h.2.1.free o
theorem FrAt.lt {TB TR : TypeId} {w : World} {b g cap : Nat} {l : List Fr} (h : FrAt TB TR w b g cap l) : b < w.heap.size ∧ g < w.heap.size := ⟨blk_lt h.1, blk_lt h.2.1⟩
/-- one cell is put -/
theorem FrAt.put {TB TR : TypeId} {w : World} {b g cap : Nat} {l : List Fr} (h : FrAt TB TR w b g cap l) (n j : Nat) (hn : n < l.length) (hj : j < 4) (y : Fr) (v : Value) (hy : frOne y = (frOne (l.getD n default)).set j v) : FrAt TB TR (w.setCell ⟨g, n * 4 + j, none⟩ v) b g cap (l.set n y) := by
  refine ⟨?_, h.2.1.put frOne_len n j hn hj y v hy, h.2.2.1, ?_, h.2.2.2.2⟩
  · rw [List.length_set]
    exact ((Only.refl (fun k => k = g) w).setCell (p := ⟨g, n * 4 + j, none⟩) (.inl rfl) v).blk h.1 h.2.2.1
  · rw [List.length_set]
    exact h.2.2.2.1
theorem fr_set_get (l : List Fr) (n : Nat) (hn : n < l.length) (y : Fr) : (l.set n y).getD n default = y := by
  rw [List.getD_eq_getElem?_getD, List.getElem?_set_self hn]
  rfl
theorem FrAt.put0 {TB TR : TypeId} {w : World} {b g cap n : Nat} {l : List Fr} (h : FrAt TB TR w b g cap l) (hn : n < l.length) (z : Int) : FrAt TB TR (w.setCell ⟨g, n * 4, none⟩ (.int .i64 z)) b g cap (l.set n ⟨z, (l.getD n default).kind, (l.getD n default).wr, (l.getD n default).us⟩) := h.put n 0 hn (by decide) _ _ rfl
theorem FrAt.put1 {TB TR : TypeId} {w : World} {b g cap n : Nat} {l : List Fr} (h : FrAt TB TR w b g cap l) (hn : n < l.length) (z : Int) : FrAt TB TR (w.setCell ⟨g, n * 4 + 1, none⟩ (.int .i64 z)) b g cap (l.set n ⟨(l.getD n default).owner, z, (l.getD n default).wr, (l.getD n default).us⟩) := h.put n 1 hn (by decide) _ _ rfl
theorem FrAt.put2 {TB TR : TypeId} {w : World} {b g cap n : Nat} {l : List Fr} (h : FrAt TB TR w b g cap l) (hn : n < l.length) (z : Int) : FrAt TB TR (w.setCell ⟨g, n * 4 + 2, none⟩ (.int .i64 z)) b g cap (l.set n ⟨(l.getD n default).owner, (l.getD n default).kind, z, (l.getD n default).us⟩) := h.put n 2 hn (by decide) _ _ rfl
theorem FrAt.put3 {TB TR : TypeId} {w : World} {b g cap n : Nat} {l : List Fr} (h : FrAt TB TR w b g cap l) (hn : n < l.length) (z : Int) : FrAt TB TR (w.setCell ⟨g, n * 4 + 3, none⟩ (.int .i64 z)) b g cap (l.set n ⟨(l.getD n default).owner, (l.getD n default).kind, (l.getD n default).wr, z⟩) := h.put n 3 hn (by decide) _ _ rfl
/-- all four are put -/
theorem FrAt.putAll {TB TR : TypeId} {w : World} {b g cap n : Nat} {l : List Fr} (h : FrAt TB TR w b g cap l) (hn : n < l.length) (y : Fr) :
    FrAt TB TR ((((w.setCell ⟨g, n * 4, none⟩ (.int .i64 y.owner)).setCell ⟨g, n * 4 + 1, none⟩ (.int .i64 y.kind)).setCell ⟨g, n * 4 + 2, none⟩ (.int .i64 y.wr)).setCell ⟨g, n * 4 + 3, none⟩ (.int .i64 y.us)) b g cap (l.set n y) := by
  have h0 := h.put0 hn y.owner
  have h1 := h0.put1 (n := n) (by rw [List.length_set]; exact hn) y.kind
  rw [fr_set_get l n hn, List.set_set] at h1
  have h2 := h1.put2 (n := n) (by rw [List.length_set]; exact hn) y.wr
  rw [fr_set_get l n hn, List.set_set] at h2
  have h3 := h2.put3 (n := n) (by rw [List.length_set]; exact hn) y.us
  rw [fr_set_get l n hn, List.set_set] at h3
  exact h3
def frV (x : Fr) : Value := .agg #[.int .i64 x.owner, .int .i64 x.kind, .int .i64 x.wr, .int .i64 x.us]
/-- an error's number as an error -/
def errC (E : Nat → Addr) (c : Int) : Value := if c = 0 then .nilIface else errV (E (c - 101).toNat)
theorem errC_num (E : Nat → Addr) (c : Int) (h : c = 0 ∨ (101 ≤ c ∧ c ≤ 116)) : errNum (errC E c) E c := by
  unfold errC errNum
  by_cases h0 : c = 0
  · rw [if_pos h0]
    exact .inl ⟨rfl, h0⟩
  · rw [if_neg h0]
    exact .inr ⟨(c - 101).toNat, by omega, rfl, by omega⟩
/-- what a method of frames does: the error, the frames then -/
def FrQ (TB TR : TypeId) (E : Nat → Addr) (b g cap : Nat) (R : FrR) (w : World) (e : Ending) (w' : World) : Prop := e = .returned (errC E R.c) ∧ FrAt TB TR w' b g cap R.l ∧ Only (fun k => k = g) w w'
/-- the same, the document's: the number -/
def FrN (TB TR : TypeId) (b g cap : Nat) (R : FrR) (w : World) (e : Ending) (w' : World) : Prop := e = .returned (.int .i64 R.c) ∧ FrAt TB TR w' b g cap R.l ∧ Only (fun k => k = g) w w'

set_option maxRecDepth 100000 in
set_option maxHeartbeats 1600000 in
theorem fget_some (l : List Fr) (b g cap n : Nat) (w : World) (h : FrAt 128 126 w b g cap l) (hn : n < l.length) :
    Calls Tryd.prog 108 #[.pointer (some ⟨b, 0, none⟩), .int .i64 (n : Int)] w fun e w' => e = .returned (.tuple #[frV (l.getD n default), .bool true]) ∧ Below w.heap.size w w' := by
  have hb1 : Below w.heap.size w (w.alloc (.cells #[.int .i64 0, .int .i64 0, .int .i64 0, .int .i64 0] 126)) := (Below.refl _ _).alloc (Nat.le_refl _) _
  have h1 := h.below hb1
  have c := h1.hdr
  obtain ⟨c0, c1, c2, c3⟩ := h1.cells n hn
  obtain ⟨lb, lg⟩ := h.lt
  have hni : (n : Int) < (l.length : Int) := by omega
  have hn0 : (0 : Int) ≤ (n : Int) := by omega
  unfold frV
  obtain ⟨⟨x0, x1, x2, x3⟩, hx⟩ : ∃ x, l.getD n default = x := ⟨_, rfl⟩
  rw [hx] at c0 c1 c2 c3 ⊢
  clear h h1 hb1 hx hn
  go_enter Tryd.func108, Tryd.ntmps108
  go_wp2
  refine bodyPost_ret (v := .tuple #[.agg #[.int .i64 x0, .int .i64 x1, .int .i64 x2, .int .i64 x3], .bool true]) (by simp [results, Tryd.results108, go_sem]) rfl ⟨rfl, ?_⟩
  repeat (first | exact Below.refl _ _ | refine Below.setCell ?_ (by first | (simp; done) | (simp; omega)) _ | refine Below.alloc ?_ (by first | (simp; done) | (simp; omega)) _)
set_option maxRecDepth 100000 in
set_option maxHeartbeats 1600000 in
theorem fget_none (l : List Fr) (b g cap : Nat) (i : Int) (w : World) (h : FrAt 128 126 w b g cap l) (hn : ¬ (0 ≤ i ∧ i < l.length)) :
    Calls Tryd.prog 108 #[.pointer (some ⟨b, 0, none⟩), .int .i64 i] w fun e w' => e = .returned (.tuple #[.agg #[.int .i64 0, .int .i64 0, .int .i64 0, .int .i64 0], .bool false]) ∧ Below w.heap.size w w' := by
  have hb1 : Below w.heap.size w (w.alloc (.cells #[.int .i64 0, .int .i64 0, .int .i64 0, .int .i64 0] 126)) := (Below.refl _ _).alloc (Nat.le_refl _) _
  have c := (h.below hb1).hdr
  obtain ⟨lb, lg⟩ := h.lt
  have hc : i < 0 ∨ (¬ i < 0 ∧ (l.length : Int) ≤ i) := by omega
  clear h hb1 hn
  rcases hc with hc | ⟨hc, hd⟩
  all_goals
    go_enter Tryd.func108, Tryd.ntmps108
    go_wp2
    refine bodyPost_ret (v := .tuple #[.agg #[.int .i64 0, .int .i64 0, .int .i64 0, .int .i64 0], .bool false]) (by simp [results, Tryd.results108, go_sem]) rfl ⟨rfl, ?_⟩
    repeat (first | exact Below.refl _ _ | refine Below.setCell ?_ (by first | (simp; done) | (simp; omega)) _ | refine Below.alloc ?_ (by first | (simp; done) | (simp; omega)) _)

set_option maxRecDepth 100000 in
set_option maxHeartbeats 1600000 in
theorem fthere_any (l : List Fr) (b g cap : Nat) (i : Int) (w : World) (h : FrAt 128 126 w b g cap l) :
    Calls Tryd.prog 101 #[.pointer (some ⟨b, 0, none⟩), .int .i64 i] w fun e w' => e = .returned (.bool (frAt l i).isSome) ∧ Below w.heap.size w w' := by
  by_cases hi : 0 ≤ i ∧ i < l.length
  · obtain ⟨n, rfl⟩ := Int.eq_ofNat_of_zero_le hi.1
    have hn : n < l.length := by omega
    have HG := Lib.hid (fget_some l b g cap n w h hn)
    have hf : frAt l (n : Int) = if (l.getD n default).owner ≠ -1 then some n else none := by
      unfold frAt
      by_cases ho : (l.getD n default).owner = -1
      · rw [if_neg (by rw [Int.toNat_natCast]; exact fun h => h.2.2 ho), if_neg (fun h => h ho)]
      · rw [if_pos ⟨hi.1, hi.2, by rw [Int.toNat_natCast]; exact ho⟩, if_pos ho, Int.toNat_natCast]
    rw [hf]
    unfold frV at HG
    obtain ⟨⟨x0, x1, x2, x3⟩, hx⟩ : ∃ x, l.getD n default = x := ⟨_, rfl⟩
    rw [hx] at HG ⊢
    dsimp only at HG ⊢
    clear hf hi h hx hn
    by_cases ho : x0 = -1
    · subst ho
      go_enter Tryd.func101, Tryd.ntmps101
      go_wp2_with fail
      refine HG.out.mono ?_
      rintro e w1 ⟨rfl, hb1⟩
      have HB := Lib.hid hb1
      clear hb1
      go_wp2
      go_ret
      exact ⟨rfl, HB.out.alloc HB.out.size _⟩
    · have ho' : (x0 == -1) = false := by simp [ho]
      rw [if_pos ho]
      have HO := Lib.hid ho
      clear ho
      go_enter Tryd.func101, Tryd.ntmps101
      go_wp2_with fail
      refine HG.out.mono ?_
      rintro e w1 ⟨rfl, hb1⟩
      have HB := Lib.hid hb1
      clear hb1
      go_wp2
      go_ret
      exact ⟨by simp [HO.out], HB.out.alloc HB.out.size _⟩
  · have HG := Lib.hid (fget_none l b g cap i w h hi)
    have hf : frAt l i = none := by
      unfold frAt
      rw [if_neg (fun h => hi ⟨h.1, h.2.1⟩)]
    rw [hf]
    clear hf hi h
    go_enter Tryd.func101, Tryd.ntmps101
    go_wp2_with fail
    refine HG.out.mono ?_
    rintro e w1 ⟨rfl, hb1⟩
    have HB := Lib.hid hb1
    clear hb1
    go_wp2
    go_ret
    exact ⟨rfl, HB.out.alloc HB.out.size _⟩

set_option maxRecDepth 100000 in
set_option maxHeartbeats 1600000 in
theorem fown_any (E : Nat → Addr) (l : List Fr) (b g cap : Nat) (i who : Int) (w : World) (hE : ErrsAt errT gOf w E nine) (h : FrAt 128 126 w b g cap l) :
    Calls Tryd.prog 99 #[.pointer (some ⟨b, 0, none⟩), .int .i64 i, .int .i64 who] w fun e w' => e = .returned (errC E (frOwnC l i who)) ∧ Below w.heap.size w w' := by
  have HT := Lib.hid (fthere_any l b g cap i w h)
  have HEK : Hid (∀ wx, Below w.heap.size w wx → wx.cell? ⟨2, 0, none⟩ = some (errV (E 6)) ∧ wx.cell? ⟨8, 0, none⟩ = some (errV (E 9))) := Lib.hid fun wx hx => ⟨((hE.mono hx).1 6 (by decide)).1, ((hE.mono hx).1 9 (by decide)).1⟩
  unfold frOwnC
  cases hN : frAt l i with
  | none =>
    rw [hN] at HT
    dsimp only [Option.isSome] at HT ⊢
    clear h hE hN
    go_enter Tryd.func99, Tryd.ntmps99
    go_wp2_with fail
    refine HT.out.mono ?_
    rintro e w1 ⟨rfl, hb1⟩
    obtain ⟨e6, -⟩ := HEK.out _ hb1
    have HB := Lib.hid hb1
    clear hb1
    go_wp2
    go_ret
    exact ⟨rfl, HB.out⟩
  | some n =>
    obtain ⟨rfl, hn, ho⟩ := frAt_some hN
    rw [hN] at HT
    dsimp only [Option.isSome] at HT ⊢
    have hni : (n : Int) < (l.length : Int) := by omega
    have hn0 : (0 : Int) ≤ (n : Int) := by omega
    have HF : Hid (∀ wx, Below w.heap.size w wx → wx.cell? ⟨b, 0, none⟩ = some (.slice (some ⟨g, 0, none⟩) l.length cap) ∧ wx.cell? ⟨g, n * 4, none⟩ = some (.int .i64 (l.getD n default).owner)) := Lib.hid fun wx hx => ⟨(h.below hx).hdr, ((h.below hx).cells n hn).1⟩
    obtain ⟨⟨x0, x1, x2, x3⟩, hx⟩ : ∃ x, l.getD n default = x := ⟨_, rfl⟩
    rw [hx] at HF ⊢
    dsimp only at HF ⊢
    clear h hE hN ho hx hn
    by_cases hw : x0 = who
    · subst hw
      rw [if_pos rfl]
      go_enter Tryd.func99, Tryd.ntmps99
      go_wp2_with fail
      refine HT.out.mono ?_
      rintro e w1 ⟨rfl, hb1⟩
      obtain ⟨c, c0⟩ := HF.out _ hb1
      have HB := Lib.hid hb1
      clear hb1
      go_wp2
      go_ret
      exact ⟨rfl, HB.out⟩
    · rw [if_neg hw]
      have hw' : (x0 == who) = false := by simp [hw]
      clear hw
      go_enter Tryd.func99, Tryd.ntmps99
      go_wp2_with fail
      refine HT.out.mono ?_
      rintro e w1 ⟨rfl, hb1⟩
      obtain ⟨c, c0⟩ := HF.out _ hb1
      obtain ⟨-, e9⟩ := HEK.out _ hb1
      have HB := Lib.hid hb1
      clear hb1
      go_wp2
      go_ret
      exact ⟨rfl, HB.out⟩
end Go.Proofs.YtnhocmmgdkiepaaDoor
