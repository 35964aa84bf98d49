/-
  Parts of one proof, one behind the other.
-/
import Derived.Test.YtaoaachgnnengaaDoorMga4384f1749
import Derived.Test.YtaoaachgnnengaaDoorMgc64a197dac
import Derived.Test.YtaoaachgnnengaaDoorMgdb2dba5253
import Derived.Test.YtaoaachgnnengaaDoorMg171693961a
import Derived.Test.YtaoaachgnnengaaDoorMga28acc30fc
import Derived.Deep.RegionWith
import Derived.Deep.Cut
import Derived.Deep.CutRange
/-
  Things that tables are told: where they lie.
-/
namespace Go.Proofs.YtaoaachgnnengaaDoor
open Go.RowKit

theorem tdo_at {w : World} {ao : Option Addr} {l : List TDo} (h : AtL w ao (l.flatMap tdoCells)) (k : Nat) (hk : k < l.length) : ∃ b off, ao = some ⟨b, off, none⟩ ∧ b < w.heap.size ∧ ∀ wx, Below w.heap.size w wx → wx.cell? ⟨b, off + k * 8, none⟩ = some (.int .i64 (l.getD k default).kind) ∧ wx.cell? ⟨b, off + k * 8 + 1, none⟩ = some (.int .i64 (l.getD k default).a) ∧ wx.cell? ⟨b, off + k * 8 + 2, none⟩ = some (.int .i64 (l.getD k default).b) ∧ wx.cell? ⟨b, off + k * 8 + 3, none⟩ = some (.int .i64 (l.getD k default).e.f) ∧ wx.cell? ⟨b, off + k * 8 + 4, none⟩ = some (.bool (l.getD k default).e.t) ∧ wx.cell? ⟨b, off + k * 8 + 5, none⟩ = some (.bool (l.getD k default).e.w) ∧ wx.cell? ⟨b, off + k * 8 + 6, none⟩ = some (.bool (l.getD k default).e.u) ∧ wx.cell? ⟨b, off + k * 8 + 7, none⟩ = some (.bool (l.getD k default).is) := by
  have g := fun j (hj : j < 8) => rec_get tdoCells 8 tdo_len l k j hk hj
  obtain ⟨b, off, e, -, hb⟩ := h _ _ ((g 0 (by decide)).trans rfl)
  refine ⟨b, off, e, hb, fun wx hx => ?_⟩
  have q : ∀ j (hj : j < 8) v, (tdoCells (l.getD k default))[j]? = some v → wx.cell? ⟨b, off + k * 8 + j, none⟩ = some v := fun j hj v hv => by
    obtain ⟨b1, off1, e1, c1, -⟩ := (h.mono hx) _ _ ((g j hj).trans hv)
    rw [e] at e1
    cases e1
    rw [Nat.add_assoc]
    exact c1
  exact ⟨q 0 (by decide) _ rfl, q 1 (by decide) _ rfl, q 2 (by decide) _ rfl, q 3 (by decide) _ rfl, q 4 (by decide) _ rfl, q 5 (by decide) _ rfl, q 6 (by decide) _ rfl, q 7 (by decide) _ rfl⟩
end Go.Proofs.YtaoaachgnnengaaDoor

/-
  Tables while they are made: where their parts lie.
-/
namespace Go.Proofs.YtaoaachgnnengaaDoor
open Go.RowKit

structure NAt (w : World) (p : Pl) (n : Nat) (M : List Int) (F : List Fr) (P T : List Int) (who : Int) : Prop where
  row : w.heap[p.tb]? = some (.cells (ptCells p who) 113 (0, 0))
  mem : MAt w p.mb p.mv n M
  fr : FrAt 95 33 w p.fb p.fg n F
  pm : PAt w p.pb p.pv P
  tl : w.ownsRow 0 3 1 p.lv T.length (ints T)
  apart : p.Apart
theorem NAt.keep {G : Nat → Prop} {w w' : World} {p : Pl} {n : Nat} {M : List Int} {F : List Fr} {P T : List Int} {who : Int} (h : NAt w p n M F P T who) (ho : Only G w w') (h0 : ∀ k, p.z0 k → ¬ G k) (h1 : ∀ k, p.z1 k → ¬ G k) (h2 : ∀ k, p.z2 k → ¬ G k) (h3 : ∀ k, p.z3 k → ¬ G k) : NAt w' p n M F P T who :=
  ⟨ho.blk h.row (h0 _ (.inl rfl)), h.mem.only ho (h0 _ (.inr (.inl rfl))) h1, h.fr.only ho (h0 _ (.inr (.inr (.inl rfl)))) (h2 _ rfl), h.pm.only ho (h3 _ (.inl rfl)) (fun k hk => h3 k (.inr hk)), own_only h.tl ho (fun k hk => h0 k (.inr (.inr (.inr hk)))), h.apart⟩
theorem NAt.below {w w' : World} {p : Pl} {n : Nat} {M : List Int} {F : List Fr} {P T : List Int} {who : Int} (h : NAt w p n M F P T who) (hb : Below w.heap.size w w') : NAt w' p n M F P T who :=
  h.keep (G := fun _ => False) (Only.of_below hb) (fun _ _ h => h) (fun _ _ h => h) (fun _ _ h => h) (fun _ _ h => h)
theorem NAt.mem' {w w' : World} {p : Pl} {n : Nat} {M M' : List Int} {F : List Fr} {P T : List Int} {who : Int} (h : NAt w p n M F P T who) (ho : Only (fun k => inRow p.mv k) w w') (hm : MAt w' p.mb p.mv n M') : NAt w' p n M' F P T who :=
  ⟨ho.blk h.row (h.apart.a01 _ (.inl rfl)), hm, h.fr.only ho (h.apart.a01 _ (.inr (.inr (.inl rfl)))) (fun h' => h.apart.a12 _ h' rfl), h.pm.only ho (fun h' => h.apart.a13 _ h' (.inl rfl)) (fun k hk h' => h.apart.a13 _ h' (.inr hk)), own_only h.tl ho (fun k hk => h.apart.a01 k (.inr (.inr (.inr hk)))), h.apart⟩
theorem NAt.fr' {w w' : World} {p : Pl} {n : Nat} {M : List Int} {F F' : List Fr} {P T : List Int} {who : Int} (h : NAt w p n M F P T who) (ho : Only (fun k => k = p.fg) w w') (hm : FrAt 95 33 w' p.fb p.fg n F') : NAt w' p n M F' P T who :=
  ⟨ho.blk h.row (h.apart.a02 _ (.inl rfl)), h.mem.only ho (h.apart.a02 _ (.inr (.inl rfl))) (fun k hk h' => h.apart.a12 _ hk h'), hm, h.pm.only ho (fun h' => h.apart.a23 _ h' (.inl rfl)) (fun k hk h' => h.apart.a23 _ h' (.inr hk)), own_only h.tl ho (fun k hk => h.apart.a02 k (.inr (.inr (.inr hk)))), h.apart⟩
theorem NAt.lt {w : World} {p : Pl} {n : Nat} {M : List Int} {F : List Fr} {P T : List Int} {who : Int} (h : NAt w p n M F P T who) : ∀ k, (p.z0 k ∨ p.z1 k ∨ p.z2 k ∨ p.z3 k) → k < w.heap.size := fun k hk => by
  rcases hk with (rfl | rfl | rfl | hk) | hk | hk | (rfl | hk)
  · exact blk_lt h.row
  · exact blk_lt h.mem.1
  · exact h.fr.lt.1
  · exact own_lt h.tl hk
  · exact own_lt h.mem.2.1 hk
  · rw [show k = p.fg from hk]; exact h.fr.lt.2
  · exact blk_lt h.pm.1
  · exact own_lt h.pm.2 hk
/-- the map has another one -/
theorem NAt.pm' {w w' : World} {p : Pl} {n : Nat} {M : List Int} {F : List Fr} {P P' T : List Int} {who : Int} {pv' : Value} (h : NAt w p n M F P T who) (ho : Only (fun k => k = p.pb ∨ inRow p.pv k) w w') (hm : PAt w' p.pb pv' P') (hr : ∀ k, inRow pv' k → inRow p.pv k ∨ w.heap.size ≤ k) : NAt w' { p with pv := pv' } n M F P' T who := by
  have hz3 : ∀ k, Pl.z3 { p with pv := pv' } k → p.z3 k ∨ w.heap.size ≤ k := fun k hk => by
    rcases hk with hk | hk
    · exact .inl (.inl hk)
    · rcases hr k hk with h | h
      · exact .inl (.inr h)
      · exact .inr h
  exact ⟨ho.blk h.row (fun h' => h.apart.a03 p.tb (.inl rfl) h'), h.mem.only ho (fun h' => h.apart.a03 p.mb (.inr (.inl rfl)) h') (fun k hk h' => h.apart.a13 _ hk h'), h.fr.only ho (fun h' => h.apart.a03 p.fb (.inr (.inr (.inl rfl))) h') (fun h' => h.apart.a23 p.fg rfl h'), hm, own_only h.tl ho (fun k hk h' => h.apart.a03 k (.inr (.inr (.inr hk))) h'),
    ⟨h.apart.a01, h.apart.a02, fun k h0 h3 => by
      rcases hz3 k h3 with h' | h'
      · exact h.apart.a03 k h0 h'
      · have := h.lt k (.inl h0); omega, h.apart.a12, fun k h0 h3 => by
      rcases hz3 k h3 with h' | h'
      · exact h.apart.a13 k h0 h'
      · have := h.lt k (.inr (.inl h0)); omega, fun k h0 h3 => by
      rcases hz3 k h3 with h' | h'
      · exact h.apart.a23 k h0 h'
      · have := h.lt k (.inr (.inr (.inl h0))); omega⟩⟩
/-- the list has another one -/
theorem NAt.list' {w w' : World} {p : Pl} {n : Nat} {M : List Int} {F : List Fr} {P T T' : List Int} {who : Int} {lv' : Value} (h : NAt w p n M F P T who) (ho : Only (fun k => k = p.tb ∨ inRow p.lv k) w w') (hrow : w'.heap[p.tb]? = some (.cells (ptCells { p with lv := lv' } who) 113 (0, 0))) (ht : w'.ownsRow 0 3 1 lv' T'.length (ints T')) (hmb : p.mb ≠ p.tb ∧ ¬ inRow p.lv p.mb) (hfb : p.fb ≠ p.tb ∧ ¬ inRow p.lv p.fb) (hr : ∀ k, inRow lv' k → inRow p.lv k ∨ w.heap.size ≤ k) : NAt w' { p with lv := lv' } n M F P T' who := by
  have hG : ∀ k, (k = p.tb ∨ inRow p.lv k) → p.z0 k := fun k hk => by
    rcases hk with hk | hk
    · exact .inl hk
    · exact .inr (.inr (.inr hk))
  have hz0 : ∀ k, Pl.z0 { p with lv := lv' } k → p.z0 k ∨ w.heap.size ≤ k := fun k hk => by
    rcases hk with hk | hk | hk | hk
    · exact .inl (.inl hk)
    · exact .inl (.inr (.inl hk))
    · exact .inl (.inr (.inr (.inl hk)))
    · rcases hr k hk with h | h
      · exact .inl (.inr (.inr (.inr h)))
      · exact .inr h
  exact ⟨hrow, h.mem.only ho (fun h' => by rcases h' with h' | h'; exact hmb.1 h'; exact hmb.2 h') (fun k hk h' => h.apart.a01 k (hG k h') hk), h.fr.only ho (fun h' => by rcases h' with h' | h'; exact hfb.1 h'; exact hfb.2 h') (fun h' => h.apart.a02 _ (hG _ h') rfl), h.pm.only ho (fun h' => h.apart.a03 _ (hG _ h') (.inl rfl)) (fun k hk h' => h.apart.a03 _ (hG _ h') (.inr hk)), ht,
    ⟨fun k h0 h1 => by
      rcases hz0 k h0 with h' | h'
      · exact h.apart.a01 k h' h1
      · have := h.lt k (.inr (.inl h1)); omega, fun k h0 h1 => by
      rcases hz0 k h0 with h' | h'
      · exact h.apart.a02 k h' h1
      · have := h.lt k (.inr (.inr (.inl h1))); omega, fun k h0 h1 => by
      rcases hz0 k h0 with h' | h'
      · exact h.apart.a03 k h' h1
      · have := h.lt k (.inr (.inr (.inr h1))); omega, h.apart.a12, h.apart.a13, h.apart.a23⟩⟩
theorem NAt.done {w : World} {p : Pl} {n : Nat} {M : List Int} {F : List Fr} {P T : List Int} {who : Int} (h : NAt w p n M F P T who) (hT : T = P.take 17) (hl : T.length = 17) : PtAt w p ⟨n, M, F, P, who⟩ :=
  ⟨h.row, h.mem, h.fr, h.pm, by rw [← hT, ← hl]; exact h.tl, h.apart⟩
theorem NAt.cells {w : World} {p : Pl} {n : Nat} {M : List Int} {F : List Fr} {P T : List Int} {who : Int} (h : NAt w p n M F P T who) : w.cell? ⟨p.tb, 3, none⟩ = some (.pointer (some ⟨p.pb, 0, none⟩)) ∧ w.cell? ⟨p.tb, 4, none⟩ = some p.lv ∧ w.frozen? ⟨p.tb, 4, none⟩ = false :=
  ⟨blk_cell h.row 3, blk_cell h.row 4, blk_free h.row 4⟩
end Go.Proofs.YtaoaachgnnengaaDoor

/-
  pt.New, where there is room.
-/
namespace Go.Proofs.YtaoaachgnnengaaDoor
open Go.RowKit

def nz (mv : Value) (fg k : Nat) : Prop := inRow mv k ∨ k = fg
/-- frames taken, so far -/
def L1To (n o mb fb fg : Nat) (mv : Value) (M : List Int) (who : Int) (w : World) (i : Value) (wr : World) : Prop :=
  ∃ (k : Nat) (lv : Value), k ≤ 17 ∧ i = .int .i64 (k : Int) ∧ NAt wr ⟨w.heap.size + 1, mb, fb, fg, w.heap.size, mv, .slice none 0 0, lv⟩ n M (frU n o k who) [] (rngF o k) who ∧ Only (nz mv fg) w wr ∧ (∀ j, inRow lv j → w.heap.size ≤ j)
/-- tables made, so far -/
def L3To (n o mb fb fg : Nat) (mv lv : Value) (M : List Int) (who : Int) (w : World) (i : Value) (wr : World) : Prop :=
  ∃ (k : Nat) (pv : Value), k ≤ 17 ∧ i = .int .i64 (k : Int) ∧ NAt wr ⟨w.heap.size + 1, mb, fb, fg, w.heap.size, mv, pv, lv⟩ n (tM M o k) (frM n o k who) (rngF o k) (rngF o 17) who ∧ Only (nz mv fg) w wr ∧ (∀ j, inRow pv j → w.heap.size ≤ j)
def L4To (w0 : World) (i : Value) (wr : World) : Prop := ∃ k : Nat, k ≤ 2 ∧ i = .int .i64 (k : Int) ∧ wr = w0
theorem frM_make1 (n o : Nat) (who : Int) (hw : frOwns who) (hn : o + 17 ≤ n) : frMine (frM n o 0 who) ((o + 0 : Nat) : Int) who (kMake 1) = ⟨(frM n o 0 who).set (o + 0) ⟨who, 1, 0, 0⟩, 0, 0⟩ := frM_make n o 0 who hw hn (by decide)
theorem frM_make2 (n o k : Nat) (who : Int) (hw : frOwns who) (hn : o + 17 ≤ n) (hk : k < 17) (h0 : k ≠ 0) : frMine (frM n o k who) ((o + k : Nat) : Int) who (kMake 2) = ⟨(frM n o k who).set (o + k) ⟨who, 2, 0, 0⟩, 0, 0⟩ := by
  have := frM_make n o k who hw hn hk
  rw [if_neg h0] at this
  exact this
theorem frM_use1 (n o : Nat) (who : Int) (hw : frOwns who) (hn : o + 17 ≤ n) : frThere ((frM n o 0 who).set (o + 0) ⟨who, 1, 0, 0⟩) ((o + 0 : Nat) : Int) kUse = ⟨frM n o 1 who, 0, 0⟩ := frM_use n o 0 who hw hn (by decide)
theorem frM_use2 (n o k : Nat) (who : Int) (hw : frOwns who) (hn : o + 17 ≤ n) (hk : k < 17) (h0 : k ≠ 0) : frThere ((frM n o k who).set (o + k) ⟨who, 2, 0, 0⟩) ((o + k : Nat) : Int) kUse = ⟨frM n o (k + 1) who, 0, 0⟩ := by
  have := frM_use n o k who hw hn hk
  rw [if_neg h0] at this
  exact this
theorem blk_two (w : World) (x y : Obj) : ((w.alloc x).alloc y).heap[w.heap.size + 1]? = some y := by
  have := blk_new (w.alloc x) y
  simpa using this
theorem rngF_not (o k : Nat) : ((o + k : Nat) : Int) ∉ rngF o k := fun h => by
  obtain ⟨i, hi, e⟩ := rngF_mem o k _ h
  omega
theorem fr_bounds1 (n o k : Nat) (who kd : Int) (hl : o + k < n) : ∀ i, i < ((frM n o k who).set (o + k) ⟨who, kd, 0, 0⟩).length → (0 ≤ (((frM n o k who).set (o + k) ⟨who, kd, 0, 0⟩).getD i default).wr ∧ (((frM n o k who).set (o + k) ⟨who, kd, 0, 0⟩).getD i default).wr ≤ 1000000) ∧ (0 ≤ (((frM n o k who).set (o + k) ⟨who, kd, 0, 0⟩).getD i default).us ∧ (((frM n o k who).set (o + k) ⟨who, kd, 0, 0⟩).getD i default).us ≤ 1000000) := fun i hi => by
  rw [List.length_set, frM_len] at hi
  rw [fr_setD _ _ _ _ (by rw [frM_len]; exact hl)]
  split
  · exact ⟨⟨by show (0 : Int) ≤ 0; decide, by show (0 : Int) ≤ 1000000; decide⟩, ⟨by show (0 : Int) ≤ 0; decide, by show (0 : Int) ≤ 1000000; decide⟩⟩
  · rw [frM_get n o k i who hi]
    split
    · exact ⟨⟨by decide, by decide⟩, ⟨by decide, by decide⟩⟩
    · split
      · split
        all_goals exact ⟨⟨by show (0 : Int) ≤ 0; decide, by show (0 : Int) ≤ 1000000; decide⟩, by first | exact ⟨by show (0 : Int) ≤ 1; decide, by show (1 : Int) ≤ 1000000; decide⟩ | exact ⟨by show (0 : Int) ≤ 0; decide, by show (0 : Int) ≤ 1000000; decide⟩⟩
      · exact ⟨⟨by decide, by decide⟩, ⟨by decide, by decide⟩⟩

/-- what New answers where there is room -/
def NewQ (n o mb fb fg : Nat) (mv : Value) (M : List Int) (who : Int) (w : World) (y : Ending) (w' : World) : Prop := ∃ pv lv, y = .returned (.tuple #[.pointer (some ⟨w.heap.size + 1, 0, none⟩), .nilIface]) ∧ PtAt w' ⟨w.heap.size + 1, mb, fb, fg, w.heap.size, mv, pv, lv⟩ ⟨n, tM M o 17, frM n o 17 who, rngF o 17, who⟩ ∧ Only (nz mv fg) w w' ∧ (∀ j, inRow pv j → w.heap.size ≤ j)
/-- and where its list lies -/
def NewQ2 (n o mb fb fg : Nat) (mv : Value) (M : List Int) (who : Int) (w : World) (y : Ending) (w' : World) : Prop := ∃ pv lv, y = .returned (.tuple #[.pointer (some ⟨w.heap.size + 1, 0, none⟩), .nilIface]) ∧ PtAt w' ⟨w.heap.size + 1, mb, fb, fg, w.heap.size, mv, pv, lv⟩ ⟨n, tM M o 17, frM n o 17 who, rngF o 17, who⟩ ∧ Only (nz mv fg) w w' ∧ (∀ j, inRow pv j → w.heap.size ≤ j) ∧ (∀ j, inRow lv j → w.heap.size ≤ j)
set_option maxRecDepth 100000 in
set_option maxHeartbeats 32000000 in
theorem tnew_all (E : Nat → Addr) (n o mb fb fg : Nat) (mv : Value) (M : List Int) (who : Int) (w : World) (hE : ∀ wx, Only (nz mv fg) w wx → ErrsAt errT gOf wx E nine) (hm : MAt w mb mv n M) (hf : FrAt 95 33 w fb fg n (frU n o 0 who)) (hap : (∀ k, inRow mv k → k ≠ fb ∧ k ≠ fg) ∧ fg ≠ mb) (hw : frOwns who) (hn : o + 17 ≤ n) (hn2 : n ≤ 1024) :
    Calls Tryd.prog 32 #[.pointer (some ⟨mb, 0, none⟩), .pointer (some ⟨fb, 0, none⟩), .int .i64 who] w (NewQ2 n o mb fb fg mv M who w) := by
  obtain ⟨i0, hi, hz0, hz1, hz2⟩ := info_parts infoPInt
  have HEE := Lib.hid hE
  obtain ⟨W1, hW1⟩ : ∃ W1, W1 = (w.alloc (.cells #[.slice none 0 0] 111)).alloc (.cells #[.pointer (some ⟨mb, 0, none⟩), .pointer (some ⟨fb, 0, none⟩), .int .i64 who, .pointer (some ⟨w.heap.size, 0, none⟩), .slice none 0 0] 113) := ⟨_, rfl⟩
  have hb1 : Below w.heap.size w W1 := hW1 ▸ ((Below.refl _ _).alloc (Nat.le_refl _) _).alloc (by simp) _
  have hmb := blk_lt hm.1
  have hfl := hf.lt
  have hap1 : Pl.Apart ⟨w.heap.size + 1, mb, fb, fg, w.heap.size, mv, .slice none 0 0, .slice none 0 0⟩ := by
    refine ⟨fun k h0 h1 => ?_, fun k h0 h2 => ?_, fun k h0 h3 => ?_, fun k h1 h2 => (hap.1 k h1).2 h2, fun k h1 h3 => ?_, fun k h2 h3 => ?_⟩
    · have h1' : inRow mv k := h1
      rcases h0 with h0 | h0 | h0 | h0
      · have := own_lt hm.2.1 h1'
        rw [show k = w.heap.size + 1 from h0] at this
        omega
      · rw [show k = mb from h0] at h1'
        exact hm.not h1'
      · exact (hap.1 k h1').1 h0
      · cases h0
    · have h2' : k = fg := h2
      rcases h0 with h0 | h0 | h0 | h0
      · rw [show k = w.heap.size + 1 from h0] at h2'
        omega
      · exact hap.2 (h2'.symm.trans h0)
      · exact hf.2.2.1 ((show k = fb from h0) ▸ h2')
      · cases h0
    · rcases h3 with h3 | h3
      · have h3' : k = w.heap.size := h3
        rcases h0 with h0 | h0 | h0 | h0
        · rw [show k = w.heap.size + 1 from h0] at h3'
          omega
        · rw [show k = mb from h0] at h3'
          omega
        · rw [show k = fb from h0] at h3'
          omega
        · cases h0
      · cases h3
    · rcases h3 with h3 | h3
      · have := own_lt hm.2.1 (show inRow mv k from h1)
        rw [show k = w.heap.size from h3] at this
        omega
      · cases h3
    · rcases h3 with h3 | h3
      · have h4 : k = w.heap.size := h3
        have h5 : k = fg := h2
        omega
      · cases h3
  have HN1 : Hid (NAt W1 ⟨w.heap.size + 1, mb, fb, fg, w.heap.size, mv, .slice none 0 0, .slice none 0 0⟩ n M (frU n o 0 who) [] (rngF o 0) who) := Lib.hid ⟨by rw [hW1]; exact blk_two w _ _, hm.below hb1, hf.below hb1, ⟨by rw [hW1]; exact blk_old (blk_new w _) _, own_nil _ _ _⟩, own_nil _ _ _, hap1⟩
  have HO1 : Hid (Only (nz mv fg) w W1) := Lib.hid (Only.of_below hb1)
  have HST : Hid (L1To n o mb fb fg mv M who w (.int .i64 0) W1) := Lib.hid ⟨0, _, Nat.zero_le _, rfl, HN1.out, HO1.out, fun j h => by cases h⟩
  have HW1 := Lib.hid hW1
  have HLT : Hid (mb < w.heap.size ∧ fb < w.heap.size) := Lib.hid ⟨hmb, hfl.1⟩
  clear hE hm hf hap hap1 hW1 hb1 hmb hfl HN1 HO1
  go_enter Tryd.func32, Tryd.ntmps32
  go_wp2_with fail
  rw [← HW1.out]
  go_loopw [27] (fun i wr => L1To n o mb fb fg mv M who w i wr) (fun i _ => 17 - (intOf i).toNat)
  case atStart => exact HST.out
  case round =>
    obtain ⟨k, lv, hk, rfl, hN, ho, hlv⟩ := hrel
    have HN := Lib.hid hN
    have HO := Lib.hid ho
    have HLV := Lib.hid hlv
    clear HST
    by_cases hlt : k < 17
    · have hki : (k : Int) < 17 := by omega
      have ha := falloc_any E (frU n o k who) fb fg n who wr (HEE.out _ ho) hN.fr
      rw [frU_alloc n o k who hw (by omega)] at ha
      obtain ⟨x, hx⟩ : ∃ x : Int, ((o + k : Nat) : Int) = x := ⟨_, rfl⟩
      rw [hx] at ha
      have HA := Lib.hid ha
      have HXE := Lib.hid hx
      clear ha hN ho hlv hx
      go_wp2_with fail
      refine HA.out.mono ?_
      rintro y w2 ⟨rfl, hf2, ho2⟩
      have HN2 := Lib.hid (HN.out.fr' ho2 hf2)
      have HO2 := Lib.hid (HO.out.trans (ho2.mono fun _ h => .inl (.inr h)))
      obtain ⟨-, c4, f4⟩ := HN2.out.cells
      have ltb := blk_lt HN2.out.row
      have htl := HN2.out.tl
      rw [rngF_len] at htl
      obtain ⟨ao, cap, hlve⟩ := own_slice htl
      dsimp only at hlve c4
      subst hlve
      have HTL := Lib.hid htl
      have HNT : Hid (¬ inRow (.slice ao k cap) (w.heap.size + 1)) := Lib.hid fun h => own_not htl HN2.out.row (by decide) h
      clear hf2 ho2 htl
      unfold errC
      rw [if_pos rfl]
      dsimp only
      go_wp2_with (at_builtin; refine wpList_append_sep _ rfl _ _ 37 rfl 3 i0 (.int .i64 0) 1 8 Tryd.underlying37 hi hz0 hz1 hz2 rfl (by decide) _ _ _ rfl (HTL.out.alloc _) ⟨w2.heap.size, 0, none⟩ 1 1 [.int .i64 x] rfl rfl (cell_one_new _ _ _) (by simp [Value.oneCell']) (by unfold maxLen; omega) (by omega) ?_)
      intro v' wx ho3 hg3 hs3
      obtain ⟨ao2, cap2, rfl⟩ := own_slice ho3
      have hbx := blk_grown (blk_old HN2.out.row (.cells #[.int .i64 x] 3)) hg3 HNT.out
      have cx := blk_cell hbx 4
      have fx := blk_free hbx 4
      have HON : Hid (Only (fun j => j = w.heap.size + 1 ∨ inRow (.slice ao k cap) j) w2 (wx.setCell ⟨w.heap.size + 1, 4, none⟩ (.slice ao2 (k + 1) cap2))) := Lib.hid
        (Only.setCell (F := fun j => j = w.heap.size + 1 ∨ inRow (.slice ao k cap) j) ((Only.alloc _ w2 (.cells #[.int .i64 x] 3)).grown hg3 (fun j hj => .inl (.inr hj))) (p := ⟨w.heap.size + 1, 4, none⟩) (.inl (.inl rfl)) _)
      have hs4 : ∀ j, inRow (.slice ao2 (k + 1) cap2) j → inRow (.slice ao k cap) j ∨ w2.heap.size ≤ j := fun j hj => by
        rcases hs3 j hj with h | h
        · exact .inl h
        · have h' := h
          try simp only [World.size_alloc] at h'
          exact .inr (by omega)
      have HN3 : Hid (NAt (wx.setCell ⟨w.heap.size + 1, 4, none⟩ (.slice ao2 (k + 1) cap2)) ⟨w.heap.size + 1, mb, fb, fg, w.heap.size, mv, .slice none 0 0, .slice ao2 (k + 1) cap2⟩ n M (frU n o (k + 1) who) [] (rngF o (k + 1)) who) := Lib.hid (HN2.out.list' HON.out (by have := blk_put hbx 4 (.slice ao2 (k + 1) cap2); exact this) (by
        have e1 : ints (rngF o k) ++ [Value.int .i64 x] = ints (rngF o (k + 1)) := by rw [rngF_succ, HXE.out]; simp [ints]
        rw [e1] at ho3
        rw [rngF_len]
        exact own_set ho3 hbx (by decide) 4 _) ⟨by show mb ≠ w.heap.size + 1; have := HLT.out.1; omega, fun h => by have := HLV.out mb h; have := HLT.out.1; omega⟩ ⟨by show fb ≠ w.heap.size + 1; have := HLT.out.2; omega, fun h => by have := HLV.out fb h; have := HLT.out.2; omega⟩ hs4)
      have HO3 : Hid (Only (nz mv fg) w (wx.setCell ⟨w.heap.size + 1, 4, none⟩ (.slice ao2 (k + 1) cap2))) := Lib.hid (HO2.out.trans' HON.out fun j hj => by
        rcases hj with hj | hj
        · exact .inr (by omega)
        · exact .inr (HLV.out j hj))
      have HLV3 : Hid (∀ j, inRow (.slice ao2 (k + 1) cap2) j → w.heap.size ≤ j) := Lib.hid fun j hj => by
        rcases hs4 j hj with h | h
        · exact HLV.out j h
        · have := HO2.out.size; omega
      clear ho3 hg3 hs3 hbx c4 f4 hs4
      go_wp2_with fail
      go_roundw
      case rel => exact ⟨k + 1, _, by omega, by go_num, HN3.out, HO3.out, HLV3.out⟩
      case measure => simp [intOf]; omega
    · have hk17 : k = 17 := by omega
      have hkn : ¬ (k : Int) < 17 := by omega
      have hN17 : NAt wr ⟨w.heap.size + 1, mb, fb, fg, w.heap.size, mv, .slice none 0 0, lv⟩ n M (frM n o 0 who) [] (rngF o 17) who := by
        rw [frM_zero, ← hk17]
        exact hN
      have hsh := own_shape hN17.tl
      rw [rngF_len] at hsh
      rcases hsh with ⟨-, hz, -⟩ | ⟨g, cap, hlve, -⟩
      · omega
      dsimp only at hlve
      subst hlve
      have HST3 : Hid (L3To n o mb fb fg mv (.slice (some ⟨g, 0, none⟩) 17 cap) M who w (.int .i64 0) wr) := Lib.hid ⟨0, _, Nat.zero_le _, rfl, hN17, ho, fun j h => by cases h⟩
      obtain ⟨-, c4, -⟩ := hN17.cells
      have ltb := blk_lt hN17.row
      have HCL : Hid (∀ wx : World, wx.ownsRow 0 3 1 (.slice (some ⟨g, 0, none⟩) 17 cap) (rngF o 17).length (ints (rngF o 17)) → ∀ q, q < 17 → wx.cell? ⟨g, q, none⟩ = some (.int .i64 ((o + q : Nat) : Int))) := Lib.hid fun wx ht q hq => by
        rw [rngF_len] at ht
        rw [own_cell ht q (by omega), ints_get' _ q (by rw [rngF_len]; exact hq), rngF_get o 17 q hq]
      have HLV9 := Lib.hid HLV.out
      clear hN hN17 ho hlv HN HO HLV hk17 hlt hk
      go_wp2_with fail
      go_loopw [70] (fun i wr => L3To n o mb fb fg mv (.slice (some ⟨g, 0, none⟩) 17 cap) M who w i wr) (fun i _ => 17 - (intOf i).toNat)
      case atStart => exact HST3.out
      case round =>
        obtain ⟨k, pv, hk, rfl, hN, ho, hpv⟩ := hrel
        clear HST3 c4 ltb
        by_cases hlt : k < 17
        · have hki : (k : Int) < 17 := by omega
          by_cases hk0 : k = 0
          · subst hk0
            clear hki
            obtain ⟨x, hx⟩ : ∃ x : Int, ((o + 0 : Nat) : Int) = x := ⟨_, rfl⟩
            have q1 : wr.cell? ⟨g, 0, none⟩ = some (.int .i64 x) := by rw [← hx]; exact HCL.out wr hN.tl 0 hlt
            have HX := Lib.hid hx
            have HFL : Hid (∀ wx, MAt wx mb mv n (tM M o 0) → Calls Tryd.prog 64 #[.pointer (some ⟨mb, 0, none⟩), .int .i64 x, .slice none 0 0] wx fun e w' => e = .returned (.bool true) ∧ MAt w' mb mv n (fillL (tM M o 0) (o + 0) []) ∧ Only (fun k => inRow mv k) wx w') := Lib.hid fun wx h => hx ▸ mm_fill_ok (tM M o 0) [] mb n (o + 0) 0 0 none mv wx h hn2 (by omega) (atL_nil _ _) rfl (by decide) (fun a h => by omega)
            have HMK : Hid (∀ wx, Only (nz mv fg) w wx → FrAt 95 33 wx fb fg n (frM n o 0 who) → Calls Tryd.prog 23 #[.pointer (some ⟨fb, 0, none⟩), .int .i64 x, .int .i64 who, .int .i64 1] wx (FrQ 95 33 E fb fg n ⟨((frM n o 0 who).set (o + 0) ⟨who, 1, 0, 0⟩), 0, 0⟩ wx)) := Lib.hid fun wx hoo h => by
              have := fmake1 E (frM n o 0 who) fb fg n ((o + 0 : Nat) : Int) who wx (HEE.out _ hoo) h
              rw [frM_make1 n o who hw hn, hx] at this
              exact this
            have HUS : Hid (∀ wx, Only (nz mv fg) w wx → FrAt 95 33 wx fb fg n ((frM n o 0 who).set (o + 0) ⟨who, 1, 0, 0⟩) → Calls Tryd.prog 22 #[.pointer (some ⟨fb, 0, none⟩), .int .i64 x] wx (FrQ 95 33 E fb fg n ⟨frM n o 1 who, 0, 0⟩ wx)) := Lib.hid fun wx hoo h => by
              have := fuse_any E ((frM n o 0 who).set (o + 0) ⟨who, 1, 0, 0⟩) fb fg n ((o + 0 : Nat) : Int) wx (fr_bounds1 n o 0 who 1 (by omega)) (HEE.out _ hoo) h
              rw [frM_use1 n o who hw hn, hx] at this
              exact this
            have hfair : fairP x = true := by rw [← hx]; simp [fairP]; omega
            have hnot : x ∉ rngF o 0 := by rw [← hx]; exact rngF_not o 0
            have HAD : Hid (∀ wx, PAt wx w.heap.size pv (rngF o 0) → Calls Tryd.prog 66 #[.pointer (some ⟨w.heap.size, 0, none⟩), .int .i64 x] wx fun e w' => e = .returned (.tuple #[.int .i64 (rngF o 0).length, .nilIface]) ∧ ∃ v', PAt w' w.heap.size v' (rngF o 0 ++ [x]) ∧ Only (fun k => k = w.heap.size ∨ inRow pv k) wx w' ∧ ∀ k, inRow v' k → inRow pv k ∨ wx.heap.size ≤ k) := Lib.hid fun wx h => add_ok (rngF o 0) w.heap.size pv x wx h hfair hnot (by rw [rngF_len]; omega)
            have HN := Lib.hid hN
            have HO := Lib.hid ho
            have HPV := Lib.hid hpv
            clear hN ho hpv hx hfair hnot
            go_wp2_with fail
            refine (HFL.out _ HN.out.mem).mono ?_
            rintro y w2 ⟨rfl, hm2, ho2⟩
            have HN2 := Lib.hid (HN.out.mem' ho2 hm2)
            have HO2 := Lib.hid (HO.out.trans (ho2.mono fun _ h => .inl (.inl h)))
            clear hm2 ho2 q1
            go_wp2_with fail
            refine (HMK.out _ HO2.out HN2.out.fr).mono ?_
            rintro y w3 ⟨rfl, hf3, ho3⟩
            have HN3 := Lib.hid (HN2.out.fr' ho3 hf3)
            have HO3 := Lib.hid (HO2.out.trans (ho3.mono fun _ h => .inl (.inr h)))
            clear hf3 ho3
            unfold errC
            rw [if_pos rfl]
            go_wp2_with fail
            refine (HUS.out _ HO3.out HN3.out.fr).mono ?_
            rintro y w4 ⟨rfl, hf4, ho4⟩
            have HN4 := Lib.hid (HN3.out.fr' ho4 hf4)
            have HO4 := Lib.hid (HO3.out.trans (ho4.mono fun _ h => .inl (.inr h)))
            clear hf4 ho4
            unfold errC
            rw [if_pos rfl]
            have hnw := blk_new w4 (.cells #[.nilIface, .nilIface] 26)
            obtain ⟨W4, hW4⟩ : ∃ W4, w4.alloc (.cells #[.nilIface, .nilIface] 26) = W4 := ⟨_, rfl⟩
            have hb4 : Below w4.heap.size w4 W4 := hW4 ▸ (Below.refl _ _).alloc (Nat.le_refl _) _
            rw [hW4] at hnw
            have HN5 := Lib.hid (HN4.out.below hb4)
            have HO5 := Lib.hid (HO4.out.below' hb4)
            have HC4 : Hid (∀ q, q < 2 → W4.cell? ⟨w4.heap.size, q, none⟩ = some .nilIface) := Lib.hid fun q hq => by
              rw [blk_cell hnw q]
              match q, hq with
              | 0, _ => rfl
              | 1, _ => rfl
            have HW4 := Lib.hid hW4
            clear hnw hb4 hW4
            go_wp2_with fail
            rw [HW4.out]
            go_loopw [90] (fun i wr => L4To W4 i wr) (fun i _ => 2 - (intOf i).toNat)
            case atStart => exact ⟨0, Nat.zero_le _, rfl, rfl⟩
            case round =>
              obtain ⟨q, hq, rfl, rfl⟩ := hrel
              by_cases hq2 : q < 2
              · have hqi : (q : Int) < 2 := by omega
                have cq := HC4.out q hq2
                go_wp2_with fail
                go_roundw
                case rel => exact ⟨q + 1, by omega, by go_num, rfl⟩
                case measure => simp [intOf]; omega
              · have hqn : ¬ (q : Int) < 2 := by omega
                obtain ⟨c3, c4, -⟩ := HN5.out.cells
                have ltb := blk_lt HN5.out.row
                go_wp2_with fail
                refine (HAD.out _ HN5.out.pm).mono ?_
                rintro y w6 ⟨rfl, v', hp6, ho6, hr6⟩
                have HN6 := Lib.hid (HN5.out.pm' ho6 hp6 hr6)
                have HO6 := Lib.hid (HO5.out.trans' ho6 fun j hj => .inr (by rcases hj with hj | hj; rw [hj]; exact Nat.le_refl _; exact HPV.out j hj))
                have HPV6 : Hid (∀ j, inRow v' j → w.heap.size ≤ j) := Lib.hid fun j hj => by
                  rcases hr6 j hj with h | h
                  · exact HPV.out j h
                  · have := HO5.out.size; omega
                clear hp6 ho6 hr6 c3 c4
                go_wp2_with fail
                go_roundw
                case rel => exact ⟨1, v', by omega, by go_num, by have := HN6.out; rw [← HX.out, ← rngF_succ] at this; exact this, HO6.out, HPV6.out⟩
                case measure => simp [intOf]
          · have hk0' : ((k : Int) == 0) = false := by simp; omega
            obtain ⟨x, hx⟩ : ∃ x : Int, ((o + k : Nat) : Int) = x := ⟨_, rfl⟩
            have q1 : wr.cell? ⟨g, k, none⟩ = some (.int .i64 x) := by rw [← hx]; exact HCL.out wr hN.tl k hlt
            have HX := Lib.hid hx
            have HFL : Hid (∀ wx, MAt wx mb mv n (tM M o k) → Calls Tryd.prog 64 #[.pointer (some ⟨mb, 0, none⟩), .int .i64 x, .slice none 0 0] wx fun e w' => e = .returned (.bool true) ∧ MAt w' mb mv n (fillL (tM M o k) (o + k) []) ∧ Only (fun k => inRow mv k) wx w') := Lib.hid fun wx h => hx ▸ mm_fill_ok (tM M o k) [] mb n (o + k) 0 0 none mv wx h hn2 (by omega) (atL_nil _ _) rfl (by decide) (fun a h => by omega)
            have HMK : Hid (∀ wx, Only (nz mv fg) w wx → FrAt 95 33 wx fb fg n (frM n o k who) → Calls Tryd.prog 23 #[.pointer (some ⟨fb, 0, none⟩), .int .i64 x, .int .i64 who, .int .i64 2] wx (FrQ 95 33 E fb fg n ⟨((frM n o k who).set (o + k) ⟨who, 2, 0, 0⟩), 0, 0⟩ wx)) := Lib.hid fun wx hoo h => by
              have := fmake2 E (frM n o k who) fb fg n ((o + k : Nat) : Int) who wx (HEE.out _ hoo) h
              rw [frM_make2 n o k who hw hn hlt hk0, hx] at this
              exact this
            have HUS : Hid (∀ wx, Only (nz mv fg) w wx → FrAt 95 33 wx fb fg n ((frM n o k who).set (o + k) ⟨who, 2, 0, 0⟩) → Calls Tryd.prog 22 #[.pointer (some ⟨fb, 0, none⟩), .int .i64 x] wx (FrQ 95 33 E fb fg n ⟨frM n o (k + 1) who, 0, 0⟩ wx)) := Lib.hid fun wx hoo h => by
              have := fuse_any E ((frM n o k who).set (o + k) ⟨who, 2, 0, 0⟩) fb fg n ((o + k : Nat) : Int) wx (fr_bounds1 n o k who 2 (by omega)) (HEE.out _ hoo) h
              rw [frM_use2 n o k who hw hn hlt hk0, hx] at this
              exact this
            have hfair : fairP x = true := by rw [← hx]; simp [fairP]; omega
            have hnot : x ∉ rngF o k := by rw [← hx]; exact rngF_not o k
            have HAD : Hid (∀ wx, PAt wx w.heap.size pv (rngF o k) → Calls Tryd.prog 66 #[.pointer (some ⟨w.heap.size, 0, none⟩), .int .i64 x] wx fun e w' => e = .returned (.tuple #[.int .i64 (rngF o k).length, .nilIface]) ∧ ∃ v', PAt w' w.heap.size v' (rngF o k ++ [x]) ∧ Only (fun k => k = w.heap.size ∨ inRow pv k) wx w' ∧ ∀ k, inRow v' k → inRow pv k ∨ wx.heap.size ≤ k) := Lib.hid fun wx h => add_ok (rngF o k) w.heap.size pv x wx h hfair hnot (by rw [rngF_len]; omega)
            have HN := Lib.hid hN
            have HO := Lib.hid ho
            have HPV := Lib.hid hpv
            clear hN ho hpv hx hfair hnot
            go_wp2_with fail
            refine (HFL.out _ HN.out.mem).mono ?_
            rintro y w2 ⟨rfl, hm2, ho2⟩
            have HN2 := Lib.hid (HN.out.mem' ho2 hm2)
            have HO2 := Lib.hid (HO.out.trans (ho2.mono fun _ h => .inl (.inl h)))
            clear hm2 ho2 q1
            go_wp2_with fail
            refine (HMK.out _ HO2.out HN2.out.fr).mono ?_
            rintro y w3 ⟨rfl, hf3, ho3⟩
            have HN3 := Lib.hid (HN2.out.fr' ho3 hf3)
            have HO3 := Lib.hid (HO2.out.trans (ho3.mono fun _ h => .inl (.inr h)))
            clear hf3 ho3
            unfold errC
            rw [if_pos rfl]
            go_wp2_with fail
            refine (HUS.out _ HO3.out HN3.out.fr).mono ?_
            rintro y w4 ⟨rfl, hf4, ho4⟩
            have HN4 := Lib.hid (HN3.out.fr' ho4 hf4)
            have HO4 := Lib.hid (HO3.out.trans (ho4.mono fun _ h => .inl (.inr h)))
            clear hf4 ho4
            unfold errC
            rw [if_pos rfl]
            have hnw := blk_new w4 (.cells #[.nilIface, .nilIface] 26)
            obtain ⟨W4, hW4⟩ : ∃ W4, w4.alloc (.cells #[.nilIface, .nilIface] 26) = W4 := ⟨_, rfl⟩
            have hb4 : Below w4.heap.size w4 W4 := hW4 ▸ (Below.refl _ _).alloc (Nat.le_refl _) _
            rw [hW4] at hnw
            have HN5 := Lib.hid (HN4.out.below hb4)
            have HO5 := Lib.hid (HO4.out.below' hb4)
            have HC4 : Hid (∀ q, q < 2 → W4.cell? ⟨w4.heap.size, q, none⟩ = some .nilIface) := Lib.hid fun q hq => by
              rw [blk_cell hnw q]
              match q, hq with
              | 0, _ => rfl
              | 1, _ => rfl
            have HW4 := Lib.hid hW4
            clear hnw hb4 hW4
            go_wp2_with fail
            rw [HW4.out]
            go_loopw [90] (fun i wr => L4To W4 i wr) (fun i _ => 2 - (intOf i).toNat)
            case atStart => exact ⟨0, Nat.zero_le _, rfl, rfl⟩
            case round =>
              obtain ⟨q, hq, rfl, rfl⟩ := hrel
              by_cases hq2 : q < 2
              · have hqi : (q : Int) < 2 := by omega
                have cq := HC4.out q hq2
                go_wp2_with fail
                go_roundw
                case rel => exact ⟨q + 1, by omega, by go_num, rfl⟩
                case measure => simp [intOf]; omega
              · have hqn : ¬ (q : Int) < 2 := by omega
                obtain ⟨c3, c4, -⟩ := HN5.out.cells
                have ltb := blk_lt HN5.out.row
                have q0 := (HCL.out _ HN5.out.tl 0 (by omega)).trans (show _ = some (.int .i64 (o : Int)) by rw [Nat.add_zero])
                have hkp : (0 : Int) < (k : Int) := by omega
                have wk1 := IntWalk.i64_in ((k : Int) - 1) (by omega)
                have HW := Lib.hid (twrite_any (fillL (tM M o k) (o + k) []) mb n mv (o : Int) ((k : Int) - 1) ⟨x, true, true, true⟩ _ HN5.out.mem (by omega) (by omega))
                unfold Ent.v at HW
                dsimp only at HW
                go_wp2_with fail
                refine HW.out.mono ?_
                rintro y w5 ⟨rfl, hm5, ho5⟩
                have HN5b := Lib.hid (HN5.out.mem' ho5 hm5)
                have HO5b := Lib.hid (HO5.out.trans (ho5.mono fun _ h => .inl (.inl h)))
                obtain ⟨d3, d4, -⟩ := HN5b.out.cells
                have ltb2 := blk_lt HN5b.out.row
                clear hm5 ho5 c3 c4 q0
                go_wp2_with fail
                refine (HAD.out _ HN5b.out.pm).mono ?_
                rintro y w6 ⟨rfl, v', hp6, ho6, hr6⟩
                have HN6 := Lib.hid (HN5b.out.pm' ho6 hp6 hr6)
                have HO6 := Lib.hid (HO5b.out.trans' ho6 fun j hj => .inr (by rcases hj with hj | hj; rw [hj]; exact Nat.le_refl _; exact HPV.out j hj))
                have HPV6 : Hid (∀ j, inRow v' j → w.heap.size ≤ j) := Lib.hid fun j hj => by
                  rcases hr6 j hj with h | h
                  · exact HPV.out j h
                  · have := HO5b.out.size; omega
                clear hp6 ho6 hr6 d3 d4
                go_wp2_with fail
                go_roundw
                case rel => exact ⟨k + 1, v', by omega, by go_num, by have := HN6.out; rw [← HX.out, ← rngF_succ] at this; unfold tM; rw [if_neg hk0]; exact this, HO6.out, HPV6.out⟩
                case measure => simp [intOf]; omega
        · have hkn3 : ¬ (k : Int) < 17 := by omega
          obtain rfl : k = 17 := by omega
          go_wp2
          go_ret2
          exact ⟨pv, _, rfl, hN.done (by rw [List.take_of_length_le (by rw [rngF_len]; exact Nat.le_refl _)]) (rngF_len o 17), ho, hpv, HLV9.out⟩
theorem tnew_ok (E : Nat → Addr) (n o mb fb fg : Nat) (mv : Value) (M : List Int) (who : Int) (w : World) (hE : ∀ wx, Only (nz mv fg) w wx → ErrsAt errT gOf wx E nine) (hm : MAt w mb mv n M) (hf : FrAt 95 33 w fb fg n (frU n o 0 who)) (hap : (∀ k, inRow mv k → k ≠ fb ∧ k ≠ fg) ∧ fg ≠ mb) (hw : frOwns who) (hn : o + 17 ≤ n) (hn2 : n ≤ 1024) :
    Calls Tryd.prog 32 #[.pointer (some ⟨mb, 0, none⟩), .pointer (some ⟨fb, 0, none⟩), .int .i64 who] w (NewQ n o mb fb fg mv M who w) :=
  (tnew_all E n o mb fb fg mv M who w hE hm hf hap hw hn hn2).mono fun _ _ ⟨pv, lv, h1, h2, h3, h4, _⟩ => ⟨pv, lv, h1, h2, h3, h4⟩
end Go.Proofs.YtaoaachgnnengaaDoor

/-
  facaderef16.NewTables, where there is room.
-/
namespace Go.Proofs.YtaoaachgnnengaaDoor
open Go.RowKit

theorem fill_zero (n f : Nat) (hf : f < n) : fillL (List.replicate (16 * n) 0) f [] = List.replicate (16 * n) 0 := by
  apply List.ext_getElem
  · rw [fillL_len]
  · intro i h1 h2
    have hi : i < 16 * n := by rw [List.length_replicate] at h2; exact h2
    have := fillL_get (List.replicate (16 * n) 0) n f [] i List.length_replicate hf (by decide)
    rw [List.getD_eq_getElem?_getD, List.getElem?_eq_getElem h1, Option.getD_some] at this
    rw [this, List.getElem_replicate]
    split
    · simp
    · rw [List.getD_eq_getElem?_getD, List.getElem?_replicate, if_pos hi]
      rfl
/-- the first table's words, so far -/
def zW (n o : Nat) : Nat → List Int
  | 0 => List.replicate (16 * n) 0
  | k + 1 => writeL (zW n o k) ((o : Int) * 16 + (k : Int)) (bitsA ⟨((o + (k + 1) : Nat) : Int), true, true, true⟩).1
theorem bits_root (g : Nat) (h : g < 1024) : (bitsA ⟨(g : Int), true, true, true⟩).1 = entW (g : Int) true true true := by
  have hok : entOk (g : Int) true true true := ⟨by omega, by omega, fun h => by cases h⟩
  unfold bitsA
  rw [if_pos ((entOkB_iff _ _ _ _).2 hok)]
theorem zW_len (n o : Nat) : ∀ k, (zW n o k).length = 16 * n
  | 0 => List.length_replicate
  | k + 1 => by unfold zW; rw [wlen]; exact zW_len n o k
theorem zW_get (n o j : Nat) (hn : n ≤ 1024) (ho : o + 17 ≤ n) : ∀ k, k ≤ 16 → (zW n o k).getD j 0 = if 16 * o ≤ j ∧ j < 16 * o + k then entW ((o + 1 + (j - 16 * o) : Nat) : Int) true true true else 0
  | 0, _ => by
    rw [if_neg (by omega)]
    show (List.replicate (16 * n) (0 : Int)).getD j 0 = 0
    rw [List.getD_eq_getElem?_getD, List.getElem?_replicate]
    split <;> rfl
  | k + 1, hk => by
    have ih := zW_get n o j hn ho k (by omega)
    unfold zW
    rw [bits_root _ (by omega), show (o : Int) * 16 + (k : Int) = ((16 * o + k : Nat) : Int) by omega]
    unfold writeL
    rw [if_pos (by rw [zW_len]; omega), Int.toNat_natCast, setD_get _ _ _ _ (by rw [zW_len]; omega), ih]
    by_cases h1 : j = 16 * o + k
    · rw [if_pos h1, if_pos (by omega), show o + 1 + (j - 16 * o) = o + (k + 1) by omega]
    · rw [if_neg h1]
      by_cases h2 : 16 * o ≤ j ∧ j < 16 * o + k
      · rw [if_pos h2, if_pos (by omega)]
      · rw [if_neg h2, if_neg (by omega)]
theorem zW_tM (n o : Nat) (hn : n ≤ 1024) (ho : o + 17 ≤ n) : zW n o 16 = tM (List.replicate (16 * n) 0) o 17 := by
  have hl2 : (tM (List.replicate (16 * n) (0 : Int)) o 17).length = 16 * n := by rw [tM_len _ o 17 (by omega) (by omega)]; exact List.length_replicate
  apply List.ext_getElem
  · rw [zW_len, hl2]
  · intro i h1 h2
    have e1 := zW_get n o i hn ho 16 (by omega)
    have e2 := tM_get (List.replicate (16 * n) 0) n o i List.length_replicate hn 17 (by omega) ho
    rw [List.getD_eq_getElem?_getD, List.getElem?_eq_getElem h1, Option.getD_some] at e1
    rw [List.getD_eq_getElem?_getD, List.getElem?_eq_getElem h2, Option.getD_some] at e2
    rw [e1, e2]
    by_cases h : 16 * o ≤ i ∧ i < 16 * o + 16
    · rw [if_pos h, if_pos (by omega)]
    · rw [if_neg h, if_neg (by omega)]
      split
      · rfl
      · rw [List.getD_eq_getElem?_getD, List.getElem?_replicate]
        split <;> rfl
theorem frU_no (n o k : Nat) (who : Int) (hw : frOwns who) : ∀ x ∈ frU n o k who, x.owner = -1 → x = frNo := fun x hx he => by
  unfold frU at hx
  obtain ⟨i, hi, rfl⟩ := List.mem_map.1 hx
  have hne := frOwns_ne hw
  revert he
  split
  · intro he; exact absurd (show (3 : Int) = -1 from he) (by decide)
  · split
    · intro he; exact absurd he hne
    · intro _; rfl

def Z1To (n o mb fb fg : Nat) (mv : Value) (who : Int) (w : World) (i : Value) (wr : World) : Prop :=
  ∃ (k : Nat) (gv : Value), k ≤ 17 ∧ i = .int .i64 (k : Int) ∧ ZAt wr ⟨w.heap.size, mb, fb, fg, mv, gv⟩ n (List.replicate (16 * n) 0) (frU n o k who) (rngF o k) who ∧ Only (nz mv fg) w wr ∧ (∀ j, inRow gv j → w.heap.size ≤ j)
def Z3To (n o mb fb fg : Nat) (mv gv : Value) (who : Int) (w : World) (i : Value) (wr : World) : Prop :=
  ∃ k : Nat, k ≤ 17 ∧ i = .int .i64 (k : Int) ∧ ZAt wr ⟨w.heap.size, mb, fb, fg, mv, gv⟩ n (List.replicate (16 * n) 0) (frM n o k who) (rngF o 17) who ∧ Only (nz mv fg) w wr
def Z4To (n o mb fb fg : Nat) (mv gv : Value) (who : Int) (w : World) (i : Value) (wr : World) : Prop :=
  ∃ k : Nat, k ≤ 16 ∧ i = .int .i64 (k : Int) ∧ ZAt wr ⟨w.heap.size, mb, fb, fg, mv, gv⟩ n (zW n o k) (frM n o 17 who) (rngF o 17) who ∧ Only (nz mv fg) w wr
theorem zt_done {wr : World} {z : Zl} {n o k : Nat} {who : Int} (hk : k = 16) (h : ZAt wr z n (zW n o k) (frM n o 17 who) (rngF o 17) who) (hn : n ≤ 1024) (ho : o + 17 ≤ n) : ZtAt wr z (tNew n o who) := by
  have e : zW n o k = tM (List.replicate (16 * n) 0) o 17 := by rw [hk]; exact zW_tM n o hn ho
  rw [e] at h
  unfold ZtAt tNew
  dsimp only
  exact h
/-- what NewTables answers where there is room -/
def ZNewQ (n o mb fb fg : Nat) (mv : Value) (who : Int) (w : World) (y : Ending) (w' : World) : Prop := ∃ gv, y = .returned (.tuple #[.pointer (some ⟨w.heap.size, 0, none⟩), .int .i64 0]) ∧ ZtAt w' ⟨w.heap.size, mb, fb, fg, mv, gv⟩ (tNew n o who) ∧ Only (nz mv fg) w w' ∧ (∀ j, inRow gv j → w.heap.size ≤ j)

set_option maxRecDepth 100000 in
set_option maxHeartbeats 32000000 in
theorem znew_ok (n o mb fb fg : Nat) (mv : Value) (who : Int) (w : World) (hm : MAr w mb mv n (List.replicate (16 * n) 0)) (hf : FrAt 54 51 w fb fg n (frU n o 0 who)) (hap : (∀ k, inRow mv k → k ≠ fb ∧ k ≠ fg) ∧ fg ≠ mb) (hw : frOwns who) (hn : o + 17 ≤ n) (hn2 : n ≤ 1024) :
    Calls Tryd.prog 68 #[.pointer (some ⟨mb, 0, none⟩), .pointer (some ⟨fb, 0, none⟩), .int .i64 who] w (ZNewQ n o mb fb fg mv who w) := by
  obtain ⟨i0, hi, hz0, hz1, hz2⟩ := info_parts infoPInt
  obtain ⟨W1, hW1⟩ : ∃ W1, W1 = w.alloc (.cells #[.pointer (some ⟨mb, 0, none⟩), .pointer (some ⟨fb, 0, none⟩), .int .i64 who, .slice none 0 0] 137) := ⟨_, rfl⟩
  have hb1 : Below w.heap.size w W1 := hW1 ▸ (Below.refl _ _).alloc (Nat.le_refl _) _
  have hmb := blk_lt hm.1
  have hfl := hf.lt
  have hap1 : Zl.Apart ⟨w.heap.size, mb, fb, fg, mv, .slice none 0 0⟩ := by
    refine ⟨fun k h0 h1 => ?_, fun k h0 h2 => ?_, fun k h0 h3 => ?_, fun k h1 h2 => (hap.1 k h1).2 h2, fun k h1 h3 => ?_, fun k h2 h3 => ?_⟩
    · have h1' : inRow mv k := h1
      rcases h0 with h0 | h0
      · rw [show k = mb from h0] at h1'
        exact own_not hm.2.1 hm.1 (by decide) h1'
      · exact (hap.1 k h1').1 h0
    · have h2' : k = fg := h2
      rcases h0 with h0 | h0
      · exact hap.2 (h2'.symm.trans h0)
      · exact hf.2.2.1 ((show k = fb from h0) ▸ h2')
    · rcases h3 with h3 | h3
      · have h3' : k = w.heap.size := h3
        rcases h0 with h0 | h0
        · rw [show k = mb from h0] at h3'
          omega
        · rw [show k = fb from h0] at h3'
          omega
      · cases h3
    · rcases h3 with h3 | h3
      · have := own_lt hm.2.1 (show inRow mv k from h1)
        rw [show k = w.heap.size from h3] at this
        omega
      · cases h3
    · rcases h3 with h3 | h3
      · have h4 : k = w.heap.size := h3
        have h5 : k = fg := h2
        omega
      · cases h3
  have HST : Hid (Z1To n o mb fb fg mv who w (.int .i64 0) W1) := Lib.hid ⟨0, _, Nat.zero_le _, rfl, ⟨by rw [hW1]; exact blk_new w _, ⟨blk_below hm.1 hb1 hmb, own_only hm.2.1 (Only.of_below (F := fun _ => False) hb1) (fun _ _ h => h), hm.2.2⟩, hf.below hb1, own_nil _ _ _, hap1⟩, Only.of_below hb1, fun j h => by cases h⟩
  have HW1 := Lib.hid hW1
  clear hm hf hap hap1 hW1 hb1 hmb hfl
  go_enter Tryd.func68, Tryd.ntmps68
  go_wp2_with fail
  rw [← HW1.out]
  go_loopw [9] (fun i wr => Z1To n o mb fb fg mv who w i wr) (fun i _ => 17 - (intOf i).toNat)
  case atStart => exact HST.out
  case round =>
    obtain ⟨k, lv, hk, rfl, hN, ho, hlv⟩ := hrel
    have HN := Lib.hid hN
    have HO := Lib.hid ho
    have HLV := Lib.hid hlv
    clear HST
    by_cases hlt : k < 17
    · have hki : (k : Int) < 17 := by omega
      have ha := ralloc_any (frU n o k who) fb fg n who wr (frU_no n o k who hw) hN.fr
      rw [frU_alloc n o k who hw (by omega)] at ha
      obtain ⟨x, hx⟩ : ∃ x : Int, ((o + k : Nat) : Int) = x := ⟨_, rfl⟩
      rw [hx] at ha
      have HA := Lib.hid ha
      have HXE := Lib.hid hx
      clear ha hN ho hlv hx
      go_wp2_with fail
      refine HA.out.mono ?_
      rintro y w2 ⟨rfl, hf2, ho2⟩
      have HN2 := Lib.hid (HN.out.fr' ho2 hf2)
      have HO2 := Lib.hid (HO.out.trans (ho2.mono fun _ h => .inl (.inr h)))
      obtain ⟨-, -, -, c4, f4, ltb⟩ := HN2.out.cells
      have htl := HN2.out.gl
      rw [rngF_len] at htl
      obtain ⟨ao, cap, hlve⟩ := own_slice htl
      dsimp only at hlve c4
      subst hlve
      have HTL := Lib.hid htl
      have HNT : Hid (¬ inRow (.slice ao k cap) w.heap.size) := Lib.hid fun h => own_not htl HN2.out.row (by decide) h
      clear hf2 ho2 htl
      dsimp only
      go_wp2_with (at_builtin; refine wpList_append_sep _ rfl _ _ 37 rfl 3 i0 (.int .i64 0) 1 8 Tryd.underlying37 hi hz0 hz1 hz2 rfl (by decide) _ _ _ rfl (HTL.out.alloc _) ⟨w2.heap.size, 0, none⟩ 1 1 [.int .i64 x] rfl rfl (cell_one_new _ _ _) (by simp [Value.oneCell']) (by unfold maxLen; omega) (by omega) ?_)
      intro v' wx ho3 hg3 hs3
      obtain ⟨ao2, cap2, rfl⟩ := own_slice ho3
      have hbx := blk_grown (blk_old HN2.out.row (.cells #[.int .i64 x] 3)) hg3 HNT.out
      have cx := blk_cell hbx 3
      have fx := blk_free hbx 3
      have HON : Hid (Only (fun j => j = w.heap.size ∨ inRow (.slice ao k cap) j) w2 (wx.setCell ⟨w.heap.size, 3, none⟩ (.slice ao2 (k + 1) cap2))) := Lib.hid
        (Only.setCell (F := fun j => j = w.heap.size ∨ inRow (.slice ao k cap) j) ((Only.alloc _ w2 (.cells #[.int .i64 x] 3)).grown hg3 (fun j hj => .inl (.inr hj))) (p := ⟨w.heap.size, 3, none⟩) (.inl (.inl rfl)) _)
      have hs4 : ∀ j, inRow (.slice ao2 (k + 1) cap2) j → inRow (.slice ao k cap) j ∨ w2.heap.size ≤ j := fun j hj => by
        rcases hs3 j hj with h | h
        · exact .inl h
        · have h' := h
          try simp only [World.size_alloc] at h'
          exact .inr (by omega)
      have HN3 : Hid (ZAt (wx.setCell ⟨w.heap.size, 3, none⟩ (.slice ao2 (k + 1) cap2)) ⟨w.heap.size, mb, fb, fg, mv, .slice ao2 (k + 1) cap2⟩ n (List.replicate (16 * n) 0) (frU n o (k + 1) who) (rngF o (k + 1)) who) := Lib.hid (HN2.out.list' HON.out (by have := blk_put hbx 3 (.slice ao2 (k + 1) cap2); exact this) (by
        have e1 : ints (rngF o k) ++ [Value.int .i64 x] = ints (rngF o (k + 1)) := by rw [rngF_succ, HXE.out]; simp [ints]
        rw [e1] at ho3
        rw [rngF_len]
        exact own_set ho3 hbx (by decide) 3 _) hs4)
      have HO3 : Hid (Only (nz mv fg) w (wx.setCell ⟨w.heap.size, 3, none⟩ (.slice ao2 (k + 1) cap2))) := Lib.hid (HO2.out.trans' HON.out fun j hj => by
        rcases hj with hj | hj
        · exact .inr (by omega)
        · exact .inr (HLV.out j hj))
      have HLV3 : Hid (∀ j, inRow (.slice ao2 (k + 1) cap2) j → w.heap.size ≤ j) := Lib.hid fun j hj => by
        rcases hs4 j hj with h | h
        · exact HLV.out j h
        · have := HO2.out.size; omega
      clear ho3 hg3 hs3 hbx c4 f4 hs4
      go_wp2_with fail
      go_roundw
      case rel => exact ⟨k + 1, _, by omega, by go_num, HN3.out, HO3.out, HLV3.out⟩
      case measure => simp [intOf]; omega
    · have hk17 : k = 17 := by omega
      have hkn : ¬ (k : Int) < 17 := by omega
      have hN17 : ZAt wr ⟨w.heap.size, mb, fb, fg, mv, lv⟩ n (List.replicate (16 * n) 0) (frM n o 0 who) (rngF o 17) who := by
        rw [frM_zero, ← hk17]
        exact hN
      have hsh := own_shape hN17.gl
      rw [rngF_len] at hsh
      rcases hsh with ⟨-, hz, -⟩ | ⟨g, cap, hlve, -⟩
      · omega
      dsimp only at hlve
      subst hlve
      have HST3 : Hid (Z3To n o mb fb fg mv (.slice (some ⟨g, 0, none⟩) 17 cap) who w (.int .i64 0) wr) := Lib.hid ⟨0, Nat.zero_le _, rfl, hN17, ho⟩
      have HLV2 := Lib.hid hlv
      have HCL : Hid (∀ wx : World, wx.ownsRow 0 3 1 (.slice (some ⟨g, 0, none⟩) 17 cap) (rngF o 17).length (ints (rngF o 17)) → ∀ q, q < 17 → wx.cell? ⟨g, q, none⟩ = some (.int .i64 ((o + q : Nat) : Int)) ∧ g < wx.heap.size) := Lib.hid fun wx ht q hq => by
        rw [rngF_len] at ht
        exact ⟨by rw [own_cell ht q (by omega), ints_get' _ q (by rw [rngF_len]; exact hq), rngF_get o 17 q hq], own_lt ht (show inRow _ g from rfl)⟩
      clear hN hN17 ho hlv HN HO HLV hk17 hlt hk
      go_wp2_with fail
      go_loopw [13] (fun i wr => Z3To n o mb fb fg mv (.slice (some ⟨g, 0, none⟩) 17 cap) who w i wr) (fun i _ => 17 - (intOf i).toNat)
      case atStart => exact HST3.out
      case round =>
        obtain ⟨k, hk, rfl, hN, ho⟩ := hrel
        clear HST3
        by_cases hlt : k < 17
        · have hki : (k : Int) < 17 := by omega
          obtain ⟨x, hx⟩ : ∃ x : Int, ((o + k : Nat) : Int) = x := ⟨_, rfl⟩
          obtain ⟨q1, g1⟩ := HCL.out wr hN.gl k hlt
          rw [hx] at q1
          obtain ⟨-, -, -, c4, -, ltb⟩ := hN.cells
          have HFL : Hid (∀ wx, MAr wx mb mv n (List.replicate (16 * n) 0) → Calls Tryd.prog 92 #[.pointer (some ⟨mb, 0, none⟩), .int .i64 x, .slice none 0 0] wx fun e w' => e = .returned (.bool true) ∧ MAr w' mb mv n (List.replicate (16 * n) 0) ∧ Only (fun k => inRow mv k) wx w') := Lib.hid fun wx h => by
            have := mr_fill_ok (List.replicate (16 * n) 0) [] mb n (o + k) 0 0 none mv wx h hn2 (by omega) (atL_nil _ _) rfl (by decide) (fun a h => by omega)
            rw [fill_zero n (o + k) (by omega), hx] at this
            exact this
          obtain ⟨kd, hkd⟩ : ∃ kd : Int, (if k = 0 then 1 else 2) = kd := ⟨_, rfl⟩
          have HMK : Hid (∀ wx, FrAt 54 51 wx fb fg n (frM n o k who) → Calls Tryd.prog 55 #[.pointer (some ⟨fb, 0, none⟩), .int .i64 x, .int .i64 who, .int .i64 kd] wx (FrN 54 51 fb fg n ⟨((frM n o k who).set (o + k) ⟨who, kd, 0, 0⟩), 0, 0⟩ wx)) := Lib.hid fun wx h => by
            have := rmake_any (frM n o k who) fb fg n ((o + k : Nat) : Int) who kd wx h
            unfold frMake at this
            rw [if_pos (by rw [← hkd]; split <;> simp), ← hkd, frM_make n o k who hw hn hlt, hx, hkd] at this
            exact this
          have HUS : Hid (∀ wx, FrAt 54 51 wx fb fg n ((frM n o k who).set (o + k) ⟨who, kd, 0, 0⟩) → Calls Tryd.prog 59 #[.pointer (some ⟨fb, 0, none⟩), .int .i64 x] wx (FrN 54 51 fb fg n ⟨frM n o (k + 1) who, 0, 0⟩ wx)) := Lib.hid fun wx h => by
            have := ruse_any ((frM n o k who).set (o + k) ⟨who, kd, 0, 0⟩) fb fg n ((o + k : Nat) : Int) wx (fr_bounds1 n o k who kd (by omega)) h
            have e := frM_use n o k who hw hn hlt
            rw [hkd] at e
            rw [e, hx] at this
            exact this
          have HN := Lib.hid hN
          have HO := Lib.hid ho
          have HKD := Lib.hid hkd
          clear hN ho hx hkd
          by_cases hk0 : k = 0
          · obtain rfl : kd = 1 := by rw [← HKD.out, if_pos hk0]
            have hk0b : ((k : Int) == 0) = true := by simp [hk0]
            have HK0 := Lib.hid hk0
            clear hk0
            go_wp2_with fail
            refine (HFL.out _ HN.out.mem).mono ?_
            rintro y w2 ⟨rfl, hm2, ho2⟩
            have HN2 := Lib.hid (HN.out.mem' ho2 hm2)
            have HO2 := Lib.hid (HO.out.trans (ho2.mono fun _ h => .inl (.inl h)))
            clear hm2 ho2 q1 g1 c4 ltb
            go_wp2_with fail
            refine (HMK.out _ HN2.out.fr).mono ?_
            rintro y w3 ⟨rfl, hf3, ho3⟩
            have HN3 := Lib.hid (HN2.out.fr' ho3 hf3)
            have HO3 := Lib.hid (HO2.out.trans (ho3.mono fun _ h => .inl (.inr h)))
            clear hf3 ho3
            go_wp2_with fail
            refine (HUS.out _ HN3.out.fr).mono ?_
            rintro y w4 ⟨rfl, hf4, ho4⟩
            have HN4 := Lib.hid (HN3.out.fr' ho4 hf4)
            have HO4 := Lib.hid (HO3.out.trans (ho4.mono fun _ h => .inl (.inr h)))
            clear hf4 ho4
            go_wp2_with fail
            go_roundw
            case rel => exact ⟨k + 1, by omega, by go_num, HN4.out, HO4.out⟩
            case measure => simp [intOf]; omega
          · obtain rfl : kd = 2 := by rw [← HKD.out, if_neg hk0]
            have hk0b : ((k : Int) == 0) = false := by simp; omega
            have HK0 := Lib.hid hk0
            clear hk0
            go_wp2_with fail
            refine (HFL.out _ HN.out.mem).mono ?_
            rintro y w2 ⟨rfl, hm2, ho2⟩
            have HN2 := Lib.hid (HN.out.mem' ho2 hm2)
            have HO2 := Lib.hid (HO.out.trans (ho2.mono fun _ h => .inl (.inl h)))
            clear hm2 ho2 q1 g1 c4 ltb
            go_wp2_with fail
            refine (HMK.out _ HN2.out.fr).mono ?_
            rintro y w3 ⟨rfl, hf3, ho3⟩
            have HN3 := Lib.hid (HN2.out.fr' ho3 hf3)
            have HO3 := Lib.hid (HO2.out.trans (ho3.mono fun _ h => .inl (.inr h)))
            clear hf3 ho3
            go_wp2_with fail
            refine (HUS.out _ HN3.out.fr).mono ?_
            rintro y w4 ⟨rfl, hf4, ho4⟩
            have HN4 := Lib.hid (HN3.out.fr' ho4 hf4)
            have HO4 := Lib.hid (HO3.out.trans (ho4.mono fun _ h => .inl (.inr h)))
            clear hf4 ho4
            go_wp2_with fail
            go_roundw
            case rel => exact ⟨k + 1, by omega, by go_num, HN4.out, HO4.out⟩
            case measure => simp [intOf]; omega
        · have hkn3 : ¬ (k : Int) < 17 := by omega
          have hk17 : k = 17 := by omega
          subst hk17
          have HST4 : Hid (Z4To n o mb fb fg mv (.slice (some ⟨g, 0, none⟩) 17 cap) who w (.int .i64 0) wr) := Lib.hid ⟨0, Nat.zero_le _, rfl, hN, ho⟩
          clear hN ho hk hlt
          go_wp2_with fail
          go_loopw [16] (fun i wr => Z4To n o mb fb fg mv (.slice (some ⟨g, 0, none⟩) 17 cap) who w i wr) (fun i _ => 16 - (intOf i).toNat)
          case atStart => exact HST4.out
          case round =>
            obtain ⟨k, hk, rfl, hN, ho⟩ := hrel
            clear HST4
            by_cases hlt : k < 16
            · have hki : (k : Int) < 16 := by omega
              have hk0i : (0 : Int) ≤ (k : Int) := by omega
              obtain ⟨q0, g0⟩ := HCL.out wr hN.gl 0 (by omega)
              obtain ⟨q1, -⟩ := HCL.out wr hN.gl (k + 1) (by omega)
              rw [Nat.add_zero] at q0
              obtain ⟨x, hx⟩ : ∃ x : Int, ((o + (k + 1) : Nat) : Int) = x := ⟨_, rfl⟩
              rw [hx] at q1
              obtain ⟨oi, hoi⟩ : ∃ oi : Int, ((o : Nat) : Int) = oi := ⟨_, rfl⟩
              have hoir : 0 ≤ oi ∧ oi < 1024 := by omega
              rw [hoi] at q0
              have wm := IntWalk.i64_in (oi * 16) (by omega)
              have wmk := IntWalk.i64_in (oi * 16 + (k : Int)) (by omega)
              have wk1 := IntWalk.i64_in ((k : Int) + 1) (by omega)
              have hk17 : (k : Int) + 1 < 17 := by omega
              have hk1n : ((k : Int) + 1).toNat = k + 1 := by omega
              have hk10 : (0 : Int) ≤ (k : Int) + 1 := by omega
              obtain ⟨-, -, -, c4, -, ltb⟩ := hN.cells
              dsimp only at c4
              have HN := Lib.hid hN
              have HO := Lib.hid ho
              have HDW : Hid (Below wr.heap.size wr wr.drew) := Lib.hid (Below.refl _ _).drew
              have HBI := Lib.hid (fun wx => zbits_any x true wx)
              have HWM : Hid (writeL (zW n o k) (oi * 16 + (k : Int)) (bitsA ⟨x, true, true, true⟩).1 = zW n o (k + 1)) := Lib.hid (by rw [← hx, ← hoi]; rfl)
              have HWR := Lib.hid (fun wx (hx : Below wr.heap.size wr wx) => mr_write (zW n o k) mb n mv (oi * 16 + (k : Int)) (bitsA ⟨x, true, true, true⟩).1 wx (hN.below hx).mem)
              clear hN ho hx hoi
              go_wp2_with fail
              go_region_with (first | (go_at_call 94; refine (HBI.out _).mono ?_; rintro e w3 ⟨rfl, hb3⟩; have HBW : Hid (Below wr.heap.size wr w3) := Lib.hid (by first | exact hb3 | exact HDW.out.trans (hb3.mono HDW.out.size)); have c4w := cell_under c4 HBW.out; have q0w := cell_under q0 HBW.out; have q1w := cell_under q1 HBW.out; have ltw : w.heap.size < w3.heap.size := Nat.lt_of_lt_of_le ltb HBW.out.size; have g0w : g < w3.heap.size := Nat.lt_of_lt_of_le g0 HBW.out.size) | (go_at_call 93; refine (HWR.out _ (by first | exact HBW.out | exact HBW.out.drew)).mono ?_; rintro e w4 ⟨rfl, hm4, ho4⟩))
              all_goals
                rw [HWM.out] at hm4
                have HN4 : Hid (ZAt w4 ⟨w.heap.size, mb, fb, fg, mv, .slice (some ⟨g, 0, none⟩) 17 cap⟩ n (zW n o (k + 1)) (frM n o 17 who) (rngF o 17) who) := Lib.hid (by first | exact (HN.out.below HBW.out).mem' ho4 hm4 | exact (HN.out.below HBW.out.drew).mem' ho4 hm4)
                have HO4 : Hid (Only (nz mv fg) w w4) := Lib.hid (by first | exact (HO.out.below' HBW.out).trans (ho4.mono fun _ h => .inl (.inl h)) | exact (HO.out.below' HBW.out.drew).trans (ho4.mono fun _ h => .inl (.inl h)))
                clear hb3 hm4 ho4 q0 q1 g0 c4 ltb c4w q0w q1w ltw g0w
                go_wp2_with fail
                go_roundw
                case rel => exact ⟨k + 1, by omega, by go_num, HN4.out, HO4.out⟩
                case measure => simp [intOf]; omega
            · have hk16 : k = 16 := by omega
              have hkn4 : ¬ (k : Int) < 16 := by omega
              have HZ := Lib.hid (zt_done hk16 hN hn2 hn)
              have HO := Lib.hid ho
              clear hN ho hk16
              go_wp2
              go_ret2
              exact ⟨_, rfl, HZ.out, HO.out, HLV2.out⟩
end Go.Proofs.YtaoaachgnnengaaDoor

