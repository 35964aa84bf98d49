/-
  Parts of one proof, one behind the other.
-/
import Derived.Test.YtaoaachgnnengaaDoorMg6c021f2af2
import Derived.Test.YtaoaachgnnengaaDoorMg14c76af940
import Derived.Test.YtaoaachgnnengaaDoorMg8cf07c6ba3
/-
  The guest's tables and the document's, side by side: each stays where the other one is written.
-/
namespace Go.Proofs.YtaoaachgnnengaaDoor
open Go.RowKit

structure Tw (w0 wr : World) (p : Pl) (z : Zl) (sp sz : Ts) : Prop where
  pt : PtAt wr p sp
  zt : ZtAt wr z sz
  ap : ∀ k, (p.z0 k ∨ p.zw k) → ¬ (z.z0 k ∨ z.zw k)
  pb : ∀ k, p.zw k → w0.heap.size ≤ k
  zb : ∀ k, z.zw k → w0.heap.size ≤ k
  b : Below w0.heap.size w0 wr
theorem zw_z1 {p : Pl} {k : Nat} (h : p.z1 k) : p.zw k := .inl h
theorem zw_z2 {p : Pl} {k : Nat} (h : p.z2 k) : p.zw k := .inr (.inl h)
theorem zw_z3 {p : Pl} {k : Nat} (h : p.z3 k) : p.zw k := by
  rcases h with h | h
  · exact .inr (.inr (.inl h))
  · exact .inr (.inr (.inr h))
theorem zw_all {p : Pl} {k : Nat} (h : p.z0 k ∨ p.zw k) : p.z0 k ∨ p.z1 k ∨ p.z2 k ∨ p.z3 k := by
  rcases h with h | h | h | h | h
  · exact .inl h
  · exact .inr (.inl h)
  · exact .inr (.inr (.inl h))
  · exact .inr (.inr (.inr (.inl h)))
  · exact .inr (.inr (.inr (.inr h)))
theorem ztw_all {z : Zl} {k : Nat} (h : z.z0 k ∨ z.zw k) : z.z0 k ∨ z.z1 k ∨ z.z2 k ∨ z.z3 k := h
theorem Tw.plt {w0 wr : World} {p : Pl} {z : Zl} {sp sz : Ts} (h : Tw w0 wr p z sp sz) (k : Nat) (hk : p.z0 k ∨ p.zw k) : k < wr.heap.size := h.pt.lt k (zw_all hk)
theorem Tw.zlt {w0 wr : World} {p : Pl} {z : Zl} {sp sz : Ts} (h : Tw w0 wr p z sp sz) (k : Nat) (hk : z.z0 k ∨ z.zw k) : k < wr.heap.size := ZAt.lt h.zt k (ztw_all hk)
theorem Tw.below {w0 wr w' : World} {p : Pl} {z : Zl} {sp sz : Ts} (h : Tw w0 wr p z sp sz) (hb : Below wr.heap.size wr w') : Tw w0 w' p z sp sz :=
  ⟨h.pt.below hb, ZAt.below h.zt hb, h.ap, h.pb, h.zb, h.b.trans (hb.mono h.b.size)⟩
theorem Tw.other {G : Nat → Prop} {w0 wr w' : World} {p : Pl} {z : Zl} {sp sz : Ts} (h : Tw w0 wr p z sp sz) (ho : Only G wr w') (hp : ∀ k, (p.z0 k ∨ p.zw k) → ¬ G k) (hz : ∀ k, (z.z0 k ∨ z.zw k) → ¬ G k) (hb : ∀ k, G k → w0.heap.size ≤ k) : Tw w0 w' p z sp sz :=
  ⟨h.pt.keep ho (fun k hk => hp k (.inl hk)) (fun k hk => hp k (.inr (zw_z1 hk))) (fun k hk => hp k (.inr (zw_z2 hk))) (fun k hk => hp k (.inr (zw_z3 hk))), ZAt.keep h.zt ho (fun k hk => hz k (.inl hk)) (fun k hk => hz k (.inr (.inl hk))) (fun k hk => hz k (.inr (.inr (.inl hk)))) (fun k hk => hz k (.inr (.inr (.inr hk)))), h.ap, h.pb, h.zb, h.b.trans (ho.below h.b.size hb)⟩
theorem Tw.pOp {w0 wr w' : World} {p : Pl} {z : Zl} {sp sz sp' : Ts} (h : Tw w0 wr p z sp sz) (hp : PtAt w' p sp') (ho : Only p.zw wr w') : Tw w0 w' p z sp' sz :=
  ⟨hp, ZAt.keep h.zt ho (fun k hk hz => h.ap k (.inr hz) (.inl hk)) (fun k hk hz => h.ap k (.inr hz) (.inr (.inl hk))) (fun k hk hz => h.ap k (.inr hz) (.inr (.inr (.inl hk)))) (fun k hk hz => h.ap k (.inr hz) (.inr (.inr (.inr hk)))), h.ap, h.pb, h.zb, h.b.trans (ho.below h.b.size h.pb)⟩
theorem Tw.zOp {w0 wr w' : World} {p : Pl} {z : Zl} {sp sz sz' : Ts} (h : Tw w0 wr p z sp sz) (hz : ZtAt w' z sz') (ho : Only z.zw wr w') : Tw w0 w' p z sp sz' :=
  ⟨h.pt.keep ho (fun k hk hz => h.ap k (.inl hk) (.inr hz)) (fun k hk hz => h.ap k (.inr (zw_z1 hk)) (.inr hz)) (fun k hk hz => h.ap k (.inr (zw_z2 hk)) (.inr hz)) (fun k hk hz => h.ap k (.inr (zw_z3 hk)) (.inr hz)), hz, h.ap, h.pb, h.zb, h.b.trans (ho.below h.b.size h.zb)⟩
theorem Tw.pAdd {w0 wr w' : World} {p : Pl} {z : Zl} {sp sz sp' : Ts} {pv' : Value} (h : Tw w0 wr p z sp sz) (hp : PtAt w' { p with pv := pv' } sp') (ho : Only p.zw wr w') (hr : ∀ k, inRow pv' k → inRow p.pv k ∨ wr.heap.size ≤ k) : Tw w0 w' { p with pv := pv' } z sp' sz := by
  have hk : ∀ k, Pl.zw { p with pv := pv' } k → p.zw k ∨ wr.heap.size ≤ k := fun k hk => by
    rcases hk with hk | hk | hk | hk
    · exact .inl (.inl hk)
    · exact .inl (.inr (.inl hk))
    · exact .inl (.inr (.inr (.inl hk)))
    · rcases hr k hk with h' | h'
      · exact .inl (.inr (.inr (.inr h')))
      · exact .inr h'
  refine ⟨hp, ZAt.keep h.zt ho (fun k hk hz => h.ap k (.inr hz) (.inl hk)) (fun k hk hz => h.ap k (.inr hz) (.inr (.inl hk))) (fun k hk hz => h.ap k (.inr hz) (.inr (.inr (.inl hk)))) (fun k hk hz => h.ap k (.inr hz) (.inr (.inr (.inr hk)))), fun k h1 h2 => ?_, fun k h1 => ?_, h.zb, h.b.trans (ho.below h.b.size h.pb)⟩
  · rcases h1 with h1 | h1
    · exact h.ap k (.inl h1) h2
    · rcases hk k h1 with h3 | h3
      · exact h.ap k (.inr h3) h2
      · have := h.zlt k h2
        omega
  · rcases hk k h1 with h3 | h3
    · exact h.pb k h3
    · exact Nat.le_trans h.b.size h3
theorem Tw.zAdd {w0 wr w' : World} {p : Pl} {z : Zl} {sp sz sz' : Ts} {gv' : Value} (h : Tw w0 wr p z sp sz) (hz : ZtAt w' { z with gv := gv' } sz') (ho : Only z.zw wr w') (hr : ∀ k, inRow gv' k → inRow z.gv k ∨ wr.heap.size ≤ k) : Tw w0 w' p { z with gv := gv' } sp sz' := by
  have hk : ∀ k, Zl.zw { z with gv := gv' } k → z.zw k ∨ wr.heap.size ≤ k := fun k hk => by
    rcases hk with hk | hk | hk | hk
    · exact .inl (.inl hk)
    · exact .inl (.inr (.inl hk))
    · exact .inl (.inr (.inr (.inl hk)))
    · rcases hr k hk with h' | h'
      · exact .inl (.inr (.inr (.inr h')))
      · exact .inr h'
  refine ⟨h.pt.keep ho (fun k hk hz => h.ap k (.inl hk) (.inr hz)) (fun k hk hz => h.ap k (.inr (zw_z1 hk)) (.inr hz)) (fun k hk hz => h.ap k (.inr (zw_z2 hk)) (.inr hz)) (fun k hk hz => h.ap k (.inr (zw_z3 hk)) (.inr hz)), hz, fun k h1 h2 => ?_, h.pb, fun k h1 => ?_, h.b.trans (ho.below h.b.size h.zb)⟩
  · rcases h2 with h2 | h2
    · exact h.ap k h1 (.inl h2)
    · rcases hk k h2 with h3 | h3
      · exact h.ap k h1 (.inr h3)
      · have := h.plt k h1
        omega
  · rcases hk k h1 with h3 | h3
    · exact h.zb k h3
    · exact Nat.le_trans h.b.size h3
theorem Tw.errs {w0 wr : World} {p : Pl} {z : Zl} {sp sz : Ts} {E : Nat → Addr} (h : Tw w0 wr p z sp sz) (hE : ∀ wx, Below w0.heap.size w0 wx → ErrsAt errT gOf wx E nine) : ErrsK E p wr :=
  fun wx ho => hE wx (h.b.trans (ho.below h.b.size h.pb))
/-- frames more -/
def addN (s : Ts) : Nat → Ts
  | 0 => s
  | k + 1 => (tAdd (addN s k)).1
theorem tAdd_who (s : Ts) : (tAdd s).1.who = s.who := by
  unfold tAdd
  split
  · rfl
  · split <;> rfl
theorem addN_inv {m : Int} {s : Ts} (h : TInv m s) (hw : s.who ≠ -1) : ∀ k : Nat, TInv (m + (k : Int)) (addN s k) ∧ (addN s k).who = s.who
  | 0 => ⟨by rw [show m + ((0 : Nat) : Int) = m by omega]; exact h, rfl⟩
  | k + 1 => by
    obtain ⟨h1, h2⟩ := addN_inv h hw k
    refine ⟨?_, (tAdd_who _).trans h2⟩
    rw [show m + ((k + 1 : Nat) : Int) = m + (k : Int) + 1 by omega]
    exact tAdd_inv h1 (by rw [h2]; exact hw)
/-- what errors may be -/
def okC (c : Int) : Prop := c = 0 ∨ (101 ≤ c ∧ c ≤ 116)
theorem ok102 : okC 102 := .inr ⟨by decide, by decide⟩
theorem ok103 : okC 103 := .inr ⟨by decide, by decide⟩
theorem ok104 : okC 104 := .inr ⟨by decide, by decide⟩
theorem ok107 : okC 107 := .inr ⟨by decide, by decide⟩
theorem ok110 : okC 110 := .inr ⟨by decide, by decide⟩
theorem ok111 : okC 111 := .inr ⟨by decide, by decide⟩
theorem ok113 : okC 113 := .inr ⟨by decide, by decide⟩
theorem tDrop_c (s : Ts) (page : Int) : okC (tDrop s page).2 := by
  unfold tDrop
  split
  · split
    · exact .inl rfl
    · exact .inl rfl
  · first | exact ok103 | exact ok107 | exact ok110 | exact ok111 | exact ok113 | exact ok104 | exact ok102
theorem tSetR_c (s : Ts) (frame : Int) (w : Bool) : okC (tSetR s frame w).c := by
  unfold tSetR frThere
  split
  · first | exact ok103 | exact ok107 | exact ok110 | exact ok111 | exact ok113 | exact ok104 | exact ok102
  · cases w
    · exact .inl rfl
    · show okC (kWrite _).2
      unfold kWrite
      split
      · first | exact ok103 | exact ok107 | exact ok110 | exact ok111 | exact ok113 | exact ok104 | exact ok102
      · exact .inl rfl
theorem tSet_c (s : Ts) (page frame : Int) (w : Bool) : okC (tSet s page frame w).2 := by
  unfold tSet
  split
  · exact .inl rfl
  · exact tSetR_c s frame w
theorem tPut_c (s : Ts) (page : Int) (e : Ent) : okC (tPut s page e).2 := by
  unfold tPut
  split
  · split
    · split
      · split
        · exact tSet_c _ _ _ _
        · first | exact ok103 | exact ok107 | exact ok110 | exact ok111 | exact ok113 | exact ok104 | exact ok102
      · first | exact ok103 | exact ok107 | exact ok110 | exact ok111 | exact ok113 | exact ok104 | exact ok102
    · split
      · exact tDrop_c _ _
      · first | exact ok103 | exact ok107 | exact ok110 | exact ok111 | exact ok113 | exact ok104 | exact ok102
  · first | exact ok103 | exact ok107 | exact ok110 | exact ok111 | exact ok113 | exact ok104 | exact ok102
theorem tLend_c (s : Ts) (page frame : Int) (w : Bool) : okC (tLend s page frame w).2 := by
  unfold tLend
  split
  · split
    · exact tSet_c _ _ _ _
    · first | exact ok103 | exact ok107 | exact ok110 | exact ok111 | exact ok113 | exact ok104 | exact ok102
  · first | exact ok103 | exact ok107 | exact ok110 | exact ok111 | exact ok113 | exact ok104 | exact ok102
theorem tAdd_c (s : Ts) : okC (tAdd s).2.2 := by
  unfold tAdd
  split
  · first | exact ok103 | exact ok107 | exact ok110 | exact ok111 | exact ok113 | exact ok104 | exact ok102
  · split
    · exact .inl rfl
    · unfold tAddR frAlloc
      split
      · split
        · first | exact ok103 | exact ok107 | exact ok110 | exact ok111 | exact ok113 | exact ok104 | exact ok102
        · exact .inl rfl
      · first | exact ok103 | exact ok107 | exact ok110 | exact ok111 | exact ok113 | exact ok104 | exact ok102
end Go.Proofs.YtaoaachgnnengaaDoor

/-
  The document's tables: bits.
-/
namespace Go.Proofs.YtaoaachgnnengaaDoor
open Go.RowKit

set_option maxHeartbeats 800000 in
theorem zbits_any (f : Int) (b : Bool) (w : World) : Calls Tryd.prog 94 #[.int .i64 f, .bool b] w fun y w' => y = .returned (.int .u32 (bitsA ⟨f, true, b, true⟩).1) ∧ Below w.heap.size w w' := by
  have HR := Lib.hid (rbits_any ⟨f, true, b, true⟩)
  unfold wordV Ent.v at HR
  dsimp only at HR
  go_enter Tryd.func94, Tryd.ntmps94
  go_wp2_with fail
  refine (HR.out _).mono ?_
  rintro y w1 ⟨rfl, hb⟩
  have HB := Lib.hid hb
  clear hb
  go_wp2
  go_ret
  exact ⟨rfl, HB.out⟩
end Go.Proofs.YtaoaachgnnengaaDoor

/-
  Tables while they are made: where their parts lie.
-/
namespace Go.Proofs.YtaoaachgnnengaaDoor
open Go.RowKit

structure NAt (w : World) (p : Pl) (n : Nat) (M : List Int) (F : List Fr) (P T : List Int) (who : Int) : Prop where
  row : w.heap[p.tb]? = some (.cells (ptCells p who) 113 (0, 0))
  mem : MAt w p.mb p.mv n M
  fr : FrAt 95 33 w p.fb p.fg n F
  pm : PAt w p.pb p.pv P
  tl : w.ownsRow 0 3 1 p.lv T.length (ints T)
  apart : p.Apart
theorem NAt.keep {G : Nat → Prop} {w w' : World} {p : Pl} {n : Nat} {M : List Int} {F : List Fr} {P T : List Int} {who : Int} (h : NAt w p n M F P T who) (ho : Only G w w') (h0 : ∀ k, p.z0 k → ¬ G k) (h1 : ∀ k, p.z1 k → ¬ G k) (h2 : ∀ k, p.z2 k → ¬ G k) (h3 : ∀ k, p.z3 k → ¬ G k) : NAt w' p n M F P T who :=
  ⟨ho.blk h.row (h0 _ (.inl rfl)), h.mem.only ho (h0 _ (.inr (.inl rfl))) h1, h.fr.only ho (h0 _ (.inr (.inr (.inl rfl)))) (h2 _ rfl), h.pm.only ho (h3 _ (.inl rfl)) (fun k hk => h3 k (.inr hk)), own_only h.tl ho (fun k hk => h0 k (.inr (.inr (.inr hk)))), h.apart⟩
theorem NAt.below {w w' : World} {p : Pl} {n : Nat} {M : List Int} {F : List Fr} {P T : List Int} {who : Int} (h : NAt w p n M F P T who) (hb : Below w.heap.size w w') : NAt w' p n M F P T who :=
  h.keep (G := fun _ => False) (Only.of_below hb) (fun _ _ h => h) (fun _ _ h => h) (fun _ _ h => h) (fun _ _ h => h)
theorem NAt.mem' {w w' : World} {p : Pl} {n : Nat} {M M' : List Int} {F : List Fr} {P T : List Int} {who : Int} (h : NAt w p n M F P T who) (ho : Only (fun k => inRow p.mv k) w w') (hm : MAt w' p.mb p.mv n M') : NAt w' p n M' F P T who :=
  ⟨ho.blk h.row (h.apart.a01 _ (.inl rfl)), hm, h.fr.only ho (h.apart.a01 _ (.inr (.inr (.inl rfl)))) (fun h' => h.apart.a12 _ h' rfl), h.pm.only ho (fun h' => h.apart.a13 _ h' (.inl rfl)) (fun k hk h' => h.apart.a13 _ h' (.inr hk)), own_only h.tl ho (fun k hk => h.apart.a01 k (.inr (.inr (.inr hk)))), h.apart⟩
theorem NAt.fr' {w w' : World} {p : Pl} {n : Nat} {M : List Int} {F F' : List Fr} {P T : List Int} {who : Int} (h : NAt w p n M F P T who) (ho : Only (fun k => k = p.fg) w w') (hm : FrAt 95 33 w' p.fb p.fg n F') : NAt w' p n M F' P T who :=
  ⟨ho.blk h.row (h.apart.a02 _ (.inl rfl)), h.mem.only ho (h.apart.a02 _ (.inr (.inl rfl))) (fun k hk h' => h.apart.a12 _ hk h'), hm, h.pm.only ho (fun h' => h.apart.a23 _ h' (.inl rfl)) (fun k hk h' => h.apart.a23 _ h' (.inr hk)), own_only h.tl ho (fun k hk => h.apart.a02 k (.inr (.inr (.inr hk)))), h.apart⟩
theorem NAt.lt {w : World} {p : Pl} {n : Nat} {M : List Int} {F : List Fr} {P T : List Int} {who : Int} (h : NAt w p n M F P T who) : ∀ k, (p.z0 k ∨ p.z1 k ∨ p.z2 k ∨ p.z3 k) → k < w.heap.size := fun k hk => by
  rcases hk with (rfl | rfl | rfl | hk) | hk | hk | (rfl | hk)
  · exact blk_lt h.row
  · exact blk_lt h.mem.1
  · exact h.fr.lt.1
  · exact own_lt h.tl hk
  · exact own_lt h.mem.2.1 hk
  · rw [show k = p.fg from hk]; exact h.fr.lt.2
  · exact blk_lt h.pm.1
  · exact own_lt h.pm.2 hk
/-- the map has another one -/
theorem NAt.pm' {w w' : World} {p : Pl} {n : Nat} {M : List Int} {F : List Fr} {P P' T : List Int} {who : Int} {pv' : Value} (h : NAt w p n M F P T who) (ho : Only (fun k => k = p.pb ∨ inRow p.pv k) w w') (hm : PAt w' p.pb pv' P') (hr : ∀ k, inRow pv' k → inRow p.pv k ∨ w.heap.size ≤ k) : NAt w' { p with pv := pv' } n M F P' T who := by
  have hz3 : ∀ k, Pl.z3 { p with pv := pv' } k → p.z3 k ∨ w.heap.size ≤ k := fun k hk => by
    rcases hk with hk | hk
    · exact .inl (.inl hk)
    · rcases hr k hk with h | h
      · exact .inl (.inr h)
      · exact .inr h
  exact ⟨ho.blk h.row (fun h' => h.apart.a03 p.tb (.inl rfl) h'), h.mem.only ho (fun h' => h.apart.a03 p.mb (.inr (.inl rfl)) h') (fun k hk h' => h.apart.a13 _ hk h'), h.fr.only ho (fun h' => h.apart.a03 p.fb (.inr (.inr (.inl rfl))) h') (fun h' => h.apart.a23 p.fg rfl h'), hm, own_only h.tl ho (fun k hk h' => h.apart.a03 k (.inr (.inr (.inr hk))) h'),
    ⟨h.apart.a01, h.apart.a02, fun k h0 h3 => by
      rcases hz3 k h3 with h' | h'
      · exact h.apart.a03 k h0 h'
      · have := h.lt k (.inl h0); omega, h.apart.a12, fun k h0 h3 => by
      rcases hz3 k h3 with h' | h'
      · exact h.apart.a13 k h0 h'
      · have := h.lt k (.inr (.inl h0)); omega, fun k h0 h3 => by
      rcases hz3 k h3 with h' | h'
      · exact h.apart.a23 k h0 h'
      · have := h.lt k (.inr (.inr (.inl h0))); omega⟩⟩
/-- the list has another one -/
theorem NAt.list' {w w' : World} {p : Pl} {n : Nat} {M : List Int} {F : List Fr} {P T T' : List Int} {who : Int} {lv' : Value} (h : NAt w p n M F P T who) (ho : Only (fun k => k = p.tb ∨ inRow p.lv k) w w') (hrow : w'.heap[p.tb]? = some (.cells (ptCells { p with lv := lv' } who) 113 (0, 0))) (ht : w'.ownsRow 0 3 1 lv' T'.length (ints T')) (hmb : p.mb ≠ p.tb ∧ ¬ inRow p.lv p.mb) (hfb : p.fb ≠ p.tb ∧ ¬ inRow p.lv p.fb) (hr : ∀ k, inRow lv' k → inRow p.lv k ∨ w.heap.size ≤ k) : NAt w' { p with lv := lv' } n M F P T' who := by
  have hG : ∀ k, (k = p.tb ∨ inRow p.lv k) → p.z0 k := fun k hk => by
    rcases hk with hk | hk
    · exact .inl hk
    · exact .inr (.inr (.inr hk))
  have hz0 : ∀ k, Pl.z0 { p with lv := lv' } k → p.z0 k ∨ w.heap.size ≤ k := fun k hk => by
    rcases hk with hk | hk | hk | hk
    · exact .inl (.inl hk)
    · exact .inl (.inr (.inl hk))
    · exact .inl (.inr (.inr (.inl hk)))
    · rcases hr k hk with h | h
      · exact .inl (.inr (.inr (.inr h)))
      · exact .inr h
  exact ⟨hrow, h.mem.only ho (fun h' => by rcases h' with h' | h'; exact hmb.1 h'; exact hmb.2 h') (fun k hk h' => h.apart.a01 k (hG k h') hk), h.fr.only ho (fun h' => by rcases h' with h' | h'; exact hfb.1 h'; exact hfb.2 h') (fun h' => h.apart.a02 _ (hG _ h') rfl), h.pm.only ho (fun h' => h.apart.a03 _ (hG _ h') (.inl rfl)) (fun k hk h' => h.apart.a03 _ (hG _ h') (.inr hk)), ht,
    ⟨fun k h0 h1 => by
      rcases hz0 k h0 with h' | h'
      · exact h.apart.a01 k h' h1
      · have := h.lt k (.inr (.inl h1)); omega, fun k h0 h1 => by
      rcases hz0 k h0 with h' | h'
      · exact h.apart.a02 k h' h1
      · have := h.lt k (.inr (.inr (.inl h1))); omega, fun k h0 h1 => by
      rcases hz0 k h0 with h' | h'
      · exact h.apart.a03 k h' h1
      · have := h.lt k (.inr (.inr (.inr h1))); omega, h.apart.a12, h.apart.a13, h.apart.a23⟩⟩
theorem NAt.done {w : World} {p : Pl} {n : Nat} {M : List Int} {F : List Fr} {P T : List Int} {who : Int} (h : NAt w p n M F P T who) (hT : T = P.take 17) (hl : T.length = 17) : PtAt w p ⟨n, M, F, P, who⟩ :=
  ⟨h.row, h.mem, h.fr, h.pm, by rw [← hT, ← hl]; exact h.tl, h.apart⟩
theorem NAt.cells {w : World} {p : Pl} {n : Nat} {M : List Int} {F : List Fr} {P T : List Int} {who : Int} (h : NAt w p n M F P T who) : w.cell? ⟨p.tb, 3, none⟩ = some (.pointer (some ⟨p.pb, 0, none⟩)) ∧ w.cell? ⟨p.tb, 4, none⟩ = some p.lv ∧ w.frozen? ⟨p.tb, 4, none⟩ = false :=
  ⟨blk_cell h.row 3, blk_cell h.row 4, blk_free h.row 4⟩
end Go.Proofs.YtaoaachgnnengaaDoor

/-
  pt.New, where there is room.
-/
namespace Go.Proofs.YtaoaachgnnengaaDoor
open Go.RowKit

def nz (mv : Value) (fg k : Nat) : Prop := inRow mv k ∨ k = fg
/-- frames taken, so far -/
def L1To (n o mb fb fg : Nat) (mv : Value) (M : List Int) (who : Int) (w : World) (i : Value) (wr : World) : Prop :=
  ∃ (k : Nat) (lv : Value), k ≤ 17 ∧ i = .int .i64 (k : Int) ∧ NAt wr ⟨w.heap.size + 1, mb, fb, fg, w.heap.size, mv, .slice none 0 0, lv⟩ n M (frU n o k who) [] (rngF o k) who ∧ Only (nz mv fg) w wr ∧ (∀ j, inRow lv j → w.heap.size ≤ j)
/-- tables made, so far -/
def L3To (n o mb fb fg : Nat) (mv lv : Value) (M : List Int) (who : Int) (w : World) (i : Value) (wr : World) : Prop :=
  ∃ (k : Nat) (pv : Value), k ≤ 17 ∧ i = .int .i64 (k : Int) ∧ NAt wr ⟨w.heap.size + 1, mb, fb, fg, w.heap.size, mv, pv, lv⟩ n (tM M o k) (frM n o k who) (rngF o k) (rngF o 17) who ∧ Only (nz mv fg) w wr ∧ (∀ j, inRow pv j → w.heap.size ≤ j)
def L4To (w0 : World) (i : Value) (wr : World) : Prop := ∃ k : Nat, k ≤ 2 ∧ i = .int .i64 (k : Int) ∧ wr = w0
theorem frM_make1 (n o : Nat) (who : Int) (hw : frOwns who) (hn : o + 17 ≤ n) : frMine (frM n o 0 who) ((o + 0 : Nat) : Int) who (kMake 1) = ⟨(frM n o 0 who).set (o + 0) ⟨who, 1, 0, 0⟩, 0, 0⟩ := frM_make n o 0 who hw hn (by decide)
theorem frM_make2 (n o k : Nat) (who : Int) (hw : frOwns who) (hn : o + 17 ≤ n) (hk : k < 17) (h0 : k ≠ 0) : frMine (frM n o k who) ((o + k : Nat) : Int) who (kMake 2) = ⟨(frM n o k who).set (o + k) ⟨who, 2, 0, 0⟩, 0, 0⟩ := by
  have := frM_make n o k who hw hn hk
  rw [if_neg h0] at this
  exact this
theorem frM_use1 (n o : Nat) (who : Int) (hw : frOwns who) (hn : o + 17 ≤ n) : frThere ((frM n o 0 who).set (o + 0) ⟨who, 1, 0, 0⟩) ((o + 0 : Nat) : Int) kUse = ⟨frM n o 1 who, 0, 0⟩ := frM_use n o 0 who hw hn (by decide)
theorem frM_use2 (n o k : Nat) (who : Int) (hw : frOwns who) (hn : o + 17 ≤ n) (hk : k < 17) (h0 : k ≠ 0) : frThere ((frM n o k who).set (o + k) ⟨who, 2, 0, 0⟩) ((o + k : Nat) : Int) kUse = ⟨frM n o (k + 1) who, 0, 0⟩ := by
  have := frM_use n o k who hw hn hk
  rw [if_neg h0] at this
  exact this
theorem blk_two (w : World) (x y : Obj) : ((w.alloc x).alloc y).heap[w.heap.size + 1]? = some y := by
  have := blk_new (w.alloc x) y
  simpa using this
theorem rngF_not (o k : Nat) : ((o + k : Nat) : Int) ∉ rngF o k := fun h => by
  obtain ⟨i, hi, e⟩ := rngF_mem o k _ h
  omega
theorem fr_bounds1 (n o k : Nat) (who kd : Int) (hl : o + k < n) : ∀ i, i < ((frM n o k who).set (o + k) ⟨who, kd, 0, 0⟩).length → (0 ≤ (((frM n o k who).set (o + k) ⟨who, kd, 0, 0⟩).getD i default).wr ∧ (((frM n o k who).set (o + k) ⟨who, kd, 0, 0⟩).getD i default).wr ≤ 1000000) ∧ (0 ≤ (((frM n o k who).set (o + k) ⟨who, kd, 0, 0⟩).getD i default).us ∧ (((frM n o k who).set (o + k) ⟨who, kd, 0, 0⟩).getD i default).us ≤ 1000000) := fun i hi => by
  rw [List.length_set, frM_len] at hi
  rw [fr_setD _ _ _ _ (by rw [frM_len]; exact hl)]
  split
  · exact ⟨⟨by show (0 : Int) ≤ 0; decide, by show (0 : Int) ≤ 1000000; decide⟩, ⟨by show (0 : Int) ≤ 0; decide, by show (0 : Int) ≤ 1000000; decide⟩⟩
  · rw [frM_get n o k i who hi]
    split
    · exact ⟨⟨by decide, by decide⟩, ⟨by decide, by decide⟩⟩
    · split
      · split
        all_goals exact ⟨⟨by show (0 : Int) ≤ 0; decide, by show (0 : Int) ≤ 1000000; decide⟩, by first | exact ⟨by show (0 : Int) ≤ 1; decide, by show (1 : Int) ≤ 1000000; decide⟩ | exact ⟨by show (0 : Int) ≤ 0; decide, by show (0 : Int) ≤ 1000000; decide⟩⟩
      · exact ⟨⟨by decide, by decide⟩, ⟨by decide, by decide⟩⟩

/-- what New answers where there is room -/
def NewQ (n o mb fb fg : Nat) (mv : Value) (M : List Int) (who : Int) (w : World) (y : Ending) (w' : World) : Prop := ∃ pv lv, y = .returned (.tuple #[.pointer (some ⟨w.heap.size + 1, 0, none⟩), .nilIface]) ∧ PtAt w' ⟨w.heap.size + 1, mb, fb, fg, w.heap.size, mv, pv, lv⟩ ⟨n, tM M o 17, frM n o 17 who, rngF o 17, who⟩ ∧ Only (nz mv fg) w w' ∧ (∀ j, inRow pv j → w.heap.size ≤ j)
/-- and where its list lies -/
def NewQ2 (n o mb fb fg : Nat) (mv : Value) (M : List Int) (who : Int) (w : World) (y : Ending) (w' : World) : Prop := ∃ pv lv, y = .returned (.tuple #[.pointer (some ⟨w.heap.size + 1, 0, none⟩), .nilIface]) ∧ PtAt w' ⟨w.heap.size + 1, mb, fb, fg, w.heap.size, mv, pv, lv⟩ ⟨n, tM M o 17, frM n o 17 who, rngF o 17, who⟩ ∧ Only (nz mv fg) w w' ∧ (∀ j, inRow pv j → w.heap.size ≤ j) ∧ (∀ j, inRow lv j → w.heap.size ≤ j)
set_option maxRecDepth 100000 in
set_option maxHeartbeats 32000000 in
theorem tnew_all (E : Nat → Addr) (n o mb fb fg : Nat) (mv : Value) (M : List Int) (who : Int) (w : World) (hE : ∀ wx, Only (nz mv fg) w wx → ErrsAt errT gOf wx E nine) (hm : MAt w mb mv n M) (hf : FrAt 95 33 w fb fg n (frU n o 0 who)) (hap : (∀ k, inRow mv k → k ≠ fb ∧ k ≠ fg) ∧ fg ≠ mb) (hw : frOwns who) (hn : o + 17 ≤ n) (hn2 : n ≤ 1024) :
    Calls Tryd.prog 32 #[.pointer (some ⟨mb, 0, none⟩), .pointer (some ⟨fb, 0, none⟩), .int .i64 who] w (NewQ2 n o mb fb fg mv M who w) := by
  obtain ⟨i0, hi, hz0, hz1, hz2⟩ := info_parts infoPInt
  have HEE := Lib.hid hE
  obtain ⟨W1, hW1⟩ : ∃ W1, W1 = (w.alloc (.cells #[.slice none 0 0] 111)).alloc (.cells #[.pointer (some ⟨mb, 0, none⟩), .pointer (some ⟨fb, 0, none⟩), .int .i64 who, .pointer (some ⟨w.heap.size, 0, none⟩), .slice none 0 0] 113) := ⟨_, rfl⟩
  have hb1 : Below w.heap.size w W1 := hW1 ▸ ((Below.refl _ _).alloc (Nat.le_refl _) _).alloc (by simp) _
  have hmb := blk_lt hm.1
  have hfl := hf.lt
  have hap1 : Pl.Apart ⟨w.heap.size + 1, mb, fb, fg, w.heap.size, mv, .slice none 0 0, .slice none 0 0⟩ := by
    refine ⟨fun k h0 h1 => ?_, fun k h0 h2 => ?_, fun k h0 h3 => ?_, fun k h1 h2 => (hap.1 k h1).2 h2, fun k h1 h3 => ?_, fun k h2 h3 => ?_⟩
    · have h1' : inRow mv k := h1
      rcases h0 with h0 | h0 | h0 | h0
      · have := own_lt hm.2.1 h1'
        rw [show k = w.heap.size + 1 from h0] at this
        omega
      · rw [show k = mb from h0] at h1'
        exact hm.not h1'
      · exact (hap.1 k h1').1 h0
      · cases h0
    · have h2' : k = fg := h2
      rcases h0 with h0 | h0 | h0 | h0
      · rw [show k = w.heap.size + 1 from h0] at h2'
        omega
      · exact hap.2 (h2'.symm.trans h0)
      · exact hf.2.2.1 ((show k = fb from h0) ▸ h2')
      · cases h0
    · rcases h3 with h3 | h3
      · have h3' : k = w.heap.size := h3
        rcases h0 with h0 | h0 | h0 | h0
        · rw [show k = w.heap.size + 1 from h0] at h3'
          omega
        · rw [show k = mb from h0] at h3'
          omega
        · rw [show k = fb from h0] at h3'
          omega
        · cases h0
      · cases h3
    · rcases h3 with h3 | h3
      · have := own_lt hm.2.1 (show inRow mv k from h1)
        rw [show k = w.heap.size from h3] at this
        omega
      · cases h3
    · rcases h3 with h3 | h3
      · have h4 : k = w.heap.size := h3
        have h5 : k = fg := h2
        omega
      · cases h3
  have HN1 : Hid (NAt W1 ⟨w.heap.size + 1, mb, fb, fg, w.heap.size, mv, .slice none 0 0, .slice none 0 0⟩ n M (frU n o 0 who) [] (rngF o 0) who) := Lib.hid ⟨by rw [hW1]; exact blk_two w _ _, hm.below hb1, hf.below hb1, ⟨by rw [hW1]; exact blk_old (blk_new w _) _, own_nil _ _ _⟩, own_nil _ _ _, hap1⟩
  have HO1 : Hid (Only (nz mv fg) w W1) := Lib.hid (Only.of_below hb1)
  have HST : Hid (L1To n o mb fb fg mv M who w (.int .i64 0) W1) := Lib.hid ⟨0, _, Nat.zero_le _, rfl, HN1.out, HO1.out, fun j h => by cases h⟩
  have HW1 := Lib.hid hW1
  have HLT : Hid (mb < w.heap.size ∧ fb < w.heap.size) := Lib.hid ⟨hmb, hfl.1⟩
  clear hE hm hf hap hap1 hW1 hb1 hmb hfl HN1 HO1
  go_enter Tryd.func32, Tryd.ntmps32
  go_wp2_with fail
  rw [← HW1.out]
  go_loopw [27] (fun i wr => L1To n o mb fb fg mv M who w i wr) (fun i _ => 17 - (intOf i).toNat)
  case atStart => exact HST.out
  case round =>
    obtain ⟨k, lv, hk, rfl, hN, ho, hlv⟩ := hrel
    have HN := Lib.hid hN
    have HO := Lib.hid ho
    have HLV := Lib.hid hlv
    clear HST
    by_cases hlt : k < 17
    · have hki : (k : Int) < 17 := by omega
      have ha := falloc_any E (frU n o k who) fb fg n who wr (HEE.out _ ho) hN.fr
      rw [frU_alloc n o k who hw (by omega)] at ha
      obtain ⟨x, hx⟩ : ∃ x : Int, ((o + k : Nat) : Int) = x := ⟨_, rfl⟩
      rw [hx] at ha
      have HA := Lib.hid ha
      have HXE := Lib.hid hx
      clear ha hN ho hlv hx
      go_wp2_with fail
      refine HA.out.mono ?_
      rintro y w2 ⟨rfl, hf2, ho2⟩
      have HN2 := Lib.hid (HN.out.fr' ho2 hf2)
      have HO2 := Lib.hid (HO.out.trans (ho2.mono fun _ h => .inl (.inr h)))
      obtain ⟨-, c4, f4⟩ := HN2.out.cells
      have ltb := blk_lt HN2.out.row
      have htl := HN2.out.tl
      rw [rngF_len] at htl
      obtain ⟨ao, cap, hlve⟩ := own_slice htl
      dsimp only at hlve c4
      subst hlve
      have HTL := Lib.hid htl
      have HNT : Hid (¬ inRow (.slice ao k cap) (w.heap.size + 1)) := Lib.hid fun h => own_not htl HN2.out.row (by decide) h
      clear hf2 ho2 htl
      unfold errC
      rw [if_pos rfl]
      dsimp only
      go_wp2_with (at_builtin; refine wpList_append_sep _ rfl _ _ 37 rfl 3 i0 (.int .i64 0) 1 8 Tryd.underlying37 hi hz0 hz1 hz2 rfl (by decide) _ _ _ rfl (HTL.out.alloc _) ⟨w2.heap.size, 0, none⟩ 1 1 [.int .i64 x] rfl rfl (cell_one_new _ _ _) (by simp [Value.oneCell']) (by unfold maxLen; omega) (by omega) ?_)
      intro v' wx ho3 hg3 hs3
      obtain ⟨ao2, cap2, rfl⟩ := own_slice ho3
      have hbx := blk_grown (blk_old HN2.out.row (.cells #[.int .i64 x] 3)) hg3 HNT.out
      have cx := blk_cell hbx 4
      have fx := blk_free hbx 4
      have HON : Hid (Only (fun j => j = w.heap.size + 1 ∨ inRow (.slice ao k cap) j) w2 (wx.setCell ⟨w.heap.size + 1, 4, none⟩ (.slice ao2 (k + 1) cap2))) := Lib.hid
        (Only.setCell (F := fun j => j = w.heap.size + 1 ∨ inRow (.slice ao k cap) j) ((Only.alloc _ w2 (.cells #[.int .i64 x] 3)).grown hg3 (fun j hj => .inl (.inr hj))) (p := ⟨w.heap.size + 1, 4, none⟩) (.inl (.inl rfl)) _)
      have hs4 : ∀ j, inRow (.slice ao2 (k + 1) cap2) j → inRow (.slice ao k cap) j ∨ w2.heap.size ≤ j := fun j hj => by
        rcases hs3 j hj with h | h
        · exact .inl h
        · have h' := h
          try simp only [World.size_alloc] at h'
          exact .inr (by omega)
      have HN3 : Hid (NAt (wx.setCell ⟨w.heap.size + 1, 4, none⟩ (.slice ao2 (k + 1) cap2)) ⟨w.heap.size + 1, mb, fb, fg, w.heap.size, mv, .slice none 0 0, .slice ao2 (k + 1) cap2⟩ n M (frU n o (k + 1) who) [] (rngF o (k + 1)) who) := Lib.hid (HN2.out.list' HON.out (by have := blk_put hbx 4 (.slice ao2 (k + 1) cap2); exact this) (by
        have e1 : ints (rngF o k) ++ [Value.int .i64 x] = ints (rngF o (k + 1)) := by rw [rngF_succ, HXE.out]; simp [ints]
        rw [e1] at ho3
        rw [rngF_len]
        exact own_set ho3 hbx (by decide) 4 _) ⟨by show mb ≠ w.heap.size + 1; have := HLT.out.1; omega, fun h => by have := HLV.out mb h; have := HLT.out.1; omega⟩ ⟨by show fb ≠ w.heap.size + 1; have := HLT.out.2; omega, fun h => by have := HLV.out fb h; have := HLT.out.2; omega⟩ hs4)
      have HO3 : Hid (Only (nz mv fg) w (wx.setCell ⟨w.heap.size + 1, 4, none⟩ (.slice ao2 (k + 1) cap2))) := Lib.hid (HO2.out.trans' HON.out fun j hj => by
        rcases hj with hj | hj
        · exact .inr (by omega)
        · exact .inr (HLV.out j hj))
      have HLV3 : Hid (∀ j, inRow (.slice ao2 (k + 1) cap2) j → w.heap.size ≤ j) := Lib.hid fun j hj => by
        rcases hs4 j hj with h | h
        · exact HLV.out j h
        · have := HO2.out.size; omega
      clear ho3 hg3 hs3 hbx c4 f4 hs4
      go_wp2_with fail
      go_roundw
      case rel => exact ⟨k + 1, _, by omega, by go_num, HN3.out, HO3.out, HLV3.out⟩
      case measure => simp [intOf]; omega
    · have hk17 : k = 17 := by omega
      have hkn : ¬ (k : Int) < 17 := by omega
      have hN17 : NAt wr ⟨w.heap.size + 1, mb, fb, fg, w.heap.size, mv, .slice none 0 0, lv⟩ n M (frM n o 0 who) [] (rngF o 17) who := by
        rw [frM_zero, ← hk17]
        exact hN
      have hsh := own_shape hN17.tl
      rw [rngF_len] at hsh
      rcases hsh with ⟨-, hz, -⟩ | ⟨g, cap, hlve, -⟩
      · omega
      dsimp only at hlve
      subst hlve
      have HST3 : Hid (L3To n o mb fb fg mv (.slice (some ⟨g, 0, none⟩) 17 cap) M who w (.int .i64 0) wr) := Lib.hid ⟨0, _, Nat.zero_le _, rfl, hN17, ho, fun j h => by cases h⟩
      obtain ⟨-, c4, -⟩ := hN17.cells
      have ltb := blk_lt hN17.row
      have HCL : Hid (∀ wx : World, wx.ownsRow 0 3 1 (.slice (some ⟨g, 0, none⟩) 17 cap) (rngF o 17).length (ints (rngF o 17)) → ∀ q, q < 17 → wx.cell? ⟨g, q, none⟩ = some (.int .i64 ((o + q : Nat) : Int))) := Lib.hid fun wx ht q hq => by
        rw [rngF_len] at ht
        rw [own_cell ht q (by omega), ints_get' _ q (by rw [rngF_len]; exact hq), rngF_get o 17 q hq]
      have HLV9 := Lib.hid HLV.out
      clear hN hN17 ho hlv HN HO HLV hk17 hlt hk
      go_wp2_with fail
      go_loopw [70] (fun i wr => L3To n o mb fb fg mv (.slice (some ⟨g, 0, none⟩) 17 cap) M who w i wr) (fun i _ => 17 - (intOf i).toNat)
      case atStart => exact HST3.out
      case round =>
        obtain ⟨k, pv, hk, rfl, hN, ho, hpv⟩ := hrel
        clear HST3 c4 ltb
        by_cases hlt : k < 17
        · have hki : (k : Int) < 17 := by omega
          by_cases hk0 : k = 0
          · subst hk0
            clear hki
            obtain ⟨x, hx⟩ : ∃ x : Int, ((o + 0 : Nat) : Int) = x := ⟨_, rfl⟩
            have q1 : wr.cell? ⟨g, 0, none⟩ = some (.int .i64 x) := by rw [← hx]; exact HCL.out wr hN.tl 0 hlt
            have HX := Lib.hid hx
            have HFL : Hid (∀ wx, MAt wx mb mv n (tM M o 0) → Calls Tryd.prog 64 #[.pointer (some ⟨mb, 0, none⟩), .int .i64 x, .slice none 0 0] wx fun e w' => e = .returned (.bool true) ∧ MAt w' mb mv n (fillL (tM M o 0) (o + 0) []) ∧ Only (fun k => inRow mv k) wx w') := Lib.hid fun wx h => hx ▸ mm_fill_ok (tM M o 0) [] mb n (o + 0) 0 0 none mv wx h hn2 (by omega) (atL_nil _ _) rfl (by decide) (fun a h => by omega)
            have HMK : Hid (∀ wx, Only (nz mv fg) w wx → FrAt 95 33 wx fb fg n (frM n o 0 who) → Calls Tryd.prog 23 #[.pointer (some ⟨fb, 0, none⟩), .int .i64 x, .int .i64 who, .int .i64 1] wx (FrQ 95 33 E fb fg n ⟨((frM n o 0 who).set (o + 0) ⟨who, 1, 0, 0⟩), 0, 0⟩ wx)) := Lib.hid fun wx hoo h => by
              have := fmake1 E (frM n o 0 who) fb fg n ((o + 0 : Nat) : Int) who wx (HEE.out _ hoo) h
              rw [frM_make1 n o who hw hn, hx] at this
              exact this
            have HUS : Hid (∀ wx, Only (nz mv fg) w wx → FrAt 95 33 wx fb fg n ((frM n o 0 who).set (o + 0) ⟨who, 1, 0, 0⟩) → Calls Tryd.prog 22 #[.pointer (some ⟨fb, 0, none⟩), .int .i64 x] wx (FrQ 95 33 E fb fg n ⟨frM n o 1 who, 0, 0⟩ wx)) := Lib.hid fun wx hoo h => by
              have := fuse_any E ((frM n o 0 who).set (o + 0) ⟨who, 1, 0, 0⟩) fb fg n ((o + 0 : Nat) : Int) wx (fr_bounds1 n o 0 who 1 (by omega)) (HEE.out _ hoo) h
              rw [frM_use1 n o who hw hn, hx] at this
              exact this
            have hfair : fairP x = true := by rw [← hx]; simp [fairP]; omega
            have hnot : x ∉ rngF o 0 := by rw [← hx]; exact rngF_not o 0
            have HAD : Hid (∀ wx, PAt wx w.heap.size pv (rngF o 0) → Calls Tryd.prog 66 #[.pointer (some ⟨w.heap.size, 0, none⟩), .int .i64 x] wx fun e w' => e = .returned (.tuple #[.int .i64 (rngF o 0).length, .nilIface]) ∧ ∃ v', PAt w' w.heap.size v' (rngF o 0 ++ [x]) ∧ Only (fun k => k = w.heap.size ∨ inRow pv k) wx w' ∧ ∀ k, inRow v' k → inRow pv k ∨ wx.heap.size ≤ k) := Lib.hid fun wx h => add_ok (rngF o 0) w.heap.size pv x wx h hfair hnot (by rw [rngF_len]; omega)
            have HN := Lib.hid hN
            have HO := Lib.hid ho
            have HPV := Lib.hid hpv
            clear hN ho hpv hx hfair hnot
            go_wp2_with fail
            refine (HFL.out _ HN.out.mem).mono ?_
            rintro y w2 ⟨rfl, hm2, ho2⟩
            have HN2 := Lib.hid (HN.out.mem' ho2 hm2)
            have HO2 := Lib.hid (HO.out.trans (ho2.mono fun _ h => .inl (.inl h)))
            clear hm2 ho2 q1
            go_wp2_with fail
            refine (HMK.out _ HO2.out HN2.out.fr).mono ?_
            rintro y w3 ⟨rfl, hf3, ho3⟩
            have HN3 := Lib.hid (HN2.out.fr' ho3 hf3)
            have HO3 := Lib.hid (HO2.out.trans (ho3.mono fun _ h => .inl (.inr h)))
            clear hf3 ho3
            unfold errC
            rw [if_pos rfl]
            go_wp2_with fail
            refine (HUS.out _ HO3.out HN3.out.fr).mono ?_
            rintro y w4 ⟨rfl, hf4, ho4⟩
            have HN4 := Lib.hid (HN3.out.fr' ho4 hf4)
            have HO4 := Lib.hid (HO3.out.trans (ho4.mono fun _ h => .inl (.inr h)))
            clear hf4 ho4
            unfold errC
            rw [if_pos rfl]
            have hnw := blk_new w4 (.cells #[.nilIface, .nilIface] 26)
            obtain ⟨W4, hW4⟩ : ∃ W4, w4.alloc (.cells #[.nilIface, .nilIface] 26) = W4 := ⟨_, rfl⟩
            have hb4 : Below w4.heap.size w4 W4 := hW4 ▸ (Below.refl _ _).alloc (Nat.le_refl _) _
            rw [hW4] at hnw
            have HN5 := Lib.hid (HN4.out.below hb4)
            have HO5 := Lib.hid (HO4.out.below' hb4)
            have HC4 : Hid (∀ q, q < 2 → W4.cell? ⟨w4.heap.size, q, none⟩ = some .nilIface) := Lib.hid fun q hq => by
              rw [blk_cell hnw q]
              match q, hq with
              | 0, _ => rfl
              | 1, _ => rfl
            have HW4 := Lib.hid hW4
            clear hnw hb4 hW4
            go_wp2_with fail
            rw [HW4.out]
            go_loopw [90] (fun i wr => L4To W4 i wr) (fun i _ => 2 - (intOf i).toNat)
            case atStart => exact ⟨0, Nat.zero_le _, rfl, rfl⟩
            case round =>
              obtain ⟨q, hq, rfl, rfl⟩ := hrel
              by_cases hq2 : q < 2
              · have hqi : (q : Int) < 2 := by omega
                have cq := HC4.out q hq2
                go_wp2_with fail
                go_roundw
                case rel => exact ⟨q + 1, by omega, by go_num, rfl⟩
                case measure => simp [intOf]; omega
              · have hqn : ¬ (q : Int) < 2 := by omega
                obtain ⟨c3, c4, -⟩ := HN5.out.cells
                have ltb := blk_lt HN5.out.row
                go_wp2_with fail
                refine (HAD.out _ HN5.out.pm).mono ?_
                rintro y w6 ⟨rfl, v', hp6, ho6, hr6⟩
                have HN6 := Lib.hid (HN5.out.pm' ho6 hp6 hr6)
                have HO6 := Lib.hid (HO5.out.trans' ho6 fun j hj => .inr (by rcases hj with hj | hj; rw [hj]; exact Nat.le_refl _; exact HPV.out j hj))
                have HPV6 : Hid (∀ j, inRow v' j → w.heap.size ≤ j) := Lib.hid fun j hj => by
                  rcases hr6 j hj with h | h
                  · exact HPV.out j h
                  · have := HO5.out.size; omega
                clear hp6 ho6 hr6 c3 c4
                go_wp2_with fail
                go_roundw
                case rel => exact ⟨1, v', by omega, by go_num, by have := HN6.out; rw [← HX.out, ← rngF_succ] at this; exact this, HO6.out, HPV6.out⟩
                case measure => simp [intOf]
          · have hk0' : ((k : Int) == 0) = false := by simp; omega
            obtain ⟨x, hx⟩ : ∃ x : Int, ((o + k : Nat) : Int) = x := ⟨_, rfl⟩
            have q1 : wr.cell? ⟨g, k, none⟩ = some (.int .i64 x) := by rw [← hx]; exact HCL.out wr hN.tl k hlt
            have HX := Lib.hid hx
            have HFL : Hid (∀ wx, MAt wx mb mv n (tM M o k) → Calls Tryd.prog 64 #[.pointer (some ⟨mb, 0, none⟩), .int .i64 x, .slice none 0 0] wx fun e w' => e = .returned (.bool true) ∧ MAt w' mb mv n (fillL (tM M o k) (o + k) []) ∧ Only (fun k => inRow mv k) wx w') := Lib.hid fun wx h => hx ▸ mm_fill_ok (tM M o k) [] mb n (o + k) 0 0 none mv wx h hn2 (by omega) (atL_nil _ _) rfl (by decide) (fun a h => by omega)
            have HMK : Hid (∀ wx, Only (nz mv fg) w wx → FrAt 95 33 wx fb fg n (frM n o k who) → Calls Tryd.prog 23 #[.pointer (some ⟨fb, 0, none⟩), .int .i64 x, .int .i64 who, .int .i64 2] wx (FrQ 95 33 E fb fg n ⟨((frM n o k who).set (o + k) ⟨who, 2, 0, 0⟩), 0, 0⟩ wx)) := Lib.hid fun wx hoo h => by
              have := fmake2 E (frM n o k who) fb fg n ((o + k : Nat) : Int) who wx (HEE.out _ hoo) h
              rw [frM_make2 n o k who hw hn hlt hk0, hx] at this
              exact this
            have HUS : Hid (∀ wx, Only (nz mv fg) w wx → FrAt 95 33 wx fb fg n ((frM n o k who).set (o + k) ⟨who, 2, 0, 0⟩) → Calls Tryd.prog 22 #[.pointer (some ⟨fb, 0, none⟩), .int .i64 x] wx (FrQ 95 33 E fb fg n ⟨frM n o (k + 1) who, 0, 0⟩ wx)) := Lib.hid fun wx hoo h => by
              have := fuse_any E ((frM n o k who).set (o + k) ⟨who, 2, 0, 0⟩) fb fg n ((o + k : Nat) : Int) wx (fr_bounds1 n o k who 2 (by omega)) (HEE.out _ hoo) h
              rw [frM_use2 n o k who hw hn hlt hk0, hx] at this
              exact this
            have hfair : fairP x = true := by rw [← hx]; simp [fairP]; omega
            have hnot : x ∉ rngF o k := by rw [← hx]; exact rngF_not o k
            have HAD : Hid (∀ wx, PAt wx w.heap.size pv (rngF o k) → Calls Tryd.prog 66 #[.pointer (some ⟨w.heap.size, 0, none⟩), .int .i64 x] wx fun e w' => e = .returned (.tuple #[.int .i64 (rngF o k).length, .nilIface]) ∧ ∃ v', PAt w' w.heap.size v' (rngF o k ++ [x]) ∧ Only (fun k => k = w.heap.size ∨ inRow pv k) wx w' ∧ ∀ k, inRow v' k → inRow pv k ∨ wx.heap.size ≤ k) := Lib.hid fun wx h => add_ok (rngF o k) w.heap.size pv x wx h hfair hnot (by rw [rngF_len]; omega)
            have HN := Lib.hid hN
            have HO := Lib.hid ho
            have HPV := Lib.hid hpv
            clear hN ho hpv hx hfair hnot
            go_wp2_with fail
            refine (HFL.out _ HN.out.mem).mono ?_
            rintro y w2 ⟨rfl, hm2, ho2⟩
            have HN2 := Lib.hid (HN.out.mem' ho2 hm2)
            have HO2 := Lib.hid (HO.out.trans (ho2.mono fun _ h => .inl (.inl h)))
            clear hm2 ho2 q1
            go_wp2_with fail
            refine (HMK.out _ HO2.out HN2.out.fr).mono ?_
            rintro y w3 ⟨rfl, hf3, ho3⟩
            have HN3 := Lib.hid (HN2.out.fr' ho3 hf3)
            have HO3 := Lib.hid (HO2.out.trans (ho3.mono fun _ h => .inl (.inr h)))
            clear hf3 ho3
            unfold errC
            rw [if_pos rfl]
            go_wp2_with fail
            refine (HUS.out _ HO3.out HN3.out.fr).mono ?_
            rintro y w4 ⟨rfl, hf4, ho4⟩
            have HN4 := Lib.hid (HN3.out.fr' ho4 hf4)
            have HO4 := Lib.hid (HO3.out.trans (ho4.mono fun _ h => .inl (.inr h)))
            clear hf4 ho4
            unfold errC
            rw [if_pos rfl]
            have hnw := blk_new w4 (.cells #[.nilIface, .nilIface] 26)
            obtain ⟨W4, hW4⟩ : ∃ W4, w4.alloc (.cells #[.nilIface, .nilIface] 26) = W4 := ⟨_, rfl⟩
            have hb4 : Below w4.heap.size w4 W4 := hW4 ▸ (Below.refl _ _).alloc (Nat.le_refl _) _
            rw [hW4] at hnw
            have HN5 := Lib.hid (HN4.out.below hb4)
            have HO5 := Lib.hid (HO4.out.below' hb4)
            have HC4 : Hid (∀ q, q < 2 → W4.cell? ⟨w4.heap.size, q, none⟩ = some .nilIface) := Lib.hid fun q hq => by
              rw [blk_cell hnw q]
              match q, hq with
              | 0, _ => rfl
              | 1, _ => rfl
            have HW4 := Lib.hid hW4
            clear hnw hb4 hW4
            go_wp2_with fail
            rw [HW4.out]
            go_loopw [90] (fun i wr => L4To W4 i wr) (fun i _ => 2 - (intOf i).toNat)
            case atStart => exact ⟨0, Nat.zero_le _, rfl, rfl⟩
            case round =>
              obtain ⟨q, hq, rfl, rfl⟩ := hrel
              by_cases hq2 : q < 2
              · have hqi : (q : Int) < 2 := by omega
                have cq := HC4.out q hq2
                go_wp2_with fail
                go_roundw
                case rel => exact ⟨q + 1, by omega, by go_num, rfl⟩
                case measure => simp [intOf]; omega
              · have hqn : ¬ (q : Int) < 2 := by omega
                obtain ⟨c3, c4, -⟩ := HN5.out.cells
                have ltb := blk_lt HN5.out.row
                have q0 := (HCL.out _ HN5.out.tl 0 (by omega)).trans (show _ = some (.int .i64 (o : Int)) by rw [Nat.add_zero])
                have hkp : (0 : Int) < (k : Int) := by omega
                have wk1 := IntWalk.i64_in ((k : Int) - 1) (by omega)
                have HW := Lib.hid (twrite_any (fillL (tM M o k) (o + k) []) mb n mv (o : Int) ((k : Int) - 1) ⟨x, true, true, true⟩ _ HN5.out.mem (by omega) (by omega))
                unfold Ent.v at HW
                dsimp only at HW
                go_wp2_with fail
                refine HW.out.mono ?_
                rintro y w5 ⟨rfl, hm5, ho5⟩
                have HN5b := Lib.hid (HN5.out.mem' ho5 hm5)
                have HO5b := Lib.hid (HO5.out.trans (ho5.mono fun _ h => .inl (.inl h)))
                obtain ⟨d3, d4, -⟩ := HN5b.out.cells
                have ltb2 := blk_lt HN5b.out.row
                clear hm5 ho5 c3 c4 q0
                go_wp2_with fail
                refine (HAD.out _ HN5b.out.pm).mono ?_
                rintro y w6 ⟨rfl, v', hp6, ho6, hr6⟩
                have HN6 := Lib.hid (HN5b.out.pm' ho6 hp6 hr6)
                have HO6 := Lib.hid (HO5b.out.trans' ho6 fun j hj => .inr (by rcases hj with hj | hj; rw [hj]; exact Nat.le_refl _; exact HPV.out j hj))
                have HPV6 : Hid (∀ j, inRow v' j → w.heap.size ≤ j) := Lib.hid fun j hj => by
                  rcases hr6 j hj with h | h
                  · exact HPV.out j h
                  · have := HO5b.out.size; omega
                clear hp6 ho6 hr6 d3 d4
                go_wp2_with fail
                go_roundw
                case rel => exact ⟨k + 1, v', by omega, by go_num, by have := HN6.out; rw [← HX.out, ← rngF_succ] at this; unfold tM; rw [if_neg hk0]; exact this, HO6.out, HPV6.out⟩
                case measure => simp [intOf]; omega
        · have hkn3 : ¬ (k : Int) < 17 := by omega
          obtain rfl : k = 17 := by omega
          go_wp2
          go_ret2
          exact ⟨pv, _, rfl, hN.done (by rw [List.take_of_length_le (by rw [rngF_len]; exact Nat.le_refl _)]) (rngF_len o 17), ho, hpv, HLV9.out⟩
theorem tnew_ok (E : Nat → Addr) (n o mb fb fg : Nat) (mv : Value) (M : List Int) (who : Int) (w : World) (hE : ∀ wx, Only (nz mv fg) w wx → ErrsAt errT gOf wx E nine) (hm : MAt w mb mv n M) (hf : FrAt 95 33 w fb fg n (frU n o 0 who)) (hap : (∀ k, inRow mv k → k ≠ fb ∧ k ≠ fg) ∧ fg ≠ mb) (hw : frOwns who) (hn : o + 17 ≤ n) (hn2 : n ≤ 1024) :
    Calls Tryd.prog 32 #[.pointer (some ⟨mb, 0, none⟩), .pointer (some ⟨fb, 0, none⟩), .int .i64 who] w (NewQ n o mb fb fg mv M who w) :=
  (tnew_all E n o mb fb fg mv M who w hE hm hf hap hw hn hn2).mono fun _ _ ⟨pv, lv, h1, h2, h3, h4, _⟩ => ⟨pv, lv, h1, h2, h3, h4⟩
end Go.Proofs.YtaoaachgnnengaaDoor

