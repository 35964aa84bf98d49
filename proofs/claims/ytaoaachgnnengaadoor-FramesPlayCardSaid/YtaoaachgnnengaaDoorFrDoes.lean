/-
  facadelaw16.does: a thing done in both; frames.Clone.
-/
import Derived.Test.YtaoaachgnnengaaDoorFrRefAll
import Derived.Test.YtaoaachgnnengaaDoorFrOne
import Derived.Test.YtaoaachgnnengaaDoorFrAlloc
import Derived.Test.YtaoaachgnnengaaDoorCloneFrs
import Derived.Test.YtaoaachgnnengaaDoorStructs
namespace Go.Proofs.YtaoaachgnnengaaDoor
open Go.ChangeShapes Go.WideShapes Go.ChangeAt Go.RowKit Go.Joins Go.Deep

def frdoCells (d : FDo16) : List Value := [.int .i64 d.kind, .int .i64 d.a, .int .i64 d.b, .int .i64 d.c]
theorem frdo_len (d : FDo16) : (frdoCells d).length = 4 := rfl
set_option maxRecDepth 100000 in
theorem open_frdo {H : Type} {enc : TypeId × Value → H} {W : World} {v : Value} {d : DataW H} {p : List MemPlace} {r : Reach} {b0 : Nat}
    (hv : Value.okWide Tryd.prog W r b0 40 v) (h : DataW.Trod enc Tryd.prog W 0 (fun _ => true) true 40 v d p) :
    ∃ (ao : Option Addr) (cap : Nat) (l : List FDo16), v = .slice ao l.length cap ∧ l.length ≤ maxLen ∧ (∀ x ∈ l, True) ∧ AtL W ao (l.flatMap frdoCells) ∧ l.length ≤ cap :=
  open_structs (C := 4) Tryd.underlying40 (by kernel_rfl) (by decide) frdoCells (fun _ => True) hv h fun n cs y hl hd => by
    obtain ⟨xs, n', -, -, hxl, hx, hi⟩ := DataW.trod_struct Tryd.underlying45 hd
    have hx6 : xs.length = 4 := hx
    have get : ∀ i, i < 4 → ∃ y, xs[i]? = some y := fun i hi => ⟨_, List.getElem?_eq_getElem (by omega)⟩
    obtain ⟨y0, g0⟩ := get 0 (by omega)
    obtain ⟨y1, g1⟩ := get 1 (by omega)
    obtain ⟨y2, g2⟩ := get 2 (by omega)
    obtain ⟨y3, g3⟩ := get 3 (by omega)
    obtain ⟨a, e0, -⟩ := fld_int Tryd.underlying3 (by kernel_rfl) ((hi 0 _ rfl).trans g0)
    obtain ⟨b, e1, -⟩ := fld_int Tryd.underlying3 (by kernel_rfl) ((hi 1 _ rfl).trans g1)
    obtain ⟨c, e2, -⟩ := fld_int Tryd.underlying3 (by kernel_rfl) ((hi 2 _ rfl).trans g2)
    obtain ⟨dd, e3, -⟩ := fld_int Tryd.underlying3 (by kernel_rfl) ((hi 3 _ rfl).trans g3)
    refine ⟨⟨a, b, c, dd⟩, ?_, trivial⟩
    match cs, hl with
    | [b0, b1, b2, b3], _ =>
      have q0 : some b0 = some _ := e0
      have q1 : some b1 = some _ := e1
      have q2 : some b2 = some _ := e2
      have q3 : some b3 = some _ := e3
      cases q0
      cases q1
      cases q2
      cases q3
      rfl

/-- a copy: its header in block b, its row in new memory -/
def FrCl (s : Nat) (w : World) (b : Nat) (l : List Fr) : Prop := s ≤ b ∧ ∃ v, w.heap[b]? = some (.cells #[v] 95 (0, 0)) ∧ w.ownsRow 0 33 4 v l.length (frCells l) ∧ ∀ k, inRow v k → s ≤ k
theorem FrCl.only {s : Nat} {w w' : World} {b : Nat} {l : List Fr} {F : Nat → Prop} (h : FrCl s w b l) (ho : Only F w w') (hF : ∀ k, F k → k < s) : FrCl s w' b l := by
  obtain ⟨hs, v, h1, h2, h3⟩ := h
  exact ⟨hs, v, ho.blk h1 (fun e => by have := hF b e; omega), own_only h2 ho (fun k hk e => by have := hF k e; have := h3 k hk; omega), h3⟩
theorem FrCl.below {s : Nat} {w w' : World} {b : Nat} {l : List Fr} (h : FrCl s w b l) (hb : Below w.heap.size w w') : FrCl s w' b l := h.only (F := fun _ => False) (Only.of_below hb) (fun _ e => e.elim)
theorem FrCl.rd {s : Nat} {w : World} {b : Nat} {l : List Fr} (h : FrCl s w b l) : ∃ ao cap, FrRd 95 w b ao cap l := by
  obtain ⟨hs, v, h1, h2, h3⟩ := h
  obtain ⟨ao, cap, rfl, hat⟩ := atL_of_own h2
  refine ⟨ao, cap, h1, hat, ?_⟩
  rcases own_shape h2 with ⟨e, hn, -⟩ | ⟨g, c, e, hc⟩
  · simp only [Value.slice.injEq] at e
    omega
  · simp only [Value.slice.injEq] at e
    have := hc.1
    omega
set_option maxHeartbeats 1600000 in
theorem fclone_any (l : List Fr) (b g cap : Nat) (w : World) (hm : l.length ≤ 1024) (h0 : 0 < l.length) (h : FrAt 95 33 w b g cap l) :
    Calls Tryd.prog 27 #[.pointer (some ⟨b, 0, none⟩)] w fun e w' => ∃ cb, e = .returned (.pointer (some ⟨cb, 0, none⟩)) ∧ FrCl w.heap.size w' cb l ∧ Below w.heap.size w w' := by
  have c := h.hdr
  have HC := Lib.hid (cloneFrs (.slice (some ⟨g, 0, none⟩) l.length cap) l.length (frCells l) w ((FrAt.rd h).2.1.reads (fun e => by
    have hl := frCells_len l
    rw [e] at hl
    simp at hl
    omega)) (by omega) (frCells_len l) (frCells_cell l))
  clear h
  go_enter Tryd.func27, Tryd.ntmps27
  go_wp2_with fail
  refine HC.out.mono ?_
  rintro e w1 ⟨v, rfl, hown, hfr, hb⟩
  obtain ⟨vo, vc, rfl⟩ := own_slice hown
  have HO := Lib.hid hown
  have HF := Lib.hid hfr
  have HB := Lib.hid hb
  clear hown hfr hb c
  go_wp2
  go_ret
  exact ⟨_, rfl, ⟨HB.out.size, _, blk_new _ _, HO.out.alloc _, HF.out⟩, HB.out.alloc HB.out.size _⟩

/-- what does does -/
def DoesPost (b g x y n : Nat) (l' : List Fr) (w : World) (e : Ending) (w' : World) : Prop :=
  e = .returned (.bool true) ∧ FrAt 95 33 w' b g n l' ∧ FrAt 54 51 w' x y n l' ∧ Only (fun k => k = g ∨ k = y) w w'
theorem fr_two {TB TR SB SR : TypeId} {w wy wz : World} {b g x y n : Nat} {l l' : List Fr} (hn : FrAt TB TR wy b g n l') (ho : Only (fun k => k = g) w wy) (hr : FrAt SB SR wz x y n l') (ho2 : Only (fun k => k = y) wy wz) (h1 : b ≠ y) (h2 : g ≠ y) : FrAt TB TR wz b g n l' ∧ FrAt SB SR wz x y n l' ∧ Only (fun k => k = g ∨ k = y) w wz :=
  ⟨hn.only ho2 h1 h2, hr, (ho.mono fun k hk => .inl (.inl hk)).trans (ho2.mono fun k hk => .inl (.inr hk))⟩
theorem frC_mine (l : List Fr) (i who : Int) (k : Fr → Fr × Int) (hk : ∀ x, (k x).2 = 0 ∨ (101 ≤ (k x).2 ∧ (k x).2 ≤ 116)) : (frMine l i who k).c = 0 ∨ (101 ≤ (frMine l i who k).c ∧ (frMine l i who k).c ≤ 116) := by
  unfold frMine
  split
  · exact .inr ⟨by simp, by simp⟩
  · split
    · exact hk _
    · exact .inr ⟨by simp, by simp⟩
theorem frC_there (l : List Fr) (i : Int) (k : Fr → Fr × Int) (hk : ∀ x, (k x).2 = 0 ∨ (101 ≤ (k x).2 ∧ (k x).2 ≤ 116)) : (frThere l i k).c = 0 ∨ (101 ≤ (frThere l i k).c ∧ (frThere l i k).c ≤ 116) := by
  unfold frThere
  split
  · exact .inr ⟨by simp, by simp⟩
  · exact hk _
theorem frC_free (x : Fr) : (kFree x).2 = 0 ∨ (101 ≤ (kFree x).2 ∧ (kFree x).2 ≤ 116) := by unfold kFree; split <;> simp
theorem frC_make (k : Int) (x : Fr) : (kMake k x).2 = 0 ∨ (101 ≤ (kMake k x).2 ∧ (kMake k x).2 ≤ 116) := by
  unfold kMake
  split
  · simp
  · split <;> simp
theorem frC_plain (x : Fr) : (kPlain x).2 = 0 ∨ (101 ≤ (kPlain x).2 ∧ (kPlain x).2 ≤ 116) := by
  unfold kPlain
  split
  · simp
  · split <;> simp
theorem frC_write (x : Fr) : (kWrite x).2 = 0 ∨ (101 ≤ (kWrite x).2 ∧ (kWrite x).2 ≤ 116) := by unfold kWrite; split <;> simp
theorem frC_unwrite (x : Fr) : (kUnwrite x).2 = 0 ∨ (101 ≤ (kUnwrite x).2 ∧ (kUnwrite x).2 ≤ 116) := by unfold kUnwrite; split <;> simp
theorem frC_use (x : Fr) : (kUse x).2 = 0 ∨ (101 ≤ (kUse x).2 ∧ (kUse x).2 ≤ 116) := .inl rfl
theorem frC_unuse (x : Fr) : (kUnuse x).2 = 0 ∨ (101 ≤ (kUnuse x).2 ∧ (kUnuse x).2 ≤ 116) := by unfold kUnuse; split <;> simp
theorem frC_makes (l : List Fr) (i who kind : Int) : (frMake l i who kind).c = 0 ∨ (101 ≤ (frMake l i who kind).c ∧ (frMake l i who kind).c ≤ 116) := by
  unfold frMake
  split
  · exact frC_mine _ _ _ _ (frC_make kind)
  · exact .inr ⟨by simp, by simp⟩
theorem frC_alloc (l : List Fr) (who : Int) : (frAlloc l who).c = 0 ∨ (101 ≤ (frAlloc l who).c ∧ (frAlloc l who).c ≤ 116) := by
  unfold frAlloc
  split
  · split
    · exact .inr ⟨by simp, by simp⟩
    · exact .inl rfl
  · exact .inr ⟨by simp, by simp⟩
theorem frOk_bounds {m : Int} {l : List Fr} (h : FrOk m l) (hm : m ≤ 1000000) : ∀ n, n < l.length → (0 ≤ (l.getD n default).wr ∧ (l.getD n default).wr ≤ 1000000) ∧ (0 ≤ (l.getD n default).us ∧ (l.getD n default).us ≤ 1000000) := fun n hn => by
  obtain ⟨-, h2, h3, h4, h5, -⟩ := frOk_get h n hn
  exact ⟨⟨h2, by omega⟩, h4, by omega⟩
set_option maxRecDepth 100000 in
set_option maxHeartbeats 3200000 in
theorem does_2 (E : Nat → Addr) (l : List Fr) (b g x y n : Nat) (m a bb c : Int) (w : World) (hE : ∀ wx, Only (fun k => k = g ∨ k = y) w wx → ErrsAt errT gOf wx E all16) (h1 : FrAt 95 33 w b g n l) (h2 : FrAt 54 51 w x y n l) (hby : b ≠ y) (hgy : g ≠ y) (hxg : x ≠ g) (hOk : FrOk m l) (hm : m ≤ 1000000) :
    Calls Tryd.prog 20 #[.pointer (some ⟨b, 0, none⟩), .pointer (some ⟨x, 0, none⟩), .agg #[.int .i64 2, .int .i64 a, .int .i64 bb, .int .i64 c]] w (DoesPost b g x y n (frMine l a bb kFree).l w) := by
  obtain ⟨wA, hwA⟩ : ∃ wA, wA = w.alloc (.cells #[.int .i64 2, .int .i64 a, .int .i64 bb, .int .i64 c] 45) := ⟨_, rfl⟩
  have hba : Below w.heap.size w wA := hwA ▸ Below.alloc (Below.refl _ _) (Nat.le_refl _) _
  have HBA := Lib.hid hba
  have HBLK : Hid (wA.heap[w.heap.size]? = some (.cells #[.int .i64 2, .int .i64 a, .int .i64 bb, .int .i64 c] 45 (0, 0))) := Lib.hid (hwA ▸ blk_new w _)
  have HNE : Hid (w.heap.size ≠ g ∧ w.heap.size ≠ y) := Lib.hid ⟨by have := h1.lt.2; omega, by have := h2.lt.2; omega⟩
  have HKA : Hid (∀ wx, Only (fun k => k = g ∨ k = y) wA wx → Only (fun k => k = g ∨ k = y) wA wx ∧ wx.cell? ⟨w.heap.size, 1, none⟩ = some (.int .i64 a) ∧ wx.cell? ⟨w.heap.size, 2, none⟩ = some (.int .i64 bb) ∧ wx.cell? ⟨w.heap.size, 3, none⟩ = some (.int .i64 c)) := Lib.hid fun wx h => by
    have hb := h.blk HBLK.out (fun e => e.elim HNE.out.1 HNE.out.2)
    exact ⟨h, blk_cell hb 1, blk_cell hb 2, blk_cell hb 3⟩
  have HED := Lib.hid (hE _ (Only.of_below hba).drew)
  have H1 := Lib.hid ((h1.below hba).below (Below.refl _ _).drew)
  have H2 := Lib.hid ((h2.below hba).below (Below.refl _ _).drew)
  have HBY := Lib.hid hby
  have HGY := Lib.hid hgy
  have HXG := Lib.hid hxg
  have HW1 : Hid (Calls Tryd.prog 15 #[.pointer (some ⟨b, 0, none⟩), .int .i64 a, .int .i64 bb] wA.drew (FrQ 95 33 E b g n (frMine l a bb kFree) wA.drew)) := Lib.hid (ffree_any E l b g n a bb wA.drew HED.out H1.out)
  have HW2 : Hid (∀ w5, FrAt 54 51 w5 x y n l → Calls Tryd.prog 54 #[.pointer (some ⟨x, 0, none⟩), .int .i64 a, .int .i64 bb] w5 (FrN 54 51 x y n (frMine l a bb kFree) w5)) := Lib.hid fun w5 h => rfree_any l x y n a bb w5 h
  have HSM := Lib.hid (frC_mine l a bb kFree frC_free)
  have HGS : Hid (w.heap.size ≤ wA.heap.size ∧ g < w.heap.size ∧ y < w.heap.size) := Lib.hid ⟨hba.size, h1.lt.2, h2.lt.2⟩
  have HEK : Hid (∀ wx, Only (fun k => k = g ∨ k = y) wA wx → ErrsAt errT gOf wx E all16) := Lib.hid fun wx h => hE _ ((Only.of_below hba).trans h)
  obtain ⟨⟨l', nn, cc⟩, hR⟩ : ∃ R, frMine l a bb kFree = R := ⟨_, rfl⟩
  rw [hR] at HW1 HW2 HSM ⊢
  unfold FrQ at HW1
  unfold FrN at HW2
  unfold DoesPost
  dsimp only at HW1 HW2 HSM ⊢
  have HIS : Hid (∀ w6, Only (fun k => k = g ∨ k = y) wA w6 → Calls Tryd.prog 17 #[errC E cc, .int .i64 cc] w6 fun e w' => e = .returned (.bool true) ∧ Below w6.heap.size w6 w') := Lib.hid fun w6 h => by
    have := is_any E (errC E cc) cc cc (errC_num E cc HSM.out) w6 (HEK.out _ h)
    rwa [decide_eq_true rfl] at this
  have hB0 : Only (fun k => k = g ∨ k = y) wA wA.drew := (Only.refl _ _).drew
  have HWA := Lib.hid hwA
  clear hE h1 h2 hR hba hwA hby hgy hxg hOk hm
  go_enter Tryd.func20, Tryd.ntmps20
  go_wp2_with fail
  rw [← HWA.out]
  obtain ⟨-, c1, c2, c3⟩ := HKA.out _ (Only.refl _ wA)
  go_region_held3 (fun wx => Only (fun k => k = g ∨ k = y) wA wx ∧ wx.cell? ⟨w.heap.size, 1, none⟩ = some (.int .i64 a) ∧ wx.cell? ⟨w.heap.size, 2, none⟩ = some (.int .i64 bb) ∧ wx.cell? ⟨w.heap.size, 3, none⟩ = some (.int .i64 c)) (first | exact HKA.out _ (by assumption))
    (first
      | (go_at_call 15; refine HW1.out.mono ?_; rintro e w5 ⟨rfl, hn5, ho5⟩; have hr5 := H2.out.only ho5 HXG.out (fun e => HGY.out e.symm); have hB5 : Only (fun k => k = g ∨ k = y) wA w5 := hB0.trans (ho5.mono fun k hk => .inl (.inl hk)))
      | (go_at_call 54; refine (HW2.out w5 hr5).mono ?_; rintro e w6 ⟨rfl, hr6, ho6⟩; have hB6 : Only (fun k => k = g ∨ k = y) wA w6 := hB5.trans (ho6.mono fun k hk => .inl (.inr hk)))
      | (go_at_call 17; refine (HIS.out _ hB6).mono ?_; rintro e w7 ⟨rfl, hb7⟩; have hB7 : Only (fun k => k = g ∨ k = y) wA w7 := hB6.below' hb7))
  all_goals
    have HF1 := Lib.hid ((hn5.only ho6 HBY.out HGY.out).below hb7)
    have HF2 := Lib.hid (hr6.below hb7)
    have HO := Lib.hid ((Only.of_below (F := fun k => k = g ∨ k = y) HBA.out).trans hB7)
    clear hn5 ho5 hr5 hB5 hr6 ho6 hB6 hb7 hB7 c1 c2 c3
    go_wp2
    go_ret
    exact ⟨rfl, HF1.out, HF2.out, HO.out⟩
set_option maxRecDepth 100000 in
set_option maxHeartbeats 3200000 in
theorem does_3 (E : Nat → Addr) (l : List Fr) (b g x y n : Nat) (m a bb c : Int) (w : World) (hE : ∀ wx, Only (fun k => k = g ∨ k = y) w wx → ErrsAt errT gOf wx E all16) (h1 : FrAt 95 33 w b g n l) (h2 : FrAt 54 51 w x y n l) (hby : b ≠ y) (hgy : g ≠ y) (hxg : x ≠ g) (hOk : FrOk m l) (hm : m ≤ 1000000) :
    Calls Tryd.prog 20 #[.pointer (some ⟨b, 0, none⟩), .pointer (some ⟨x, 0, none⟩), .agg #[.int .i64 3, .int .i64 a, .int .i64 bb, .int .i64 c]] w (DoesPost b g x y n (frMake l a bb c).l w) := by
  obtain ⟨wA, hwA⟩ : ∃ wA, wA = w.alloc (.cells #[.int .i64 3, .int .i64 a, .int .i64 bb, .int .i64 c] 45) := ⟨_, rfl⟩
  have hba : Below w.heap.size w wA := hwA ▸ Below.alloc (Below.refl _ _) (Nat.le_refl _) _
  have HBA := Lib.hid hba
  have HBLK : Hid (wA.heap[w.heap.size]? = some (.cells #[.int .i64 3, .int .i64 a, .int .i64 bb, .int .i64 c] 45 (0, 0))) := Lib.hid (hwA ▸ blk_new w _)
  have HNE : Hid (w.heap.size ≠ g ∧ w.heap.size ≠ y) := Lib.hid ⟨by have := h1.lt.2; omega, by have := h2.lt.2; omega⟩
  have HKA : Hid (∀ wx, Only (fun k => k = g ∨ k = y) wA wx → Only (fun k => k = g ∨ k = y) wA wx ∧ wx.cell? ⟨w.heap.size, 1, none⟩ = some (.int .i64 a) ∧ wx.cell? ⟨w.heap.size, 2, none⟩ = some (.int .i64 bb) ∧ wx.cell? ⟨w.heap.size, 3, none⟩ = some (.int .i64 c)) := Lib.hid fun wx h => by
    have hb := h.blk HBLK.out (fun e => e.elim HNE.out.1 HNE.out.2)
    exact ⟨h, blk_cell hb 1, blk_cell hb 2, blk_cell hb 3⟩
  have HED := Lib.hid (hE _ (Only.of_below hba).drew)
  have H1 := Lib.hid ((h1.below hba).below (Below.refl _ _).drew)
  have H2 := Lib.hid ((h2.below hba).below (Below.refl _ _).drew)
  have HBY := Lib.hid hby
  have HGY := Lib.hid hgy
  have HXG := Lib.hid hxg
  have HW1 : Hid (Calls Tryd.prog 23 #[.pointer (some ⟨b, 0, none⟩), .int .i64 a, .int .i64 bb, .int .i64 c] wA.drew (FrQ 95 33 E b g n (frMake l a bb c) wA.drew)) := Lib.hid (fmake_any E l b g n a bb c wA.drew HED.out H1.out)
  have HW2 : Hid (∀ w5, FrAt 54 51 w5 x y n l → Calls Tryd.prog 55 #[.pointer (some ⟨x, 0, none⟩), .int .i64 a, .int .i64 bb, .int .i64 c] w5 (FrN 54 51 x y n (frMake l a bb c) w5)) := Lib.hid fun w5 h => rmake_any l x y n a bb c w5 h
  have HSM := Lib.hid (frC_makes l a bb c)
  have HGS : Hid (w.heap.size ≤ wA.heap.size ∧ g < w.heap.size ∧ y < w.heap.size) := Lib.hid ⟨hba.size, h1.lt.2, h2.lt.2⟩
  have HEK : Hid (∀ wx, Only (fun k => k = g ∨ k = y) wA wx → ErrsAt errT gOf wx E all16) := Lib.hid fun wx h => hE _ ((Only.of_below hba).trans h)
  obtain ⟨⟨l', nn, cc⟩, hR⟩ : ∃ R, frMake l a bb c = R := ⟨_, rfl⟩
  rw [hR] at HW1 HW2 HSM ⊢
  unfold FrQ at HW1
  unfold FrN at HW2
  unfold DoesPost
  dsimp only at HW1 HW2 HSM ⊢
  have HIS : Hid (∀ w6, Only (fun k => k = g ∨ k = y) wA w6 → Calls Tryd.prog 17 #[errC E cc, .int .i64 cc] w6 fun e w' => e = .returned (.bool true) ∧ Below w6.heap.size w6 w') := Lib.hid fun w6 h => by
    have := is_any E (errC E cc) cc cc (errC_num E cc HSM.out) w6 (HEK.out _ h)
    rwa [decide_eq_true rfl] at this
  have hB0 : Only (fun k => k = g ∨ k = y) wA wA.drew := (Only.refl _ _).drew
  have HWA := Lib.hid hwA
  clear hE h1 h2 hR hba hwA hby hgy hxg hOk hm
  go_enter Tryd.func20, Tryd.ntmps20
  go_wp2_with fail
  rw [← HWA.out]
  obtain ⟨-, c1, c2, c3⟩ := HKA.out _ (Only.refl _ wA)
  go_region_held3 (fun wx => Only (fun k => k = g ∨ k = y) wA wx ∧ wx.cell? ⟨w.heap.size, 1, none⟩ = some (.int .i64 a) ∧ wx.cell? ⟨w.heap.size, 2, none⟩ = some (.int .i64 bb) ∧ wx.cell? ⟨w.heap.size, 3, none⟩ = some (.int .i64 c)) (first | exact HKA.out _ (by assumption))
    (first
      | (go_at_call 23; refine HW1.out.mono ?_; rintro e w5 ⟨rfl, hn5, ho5⟩; have hr5 := H2.out.only ho5 HXG.out (fun e => HGY.out e.symm); have hB5 : Only (fun k => k = g ∨ k = y) wA w5 := hB0.trans (ho5.mono fun k hk => .inl (.inl hk)))
      | (go_at_call 55; refine (HW2.out w5 hr5).mono ?_; rintro e w6 ⟨rfl, hr6, ho6⟩; have hB6 : Only (fun k => k = g ∨ k = y) wA w6 := hB5.trans (ho6.mono fun k hk => .inl (.inr hk)))
      | (go_at_call 17; refine (HIS.out _ hB6).mono ?_; rintro e w7 ⟨rfl, hb7⟩; have hB7 : Only (fun k => k = g ∨ k = y) wA w7 := hB6.below' hb7))
  all_goals
    have HF1 := Lib.hid ((hn5.only ho6 HBY.out HGY.out).below hb7)
    have HF2 := Lib.hid (hr6.below hb7)
    have HO := Lib.hid ((Only.of_below (F := fun k => k = g ∨ k = y) HBA.out).trans hB7)
    clear hn5 ho5 hr5 hB5 hr6 ho6 hB6 hb7 hB7 c1 c2 c3
    go_wp2
    go_ret
    exact ⟨rfl, HF1.out, HF2.out, HO.out⟩
set_option maxRecDepth 100000 in
set_option maxHeartbeats 3200000 in
theorem does_4 (E : Nat → Addr) (l : List Fr) (b g x y n : Nat) (m a bb c : Int) (w : World) (hE : ∀ wx, Only (fun k => k = g ∨ k = y) w wx → ErrsAt errT gOf wx E all16) (h1 : FrAt 95 33 w b g n l) (h2 : FrAt 54 51 w x y n l) (hby : b ≠ y) (hgy : g ≠ y) (hxg : x ≠ g) (hOk : FrOk m l) (hm : m ≤ 1000000) :
    Calls Tryd.prog 20 #[.pointer (some ⟨b, 0, none⟩), .pointer (some ⟨x, 0, none⟩), .agg #[.int .i64 4, .int .i64 a, .int .i64 bb, .int .i64 c]] w (DoesPost b g x y n (frMine l a bb kPlain).l w) := by
  obtain ⟨wA, hwA⟩ : ∃ wA, wA = w.alloc (.cells #[.int .i64 4, .int .i64 a, .int .i64 bb, .int .i64 c] 45) := ⟨_, rfl⟩
  have hba : Below w.heap.size w wA := hwA ▸ Below.alloc (Below.refl _ _) (Nat.le_refl _) _
  have HBA := Lib.hid hba
  have HBLK : Hid (wA.heap[w.heap.size]? = some (.cells #[.int .i64 4, .int .i64 a, .int .i64 bb, .int .i64 c] 45 (0, 0))) := Lib.hid (hwA ▸ blk_new w _)
  have HNE : Hid (w.heap.size ≠ g ∧ w.heap.size ≠ y) := Lib.hid ⟨by have := h1.lt.2; omega, by have := h2.lt.2; omega⟩
  have HKA : Hid (∀ wx, Only (fun k => k = g ∨ k = y) wA wx → Only (fun k => k = g ∨ k = y) wA wx ∧ wx.cell? ⟨w.heap.size, 1, none⟩ = some (.int .i64 a) ∧ wx.cell? ⟨w.heap.size, 2, none⟩ = some (.int .i64 bb) ∧ wx.cell? ⟨w.heap.size, 3, none⟩ = some (.int .i64 c)) := Lib.hid fun wx h => by
    have hb := h.blk HBLK.out (fun e => e.elim HNE.out.1 HNE.out.2)
    exact ⟨h, blk_cell hb 1, blk_cell hb 2, blk_cell hb 3⟩
  have HED := Lib.hid (hE _ (Only.of_below hba).drew)
  have H1 := Lib.hid ((h1.below hba).below (Below.refl _ _).drew)
  have H2 := Lib.hid ((h2.below hba).below (Below.refl _ _).drew)
  have HBY := Lib.hid hby
  have HGY := Lib.hid hgy
  have HXG := Lib.hid hxg
  have HW1 : Hid (Calls Tryd.prog 24 #[.pointer (some ⟨b, 0, none⟩), .int .i64 a, .int .i64 bb] wA.drew (FrQ 95 33 E b g n (frMine l a bb kPlain) wA.drew)) := Lib.hid (fplain_any E l b g n a bb wA.drew HED.out H1.out)
  have HW2 : Hid (∀ w5, FrAt 54 51 w5 x y n l → Calls Tryd.prog 56 #[.pointer (some ⟨x, 0, none⟩), .int .i64 a, .int .i64 bb] w5 (FrN 54 51 x y n (frMine l a bb kPlain) w5)) := Lib.hid fun w5 h => rplain_any l x y n a bb w5 h
  have HSM := Lib.hid (frC_mine l a bb kPlain frC_plain)
  have HGS : Hid (w.heap.size ≤ wA.heap.size ∧ g < w.heap.size ∧ y < w.heap.size) := Lib.hid ⟨hba.size, h1.lt.2, h2.lt.2⟩
  have HEK : Hid (∀ wx, Only (fun k => k = g ∨ k = y) wA wx → ErrsAt errT gOf wx E all16) := Lib.hid fun wx h => hE _ ((Only.of_below hba).trans h)
  obtain ⟨⟨l', nn, cc⟩, hR⟩ : ∃ R, frMine l a bb kPlain = R := ⟨_, rfl⟩
  rw [hR] at HW1 HW2 HSM ⊢
  unfold FrQ at HW1
  unfold FrN at HW2
  unfold DoesPost
  dsimp only at HW1 HW2 HSM ⊢
  have HIS : Hid (∀ w6, Only (fun k => k = g ∨ k = y) wA w6 → Calls Tryd.prog 17 #[errC E cc, .int .i64 cc] w6 fun e w' => e = .returned (.bool true) ∧ Below w6.heap.size w6 w') := Lib.hid fun w6 h => by
    have := is_any E (errC E cc) cc cc (errC_num E cc HSM.out) w6 (HEK.out _ h)
    rwa [decide_eq_true rfl] at this
  have hB0 : Only (fun k => k = g ∨ k = y) wA wA.drew := (Only.refl _ _).drew
  have HWA := Lib.hid hwA
  clear hE h1 h2 hR hba hwA hby hgy hxg hOk hm
  go_enter Tryd.func20, Tryd.ntmps20
  go_wp2_with fail
  rw [← HWA.out]
  obtain ⟨-, c1, c2, c3⟩ := HKA.out _ (Only.refl _ wA)
  go_region_held3 (fun wx => Only (fun k => k = g ∨ k = y) wA wx ∧ wx.cell? ⟨w.heap.size, 1, none⟩ = some (.int .i64 a) ∧ wx.cell? ⟨w.heap.size, 2, none⟩ = some (.int .i64 bb) ∧ wx.cell? ⟨w.heap.size, 3, none⟩ = some (.int .i64 c)) (first | exact HKA.out _ (by assumption))
    (first
      | (go_at_call 24; refine HW1.out.mono ?_; rintro e w5 ⟨rfl, hn5, ho5⟩; have hr5 := H2.out.only ho5 HXG.out (fun e => HGY.out e.symm); have hB5 : Only (fun k => k = g ∨ k = y) wA w5 := hB0.trans (ho5.mono fun k hk => .inl (.inl hk)))
      | (go_at_call 56; refine (HW2.out w5 hr5).mono ?_; rintro e w6 ⟨rfl, hr6, ho6⟩; have hB6 : Only (fun k => k = g ∨ k = y) wA w6 := hB5.trans (ho6.mono fun k hk => .inl (.inr hk)))
      | (go_at_call 17; refine (HIS.out _ hB6).mono ?_; rintro e w7 ⟨rfl, hb7⟩; have hB7 : Only (fun k => k = g ∨ k = y) wA w7 := hB6.below' hb7))
  all_goals
    have HF1 := Lib.hid ((hn5.only ho6 HBY.out HGY.out).below hb7)
    have HF2 := Lib.hid (hr6.below hb7)
    have HO := Lib.hid ((Only.of_below (F := fun k => k = g ∨ k = y) HBA.out).trans hB7)
    clear hn5 ho5 hr5 hB5 hr6 ho6 hB6 hb7 hB7 c1 c2 c3
    go_wp2
    go_ret
    exact ⟨rfl, HF1.out, HF2.out, HO.out⟩
set_option maxRecDepth 100000 in
set_option maxHeartbeats 3200000 in
theorem does_5 (E : Nat → Addr) (l : List Fr) (b g x y n : Nat) (m a bb c : Int) (w : World) (hE : ∀ wx, Only (fun k => k = g ∨ k = y) w wx → ErrsAt errT gOf wx E all16) (h1 : FrAt 95 33 w b g n l) (h2 : FrAt 54 51 w x y n l) (hby : b ≠ y) (hgy : g ≠ y) (hxg : x ≠ g) (hOk : FrOk m l) (hm : m ≤ 1000000) :
    Calls Tryd.prog 20 #[.pointer (some ⟨b, 0, none⟩), .pointer (some ⟨x, 0, none⟩), .agg #[.int .i64 5, .int .i64 a, .int .i64 bb, .int .i64 c]] w (DoesPost b g x y n (frThere l a kWrite).l w) := by
  obtain ⟨wA, hwA⟩ : ∃ wA, wA = w.alloc (.cells #[.int .i64 5, .int .i64 a, .int .i64 bb, .int .i64 c] 45) := ⟨_, rfl⟩
  have hba : Below w.heap.size w wA := hwA ▸ Below.alloc (Below.refl _ _) (Nat.le_refl _) _
  have HBA := Lib.hid hba
  have HBLK : Hid (wA.heap[w.heap.size]? = some (.cells #[.int .i64 5, .int .i64 a, .int .i64 bb, .int .i64 c] 45 (0, 0))) := Lib.hid (hwA ▸ blk_new w _)
  have HNE : Hid (w.heap.size ≠ g ∧ w.heap.size ≠ y) := Lib.hid ⟨by have := h1.lt.2; omega, by have := h2.lt.2; omega⟩
  have HKA : Hid (∀ wx, Only (fun k => k = g ∨ k = y) wA wx → Only (fun k => k = g ∨ k = y) wA wx ∧ wx.cell? ⟨w.heap.size, 1, none⟩ = some (.int .i64 a) ∧ wx.cell? ⟨w.heap.size, 2, none⟩ = some (.int .i64 bb) ∧ wx.cell? ⟨w.heap.size, 3, none⟩ = some (.int .i64 c)) := Lib.hid fun wx h => by
    have hb := h.blk HBLK.out (fun e => e.elim HNE.out.1 HNE.out.2)
    exact ⟨h, blk_cell hb 1, blk_cell hb 2, blk_cell hb 3⟩
  have HED := Lib.hid (hE _ (Only.of_below hba).drew)
  have H1 := Lib.hid ((h1.below hba).below (Below.refl _ _).drew)
  have H2 := Lib.hid ((h2.below hba).below (Below.refl _ _).drew)
  have HBY := Lib.hid hby
  have HGY := Lib.hid hgy
  have HXG := Lib.hid hxg
  have HW1 : Hid (Calls Tryd.prog 21 #[.pointer (some ⟨b, 0, none⟩), .int .i64 a] wA.drew (FrQ 95 33 E b g n (frThere l a kWrite) wA.drew)) := Lib.hid (fwrite_any E l b g n a wA.drew (frOk_bounds hOk hm) HED.out H1.out)
  have HW2 : Hid (∀ w5, FrAt 54 51 w5 x y n l → Calls Tryd.prog 57 #[.pointer (some ⟨x, 0, none⟩), .int .i64 a] w5 (FrN 54 51 x y n (frThere l a kWrite) w5)) := Lib.hid fun w5 h => rwrite_any l x y n a w5 (frOk_bounds hOk hm) h
  have HSM := Lib.hid (frC_there l a kWrite frC_write)
  have HGS : Hid (w.heap.size ≤ wA.heap.size ∧ g < w.heap.size ∧ y < w.heap.size) := Lib.hid ⟨hba.size, h1.lt.2, h2.lt.2⟩
  have HEK : Hid (∀ wx, Only (fun k => k = g ∨ k = y) wA wx → ErrsAt errT gOf wx E all16) := Lib.hid fun wx h => hE _ ((Only.of_below hba).trans h)
  obtain ⟨⟨l', nn, cc⟩, hR⟩ : ∃ R, frThere l a kWrite = R := ⟨_, rfl⟩
  rw [hR] at HW1 HW2 HSM ⊢
  unfold FrQ at HW1
  unfold FrN at HW2
  unfold DoesPost
  dsimp only at HW1 HW2 HSM ⊢
  have HIS : Hid (∀ w6, Only (fun k => k = g ∨ k = y) wA w6 → Calls Tryd.prog 17 #[errC E cc, .int .i64 cc] w6 fun e w' => e = .returned (.bool true) ∧ Below w6.heap.size w6 w') := Lib.hid fun w6 h => by
    have := is_any E (errC E cc) cc cc (errC_num E cc HSM.out) w6 (HEK.out _ h)
    rwa [decide_eq_true rfl] at this
  have hB0 : Only (fun k => k = g ∨ k = y) wA wA.drew := (Only.refl _ _).drew
  have HWA := Lib.hid hwA
  clear hE h1 h2 hR hba hwA hby hgy hxg hOk hm
  go_enter Tryd.func20, Tryd.ntmps20
  go_wp2_with fail
  rw [← HWA.out]
  obtain ⟨-, c1, c2, c3⟩ := HKA.out _ (Only.refl _ wA)
  go_region_held3 (fun wx => Only (fun k => k = g ∨ k = y) wA wx ∧ wx.cell? ⟨w.heap.size, 1, none⟩ = some (.int .i64 a) ∧ wx.cell? ⟨w.heap.size, 2, none⟩ = some (.int .i64 bb) ∧ wx.cell? ⟨w.heap.size, 3, none⟩ = some (.int .i64 c)) (first | exact HKA.out _ (by assumption))
    (first
      | (go_at_call 21; refine HW1.out.mono ?_; rintro e w5 ⟨rfl, hn5, ho5⟩; have hr5 := H2.out.only ho5 HXG.out (fun e => HGY.out e.symm); have hB5 : Only (fun k => k = g ∨ k = y) wA w5 := hB0.trans (ho5.mono fun k hk => .inl (.inl hk)))
      | (go_at_call 57; refine (HW2.out w5 hr5).mono ?_; rintro e w6 ⟨rfl, hr6, ho6⟩; have hB6 : Only (fun k => k = g ∨ k = y) wA w6 := hB5.trans (ho6.mono fun k hk => .inl (.inr hk)))
      | (go_at_call 17; refine (HIS.out _ hB6).mono ?_; rintro e w7 ⟨rfl, hb7⟩; have hB7 : Only (fun k => k = g ∨ k = y) wA w7 := hB6.below' hb7))
  all_goals
    have HF1 := Lib.hid ((hn5.only ho6 HBY.out HGY.out).below hb7)
    have HF2 := Lib.hid (hr6.below hb7)
    have HO := Lib.hid ((Only.of_below (F := fun k => k = g ∨ k = y) HBA.out).trans hB7)
    clear hn5 ho5 hr5 hB5 hr6 ho6 hB6 hb7 hB7 c1 c2 c3
    go_wp2
    go_ret
    exact ⟨rfl, HF1.out, HF2.out, HO.out⟩
set_option maxRecDepth 100000 in
set_option maxHeartbeats 3200000 in
theorem does_6 (E : Nat → Addr) (l : List Fr) (b g x y n : Nat) (m a bb c : Int) (w : World) (hE : ∀ wx, Only (fun k => k = g ∨ k = y) w wx → ErrsAt errT gOf wx E all16) (h1 : FrAt 95 33 w b g n l) (h2 : FrAt 54 51 w x y n l) (hby : b ≠ y) (hgy : g ≠ y) (hxg : x ≠ g) (hOk : FrOk m l) (hm : m ≤ 1000000) :
    Calls Tryd.prog 20 #[.pointer (some ⟨b, 0, none⟩), .pointer (some ⟨x, 0, none⟩), .agg #[.int .i64 6, .int .i64 a, .int .i64 bb, .int .i64 c]] w (DoesPost b g x y n (frThere l a kUnwrite).l w) := by
  obtain ⟨wA, hwA⟩ : ∃ wA, wA = w.alloc (.cells #[.int .i64 6, .int .i64 a, .int .i64 bb, .int .i64 c] 45) := ⟨_, rfl⟩
  have hba : Below w.heap.size w wA := hwA ▸ Below.alloc (Below.refl _ _) (Nat.le_refl _) _
  have HBA := Lib.hid hba
  have HBLK : Hid (wA.heap[w.heap.size]? = some (.cells #[.int .i64 6, .int .i64 a, .int .i64 bb, .int .i64 c] 45 (0, 0))) := Lib.hid (hwA ▸ blk_new w _)
  have HNE : Hid (w.heap.size ≠ g ∧ w.heap.size ≠ y) := Lib.hid ⟨by have := h1.lt.2; omega, by have := h2.lt.2; omega⟩
  have HKA : Hid (∀ wx, Only (fun k => k = g ∨ k = y) wA wx → Only (fun k => k = g ∨ k = y) wA wx ∧ wx.cell? ⟨w.heap.size, 1, none⟩ = some (.int .i64 a) ∧ wx.cell? ⟨w.heap.size, 2, none⟩ = some (.int .i64 bb) ∧ wx.cell? ⟨w.heap.size, 3, none⟩ = some (.int .i64 c)) := Lib.hid fun wx h => by
    have hb := h.blk HBLK.out (fun e => e.elim HNE.out.1 HNE.out.2)
    exact ⟨h, blk_cell hb 1, blk_cell hb 2, blk_cell hb 3⟩
  have HED := Lib.hid (hE _ (Only.of_below hba).drew)
  have H1 := Lib.hid ((h1.below hba).below (Below.refl _ _).drew)
  have H2 := Lib.hid ((h2.below hba).below (Below.refl _ _).drew)
  have HBY := Lib.hid hby
  have HGY := Lib.hid hgy
  have HXG := Lib.hid hxg
  have HW1 : Hid (Calls Tryd.prog 26 #[.pointer (some ⟨b, 0, none⟩), .int .i64 a] wA.drew (FrQ 95 33 E b g n (frThere l a kUnwrite) wA.drew)) := Lib.hid (funwrite_any E l b g n a wA.drew (frOk_bounds hOk hm) HED.out H1.out)
  have HW2 : Hid (∀ w5, FrAt 54 51 w5 x y n l → Calls Tryd.prog 58 #[.pointer (some ⟨x, 0, none⟩), .int .i64 a] w5 (FrN 54 51 x y n (frThere l a kUnwrite) w5)) := Lib.hid fun w5 h => runwrite_any l x y n a w5 (frOk_bounds hOk hm) h
  have HSM := Lib.hid (frC_there l a kUnwrite frC_unwrite)
  have HGS : Hid (w.heap.size ≤ wA.heap.size ∧ g < w.heap.size ∧ y < w.heap.size) := Lib.hid ⟨hba.size, h1.lt.2, h2.lt.2⟩
  have HEK : Hid (∀ wx, Only (fun k => k = g ∨ k = y) wA wx → ErrsAt errT gOf wx E all16) := Lib.hid fun wx h => hE _ ((Only.of_below hba).trans h)
  obtain ⟨⟨l', nn, cc⟩, hR⟩ : ∃ R, frThere l a kUnwrite = R := ⟨_, rfl⟩
  rw [hR] at HW1 HW2 HSM ⊢
  unfold FrQ at HW1
  unfold FrN at HW2
  unfold DoesPost
  dsimp only at HW1 HW2 HSM ⊢
  have HIS : Hid (∀ w6, Only (fun k => k = g ∨ k = y) wA w6 → Calls Tryd.prog 17 #[errC E cc, .int .i64 cc] w6 fun e w' => e = .returned (.bool true) ∧ Below w6.heap.size w6 w') := Lib.hid fun w6 h => by
    have := is_any E (errC E cc) cc cc (errC_num E cc HSM.out) w6 (HEK.out _ h)
    rwa [decide_eq_true rfl] at this
  have hB0 : Only (fun k => k = g ∨ k = y) wA wA.drew := (Only.refl _ _).drew
  have HWA := Lib.hid hwA
  clear hE h1 h2 hR hba hwA hby hgy hxg hOk hm
  go_enter Tryd.func20, Tryd.ntmps20
  go_wp2_with fail
  rw [← HWA.out]
  obtain ⟨-, c1, c2, c3⟩ := HKA.out _ (Only.refl _ wA)
  go_region_held3 (fun wx => Only (fun k => k = g ∨ k = y) wA wx ∧ wx.cell? ⟨w.heap.size, 1, none⟩ = some (.int .i64 a) ∧ wx.cell? ⟨w.heap.size, 2, none⟩ = some (.int .i64 bb) ∧ wx.cell? ⟨w.heap.size, 3, none⟩ = some (.int .i64 c)) (first | exact HKA.out _ (by assumption))
    (first
      | (go_at_call 26; refine HW1.out.mono ?_; rintro e w5 ⟨rfl, hn5, ho5⟩; have hr5 := H2.out.only ho5 HXG.out (fun e => HGY.out e.symm); have hB5 : Only (fun k => k = g ∨ k = y) wA w5 := hB0.trans (ho5.mono fun k hk => .inl (.inl hk)))
      | (go_at_call 58; refine (HW2.out w5 hr5).mono ?_; rintro e w6 ⟨rfl, hr6, ho6⟩; have hB6 : Only (fun k => k = g ∨ k = y) wA w6 := hB5.trans (ho6.mono fun k hk => .inl (.inr hk)))
      | (go_at_call 17; refine (HIS.out _ hB6).mono ?_; rintro e w7 ⟨rfl, hb7⟩; have hB7 : Only (fun k => k = g ∨ k = y) wA w7 := hB6.below' hb7))
  all_goals
    have HF1 := Lib.hid ((hn5.only ho6 HBY.out HGY.out).below hb7)
    have HF2 := Lib.hid (hr6.below hb7)
    have HO := Lib.hid ((Only.of_below (F := fun k => k = g ∨ k = y) HBA.out).trans hB7)
    clear hn5 ho5 hr5 hB5 hr6 ho6 hB6 hb7 hB7 c1 c2 c3
    go_wp2
    go_ret
    exact ⟨rfl, HF1.out, HF2.out, HO.out⟩
set_option maxRecDepth 100000 in
set_option maxHeartbeats 3200000 in
theorem does_7 (E : Nat → Addr) (l : List Fr) (b g x y n : Nat) (m a bb c : Int) (w : World) (hE : ∀ wx, Only (fun k => k = g ∨ k = y) w wx → ErrsAt errT gOf wx E all16) (h1 : FrAt 95 33 w b g n l) (h2 : FrAt 54 51 w x y n l) (hby : b ≠ y) (hgy : g ≠ y) (hxg : x ≠ g) (hOk : FrOk m l) (hm : m ≤ 1000000) :
    Calls Tryd.prog 20 #[.pointer (some ⟨b, 0, none⟩), .pointer (some ⟨x, 0, none⟩), .agg #[.int .i64 7, .int .i64 a, .int .i64 bb, .int .i64 c]] w (DoesPost b g x y n (frThere l a kUse).l w) := by
  obtain ⟨wA, hwA⟩ : ∃ wA, wA = w.alloc (.cells #[.int .i64 7, .int .i64 a, .int .i64 bb, .int .i64 c] 45) := ⟨_, rfl⟩
  have hba : Below w.heap.size w wA := hwA ▸ Below.alloc (Below.refl _ _) (Nat.le_refl _) _
  have HBA := Lib.hid hba
  have HBLK : Hid (wA.heap[w.heap.size]? = some (.cells #[.int .i64 7, .int .i64 a, .int .i64 bb, .int .i64 c] 45 (0, 0))) := Lib.hid (hwA ▸ blk_new w _)
  have HNE : Hid (w.heap.size ≠ g ∧ w.heap.size ≠ y) := Lib.hid ⟨by have := h1.lt.2; omega, by have := h2.lt.2; omega⟩
  have HKA : Hid (∀ wx, Only (fun k => k = g ∨ k = y) wA wx → Only (fun k => k = g ∨ k = y) wA wx ∧ wx.cell? ⟨w.heap.size, 1, none⟩ = some (.int .i64 a) ∧ wx.cell? ⟨w.heap.size, 2, none⟩ = some (.int .i64 bb) ∧ wx.cell? ⟨w.heap.size, 3, none⟩ = some (.int .i64 c)) := Lib.hid fun wx h => by
    have hb := h.blk HBLK.out (fun e => e.elim HNE.out.1 HNE.out.2)
    exact ⟨h, blk_cell hb 1, blk_cell hb 2, blk_cell hb 3⟩
  have HED := Lib.hid (hE _ (Only.of_below hba).drew)
  have H1 := Lib.hid ((h1.below hba).below (Below.refl _ _).drew)
  have H2 := Lib.hid ((h2.below hba).below (Below.refl _ _).drew)
  have HBY := Lib.hid hby
  have HGY := Lib.hid hgy
  have HXG := Lib.hid hxg
  have HW1 : Hid (Calls Tryd.prog 22 #[.pointer (some ⟨b, 0, none⟩), .int .i64 a] wA.drew (FrQ 95 33 E b g n (frThere l a kUse) wA.drew)) := Lib.hid (fuse_any E l b g n a wA.drew (frOk_bounds hOk hm) HED.out H1.out)
  have HW2 : Hid (∀ w5, FrAt 54 51 w5 x y n l → Calls Tryd.prog 59 #[.pointer (some ⟨x, 0, none⟩), .int .i64 a] w5 (FrN 54 51 x y n (frThere l a kUse) w5)) := Lib.hid fun w5 h => ruse_any l x y n a w5 (frOk_bounds hOk hm) h
  have HSM := Lib.hid (frC_there l a kUse frC_use)
  have HGS : Hid (w.heap.size ≤ wA.heap.size ∧ g < w.heap.size ∧ y < w.heap.size) := Lib.hid ⟨hba.size, h1.lt.2, h2.lt.2⟩
  have HEK : Hid (∀ wx, Only (fun k => k = g ∨ k = y) wA wx → ErrsAt errT gOf wx E all16) := Lib.hid fun wx h => hE _ ((Only.of_below hba).trans h)
  obtain ⟨⟨l', nn, cc⟩, hR⟩ : ∃ R, frThere l a kUse = R := ⟨_, rfl⟩
  rw [hR] at HW1 HW2 HSM ⊢
  unfold FrQ at HW1
  unfold FrN at HW2
  unfold DoesPost
  dsimp only at HW1 HW2 HSM ⊢
  have HIS : Hid (∀ w6, Only (fun k => k = g ∨ k = y) wA w6 → Calls Tryd.prog 17 #[errC E cc, .int .i64 cc] w6 fun e w' => e = .returned (.bool true) ∧ Below w6.heap.size w6 w') := Lib.hid fun w6 h => by
    have := is_any E (errC E cc) cc cc (errC_num E cc HSM.out) w6 (HEK.out _ h)
    rwa [decide_eq_true rfl] at this
  have hB0 : Only (fun k => k = g ∨ k = y) wA wA.drew := (Only.refl _ _).drew
  have HWA := Lib.hid hwA
  clear hE h1 h2 hR hba hwA hby hgy hxg hOk hm
  go_enter Tryd.func20, Tryd.ntmps20
  go_wp2_with fail
  rw [← HWA.out]
  obtain ⟨-, c1, c2, c3⟩ := HKA.out _ (Only.refl _ wA)
  go_region_held3 (fun wx => Only (fun k => k = g ∨ k = y) wA wx ∧ wx.cell? ⟨w.heap.size, 1, none⟩ = some (.int .i64 a) ∧ wx.cell? ⟨w.heap.size, 2, none⟩ = some (.int .i64 bb) ∧ wx.cell? ⟨w.heap.size, 3, none⟩ = some (.int .i64 c)) (first | exact HKA.out _ (by assumption))
    (first
      | (go_at_call 22; refine HW1.out.mono ?_; rintro e w5 ⟨rfl, hn5, ho5⟩; have hr5 := H2.out.only ho5 HXG.out (fun e => HGY.out e.symm); have hB5 : Only (fun k => k = g ∨ k = y) wA w5 := hB0.trans (ho5.mono fun k hk => .inl (.inl hk)))
      | (go_at_call 59; refine (HW2.out w5 hr5).mono ?_; rintro e w6 ⟨rfl, hr6, ho6⟩; have hB6 : Only (fun k => k = g ∨ k = y) wA w6 := hB5.trans (ho6.mono fun k hk => .inl (.inr hk)))
      | (go_at_call 17; refine (HIS.out _ hB6).mono ?_; rintro e w7 ⟨rfl, hb7⟩; have hB7 : Only (fun k => k = g ∨ k = y) wA w7 := hB6.below' hb7))
  all_goals
    have HF1 := Lib.hid ((hn5.only ho6 HBY.out HGY.out).below hb7)
    have HF2 := Lib.hid (hr6.below hb7)
    have HO := Lib.hid ((Only.of_below (F := fun k => k = g ∨ k = y) HBA.out).trans hB7)
    clear hn5 ho5 hr5 hB5 hr6 ho6 hB6 hb7 hB7 c1 c2 c3
    go_wp2
    go_ret
    exact ⟨rfl, HF1.out, HF2.out, HO.out⟩
set_option maxRecDepth 100000 in
set_option maxHeartbeats 3200000 in
theorem does_8 (E : Nat → Addr) (l : List Fr) (b g x y n : Nat) (m a bb c : Int) (w : World) (kd : Int) (q1 : (kd == 1) = false) (q2 : (kd == 2) = false) (q3 : (kd == 3) = false) (q4 : (kd == 4) = false) (q5 : (kd == 5) = false) (q6 : (kd == 6) = false) (q7 : (kd == 7) = false) (hE : ∀ wx, Only (fun k => k = g ∨ k = y) w wx → ErrsAt errT gOf wx E all16) (h1 : FrAt 95 33 w b g n l) (h2 : FrAt 54 51 w x y n l) (hby : b ≠ y) (hgy : g ≠ y) (hxg : x ≠ g) (hOk : FrOk m l) (hm : m ≤ 1000000) :
    Calls Tryd.prog 20 #[.pointer (some ⟨b, 0, none⟩), .pointer (some ⟨x, 0, none⟩), .agg #[.int .i64 kd, .int .i64 a, .int .i64 bb, .int .i64 c]] w (DoesPost b g x y n (frThere l a kUnuse).l w) := by
  obtain ⟨wA, hwA⟩ : ∃ wA, wA = w.alloc (.cells #[.int .i64 kd, .int .i64 a, .int .i64 bb, .int .i64 c] 45) := ⟨_, rfl⟩
  have hba : Below w.heap.size w wA := hwA ▸ Below.alloc (Below.refl _ _) (Nat.le_refl _) _
  have HBA := Lib.hid hba
  have HBLK : Hid (wA.heap[w.heap.size]? = some (.cells #[.int .i64 kd, .int .i64 a, .int .i64 bb, .int .i64 c] 45 (0, 0))) := Lib.hid (hwA ▸ blk_new w _)
  have HNE : Hid (w.heap.size ≠ g ∧ w.heap.size ≠ y) := Lib.hid ⟨by have := h1.lt.2; omega, by have := h2.lt.2; omega⟩
  have HKA : Hid (∀ wx, Only (fun k => k = g ∨ k = y) wA wx → Only (fun k => k = g ∨ k = y) wA wx ∧ wx.cell? ⟨w.heap.size, 1, none⟩ = some (.int .i64 a) ∧ wx.cell? ⟨w.heap.size, 2, none⟩ = some (.int .i64 bb) ∧ wx.cell? ⟨w.heap.size, 3, none⟩ = some (.int .i64 c)) := Lib.hid fun wx h => by
    have hb := h.blk HBLK.out (fun e => e.elim HNE.out.1 HNE.out.2)
    exact ⟨h, blk_cell hb 1, blk_cell hb 2, blk_cell hb 3⟩
  have HED := Lib.hid (hE _ (Only.of_below hba).drew)
  have H1 := Lib.hid ((h1.below hba).below (Below.refl _ _).drew)
  have H2 := Lib.hid ((h2.below hba).below (Below.refl _ _).drew)
  have HBY := Lib.hid hby
  have HGY := Lib.hid hgy
  have HXG := Lib.hid hxg
  have HW1 : Hid (Calls Tryd.prog 25 #[.pointer (some ⟨b, 0, none⟩), .int .i64 a] wA.drew (FrQ 95 33 E b g n (frThere l a kUnuse) wA.drew)) := Lib.hid (funuse_any E l b g n a wA.drew (frOk_bounds hOk hm) HED.out H1.out)
  have HW2 : Hid (∀ w5, FrAt 54 51 w5 x y n l → Calls Tryd.prog 60 #[.pointer (some ⟨x, 0, none⟩), .int .i64 a] w5 (FrN 54 51 x y n (frThere l a kUnuse) w5)) := Lib.hid fun w5 h => runuse_any l x y n a w5 (frOk_bounds hOk hm) h
  have HSM := Lib.hid (frC_there l a kUnuse frC_unuse)
  have HGS : Hid (w.heap.size ≤ wA.heap.size ∧ g < w.heap.size ∧ y < w.heap.size) := Lib.hid ⟨hba.size, h1.lt.2, h2.lt.2⟩
  have HEK : Hid (∀ wx, Only (fun k => k = g ∨ k = y) wA wx → ErrsAt errT gOf wx E all16) := Lib.hid fun wx h => hE _ ((Only.of_below hba).trans h)
  obtain ⟨⟨l', nn, cc⟩, hR⟩ : ∃ R, frThere l a kUnuse = R := ⟨_, rfl⟩
  rw [hR] at HW1 HW2 HSM ⊢
  unfold FrQ at HW1
  unfold FrN at HW2
  unfold DoesPost
  dsimp only at HW1 HW2 HSM ⊢
  have HIS : Hid (∀ w6, Only (fun k => k = g ∨ k = y) wA w6 → Calls Tryd.prog 17 #[errC E cc, .int .i64 cc] w6 fun e w' => e = .returned (.bool true) ∧ Below w6.heap.size w6 w') := Lib.hid fun w6 h => by
    have := is_any E (errC E cc) cc cc (errC_num E cc HSM.out) w6 (HEK.out _ h)
    rwa [decide_eq_true rfl] at this
  have hB0 : Only (fun k => k = g ∨ k = y) wA wA.drew := (Only.refl _ _).drew
  have HWA := Lib.hid hwA
  clear hE h1 h2 hR hba hwA hby hgy hxg hOk hm
  go_enter Tryd.func20, Tryd.ntmps20
  go_wp2_with fail
  rw [← HWA.out]
  obtain ⟨-, c1, c2, c3⟩ := HKA.out _ (Only.refl _ wA)
  go_region_held3 (fun wx => Only (fun k => k = g ∨ k = y) wA wx ∧ wx.cell? ⟨w.heap.size, 1, none⟩ = some (.int .i64 a) ∧ wx.cell? ⟨w.heap.size, 2, none⟩ = some (.int .i64 bb) ∧ wx.cell? ⟨w.heap.size, 3, none⟩ = some (.int .i64 c)) (first | exact HKA.out _ (by assumption))
    (first
      | (go_at_call 25; refine HW1.out.mono ?_; rintro e w5 ⟨rfl, hn5, ho5⟩; have hr5 := H2.out.only ho5 HXG.out (fun e => HGY.out e.symm); have hB5 : Only (fun k => k = g ∨ k = y) wA w5 := hB0.trans (ho5.mono fun k hk => .inl (.inl hk)))
      | (go_at_call 60; refine (HW2.out w5 hr5).mono ?_; rintro e w6 ⟨rfl, hr6, ho6⟩; have hB6 : Only (fun k => k = g ∨ k = y) wA w6 := hB5.trans (ho6.mono fun k hk => .inl (.inr hk)))
      | (go_at_call 17; refine (HIS.out _ hB6).mono ?_; rintro e w7 ⟨rfl, hb7⟩; have hB7 : Only (fun k => k = g ∨ k = y) wA w7 := hB6.below' hb7))
  all_goals
    have HF1 := Lib.hid ((hn5.only ho6 HBY.out HGY.out).below hb7)
    have HF2 := Lib.hid (hr6.below hb7)
    have HO := Lib.hid ((Only.of_below (F := fun k => k = g ∨ k = y) HBA.out).trans hB7)
    clear hn5 ho5 hr5 hB5 hr6 ho6 hB6 hb7 hB7 c1 c2 c3
    go_wp2
    go_ret
    exact ⟨rfl, HF1.out, HF2.out, HO.out⟩
end Go.Proofs.YtaoaachgnnengaaDoor
