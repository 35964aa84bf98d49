/-
  RelaxMore: for every items and numbers the call returns true; nothing that was there is turned. No conditions.
-/
import Derived.Test.YtakhpibolhijoaaRelaxLeast
import Derived.Test.YtakhpibolhijoaaSameBools
import Derived.Deep.RegionHeld3
import Derived.Deep.Cut
import Derived.Deep.CutRange
namespace Go.Proofs.Ytakhpibolhijoaa
open Go.RowKit

theorem itCells_set0 (l : List Rx.It) (k : Nat) (h : k < l.length) (s : Int) : (itCells l).set (k * 3) (.int .i64 s) = itCells (l.set k { l.getD k default with size := s }) := by
  induction l generalizing k with
  | nil => simp at h
  | cons x l ih =>
    cases k with
    | zero => simp [itCells_cons]
    | succ k =>
      rw [itCells_cons, show (k + 1) * 3 = k * 3 + 1 + 1 + 1 by omega]
      simp only [List.cons_append, List.nil_append, List.set_cons_succ, List.getD_cons_succ]
      rw [ih k (by simpa using h), itCells_cons]
      rfl
theorem itCells_set2 (l : List Rx.It) (k : Nat) (h : k < l.length) (b : Bool) : (itCells l).set (k * 3 + 2) (.bool b) = itCells (l.set k { l.getD k default with br := b }) := by
  induction l generalizing k with
  | nil => simp at h
  | cons x l ih =>
    cases k with
    | zero => simp [itCells_cons]
    | succ k =>
      rw [itCells_cons, show (k + 1) * 3 + 2 = k * 3 + 2 + 1 + 1 + 1 by omega]
      simp only [List.cons_append, List.nil_append, List.set_cons_succ, List.getD_cons_succ]
      rw [ih k (by simpa using h), itCells_cons]
      rfl
def off (x : Rx.It) : Rx.It := { x with br := false }
def offs (l : List Rx.It) (j : Nat) : List Rx.It := (l.map off).take j ++ l.drop j
theorem offs_zero (l : List Rx.It) : offs l 0 = l := by simp [offs]
theorem offs_len (l : List Rx.It) (j : Nat) (h : j ≤ l.length) : (offs l j).length = l.length := by simp [offs]; omega
theorem offs_get (l : List Rx.It) (j : Nat) (h : j < l.length) : (offs l j).getD j default = l.getD j default := part_get default (l.map off) l (by simp) j (by simpa using h)
theorem offs_set (l : List Rx.It) (j : Nat) (h : j < l.length) : (offs l j).set j (off (l.getD j default)) = offs l (j + 1) := by
  have e : off (l.getD j default) = (l.map off).getD j default := by
    rw [List.getD_eq_getElem?_getD, List.getD_eq_getElem?_getD, List.getElem?_map, List.getElem?_eq_getElem h]
    rfl
  rw [e]
  exact part_set default (l.map off) l (by simp) j (by simpa using h)
theorem offs_all (l : List Rx.It) : offs l l.length = l.map off := by
  simp [offs, List.take_of_length_le]
theorem off_fair {l : List Rx.It} (h : Rx.Fair l) : Rx.Fair (l.map off) := by
  intro j hj
  rw [List.length_map] at hj
  have := h j hj
  have e : (l.map off).getD j default = off (l.getD j default) := by
    rw [List.getD_eq_getElem?_getD, List.getD_eq_getElem?_getD, List.getElem?_map, List.getElem?_eq_getElem hj]
    rfl
  rw [e]
  exact ⟨this.1, this.2.1, fun h => by cases h⟩
theorem off_do (l : List Rx.It) : Rx.IsDo (l.map off) (List.replicate l.length false) 0 := by
  have e0 : Rx.it (l.map off) 0 = List.replicate l.length false := by simp [Rx.it]
  refine ⟨e0.symm, ?_, fun j hj => by omega⟩
  apply Rx.bools_ext (by rw [Rx.step_length _ _ (by simp)]; simp)
  intro j hj
  rw [Rx.step_length _ _ (by simp), List.length_map] at hj
  rw [Rx.step_get _ _ j (by simp) (by simpa using hj)]
  have e : (l.map off).getD j default = off (l.getD j default) := by
    rw [List.getD_eq_getElem?_getD, List.getD_eq_getElem?_getD, List.getElem?_map, List.getElem?_eq_getElem hj]
    rfl
  rw [e]
  simp [off]

/-- one made greater -/
def grown (l : List Rx.It) (k : Nat) (s : Int) : List Rx.It := l.set k { l.getD k default with size := s }
theorem grown_len (l : List Rx.It) (k : Nat) (s : Int) : (grown l k s).length = l.length := by simp [grown]
theorem grown_get (l : List Rx.It) (k : Nat) (s : Int) (j : Nat) (hj : j < l.length) : (grown l k s).getD j default = if j = k then { l.getD k default with size := s } else l.getD j default := by
  rw [grown, List.getD_eq_getElem?_getD, List.getElem?_set]
  by_cases h : k = j
  · subst h
    simp [hj]
  · rw [if_neg h, if_neg (fun e => h e.symm), ← List.getD_eq_getElem?_getD]
theorem grown_fair {l : List Rx.It} (h : Rx.Fair l) (k : Nat) (hk : k < l.length) (s : Int) (h0 : 0 ≤ s) (h1 : s ≤ 2048) : Rx.Fair (grown l k s) := by
  intro j hj
  rw [grown_len] at hj ⊢
  rw [grown_get l k s j hj]
  by_cases e : j = k
  · rw [if_pos e]
    exact ⟨h0, h1, (h k hk).2.2⟩
  · rw [if_neg e]
    exact h j hj
theorem grown_least {l : List Rx.It} (h : Rx.Fair l) (k : Nat) (hk : k < l.length) (s : Int) (h0 : (l.getD k default).size ≤ s) (h1 : s ≤ 2048) {a c : List Bool} {r q : Nat} (ha : Rx.IsDo l a r) (hc : Rx.IsDo (grown l k s) c q) :
    ∀ j, a.getD j false = true → c.getD j false = true := by
  rw [ha.eq]
  refine Rx.it_least l (grown l k s) (grown_len l k s) h (grown_fair h k hk s (by have := (h k hk).1; omega) h1) ?_ ?_ c hc.length ?_ r
  · intro j hj
    rw [grown_get l k s j hj]
    by_cases e : j = k
    · rw [if_pos e, e]; exact h0
    · rw [if_neg e]; exact Int.le_refl _
  · intro j hj hb
    rw [grown_get l k s j hj]
    by_cases e : j = k
    · rw [if_pos e]; rw [e] at hb ⊢; exact ⟨hb, rfl⟩
    · rw [if_neg e]; exact ⟨hb, rfl⟩
  · intro j hj hb hf
    exact Rx.fix_fits hc.length hc.fix j hj hb hf

theorem same_n (xs ys : List Bool) (n : Nat) (ao bo : Option Addr) (c1 c2 : Nat) (w : World) (hx : AtL w ao (bls xs)) (hy : AtL w bo (bls ys)) (h1 : xs.length = n) (h2 : ys.length = n) (hl : n ≤ 1000000000) :
    Calls Try.prog 13 #[.slice ao n c1, .slice bo n c2] w fun e w' => e = .returned (.bool (decide (xs = ys))) ∧ ∃ n, w' = w.drewN n := by
  have h := sameBools_any xs ys ao bo c1 c2 w hx hy (by omega) (by omega)
  rw [h1, h2] at h
  exact h

theorem made_bools (w : World) (n : Nat) (h : n ≤ 1000000) : (Instr.makeSlice 24 (.int .i64 (n : Int)) (.int .i64 (n : Int))).run Try.prog w = .ok (.slice (some ⟨w.heap.size, 0, none⟩) n n) (w.alloc (.cells (madeCells #[.bool false] n) 4)) := by
  obtain ⟨i, hi, hz0, hz1, hz2⟩ := info_parts infoBool
  have e := run_make (P := Try.prog) w 24 4 i (.bool false) Try.underlying24 hi hz0 .i64 .i64 n n (by omega) (by omega) (by rw [hz2]; omega) (by omega)
  rw [e, hz1, Int.toNat_natCast, Nat.mul_one]
  rfl

def MoreTo (l : List Rx.It) (w : World) (g : Nat) (cap : Nat) (i : Value) (wr : World) : Prop :=
  ∃ j : Nat, j ≤ l.length ∧ i = .int .i64 (j : Int) ∧ wr.ownsRow 0 29 3 (.slice (some ⟨g, 0, none⟩) l.length cap) l.length (itCells (offs l j)) ∧ Only (fun b => b = g) w wr

set_option maxHeartbeats 1000000 in
theorem more_many (n : Nat) (ao : Option Addr) (c1 : Nat) (x y : Int) (w : World) (h : 60 < n) :
    Calls Try.prog 3 #[.slice ao n c1, .int .i64 x, .int .i64 y] w fun e w' => e = .returned (.bool true) ∧ Below w.heap.size w w' := by
  have h2 : (60 : Int) < (n : Int) := by omega
  clear h
  go_enter Try.func3, Try.ntmps3
  go_wp2_with fail
  refine (first_true _).mono ?_
  rintro e w1 ⟨rfl, hb1⟩
  go_wp2
  go_ret
  exact ⟨rfl, hb1⟩

set_option maxHeartbeats 1000000 in
theorem more_nil (ao : Option Addr) (c1 : Nat) (x y : Int) (w : World) :
    Calls Try.prog 3 #[.slice ao 0 c1, .int .i64 x, .int .i64 y] w fun e w' => e = .returned (.bool true) ∧ Below w.heap.size w w' := by
  go_enter Try.func3, Try.ntmps3
  go_wp2_with fail
  refine (first_true _).mono ?_
  rintro e w1 ⟨rfl, hb1⟩
  go_wp2_with fail
  refine (do_n [] 0 _ _ _ (atL_nil _ _) rfl (by omega)).mono ?_
  rintro e w2 ⟨-, hd1⟩
  obtain ⟨v, a, r, rfl, -, -, -, hb2⟩ := hd1 rfl
  have HB2 := Lib.hid (hb1.trans (hb2.mono hb1.size))
  clear hd1 hb1 hb2
  go_wp2
  go_ret
  exact ⟨rfl, HB2.out⟩

set_option maxHeartbeats 1000000 in
theorem more_bad (l : List Rx.It) (ao : Option Addr) (c1 : Nat) (x y : Int) (w : World) (hl : AtL w ao (itCells l)) (hn : l.length ≤ 60) (hf : fairB l = false) :
    Calls Try.prog 3 #[.slice ao l.length c1, .int .i64 x, .int .i64 y] w fun e w' => e = .returned (.bool true) ∧ Below w.heap.size w w' := by
  have HL := Lib.hid hl
  have HF := Lib.hid hf
  clear hl hf
  go_enter Try.func3, Try.ntmps3
  go_wp2_with fail
  refine (first_true _).mono ?_
  rintro e w1 ⟨rfl, hb1⟩
  have HB1 := Lib.hid hb1
  clear hb1
  go_wp2_with fail
  refine (do_n l l.length _ _ _ (HL.out.mono HB1.out) rfl (by omega)).mono ?_
  rintro e w2 ⟨hd0, -⟩
  obtain ⟨rfl, hb2⟩ := hd0 HF.out
  have HB2 := Lib.hid (HB1.out.trans (hb2.mono HB1.out.size))
  clear hd0 hb2
  go_wp2
  go_ret
  exact ⟨rfl, HB2.out⟩

set_option maxRecDepth 100000 in
set_option maxHeartbeats 3000000 in
theorem more_good (l : List Rx.It) (ao : Option Addr) (c1 : Nat) (x y : Int) (w : World) (hl : AtL w ao (itCells l)) (hn : l.length ≤ 60) (hpos : 0 < l.length) (hf : Rx.Fair l) (hx : -9223372036854775808 ≤ x ∧ x ≤ 9223372036854775807) (hy : -9223372036854775808 ≤ y ∧ y ≤ 9223372036854775807) :
    Calls Try.prog 3 #[.slice ao l.length c1, .int .i64 x, .int .i64 y] w fun e w' => e = .returned (.bool true) ∧ Below w.heap.size w w' := by
  obtain ⟨i0, hi, hz0, hz1, hz2⟩ := info_parts infoIt
  obtain ⟨b0, hib, hbz0, hbz1, hbz2⟩ := info_parts infoBool
  obtain ⟨bs, os, rfl, hbs⟩ : ∃ b off, ao = some ⟨b, off, none⟩ ∧ ∀ j u, (itCells l)[j]? = some u → w.cell? ⟨b, off + j, none⟩ = some u := by
    obtain ⟨h0, -, -⟩ := itCells_at l 0 hpos
    obtain ⟨b, off, rfl, -, -⟩ := hl _ _ h0
    exact ⟨b, off, rfl, fun j u hj => by obtain ⟨b', off', e, hc, -⟩ := hl j u hj; cases e; exact hc⟩
  have HBS := Lib.hid hbs
  have HL := Lib.hid hl
  have HF := Lib.hid hf
  have HX := Lib.hid hx
  have HY := Lib.hid hy
  have hne : ((l.length : Int) == 0) = false := by rw [beq_eq_false_iff_ne]; omega
  clear hl hf hx hy hbs
  go_enter Try.func3, Try.ntmps3
  go_wp2_with fail
  refine (first_true _).mono ?_
  rintro e w1 ⟨rfl, hb1⟩
  have HB1 := Lib.hid hb1
  clear hb1
  go_wp2_with fail
  refine (do_n l l.length _ _ _ (HL.out.mono HB1.out) rfl (by omega)).mono ?_
  rintro e w2 ⟨-, hd1⟩
  obtain ⟨v, a, r, rfl, hdo, hown, -, hb2⟩ := hd1 ((fair_iff l).2 HF.out)
  have HB2 := Lib.hid (HB1.out.trans (hb2.mono HB1.out.size))
  obtain ⟨av, cv, rfl, hav⟩ := atL_of_own hown
  have HAV := Lib.hid hav
  have HDO := Lib.hid hdo
  clear hd1 hdo hown hb2 hav HB1
  go_wp2_with fail
  refine (number_any x l.length _ HX.out.1 HX.out.2 (by omega) (by omega)).mono ?_
  rintro e w3 ⟨rfl, rfl⟩
  have hk1 := Int.emod_nonneg x (show (l.length : Int) ≠ 0 by omega)
  have hk2 := Int.emod_lt_of_pos x (show (0 : Int) < (l.length : Int) by omega)
  obtain ⟨k, hk⟩ : ∃ k : Nat, x % (l.length : Int) = (k : Int) := ⟨(x % (l.length : Int)).toNat, by omega⟩
  rw [hk] at hk1 hk2 ⊢
  have hkl : k < l.length := by omega
  clear hk HX
  have HNEW : Hid (∀ (X : Obj) (j : Nat) (u : Value), (itCells l)[j]? = some u → (w2.alloc X).cell? ((⟨bs, os, none⟩ : Addr).add j) = some u) := Lib.hid fun X j u hj => by
    rw [Addr.add_lit]
    exact cell_past (cell_under (HBS.out j u hj) HB2.out) X
  go_wp2_with (at_builtin; refine wpList_append_sep _ rfl _ _ 22 rfl 29 i0 (.agg #[.int .i64 0, .int .i64 0, .bool false]) 3 24 Try.underlying22 hi hz0 hz1 hz2 rfl (by decide) (.slice (some ⟨w2.heap.size, 0, none⟩) 0 0) 0 [] rfl (World.ownsRow_made w2 #[] 0 (Nat.zero_le _) (Nat.zero_le _) rfl) ⟨bs, os, none⟩ l.length c1 (itCells l) rfl (itCells_len l) (HNEW.out _) (itCells_one l) (by unfold maxLen; omega) (by omega) ?_)
  intro v' w3 ho hg hs
  have ho' : w3.ownsRow 0 29 3 v' l.length (itCells l) := by simpa using ho
  have hw3 : Below w2.heap.size w2 w3 := ((Below.refl _ _).alloc (Nat.le_refl _) _).grown hg (by simp) (fun k hk => by simp [Value.ownBlock] at hk; omega)
  have hg3 : ∀ k, inRow v' k → w2.heap.size ≤ k := fun k hk => by
    rcases hs k hk with h | h
    · simp [inRow, Value.ownBlock] at h; omega
    · have h' := h
      try simp only [World.size_alloc] at h'
      omega
  rcases own_shape ho' with ⟨-, h, -⟩ | ⟨g, cap, rfl, -, -⟩
  · omega
  have hgg := hg3 g rfl
  have HO3 := Lib.hid ho'
  have HW3 := Lib.hid hw3
  have HB3 := Lib.hid (HB2.out.trans (hw3.mono HB2.out.size))
  have hg2w := HB2.out.size
  clear ho ho' hg hs hw3 hg3 HNEW
  -- one is made greater
  have hsz := HF.out k hkl
  obtain ⟨c0, -, -⟩ := itCells_at l k hkl
  have y0 := (own_cell HO3.out (k * 3) (by omega)).trans c0
  have f0 := own_free HO3.out (k * 3)
  have HDEF : Hid (∀ s, (itCells l).set (k * 3) (.int .i64 s) = itCells (grown l k s)) := Lib.hid fun s => itCells_set0 l k hkl s
  have HGF : Hid (∀ s, (l.getD k default).size ≤ s → s ≤ 2048 → Rx.Fair (grown l k s)) := Lib.hid fun s h0 h1 => grown_fair HF.out k hkl s (by have := hsz.1; omega) h1
  have HGL : Hid (∀ s, (l.getD k default).size ≤ s → s ≤ 2048 → ∀ {c : List Bool} {q : Nat}, Rx.IsDo (grown l k s) c q → ∀ j, a.getD j false = true → c.getD j false = true) := Lib.hid fun s h0 h1 {c} {q} hc => grown_least HF.out k hkl s h0 h1 HDO.out hc
  obtain ⟨s, hs⟩ : ∃ s, (l.getD k default).size = s := ⟨_, rfl⟩
  rw [hs] at y0 hsz HGF HGL
  have s0 := hsz.1
  have s1 := hsz.2.1
  clear hs hsz c0
  have hq1 := Int.emod_nonneg y (show (100 : Int) ≠ 0 by omega)
  have hq2 := Int.emod_lt_of_pos y (show (0 : Int) < 100 by omega)
  have HNUM := Lib.hid (fun wx => number_any y 100 wx HY.out.1 HY.out.2 (by decide) (by decide))
  obtain ⟨q, hq⟩ : ∃ q, y % 100 = q := ⟨_, rfl⟩
  rw [hq] at hq1 hq2 HNUM
  clear hq HY
  have hwr := IntWalk.i64_in (s + q) (by omega)
  have HKK : Hid (∀ wx, Below w3.heap.size w3 wx → (Below w3.heap.size w3 wx ∧ wx.cell? ⟨g, k * 3, none⟩ = some (.int .i64 s))) := Lib.hid fun wx hwx => ⟨hwx, cell_under y0 hwx⟩
  have hbw3 : Below w3.heap.size w3 w3.drew := (Below.refl _ _).drew
  have hki0 : (0 : Int) ≤ (k : Int) := by omega
  have hkil : (k : Int) < (l.length : Int) := by omega
  go_wp2_with fail
  obtain ⟨z, hz⟩ : ∃ z, (if 2048 < s + q then 2048 else s + q) = z := ⟨_, rfl⟩
  have hzb : s ≤ z ∧ z ≤ 2048 := by
    rw [← hz]
    split <;> omega
  have HFZ := Lib.hid (HGF.out z hzb.1 hzb.2)
  have HLZ : Hid (∀ (c : List Bool) (q : Nat), Rx.IsDo (grown l k z) c q → ∀ j, a.getD j false = true → c.getD j false = true) := Lib.hid fun c q hc => HGL.out z hzb.1 hzb.2 hc
  have HST : Hid ((w3.drew.setCell ⟨g, k * 3, none⟩ (.int .i64 z)).ownsRow 0 29 3 (.slice (some ⟨g, 0, none⟩) l.length cap) l.length (itCells (grown l k z))) := Lib.hid (by
    rw [← HDEF.out z]
    exact ((show w3.drew.ownsRow _ _ _ _ _ _ from HO3.out).stored (k * 3) (.int .i64 z)).1)
  have HBST : Hid (Below w2.heap.size w2 (w3.drew.setCell ⟨g, k * 3, none⟩ (.int .i64 z))) := Lib.hid (HW3.out.drew.setCell hgg _)
  clear HGF HGL HDEF hzb
  go_cut [] from 58 to 70 (fun wc => wc.ownsRow 0 29 3 (.slice (some ⟨g, 0, none⟩) l.length cap) l.length (itCells (grown l k z)) ∧ Below w2.heap.size w2 wc)
  · go_region_with (first | (go_at_call 11; refine (HNUM.out _).mono ?_; rintro e w4 ⟨rfl, rfl⟩))
    all_goals
      go_wp2_with fail
      go_meet
      case rel => exact ⟨HST.out, HBST.out⟩
  · obtain ⟨hown, hbc⟩ := hcut
    have HOC := Lib.hid hown
    have HBC := Lib.hid hbc
    have HWC := Lib.hid (HB2.out.trans (hbc.mono HB2.out.size))
    obtain ⟨e1, e2, he, hab⟩ := atL_of_own hown
    cases he
    have HAB := Lib.hid hab
    have HGC := Lib.hid (own_lt (k := g) hown rfl)
    clear hown hbc hab HST HBST HKK HNUM y0 f0 hbw3 hwr hz hki0 hkil
    go_wp2_with fail
    refine (do_n (grown l k z) l.length _ _ _ HAB.out (grown_len l k z) (by omega)).mono ?_
    rintro e w4 ⟨-, hd1⟩
    obtain ⟨v4, c, q4, rfl, hdc, hoc, hcf, hb4⟩ := hd1 ((fair_iff _).2 HFZ.out)
    rw [grown_len] at hoc
    obtain ⟨ca, cc, rfl, hcv⟩ := atL_of_own hoc
    have HC := Lib.hid hcv
    have HCL := Lib.hid (hdc.length.trans (grown_len l k z))
    have HLE := Lib.hid (HLZ.out c q4 hdc)
    have HO4 := Lib.hid (own_below HOC.out hb4)
    have HW4 := Lib.hid (HWC.out.trans (hb4.mono HWC.out.size))
    have HB42 := Lib.hid (HBC.out.trans (hb4.mono HBC.out.size))
    have HCN : Hid (∀ b off, ca = some ⟨b, off, none⟩ → ¬ b = g) := Lib.hid fun b off e h => by
      subst e h
      rcases own_shape hoc with ⟨e, -, -⟩ | ⟨g', cap', e, -, -⟩
      · cases e
      · cases e
        have h1 := hcf b rfl
        have h2 := HGC.out
        omega
    have HGS4 := Lib.hid (Nat.lt_of_lt_of_le HGC.out hb4.size)
    clear hd1 hdc hoc hcf hb4 hcv HOC HAB HLZ
    go_wp2_with fail
    refine (places_n l a l.length l.length _ _ _ _ _ (HL.out.mono HW4.out) (HAV.out.mono HB42.out) rfl HDO.out.length rfl HF.out (by omega)).mono ?_
    rintro e w5 ⟨pv, rfl, hpo, hpf, hb5⟩
    obtain ⟨pa, pc, rfl, hpv⟩ := atL_of_own hpo
    have HP := Lib.hid hpv
    have HC5 := Lib.hid (HC.out.mono hb5)
    have HO5 := Lib.hid (own_below HO4.out hb5)
    have HW5 := Lib.hid (HW4.out.trans (hb5.mono HW4.out.size))
    have HB52 := Lib.hid (HB42.out.trans (hb5.mono HB42.out.size))
    have HPN : Hid (∀ b off, pa = some ⟨b, off, none⟩ → ¬ b = g) := Lib.hid fun b off e h => by
      subst e h
      rcases own_shape hpo with ⟨e, -, -⟩ | ⟨g', cap', e, -, -⟩
      · cases e
      · cases e
        have h1 := hpf b rfl
        have h2 := HGS4.out
        omega
    have HPLEN := Lib.hid (Rx.pl_length 0 l a HDO.out.length)
    clear hpo hpf hb5 hpv HC HO4 HGC HGS4
    obtain ⟨pb, po, rfl, p0, -⟩ := HP.out 0 _ (ints_get _ 0 (by rw [HPLEN.out]; omega))
    rw [Rx.pl_zero, Nat.add_zero] at p0
    have hl1 := IntWalk.i64_in ((l.length : Int) + 1) (by omega)
    go_wp2_with fail
    go_loopw [17] (fun i wr => MoreTo (grown l k z) w5 g cap i wr) (fun i _ => l.length - (intOf i).toNat)
    case atStart =>
      refine ⟨0, Nat.zero_le _, rfl, ?_, Only.refl _ _⟩
      rw [offs_zero, grown_len]
      exact HO5.out
    case round =>
      obtain ⟨j, hj, rfl, hown, hon⟩ := hrel
      rw [grown_len] at hj hown
      have HO := Lib.hid hown
      have HN := Lib.hid hon
      have HWW2 := Lib.hid (HB52.out.trans (hon.below HB52.out.size (fun k hk => by have h : k = g := hk; omega)))
      have HWW := Lib.hid (HB2.out.trans (HWW2.out.mono HB2.out.size))
      clear hown hon p0
      by_cases hlt : j < l.length
      · obtain ⟨b', o', he, -, x0, x1, x2⟩ := (AtIt.of (HL.out.mono HWW.out)) j hlt
        cases he
        obtain ⟨d, u, rfl, a0, -⟩ := (HAV.out.mono HWW2.out) j _ (bls_get a j (by rw [HDO.out.length]; exact hlt))
        obtain ⟨d2, u2, rfl, k0, -⟩ := (atL_only HC5.out HN.out HCN.out) j _ (bls_get c j (by rw [HCL.out]; exact hlt))
        obtain ⟨pb', po', he, p0, -⟩ := (atL_only HP.out HN.out HPN.out) j _ (ints_get _ j (by rw [HPLEN.out]; omega))
        cases he
        obtain ⟨pb', po', he, p1, -⟩ := (atL_only HP.out HN.out HPN.out) (j + 1) _ (ints_get _ (j + 1) (by rw [HPLEN.out]; omega))
        cases he
        rw [Rx.pl_succ 0 l a j HDO.out.length hlt] at p1
        have hpb := Rx.pl_bound l a HDO.out.length HF.out j (by omega)
        have hsz := HF.out j hlt
        have HLJ := Lib.hid (HLE.out j)
        have y0 := own_cell HO.out (j * 3 + 2) (by omega)
        obtain ⟨-, -, yc⟩ := itCells_at (offs (grown l k z) j) j (by rw [offs_len _ _ (by rw [grown_len]; omega), grown_len]; exact hlt)
        rw [yc] at y0
        have f0 := own_free HO.out (j * 3 + 2)
        have HST2 : Hid ((wr.drew.setCell ⟨g, j * 3 + 2, none⟩ (.bool false)).ownsRow 0 29 3 (.slice (some ⟨g, 0, none⟩) l.length cap) l.length (itCells (offs (grown l k z) (j + 1)))) := Lib.hid (by
          rw [← offs_set (grown l k z) j (by rw [grown_len]; exact hlt), ← offs_get (grown l k z) j (by rw [grown_len]; exact hlt)]
          have h := ((show wr.drew.ownsRow _ _ _ _ _ _ from HO.out).stored (j * 3 + 2) (.bool false)).1
          rw [itCells_set2 _ j (by rw [offs_len _ _ (by rw [grown_len]; omega), grown_len]; exact hlt)] at h
          exact h)
        have HNS : Hid (∀ nq, Only (fun b => b = g) w5 ((wr.drewN nq).setCell ⟨g, j * 3 + 2, none⟩ (.bool false))) := Lib.hid fun nq => Only.setCell (w := wr.drewN nq) (F := fun b => b = g) (p := ⟨g, j * 3 + 2, none⟩) ⟨HN.out.os, HN.out.tape, HN.out.output, HN.out.size, HN.out.block⟩ (.inl rfl) (.bool false)
        obtain ⟨s', hs'⟩ : ∃ s', (l.getD j default).size = s' := ⟨_, rfl⟩
        obtain ⟨aj, haj⟩ : ∃ aj, a.getD j false = aj := ⟨_, rfl⟩
        obtain ⟨cj, hcj⟩ : ∃ cj, c.getD j false = cj := ⟨_, rfl⟩
        obtain ⟨pj, hpj⟩ : ∃ pj, (Rx.pl 0 l a).getD j 0 = pj := ⟨_, rfl⟩
        rw [hs'] at x0 hsz p1
        rw [haj] at a0 p1 HLJ
        rw [hcj] at k0 HLJ
        rw [hpj] at p0 p1 hpb
        have s0 := hsz.1
        have s1 := hsz.2.1
        have hji : (j : Int) < (l.length : Int) := by omega
        have hj0 : (0 : Int) ≤ (j : Int) := by omega
        have hj1 := IntWalk.i64_in ((j : Int) + 1) (by omega)
        have hj2 : ((j : Int) + 1).toNat = j + 1 := by omega
        have hj3 : (0 : Int) ≤ (j : Int) + 1 := by omega
        have hj4 : (j : Int) + 1 < (l.length : Int) + 1 := by omega
        have hw1 := IntWalk.i64_in (s' + 1) (by omega)
        have hw2 := IntWalk.i64_in (pj + s') (by omega)
        have hw3 := IntWalk.i64_in (pj + (s' + 1)) (by omega)
        clear hs' haj hcj hpj hsz yc
        cases aj
        · have p1' : wr.cell? ⟨pb, po + (j + 1), none⟩ = some (.int .i64 (pj + s')) := by rw [p1]; simp [Rx.one]
          clear p1
          go_wp2_with fail
          cases cj
          all_goals
            go_quiet (fail)
            go_wp2_with fail
            go_roundw
            case rel => exact ⟨j + 1, by rw [grown_len]; omega, by go_num, by rw [grown_len]; exact HST2.out, HNS.out _⟩
            case measure => simp [intOf]; omega
        · have p1' : wr.cell? ⟨pb, po + (j + 1), none⟩ = some (.int .i64 (pj + (s' + 1))) := by rw [p1]; simp [Rx.one]; omega
          clear p1
          cases cj
          · exact absurd (HLJ.out rfl) (by decide)
          · go_wp2_with fail
            go_quiet (fail)
            go_wp2_with fail
            go_roundw
            case rel => exact ⟨j + 1, by rw [grown_len]; omega, by go_num, by rw [grown_len]; exact HST2.out, HNS.out _⟩
            case measure => simp [intOf]; omega
      · obtain rfl : j = l.length := by omega
        rw [show offs (grown l k z) l.length = (grown l k z).map off by rw [← offs_all, grown_len]] at HO
        obtain ⟨e1, e2, he, hab⟩ := atL_of_own HO.out
        cases he
        have HAB := Lib.hid hab
        have HFO := Lib.hid (off_fair HFZ.out)
        have HDD := Lib.hid (off_do (grown l k z))
        have HLN := Lib.hid (grown_len l k z)
        clear hab
        obtain ⟨m2, hm2⟩ : ∃ m2, (grown l k z).map off = m2 := ⟨_, rfl⟩
        rw [hm2] at HAB HFO HDD
        have HML : Hid (m2.length = l.length) := Lib.hid (by rw [← hm2, List.length_map, grown_len])
        rw [HLN.out] at HDD
        clear hm2
        go_wp2_with fail
        refine (do_n m2 l.length _ _ _ HAB.out HML.out (by omega)).mono ?_
        rintro e w6 ⟨-, hd1⟩
        obtain ⟨v6, d, q6, rfl, hd, hod, -, hb6⟩ := hd1 ((fair_iff _).2 HFO.out)
        obtain ⟨rfl, rfl⟩ := hd.unique HDD.out
        rw [HML.out] at hod
        obtain ⟨da, dc, rfl, hdv⟩ := atL_of_own hod
        have HDV := Lib.hid hdv
        have HB6 := Lib.hid (HWW.out.trans (hb6.mono HWW.out.size))
        clear hd1 hd hod hb6 hdv
        obtain ⟨A, hA, hmk⟩ : ∃ A : Array Value, A.toList = bls (List.replicate l.length false) ∧ ∀ W, (Instr.makeSlice 24 (.int .i64 (l.length : Int)) (.int .i64 (l.length : Int))).run Try.prog W = .ok (.slice (some ⟨W.heap.size, 0, none⟩) l.length l.length) (W.alloc (.cells A 4)) :=
          ⟨madeCells #[.bool false] l.length, by rw [toList_madeCells_one]; simp [bls], fun W => made_bools W l.length (by omega)⟩
        have HDV7 : Hid (∀ X, AtL (w6.alloc X) da (bls (List.replicate l.length false))) := Lib.hid fun X => HDV.out.mono ((Below.refl _ _).alloc (Nat.le_refl _) _)
        have HMV : Hid (AtL (w6.alloc (.cells A 4)) (some ⟨w6.heap.size, 0, none⟩) (bls (List.replicate l.length false))) := Lib.hid (atL_blk (blk_new w6 (.cells A 4)) hA)
        have HO0 : Hid (∀ X, Below w.heap.size w (w6.alloc X)) := Lib.hid fun X => HB6.out.alloc HB6.out.size X
        clear hA
        go_wp2_with fail
        refine (same_n (List.replicate l.length false) (List.replicate l.length false) l.length _ _ _ _ _ (HDV7.out _) HMV.out (by simp) (by simp) (by omega)).mono ?_
        rintro e w8 ⟨rfl, n8, rfl⟩
        rw [decide_eq_true rfl]
        go_wp2
        go_ret
        exact ⟨rfl, below_drewN (HO0.out _) _⟩

theorem more_walk (l : List Rx.It) (ao : Option Addr) (c1 : Nat) (x y : Int) (w : World) (hl : AtL w ao (itCells l)) (hx : -9223372036854775808 ≤ x ∧ x ≤ 9223372036854775807) (hy : -9223372036854775808 ≤ y ∧ y ≤ 9223372036854775807) :
    Calls Try.prog 3 #[.slice ao l.length c1, .int .i64 x, .int .i64 y] w fun e w' => e = .returned (.bool true) ∧ Below w.heap.size w w' := by
  by_cases h : 60 < l.length
  · exact more_many _ _ _ _ _ _ h
  · by_cases h0 : l.length = 0
    · rw [h0]
      exact more_nil _ _ _ _ _
    · by_cases hf : fairB l = true
      · exact more_good l ao c1 x y w hl (by omega) (by omega) ((fair_iff l).1 hf) hx hy
      · exact more_bad l ao c1 x y w hl (by omega) (by cases hb : fairB l with | false => rfl | true => exact absurd hb hf)
end Go.Proofs.Ytakhpibolhijoaa
