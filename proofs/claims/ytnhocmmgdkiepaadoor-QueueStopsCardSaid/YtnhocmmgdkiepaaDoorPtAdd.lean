/-
  pt.Tables.Add.
-/
import Derived.Test.YtnhocmmgdkiepaaDoorPtSet
import Derived.BigQuiet
namespace Go.Proofs.YtnhocmmgdkiepaaDoor
open Go.RowKit

set_option maxHeartbeats 400000 in
theorem pm_full (l : List Int) (b : Nat) (v : Value) (w : World) (h : PAt w b v l) : Calls Tryd.prog 73 #[.pointer (some ⟨b, 0, none⟩)] w fun e w' => e = .returned (.bool (decide (512 ≤ l.length))) ∧ w = w' := by
  have c := h.cell
  obtain ⟨ao, cap, rfl, -⟩ := h.slice
  have HD : Hid (decide ((512 : Int) ≤ (l.length : Int)) = decide (512 ≤ l.length)) := Lib.hid (by simp only [decide_eq_decide]; omega)
  clear h
  go_enter Tryd.func73, Tryd.ntmps73
  go_wp2
  go_ret
  exact ⟨by rw [← HD.out]; rfl, rfl⟩

/-- what Add answers -/
def AddQ (E : Nat → Addr) (p : Pl) (s : Ts) (w : World) (e : Ending) (w' : World) : Prop := ∃ pv', e = .returned (.tuple #[.int .i64 (tAdd s).2.1, errC E (tAdd s).2.2]) ∧ PtAt w' { p with pv := pv' } (tAdd s).1 ∧ Only p.zw w w' ∧ ∀ k, inRow pv' k → inRow p.pv k ∨ w.heap.size ≤ k
theorem frAlloc_ok {F : List Fr} {who : Int} (h : (frAlloc F who).c = 0) : ∃ i, i < F.length ∧ (F.getD i default).owner = -1 ∧ frAlloc F who = ⟨F.set i ⟨who, (F.getD i default).kind, (F.getD i default).wr, (F.getD i default).us⟩, (i : Int), 0⟩ := by
  unfold frAlloc at h ⊢
  split
  · rename_i hw
    rw [if_pos hw] at h
    cases hf : frFree F with
    | none => rw [hf] at h; exact absurd (show (113 : Int) = 0 from h) (by decide)
    | some i =>
      obtain ⟨h1, h2, -⟩ := frFree_some hf
      exact ⟨i, h1, h2, rfl⟩
  · rename_i hw
    rw [if_neg hw] at h
    exact absurd (show (103 : Int) = 0 from h) (by decide)
/-- the map has another one -/
theorem PtAt.pm' {w w' : World} {p : Pl} {s : Ts} {P' : List Int} {pv' : Value} (h : PtAt w p s) (ho : Only (fun k => k = p.pb ∨ inRow p.pv k) w w') (hm : PAt w' p.pb pv' P') (hr : ∀ k, inRow pv' k → inRow p.pv k ∨ w.heap.size ≤ k) (hT : P'.take 17 = s.P.take 17) : PtAt w' { p with pv := pv' } { s with P := P' } := by
  have hz3 : ∀ k, Pl.z3 { p with pv := pv' } k → p.z3 k ∨ w.heap.size ≤ k := fun k hk => by
    rcases hk with hk | hk
    · exact .inl (.inl hk)
    · rcases hr k hk with h | h
      · exact .inl (.inr h)
      · exact .inr h
  have lt0 : ∀ k, p.z0 k → k < w.heap.size := fun k hk => by
    rcases hk with rfl | rfl | rfl | hk
    · exact blk_lt h.row
    · exact blk_lt h.mem.1
    · exact h.fr.lt.1
    · exact own_lt h.tl hk
  exact ⟨ho.blk h.row (fun h' => h.apart.a03 p.tb (.inl rfl) h'), h.mem.only ho (fun h' => h.apart.a03 p.mb (.inr (.inl rfl)) h') (fun k hk h' => h.apart.a13 _ hk h'), h.fr.only ho (fun h' => h.apart.a03 p.fb (.inr (.inr (.inl rfl))) h') (fun h' => h.apart.a23 p.fg rfl h'), hm, by
      show w'.ownsRow 0 3 1 p.lv 17 (ints (P'.take 17))
      rw [hT]
      exact own_only h.tl ho (fun k hk h' => h.apart.a03 k (.inr (.inr (.inr hk))) h'),
    ⟨h.apart.a01, h.apart.a02, fun k h0 h3 => by
      rcases hz3 k h3 with h' | h'
      · exact h.apart.a03 k h0 h'
      · have := lt0 k h0; omega, h.apart.a12, fun k h0 h3 => by
      rcases hz3 k h3 with h' | h'
      · exact h.apart.a13 k h0 h'
      · have := own_lt h.mem.2.1 (show inRow p.mv k from h0); omega, fun k h0 h3 => by
      rcases hz3 k h3 with h' | h'
      · exact h.apart.a23 k h0 h'
      · have := h.fr.lt.2; rw [show k = p.fg from h0] at h'; omega⟩⟩
theorem set_owner (F : List Fr) (i : Nat) (x : Fr) (hi : i < F.length) (j : Nat) : ((F.set i x).getD j default).owner = if j = i then x.owner else (F.getD j default).owner := by
  rw [List.getD_eq_getElem?_getD, List.getElem?_set]
  by_cases h : i = j
  · subst h
    simp [hi]
  · rw [if_neg h, if_neg (fun e => h e.symm), ← List.getD_eq_getElem?_getD]
theorem tAdd_inv {m : Int} {s : Ts} (h : TInv m s) (hw : s.who ≠ -1) : TInv (m + 1) (tAdd s).1 := by
  unfold tAdd
  split
  · exact h.mono
  · rename_i hl
    split
    · rename_i hc
      obtain ⟨i, hi, ho, hR⟩ := frAlloc_ok hc
      have hRR : tAddR s = _ := hR
      have hin := frAlloc_in h.fok s.who
      have hP : ∀ j, j < s.P.length → (s.P.getD j 0).toNat ≠ i := fun j hj e => (h.pin j hj).2.2 (e ▸ ho)
      have hgP : ∀ j, (s.P ++ [(i : Int)]).getD j 0 = if j < s.P.length then s.P.getD j 0 else if j = s.P.length then (i : Int) else 0 := fun j => by
        rw [List.getD_eq_getElem?_getD, List.getElem?_append]
        split
        · rw [List.getD_eq_getElem?_getD]
        · rename_i hj
          by_cases e : j = s.P.length
          · subst e; simp
          · rw [if_neg e, List.getElem?_eq_none (by simp; omega)]
            rfl
      rw [hRR]
      have hlf := h.lf
      have hfl : ∀ t, (fillL s.M i []).getD t 0 = if 16 * i ≤ t ∧ t < 16 * i + 16 then 0 else s.M.getD t 0 := fun t => by
        rw [fillL_get s.M s.n i [] t h.lm (by omega) (by decide)]
        split
        · simp
        · rfl
      refine ⟨h.n1, ?_, ?_, fun j => ?_, ?_, ?_, ?_, fun j hj => ?_, fun j k hj hk e => ?_, fun k hk => ?_⟩
      · show (fillL s.M i []).length = _
        rw [fillL_len]; exact h.lm
      · show (s.F.set i _).length = _
        rw [List.length_set]; exact h.lf
      · show W32 ((fillL s.M i []).getD j 0)
        rw [hfl]
        split
        · exact w32_zero
        · exact h.w32 j
      · have := hin
        rw [show frAlloc s.F s.who = _ from hR] at this
        exact this
      · show 17 ≤ (s.P ++ [(i : Int)]).length
        rw [List.length_append]; have := h.p17; omega
      · show (s.P ++ [(i : Int)]).length ≤ 512
        rw [List.length_append]; simp; omega
      · have hj' : j < s.P.length + 1 := by have := hj; simp at this; exact this
        show 0 ≤ (s.P ++ [(i : Int)]).getD j 0 ∧ (s.P ++ [(i : Int)]).getD j 0 < (s.n : Int) ∧ ((s.F.set i _).getD ((s.P ++ [(i : Int)]).getD j 0).toNat default).owner ≠ -1
        rw [hgP j]
        by_cases hjl : j < s.P.length
        · rw [if_pos hjl]
          have hp := h.pin j hjl
          refine ⟨hp.1, hp.2.1, ?_⟩
          rw [set_owner _ _ _ hi, if_neg (hP j hjl)]
          exact hp.2.2
        · rw [if_neg hjl, if_pos (by omega)]
          refine ⟨by omega, by omega, ?_⟩
          rw [Int.toNat_natCast, set_owner _ _ _ hi, if_pos rfl]
          exact hw
      · have hj' : j < s.P.length + 1 := by have := hj; simp at this; exact this
        have hk' : k < s.P.length + 1 := by have := hk; simp at this; exact this
        have e' : (s.P ++ [(i : Int)]).getD j 0 = (s.P ++ [(i : Int)]).getD k 0 := e
        rw [hgP j, hgP k] at e'
        by_cases hjl : j < s.P.length
        · rw [if_pos hjl] at e'
          by_cases hkl : k < s.P.length
          · rw [if_pos hkl] at e'
            exact h.pne j k hjl hkl e'
          · rw [if_neg hkl, if_pos (by omega)] at e'
            exact absurd (by rw [e']; simp) (hP j hjl)
        · rw [if_neg hjl, if_pos (by omega)] at e'
          by_cases hkl : k < s.P.length
          · rw [if_pos hkl] at e'
            exact absurd (by rw [← e']; simp) (hP k hkl)
          · omega
      · have h17 := h.p17
        show (fillL s.M i []).getD (16 * ((s.P ++ [(i : Int)]).getD 0 0).toNat + k) 0 = entW ((s.P ++ [(i : Int)]).getD (k + 1) 0) true true true
        rw [hgP 0, hgP (k + 1), if_pos (by omega), if_pos (by omega), hfl, if_neg (by have := hP 0 (by omega); omega)]
        exact h.root k hk
    · exact h.mono

set_option maxRecDepth 100000 in
set_option maxHeartbeats 6400000 in
theorem tadd_many (E : Nat → Addr) (p : Pl) (s : Ts) (w : World) (hE : ErrsK E p w) (h : PtAt w p s) (hl : 512 ≤ s.P.length) :
    Calls Tryd.prog 35 #[.pointer (some ⟨p.tb, 0, none⟩)] w (AddQ E p s w) := by
  have HR : Hid (tAdd s = (s, 0, 104)) := Lib.hid (by unfold tAdd; rw [if_pos hl])
  unfold AddQ
  rw [HR.out]
  have HH := Lib.hid h
  have HF := Lib.hid (pm_full s.P p.pb p.pv w h.pm)
  rw [decide_eq_true hl] at HF
  have e3 : w.cell? ⟨4, 0, none⟩ = some (errV (E 3)) := ((hE w (Only.refl _ _)).1 3 (by decide)).1
  have g3 := World.block_lt_of_cell? _ _ e3
  obtain ⟨-, -, -, c3, -⟩ := h.cells
  clear hE h hl HR
  go_enter Tryd.func35, Tryd.ntmps35
  go_wp2_with fail
  refine HF.out.mono ?_
  rintro y w1 ⟨rfl, rfl⟩
  go_wp2_with fail
  go_quiet (fail)
  go_wp2
  go_ret2
  exact ⟨p.pv, rfl, HH.out.below (below_drewN (Below.refl _ _) _), Only.of_below (below_drewN (Below.refl _ _) _), fun _ h => .inl h⟩

set_option maxRecDepth 100000 in
set_option maxHeartbeats 6400000 in
theorem tadd_no (E : Nat → Addr) (p : Pl) (s : Ts) (w : World) (hE : ErrsK E p w) (h : PtAt w p s) (hl : ¬ 512 ≤ s.P.length) (hc : (tAddR s).c ≠ 0) :
    Calls Tryd.prog 35 #[.pointer (some ⟨p.tb, 0, none⟩)] w (AddQ E p s w) := by
  have HR : Hid (tAdd s = (s, 0, (tAddR s).c)) := Lib.hid (by unfold tAdd; rw [if_neg hl, if_neg hc])
  have hFs : (tAddR s).l = s.F := by
    unfold tAddR frAlloc at hc ⊢
    split
    · rename_i hw
      rw [if_pos hw] at hc
      cases hf : frFree s.F with
      | none => rfl
      | some i => rw [hf] at hc; exact absurd rfl hc
    · rfl
  unfold AddQ
  rw [HR.out]
  have HH := Lib.hid h
  have HF := Lib.hid (pm_full s.P p.pb p.pv w h.pm)
  rw [decide_eq_false hl] at HF
  have HA : Hid (∀ wx, Below w.heap.size w wx → Calls Tryd.prog 66 #[.pointer (some ⟨p.fb, 0, none⟩), .int .i64 s.who] wx (FrQA 128 126 E p.fb p.fg s.n (tAddR s) wx)) := Lib.hid fun wx hx => falloc_any E s.F p.fb p.fg s.n s.who wx (hE wx (Only.of_below hx)) (h.below hx).fr
  have HFS := Lib.hid hFs
  obtain ⟨R, hR⟩ : ∃ R, tAddR s = R := ⟨_, rfl⟩
  rw [hR] at HA HFS hc ⊢
  have HEC : Hid (errC E R.c = errV (E (R.c - 101).toNat)) := Lib.hid (by unfold errC; rw [if_neg hc])
  obtain ⟨-, c1, c2, c3, -⟩ := h.cells
  have ltb := blk_lt h.row
  clear hE h hl HR hFs hR hc
  go_enter Tryd.func35, Tryd.ntmps35
  go_wp2_with fail
  refine HF.out.mono ?_
  rintro y w1 ⟨rfl, rfl⟩
  go_wp2_with fail
  go_region_with (first | (go_at_call 66; refine (HA.out _ (by first | exact (Below.refl _ _).drew | exact Below.refl _ _)).mono ?_; rintro e w2 ⟨rfl, hf2, ho2⟩))
  all_goals
    have HH2 : Hid (PtAt w2 p s) := Lib.hid ((HH.out.below (Below.refl _ _).drew).fr' ho2 (HFS.out ▸ hf2))
    have HO2 : Hid (Only p.zw w w2) := Lib.hid ((Only.refl _ _).drew.trans (zw_f ho2))
    clear hf2 ho2
    try rw [HEC.out]
    go_wp2_with fail
    go_wp2
    go_ret2
    exact ⟨p.pv, by rw [HEC.out]; rfl, HH2.out, HO2.out, fun _ h => .inl h⟩

set_option maxRecDepth 100000 in
set_option maxHeartbeats 16000000 in
theorem tadd_ok (E : Nat → Addr) (p : Pl) (s : Ts) (m : Int) (w : World) (hE : ErrsK E p w) (h : PtAt w p s) (hi : TInv m s) (hl : ¬ 512 ≤ s.P.length) (hc : (tAddR s).c = 0) :
    Calls Tryd.prog 35 #[.pointer (some ⟨p.tb, 0, none⟩)] w (AddQ E p s w) := by
  obtain ⟨i, hil, ho, hR0⟩ := frAlloc_ok hc
  obtain ⟨F1, hF1⟩ : ∃ F1, s.F.set i ⟨s.who, (s.F.getD i default).kind, (s.F.getD i default).wr, (s.F.getD i default).us⟩ = F1 := ⟨_, rfl⟩
  rw [hF1] at hR0
  have hR : tAddR s = ⟨F1, (i : Int), 0⟩ := hR0
  have HR : Hid (tAdd s = ({ s with F := F1, M := fillL s.M i [], P := s.P ++ [(i : Int)] }, (s.P.length : Int), 0)) := Lib.hid (by unfold tAdd; rw [if_neg hl, hR, if_pos rfl]; rfl)
  have hin : i < s.n := by rw [← hi.lf]; exact hil
  have hn1 := hi.n1
  have hnot : (i : Int) ∉ s.P := fun hmem => by
    obtain ⟨j, hj, e⟩ := mem_getD.1 hmem
    have := (hi.pin j hj).2.2
    rw [e, Int.toNat_natCast] at this
    exact this ho
  unfold AddQ
  rw [HR.out]
  have HH := Lib.hid h
  have HF := Lib.hid (pm_full s.P p.pb p.pv w h.pm)
  rw [decide_eq_false hl] at HF
  have HA : Hid (∀ wx, Below w.heap.size w wx → Calls Tryd.prog 66 #[.pointer (some ⟨p.fb, 0, none⟩), .int .i64 s.who] wx (FrQA 128 126 E p.fb p.fg s.n ⟨F1, (i : Int), 0⟩ wx)) := Lib.hid fun wx hx => hR0 ▸ falloc_any E s.F p.fb p.fg s.n s.who wx (hE wx (Only.of_below hx)) (h.below hx).fr
  have HFL : Hid (∀ wx, MAt wx p.mb p.mv s.n s.M → Calls Tryd.prog 68 #[.pointer (some ⟨p.mb, 0, none⟩), .int .i64 (i : Int), .slice none 0 0] wx fun e w' => e = .returned (.bool true) ∧ MAt w' p.mb p.mv s.n (fillL s.M i []) ∧ Only (fun k => inRow p.mv k) wx w') := Lib.hid fun wx hx => mm_fill_ok s.M [] p.mb s.n i 0 0 none p.mv wx hx hn1 hin (atL_nil _ _) rfl (by decide) (fun a h => by omega)
  have hfair : fairP (i : Int) = true := by simp [fairP]; omega
  have HAD : Hid (∀ wx, PAt wx p.pb p.pv s.P → Calls Tryd.prog 72 #[.pointer (some ⟨p.pb, 0, none⟩), .int .i64 (i : Int)] wx fun e w' => e = .returned (.tuple #[.int .i64 s.P.length, .nilIface]) ∧ ∃ v', PAt w' p.pb v' (s.P ++ [(i : Int)]) ∧ Only (fun k => k = p.pb ∨ inRow p.pv k) wx w' ∧ ∀ k, inRow v' k → inRow p.pv k ∨ wx.heap.size ≤ k) := Lib.hid fun wx hx => add_ok s.P p.pb p.pv (i : Int) wx hx hfair hnot (by omega)
  have HT : Hid ((s.P ++ [(i : Int)]).take 17 = s.P.take 17) := Lib.hid (by rw [List.take_append_of_le_length hi.p17])
  obtain ⟨-, c1, c2, c3, -⟩ := h.cells
  have ltb := blk_lt h.row
  clear hE h hi hl hc hil ho hR0 hF1 hR HR hin hn1 hnot hfair
  go_enter Tryd.func35, Tryd.ntmps35
  go_wp2_with fail
  refine HF.out.mono ?_
  rintro y w1 ⟨rfl, rfl⟩
  go_wp2_with fail
  go_region_with (first | (go_at_call 66; refine (HA.out _ (by first | exact (Below.refl _ _).drew | exact Below.refl _ _)).mono ?_; rintro e w2 ⟨rfl, hf2, ho2⟩))
  all_goals
    have HH2 : Hid (PtAt w2 p { s with F := F1 }) := Lib.hid ((HH.out.below (Below.refl _ _).drew).fr' ho2 hf2)
    have HO2 : Hid (Only p.zw w w2) := Lib.hid ((Only.refl _ _).drew.trans (zw_f ho2))
    obtain ⟨d0, -, -, d3, -⟩ := HH2.out.cells
    have ltb2 := blk_lt HH2.out.row
    clear hf2 ho2 c1 c2 c3
    try unfold errC
    try rw [if_pos rfl]
    go_wp2_with fail
    refine (HFL.out _ HH2.out.mem).mono ?_
    rintro y w3 ⟨rfl, hm3, ho3⟩
    have HH3 := Lib.hid (HH2.out.mem' ho3 hm3)
    have HO3 := Lib.hid (HO2.out.trans (zw_m ho3))
    obtain ⟨-, -, -, q3, -⟩ := HH3.out.cells
    have ltb3 := blk_lt HH3.out.row
    clear hm3 ho3 d0 d3
    go_wp2_with fail
    refine (HAD.out _ HH3.out.pm).mono ?_
    rintro y w4 ⟨rfl, v', hp4, ho4, hr4⟩
    have HH4 := Lib.hid (HH3.out.pm' ho4 hp4 hr4 HT.out)
    have HO4 : Hid (Only p.zw w w4) := Lib.hid (HO3.out.trans (ho4.mono fun k hk => .inl (by rcases hk with hk | hk; exact .inr (.inr (.inl hk)); exact .inr (.inr (.inr hk)))))
    have HR4 : Hid (∀ k, inRow v' k → inRow p.pv k ∨ w.heap.size ≤ k) := Lib.hid fun k hk => by
      rcases hr4 k hk with h | h
      · exact .inl h
      · exact .inr (Nat.le_trans HO3.out.size h)
    clear hp4 ho4 hr4 q3
    go_wp2
    go_ret2
    exact ⟨v', rfl, HH4.out, HO4.out, HR4.out⟩
theorem tadd_any (E : Nat → Addr) (p : Pl) (s : Ts) (m : Int) (w : World) (hE : ErrsK E p w) (h : PtAt w p s) (hi : TInv m s) :
    Calls Tryd.prog 35 #[.pointer (some ⟨p.tb, 0, none⟩)] w (AddQ E p s w) := by
  by_cases hl : 512 ≤ s.P.length
  · exact tadd_many E p s w hE h hl
  · by_cases hc : (tAddR s).c = 0
    · exact tadd_ok E p s m w hE h hi hl hc
    · exact tadd_no E p s w hE h hl hc
end Go.Proofs.YtnhocmmgdkiepaaDoor
