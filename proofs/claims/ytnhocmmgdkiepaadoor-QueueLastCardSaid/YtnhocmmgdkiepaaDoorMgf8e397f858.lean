/-
  Parts of one proof, one behind the other.
-/
import Derived.Test.YtnhocmmgdkiepaaDoorMg12e6df77d2
import Derived.Test.YtnhocmmgdkiepaaDoorMg163cd502f8
import Derived.BigQuiet
import Derived.Test.YtnhocmmgdkiepaaDoorMg5d4be2863b
import Derived.Test.YtnhocmmgdkiepaaDoorMg4eb791d37b
import Derived.Deep.RegionWith
import Derived.Deep.RegionLaw
import Derived.Deep.AppendLies
/-
  pt.Tables.set.
-/
namespace Go.Proofs.YtnhocmmgdkiepaaDoor
open Go.RowKit

set_option maxRecDepth 100000 in
set_option maxHeartbeats 16000000 in
theorem tset_false (E : Nat → Addr) (p : Pl) (s : Ts) (m : Int) (j : Nat) (frame : Int) (w : World) (hE : ErrsK E p w) (h : PtAt w p s) (hi : TInv m s) (hm : m + 1 ≤ 1000000) (hj : j < 256) :
    Calls Tryd.prog 109 #[.pointer (some ⟨p.tb, 0, none⟩), .int .i64 (j : Int), .int .i64 frame, .bool false] w (PtQ E p (tSet s (j : Int) frame false) w) := by
  have HH := Lib.hid h
  have HEE := Lib.hid hE
  have HU : Hid (Calls Tryd.prog 70 #[.pointer (some ⟨p.fb, 0, none⟩), .int .i64 frame] w (FrQ 128 126 E p.fb p.fg s.n (tSetR s frame false) w)) := Lib.hid (fuse_any E s.F p.fb p.fg s.n frame w (frOk_b hi.fok (by omega)) (hE _ (Only.refl _ _)) h.fr)
  have HI1 := Lib.hid (tSetR_inv hi frame false)
  obtain ⟨-, c1, -, -, -⟩ := h.cells
  have ltb := blk_lt h.row
  by_cases hc : (tSetR s frame false).c = 0
  · have HR : Hid (tSet s (j : Int) frame false = ({ (tDrop { s with F := (tSetR s frame false).l } (j : Int)).1 with M := putE (tDrop { s with F := (tSetR s frame false).l } (j : Int)).1.M (s.P.getD (1 + (j : Int).toNat / 16) 0) (((j : Int).toNat % 16 : Nat) : Int) ⟨frame, true, false, true⟩ }, 0)) := Lib.hid (by unfold tSet; rw [if_pos hc])
    rw [HR.out, Int.toNat_natCast]
    obtain ⟨R, hR⟩ : ∃ R, tSetR s frame false = R := ⟨_, rfl⟩
    rw [hR] at HU HI1 hc ⊢
    obtain ⟨Rl, Rn, Rc⟩ := R
    dsimp only at hc HI1 ⊢
    subst hc
    have HDP := Lib.hid (tDrop_P { s with F := Rl } (j : Int))
    have HI2 := Lib.hid (tDrop_inv HI1.out (j : Int))
    have h1 := hi.pin (1 + j / 16) (by have := hi.p17; omega)
    have hn := hi.n1
    have HP17 := Lib.hid hi.p17
    obtain ⟨⟨S2, x2⟩, hS2⟩ : ∃ r, tDrop { s with F := Rl } (j : Int) = r := ⟨_, rfl⟩
    have HTD : Hid (∀ wx, Only p.zw w wx → PtAt wx p { s with F := Rl } → Calls Tryd.prog 106 #[.pointer (some ⟨p.tb, 0, none⟩), .int .i64 (j : Int)] wx (PtQ E p (S2, x2) wx)) := Lib.hid fun wx ho hx => hS2 ▸ tdrop_any E p { s with F := Rl } (m + 1) (j : Int) wx (HEE.out.next ho) hx HI1.out hm
    rw [hS2] at HDP HI2 ⊢
    dsimp only at HDP HI2 ⊢
    obtain ⟨a, k, r, ha, hk, hr, wq, wq', wq1, wr, wi0, wi1, hr16⟩ := page_parts j hj
    rw [ha, hk] at h1 ⊢
    rw [hr]
    obtain ⟨t1, ht1⟩ : ∃ x, s.P.getD k 0 = x := ⟨_, rfl⟩
    rw [ht1] at h1 ⊢
    have HT1 := Lib.hid ht1
    have hb16 : 0 ≤ t1 ∧ t1 < 1024 := by omega
    clear hE h hi HR h1 hn hR hS2 ht1 hj ha hk hr
    go_enter Tryd.func109, Tryd.ntmps109
    go_wp2_with fail
    refine HU.out.mono ?_
    rintro y w3 ⟨rfl, hf3, ho3⟩
    have HO3 := Lib.hid (zw_f ho3)
    have HH3 : Hid (PtAt w3 p { s with F := Rl }) := Lib.hid (HH.out.fr' ho3 hf3)
    clear hf3 ho3 c1 ltb
    unfold errC
    rw [if_pos rfl]
    go_wp2_with fail
    refine (HTD.out _ HO3.out HH3.out).mono ?_
    rintro y w4 ⟨rfl, hp4, ho4⟩
    have HH4 : Hid (PtAt w4 p S2) := Lib.hid hp4
    have HO4 := Lib.hid (HO3.out.trans ho4)
    obtain ⟨c0, -, -, -, c4⟩ := HH4.out.cells
    obtain ⟨g, cap, hl, hg, hcell⟩ := HH4.out.list (by rw [HDP.out.1]; exact HP17.out)
    rw [hl] at c4
    have ct1 : w4.cell? ⟨g, k, none⟩ = some (.int .i64 t1) := (hcell k (by omega)).trans (by rw [HDP.out.1, ← HT1.out])
    have ltb := blk_lt HH4.out.row
    have HW : Hid (∀ wx, Below w4.heap.size w4 wx → Calls Tryd.prog 71 #[.pointer (some ⟨p.mb, 0, none⟩), .int .i64 t1, .int .i64 (r : Int), .agg #[.int .i64 frame, .bool true, .bool false, .bool true]] wx fun y w' => y = .returned (.tuple #[]) ∧ MAt w' p.mb p.mv S2.n (putE S2.M t1 (r : Int) ⟨frame, true, false, true⟩) ∧ Only (fun k => inRow p.mv k) wx w') := Lib.hid fun wx hx => twrite_any S2.M p.mb S2.n p.mv t1 (r : Int) ⟨frame, true, false, true⟩ wx (HH4.out.below hx).mem hb16 (by omega)
    clear hp4 ho4 hl hcell hb16 hr16
    go_wp2_with fail
    go_region_with (first | (go_at_call 71; refine (HW.out _ (by first | exact (Below.refl _ _).drew | exact Below.refl _ _)).mono ?_; rintro e w5 ⟨rfl, hm5, ho5⟩))
    all_goals
      have HO5 := Lib.hid (HO4.out.trans ((Only.refl _ _).drew.trans (zw_m ho5)))
      have HH5 := Lib.hid ((HH4.out.below (Below.refl _ _).drew).mem' ho5 hm5)
      clear hm5 ho5
      go_wp2
      go_ret
      exact ⟨rfl, HH5.out, HO5.out⟩
  · have HR : Hid (tSet s (j : Int) frame false = (s, (tSetR s frame false).c)) := Lib.hid (by unfold tSet; rw [if_neg hc])
    have HS := Lib.hid (tSetR_same s frame false hc)
    rw [HR.out]
    obtain ⟨R, hR⟩ : ∃ R, tSetR s frame false = R := ⟨_, rfl⟩
    rw [hR] at HU HS hc ⊢
    clear hE h hi HR hR HI1
    go_enter Tryd.func109, Tryd.ntmps109
    go_wp2_with fail
    refine HU.out.mono ?_
    rintro y w3 ⟨rfl, hf3, ho3⟩
    have HO3 := Lib.hid (zw_f ho3)
    have HH3 : Hid (PtAt w3 p s) := Lib.hid (HH.out.fr' ho3 (HS.out ▸ hf3))
    have HEC : Hid (errC E R.c = errV (E (R.c - 101).toNat)) := Lib.hid (by unfold errC; rw [if_neg hc])
    clear hf3 ho3 c1 ltb hc
    rw [HEC.out]
    go_wp2
    go_ret
    exact ⟨by rw [HEC.out]; rfl, HH3.out, HO3.out⟩

set_option maxRecDepth 100000 in
set_option maxHeartbeats 16000000 in
theorem tset_true (E : Nat → Addr) (p : Pl) (s : Ts) (m : Int) (j : Nat) (frame : Int) (w : World) (hE : ErrsK E p w) (h : PtAt w p s) (hi : TInv m s) (hm : m + 1 ≤ 1000000) (hj : j < 256) :
    Calls Tryd.prog 109 #[.pointer (some ⟨p.tb, 0, none⟩), .int .i64 (j : Int), .int .i64 frame, .bool true] w (PtQ E p (tSet s (j : Int) frame true) w) := by
  have HH := Lib.hid h
  have HEE := Lib.hid hE
  have HU : Hid (Calls Tryd.prog 131 #[.pointer (some ⟨p.fb, 0, none⟩), .int .i64 frame] w (FrQ 128 126 E p.fb p.fg s.n (tSetR s frame true) w)) := Lib.hid (fwrite_any E s.F p.fb p.fg s.n frame w (frOk_b hi.fok (by omega)) (hE _ (Only.refl _ _)) h.fr)
  have HI1 := Lib.hid (tSetR_inv hi frame true)
  obtain ⟨-, c1, -, -, -⟩ := h.cells
  have ltb := blk_lt h.row
  by_cases hc : (tSetR s frame true).c = 0
  · have HR : Hid (tSet s (j : Int) frame true = ({ (tDrop { s with F := (tSetR s frame true).l } (j : Int)).1 with M := putE (tDrop { s with F := (tSetR s frame true).l } (j : Int)).1.M (s.P.getD (1 + (j : Int).toNat / 16) 0) (((j : Int).toNat % 16 : Nat) : Int) ⟨frame, true, true, true⟩ }, 0)) := Lib.hid (by unfold tSet; rw [if_pos hc])
    rw [HR.out, Int.toNat_natCast]
    obtain ⟨R, hR⟩ : ∃ R, tSetR s frame true = R := ⟨_, rfl⟩
    rw [hR] at HU HI1 hc ⊢
    obtain ⟨Rl, Rn, Rc⟩ := R
    dsimp only at hc HI1 ⊢
    subst hc
    have HDP := Lib.hid (tDrop_P { s with F := Rl } (j : Int))
    have HI2 := Lib.hid (tDrop_inv HI1.out (j : Int))
    have h1 := hi.pin (1 + j / 16) (by have := hi.p17; omega)
    have hn := hi.n1
    have HP17 := Lib.hid hi.p17
    obtain ⟨⟨S2, x2⟩, hS2⟩ : ∃ r, tDrop { s with F := Rl } (j : Int) = r := ⟨_, rfl⟩
    have HTD : Hid (∀ wx, Only p.zw w wx → PtAt wx p { s with F := Rl } → Calls Tryd.prog 106 #[.pointer (some ⟨p.tb, 0, none⟩), .int .i64 (j : Int)] wx (PtQ E p (S2, x2) wx)) := Lib.hid fun wx ho hx => hS2 ▸ tdrop_any E p { s with F := Rl } (m + 1) (j : Int) wx (HEE.out.next ho) hx HI1.out hm
    rw [hS2] at HDP HI2 ⊢
    dsimp only at HDP HI2 ⊢
    obtain ⟨a, k, r, ha, hk, hr, wq, wq', wq1, wr, wi0, wi1, hr16⟩ := page_parts j hj
    rw [ha, hk] at h1 ⊢
    rw [hr]
    obtain ⟨t1, ht1⟩ : ∃ x, s.P.getD k 0 = x := ⟨_, rfl⟩
    rw [ht1] at h1 ⊢
    have HT1 := Lib.hid ht1
    have hb16 : 0 ≤ t1 ∧ t1 < 1024 := by omega
    clear hE h hi HR h1 hn hR hS2 ht1 hj ha hk hr
    go_enter Tryd.func109, Tryd.ntmps109
    go_wp2_with fail
    refine HU.out.mono ?_
    rintro y w3 ⟨rfl, hf3, ho3⟩
    have HO3 := Lib.hid (zw_f ho3)
    have HH3 : Hid (PtAt w3 p { s with F := Rl }) := Lib.hid (HH.out.fr' ho3 hf3)
    clear hf3 ho3 c1 ltb
    unfold errC
    rw [if_pos rfl]
    go_wp2_with fail
    refine (HTD.out _ HO3.out HH3.out).mono ?_
    rintro y w4 ⟨rfl, hp4, ho4⟩
    have HH4 : Hid (PtAt w4 p S2) := Lib.hid hp4
    have HO4 := Lib.hid (HO3.out.trans ho4)
    obtain ⟨c0, -, -, -, c4⟩ := HH4.out.cells
    obtain ⟨g, cap, hl, hg, hcell⟩ := HH4.out.list (by rw [HDP.out.1]; exact HP17.out)
    rw [hl] at c4
    have ct1 : w4.cell? ⟨g, k, none⟩ = some (.int .i64 t1) := (hcell k (by omega)).trans (by rw [HDP.out.1, ← HT1.out])
    have ltb := blk_lt HH4.out.row
    have HW : Hid (∀ wx, Below w4.heap.size w4 wx → Calls Tryd.prog 71 #[.pointer (some ⟨p.mb, 0, none⟩), .int .i64 t1, .int .i64 (r : Int), .agg #[.int .i64 frame, .bool true, .bool true, .bool true]] wx fun y w' => y = .returned (.tuple #[]) ∧ MAt w' p.mb p.mv S2.n (putE S2.M t1 (r : Int) ⟨frame, true, true, true⟩) ∧ Only (fun k => inRow p.mv k) wx w') := Lib.hid fun wx hx => twrite_any S2.M p.mb S2.n p.mv t1 (r : Int) ⟨frame, true, true, true⟩ wx (HH4.out.below hx).mem hb16 (by omega)
    clear hp4 ho4 hl hcell hb16 hr16
    go_wp2_with fail
    go_region_with (first | (go_at_call 71; refine (HW.out _ (by first | exact (Below.refl _ _).drew | exact Below.refl _ _)).mono ?_; rintro e w5 ⟨rfl, hm5, ho5⟩))
    all_goals
      have HO5 := Lib.hid (HO4.out.trans ((Only.refl _ _).drew.trans (zw_m ho5)))
      have HH5 := Lib.hid ((HH4.out.below (Below.refl _ _).drew).mem' ho5 hm5)
      clear hm5 ho5
      go_wp2
      go_ret
      exact ⟨rfl, HH5.out, HO5.out⟩
  · have HR : Hid (tSet s (j : Int) frame true = (s, (tSetR s frame true).c)) := Lib.hid (by unfold tSet; rw [if_neg hc])
    have HS := Lib.hid (tSetR_same s frame true hc)
    rw [HR.out]
    obtain ⟨R, hR⟩ : ∃ R, tSetR s frame true = R := ⟨_, rfl⟩
    rw [hR] at HU HS hc ⊢
    clear hE h hi HR hR HI1
    go_enter Tryd.func109, Tryd.ntmps109
    go_wp2_with fail
    refine HU.out.mono ?_
    rintro y w3 ⟨rfl, hf3, ho3⟩
    have HO3 := Lib.hid (zw_f ho3)
    have HH3 : Hid (PtAt w3 p s) := Lib.hid (HH.out.fr' ho3 (HS.out ▸ hf3))
    have HEC : Hid (errC E R.c = errV (E (R.c - 101).toNat)) := Lib.hid (by unfold errC; rw [if_neg hc])
    clear hf3 ho3 c1 ltb hc
    rw [HEC.out]
    go_wp2
    go_ret
    exact ⟨by rw [HEC.out]; rfl, HH3.out, HO3.out⟩

end Go.Proofs.YtnhocmmgdkiepaaDoor

/-
  pt.Tables.Add.
-/
namespace Go.Proofs.YtnhocmmgdkiepaaDoor
open Go.RowKit

set_option maxHeartbeats 400000 in
theorem pm_full (l : List Int) (b : Nat) (v : Value) (w : World) (h : PAt w b v l) : Calls Tryd.prog 73 #[.pointer (some ⟨b, 0, none⟩)] w fun e w' => e = .returned (.bool (decide (512 ≤ l.length))) ∧ w = w' := by
  have c := h.cell
  obtain ⟨ao, cap, rfl, -⟩ := h.slice
  have HD : Hid (decide ((512 : Int) ≤ (l.length : Int)) = decide (512 ≤ l.length)) := Lib.hid (by simp only [decide_eq_decide]; omega)
  clear h
  go_enter Tryd.func73, Tryd.ntmps73
  go_wp2
  go_ret
  exact ⟨by rw [← HD.out]; rfl, rfl⟩

/-- what Add answers -/
def AddQ (E : Nat → Addr) (p : Pl) (s : Ts) (w : World) (e : Ending) (w' : World) : Prop := ∃ pv', e = .returned (.tuple #[.int .i64 (tAdd s).2.1, errC E (tAdd s).2.2]) ∧ PtAt w' { p with pv := pv' } (tAdd s).1 ∧ Only p.zw w w' ∧ ∀ k, inRow pv' k → inRow p.pv k ∨ w.heap.size ≤ k
theorem frAlloc_ok {F : List Fr} {who : Int} (h : (frAlloc F who).c = 0) : ∃ i, i < F.length ∧ (F.getD i default).owner = -1 ∧ frAlloc F who = ⟨F.set i ⟨who, (F.getD i default).kind, (F.getD i default).wr, (F.getD i default).us⟩, (i : Int), 0⟩ := by
  unfold frAlloc at h ⊢
  split
  · rename_i hw
    rw [if_pos hw] at h
    cases hf : frFree F with
    | none => rw [hf] at h; exact absurd (show (113 : Int) = 0 from h) (by decide)
    | some i =>
      obtain ⟨h1, h2, -⟩ := frFree_some hf
      exact ⟨i, h1, h2, rfl⟩
  · rename_i hw
    rw [if_neg hw] at h
    exact absurd (show (103 : Int) = 0 from h) (by decide)
/-- the map has another one -/
theorem PtAt.pm' {w w' : World} {p : Pl} {s : Ts} {P' : List Int} {pv' : Value} (h : PtAt w p s) (ho : Only (fun k => k = p.pb ∨ inRow p.pv k) w w') (hm : PAt w' p.pb pv' P') (hr : ∀ k, inRow pv' k → inRow p.pv k ∨ w.heap.size ≤ k) (hT : P'.take 17 = s.P.take 17) : PtAt w' { p with pv := pv' } { s with P := P' } := by
  have hz3 : ∀ k, Pl.z3 { p with pv := pv' } k → p.z3 k ∨ w.heap.size ≤ k := fun k hk => by
    rcases hk with hk | hk
    · exact .inl (.inl hk)
    · rcases hr k hk with h | h
      · exact .inl (.inr h)
      · exact .inr h
  have lt0 : ∀ k, p.z0 k → k < w.heap.size := fun k hk => by
    rcases hk with rfl | rfl | rfl | hk
    · exact blk_lt h.row
    · exact blk_lt h.mem.1
    · exact h.fr.lt.1
    · exact own_lt h.tl hk
  exact ⟨ho.blk h.row (fun h' => h.apart.a03 p.tb (.inl rfl) h'), h.mem.only ho (fun h' => h.apart.a03 p.mb (.inr (.inl rfl)) h') (fun k hk h' => h.apart.a13 _ hk h'), h.fr.only ho (fun h' => h.apart.a03 p.fb (.inr (.inr (.inl rfl))) h') (fun h' => h.apart.a23 p.fg rfl h'), hm, by
      show w'.ownsRow 0 3 1 p.lv 17 (ints (P'.take 17))
      rw [hT]
      exact own_only h.tl ho (fun k hk h' => h.apart.a03 k (.inr (.inr (.inr hk))) h'),
    ⟨h.apart.a01, h.apart.a02, fun k h0 h3 => by
      rcases hz3 k h3 with h' | h'
      · exact h.apart.a03 k h0 h'
      · have := lt0 k h0; omega, h.apart.a12, fun k h0 h3 => by
      rcases hz3 k h3 with h' | h'
      · exact h.apart.a13 k h0 h'
      · have := own_lt h.mem.2.1 (show inRow p.mv k from h0); omega, fun k h0 h3 => by
      rcases hz3 k h3 with h' | h'
      · exact h.apart.a23 k h0 h'
      · have := h.fr.lt.2; rw [show k = p.fg from h0] at h'; omega⟩⟩
theorem set_owner (F : List Fr) (i : Nat) (x : Fr) (hi : i < F.length) (j : Nat) : ((F.set i x).getD j default).owner = if j = i then x.owner else (F.getD j default).owner := by
  rw [List.getD_eq_getElem?_getD, List.getElem?_set]
  by_cases h : i = j
  · subst h
    simp [hi]
  · rw [if_neg h, if_neg (fun e => h e.symm), ← List.getD_eq_getElem?_getD]
theorem tAdd_inv {m : Int} {s : Ts} (h : TInv m s) (hw : s.who ≠ -1) : TInv (m + 1) (tAdd s).1 := by
  unfold tAdd
  split
  · exact h.mono
  · rename_i hl
    split
    · rename_i hc
      obtain ⟨i, hi, ho, hR⟩ := frAlloc_ok hc
      have hRR : tAddR s = _ := hR
      have hin := frAlloc_in h.fok s.who
      have hP : ∀ j, j < s.P.length → (s.P.getD j 0).toNat ≠ i := fun j hj e => (h.pin j hj).2.2 (e ▸ ho)
      have hgP : ∀ j, (s.P ++ [(i : Int)]).getD j 0 = if j < s.P.length then s.P.getD j 0 else if j = s.P.length then (i : Int) else 0 := fun j => by
        rw [List.getD_eq_getElem?_getD, List.getElem?_append]
        split
        · rw [List.getD_eq_getElem?_getD]
        · rename_i hj
          by_cases e : j = s.P.length
          · subst e; simp
          · rw [if_neg e, List.getElem?_eq_none (by simp; omega)]
            rfl
      rw [hRR]
      have hlf := h.lf
      have hfl : ∀ t, (fillL s.M i []).getD t 0 = if 16 * i ≤ t ∧ t < 16 * i + 16 then 0 else s.M.getD t 0 := fun t => by
        rw [fillL_get s.M s.n i [] t h.lm (by omega) (by decide)]
        split
        · simp
        · rfl
      refine ⟨h.n1, ?_, ?_, fun j => ?_, ?_, ?_, ?_, fun j hj => ?_, fun j k hj hk e => ?_, fun k hk => ?_⟩
      · show (fillL s.M i []).length = _
        rw [fillL_len]; exact h.lm
      · show (s.F.set i _).length = _
        rw [List.length_set]; exact h.lf
      · show W32 ((fillL s.M i []).getD j 0)
        rw [hfl]
        split
        · exact w32_zero
        · exact h.w32 j
      · have := hin
        rw [show frAlloc s.F s.who = _ from hR] at this
        exact this
      · show 17 ≤ (s.P ++ [(i : Int)]).length
        rw [List.length_append]; have := h.p17; omega
      · show (s.P ++ [(i : Int)]).length ≤ 512
        rw [List.length_append]; simp; omega
      · have hj' : j < s.P.length + 1 := by have := hj; simp at this; exact this
        show 0 ≤ (s.P ++ [(i : Int)]).getD j 0 ∧ (s.P ++ [(i : Int)]).getD j 0 < (s.n : Int) ∧ ((s.F.set i _).getD ((s.P ++ [(i : Int)]).getD j 0).toNat default).owner ≠ -1
        rw [hgP j]
        by_cases hjl : j < s.P.length
        · rw [if_pos hjl]
          have hp := h.pin j hjl
          refine ⟨hp.1, hp.2.1, ?_⟩
          rw [set_owner _ _ _ hi, if_neg (hP j hjl)]
          exact hp.2.2
        · rw [if_neg hjl, if_pos (by omega)]
          refine ⟨by omega, by omega, ?_⟩
          rw [Int.toNat_natCast, set_owner _ _ _ hi, if_pos rfl]
          exact hw
      · have hj' : j < s.P.length + 1 := by have := hj; simp at this; exact this
        have hk' : k < s.P.length + 1 := by have := hk; simp at this; exact this
        have e' : (s.P ++ [(i : Int)]).getD j 0 = (s.P ++ [(i : Int)]).getD k 0 := e
        rw [hgP j, hgP k] at e'
        by_cases hjl : j < s.P.length
        · rw [if_pos hjl] at e'
          by_cases hkl : k < s.P.length
          · rw [if_pos hkl] at e'
            exact h.pne j k hjl hkl e'
          · rw [if_neg hkl, if_pos (by omega)] at e'
            exact absurd (by rw [e']; simp) (hP j hjl)
        · rw [if_neg hjl, if_pos (by omega)] at e'
          by_cases hkl : k < s.P.length
          · rw [if_pos hkl] at e'
            exact absurd (by rw [← e']; simp) (hP k hkl)
          · omega
      · have h17 := h.p17
        show (fillL s.M i []).getD (16 * ((s.P ++ [(i : Int)]).getD 0 0).toNat + k) 0 = entW ((s.P ++ [(i : Int)]).getD (k + 1) 0) true true true
        rw [hgP 0, hgP (k + 1), if_pos (by omega), if_pos (by omega), hfl, if_neg (by have := hP 0 (by omega); omega)]
        exact h.root k hk
    · exact h.mono

set_option maxRecDepth 100000 in
set_option maxHeartbeats 6400000 in
theorem tadd_many (E : Nat → Addr) (p : Pl) (s : Ts) (w : World) (hE : ErrsK E p w) (h : PtAt w p s) (hl : 512 ≤ s.P.length) :
    Calls Tryd.prog 35 #[.pointer (some ⟨p.tb, 0, none⟩)] w (AddQ E p s w) := by
  have HR : Hid (tAdd s = (s, 0, 104)) := Lib.hid (by unfold tAdd; rw [if_pos hl])
  unfold AddQ
  rw [HR.out]
  have HH := Lib.hid h
  have HF := Lib.hid (pm_full s.P p.pb p.pv w h.pm)
  rw [decide_eq_true hl] at HF
  have e3 : w.cell? ⟨4, 0, none⟩ = some (errV (E 3)) := ((hE w (Only.refl _ _)).1 3 (by decide)).1
  have g3 := World.block_lt_of_cell? _ _ e3
  obtain ⟨-, -, -, c3, -⟩ := h.cells
  clear hE h hl HR
  go_enter Tryd.func35, Tryd.ntmps35
  go_wp2_with fail
  refine HF.out.mono ?_
  rintro y w1 ⟨rfl, rfl⟩
  go_wp2_with fail
  go_quiet (fail)
  go_wp2
  go_ret2
  exact ⟨p.pv, rfl, HH.out.below (below_drewN (Below.refl _ _) _), Only.of_below (below_drewN (Below.refl _ _) _), fun _ h => .inl h⟩

set_option maxRecDepth 100000 in
set_option maxHeartbeats 6400000 in
theorem tadd_no (E : Nat → Addr) (p : Pl) (s : Ts) (w : World) (hE : ErrsK E p w) (h : PtAt w p s) (hl : ¬ 512 ≤ s.P.length) (hc : (tAddR s).c ≠ 0) :
    Calls Tryd.prog 35 #[.pointer (some ⟨p.tb, 0, none⟩)] w (AddQ E p s w) := by
  have HR : Hid (tAdd s = (s, 0, (tAddR s).c)) := Lib.hid (by unfold tAdd; rw [if_neg hl, if_neg hc])
  have hFs : (tAddR s).l = s.F := by
    unfold tAddR frAlloc at hc ⊢
    split
    · rename_i hw
      rw [if_pos hw] at hc
      cases hf : frFree s.F with
      | none => rfl
      | some i => rw [hf] at hc; exact absurd rfl hc
    · rfl
  unfold AddQ
  rw [HR.out]
  have HH := Lib.hid h
  have HF := Lib.hid (pm_full s.P p.pb p.pv w h.pm)
  rw [decide_eq_false hl] at HF
  have HA : Hid (∀ wx, Below w.heap.size w wx → Calls Tryd.prog 66 #[.pointer (some ⟨p.fb, 0, none⟩), .int .i64 s.who] wx (FrQA 128 126 E p.fb p.fg s.n (tAddR s) wx)) := Lib.hid fun wx hx => falloc_any E s.F p.fb p.fg s.n s.who wx (hE wx (Only.of_below hx)) (h.below hx).fr
  have HFS := Lib.hid hFs
  obtain ⟨R, hR⟩ : ∃ R, tAddR s = R := ⟨_, rfl⟩
  rw [hR] at HA HFS hc ⊢
  have HEC : Hid (errC E R.c = errV (E (R.c - 101).toNat)) := Lib.hid (by unfold errC; rw [if_neg hc])
  obtain ⟨-, c1, c2, c3, -⟩ := h.cells
  have ltb := blk_lt h.row
  clear hE h hl HR hFs hR hc
  go_enter Tryd.func35, Tryd.ntmps35
  go_wp2_with fail
  refine HF.out.mono ?_
  rintro y w1 ⟨rfl, rfl⟩
  go_wp2_with fail
  go_region_with (first | (go_at_call 66; refine (HA.out _ (by first | exact (Below.refl _ _).drew | exact Below.refl _ _)).mono ?_; rintro e w2 ⟨rfl, hf2, ho2⟩))
  all_goals
    have HH2 : Hid (PtAt w2 p s) := Lib.hid ((HH.out.below (Below.refl _ _).drew).fr' ho2 (HFS.out ▸ hf2))
    have HO2 : Hid (Only p.zw w w2) := Lib.hid ((Only.refl _ _).drew.trans (zw_f ho2))
    clear hf2 ho2
    try rw [HEC.out]
    go_wp2_with fail
    go_wp2
    go_ret2
    exact ⟨p.pv, by rw [HEC.out]; rfl, HH2.out, HO2.out, fun _ h => .inl h⟩

set_option maxRecDepth 100000 in
set_option maxHeartbeats 16000000 in
theorem tadd_ok (E : Nat → Addr) (p : Pl) (s : Ts) (m : Int) (w : World) (hE : ErrsK E p w) (h : PtAt w p s) (hi : TInv m s) (hl : ¬ 512 ≤ s.P.length) (hc : (tAddR s).c = 0) :
    Calls Tryd.prog 35 #[.pointer (some ⟨p.tb, 0, none⟩)] w (AddQ E p s w) := by
  obtain ⟨i, hil, ho, hR0⟩ := frAlloc_ok hc
  obtain ⟨F1, hF1⟩ : ∃ F1, s.F.set i ⟨s.who, (s.F.getD i default).kind, (s.F.getD i default).wr, (s.F.getD i default).us⟩ = F1 := ⟨_, rfl⟩
  rw [hF1] at hR0
  have hR : tAddR s = ⟨F1, (i : Int), 0⟩ := hR0
  have HR : Hid (tAdd s = ({ s with F := F1, M := fillL s.M i [], P := s.P ++ [(i : Int)] }, (s.P.length : Int), 0)) := Lib.hid (by unfold tAdd; rw [if_neg hl, hR, if_pos rfl]; rfl)
  have hin : i < s.n := by rw [← hi.lf]; exact hil
  have hn1 := hi.n1
  have hnot : (i : Int) ∉ s.P := fun hmem => by
    obtain ⟨j, hj, e⟩ := mem_getD.1 hmem
    have := (hi.pin j hj).2.2
    rw [e, Int.toNat_natCast] at this
    exact this ho
  unfold AddQ
  rw [HR.out]
  have HH := Lib.hid h
  have HF := Lib.hid (pm_full s.P p.pb p.pv w h.pm)
  rw [decide_eq_false hl] at HF
  have HA : Hid (∀ wx, Below w.heap.size w wx → Calls Tryd.prog 66 #[.pointer (some ⟨p.fb, 0, none⟩), .int .i64 s.who] wx (FrQA 128 126 E p.fb p.fg s.n ⟨F1, (i : Int), 0⟩ wx)) := Lib.hid fun wx hx => hR0 ▸ falloc_any E s.F p.fb p.fg s.n s.who wx (hE wx (Only.of_below hx)) (h.below hx).fr
  have HFL : Hid (∀ wx, MAt wx p.mb p.mv s.n s.M → Calls Tryd.prog 68 #[.pointer (some ⟨p.mb, 0, none⟩), .int .i64 (i : Int), .slice none 0 0] wx fun e w' => e = .returned (.bool true) ∧ MAt w' p.mb p.mv s.n (fillL s.M i []) ∧ Only (fun k => inRow p.mv k) wx w') := Lib.hid fun wx hx => mm_fill_ok s.M [] p.mb s.n i 0 0 none p.mv wx hx hn1 hin (atL_nil _ _) rfl (by decide) (fun a h => by omega)
  have hfair : fairP (i : Int) = true := by simp [fairP]; omega
  have HAD : Hid (∀ wx, PAt wx p.pb p.pv s.P → Calls Tryd.prog 72 #[.pointer (some ⟨p.pb, 0, none⟩), .int .i64 (i : Int)] wx fun e w' => e = .returned (.tuple #[.int .i64 s.P.length, .nilIface]) ∧ ∃ v', PAt w' p.pb v' (s.P ++ [(i : Int)]) ∧ Only (fun k => k = p.pb ∨ inRow p.pv k) wx w' ∧ ∀ k, inRow v' k → inRow p.pv k ∨ wx.heap.size ≤ k) := Lib.hid fun wx hx => add_ok s.P p.pb p.pv (i : Int) wx hx hfair hnot (by omega)
  have HT : Hid ((s.P ++ [(i : Int)]).take 17 = s.P.take 17) := Lib.hid (by rw [List.take_append_of_le_length hi.p17])
  obtain ⟨-, c1, c2, c3, -⟩ := h.cells
  have ltb := blk_lt h.row
  clear hE h hi hl hc hil ho hR0 hF1 hR HR hin hn1 hnot hfair
  go_enter Tryd.func35, Tryd.ntmps35
  go_wp2_with fail
  refine HF.out.mono ?_
  rintro y w1 ⟨rfl, rfl⟩
  go_wp2_with fail
  go_region_with (first | (go_at_call 66; refine (HA.out _ (by first | exact (Below.refl _ _).drew | exact Below.refl _ _)).mono ?_; rintro e w2 ⟨rfl, hf2, ho2⟩))
  all_goals
    have HH2 : Hid (PtAt w2 p { s with F := F1 }) := Lib.hid ((HH.out.below (Below.refl _ _).drew).fr' ho2 hf2)
    have HO2 : Hid (Only p.zw w w2) := Lib.hid ((Only.refl _ _).drew.trans (zw_f ho2))
    obtain ⟨d0, -, -, d3, -⟩ := HH2.out.cells
    have ltb2 := blk_lt HH2.out.row
    clear hf2 ho2 c1 c2 c3
    try unfold errC
    try rw [if_pos rfl]
    go_wp2_with fail
    refine (HFL.out _ HH2.out.mem).mono ?_
    rintro y w3 ⟨rfl, hm3, ho3⟩
    have HH3 := Lib.hid (HH2.out.mem' ho3 hm3)
    have HO3 := Lib.hid (HO2.out.trans (zw_m ho3))
    obtain ⟨-, -, -, q3, -⟩ := HH3.out.cells
    have ltb3 := blk_lt HH3.out.row
    clear hm3 ho3 d0 d3
    go_wp2_with fail
    refine (HAD.out _ HH3.out.pm).mono ?_
    rintro y w4 ⟨rfl, v', hp4, ho4, hr4⟩
    have HH4 := Lib.hid (HH3.out.pm' ho4 hp4 hr4 HT.out)
    have HO4 : Hid (Only p.zw w w4) := Lib.hid (HO3.out.trans (ho4.mono fun k hk => .inl (by rcases hk with hk | hk; exact .inr (.inr (.inl hk)); exact .inr (.inr (.inr hk)))))
    have HR4 : Hid (∀ k, inRow v' k → inRow p.pv k ∨ w.heap.size ≤ k) := Lib.hid fun k hk => by
      rcases hr4 k hk with h | h
      · exact .inl h
      · exact .inr (Nat.le_trans HO3.out.size h)
    clear hp4 ho4 hr4 q3
    go_wp2
    go_ret2
    exact ⟨v', rfl, HH4.out, HO4.out, HR4.out⟩
theorem tadd_any (E : Nat → Addr) (p : Pl) (s : Ts) (m : Int) (w : World) (hE : ErrsK E p w) (h : PtAt w p s) (hi : TInv m s) :
    Calls Tryd.prog 35 #[.pointer (some ⟨p.tb, 0, none⟩)] w (AddQ E p s w) := by
  by_cases hl : 512 ≤ s.P.length
  · exact tadd_many E p s w hE h hl
  · by_cases hc : (tAddR s).c = 0
    · exact tadd_ok E p s m w hE h hi hl hc
    · exact tadd_no E p s w hE h hl hc
end Go.Proofs.YtnhocmmgdkiepaaDoor

/-
  Tables of which it is known who has each frame, and each page's entry: plain laws.
-/
namespace Go.Proofs.YtnhocmmgdkiepaaDoor
open Go.RowKit

/-- whose a frame is, and what -/
def okF (F : List Fr) (j : Nat) : Int × Int := ((F.getD j default).owner, (F.getD j default).kind)
theorem frThere_ok (l : List Fr) (i : Int) (k : Fr → Fr × Int) (hk : ∀ x, ((k x).1.owner, (k x).1.kind) = (x.owner, x.kind)) (j : Nat) : okF (frThere l i k).l j = okF l j := by
  unfold frThere
  cases hN : frAt l i with
  | none => rfl
  | some n =>
    obtain ⟨-, hn, -⟩ := frAt_some hN
    show okF (l.set n (k (l.getD n default)).1) j = _
    unfold okF
    rw [fr_setD _ _ _ _ hn]
    by_cases h : j = n
    · rw [if_pos h, h]
      exact hk _
    · rw [if_neg h]
theorem kUnwrite_ok (x : Fr) : ((kUnwrite x).1.owner, (kUnwrite x).1.kind) = (x.owner, x.kind) := by unfold kUnwrite; split <;> rfl
theorem kUnuse_ok (x : Fr) : ((kUnuse x).1.owner, (kUnuse x).1.kind) = (x.owner, x.kind) := by unfold kUnuse; split <;> rfl
theorem kWrite_ok (x : Fr) : ((kWrite x).1.owner, (kWrite x).1.kind) = (x.owner, x.kind) := by unfold kWrite; split <;> rfl
theorem kUse_ok (x : Fr) : ((kUse x).1.owner, (kUse x).1.kind) = (x.owner, x.kind) := rfl
theorem tDropF_ok (s : Ts) (page : Int) (j : Nat) : okF (tDropF s page) j = okF s.F j := by
  unfold tDropF
  split
  · exact frThere_ok _ _ _ kUnwrite_ok j
  · exact frThere_ok _ _ _ kUnuse_ok j
theorem tDrop_ok (s : Ts) (page : Int) (j : Nat) : okF (tDrop s page).1.F j = okF s.F j := by
  unfold tDrop
  split
  · split
    · exact tDropF_ok s page j
    · rfl
  · rfl
theorem tSetR_ok (s : Ts) (frame : Int) (w : Bool) (j : Nat) : okF (tSetR s frame w).l j = okF s.F j := by
  unfold tSetR
  split
  · exact frThere_ok _ _ _ kWrite_ok j
  · exact frThere_ok _ _ _ kUse_ok j
theorem tSet_ok (s : Ts) (page frame : Int) (w : Bool) (j : Nat) : okF (tSet s page frame w).1.F j = okF s.F j := by
  unfold tSet
  split
  · exact (tDrop_ok { s with F := (tSetR s frame w).l } page j).trans (tSetR_ok s frame w j)
  · rfl
theorem tSet_P (s : Ts) (page frame : Int) (w : Bool) : (tSet s page frame w).1.P = s.P ∧ (tSet s page frame w).1.n = s.n ∧ (tSet s page frame w).1.who = s.who := by
  unfold tSet
  split
  · exact tDrop_P { s with F := (tSetR s frame w).l } page
  · exact ⟨rfl, rfl, rfl⟩
/-- another frame changes no entry -/
theorem tEnt_add {m : Int} {s : Ts} (h : TInv m s) (p : Int) : tEnt (tAdd s).1 p = tEnt s p := by
  unfold tAdd
  split
  · rfl
  · split
    · rename_i hc
      obtain ⟨i, hi, ho, hR⟩ := frAlloc_ok hc
      have hRR : tAddR s = _ := hR
      rw [hRR]
      cases hq : isPage p with
      | false => rw [tEnt_none _ p hq, tEnt_none _ p hq]
      | true =>
        have hpq : 0 ≤ p ∧ p < 256 := by simpa [isPage] using hq
        have h1 := h.pin (1 + p.toNat / 16) (by have := h.p17; omega)
        have hne : (s.P.getD (1 + p.toNat / 16) 0).toNat ≠ i := fun e => h1.2.2 (by rw [e]; exact ho)
        have hg : (s.P ++ [(i : Int)]).getD (1 + p.toNat / 16) 0 = s.P.getD (1 + p.toNat / 16) 0 := by
          rw [List.getD_eq_getElem?_getD, List.getElem?_append_left (by have := h.p17; omega), ← List.getD_eq_getElem?_getD]
        have hlf := h.lf
        rw [tEnt_word _ p hq (s.M.getD (tWord s p.toNat) 0) (by
          show (fillL s.M ((i : Nat) : Int).toNat []).getD (16 * ((s.P ++ [(i : Int)]).getD (1 + p.toNat / 16) 0).toNat + p.toNat % 16) 0 = _
          rw [hg, Int.toNat_natCast, fillL_get s.M s.n i [] _ h.lm (by omega) (by decide), if_neg (by omega)]
          rfl), tEnt_word s p hq _ rfl]
    · rfl
theorem tAdd_P (s : Ts) (h : (tAdd s).2.2 = 0) : (tAdd s).1.n = s.n ∧ (tAdd s).1.who = s.who := by
  unfold tAdd
  split
  · exact ⟨rfl, rfl⟩
  · split
    · exact ⟨rfl, rfl⟩
    · exact ⟨rfl, rfl⟩

/-- tables, n frames, of which o another one's; a more are the guest's -/
structure TbAt (m : Int) (S : Ts) (n o a : Nat) (who : Int) (f : Int → Ent) : Prop where
  inv : TInv m S
  sn : S.n = n
  sP : S.P = rngF o (17 + a)
  sw : S.who = who
  own : frOwns who
  sF : ∀ j, j < n → okF S.F j = if j < o then (3, 0) else if j = o then (who, 1) else if j < o + 17 then (who, 2) else if j < o + 17 + a then (who, 0) else (-1, 0)
  ent : ∀ p, tEnt S p = f p
  room : o + 17 + a ≤ n ∧ n ≤ 1024 ∧ 17 + a ≤ 512
set_option maxRecDepth 100000 in
theorem tb_new (n o : Nat) (who : Int) (hw : frOwns who) (hn : o + 17 ≤ n) (hn2 : n ≤ 1024) : TbAt 1 (tNew n o who) n o 0 who fun _ => Ent.z := by
  refine ⟨tNew_inv n o who hw hn hn2, rfl, rfl, rfl, hw, fun j hj => ?_, fun p => ?_, hn, hn2, by decide⟩
  · show okF (frM n o 17 who) j = _
    unfold okF
    rw [frM_get n o 17 j who hj]
    by_cases h1 : j < o
    · rw [if_pos h1, if_pos h1]
    · rw [if_neg h1, if_neg h1]
      by_cases h2 : j < o + 17
      · rw [if_pos h2, if_pos h2]
        by_cases h3 : j = o
        · rw [if_pos h3, if_pos h3]
        · rw [if_neg h3, if_neg h3, if_pos h2]
      · rw [if_neg h2, if_neg (by omega), if_neg h2, if_neg (by omega)]
        rfl
  · cases hq : isPage p with
    | false => exact tEnt_none _ p hq
    | true =>
      have hpq : 0 ≤ p ∧ p < 256 := by simpa [isPage] using hq
      rw [tEnt_word _ p hq 0 (by
        show (tM (List.replicate (16 * n) 0) o 17).getD (16 * ((rngF o 17).getD (1 + p.toNat / 16) 0).toNat + p.toNat % 16) 0 = 0
        rw [rngF_get o 17 _ (by omega), Int.toNat_natCast, tM_get _ n o _ List.length_replicate hn2 17 (by omega) hn, if_neg (by omega), if_pos (by omega)]), ofA_zero'']
      rfl
theorem TbAt.get {m : Int} {S : Ts} {n o a : Nat} {who : Int} {f : Int → Ent} (h : TbAt m S n o a who f) (i : Nat) (hi : i < 17 + a) : S.P.getD i 0 = ((o + i : Nat) : Int) ∧ S.P.length = 17 + a := by
  rw [h.sP]
  exact ⟨rngF_get _ _ _ hi, rngF_len _ _⟩
theorem tb_alloc {m : Int} {S : Ts} {n o a : Nat} {who : Int} {f : Int → Ent} (h : TbAt m S n o a who f) (hn : o + 17 + a < n) : ∃ w u, frAlloc S.F who = ⟨S.F.set (o + 17 + a) ⟨who, 0, w, u⟩, ((o + 17 + a : Nat) : Int), 0⟩ := by
  have hl : S.F.length = n := h.inv.lf.trans h.sn
  have hne := frOwns_ne h.own
  have hx : okF S.F (o + 17 + a) = (-1, 0) := by rw [h.sF _ hn, if_neg (by omega), if_neg (by omega), if_neg (by omega), if_neg (by omega)]
  have hx1 : (S.F.getD (o + 17 + a) default).owner = -1 := (Prod.mk.inj hx).1
  have hx2 : (S.F.getD (o + 17 + a) default).kind = 0 := (Prod.mk.inj hx).2
  have hf : frFree S.F = some (o + 17 + a) := frFree_is (by omega) hx1 fun i hi => by
    have hi' := congrArg Prod.fst (h.sF i (by omega))
    show (okF S.F i).1 ≠ -1
    rw [hi']
    by_cases h1 : i < o
    · rw [if_pos h1]; decide
    · rw [if_neg h1]
      by_cases h2 : i = o
      · rw [if_pos h2]; exact hne
      · rw [if_neg h2]
        by_cases h3 : i < o + 17
        · rw [if_pos h3]; exact hne
        · rw [if_neg h3, if_pos hi]; exact hne
  refine ⟨(S.F.getD (o + 17 + a) default).wr, (S.F.getD (o + 17 + a) default).us, ?_⟩
  unfold frAlloc
  rw [if_pos h.own, hf]
  dsimp only
  rw [hx2]
theorem tb_add {m : Int} {S : Ts} {n o a : Nat} {who : Int} {f : Int → Ent} (h : TbAt m S n o a who f) (hn : o + 17 + a < n) (ha : 17 + a < 512) : (tAdd S).2.1 = ((17 + a : Nat) : Int) ∧ (tAdd S).2.2 = 0 ∧ TbAt (m + 1) (tAdd S).1 n o (a + 1) who f := by
  obtain ⟨w, u, hA⟩ := tb_alloc h hn
  have hR : tAddR S = ⟨S.F.set (o + 17 + a) ⟨who, 0, w, u⟩, ((o + 17 + a : Nat) : Int), 0⟩ := by unfold tAddR; rw [h.sw]; exact hA
  have hl : S.F.length = n := h.inv.lf.trans h.sn
  have hlen : S.P.length = 17 + a := by rw [h.sP]; exact rngF_len _ _
  have hT : tAdd S = ({ S with F := S.F.set (o + 17 + a) ⟨who, 0, w, u⟩, M := fillL S.M ((o + 17 + a : Nat) : Int).toNat [], P := S.P ++ [((o + 17 + a : Nat) : Int)] }, ((17 + a : Nat) : Int), 0) := by
    unfold tAdd
    rw [if_neg (by omega), hR, if_pos rfl, hlen]
  refine ⟨by rw [hT], by rw [hT], tAdd_inv h.inv (by rw [h.sw]; exact frOwns_ne h.own), by rw [hT]; exact h.sn, ?_, by rw [hT]; exact h.sw, h.own, fun j hj => ?_, fun p => by rw [tEnt_add h.inv]; exact h.ent p, by have := h.room; omega, h.room.2.1, by omega⟩
  · rw [hT]
    show S.P ++ [((o + 17 + a : Nat) : Int)] = rngF o (17 + (a + 1))
    rw [h.sP, show 17 + (a + 1) = (17 + a) + 1 by omega, rngF_succ, Nat.add_assoc]
  · rw [hT]
    show okF (S.F.set (o + 17 + a) ⟨who, 0, w, u⟩) j = _
    have hj' := h.sF j hj
    unfold okF at hj' ⊢
    rw [fr_setD _ _ _ _ (by omega)]
    by_cases e : j = o + 17 + a
    · rw [if_pos e, if_neg (by omega), if_neg (by omega), if_neg (by omega), if_pos (by omega)]
    · rw [if_neg e, hj']
      by_cases h1 : j < o
      · rw [if_pos h1, if_pos h1]
      · rw [if_neg h1, if_neg h1]
        by_cases h2 : j = o
        · rw [if_pos h2, if_pos h2]
        · rw [if_neg h2, if_neg h2]
          by_cases h3 : j < o + 17
          · rw [if_pos h3, if_pos h3]
          · rw [if_neg h3, if_neg h3]
            by_cases h4 : j < o + 17 + a
            · rw [if_pos h4, if_pos (by omega)]
            · rw [if_neg h4, if_neg (by omega)]
theorem TbAt.frame {m : Int} {S : Ts} {n o a : Nat} {who : Int} {f : Int → Ent} (h : TbAt m S n o a who f) (i : Nat) (h1 : 17 ≤ i) (h2 : i < 17 + a) : (S.F.getD (o + i) default).owner = who ∧ (S.F.getD (o + i) default).kind = 0 ∧ frAt S.F ((o + i : Nat) : Int) = some (o + i) := by
  have hr := h.room
  have hj := h.sF (o + i) (by omega)
  rw [if_neg (by omega), if_neg (by omega), if_neg (by omega), if_pos (by omega)] at hj
  have ho : (S.F.getD (o + i) default).owner = who := (Prod.mk.inj hj).1
  refine ⟨ho, (Prod.mk.inj hj).2, ?_⟩
  unfold frAt
  rw [if_pos ⟨by omega, by have := h.inv.lf; have := h.sn; omega, by rw [Int.toNat_natCast, ho]; exact frOwns_ne h.own⟩, Int.toNat_natCast]
theorem tb_setR {m : Int} {S : Ts} {n o a : Nat} {who : Int} {f : Int → Ent} (h : TbAt m S n o a who f) (i : Nat) (h1 : 17 ≤ i) (h2 : i < 17 + a) (w : Bool) : (tSetR S ((o + i : Nat) : Int) w).c = 0 := by
  obtain ⟨e1, e2, e3⟩ := h.frame i h1 h2
  unfold tSetR frThere
  rw [e3]
  cases w
  · rfl
  · show (kWrite (S.F.getD (o + i) default)).2 = 0
    unfold kWrite
    rw [if_neg (by rw [e2]; decide)]
theorem tb_put {m : Int} {S : Ts} {n o a : Nat} {who : Int} {f : Int → Ent} (h : TbAt m S n o a who f) (page : Int) (hp : isPage page = true) (i : Nat) (h1 : 17 ≤ i) (h2 : i < 17 + a) (w u : Bool) : tPut S page ⟨(i : Int), true, w, u⟩ = tSet S page ((o + i : Nat) : Int) w ∧ (tPut S page ⟨(i : Int), true, w, u⟩).2 = 0 ∧ TbAt (m + 1 + 1) (tPut S page ⟨(i : Int), true, w, u⟩).1 n o a who fun p => if p = page then ⟨((o + i : Nat) : Int), true, w, true⟩ else f p := by
  obtain ⟨e1, e2, e3⟩ := h.frame i h1 h2
  have hg := h.get i h2
  have hr := h.room
  have hc := tb_setR h i h1 h2 w
  have hput : tPut S page ⟨(i : Int), true, w, u⟩ = tSet S page ((o + i : Nat) : Int) w := by
    unfold tPut
    rw [if_pos hp, if_pos rfl, if_pos (show (0 : Int) ≤ (i : Int) ∧ (i : Int) < (S.P.length : Int) by omega)]
    show (if (S.F.getD (S.P.getD ((i : Nat) : Int).toNat 0).toNat default).owner = S.who then tSet S page (S.P.getD ((i : Nat) : Int).toNat 0) w else (S, 110)) = _
    rw [Int.toNat_natCast, hg.1, Int.toNat_natCast, if_pos (by rw [h.sw]; exact e1)]
  have hinv := tPut_inv h.inv page ⟨(i : Int), true, w, u⟩
  refine ⟨hput, ?_, ?_⟩
  · rw [hput]
    unfold tSet
    rw [if_pos hc]
  · rw [hput] at hinv ⊢
    obtain ⟨p1, p2, p3⟩ := tSet_P S page ((o + i : Nat) : Int) w
    refine ⟨hinv, p2.trans h.sn, p1.trans h.sP, p3.trans h.sw, h.own, fun j hj => (tSet_ok _ _ _ _ j).trans (h.sF j hj), fun p => ?_, h.room⟩
    rw [tEnt_set h.inv page _ w hp hc (by omega), h.ent p]
theorem tb_drop {m : Int} {S : Ts} {n o a : Nat} {who : Int} {f : Int → Ent} (h : TbAt m S n o a who f) (page : Int) (hp : isPage page = true) : (tDrop S page).2 = 0 ∧ TbAt (m + 1) (tDrop S page).1 n o a who fun p => if p = page then Ent.z else f p := by
  refine ⟨?_, ?_⟩
  · unfold tDrop
    rw [if_pos hp]
    split <;> rfl
  · obtain ⟨p1, p2, p3⟩ := tDrop_P S page
    exact ⟨tDrop_inv h.inv page, p2.trans h.sn, p1.trans h.sP, p3.trans h.sw, h.own, fun j hj => (tDrop_ok _ _ j).trans (h.sF j hj), fun p => by rw [tEnt_drop h.inv page hp p, h.ent p], h.room⟩
theorem tb_put0 (S : Ts) (page : Int) (hp : isPage page = true) : tPut S page Ent.z = tDrop S page := by
  unfold tPut
  rw [if_pos hp, if_neg (by decide), if_pos ⟨rfl, rfl, rfl⟩]
end Go.Proofs.YtnhocmmgdkiepaaDoor

/-
  queue.Queue: its cells; Len, Clear, All, Put.
-/
namespace Go.Proofs.YtnhocmmgdkiepaaDoor
open Go.RowKit

structure Up where
  page : Int
  word : Int
deriving Inhabited
def upOne (u : Up) : List Value := [.int .i64 u.page, .int .u32 u.word]
theorem upOne_len (u : Up) : (upOne u).length = 2 := rfl
def upCells (l : List Up) : List Value := l.flatMap upOne
def QuAt (w : World) (b : Nat) (v : Value) (l : List Up) : Prop := w.heap[b]? = some (.cells #[v] 53 (0, 0)) ∧ w.ownsRow 0 48 2 v l.length (upCells l)
theorem QuAt.not {w : World} {b : Nat} {v : Value} {l : List Up} (h : QuAt w b v l) : ¬ inRow v b := own_not h.2 h.1 (by decide)
theorem QuAt.cell {w : World} {b : Nat} {v : Value} {l : List Up} (h : QuAt w b v l) : w.cell? ⟨b, 0, none⟩ = some v := blk_cell h.1 0
theorem QuAt.below {w w' : World} {b : Nat} {v : Value} {l : List Up} (h : QuAt w b v l) (hb : Below w.heap.size w w') : QuAt w' b v l :=
  ⟨by rw [hb.block b (blk_lt h.1)]; exact h.1, own_frame h.2 fun k hk => hb.block k (own_lt h.2 hk)⟩
theorem QuAt.only {F : Nat → Prop} {w w' : World} {b : Nat} {v : Value} {l : List Up} (h : QuAt w b v l) (ho : Only F w w') (h1 : ¬ F b) (h2 : ∀ k, inRow v k → ¬ F k) : QuAt w' b v l :=
  ⟨ho.blk h.1 h1, own_only h.2 ho h2⟩
theorem QuAt.slice {w : World} {b : Nat} {v : Value} {l : List Up} (h : QuAt w b v l) : ∃ ao cap, v = .slice ao l.length cap := own_slice h.2
theorem QuAt.new (w : World) : QuAt (w.alloc (.cells #[.slice none 0 0] 53)) w.heap.size (.slice none 0 0) [] := ⟨blk_new _ _, own_nil _ _ _⟩

set_option maxHeartbeats 800000 in
theorem qlen_any (l : List Up) (b : Nat) (v : Value) (w : World) (h : QuAt w b v l) :
    Calls Tryd.prog 30 #[.pointer (some ⟨b, 0, none⟩)] w fun e w' => e = .returned (.int .i64 l.length) ∧ w = w' := by
  have c := h.cell
  obtain ⟨ao, cap, rfl⟩ := h.slice
  clear h
  go_enter Tryd.func30, Tryd.ntmps30
  go_wp2
  go_ret
  exact ⟨rfl, rfl⟩
set_option maxHeartbeats 800000 in
theorem qclear_any (l : List Up) (b : Nat) (v : Value) (w : World) (h : QuAt w b v l) :
    Calls Tryd.prog 29 #[.pointer (some ⟨b, 0, none⟩)] w fun e w' => e = .returned (.tuple #[]) ∧ QuAt w' b (.slice none 0 0) [] ∧ Only (fun k => k = b) w w' := by
  have c := h.cell
  have f := blk_free h.1 0
  have HF : Hid (QuAt (w.setCell ⟨b, 0, none⟩ (.slice none 0 0)) b (.slice none 0 0) [] ∧ Only (fun k => k = b) w (w.setCell ⟨b, 0, none⟩ (.slice none 0 0))) := Lib.hid ⟨⟨blk_put h.1 0 _, own_nil _ _ _⟩, Only.setCell (F := fun k => k = b) (Only.refl _ _) (p := ⟨b, 0, none⟩) (.inl rfl) _⟩
  clear h
  go_enter Tryd.func29, Tryd.ntmps29
  go_wp2
  go_end0
  exact ⟨rfl, HF.out⟩
theorem infoUp : (Tryd.prog.info? 48).map (fun i => (i.zero, i.size, i.bytes)) = some (some (.agg #[.int .i64 0, .int .u32 0]), 2, 16) := by kernel_rfl

set_option maxRecDepth 100000 in
set_option maxHeartbeats 3200000 in
theorem qput_ok (l : List Up) (b : Nat) (v : Value) (x y : Int) (w : World) (h : QuAt w b v l) (hl : l.length < 16) :
    Calls Tryd.prog 28 #[.pointer (some ⟨b, 0, none⟩), .agg #[.int .i64 x, .int .u32 y]] w fun e w' => e = .returned .nilIface ∧ ∃ v', QuAt w' b v' (l ++ [⟨x, y⟩]) ∧ Only (fun k => k = b ∨ inRow v k) w w' ∧ ∀ k, inRow v' k → inRow v k ∨ w.heap.size ≤ k := by
  obtain ⟨i0, hi, hz0, hz1, hz2⟩ := info_parts infoUp
  have hb0 : Below w.heap.size w (w.alloc (.cells #[.int .i64 x, .int .u32 y] 48)) := (Below.refl _ _).alloc (Nat.le_refl _) _
  have h1 := h.below hb0
  have c := h1.cell
  have lb := blk_lt h1.1
  have lb0 := blk_lt h.1
  have lb2 : b < w.heap.size + 1 := by omega
  have HP := Lib.hid h
  have HNB := Lib.hid h.not
  obtain ⟨ao, cap, rfl⟩ := h.slice
  have hl2 : ¬ (16 : Int) ≤ (l.length : Int) := by omega
  have hnew := blk_new w (.cells #[.int .i64 x, .int .u32 y] 48)
  have x0 := blk_cell hnew 0
  have x1 := blk_cell hnew 1
  have HNEW : Hid (∀ (W : World) (T : TypeId) (j : Nat) (u : Value), ([.int .i64 x, .int .u32 y] : List Value)[j]? = some u → (W.alloc (.cells #[.int .i64 x, .int .u32 y] T)).cell? ((⟨W.heap.size, 0, none⟩ : Addr).add j) = some u) := Lib.hid fun W T j u hj => by
    rw [Addr.add_lit, blk_cell (blk_new W (.cells #[.int .i64 x, .int .u32 y] T)), Nat.zero_add]
    simpa using hj
  have HONE : Hid (∀ u ∈ ([.int .i64 x, .int .u32 y] : List Value), u.oneCell' = true) := Lib.hid fun u hu => by
    simp only [List.mem_cons, List.not_mem_nil, or_false] at hu
    rcases hu with rfl | rfl <;> rfl
  have HOA : Hid (∀ X, ((w.alloc (.cells #[.int .i64 x, .int .u32 y] 48)).drew.alloc X).ownsRow 0 48 2 (.slice ao l.length cap) l.length (upCells l)) := Lib.hid fun X => (show (w.alloc _).drew.ownsRow _ _ _ _ _ _ from h1.2).alloc X
  have HRW : Hid (∀ X, ((w.alloc (.cells #[.int .i64 x, .int .u32 y] 48)).drew.alloc X).heap[b]? = some (.cells #[.slice ao l.length cap] 53 (0, 0))) := Lib.hid fun X => blk_old (show (w.alloc _).drew.heap[b]? = _ from h1.1) X
  have HO0 : Hid (∀ X, Only (fun k => k = b ∨ inRow (.slice ao l.length cap) k) w ((w.alloc (.cells #[.int .i64 x, .int .u32 y] 48)).drew.alloc X)) := Lib.hid fun X => (Only.of_below hb0).drew.alloc' X
  have HOA2 : Hid (∀ X, ((w.alloc (.cells #[.int .i64 x, .int .u32 y] 48)).alloc X).ownsRow 0 48 2 (.slice ao l.length cap) l.length (upCells l)) := Lib.hid fun X => h1.2.alloc X
  have HRW2 : Hid (∀ X, ((w.alloc (.cells #[.int .i64 x, .int .u32 y] 48)).alloc X).heap[b]? = some (.cells #[.slice ao l.length cap] 53 (0, 0))) := Lib.hid fun X => blk_old h1.1 X
  have HNW1 : Hid (∀ (j : Nat) (u : Value), ([.int .i64 x, .int .u32 y] : List Value)[j]? = some u → ((w.alloc (.cells #[.int .i64 x, .int .u32 y] 48)).drew.alloc (.cells #[.int .i64 x, .int .u32 y] 48)).cell? ((⟨w.heap.size + 1, 0, none⟩ : Addr).add j) = some u) := Lib.hid fun j u hj => by
    have := HNEW.out (w.alloc (.cells #[.int .i64 x, .int .u32 y] 48)).drew 48 j u hj
    rwa [show (w.alloc (.cells #[.int .i64 x, .int .u32 y] 48)).drew.heap.size = w.heap.size + 1 by simp] at this
  have HNW2 : Hid (∀ (j : Nat) (u : Value), ([.int .i64 x, .int .u32 y] : List Value)[j]? = some u → ((w.alloc (.cells #[.int .i64 x, .int .u32 y] 48)).alloc (.cells #[.int .i64 x, .int .u32 y] 48)).cell? ((⟨w.heap.size + 1, 0, none⟩ : Addr).add j) = some u) := Lib.hid fun j u hj => by
    have := HNEW.out (w.alloc (.cells #[.int .i64 x, .int .u32 y] 48)) 48 j u hj
    rwa [show (w.alloc (.cells #[.int .i64 x, .int .u32 y] 48)).heap.size = w.heap.size + 1 by simp] at this
  have HO02 : Hid (∀ X, Only (fun k => k = b ∨ inRow (.slice ao l.length cap) k) w ((w.alloc (.cells #[.int .i64 x, .int .u32 y] 48)).alloc X)) := Lib.hid fun X => (Only.of_below hb0).alloc' X
  have HE1 : Hid (upCells l ++ [.int .i64 x, .int .u32 y] = upCells (l ++ [⟨x, y⟩])) := Lib.hid (by unfold upCells; rw [List.flatMap_append]; rfl)
  clear h h1 hb0 hnew
  go_enter Tryd.func28, Tryd.ntmps28
  go_wp2_with fail
  go_region_law ((refine step_append_lies _ (by rfl) _ _ _ (by rfl) 0 48 i0 (.agg #[.int .i64 0, .int .u32 0]) 2 16 Tryd.underlying51 hi hz0 hz1 hz2 rfl (by decide) (.slice ao l.length cap) l.length (upCells l) (by rfl) (by first | exact HOA.out _ | exact HOA2.out _) ⟨w.heap.size + 1, 0, none⟩ 1 1 [.int .i64 x, .int .u32 y] (by rfl) rfl (by first | exact HNW1.out | exact HNW2.out) HONE.out (by decide) (by unfold maxLen; omega) (by omega) (Nat.zero_le _) _ rfl ?_; intro g cap2 w1 hown1 hgrow hat hlt1; have hrw := blk_grown (by first | exact HRW.out _ | exact HRW2.out _) hgrow HNB.out; have cz := blk_cell hrw 0; have fz := blk_free hrw 0))
  all_goals
    have HF : Hid (QuAt (w1.setCell ⟨b, 0, none⟩ (.slice (some ⟨g, 0, none⟩) (l.length + 1) cap2)) b (.slice (some ⟨g, 0, none⟩) (l.length + 1) cap2) (l ++ [⟨x, y⟩]) ∧ Only (fun k => k = b ∨ inRow (.slice ao l.length cap) k) w (w1.setCell ⟨b, 0, none⟩ (.slice (some ⟨g, 0, none⟩) (l.length + 1) cap2)) ∧ ∀ k, inRow (.slice (some ⟨g, 0, none⟩) (l.length + 1) cap2) k → inRow (.slice ao l.length cap) k ∨ w.heap.size ≤ k) := Lib.hid ⟨⟨by have := blk_put hrw 0 (.slice (some ⟨g, 0, none⟩) (l.length + 1) cap2); exact this, by
        rw [HE1.out] at hown1
        rw [List.length_append]
        exact own_set hown1 hrw (by decide) 0 _⟩,
      Only.setCell (F := fun k => k = b ∨ inRow (.slice ao l.length cap) k) (Only.grown (by first | exact HO0.out _ | exact HO02.out _) hgrow (fun k hk => .inl (.inr hk))) (p := ⟨b, 0, none⟩) (.inl (.inl rfl)) _, fun k hk => by
        have hk' : g = k := by simpa [inRow, Value.ownBlock] using hk
        subst hk'
        rcases hat with h | h
        · exact .inl h
        · have h' := h
          try simp only [World.size_alloc] at h'
          exact .inr (by simp at h'; omega)⟩
    clear hown1 hgrow hat hlt1 hrw cz fz
    go_wp2
    go_ret
    exact ⟨rfl, _, HF.out⟩
end Go.Proofs.YtnhocmmgdkiepaaDoor

