/-
  Parts of one proof, one behind the other.
-/
import Derived.Test.YtaoaachgnnengaaGreatDoorMga85010b3ec
import Derived.BigQuiet
import Derived.Test.YtaoaachgnnengaaGreatDoorRows
import Derived.Test.YtaoaachgnnengaaGreatDoorMg46ad1761f3
import Derived.Test.YtaoaachgnnengaaGreatDoorMg4e4d88e392
import Derived.Test.YtaoaachgnnengaaGreatDoorMg9a5a14a2e3
/-
  pt.Tables.set.
-/
namespace Go.Proofs.YtaoaachgnnengaaGreatDoor
open Go.RowKit

set_option maxRecDepth 100000 in
set_option maxHeartbeats 16000000 in
theorem tset_false (E : Nat → Addr) (p : Pl) (s : Ts) (m : Int) (j : Nat) (frame : Int) (w : World) (hE : ErrsK E p w) (h : PtAt w p s) (hi : TInv m s) (hm : m + 1 ≤ 1000000) (hj : j < 256) :
    Calls Tryz.prog 71 #[.pointer (some ⟨p.tb, 0, none⟩), .int .i64 (j : Int), .int .i64 frame, .bool false] w (PtQ E p (tSet s (j : Int) frame false) w) := by
  have HH := Lib.hid h
  have HEE := Lib.hid hE
  have HU : Hid (Calls Tryz.prog 52 #[.pointer (some ⟨p.fb, 0, none⟩), .int .i64 frame] w (FrQ 99 69 E p.fb p.fg s.n (tSetR s frame false) w)) := Lib.hid (fuse_any E s.F p.fb p.fg s.n frame w (frOk_b hi.fok (by omega)) (hE _ (Only.refl _ _)) h.fr)
  have HI1 := Lib.hid (tSetR_inv hi frame false)
  obtain ⟨-, c1, -, -, -⟩ := h.cells
  have ltb := blk_lt h.row
  by_cases hc : (tSetR s frame false).c = 0
  · have HR : Hid (tSet s (j : Int) frame false = ({ (tDrop { s with F := (tSetR s frame false).l } (j : Int)).1 with M := putE (tDrop { s with F := (tSetR s frame false).l } (j : Int)).1.M (s.P.getD (1 + (j : Int).toNat / 16) 0) (((j : Int).toNat % 16 : Nat) : Int) ⟨frame, true, false, true⟩ }, 0)) := Lib.hid (by unfold tSet; rw [if_pos hc])
    rw [HR.out, Int.toNat_natCast]
    obtain ⟨R, hR⟩ : ∃ R, tSetR s frame false = R := ⟨_, rfl⟩
    rw [hR] at HU HI1 hc ⊢
    obtain ⟨Rl, Rn, Rc⟩ := R
    dsimp only at hc HI1 ⊢
    subst hc
    have HDP := Lib.hid (tDrop_P { s with F := Rl } (j : Int))
    have HI2 := Lib.hid (tDrop_inv HI1.out (j : Int))
    have h1 := hi.pin (1 + j / 16) (by have := hi.p17; omega)
    have hn := hi.n1
    have HP17 := Lib.hid hi.p17
    obtain ⟨⟨S2, x2⟩, hS2⟩ : ∃ r, tDrop { s with F := Rl } (j : Int) = r := ⟨_, rfl⟩
    have HTD : Hid (∀ wx, Only p.zw w wx → PtAt wx p { s with F := Rl } → Calls Tryz.prog 39 #[.pointer (some ⟨p.tb, 0, none⟩), .int .i64 (j : Int)] wx (PtQ E p (S2, x2) wx)) := Lib.hid fun wx ho hx => hS2 ▸ tdrop_any E p { s with F := Rl } (m + 1) (j : Int) wx (HEE.out.next ho) hx HI1.out hm
    rw [hS2] at HDP HI2 ⊢
    dsimp only at HDP HI2 ⊢
    obtain ⟨a, k, r, ha, hk, hr, wq, wq', wq1, wr, wi0, wi1, hr16⟩ := page_parts j hj
    rw [ha, hk] at h1 ⊢
    rw [hr]
    obtain ⟨t1, ht1⟩ : ∃ x, s.P.getD k 0 = x := ⟨_, rfl⟩
    rw [ht1] at h1 ⊢
    have HT1 := Lib.hid ht1
    have hb16 : 0 ≤ t1 ∧ t1 < 1024 := by omega
    clear hE h hi HR h1 hn hR hS2 ht1 hj ha hk hr
    go_enter Tryz.func71, Tryz.ntmps71
    go_wp2_with fail
    refine HU.out.mono ?_
    rintro y w3 ⟨rfl, hf3, ho3⟩
    have HO3 := Lib.hid (zw_f ho3)
    have HH3 : Hid (PtAt w3 p { s with F := Rl }) := Lib.hid (HH.out.fr' ho3 hf3)
    clear hf3 ho3 c1 ltb
    unfold errC
    rw [if_pos rfl]
    go_wp2_with fail
    refine (HTD.out _ HO3.out HH3.out).mono ?_
    rintro y w4 ⟨rfl, hp4, ho4⟩
    have HH4 : Hid (PtAt w4 p S2) := Lib.hid hp4
    have HO4 := Lib.hid (HO3.out.trans ho4)
    obtain ⟨c0, -, -, -, c4⟩ := HH4.out.cells
    obtain ⟨g, cap, hl, hg, hcell⟩ := HH4.out.list (by rw [HDP.out.1]; exact HP17.out)
    rw [hl] at c4
    have ct1 : w4.cell? ⟨g, k, none⟩ = some (.int .i64 t1) := (hcell k (by omega)).trans (by rw [HDP.out.1, ← HT1.out])
    have ltb := blk_lt HH4.out.row
    have HW : Hid (∀ wx, Below w4.heap.size w4 wx → Calls Tryz.prog 53 #[.pointer (some ⟨p.mb, 0, none⟩), .int .i64 t1, .int .i64 (r : Int), .agg #[.int .i64 frame, .bool true, .bool false, .bool true]] wx fun y w' => y = .returned (.tuple #[]) ∧ MAt w' p.mb p.mv S2.n (putE S2.M t1 (r : Int) ⟨frame, true, false, true⟩) ∧ Only (fun k => inRow p.mv k) wx w') := Lib.hid fun wx hx => twrite_any S2.M p.mb S2.n p.mv t1 (r : Int) ⟨frame, true, false, true⟩ wx (HH4.out.below hx).mem hb16 (by omega)
    clear hp4 ho4 hl hcell hb16 hr16
    go_wp2_with fail
    go_region_with (first | (go_at_call 53; refine (HW.out _ (by first | exact (Below.refl _ _).drew | exact Below.refl _ _)).mono ?_; rintro e w5 ⟨rfl, hm5, ho5⟩))
    all_goals
      have HO5 := Lib.hid (HO4.out.trans ((Only.refl _ _).drew.trans (zw_m ho5)))
      have HH5 := Lib.hid ((HH4.out.below (Below.refl _ _).drew).mem' ho5 hm5)
      clear hm5 ho5
      go_wp2
      go_ret
      exact ⟨rfl, HH5.out, HO5.out⟩
  · have HR : Hid (tSet s (j : Int) frame false = (s, (tSetR s frame false).c)) := Lib.hid (by unfold tSet; rw [if_neg hc])
    have HS := Lib.hid (tSetR_same s frame false hc)
    rw [HR.out]
    obtain ⟨R, hR⟩ : ∃ R, tSetR s frame false = R := ⟨_, rfl⟩
    rw [hR] at HU HS hc ⊢
    clear hE h hi HR hR HI1
    go_enter Tryz.func71, Tryz.ntmps71
    go_wp2_with fail
    refine HU.out.mono ?_
    rintro y w3 ⟨rfl, hf3, ho3⟩
    have HO3 := Lib.hid (zw_f ho3)
    have HH3 : Hid (PtAt w3 p s) := Lib.hid (HH.out.fr' ho3 (HS.out ▸ hf3))
    have HEC : Hid (errC E R.c = errV (E (R.c - 101).toNat)) := Lib.hid (by unfold errC; rw [if_neg hc])
    clear hf3 ho3 c1 ltb hc
    rw [HEC.out]
    go_wp2
    go_ret
    exact ⟨by rw [HEC.out]; rfl, HH3.out, HO3.out⟩

set_option maxRecDepth 100000 in
set_option maxHeartbeats 16000000 in
theorem tset_true (E : Nat → Addr) (p : Pl) (s : Ts) (m : Int) (j : Nat) (frame : Int) (w : World) (hE : ErrsK E p w) (h : PtAt w p s) (hi : TInv m s) (hm : m + 1 ≤ 1000000) (hj : j < 256) :
    Calls Tryz.prog 71 #[.pointer (some ⟨p.tb, 0, none⟩), .int .i64 (j : Int), .int .i64 frame, .bool true] w (PtQ E p (tSet s (j : Int) frame true) w) := by
  have HH := Lib.hid h
  have HEE := Lib.hid hE
  have HU : Hid (Calls Tryz.prog 95 #[.pointer (some ⟨p.fb, 0, none⟩), .int .i64 frame] w (FrQ 99 69 E p.fb p.fg s.n (tSetR s frame true) w)) := Lib.hid (fwrite_any E s.F p.fb p.fg s.n frame w (frOk_b hi.fok (by omega)) (hE _ (Only.refl _ _)) h.fr)
  have HI1 := Lib.hid (tSetR_inv hi frame true)
  obtain ⟨-, c1, -, -, -⟩ := h.cells
  have ltb := blk_lt h.row
  by_cases hc : (tSetR s frame true).c = 0
  · have HR : Hid (tSet s (j : Int) frame true = ({ (tDrop { s with F := (tSetR s frame true).l } (j : Int)).1 with M := putE (tDrop { s with F := (tSetR s frame true).l } (j : Int)).1.M (s.P.getD (1 + (j : Int).toNat / 16) 0) (((j : Int).toNat % 16 : Nat) : Int) ⟨frame, true, true, true⟩ }, 0)) := Lib.hid (by unfold tSet; rw [if_pos hc])
    rw [HR.out, Int.toNat_natCast]
    obtain ⟨R, hR⟩ : ∃ R, tSetR s frame true = R := ⟨_, rfl⟩
    rw [hR] at HU HI1 hc ⊢
    obtain ⟨Rl, Rn, Rc⟩ := R
    dsimp only at hc HI1 ⊢
    subst hc
    have HDP := Lib.hid (tDrop_P { s with F := Rl } (j : Int))
    have HI2 := Lib.hid (tDrop_inv HI1.out (j : Int))
    have h1 := hi.pin (1 + j / 16) (by have := hi.p17; omega)
    have hn := hi.n1
    have HP17 := Lib.hid hi.p17
    obtain ⟨⟨S2, x2⟩, hS2⟩ : ∃ r, tDrop { s with F := Rl } (j : Int) = r := ⟨_, rfl⟩
    have HTD : Hid (∀ wx, Only p.zw w wx → PtAt wx p { s with F := Rl } → Calls Tryz.prog 39 #[.pointer (some ⟨p.tb, 0, none⟩), .int .i64 (j : Int)] wx (PtQ E p (S2, x2) wx)) := Lib.hid fun wx ho hx => hS2 ▸ tdrop_any E p { s with F := Rl } (m + 1) (j : Int) wx (HEE.out.next ho) hx HI1.out hm
    rw [hS2] at HDP HI2 ⊢
    dsimp only at HDP HI2 ⊢
    obtain ⟨a, k, r, ha, hk, hr, wq, wq', wq1, wr, wi0, wi1, hr16⟩ := page_parts j hj
    rw [ha, hk] at h1 ⊢
    rw [hr]
    obtain ⟨t1, ht1⟩ : ∃ x, s.P.getD k 0 = x := ⟨_, rfl⟩
    rw [ht1] at h1 ⊢
    have HT1 := Lib.hid ht1
    have hb16 : 0 ≤ t1 ∧ t1 < 1024 := by omega
    clear hE h hi HR h1 hn hR hS2 ht1 hj ha hk hr
    go_enter Tryz.func71, Tryz.ntmps71
    go_wp2_with fail
    refine HU.out.mono ?_
    rintro y w3 ⟨rfl, hf3, ho3⟩
    have HO3 := Lib.hid (zw_f ho3)
    have HH3 : Hid (PtAt w3 p { s with F := Rl }) := Lib.hid (HH.out.fr' ho3 hf3)
    clear hf3 ho3 c1 ltb
    unfold errC
    rw [if_pos rfl]
    go_wp2_with fail
    refine (HTD.out _ HO3.out HH3.out).mono ?_
    rintro y w4 ⟨rfl, hp4, ho4⟩
    have HH4 : Hid (PtAt w4 p S2) := Lib.hid hp4
    have HO4 := Lib.hid (HO3.out.trans ho4)
    obtain ⟨c0, -, -, -, c4⟩ := HH4.out.cells
    obtain ⟨g, cap, hl, hg, hcell⟩ := HH4.out.list (by rw [HDP.out.1]; exact HP17.out)
    rw [hl] at c4
    have ct1 : w4.cell? ⟨g, k, none⟩ = some (.int .i64 t1) := (hcell k (by omega)).trans (by rw [HDP.out.1, ← HT1.out])
    have ltb := blk_lt HH4.out.row
    have HW : Hid (∀ wx, Below w4.heap.size w4 wx → Calls Tryz.prog 53 #[.pointer (some ⟨p.mb, 0, none⟩), .int .i64 t1, .int .i64 (r : Int), .agg #[.int .i64 frame, .bool true, .bool true, .bool true]] wx fun y w' => y = .returned (.tuple #[]) ∧ MAt w' p.mb p.mv S2.n (putE S2.M t1 (r : Int) ⟨frame, true, true, true⟩) ∧ Only (fun k => inRow p.mv k) wx w') := Lib.hid fun wx hx => twrite_any S2.M p.mb S2.n p.mv t1 (r : Int) ⟨frame, true, true, true⟩ wx (HH4.out.below hx).mem hb16 (by omega)
    clear hp4 ho4 hl hcell hb16 hr16
    go_wp2_with fail
    go_region_with (first | (go_at_call 53; refine (HW.out _ (by first | exact (Below.refl _ _).drew | exact Below.refl _ _)).mono ?_; rintro e w5 ⟨rfl, hm5, ho5⟩))
    all_goals
      have HO5 := Lib.hid (HO4.out.trans ((Only.refl _ _).drew.trans (zw_m ho5)))
      have HH5 := Lib.hid ((HH4.out.below (Below.refl _ _).drew).mem' ho5 hm5)
      clear hm5 ho5
      go_wp2
      go_ret
      exact ⟨rfl, HH5.out, HO5.out⟩
  · have HR : Hid (tSet s (j : Int) frame true = (s, (tSetR s frame true).c)) := Lib.hid (by unfold tSet; rw [if_neg hc])
    have HS := Lib.hid (tSetR_same s frame true hc)
    rw [HR.out]
    obtain ⟨R, hR⟩ : ∃ R, tSetR s frame true = R := ⟨_, rfl⟩
    rw [hR] at HU HS hc ⊢
    clear hE h hi HR hR HI1
    go_enter Tryz.func71, Tryz.ntmps71
    go_wp2_with fail
    refine HU.out.mono ?_
    rintro y w3 ⟨rfl, hf3, ho3⟩
    have HO3 := Lib.hid (zw_f ho3)
    have HH3 : Hid (PtAt w3 p s) := Lib.hid (HH.out.fr' ho3 (HS.out ▸ hf3))
    have HEC : Hid (errC E R.c = errV (E (R.c - 101).toNat)) := Lib.hid (by unfold errC; rw [if_neg hc])
    clear hf3 ho3 c1 ltb hc
    rw [HEC.out]
    go_wp2
    go_ret
    exact ⟨by rw [HEC.out]; rfl, HH3.out, HO3.out⟩

end Go.Proofs.YtaoaachgnnengaaGreatDoor

/-
  pt.Tables.Add.
-/
namespace Go.Proofs.YtaoaachgnnengaaGreatDoor
open Go.RowKit

set_option maxHeartbeats 400000 in
theorem pm_full (l : List Int) (b : Nat) (v : Value) (w : World) (h : PAt w b v l) : Calls Tryz.prog 68 #[.pointer (some ⟨b, 0, none⟩)] w fun e w' => e = .returned (.bool (decide (512 ≤ l.length))) ∧ w = w' := by
  have c := h.cell
  obtain ⟨ao, cap, rfl, -⟩ := h.slice
  have HD : Hid (decide ((512 : Int) ≤ (l.length : Int)) = decide (512 ≤ l.length)) := Lib.hid (by simp only [decide_eq_decide]; omega)
  clear h
  go_enter Tryz.func68, Tryz.ntmps68
  go_wp2
  go_ret
  exact ⟨by rw [← HD.out]; rfl, rfl⟩

/-- what Add answers -/
def AddQ (E : Nat → Addr) (p : Pl) (s : Ts) (w : World) (e : Ending) (w' : World) : Prop := ∃ pv', e = .returned (.tuple #[.int .i64 (tAdd s).2.1, errC E (tAdd s).2.2]) ∧ PtAt w' { p with pv := pv' } (tAdd s).1 ∧ Only p.zw w w' ∧ ∀ k, inRow pv' k → inRow p.pv k ∨ w.heap.size ≤ k
theorem frAlloc_ok {F : List Fr} {who : Int} (h : (frAlloc F who).c = 0) : ∃ i, i < F.length ∧ (F.getD i default).owner = -1 ∧ frAlloc F who = ⟨F.set i ⟨who, (F.getD i default).kind, (F.getD i default).wr, (F.getD i default).us⟩, (i : Int), 0⟩ := by
  unfold frAlloc at h ⊢
  split
  · rename_i hw
    rw [if_pos hw] at h
    cases hf : frFree F with
    | none => rw [hf] at h; exact absurd (show (113 : Int) = 0 from h) (by decide)
    | some i =>
      obtain ⟨h1, h2, -⟩ := frFree_some hf
      exact ⟨i, h1, h2, rfl⟩
  · rename_i hw
    rw [if_neg hw] at h
    exact absurd (show (103 : Int) = 0 from h) (by decide)
/-- the map has another one -/
theorem PtAt.pm' {w w' : World} {p : Pl} {s : Ts} {P' : List Int} {pv' : Value} (h : PtAt w p s) (ho : Only (fun k => k = p.pb ∨ inRow p.pv k) w w') (hm : PAt w' p.pb pv' P') (hr : ∀ k, inRow pv' k → inRow p.pv k ∨ w.heap.size ≤ k) (hT : P'.take 17 = s.P.take 17) : PtAt w' { p with pv := pv' } { s with P := P' } := by
  have hz3 : ∀ k, Pl.z3 { p with pv := pv' } k → p.z3 k ∨ w.heap.size ≤ k := fun k hk => by
    rcases hk with hk | hk
    · exact .inl (.inl hk)
    · rcases hr k hk with h | h
      · exact .inl (.inr h)
      · exact .inr h
  have lt0 : ∀ k, p.z0 k → k < w.heap.size := fun k hk => by
    rcases hk with rfl | rfl | rfl | hk
    · exact blk_lt h.row
    · exact blk_lt h.mem.1
    · exact h.fr.lt.1
    · exact own_lt h.tl hk
  exact ⟨ho.blk h.row (fun h' => h.apart.a03 p.tb (.inl rfl) h'), h.mem.only ho (fun h' => h.apart.a03 p.mb (.inr (.inl rfl)) h') (fun k hk h' => h.apart.a13 _ hk h'), h.fr.only ho (fun h' => h.apart.a03 p.fb (.inr (.inr (.inl rfl))) h') (fun h' => h.apart.a23 p.fg rfl h'), hm, by
      show w'.ownsRow 0 3 1 p.lv 17 (ints (P'.take 17))
      rw [hT]
      exact own_only h.tl ho (fun k hk h' => h.apart.a03 k (.inr (.inr (.inr hk))) h'),
    ⟨h.apart.a01, h.apart.a02, fun k h0 h3 => by
      rcases hz3 k h3 with h' | h'
      · exact h.apart.a03 k h0 h'
      · have := lt0 k h0; omega, h.apart.a12, fun k h0 h3 => by
      rcases hz3 k h3 with h' | h'
      · exact h.apart.a13 k h0 h'
      · have := own_lt h.mem.2.1 (show inRow p.mv k from h0); omega, fun k h0 h3 => by
      rcases hz3 k h3 with h' | h'
      · exact h.apart.a23 k h0 h'
      · have := h.fr.lt.2; rw [show k = p.fg from h0] at h'; omega⟩⟩
theorem set_owner (F : List Fr) (i : Nat) (x : Fr) (hi : i < F.length) (j : Nat) : ((F.set i x).getD j default).owner = if j = i then x.owner else (F.getD j default).owner := by
  rw [List.getD_eq_getElem?_getD, List.getElem?_set]
  by_cases h : i = j
  · subst h
    simp [hi]
  · rw [if_neg h, if_neg (fun e => h e.symm), ← List.getD_eq_getElem?_getD]
theorem tAdd_inv {m : Int} {s : Ts} (h : TInv m s) (hw : s.who ≠ -1) : TInv (m + 1) (tAdd s).1 := by
  unfold tAdd
  split
  · exact h.mono
  · rename_i hl
    split
    · rename_i hc
      obtain ⟨i, hi, ho, hR⟩ := frAlloc_ok hc
      have hRR : tAddR s = _ := hR
      have hin := frAlloc_in h.fok s.who
      have hP : ∀ j, j < s.P.length → (s.P.getD j 0).toNat ≠ i := fun j hj e => (h.pin j hj).2.2 (e ▸ ho)
      have hgP : ∀ j, (s.P ++ [(i : Int)]).getD j 0 = if j < s.P.length then s.P.getD j 0 else if j = s.P.length then (i : Int) else 0 := fun j => by
        rw [List.getD_eq_getElem?_getD, List.getElem?_append]
        split
        · rw [List.getD_eq_getElem?_getD]
        · rename_i hj
          by_cases e : j = s.P.length
          · subst e; simp
          · rw [if_neg e, List.getElem?_eq_none (by simp; omega)]
            rfl
      rw [hRR]
      have hlf := h.lf
      have hfl : ∀ t, (fillL s.M i []).getD t 0 = if 16 * i ≤ t ∧ t < 16 * i + 16 then 0 else s.M.getD t 0 := fun t => by
        rw [fillL_get s.M s.n i [] t h.lm (by omega) (by decide)]
        split
        · simp
        · rfl
      refine ⟨h.n1, ?_, ?_, fun j => ?_, ?_, ?_, ?_, fun j hj => ?_, fun j k hj hk e => ?_, fun k hk => ?_⟩
      · show (fillL s.M i []).length = _
        rw [fillL_len]; exact h.lm
      · show (s.F.set i _).length = _
        rw [List.length_set]; exact h.lf
      · show W32 ((fillL s.M i []).getD j 0)
        rw [hfl]
        split
        · exact w32_zero
        · exact h.w32 j
      · have := hin
        rw [show frAlloc s.F s.who = _ from hR] at this
        exact this
      · show 17 ≤ (s.P ++ [(i : Int)]).length
        rw [List.length_append]; have := h.p17; omega
      · show (s.P ++ [(i : Int)]).length ≤ 512
        rw [List.length_append]; simp; omega
      · have hj' : j < s.P.length + 1 := by have := hj; simp at this; exact this
        show 0 ≤ (s.P ++ [(i : Int)]).getD j 0 ∧ (s.P ++ [(i : Int)]).getD j 0 < (s.n : Int) ∧ ((s.F.set i _).getD ((s.P ++ [(i : Int)]).getD j 0).toNat default).owner ≠ -1
        rw [hgP j]
        by_cases hjl : j < s.P.length
        · rw [if_pos hjl]
          have hp := h.pin j hjl
          refine ⟨hp.1, hp.2.1, ?_⟩
          rw [set_owner _ _ _ hi, if_neg (hP j hjl)]
          exact hp.2.2
        · rw [if_neg hjl, if_pos (by omega)]
          refine ⟨by omega, by omega, ?_⟩
          rw [Int.toNat_natCast, set_owner _ _ _ hi, if_pos rfl]
          exact hw
      · have hj' : j < s.P.length + 1 := by have := hj; simp at this; exact this
        have hk' : k < s.P.length + 1 := by have := hk; simp at this; exact this
        have e' : (s.P ++ [(i : Int)]).getD j 0 = (s.P ++ [(i : Int)]).getD k 0 := e
        rw [hgP j, hgP k] at e'
        by_cases hjl : j < s.P.length
        · rw [if_pos hjl] at e'
          by_cases hkl : k < s.P.length
          · rw [if_pos hkl] at e'
            exact h.pne j k hjl hkl e'
          · rw [if_neg hkl, if_pos (by omega)] at e'
            exact absurd (by rw [e']; simp) (hP j hjl)
        · rw [if_neg hjl, if_pos (by omega)] at e'
          by_cases hkl : k < s.P.length
          · rw [if_pos hkl] at e'
            exact absurd (by rw [← e']; simp) (hP k hkl)
          · omega
      · have h17 := h.p17
        show (fillL s.M i []).getD (16 * ((s.P ++ [(i : Int)]).getD 0 0).toNat + k) 0 = entW ((s.P ++ [(i : Int)]).getD (k + 1) 0) true true true
        rw [hgP 0, hgP (k + 1), if_pos (by omega), if_pos (by omega), hfl, if_neg (by have := hP 0 (by omega); omega)]
        exact h.root k hk
    · exact h.mono

set_option maxRecDepth 100000 in
set_option maxHeartbeats 6400000 in
theorem tadd_many (E : Nat → Addr) (p : Pl) (s : Ts) (w : World) (hE : ErrsK E p w) (h : PtAt w p s) (hl : 512 ≤ s.P.length) :
    Calls Tryz.prog 33 #[.pointer (some ⟨p.tb, 0, none⟩)] w (AddQ E p s w) := by
  have HR : Hid (tAdd s = (s, 0, 104)) := Lib.hid (by unfold tAdd; rw [if_pos hl])
  unfold AddQ
  rw [HR.out]
  have HH := Lib.hid h
  have HF := Lib.hid (pm_full s.P p.pb p.pv w h.pm)
  rw [decide_eq_true hl] at HF
  have e3 : w.cell? ⟨2, 0, none⟩ = some (errV (E 3)) := ((hE w (Only.refl _ _)).1 3 (by decide)).1
  have g3 := World.block_lt_of_cell? _ _ e3
  obtain ⟨-, -, -, c3, -⟩ := h.cells
  clear hE h hl HR
  go_enter Tryz.func33, Tryz.ntmps33
  go_wp2_with fail
  refine HF.out.mono ?_
  rintro y w1 ⟨rfl, rfl⟩
  go_wp2_with fail
  go_quiet (fail)
  go_wp2
  go_ret2
  exact ⟨p.pv, rfl, HH.out.below (below_drewN (Below.refl _ _) _), Only.of_below (below_drewN (Below.refl _ _) _), fun _ h => .inl h⟩

set_option maxRecDepth 100000 in
set_option maxHeartbeats 6400000 in
theorem tadd_no (E : Nat → Addr) (p : Pl) (s : Ts) (w : World) (hE : ErrsK E p w) (h : PtAt w p s) (hl : ¬ 512 ≤ s.P.length) (hc : (tAddR s).c ≠ 0) :
    Calls Tryz.prog 33 #[.pointer (some ⟨p.tb, 0, none⟩)] w (AddQ E p s w) := by
  have HR : Hid (tAdd s = (s, 0, (tAddR s).c)) := Lib.hid (by unfold tAdd; rw [if_neg hl, if_neg hc])
  have hFs : (tAddR s).l = s.F := by
    unfold tAddR frAlloc at hc ⊢
    split
    · rename_i hw
      rw [if_pos hw] at hc
      cases hf : frFree s.F with
      | none => rfl
      | some i => rw [hf] at hc; exact absurd rfl hc
    · rfl
  unfold AddQ
  rw [HR.out]
  have HH := Lib.hid h
  have HF := Lib.hid (pm_full s.P p.pb p.pv w h.pm)
  rw [decide_eq_false hl] at HF
  have HA : Hid (∀ wx, Below w.heap.size w wx → Calls Tryz.prog 19 #[.pointer (some ⟨p.fb, 0, none⟩), .int .i64 s.who] wx (FrQA 99 69 E p.fb p.fg s.n (tAddR s) wx)) := Lib.hid fun wx hx => falloc_any E s.F p.fb p.fg s.n s.who wx (hE wx (Only.of_below hx)) (h.below hx).fr
  have HFS := Lib.hid hFs
  obtain ⟨R, hR⟩ : ∃ R, tAddR s = R := ⟨_, rfl⟩
  rw [hR] at HA HFS hc ⊢
  have HEC : Hid (errC E R.c = errV (E (R.c - 101).toNat)) := Lib.hid (by unfold errC; rw [if_neg hc])
  obtain ⟨-, c1, c2, c3, -⟩ := h.cells
  have ltb := blk_lt h.row
  clear hE h hl HR hFs hR hc
  go_enter Tryz.func33, Tryz.ntmps33
  go_wp2_with fail
  refine HF.out.mono ?_
  rintro y w1 ⟨rfl, rfl⟩
  go_wp2_with fail
  go_region_with (first | (go_at_call 19; refine (HA.out _ (by first | exact (Below.refl _ _).drew | exact Below.refl _ _)).mono ?_; rintro e w2 ⟨rfl, hf2, ho2⟩))
  all_goals
    have HH2 : Hid (PtAt w2 p s) := Lib.hid ((HH.out.below (Below.refl _ _).drew).fr' ho2 (HFS.out ▸ hf2))
    have HO2 : Hid (Only p.zw w w2) := Lib.hid ((Only.refl _ _).drew.trans (zw_f ho2))
    clear hf2 ho2
    try rw [HEC.out]
    go_wp2_with fail
    go_wp2
    go_ret2
    exact ⟨p.pv, by rw [HEC.out]; rfl, HH2.out, HO2.out, fun _ h => .inl h⟩

set_option maxRecDepth 100000 in
set_option maxHeartbeats 16000000 in
theorem tadd_ok (E : Nat → Addr) (p : Pl) (s : Ts) (m : Int) (w : World) (hE : ErrsK E p w) (h : PtAt w p s) (hi : TInv m s) (hl : ¬ 512 ≤ s.P.length) (hc : (tAddR s).c = 0) :
    Calls Tryz.prog 33 #[.pointer (some ⟨p.tb, 0, none⟩)] w (AddQ E p s w) := by
  obtain ⟨i, hil, ho, hR0⟩ := frAlloc_ok hc
  obtain ⟨F1, hF1⟩ : ∃ F1, s.F.set i ⟨s.who, (s.F.getD i default).kind, (s.F.getD i default).wr, (s.F.getD i default).us⟩ = F1 := ⟨_, rfl⟩
  rw [hF1] at hR0
  have hR : tAddR s = ⟨F1, (i : Int), 0⟩ := hR0
  have HR : Hid (tAdd s = ({ s with F := F1, M := fillL s.M i [], P := s.P ++ [(i : Int)] }, (s.P.length : Int), 0)) := Lib.hid (by unfold tAdd; rw [if_neg hl, hR, if_pos rfl]; rfl)
  have hin : i < s.n := by rw [← hi.lf]; exact hil
  have hn1 := hi.n1
  have hnot : (i : Int) ∉ s.P := fun hmem => by
    obtain ⟨j, hj, e⟩ := mem_getD.1 hmem
    have := (hi.pin j hj).2.2
    rw [e, Int.toNat_natCast] at this
    exact this ho
  unfold AddQ
  rw [HR.out]
  have HH := Lib.hid h
  have HF := Lib.hid (pm_full s.P p.pb p.pv w h.pm)
  rw [decide_eq_false hl] at HF
  have HA : Hid (∀ wx, Below w.heap.size w wx → Calls Tryz.prog 19 #[.pointer (some ⟨p.fb, 0, none⟩), .int .i64 s.who] wx (FrQA 99 69 E p.fb p.fg s.n ⟨F1, (i : Int), 0⟩ wx)) := Lib.hid fun wx hx => hR0 ▸ falloc_any E s.F p.fb p.fg s.n s.who wx (hE wx (Only.of_below hx)) (h.below hx).fr
  have HFL : Hid (∀ wx, MAt wx p.mb p.mv s.n s.M → Calls Tryz.prog 50 #[.pointer (some ⟨p.mb, 0, none⟩), .int .i64 (i : Int), .slice none 0 0] wx fun e w' => e = .returned (.bool true) ∧ MAt w' p.mb p.mv s.n (fillL s.M i []) ∧ Only (fun k => inRow p.mv k) wx w') := Lib.hid fun wx hx => mm_fill_ok s.M [] p.mb s.n i 0 0 none p.mv wx hx hn1 hin (atL_nil _ _) rfl (by decide) (fun a h => by omega)
  have hfair : fairP (i : Int) = true := by simp [fairP]; omega
  have HAD : Hid (∀ wx, PAt wx p.pb p.pv s.P → Calls Tryz.prog 54 #[.pointer (some ⟨p.pb, 0, none⟩), .int .i64 (i : Int)] wx fun e w' => e = .returned (.tuple #[.int .i64 s.P.length, .nilIface]) ∧ ∃ v', PAt w' p.pb v' (s.P ++ [(i : Int)]) ∧ Only (fun k => k = p.pb ∨ inRow p.pv k) wx w' ∧ ∀ k, inRow v' k → inRow p.pv k ∨ wx.heap.size ≤ k) := Lib.hid fun wx hx => add_ok s.P p.pb p.pv (i : Int) wx hx hfair hnot (by omega)
  have HT : Hid ((s.P ++ [(i : Int)]).take 17 = s.P.take 17) := Lib.hid (by rw [List.take_append_of_le_length hi.p17])
  obtain ⟨-, c1, c2, c3, -⟩ := h.cells
  have ltb := blk_lt h.row
  clear hE h hi hl hc hil ho hR0 hF1 hR HR hin hn1 hnot hfair
  go_enter Tryz.func33, Tryz.ntmps33
  go_wp2_with fail
  refine HF.out.mono ?_
  rintro y w1 ⟨rfl, rfl⟩
  go_wp2_with fail
  go_region_with (first | (go_at_call 19; refine (HA.out _ (by first | exact (Below.refl _ _).drew | exact Below.refl _ _)).mono ?_; rintro e w2 ⟨rfl, hf2, ho2⟩))
  all_goals
    have HH2 : Hid (PtAt w2 p { s with F := F1 }) := Lib.hid ((HH.out.below (Below.refl _ _).drew).fr' ho2 hf2)
    have HO2 : Hid (Only p.zw w w2) := Lib.hid ((Only.refl _ _).drew.trans (zw_f ho2))
    obtain ⟨d0, -, -, d3, -⟩ := HH2.out.cells
    have ltb2 := blk_lt HH2.out.row
    clear hf2 ho2 c1 c2 c3
    try unfold errC
    try rw [if_pos rfl]
    go_wp2_with fail
    refine (HFL.out _ HH2.out.mem).mono ?_
    rintro y w3 ⟨rfl, hm3, ho3⟩
    have HH3 := Lib.hid (HH2.out.mem' ho3 hm3)
    have HO3 := Lib.hid (HO2.out.trans (zw_m ho3))
    obtain ⟨-, -, -, q3, -⟩ := HH3.out.cells
    have ltb3 := blk_lt HH3.out.row
    clear hm3 ho3 d0 d3
    go_wp2_with fail
    refine (HAD.out _ HH3.out.pm).mono ?_
    rintro y w4 ⟨rfl, v', hp4, ho4, hr4⟩
    have HH4 := Lib.hid (HH3.out.pm' ho4 hp4 hr4 HT.out)
    have HO4 : Hid (Only p.zw w w4) := Lib.hid (HO3.out.trans (ho4.mono fun k hk => .inl (by rcases hk with hk | hk; exact .inr (.inr (.inl hk)); exact .inr (.inr (.inr hk)))))
    have HR4 : Hid (∀ k, inRow v' k → inRow p.pv k ∨ w.heap.size ≤ k) := Lib.hid fun k hk => by
      rcases hr4 k hk with h | h
      · exact .inl h
      · exact .inr (Nat.le_trans HO3.out.size h)
    clear hp4 ho4 hr4 q3
    go_wp2
    go_ret2
    exact ⟨v', rfl, HH4.out, HO4.out, HR4.out⟩
theorem tadd_any (E : Nat → Addr) (p : Pl) (s : Ts) (m : Int) (w : World) (hE : ErrsK E p w) (h : PtAt w p s) (hi : TInv m s) :
    Calls Tryz.prog 33 #[.pointer (some ⟨p.tb, 0, none⟩)] w (AddQ E p s w) := by
  by_cases hl : 512 ≤ s.P.length
  · exact tadd_many E p s w hE h hl
  · by_cases hc : (tAddR s).c = 0
    · exact tadd_ok E p s m w hE h hi hl hc
    · exact tadd_no E p s w hE h hl hc
end Go.Proofs.YtaoaachgnnengaaGreatDoor

/-
  slices.Equal at words: are two lists the same?
-/
namespace Go.Proofs.YtaoaachgnnengaaGreatDoor
open Go.RowKit

/-- the first k are the same -/
def EqWordsTo (xs ys : List Int) (w : World) (i : Value) (wr : World) : Prop := ∃ k : Nat, k ≤ xs.length ∧ i = .int .i64 k ∧ xs.take k = ys.take k ∧ ∃ n, wr = w.drewN n
end Go.Proofs.YtaoaachgnnengaaGreatDoor

/-
  mem.Differ: the frames that differ.
-/
namespace Go.Proofs.YtaoaachgnnengaaGreatDoor
open Go.RowKit

theorem infoMInt : (Tryz.prog.info? 3).map (fun i => (i.zero, i.size, i.bytes)) = some (some (.int .i64 0), 1, 8) := by kernel_rfl

def fw (l : List Int) (n f : Nat) : List Int := if f < n then frameW l f else []

theorem mm_frame_any (l : List Int) (b n f : Nat) (v : Value) (w : World) (h : MAt w b v n l) (hn : n ≤ 1024) :
    Calls Tryz.prog 25 #[.pointer (some ⟨b, 0, none⟩), .int .i64 f] w fun e w' => ∃ av cap, e = .returned (.tuple #[.slice av (fw l n f).length cap, .bool (decide (f < n))]) ∧ AtL w' av (u32s (fw l n f)) ∧ Below w.heap.size w w' := by
  by_cases hf : f < n
  · refine (mm_frame l b n f v w h hn hf).mono ?_
    rintro e w' ⟨v', rfl, ho, -, hb⟩
    obtain ⟨av, cap, rfl, hat⟩ := atL_of_own ho
    have e1 : fw l n f = frameW l f := by unfold fw; rw [if_pos hf]
    rw [e1, frameW_len l n f h.2.2 hf, decide_eq_true hf]
    exact ⟨av, cap, rfl, hat, hb⟩
  · refine (mm_frame_none l b n v f w h hn (.inr (by omega))).mono ?_
    rintro e w' ⟨rfl, rfl⟩
    have e1 : fw l n f = [] := by unfold fw; rw [if_neg hf]
    rw [e1, decide_eq_false hf]
    exact ⟨none, 0, rfl, atL_nil _ _, Below.refl _ _⟩

def dif (l1 : List Int) (n1 : Nat) (l2 : List Int) (n2 f : Nat) : Bool := (decide (f < n1) != decide (f < n2)) || !decide (fw l1 n1 f = fw l2 n2 f)
def difL (l1 : List Int) (n1 : Nat) (l2 : List Int) (n2 k : Nat) : List Int := ((List.range k).filter (dif l1 n1 l2 n2)).map fun (f : Nat) => (f : Int)
theorem difL_succ (l1 : List Int) (n1 : Nat) (l2 : List Int) (n2 k : Nat) : difL l1 n1 l2 n2 (k + 1) = if dif l1 n1 l2 n2 k then difL l1 n1 l2 n2 k ++ [(k : Int)] else difL l1 n1 l2 n2 k := by
  unfold difL
  rw [List.range_succ, List.filter_append, List.map_append]
  cases h : dif l1 n1 l2 n2 k <;> simp [h]
theorem difL_len (l1 : List Int) (n1 : Nat) (l2 : List Int) (n2 k : Nat) : (difL l1 n1 l2 n2 k).length ≤ k := by
  unfold difL
  rw [List.length_map]
  exact Nat.le_trans (List.length_filter_le _ _) (by simp)
end Go.Proofs.YtaoaachgnnengaaGreatDoor

/-
  mem.Differ: the frames that differ.
-/
namespace Go.Proofs.YtaoaachgnnengaaGreatDoor
open Go.RowKit

def DiffTo (l1 : List Int) (n1 : Nat) (l2 : List Int) (n2 : Nat) (w : World) (v i : Value) (wr : World) : Prop :=
  ∃ k : Nat, k ≤ max n1 n2 ∧ i = .int .i64 k ∧ wr.ownsRow 0 3 1 v (difL l1 n1 l2 n2 k).length (ints (difL l1 n1 l2 n2 k)) ∧ (∀ j, inRow v j → w.heap.size ≤ j) ∧ Below w.heap.size w wr ∧ ∃ ao cap, v = .slice ao (difL l1 n1 l2 n2 k).length cap
end Go.Proofs.YtaoaachgnnengaaGreatDoor

/-
  mem.Mem: the chapter's examples; what differs where one frame was filled.
-/
namespace Go.Proofs.YtaoaachgnnengaaGreatDoor
open Go.RowKit

theorem mm_write_in (l : List Int) (b n j : Nat) (v : Value) (x : Int) (w : World) (h : MAt w b v n l) (hj : j < 16 * n) :
    Calls Tryz.prog 76 #[.pointer (some ⟨b, 0, none⟩), .int .i64 j, .int .u32 x] w fun e w' => e = .returned (.bool true) ∧ MAt w' b v n (l.set j x) ∧ Only (fun k => inRow v k) w w' := by
  have hl := h.2.2
  have e1 : writeL l (j : Int) x = l.set j x := by unfold writeL; rw [if_pos (by omega), Int.toNat_natCast]
  have e2 : (decide (0 ≤ (j : Int)) && decide ((j : Int) < (l.length : Int))) = true := by simp; omega
  have := mm_write l b n v (j : Int) x w h
  rw [e1, e2] at this
  exact this
theorem mm_write_out (l : List Int) (b n : Nat) (v : Value) (i x : Int) (w : World) (h : MAt w b v n l) (hj : i < 0 ∨ (16 * n : Nat) ≤ i) :
    Calls Tryz.prog 76 #[.pointer (some ⟨b, 0, none⟩), .int .i64 i, .int .u32 x] w fun e w' => e = .returned (.bool false) ∧ MAt w' b v n l ∧ Only (fun k => inRow v k) w w' := by
  have hl := h.2.2
  have e1 : writeL l i x = l := by unfold writeL; rw [if_neg (by omega)]
  have e2 : (decide (0 ≤ i) && decide (i < (l.length : Int))) = false := by simp; omega
  have := mm_write l b n v i x w h
  rw [e1, e2] at this
  exact this

theorem dif_self (l : List Int) (n f : Nat) : dif l n l n f = false := by simp [dif]
theorem filter_none {p : Nat → Bool} : ∀ (l : List Nat), (∀ j ∈ l, p j = false) → l.filter p = []
  | [], _ => rfl
  | x :: l, h => by rw [List.filter_cons_of_neg (by rw [h x (by simp)]; decide), filter_none l (fun j hj => h j (by simp [hj]))]
theorem difL_none (l l' : List Int) (n n' k : Nat) (h : ∀ j, j < k → dif l n l' n' j = false) : difL l n l' n' k = [] := by
  unfold difL
  rw [filter_none _ (fun j hj => h j (List.mem_range.1 hj))]
  rfl
theorem difL_self (l : List Int) (n k : Nat) : difL l n l n k = [] := difL_none _ _ _ _ _ fun j _ => dif_self l n j
theorem difL_one (l l' : List Int) (n n' f : Nat) (h : ∀ j, j ≠ f → dif l n l' n' j = false) : ∀ k, (difL l n l' n' k).length ≤ 1
  | 0 => by simp [difL]
  | k + 1 => by
    by_cases hf : k = f
    · subst hf
      rw [difL_succ, difL_none l l' n n' k (fun j hj => h j (by omega))]
      split <;> simp
    · rw [difL_succ, h k hf, if_neg (by decide)]
      exact difL_one l l' n n' f h k
theorem ext_getD {xs ys : List Int} (hl : xs.length = ys.length) (h : ∀ j, j < xs.length → xs.getD j 0 = ys.getD j 0) : xs = ys := by
  apply List.ext_getElem hl
  intro j h1 h2
  have := h j h1
  simpa [List.getD_eq_getElem?_getD, h1, h2] using this
theorem fw_get (l : List Int) (n f j : Nat) (hl : l.length = 16 * n) (hf : f < n) (hj : j < 16) : (fw l n f).getD j 0 = l.getD (16 * f + j) 0 := by
  unfold fw
  rw [if_pos hf, frameW_get l n f j hl hf hj]
theorem fw_len (l : List Int) (n f : Nat) (hl : l.length = 16 * n) (hf : f < n) : (fw l n f).length = 16 := by
  unfold fw
  rw [if_pos hf, frameW_len l n f hl hf]
theorem fw_ext (l l' : List Int) (n n' f : Nat) (hl : l.length = 16 * n) (hl' : l'.length = 16 * n') (hf : f < n) (hf' : f < n') (h : ∀ j, j < 16 → l.getD (16 * f + j) 0 = l'.getD (16 * f + j) 0) : fw l n f = fw l' n' f := by
  refine ext_getD (by rw [fw_len l n f hl hf, fw_len l' n' f hl' hf']) fun j hj => ?_
  rw [fw_len l n f hl hf] at hj
  rw [fw_get l n f j hl hf hj, fw_get l' n' f j hl' hf' hj, h j hj]
theorem fw_past (l : List Int) (n f : Nat) (hf : n ≤ f) : fw l n f = [] := by
  unfold fw
  rw [if_neg (by omega)]
theorem fw_fill (l : List Int) (n f g : Nat) (xs : List Int) (hl : l.length = 16 * n) (hf : f < n) (hx : xs.length ≤ 16) (hg : g ≠ f) : fw (fillL l f xs) n g = fw l n g := by
  by_cases hgn : g < n
  · refine fw_ext _ _ n n g (by rw [fillL_len, hl]) hl hgn hgn fun j hj => ?_
    rw [fillL_get l n f xs _ hl hf hx, if_neg (by omega)]
  · rw [fw_past _ _ _ (by omega), fw_past _ _ _ (by omega)]
theorem fw_filled (l : List Int) (n f j : Nat) (xs : List Int) (hl : l.length = 16 * n) (hf : f < n) (hx : xs.length ≤ 16) (hj : j < 16) : (fw (fillL l f xs) n f).getD j 0 = xs.getD j 0 := by
  rw [fw_get _ n f j (by rw [fillL_len, hl]) hf hj, fillL_get l n f xs _ hl hf hx, if_pos (by omega)]
  congr 1
  omega
theorem dif_fill (l : List Int) (n f g : Nat) (xs : List Int) (hl : l.length = 16 * n) (hf : f < n) (hx : xs.length ≤ 16) (hg : g ≠ f) : dif l n (fillL l f xs) n g = false := by
  unfold dif
  rw [fw_fill l n f g xs hl hf hx hg]
  simp
end Go.Proofs.YtaoaachgnnengaaGreatDoor

/-
  mem.Mem: a word that is there; what differs between a memory and a greater one.
-/
namespace Go.Proofs.YtaoaachgnnengaaGreatDoor
open Go.RowKit

theorem mm_read_in (l : List Int) (b n j : Nat) (v : Value) (w : World) (h : MAt w b v n l) (hj : j < 16 * n) :
    Calls Tryz.prog 103 #[.pointer (some ⟨b, 0, none⟩), .int .i64 j] w fun e w' => e = .returned (.tuple #[.int .u32 (l.getD j 0), .bool true]) ∧ w = w' := by
  have hl := h.2.2
  have e1 : readAns l (j : Int) = .tuple #[.int .u32 (l.getD j 0), .bool true] := by unfold readAns; rw [if_pos (by omega), Int.toNat_natCast]
  have := mm_read l b n v (j : Int) w h
  rw [e1] at this
  exact this
theorem own_atL {w : World} {e : TypeId} {size : Nat} {ao : Option Addr} {m n cap : Nat} {xs : List Value} (h : w.ownsRow 0 e size (.slice ao m cap) n xs) : AtL w ao xs := by
  obtain ⟨ao', cap', e, hat⟩ := atL_of_own h
  cases e
  exact hat
theorem set_getDm (l : List Int) (a k : Nat) (x : Int) (ha : a < l.length) : (l.set a x).getD k 0 = if k = a then x else l.getD k 0 := by
  by_cases h : k = a
  · subst h
    simp [List.getD_eq_getElem?_getD, ha]
  · rw [if_neg h]
    simp [List.getD_eq_getElem?_getD, List.getElem?_set_ne (fun e => h e.symm)]
theorem rep_getD (n k : Nat) : (List.replicate n (0 : Int)).getD k 0 = 0 := by
  simp only [List.getD_eq_getElem?_getD, List.getElem?_replicate]
  split <;> rfl
theorem dif_comm (l l' : List Int) (n n' f : Nat) : dif l n l' n' f = dif l' n' l n f := by
  unfold dif
  have e1 : (decide (f < n) != decide (f < n')) = (decide (f < n') != decide (f < n)) := by cases decide (f < n) <;> cases decide (f < n') <;> rfl
  have e2 : decide (fw l n f = fw l' n' f) = decide (fw l' n' f = fw l n f) := by rw [decide_eq_decide]; exact eq_comm
  rw [e1, e2]
theorem difL_comm (l l' : List Int) (n n' k : Nat) : difL l n l' n' k = difL l' n' l n k := by
  unfold difL
  congr 2
  funext f
  exact dif_comm l l' n n' f
/-- the same memory, and two frames more -/
theorem difL_two (n a : Nat) (x : Int) (ha : a < 16 * n) : difL ((List.replicate (16 * n) 0).set a x) n ((List.replicate (16 * (n + 2)) 0).set a x) (n + 2) (n + 2) = [(n : Int), (n : Int) + 1] := by
  have l1 : ((List.replicate (16 * n) (0 : Int)).set a x).length = 16 * n := by simp
  have l2 : ((List.replicate (16 * (n + 2)) (0 : Int)).set a x).length = 16 * (n + 2) := by simp
  have h0 : ∀ j, j < n → dif ((List.replicate (16 * n) 0).set a x) n ((List.replicate (16 * (n + 2)) 0).set a x) (n + 2) j = false := fun j hj => by
    unfold dif
    rw [fw_ext _ _ n (n + 2) j l1 l2 hj (by omega) fun i hi => by rw [set_getDm _ _ _ _ (by simp; exact ha), set_getDm _ _ _ _ (by simp; omega), rep_getD, rep_getD], decide_eq_true hj, decide_eq_true (show j < n + 2 by omega)]
    simp
  have h1 : dif ((List.replicate (16 * n) 0).set a x) n ((List.replicate (16 * (n + 2)) 0).set a x) (n + 2) n = true := by
    unfold dif
    rw [decide_eq_false (show ¬ n < n by omega), decide_eq_true (show n < n + 2 by omega)]
    rfl
  have h2 : dif ((List.replicate (16 * n) 0).set a x) n ((List.replicate (16 * (n + 2)) 0).set a x) (n + 2) (n + 1) = true := by
    unfold dif
    rw [decide_eq_false (show ¬ n + 1 < n by omega), decide_eq_true (show n + 1 < n + 2 by omega)]
    rfl
  rw [difL_succ, h2, if_pos rfl, difL_succ, h1, if_pos rfl, difL_none _ _ _ _ _ h0]
  simp
end Go.Proofs.YtaoaachgnnengaaGreatDoor

/-
  facaderef.Words: a copy, in new memory.
-/
namespace Go.Proofs.YtaoaachgnnengaaGreatDoor
open Go.RowKit

theorem infoWords : (Tryz.prog.info? 115).map (fun i => (i.zero, i.size, i.bytes)) = some (some (.int .u32 0), 1, 4) := by kernel_rfl

/-- the first k are copied -/
def CopyWordsTo (xs : List Int) (w : World) (v i : Value) (wr : World) : Prop :=
  ∃ k : Nat, k ≤ xs.length ∧ i = .int .i64 k ∧ wr.ownsRow 0 115 1 v k (u32s (xs.take k)) ∧ (∀ j, inRow v j → w.heap.size ≤ j) ∧ Below w.heap.size w wr ∧ ∃ ao cap, v = .slice ao k cap

set_option maxHeartbeats 800000 in
theorem copyWords_any (ao : Option Addr) (c1 : Nat) (xs : List Int) (w : World) (hr : AtL w ao (u32s xs)) (hn : xs.length ≤ 1000000000) :
    Calls Tryz.prog 65 #[.slice ao xs.length c1] w fun e w' => ∃ v', e = .returned v' ∧ w'.ownsRow 0 115 1 v' xs.length (u32s xs) ∧ (∀ k, inRow v' k → w.heap.size ≤ k) ∧ Below w.heap.size w w' := by
  obtain ⟨i0, hi, hz0, hz1, hz2⟩ := info_parts infoWords
  have HC := Lib.hid hr
  clear hr
  go_enter Tryz.func65, Tryz.ntmps65
  go_wp2_with (at_make; refine wpList_make_own _ rfl _ _ 65 rfl 0 115 i0 (.int .u32 0) 1 Tryz.underlying65 hi hz0 hz1 _ _ _ xs.length rfl rfl rfl (by rw [hz2]; omega) (by unfold maxLen; omega) (Nat.zero_le _) ?_)
  intro w1 ho hg
  have hO0 : Below w.heap.size w w1 := (Below.refl _ _).grown hg (Nat.le_refl _) (fun k hk => by cases hk)
  have HO := Lib.hid ho
  have HB := Lib.hid hO0
  clear ho hg hO0
  go_wp2_with fail
  go_loopw [3, 4] (fun v i wr => CopyWordsTo xs w v i wr) (fun _ i _ => xs.length - (intOf i).toNat)
  case atStart => exact ⟨0, Nat.zero_le _, rfl, HO.out, fun j hj => by simp [inRow, Value.ownBlock] at hj; omega, HB.out, _, _, rfl⟩
  case round =>
    obtain ⟨k, hk, rfl, hown, hf, hbw, ao', cap', rfl⟩ := hrel
    by_cases hlt : k < xs.length
    · obtain ⟨b, off, rfl, hcell, hbl⟩ := HC.out k _ (u32s_get xs k hlt)
      have cr : wr.cell? ⟨b, off + k, none⟩ = some (.int .u32 (xs.getD k 0)) := (hbw.cell (p := ⟨b, off + k, none⟩) hbl).trans hcell
      obtain ⟨z, hz⟩ : ∃ z, xs.getD k 0 = z := ⟨_, rfl⟩
      rw [hz] at cr
      have HZ := Lib.hid hz
      have HF := Lib.hid hf
      have HW := Lib.hid hbw
      clear hz hcell hf hbw
      go_wp2_with (at_builtin; refine wpList_append_sep _ rfl _ _ 65 rfl 115 i0 (.int .u32 0) 1 4 Tryz.underlying65 hi hz0 hz1 hz2 rfl (by decide) _ _ _ rfl (hown.alloc _) ⟨wr.heap.size, 0, none⟩ 1 1 [.int .u32 z] rfl rfl (cell_one_new _ _ _) (by simp [Value.oneCell']) (by unfold maxLen; omega) (by omega) ?_)
      intro v' w2 ho2 hg2 hs2
      obtain ⟨ao2, cap2, rfl⟩ := own_slice ho2
      have e1 : u32s (xs.take (k + 1)) = u32s (xs.take k) ++ [.int .u32 z] := by
        rw [u32s_take xs k hlt, HZ.out]
      rw [← e1] at ho2
      have hw2 : Below w.heap.size w w2 := (HW.out.alloc HW.out.size _).grown hg2 (by have := HW.out.size; simp; omega) (fun j hj => HF.out j hj)
      have HO2 := Lib.hid ho2
      have HW2 := Lib.hid hw2
      have HF2 := Lib.hid (show ∀ j, inRow (.slice ao2 (k + 1) cap2) j → w.heap.size ≤ j from fun j hj => by
        rcases hs2 j hj with h | h
        · exact HF.out j h
        · exact Nat.le_trans HW.out.size (Nat.le_trans (by simp) h))
      clear ho2 hg2 hs2 e1 hw2 hown
      go_wp2
      go_roundw
      case rel => exact ⟨k + 1, by omega, by go_num, HO2.out, HF2.out, HW2.out, _, _, rfl⟩
      case measure => simp [intOf]; omega
    · obtain rfl : k = xs.length := by omega
      have HO2 := Lib.hid hown
      have HF2 := Lib.hid hf
      have HW2 := Lib.hid hbw
      clear hown hf hbw
      go_wp2
      go_ret
      have := HO2.out
      rw [List.take_length] at this
      exact ⟨_, rfl, this, HF2.out, HW2.out⟩
end Go.Proofs.YtaoaachgnnengaaGreatDoor

/-
  facaderef1.Mem: what its functions answer, over the list of its words.
-/
namespace Go.Proofs.YtaoaachgnnengaaGreatDoor
open Go.RowKit

set_option maxHeartbeats 800000 in
theorem mr_frame_none (l : List Int) (b n : Nat) (v : Value) (f : Int) (w : World) (h : MAr w b v n l) (hn : n ≤ 1024) (hf : f < 0 ∨ (n : Int) ≤ f) :
    Calls Tryz.prog 26 #[.pointer (some ⟨b, 0, none⟩), .int .i64 f] w fun e w' => e = .returned (.tuple #[.slice none 0 0, .bool false]) ∧ w = w' := by
  have HM := Lib.hid h
  clear h
  by_cases h0 : f < 0
  · clear hf
    go_enter Tryz.func26, Tryz.ntmps26
    go_wp2
    go_ret2
    exact ⟨rfl, rfl⟩
  · have h1 : (n : Int) ≤ f := by omega
    clear hf
    go_enter Tryz.func26, Tryz.ntmps26
    go_wp2_with fail
    refine (mr_frames l b n v _ HM.out hn).mono ?_
    rintro e w1 ⟨rfl, rfl⟩
    go_wp2
    go_ret2
    exact ⟨rfl, rfl⟩

theorem atL_of_mr {w : World} {b n f g cap : Nat} {l : List Int} (h : MAr w b (.slice (some ⟨g, 0, none⟩) (16 * n) cap) n l) (hf : f < n) : AtL w (some ⟨g, 16 * f, none⟩) (u32s (frameW l f)) := fun j u hj => by
  have hlen := h.2.2
  have hj16 : j < 16 := by
    have := (List.getElem?_eq_some_iff.mp hj).1
    rw [u32s, List.length_map, frameW_len l n f hlen hf] at this
    exact this
  rw [u32s_get _ j (by rw [frameW_len l n f hlen hf]; exact hj16), frameW_get l n f j hlen hf hj16] at hj
  have hc : w.cell? ⟨g, 16 * f + j, none⟩ = some u := by
    rw [← hj]
    exact (own_cell h.2.1 (16 * f + j) (by omega)).trans (u32s_get l (16 * f + j) (by omega))
  exact ⟨g, 16 * f, rfl, hc, World.block_lt_of_cell? w ⟨g, 16 * f + j, none⟩ hc⟩

set_option maxHeartbeats 1600000 in
theorem mr_frame (l : List Int) (b n f : Nat) (v : Value) (w : World) (h : MAr w b v n l) (hn : n ≤ 1024) (hf : f < n) :
    Calls Tryz.prog 26 #[.pointer (some ⟨b, 0, none⟩), .int .i64 f] w fun e w' => ∃ v', e = .returned (.tuple #[v', .bool true]) ∧ w'.ownsRow 0 115 1 v' 16 (u32s (frameW l f)) ∧ (∀ k, inRow v' k → w.heap.size ≤ k) ∧ Below w.heap.size w w' := by
  have c := h.cell
  have HM := Lib.hid h
  have hlen := h.2.2
  obtain ⟨g, cap, rfl, hcap⟩ := h.own (by omega)
  have hcw := copyWords_any (some ⟨g, 16 * f, none⟩) (cap - 16 * f) (frameW l f) w (atL_of_mr h hf) (by rw [frameW_len l n f hlen hf]; decide)
  rw [frameW_len l n f hlen hf] at hcw
  have HCW := Lib.hid hcw
  have h1 := IntWalk.i64_in (16 * (f : Int)) (by omega)
  have h3 := IntWalk.i64_in (16 * (f : Int) + 16) (by omega)
  have hfi : (f : Int) < (n : Int) := by omega
  have e1 : (16 * (f : Int)).toNat = 16 * f := by omega
  have e2 : (16 * (f : Int) + 16).toNat = 16 * f + 16 := by omega
  have g1 : (0 : Int) ≤ 16 * (f : Int) := by omega
  have g2 : 16 * (f : Int) ≤ 16 * (f : Int) + 16 := by omega
  have g3 : 16 * (f : Int) + 16 ≤ (cap : Int) := by omega
  clear h hlen hcw
  go_enter Tryz.func26, Tryz.ntmps26
  go_wp2_with fail
  refine (mr_frames l b n _ _ HM.out hn).mono ?_
  rintro e w1 ⟨rfl, rfl⟩
  go_wp2_with fail
  refine HCW.out.mono ?_
  rintro e w2 ⟨v', rfl, ho, hf2, hb2⟩
  have HO := Lib.hid ho
  have HF := Lib.hid hf2
  have HB := Lib.hid hb2
  obtain ⟨ao2, cap2, rfl⟩ := own_slice ho
  clear ho hf2 hb2
  go_wp2
  go_ret2
  exact ⟨_, rfl, HO.out, HF.out, HB.out⟩

end Go.Proofs.YtaoaachgnnengaaGreatDoor

/-
  facaderef1.Mem and mem.Mem: Fill; every function for every number.
-/
namespace Go.Proofs.YtaoaachgnnengaaGreatDoor
open Go.RowKit

set_option maxHeartbeats 800000 in
theorem mr_fill_no (l : List Int) (b n m c1 : Nat) (ao : Option Addr) (v : Value) (f : Int) (w : World) (h : MAr w b v n l) (hn : n ≤ 1024) (hno : f < 0 ∨ (n : Int) ≤ f ∨ 16 < m) :
    Calls Tryz.prog 56 #[.pointer (some ⟨b, 0, none⟩), .int .i64 f, .slice ao m c1] w fun e w' => e = .returned (.bool false) ∧ w = w' := by
  have HM := Lib.hid h
  clear h
  by_cases h0 : f < 0
  · clear hno
    go_enter Tryz.func56, Tryz.ntmps56
    go_wp2
    go_ret
    exact ⟨rfl, rfl⟩
  · by_cases h1 : (n : Int) ≤ f
    · clear hno
      go_enter Tryz.func56, Tryz.ntmps56
      go_wp2_with fail
      refine (mr_frames l b n v _ HM.out hn).mono ?_
      rintro e w1 ⟨rfl, rfl⟩
      go_wp2
      go_ret
      exact ⟨rfl, rfl⟩
    · have h2 : (16 : Int) < (m : Int) := by omega
      clear hno
      go_enter Tryz.func56, Tryz.ntmps56
      go_wp2_with fail
      refine (mr_frames l b n v _ HM.out hn).mono ?_
      rintro e w1 ⟨rfl, rfl⟩
      go_wp2
      go_ret
      exact ⟨rfl, rfl⟩

theorem MAr.set {w : World} {b n g cap : Nat} {l : List Int} (h : MAr w b (.slice (some ⟨g, 0, none⟩) (16 * n) cap) n l) (j : Nat) (x : Int) :
    MAr (w.setCell ⟨g, j, none⟩ (.int .u32 x)) b (.slice (some ⟨g, 0, none⟩) (16 * n) cap) n (l.set j x) ∧ Only (fun k => inRow (.slice (some ⟨g, 0, none⟩) (16 * n) cap) k) w (w.setCell ⟨g, j, none⟩ (.int .u32 x)) := by
  have hgb : ¬ b = g := fun e => h.not (by subst e; rfl)
  exact ⟨⟨blk_set h.1 (by exact hgb) _, by rw [← u32s_set]; exact (h.2.1.stored j _).1, by rw [List.length_set]; exact h.2.2⟩,
    Only.setCell (F := fun k => inRow (.slice (some ⟨g, 0, none⟩) (16 * n) cap) k) (Only.refl _ _) (p := ⟨g, j, none⟩) (.inl rfl) _⟩
/-- the first k words are written -/
def FillsTo (w : World) (b : Nat) (v : Value) (n f : Nat) (l xs : List Int) (i : Value) (wr : World) : Prop :=
  ∃ (k : Nat) (l' : List Int), k ≤ 16 ∧ i = .int .i64 (k : Int) ∧ MAr wr b v n l' ∧ (∀ j, l'.getD j 0 = if 16 * f ≤ j ∧ j < 16 * f + k then xs.getD (j - 16 * f) 0 else l.getD j 0) ∧ Only (fun k => inRow v k) w wr

set_option maxRecDepth 100000 in
set_option maxHeartbeats 1600000 in
theorem mr_fill_ok (l xs : List Int) (b n f m c1 : Nat) (ao : Option Addr) (v : Value) (w : World) (h : MAr w b v n l) (hn : n ≤ 1024) (hf : f < n) (hs : AtL w ao (u32s xs)) (hm : xs.length = m) (hx : m ≤ 16) (hap : ∀ a, 0 < m → ao = some a → ¬ inRow v a.block) :
    Calls Tryz.prog 56 #[.pointer (some ⟨b, 0, none⟩), .int .i64 f, .slice ao m c1] w fun e w' => e = .returned (.bool true) ∧ MAr w' b v n (fillL l f xs) ∧ Only (fun k => inRow v k) w w' := by
  have HM := Lib.hid h
  have HS := Lib.hid hs
  have HAP := Lib.hid hap
  obtain ⟨g, cap, rfl, hcap⟩ := h.own (by omega)
  subst hm
  have hfi : (f : Int) < (n : Int) := by omega
  have hf0 : (0 : Int) ≤ (f : Int) := by omega
  have g4 : (xs.length : Int) ≤ 16 := by omega
  have hw1 := IntWalk.i64_in (16 * (f : Int)) (by omega)
  have HLL : Hid (l.length = 16 * n) := Lib.hid h.2.2
  have HF := Lib.hid hf
  have HN := Lib.hid hn
  clear h hs hap
  go_enter Tryz.func56, Tryz.ntmps56
  go_wp2_with fail
  refine (mr_frames l b n _ _ HM.out hn).mono ?_
  rintro e w1 ⟨rfl, rfl⟩
  go_wp2_with fail
  go_loopw [7] (fun i wr => FillsTo w b (.slice (some ⟨g, 0, none⟩) (16 * n) cap) n f l xs i wr) (fun i _ => 16 - (intOf i).toNat)
  case atStart => exact ⟨0, l, Nat.zero_le _, rfl, HM.out, fun j => by rw [if_neg (by omega)], Only.refl _ _⟩
  case round =>
    obtain ⟨k, l', hk, rfl, hm, hg, ho⟩ := hrel
    have HMR := Lib.hid hm
    have HG := Lib.hid hg
    have HO := Lib.hid ho
    clear hm hg ho
    by_cases hlt : k < 16
    · have hki : (k : Int) < 16 := by omega
      have hk0 : (0 : Int) ≤ (k : Int) := by omega
      have HST := Lib.hid (HMR.out.set (16 * f + k))
      have HGN : Hid (∀ z, z = xs.getD k 0 → ∀ j, (l'.set (16 * f + k) z).getD j 0 = if 16 * f ≤ j ∧ j < 16 * f + (k + 1) then xs.getD (j - 16 * f) 0 else l.getD j 0) := Lib.hid fun z hz j => by
        rw [set_getDm l' (16 * f + k) j z (by have := HMR.out.2.2; omega), HG.out j]
        by_cases e : j = 16 * f + k
        · subst e
          rw [if_pos rfl, if_pos ⟨by omega, by omega⟩, hz]
          congr 1
          omega
        · rw [if_neg e]
          by_cases h1 : 16 * f ≤ j ∧ j < 16 * f + k
          · rw [if_pos h1, if_pos ⟨h1.1, by omega⟩]
          · rw [if_neg h1, if_neg (by omega)]
      have g0 := (own_cell HMR.out.2.1 (16 * f + k) (by omega)).trans (u32s_get l' (16 * f + k) (by have := HMR.out.2.2; omega))
      have g1 := own_free HMR.out.2.1 (16 * f + k)
      have cm := HMR.out.cell
      have hpi : 16 * (f : Int) + (k : Int) < ((16 * n : Nat) : Int) := by omega
      have hw2 := IntWalk.i64_in (16 * (f : Int) + (k : Int)) (by omega)
      obtain ⟨p, hp⟩ : ∃ p, 16 * f + k = p := ⟨_, rfl⟩
      have hpe : 16 * (f : Int) + (k : Int) = (p : Int) := by omega
      rw [hpe] at hpi
      rw [hp] at HST HGN g0 g1
      obtain ⟨N, hN⟩ : ∃ N, 16 * n = N := ⟨_, rfl⟩
      rw [hN] at hpi HST cm
      have HNN := Lib.hid hN
      clear hp hlt hN
      have hw3 := IntWalk.i64_in ((k : Int) + 1) (by omega)
      by_cases hkx : k < xs.length
      · have hkxi : (k : Int) < (xs.length : Int) := by omega
        obtain ⟨sb, so, rfl, q0, hql⟩ := HS.out k _ (u32s_get xs k hkx)
        have q1 : wr.cell? ⟨sb, so + k, none⟩ = some (.int .u32 (xs.getD k 0)) := by
          rw [← q0]
          exact World.cell?_of_block (HO.out.block sb hql (HAP.out _ (by omega) rfl))
        obtain ⟨z, hz⟩ : ∃ z, xs.getD k 0 = z := ⟨_, rfl⟩
        have HZ := Lib.hid hz
        rw [hz] at q1
        clear hz q0 hql
        go_wp2
        go_roundw
        case rel => exact ⟨k + 1, _, by omega, by go_num, by rw [HNN.out]; exact (HST.out z).1, HGN.out z HZ.out.symm, by rw [HNN.out] at HO ⊢; exact HO.out.trans (HST.out z).2⟩
        case measure => simp [intOf]; omega
      · have hkxi : ¬ (k : Int) < (xs.length : Int) := by omega
        have HZ : Hid (xs.getD k 0 = 0) := Lib.hid (by simp [List.getD_eq_getElem?_getD, List.getElem?_eq_none (show xs.length ≤ k by omega)])
        clear hkx
        go_wp2
        go_roundw
        case rel => exact ⟨k + 1, _, by omega, by go_num, by rw [HNN.out]; exact (HST.out 0).1, HGN.out 0 HZ.out.symm, by rw [HNN.out] at HO ⊢; exact HO.out.trans (HST.out 0).2⟩
        case measure => simp [intOf]; omega
    · obtain rfl : k = 16 := by omega
      have HE : Hid (l' = fillL l f xs) := Lib.hid (by
        refine ext_getD (by rw [HMR.out.2.2, fillL_len, HLL.out]) fun j _ => ?_
        rw [HG.out j, fillL_get l n f xs j HLL.out HF.out hx])
      go_wp2
      go_ret
      exact ⟨rfl, HE.out ▸ HMR.out, HO.out⟩

theorem mr_frame_any (l : List Int) (b n f : Nat) (v : Value) (w : World) (h : MAr w b v n l) (hn : n ≤ 1024) :
    Calls Tryz.prog 26 #[.pointer (some ⟨b, 0, none⟩), .int .i64 f] w fun e w' => ∃ av cap, e = .returned (.tuple #[.slice av (fw l n f).length cap, .bool (decide (f < n))]) ∧ AtL w' av (u32s (fw l n f)) ∧ Below w.heap.size w w' := by
  by_cases hf : f < n
  · refine (mr_frame l b n f v w h hn hf).mono ?_
    rintro e w' ⟨v', rfl, ho, -, hb⟩
    obtain ⟨av, cap, rfl, hat⟩ := atL_of_own ho
    have e1 : fw l n f = frameW l f := by unfold fw; rw [if_pos hf]
    rw [e1, frameW_len l n f h.2.2 hf, decide_eq_true hf]
    exact ⟨av, cap, rfl, hat, hb⟩
  · refine (mr_frame_none l b n v f w h hn (.inr (by omega))).mono ?_
    rintro e w' ⟨rfl, rfl⟩
    have e1 : fw l n f = [] := by unfold fw; rw [if_neg hf]
    rw [e1, decide_eq_false hf]
    exact ⟨none, 0, rfl, atL_nil _ _, Below.refl _ _⟩

def fillB (n : Nat) (f : Int) (m : Nat) : Bool := decide (0 ≤ f ∧ f < n ∧ m ≤ 16)
def fillA (l : List Int) (n : Nat) (f : Int) (xs : List Int) : List Int := if 0 ≤ f ∧ f < n ∧ xs.length ≤ 16 then fillL l f.toNat xs else l
def fwI (l : List Int) (n : Nat) (f : Int) : List Int := if 0 ≤ f then fw l n f.toNat else []
def inI (n : Nat) (f : Int) : Bool := decide (0 ≤ f ∧ f < n)

theorem mm_fill_any (l xs : List Int) (b n m c1 : Nat) (f : Int) (ao : Option Addr) (v : Value) (w : World) (h : MAt w b v n l) (hn : n ≤ 1024) (hs : AtL w ao (u32s xs)) (hm : xs.length = m) (hap : ∀ a, 0 < m → ao = some a → ¬ inRow v a.block) :
    Calls Tryz.prog 50 #[.pointer (some ⟨b, 0, none⟩), .int .i64 f, .slice ao m c1] w fun e w' => e = .returned (.bool (fillB n f m)) ∧ MAt w' b v n (fillA l n f xs) ∧ Only (fun k => inRow v k) w w' := by
  subst hm
  by_cases hc : 0 ≤ f ∧ f < (n : Int) ∧ xs.length ≤ 16
  · obtain ⟨k, rfl⟩ : ∃ k : Nat, f = (k : Int) := ⟨f.toNat, by omega⟩
    have e1 : fillB n (k : Int) xs.length = true := decide_eq_true hc
    have e2 : fillA l n (k : Int) xs = fillL l k xs := by unfold fillA; rw [if_pos hc, Int.toNat_natCast]
    rw [e1, e2]
    exact mm_fill_ok l xs b n k xs.length c1 ao v w h hn (by omega) hs rfl hc.2.2 hap
  · have e1 : fillB n f xs.length = false := decide_eq_false hc
    have e2 : fillA l n f xs = l := by unfold fillA; rw [if_neg hc]
    rw [e1, e2]
    refine (mm_fill_no l b n xs.length c1 ao v f w h hn (by omega)).mono ?_
    rintro e w' ⟨rfl, rfl⟩
    exact ⟨rfl, h, Only.refl _ _⟩
theorem mm_frame_int (l : List Int) (b n : Nat) (v : Value) (f : Int) (w : World) (h : MAt w b v n l) (hn : n ≤ 1024) :
    Calls Tryz.prog 25 #[.pointer (some ⟨b, 0, none⟩), .int .i64 f] w fun e w' => ∃ av cap, e = .returned (.tuple #[.slice av (fwI l n f).length cap, .bool (inI n f)]) ∧ AtL w' av (u32s (fwI l n f)) ∧ Below w.heap.size w w' := by
  by_cases h0 : 0 ≤ f
  · obtain ⟨k, rfl⟩ : ∃ k : Nat, f = (k : Int) := ⟨f.toNat, by omega⟩
    have e1 : fwI l n (k : Int) = fw l n k := by unfold fwI; rw [if_pos h0, Int.toNat_natCast]
    have e2 : inI n (k : Int) = decide (k < n) := by unfold inI; simp
    rw [e1, e2]
    exact mm_frame_any l b n k v w h hn
  · have e1 : fwI l n f = [] := by unfold fwI; rw [if_neg h0]
    have e2 : inI n f = false := decide_eq_false (by omega)
    rw [e1, e2]
    refine (mm_frame_none l b n v f w h hn (.inl (by omega))).mono ?_
    rintro e w' ⟨rfl, rfl⟩
    exact ⟨none, 0, rfl, atL_nil _ _, Below.refl _ _⟩

theorem mr_fill_any (l xs : List Int) (b n m c1 : Nat) (f : Int) (ao : Option Addr) (v : Value) (w : World) (h : MAr w b v n l) (hn : n ≤ 1024) (hs : AtL w ao (u32s xs)) (hm : xs.length = m) (hap : ∀ a, 0 < m → ao = some a → ¬ inRow v a.block) :
    Calls Tryz.prog 56 #[.pointer (some ⟨b, 0, none⟩), .int .i64 f, .slice ao m c1] w fun e w' => e = .returned (.bool (fillB n f m)) ∧ MAr w' b v n (fillA l n f xs) ∧ Only (fun k => inRow v k) w w' := by
  subst hm
  by_cases hc : 0 ≤ f ∧ f < (n : Int) ∧ xs.length ≤ 16
  · obtain ⟨k, rfl⟩ : ∃ k : Nat, f = (k : Int) := ⟨f.toNat, by omega⟩
    have e1 : fillB n (k : Int) xs.length = true := decide_eq_true hc
    have e2 : fillA l n (k : Int) xs = fillL l k xs := by unfold fillA; rw [if_pos hc, Int.toNat_natCast]
    rw [e1, e2]
    exact mr_fill_ok l xs b n k xs.length c1 ao v w h hn (by omega) hs rfl hc.2.2 hap
  · have e1 : fillB n f xs.length = false := decide_eq_false hc
    have e2 : fillA l n f xs = l := by unfold fillA; rw [if_neg hc]
    rw [e1, e2]
    refine (mr_fill_no l b n xs.length c1 ao v f w h hn (by omega)).mono ?_
    rintro e w' ⟨rfl, rfl⟩
    exact ⟨rfl, h, Only.refl _ _⟩
theorem mr_frame_int (l : List Int) (b n : Nat) (v : Value) (f : Int) (w : World) (h : MAr w b v n l) (hn : n ≤ 1024) :
    Calls Tryz.prog 26 #[.pointer (some ⟨b, 0, none⟩), .int .i64 f] w fun e w' => ∃ av cap, e = .returned (.tuple #[.slice av (fwI l n f).length cap, .bool (inI n f)]) ∧ AtL w' av (u32s (fwI l n f)) ∧ Below w.heap.size w w' := by
  by_cases h0 : 0 ≤ f
  · obtain ⟨k, rfl⟩ : ∃ k : Nat, f = (k : Int) := ⟨f.toNat, by omega⟩
    have e1 : fwI l n (k : Int) = fw l n k := by unfold fwI; rw [if_pos h0, Int.toNat_natCast]
    have e2 : inI n (k : Int) = decide (k < n) := by unfold inI; simp
    rw [e1, e2]
    exact mr_frame_any l b n k v w h hn
  · have e1 : fwI l n f = [] := by unfold fwI; rw [if_neg h0]
    have e2 : inI n f = false := decide_eq_false (by omega)
    rw [e1, e2]
    refine (mr_frame_none l b n v f w h hn (.inl (by omega))).mono ?_
    rintro e w' ⟨rfl, rfl⟩
    exact ⟨none, 0, rfl, atL_nil _ _, Below.refl _ _⟩

set_option maxHeartbeats 800000 in
theorem mm_new_err (E : Nat → Addr) (f : Int) (w : World) (hE : ErrsAt errT gOf w E all16) (h : f < 1 ∨ 1024 < f) :
    Calls Tryz.prog 15 #[.int .i64 f] w fun e w' => e = .returned (.tuple #[.pointer none, errV (E 2)]) ∧ Below w.heap.size w w' := by
  have c2 : w.cell? ⟨0, 0, none⟩ = some (errV (E 2)) := (hE.1 2 (by decide)).1
  clear hE
  by_cases h1 : f < 1
  · clear h
    go_enter Tryz.func15, Tryz.ntmps15
    go_wp2
    go_quiet (fail)
    go_wp2
    go_ret2
    exact ⟨rfl, below_drewN (Below.refl _ _) _⟩
  · have h2 : 1024 < f := by omega
    clear h
    go_enter Tryz.func15, Tryz.ntmps15
    go_wp2
    go_quiet (fail)
    go_wp2
    go_ret2
    exact ⟨rfl, below_drewN (Below.refl _ _) _⟩
end Go.Proofs.YtaoaachgnnengaaGreatDoor

