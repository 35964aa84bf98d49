/-
  pt.Tables.set.
-/
import Derived.Test.YtnhocmmgdkiepaaDoorPtLaw2
import Derived.Test.YtnhocmmgdkiepaaDoorPtDrop
namespace Go.Proofs.YtnhocmmgdkiepaaDoor
open Go.RowKit

set_option maxRecDepth 100000 in
set_option maxHeartbeats 16000000 in
theorem tset_false (E : Nat → Addr) (p : Pl) (s : Ts) (m : Int) (j : Nat) (frame : Int) (w : World) (hE : ErrsK E p w) (h : PtAt w p s) (hi : TInv m s) (hm : m + 1 ≤ 1000000) (hj : j < 256) :
    Calls Tryd.prog 109 #[.pointer (some ⟨p.tb, 0, none⟩), .int .i64 (j : Int), .int .i64 frame, .bool false] w (PtQ E p (tSet s (j : Int) frame false) w) := by
  have HH := Lib.hid h
  have HEE := Lib.hid hE
  have HU : Hid (Calls Tryd.prog 70 #[.pointer (some ⟨p.fb, 0, none⟩), .int .i64 frame] w (FrQ 128 126 E p.fb p.fg s.n (tSetR s frame false) w)) := Lib.hid (fuse_any E s.F p.fb p.fg s.n frame w (frOk_b hi.fok (by omega)) (hE _ (Only.refl _ _)) h.fr)
  have HI1 := Lib.hid (tSetR_inv hi frame false)
  obtain ⟨-, c1, -, -, -⟩ := h.cells
  have ltb := blk_lt h.row
  by_cases hc : (tSetR s frame false).c = 0
  · have HR : Hid (tSet s (j : Int) frame false = ({ (tDrop { s with F := (tSetR s frame false).l } (j : Int)).1 with M := putE (tDrop { s with F := (tSetR s frame false).l } (j : Int)).1.M (s.P.getD (1 + (j : Int).toNat / 16) 0) (((j : Int).toNat % 16 : Nat) : Int) ⟨frame, true, false, true⟩ }, 0)) := Lib.hid (by unfold tSet; rw [if_pos hc])
    rw [HR.out, Int.toNat_natCast]
    obtain ⟨R, hR⟩ : ∃ R, tSetR s frame false = R := ⟨_, rfl⟩
    rw [hR] at HU HI1 hc ⊢
    obtain ⟨Rl, Rn, Rc⟩ := R
    dsimp only at hc HI1 ⊢
    subst hc
    have HDP := Lib.hid (tDrop_P { s with F := Rl } (j : Int))
    have HI2 := Lib.hid (tDrop_inv HI1.out (j : Int))
    have h1 := hi.pin (1 + j / 16) (by have := hi.p17; omega)
    have hn := hi.n1
    have HP17 := Lib.hid hi.p17
    obtain ⟨⟨S2, x2⟩, hS2⟩ : ∃ r, tDrop { s with F := Rl } (j : Int) = r := ⟨_, rfl⟩
    have HTD : Hid (∀ wx, Only p.zw w wx → PtAt wx p { s with F := Rl } → Calls Tryd.prog 106 #[.pointer (some ⟨p.tb, 0, none⟩), .int .i64 (j : Int)] wx (PtQ E p (S2, x2) wx)) := Lib.hid fun wx ho hx => hS2 ▸ tdrop_any E p { s with F := Rl } (m + 1) (j : Int) wx (HEE.out.next ho) hx HI1.out hm
    rw [hS2] at HDP HI2 ⊢
    dsimp only at HDP HI2 ⊢
    obtain ⟨a, k, r, ha, hk, hr, wq, wq', wq1, wr, wi0, wi1, hr16⟩ := page_parts j hj
    rw [ha, hk] at h1 ⊢
    rw [hr]
    obtain ⟨t1, ht1⟩ : ∃ x, s.P.getD k 0 = x := ⟨_, rfl⟩
    rw [ht1] at h1 ⊢
    have HT1 := Lib.hid ht1
    have hb16 : 0 ≤ t1 ∧ t1 < 1024 := by omega
    clear hE h hi HR h1 hn hR hS2 ht1 hj ha hk hr
    go_enter Tryd.func109, Tryd.ntmps109
    go_wp2_with fail
    refine HU.out.mono ?_
    rintro y w3 ⟨rfl, hf3, ho3⟩
    have HO3 := Lib.hid (zw_f ho3)
    have HH3 : Hid (PtAt w3 p { s with F := Rl }) := Lib.hid (HH.out.fr' ho3 hf3)
    clear hf3 ho3 c1 ltb
    unfold errC
    rw [if_pos rfl]
    go_wp2_with fail
    refine (HTD.out _ HO3.out HH3.out).mono ?_
    rintro y w4 ⟨rfl, hp4, ho4⟩
    have HH4 : Hid (PtAt w4 p S2) := Lib.hid hp4
    have HO4 := Lib.hid (HO3.out.trans ho4)
    obtain ⟨c0, -, -, -, c4⟩ := HH4.out.cells
    obtain ⟨g, cap, hl, hg, hcell⟩ := HH4.out.list (by rw [HDP.out.1]; exact HP17.out)
    rw [hl] at c4
    have ct1 : w4.cell? ⟨g, k, none⟩ = some (.int .i64 t1) := (hcell k (by omega)).trans (by rw [HDP.out.1, ← HT1.out])
    have ltb := blk_lt HH4.out.row
    have HW : Hid (∀ wx, Below w4.heap.size w4 wx → Calls Tryd.prog 71 #[.pointer (some ⟨p.mb, 0, none⟩), .int .i64 t1, .int .i64 (r : Int), .agg #[.int .i64 frame, .bool true, .bool false, .bool true]] wx fun y w' => y = .returned (.tuple #[]) ∧ MAt w' p.mb p.mv S2.n (putE S2.M t1 (r : Int) ⟨frame, true, false, true⟩) ∧ Only (fun k => inRow p.mv k) wx w') := Lib.hid fun wx hx => twrite_any S2.M p.mb S2.n p.mv t1 (r : Int) ⟨frame, true, false, true⟩ wx (HH4.out.below hx).mem hb16 (by omega)
    clear hp4 ho4 hl hcell hb16 hr16
    go_wp2_with fail
    go_region_with (first | (go_at_call 71; refine (HW.out _ (by first | exact (Below.refl _ _).drew | exact Below.refl _ _)).mono ?_; rintro e w5 ⟨rfl, hm5, ho5⟩))
    all_goals
      have HO5 := Lib.hid (HO4.out.trans ((Only.refl _ _).drew.trans (zw_m ho5)))
      have HH5 := Lib.hid ((HH4.out.below (Below.refl _ _).drew).mem' ho5 hm5)
      clear hm5 ho5
      go_wp2
      go_ret
      exact ⟨rfl, HH5.out, HO5.out⟩
  · have HR : Hid (tSet s (j : Int) frame false = (s, (tSetR s frame false).c)) := Lib.hid (by unfold tSet; rw [if_neg hc])
    have HS := Lib.hid (tSetR_same s frame false hc)
    rw [HR.out]
    obtain ⟨R, hR⟩ : ∃ R, tSetR s frame false = R := ⟨_, rfl⟩
    rw [hR] at HU HS hc ⊢
    clear hE h hi HR hR HI1
    go_enter Tryd.func109, Tryd.ntmps109
    go_wp2_with fail
    refine HU.out.mono ?_
    rintro y w3 ⟨rfl, hf3, ho3⟩
    have HO3 := Lib.hid (zw_f ho3)
    have HH3 : Hid (PtAt w3 p s) := Lib.hid (HH.out.fr' ho3 (HS.out ▸ hf3))
    have HEC : Hid (errC E R.c = errV (E (R.c - 101).toNat)) := Lib.hid (by unfold errC; rw [if_neg hc])
    clear hf3 ho3 c1 ltb hc
    rw [HEC.out]
    go_wp2
    go_ret
    exact ⟨by rw [HEC.out]; rfl, HH3.out, HO3.out⟩

set_option maxRecDepth 100000 in
set_option maxHeartbeats 16000000 in
theorem tset_true (E : Nat → Addr) (p : Pl) (s : Ts) (m : Int) (j : Nat) (frame : Int) (w : World) (hE : ErrsK E p w) (h : PtAt w p s) (hi : TInv m s) (hm : m + 1 ≤ 1000000) (hj : j < 256) :
    Calls Tryd.prog 109 #[.pointer (some ⟨p.tb, 0, none⟩), .int .i64 (j : Int), .int .i64 frame, .bool true] w (PtQ E p (tSet s (j : Int) frame true) w) := by
  have HH := Lib.hid h
  have HEE := Lib.hid hE
  have HU : Hid (Calls Tryd.prog 131 #[.pointer (some ⟨p.fb, 0, none⟩), .int .i64 frame] w (FrQ 128 126 E p.fb p.fg s.n (tSetR s frame true) w)) := Lib.hid (fwrite_any E s.F p.fb p.fg s.n frame w (frOk_b hi.fok (by omega)) (hE _ (Only.refl _ _)) h.fr)
  have HI1 := Lib.hid (tSetR_inv hi frame true)
  obtain ⟨-, c1, -, -, -⟩ := h.cells
  have ltb := blk_lt h.row
  by_cases hc : (tSetR s frame true).c = 0
  · have HR : Hid (tSet s (j : Int) frame true = ({ (tDrop { s with F := (tSetR s frame true).l } (j : Int)).1 with M := putE (tDrop { s with F := (tSetR s frame true).l } (j : Int)).1.M (s.P.getD (1 + (j : Int).toNat / 16) 0) (((j : Int).toNat % 16 : Nat) : Int) ⟨frame, true, true, true⟩ }, 0)) := Lib.hid (by unfold tSet; rw [if_pos hc])
    rw [HR.out, Int.toNat_natCast]
    obtain ⟨R, hR⟩ : ∃ R, tSetR s frame true = R := ⟨_, rfl⟩
    rw [hR] at HU HI1 hc ⊢
    obtain ⟨Rl, Rn, Rc⟩ := R
    dsimp only at hc HI1 ⊢
    subst hc
    have HDP := Lib.hid (tDrop_P { s with F := Rl } (j : Int))
    have HI2 := Lib.hid (tDrop_inv HI1.out (j : Int))
    have h1 := hi.pin (1 + j / 16) (by have := hi.p17; omega)
    have hn := hi.n1
    have HP17 := Lib.hid hi.p17
    obtain ⟨⟨S2, x2⟩, hS2⟩ : ∃ r, tDrop { s with F := Rl } (j : Int) = r := ⟨_, rfl⟩
    have HTD : Hid (∀ wx, Only p.zw w wx → PtAt wx p { s with F := Rl } → Calls Tryd.prog 106 #[.pointer (some ⟨p.tb, 0, none⟩), .int .i64 (j : Int)] wx (PtQ E p (S2, x2) wx)) := Lib.hid fun wx ho hx => hS2 ▸ tdrop_any E p { s with F := Rl } (m + 1) (j : Int) wx (HEE.out.next ho) hx HI1.out hm
    rw [hS2] at HDP HI2 ⊢
    dsimp only at HDP HI2 ⊢
    obtain ⟨a, k, r, ha, hk, hr, wq, wq', wq1, wr, wi0, wi1, hr16⟩ := page_parts j hj
    rw [ha, hk] at h1 ⊢
    rw [hr]
    obtain ⟨t1, ht1⟩ : ∃ x, s.P.getD k 0 = x := ⟨_, rfl⟩
    rw [ht1] at h1 ⊢
    have HT1 := Lib.hid ht1
    have hb16 : 0 ≤ t1 ∧ t1 < 1024 := by omega
    clear hE h hi HR h1 hn hR hS2 ht1 hj ha hk hr
    go_enter Tryd.func109, Tryd.ntmps109
    go_wp2_with fail
    refine HU.out.mono ?_
    rintro y w3 ⟨rfl, hf3, ho3⟩
    have HO3 := Lib.hid (zw_f ho3)
    have HH3 : Hid (PtAt w3 p { s with F := Rl }) := Lib.hid (HH.out.fr' ho3 hf3)
    clear hf3 ho3 c1 ltb
    unfold errC
    rw [if_pos rfl]
    go_wp2_with fail
    refine (HTD.out _ HO3.out HH3.out).mono ?_
    rintro y w4 ⟨rfl, hp4, ho4⟩
    have HH4 : Hid (PtAt w4 p S2) := Lib.hid hp4
    have HO4 := Lib.hid (HO3.out.trans ho4)
    obtain ⟨c0, -, -, -, c4⟩ := HH4.out.cells
    obtain ⟨g, cap, hl, hg, hcell⟩ := HH4.out.list (by rw [HDP.out.1]; exact HP17.out)
    rw [hl] at c4
    have ct1 : w4.cell? ⟨g, k, none⟩ = some (.int .i64 t1) := (hcell k (by omega)).trans (by rw [HDP.out.1, ← HT1.out])
    have ltb := blk_lt HH4.out.row
    have HW : Hid (∀ wx, Below w4.heap.size w4 wx → Calls Tryd.prog 71 #[.pointer (some ⟨p.mb, 0, none⟩), .int .i64 t1, .int .i64 (r : Int), .agg #[.int .i64 frame, .bool true, .bool true, .bool true]] wx fun y w' => y = .returned (.tuple #[]) ∧ MAt w' p.mb p.mv S2.n (putE S2.M t1 (r : Int) ⟨frame, true, true, true⟩) ∧ Only (fun k => inRow p.mv k) wx w') := Lib.hid fun wx hx => twrite_any S2.M p.mb S2.n p.mv t1 (r : Int) ⟨frame, true, true, true⟩ wx (HH4.out.below hx).mem hb16 (by omega)
    clear hp4 ho4 hl hcell hb16 hr16
    go_wp2_with fail
    go_region_with (first | (go_at_call 71; refine (HW.out _ (by first | exact (Below.refl _ _).drew | exact Below.refl _ _)).mono ?_; rintro e w5 ⟨rfl, hm5, ho5⟩))
    all_goals
      have HO5 := Lib.hid (HO4.out.trans ((Only.refl _ _).drew.trans (zw_m ho5)))
      have HH5 := Lib.hid ((HH4.out.below (Below.refl _ _).drew).mem' ho5 hm5)
      clear hm5 ho5
      go_wp2
      go_ret
      exact ⟨rfl, HH5.out, HO5.out⟩
  · have HR : Hid (tSet s (j : Int) frame true = (s, (tSetR s frame true).c)) := Lib.hid (by unfold tSet; rw [if_neg hc])
    have HS := Lib.hid (tSetR_same s frame true hc)
    rw [HR.out]
    obtain ⟨R, hR⟩ : ∃ R, tSetR s frame true = R := ⟨_, rfl⟩
    rw [hR] at HU HS hc ⊢
    clear hE h hi HR hR HI1
    go_enter Tryd.func109, Tryd.ntmps109
    go_wp2_with fail
    refine HU.out.mono ?_
    rintro y w3 ⟨rfl, hf3, ho3⟩
    have HO3 := Lib.hid (zw_f ho3)
    have HH3 : Hid (PtAt w3 p s) := Lib.hid (HH.out.fr' ho3 (HS.out ▸ hf3))
    have HEC : Hid (errC E R.c = errV (E (R.c - 101).toNat)) := Lib.hid (by unfold errC; rw [if_neg hc])
    clear hf3 ho3 c1 ltb hc
    rw [HEC.out]
    go_wp2
    go_ret
    exact ⟨by rw [HEC.out]; rfl, HH3.out, HO3.out⟩

end Go.Proofs.YtnhocmmgdkiepaaDoor
