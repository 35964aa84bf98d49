/-
  Parts of one proof, one behind the other.
-/
import Derived.Test.YtaoaachgnnengaaDoorMg0dbf8be0e0
import Derived.BigQuiet
import Derived.Test.YtaoaachgnnengaaDoorMg423b7060be
import Derived.Shelf.Bits.Mul64
/-
  pt.Tables.Drop.
-/
namespace Go.Proofs.YtaoaachgnnengaaDoor
open Go.RowKit

/-- what tables write -/
def Pl.zw (p : Pl) (k : Nat) : Prop := inRow p.mv k ∨ k = p.fg ∨ k = p.pb ∨ inRow p.pv k
def PtQ (E : Nat → Addr) (p : Pl) (R : Ts × Int) (w : World) (e : Ending) (w' : World) : Prop := e = .returned (errC E R.2) ∧ PtAt w' p R.1 ∧ Only p.zw w w'
def ErrsK (E : Nat → Addr) (p : Pl) (w : World) : Prop := ∀ wx, Only p.zw w wx → ErrsAt errT gOf wx E nine
theorem ErrsK.next {E : Nat → Addr} {p : Pl} {w w' : World} (h : ErrsK E p w) (ho : Only p.zw w w') : ErrsK E p w' := fun wx hx => h wx (ho.trans hx)
theorem zw_m {p : Pl} {w w' : World} (h : Only (fun k => inRow p.mv k) w w') : Only p.zw w w' := h.mono fun _ hi => .inl (.inl hi)
theorem zw_f {p : Pl} {w w' : World} (h : Only (fun k => k = p.fg) w w') : Only p.zw w w' := h.mono fun _ hi => .inl (.inr (.inl hi))
theorem PtAt.free {w w' : World} {p : Pl} {s : Ts} (h : PtAt w p s) (k : Nat) (hk : w.heap.size ≤ k) : ¬ p.zw k := by
  intro hz
  rcases hz with hz | hz | hz | hz
  · have := own_lt h.mem.2.1 hz; omega
  · have := h.fr.lt.2; omega
  · have := blk_lt h.pm.1; omega
  · have := own_lt h.pm.2 hz; omega

set_option maxRecDepth 100000 in
set_option maxHeartbeats 3200000 in
theorem tdrop_any (E : Nat → Addr) (p : Pl) (s : Ts) (m : Int) (page : Int) (w : World) (hE : ErrsK E p w) (h : PtAt w p s) (hi : TInv m s) (hm : m ≤ 1000000) :
    Calls Tryd.prog 42 #[.pointer (some ⟨p.tb, 0, none⟩), .int .i64 page] w (PtQ E p (tDrop s page) w) := by
  have HPA := Lib.hid (fun wx => tpage_any page wx)
  by_cases hp : isPage page = true
  · have HEN := Lib.hid (tentry_any p s m page w h hi)
    rw [hp] at HPA
    by_cases ht : (tEnt s page).t = true
    · have HR : Hid (tDrop s page = ({ s with F := tDropF s page, M := writeL s.M (tWord s page.toNat : Int) 0 }, 0)) := Lib.hid (by unfold tDrop; rw [if_pos hp, if_pos ht])
      rw [HR.out]
      have HH := Lib.hid h
      have HFB := Lib.hid (frOk_b hi.fok hm)
      have HEE := Lib.hid hE
      have hpg : 0 ≤ page ∧ page < 256 := by simpa [isPage] using hp
      obtain ⟨j, rfl⟩ : ∃ j : Nat, page = (j : Int) := ⟨page.toNat, by omega⟩
      have hP := hi.p17
      have h1 := hi.pin (1 + j / 16) (by omega)
      have hn := hi.n1
      have HLI : Hid (∀ wx, Below w.heap.size w wx → ∃ g cap, p.lv = .slice (some ⟨g, 0, none⟩) 17 cap ∧ g < wx.heap.size ∧ ∀ k, k < 17 → wx.cell? ⟨g, k, none⟩ = some (.int .i64 (s.P.getD k 0))) := Lib.hid fun wx hb => (h.below hb).list hP
      have HP17 := Lib.hid hP
      have hj : j < 256 := by omega
      obtain ⟨a, ha⟩ : ∃ a, j / 16 = a := ⟨_, rfl⟩
      obtain ⟨k, hk⟩ : ∃ k, 1 + a = k := ⟨_, rfl⟩
      obtain ⟨r, hr⟩ : ∃ r, j % 16 = r := ⟨_, rfl⟩
      have wq : wrap64 ((j : Int).tdiv 16) = (a : Int) := by rw [Int.tdiv_eq_ediv_of_nonneg (by omega)]; exact (IntWalk.wrap64_in _ (by omega)).trans (by omega)
      have wq' : IntKind.i64.wrap ((j : Int) / 16) = (a : Int) := (IntWalk.i64_in _ (by omega)).trans (by omega)
      have wq1 : IntKind.i64.wrap (1 + (a : Int)) = (k : Int) := (IntWalk.i64_in _ (by omega)).trans (by omega)
      have wr : (j : Int).tmod 16 = (r : Int) := by rw [Int.tmod_eq_emod_of_nonneg (by omega)]; omega
      have wi0 : (0 : Int) ≤ (k : Int) := by omega
      have wi1 : (k : Int) < 17 := by omega
      rw [ha, hk] at h1
      have HTW : Hid (s.P.getD k 0 * 16 + (r : Int) = ((tWord s j : Nat) : Int)) := Lib.hid (by unfold tWord; rw [ha, hk, hr]; omega)
      have hb16 : 0 ≤ s.P.getD k 0 ∧ s.P.getD k 0 < 1024 := by omega
      obtain ⟨t1, ht1⟩ : ∃ x, s.P.getD k 0 = x := ⟨_, rfl⟩
      rw [ht1] at HTW hb16
      have HT1 := Lib.hid ht1
      have wm := IntWalk.i64_in (t1 * 16) (by omega)
      have ws : IntKind.i64.wrap (t1 * 16 + (r : Int)) = ((tWord s j : Nat) : Int) := (IntWalk.i64_in _ (by omega)).trans HTW.out
      rw [Int.toNat_natCast]
      obtain ⟨F1, hF1⟩ : ∃ F1, tDropF s (j : Int) = F1 := ⟨_, rfl⟩
      rw [hF1]
      unfold tDropF at hF1
      obtain ⟨⟨ef, et, ew, eu⟩, he⟩ : ∃ e, tEnt s (j : Int) = e := ⟨_, rfl⟩
      rw [he] at HEN ht hF1
      unfold Ent.v at HEN
      dsimp only at HEN ht hF1
      have HF1 := Lib.hid hF1
      subst ht
      clear hE h hi hp he hpg h1 hP hn HR hF1 ht1 ha hk hr hj
      go_enter Tryd.func42, Tryd.ntmps42
      go_wp2_with fail
      refine (HPA.out _).mono ?_
      rintro y w1 ⟨rfl, rfl⟩
      go_wp2_with fail
      refine HEN.out.mono ?_
      rintro y w2 ⟨rfl, hb2⟩
      have HB2 := Lib.hid (hb2.alloc hb2.size (.cells #[.int .i64 ef, .bool true, .bool ew, .bool eu] 68))
      have HB2d := Lib.hid HB2.out.drew
      have HH2 := Lib.hid (HH.out.below HB2.out)
      obtain ⟨-, c1, -, -, -⟩ := HH2.out.cells
      have hnew := blk_new w2 (.cells #[.int .i64 ef, .bool true, .bool ew, .bool eu] 68)
      have ce0 := blk_cell hnew 0
      have ltb := blk_lt HH2.out.row
      cases ew
      · have HU := Lib.hid (funuse_any E s.F p.fb p.fg s.n ef _ HFB.out ((HEE.out _ (Only.of_below HB2d.out))) (HH.out.below HB2d.out).fr)
        clear hb2 hnew
        go_wp2_with fail
        go_region_with (first | (go_at_call 25; refine HU.out.mono ?_; rintro e w3 ⟨rfl, hf3, ho3⟩))
        all_goals
          have HO3 := Lib.hid ((Only.of_below HB2d.out).trans (zw_f ho3))
          have HH3 : Hid (PtAt w3 p { s with F := F1 }) := Lib.hid ((HH.out.below HB2d.out).fr' ho3 (by rw [← HF1.out]; exact hf3))
          obtain ⟨c0, -, -, -, c4⟩ := HH3.out.cells
          obtain ⟨g, cap, hl, hg, hcell⟩ := HH3.out.list HP17.out
          rw [hl] at c4
          have ct := hcell k (by omega)
          have ct1 : w3.cell? ⟨g, k, none⟩ = some (.int .i64 t1) := ct.trans (by rw [HT1.out])
          have ltb := blk_lt HH3.out.row
          have HW := Lib.hid (fun wx (hx : Below w3.heap.size w3 wx) => mm_write s.M p.mb s.n p.mv ((tWord s j : Nat) : Int) 0 wx (HH3.out.below hx).mem)
          clear hf3 ho3 hl hcell c1 ce0 ct
          go_wp2_with fail
          go_region_with (first | (go_at_call 81; refine (HW.out _ (by first | exact (Below.refl _ _).drew | exact Below.refl _ _)).mono ?_; rintro e w4 ⟨rfl, hm4, ho4⟩))
          all_goals
            have HO4 := Lib.hid (HO3.out.trans ((Only.refl _ _).drew.trans (zw_m ho4)))
            have HH4 := Lib.hid ((HH3.out.below (Below.refl _ _).drew).mem' ho4 hm4)
            clear hm4 ho4
            go_wp2
            go_ret
            exact ⟨rfl, HH4.out, HO4.out⟩
      · have HU := Lib.hid (funwrite_any E s.F p.fb p.fg s.n ef _ HFB.out ((HEE.out _ (Only.of_below HB2d.out))) (HH.out.below HB2d.out).fr)
        clear hb2 hnew
        go_wp2_with fail
        go_region_with (first | (go_at_call 26; refine HU.out.mono ?_; rintro e w3 ⟨rfl, hf3, ho3⟩))
        all_goals
          have HO3 := Lib.hid ((Only.of_below HB2d.out).trans (zw_f ho3))
          have HH3 : Hid (PtAt w3 p { s with F := F1 }) := Lib.hid ((HH.out.below HB2d.out).fr' ho3 (by rw [← HF1.out]; exact hf3))
          obtain ⟨c0, -, -, -, c4⟩ := HH3.out.cells
          obtain ⟨g, cap, hl, hg, hcell⟩ := HH3.out.list HP17.out
          rw [hl] at c4
          have ct := hcell k (by omega)
          have ct1 : w3.cell? ⟨g, k, none⟩ = some (.int .i64 t1) := ct.trans (by rw [HT1.out])
          have ltb := blk_lt HH3.out.row
          have HW := Lib.hid (fun wx (hx : Below w3.heap.size w3 wx) => mm_write s.M p.mb s.n p.mv ((tWord s j : Nat) : Int) 0 wx (HH3.out.below hx).mem)
          clear hf3 ho3 hl hcell c1 ce0 ct
          go_wp2_with fail
          go_region_with (first | (go_at_call 81; refine (HW.out _ (by first | exact (Below.refl _ _).drew | exact Below.refl _ _)).mono ?_; rintro e w4 ⟨rfl, hm4, ho4⟩))
          all_goals
            have HO4 := Lib.hid (HO3.out.trans ((Only.refl _ _).drew.trans (zw_m ho4)))
            have HH4 := Lib.hid ((HH3.out.below (Below.refl _ _).drew).mem' ho4 hm4)
            clear hm4 ho4
            go_wp2
            go_ret
            exact ⟨rfl, HH4.out, HO4.out⟩
    · have HR : Hid (tDrop s page = (s, 0)) := Lib.hid (by unfold tDrop; rw [if_pos hp, if_neg ht])
      rw [HR.out]
      have HH := Lib.hid h
      obtain ⟨⟨ef, et, ew, eu⟩, he⟩ : ∃ e, tEnt s page = e := ⟨_, rfl⟩
      rw [he] at HEN ht
      unfold Ent.v at HEN
      dsimp only at HEN ht
      obtain rfl : et = false := by simpa using ht
      clear hE h hi hp he ht HR
      go_enter Tryd.func42, Tryd.ntmps42
      go_wp2_with fail
      refine (HPA.out _).mono ?_
      rintro y w1 ⟨rfl, rfl⟩
      go_wp2_with fail
      refine HEN.out.mono ?_
      rintro y w2 ⟨rfl, hb2⟩
      have HB2 := Lib.hid (hb2.alloc hb2.size (.cells #[.int .i64 ef, .bool false, .bool ew, .bool eu] 68))
      clear hb2
      go_wp2
      go_ret
      exact ⟨rfl, HH.out.below HB2.out, Only.of_below HB2.out⟩
  · have HR : Hid (tDrop s page = (s, 103)) := Lib.hid (by unfold tDrop; rw [if_neg hp])
    rw [HR.out]
    rw [show isPage page = false by simpa using hp] at HPA
    have HH := Lib.hid h
    have e2 : w.cell? ⟨0, 0, none⟩ = some (errV (E 2)) := ((hE w (Only.refl _ _)).1 2 (by decide)).1
    clear hE h hi hp HR
    go_enter Tryd.func42, Tryd.ntmps42
    go_wp2_with fail
    refine (HPA.out _).mono ?_
    rintro y w1 ⟨rfl, rfl⟩
    go_wp2
    go_ret
    exact ⟨rfl, HH.out, Only.refl _ _⟩
end Go.Proofs.YtaoaachgnnengaaDoor

/-
  pt.Tables.set.
-/
namespace Go.Proofs.YtaoaachgnnengaaDoor
open Go.RowKit

set_option maxRecDepth 100000 in
set_option maxHeartbeats 16000000 in
theorem tset_false (E : Nat → Addr) (p : Pl) (s : Ts) (m : Int) (j : Nat) (frame : Int) (w : World) (hE : ErrsK E p w) (h : PtAt w p s) (hi : TInv m s) (hm : m + 1 ≤ 1000000) (hj : j < 256) :
    Calls Tryd.prog 79 #[.pointer (some ⟨p.tb, 0, none⟩), .int .i64 (j : Int), .int .i64 frame, .bool false] w (PtQ E p (tSet s (j : Int) frame false) w) := by
  have HH := Lib.hid h
  have HEE := Lib.hid hE
  have HU : Hid (Calls Tryd.prog 22 #[.pointer (some ⟨p.fb, 0, none⟩), .int .i64 frame] w (FrQ 95 33 E p.fb p.fg s.n (tSetR s frame false) w)) := Lib.hid (fuse_any E s.F p.fb p.fg s.n frame w (frOk_b hi.fok (by omega)) (hE _ (Only.refl _ _)) h.fr)
  have HI1 := Lib.hid (tSetR_inv hi frame false)
  obtain ⟨-, c1, -, -, -⟩ := h.cells
  have ltb := blk_lt h.row
  by_cases hc : (tSetR s frame false).c = 0
  · have HR : Hid (tSet s (j : Int) frame false = ({ (tDrop { s with F := (tSetR s frame false).l } (j : Int)).1 with M := putE (tDrop { s with F := (tSetR s frame false).l } (j : Int)).1.M (s.P.getD (1 + (j : Int).toNat / 16) 0) (((j : Int).toNat % 16 : Nat) : Int) ⟨frame, true, false, true⟩ }, 0)) := Lib.hid (by unfold tSet; rw [if_pos hc])
    rw [HR.out, Int.toNat_natCast]
    obtain ⟨R, hR⟩ : ∃ R, tSetR s frame false = R := ⟨_, rfl⟩
    rw [hR] at HU HI1 hc ⊢
    obtain ⟨Rl, Rn, Rc⟩ := R
    dsimp only at hc HI1 ⊢
    subst hc
    have HDP := Lib.hid (tDrop_P { s with F := Rl } (j : Int))
    have HI2 := Lib.hid (tDrop_inv HI1.out (j : Int))
    have h1 := hi.pin (1 + j / 16) (by have := hi.p17; omega)
    have hn := hi.n1
    have HP17 := Lib.hid hi.p17
    obtain ⟨⟨S2, x2⟩, hS2⟩ : ∃ r, tDrop { s with F := Rl } (j : Int) = r := ⟨_, rfl⟩
    have HTD : Hid (∀ wx, Only p.zw w wx → PtAt wx p { s with F := Rl } → Calls Tryd.prog 42 #[.pointer (some ⟨p.tb, 0, none⟩), .int .i64 (j : Int)] wx (PtQ E p (S2, x2) wx)) := Lib.hid fun wx ho hx => hS2 ▸ tdrop_any E p { s with F := Rl } (m + 1) (j : Int) wx (HEE.out.next ho) hx HI1.out hm
    rw [hS2] at HDP HI2 ⊢
    dsimp only at HDP HI2 ⊢
    obtain ⟨a, k, r, ha, hk, hr, wq, wq', wq1, wr, wi0, wi1, hr16⟩ := page_parts j hj
    rw [ha, hk] at h1 ⊢
    rw [hr]
    obtain ⟨t1, ht1⟩ : ∃ x, s.P.getD k 0 = x := ⟨_, rfl⟩
    rw [ht1] at h1 ⊢
    have HT1 := Lib.hid ht1
    have hb16 : 0 ≤ t1 ∧ t1 < 1024 := by omega
    clear hE h hi HR h1 hn hR hS2 ht1 hj ha hk hr
    go_enter Tryd.func79, Tryd.ntmps79
    go_wp2_with fail
    refine HU.out.mono ?_
    rintro y w3 ⟨rfl, hf3, ho3⟩
    have HO3 := Lib.hid (zw_f ho3)
    have HH3 : Hid (PtAt w3 p { s with F := Rl }) := Lib.hid (HH.out.fr' ho3 hf3)
    clear hf3 ho3 c1 ltb
    unfold errC
    rw [if_pos rfl]
    go_wp2_with fail
    refine (HTD.out _ HO3.out HH3.out).mono ?_
    rintro y w4 ⟨rfl, hp4, ho4⟩
    have HH4 : Hid (PtAt w4 p S2) := Lib.hid hp4
    have HO4 := Lib.hid (HO3.out.trans ho4)
    obtain ⟨c0, -, -, -, c4⟩ := HH4.out.cells
    obtain ⟨g, cap, hl, hg, hcell⟩ := HH4.out.list (by rw [HDP.out.1]; exact HP17.out)
    rw [hl] at c4
    have ct1 : w4.cell? ⟨g, k, none⟩ = some (.int .i64 t1) := (hcell k (by omega)).trans (by rw [HDP.out.1, ← HT1.out])
    have ltb := blk_lt HH4.out.row
    have HW : Hid (∀ wx, Below w4.heap.size w4 wx → Calls Tryd.prog 65 #[.pointer (some ⟨p.mb, 0, none⟩), .int .i64 t1, .int .i64 (r : Int), .agg #[.int .i64 frame, .bool true, .bool false, .bool true]] wx fun y w' => y = .returned (.tuple #[]) ∧ MAt w' p.mb p.mv S2.n (putE S2.M t1 (r : Int) ⟨frame, true, false, true⟩) ∧ Only (fun k => inRow p.mv k) wx w') := Lib.hid fun wx hx => twrite_any S2.M p.mb S2.n p.mv t1 (r : Int) ⟨frame, true, false, true⟩ wx (HH4.out.below hx).mem hb16 (by omega)
    clear hp4 ho4 hl hcell hb16 hr16
    go_wp2_with fail
    go_region_with (first | (go_at_call 65; refine (HW.out _ (by first | exact (Below.refl _ _).drew | exact Below.refl _ _)).mono ?_; rintro e w5 ⟨rfl, hm5, ho5⟩))
    all_goals
      have HO5 := Lib.hid (HO4.out.trans ((Only.refl _ _).drew.trans (zw_m ho5)))
      have HH5 := Lib.hid ((HH4.out.below (Below.refl _ _).drew).mem' ho5 hm5)
      clear hm5 ho5
      go_wp2
      go_ret
      exact ⟨rfl, HH5.out, HO5.out⟩
  · have HR : Hid (tSet s (j : Int) frame false = (s, (tSetR s frame false).c)) := Lib.hid (by unfold tSet; rw [if_neg hc])
    have HS := Lib.hid (tSetR_same s frame false hc)
    rw [HR.out]
    obtain ⟨R, hR⟩ : ∃ R, tSetR s frame false = R := ⟨_, rfl⟩
    rw [hR] at HU HS hc ⊢
    clear hE h hi HR hR HI1
    go_enter Tryd.func79, Tryd.ntmps79
    go_wp2_with fail
    refine HU.out.mono ?_
    rintro y w3 ⟨rfl, hf3, ho3⟩
    have HO3 := Lib.hid (zw_f ho3)
    have HH3 : Hid (PtAt w3 p s) := Lib.hid (HH.out.fr' ho3 (HS.out ▸ hf3))
    have HEC : Hid (errC E R.c = errV (E (R.c - 101).toNat)) := Lib.hid (by unfold errC; rw [if_neg hc])
    clear hf3 ho3 c1 ltb hc
    rw [HEC.out]
    go_wp2
    go_ret
    exact ⟨by rw [HEC.out]; rfl, HH3.out, HO3.out⟩

set_option maxRecDepth 100000 in
set_option maxHeartbeats 16000000 in
theorem tset_true (E : Nat → Addr) (p : Pl) (s : Ts) (m : Int) (j : Nat) (frame : Int) (w : World) (hE : ErrsK E p w) (h : PtAt w p s) (hi : TInv m s) (hm : m + 1 ≤ 1000000) (hj : j < 256) :
    Calls Tryd.prog 79 #[.pointer (some ⟨p.tb, 0, none⟩), .int .i64 (j : Int), .int .i64 frame, .bool true] w (PtQ E p (tSet s (j : Int) frame true) w) := by
  have HH := Lib.hid h
  have HEE := Lib.hid hE
  have HU : Hid (Calls Tryd.prog 21 #[.pointer (some ⟨p.fb, 0, none⟩), .int .i64 frame] w (FrQ 95 33 E p.fb p.fg s.n (tSetR s frame true) w)) := Lib.hid (fwrite_any E s.F p.fb p.fg s.n frame w (frOk_b hi.fok (by omega)) (hE _ (Only.refl _ _)) h.fr)
  have HI1 := Lib.hid (tSetR_inv hi frame true)
  obtain ⟨-, c1, -, -, -⟩ := h.cells
  have ltb := blk_lt h.row
  by_cases hc : (tSetR s frame true).c = 0
  · have HR : Hid (tSet s (j : Int) frame true = ({ (tDrop { s with F := (tSetR s frame true).l } (j : Int)).1 with M := putE (tDrop { s with F := (tSetR s frame true).l } (j : Int)).1.M (s.P.getD (1 + (j : Int).toNat / 16) 0) (((j : Int).toNat % 16 : Nat) : Int) ⟨frame, true, true, true⟩ }, 0)) := Lib.hid (by unfold tSet; rw [if_pos hc])
    rw [HR.out, Int.toNat_natCast]
    obtain ⟨R, hR⟩ : ∃ R, tSetR s frame true = R := ⟨_, rfl⟩
    rw [hR] at HU HI1 hc ⊢
    obtain ⟨Rl, Rn, Rc⟩ := R
    dsimp only at hc HI1 ⊢
    subst hc
    have HDP := Lib.hid (tDrop_P { s with F := Rl } (j : Int))
    have HI2 := Lib.hid (tDrop_inv HI1.out (j : Int))
    have h1 := hi.pin (1 + j / 16) (by have := hi.p17; omega)
    have hn := hi.n1
    have HP17 := Lib.hid hi.p17
    obtain ⟨⟨S2, x2⟩, hS2⟩ : ∃ r, tDrop { s with F := Rl } (j : Int) = r := ⟨_, rfl⟩
    have HTD : Hid (∀ wx, Only p.zw w wx → PtAt wx p { s with F := Rl } → Calls Tryd.prog 42 #[.pointer (some ⟨p.tb, 0, none⟩), .int .i64 (j : Int)] wx (PtQ E p (S2, x2) wx)) := Lib.hid fun wx ho hx => hS2 ▸ tdrop_any E p { s with F := Rl } (m + 1) (j : Int) wx (HEE.out.next ho) hx HI1.out hm
    rw [hS2] at HDP HI2 ⊢
    dsimp only at HDP HI2 ⊢
    obtain ⟨a, k, r, ha, hk, hr, wq, wq', wq1, wr, wi0, wi1, hr16⟩ := page_parts j hj
    rw [ha, hk] at h1 ⊢
    rw [hr]
    obtain ⟨t1, ht1⟩ : ∃ x, s.P.getD k 0 = x := ⟨_, rfl⟩
    rw [ht1] at h1 ⊢
    have HT1 := Lib.hid ht1
    have hb16 : 0 ≤ t1 ∧ t1 < 1024 := by omega
    clear hE h hi HR h1 hn hR hS2 ht1 hj ha hk hr
    go_enter Tryd.func79, Tryd.ntmps79
    go_wp2_with fail
    refine HU.out.mono ?_
    rintro y w3 ⟨rfl, hf3, ho3⟩
    have HO3 := Lib.hid (zw_f ho3)
    have HH3 : Hid (PtAt w3 p { s with F := Rl }) := Lib.hid (HH.out.fr' ho3 hf3)
    clear hf3 ho3 c1 ltb
    unfold errC
    rw [if_pos rfl]
    go_wp2_with fail
    refine (HTD.out _ HO3.out HH3.out).mono ?_
    rintro y w4 ⟨rfl, hp4, ho4⟩
    have HH4 : Hid (PtAt w4 p S2) := Lib.hid hp4
    have HO4 := Lib.hid (HO3.out.trans ho4)
    obtain ⟨c0, -, -, -, c4⟩ := HH4.out.cells
    obtain ⟨g, cap, hl, hg, hcell⟩ := HH4.out.list (by rw [HDP.out.1]; exact HP17.out)
    rw [hl] at c4
    have ct1 : w4.cell? ⟨g, k, none⟩ = some (.int .i64 t1) := (hcell k (by omega)).trans (by rw [HDP.out.1, ← HT1.out])
    have ltb := blk_lt HH4.out.row
    have HW : Hid (∀ wx, Below w4.heap.size w4 wx → Calls Tryd.prog 65 #[.pointer (some ⟨p.mb, 0, none⟩), .int .i64 t1, .int .i64 (r : Int), .agg #[.int .i64 frame, .bool true, .bool true, .bool true]] wx fun y w' => y = .returned (.tuple #[]) ∧ MAt w' p.mb p.mv S2.n (putE S2.M t1 (r : Int) ⟨frame, true, true, true⟩) ∧ Only (fun k => inRow p.mv k) wx w') := Lib.hid fun wx hx => twrite_any S2.M p.mb S2.n p.mv t1 (r : Int) ⟨frame, true, true, true⟩ wx (HH4.out.below hx).mem hb16 (by omega)
    clear hp4 ho4 hl hcell hb16 hr16
    go_wp2_with fail
    go_region_with (first | (go_at_call 65; refine (HW.out _ (by first | exact (Below.refl _ _).drew | exact Below.refl _ _)).mono ?_; rintro e w5 ⟨rfl, hm5, ho5⟩))
    all_goals
      have HO5 := Lib.hid (HO4.out.trans ((Only.refl _ _).drew.trans (zw_m ho5)))
      have HH5 := Lib.hid ((HH4.out.below (Below.refl _ _).drew).mem' ho5 hm5)
      clear hm5 ho5
      go_wp2
      go_ret
      exact ⟨rfl, HH5.out, HO5.out⟩
  · have HR : Hid (tSet s (j : Int) frame true = (s, (tSetR s frame true).c)) := Lib.hid (by unfold tSet; rw [if_neg hc])
    have HS := Lib.hid (tSetR_same s frame true hc)
    rw [HR.out]
    obtain ⟨R, hR⟩ : ∃ R, tSetR s frame true = R := ⟨_, rfl⟩
    rw [hR] at HU HS hc ⊢
    clear hE h hi HR hR HI1
    go_enter Tryd.func79, Tryd.ntmps79
    go_wp2_with fail
    refine HU.out.mono ?_
    rintro y w3 ⟨rfl, hf3, ho3⟩
    have HO3 := Lib.hid (zw_f ho3)
    have HH3 : Hid (PtAt w3 p s) := Lib.hid (HH.out.fr' ho3 (HS.out ▸ hf3))
    have HEC : Hid (errC E R.c = errV (E (R.c - 101).toNat)) := Lib.hid (by unfold errC; rw [if_neg hc])
    clear hf3 ho3 c1 ltb hc
    rw [HEC.out]
    go_wp2
    go_ret
    exact ⟨by rw [HEC.out]; rfl, HH3.out, HO3.out⟩

end Go.Proofs.YtaoaachgnnengaaDoor

/-
  pt.Tables.Add.
-/
namespace Go.Proofs.YtaoaachgnnengaaDoor
open Go.RowKit

set_option maxHeartbeats 400000 in
theorem pm_full (l : List Int) (b : Nat) (v : Value) (w : World) (h : PAt w b v l) : Calls Tryd.prog 75 #[.pointer (some ⟨b, 0, none⟩)] w fun e w' => e = .returned (.bool (decide (512 ≤ l.length))) ∧ w = w' := by
  have c := h.cell
  obtain ⟨ao, cap, rfl, -⟩ := h.slice
  have HD : Hid (decide ((512 : Int) ≤ (l.length : Int)) = decide (512 ≤ l.length)) := Lib.hid (by simp only [decide_eq_decide]; omega)
  clear h
  go_enter Tryd.func75, Tryd.ntmps75
  go_wp2
  go_ret
  exact ⟨by rw [← HD.out]; rfl, rfl⟩

/-- what Add answers -/
def AddQ (E : Nat → Addr) (p : Pl) (s : Ts) (w : World) (e : Ending) (w' : World) : Prop := ∃ pv', e = .returned (.tuple #[.int .i64 (tAdd s).2.1, errC E (tAdd s).2.2]) ∧ PtAt w' { p with pv := pv' } (tAdd s).1 ∧ Only p.zw w w' ∧ ∀ k, inRow pv' k → inRow p.pv k ∨ w.heap.size ≤ k
theorem frAlloc_ok {F : List Fr} {who : Int} (h : (frAlloc F who).c = 0) : ∃ i, i < F.length ∧ (F.getD i default).owner = -1 ∧ frAlloc F who = ⟨F.set i ⟨who, (F.getD i default).kind, (F.getD i default).wr, (F.getD i default).us⟩, (i : Int), 0⟩ := by
  unfold frAlloc at h ⊢
  split
  · rename_i hw
    rw [if_pos hw] at h
    cases hf : frFree F with
    | none => rw [hf] at h; exact absurd (show (113 : Int) = 0 from h) (by decide)
    | some i =>
      obtain ⟨h1, h2, -⟩ := frFree_some hf
      exact ⟨i, h1, h2, rfl⟩
  · rename_i hw
    rw [if_neg hw] at h
    exact absurd (show (103 : Int) = 0 from h) (by decide)
/-- the map has another one -/
theorem PtAt.pm' {w w' : World} {p : Pl} {s : Ts} {P' : List Int} {pv' : Value} (h : PtAt w p s) (ho : Only (fun k => k = p.pb ∨ inRow p.pv k) w w') (hm : PAt w' p.pb pv' P') (hr : ∀ k, inRow pv' k → inRow p.pv k ∨ w.heap.size ≤ k) (hT : P'.take 17 = s.P.take 17) : PtAt w' { p with pv := pv' } { s with P := P' } := by
  have hz3 : ∀ k, Pl.z3 { p with pv := pv' } k → p.z3 k ∨ w.heap.size ≤ k := fun k hk => by
    rcases hk with hk | hk
    · exact .inl (.inl hk)
    · rcases hr k hk with h | h
      · exact .inl (.inr h)
      · exact .inr h
  have lt0 : ∀ k, p.z0 k → k < w.heap.size := fun k hk => by
    rcases hk with rfl | rfl | rfl | hk
    · exact blk_lt h.row
    · exact blk_lt h.mem.1
    · exact h.fr.lt.1
    · exact own_lt h.tl hk
  exact ⟨ho.blk h.row (fun h' => h.apart.a03 p.tb (.inl rfl) h'), h.mem.only ho (fun h' => h.apart.a03 p.mb (.inr (.inl rfl)) h') (fun k hk h' => h.apart.a13 _ hk h'), h.fr.only ho (fun h' => h.apart.a03 p.fb (.inr (.inr (.inl rfl))) h') (fun h' => h.apart.a23 p.fg rfl h'), hm, by
      show w'.ownsRow 0 3 1 p.lv 17 (ints (P'.take 17))
      rw [hT]
      exact own_only h.tl ho (fun k hk h' => h.apart.a03 k (.inr (.inr (.inr hk))) h'),
    ⟨h.apart.a01, h.apart.a02, fun k h0 h3 => by
      rcases hz3 k h3 with h' | h'
      · exact h.apart.a03 k h0 h'
      · have := lt0 k h0; omega, h.apart.a12, fun k h0 h3 => by
      rcases hz3 k h3 with h' | h'
      · exact h.apart.a13 k h0 h'
      · have := own_lt h.mem.2.1 (show inRow p.mv k from h0); omega, fun k h0 h3 => by
      rcases hz3 k h3 with h' | h'
      · exact h.apart.a23 k h0 h'
      · have := h.fr.lt.2; rw [show k = p.fg from h0] at h'; omega⟩⟩
theorem set_owner (F : List Fr) (i : Nat) (x : Fr) (hi : i < F.length) (j : Nat) : ((F.set i x).getD j default).owner = if j = i then x.owner else (F.getD j default).owner := by
  rw [List.getD_eq_getElem?_getD, List.getElem?_set]
  by_cases h : i = j
  · subst h
    simp [hi]
  · rw [if_neg h, if_neg (fun e => h e.symm), ← List.getD_eq_getElem?_getD]
theorem tAdd_inv {m : Int} {s : Ts} (h : TInv m s) (hw : s.who ≠ -1) : TInv (m + 1) (tAdd s).1 := by
  unfold tAdd
  split
  · exact h.mono
  · rename_i hl
    split
    · rename_i hc
      obtain ⟨i, hi, ho, hR⟩ := frAlloc_ok hc
      have hRR : tAddR s = _ := hR
      have hin := frAlloc_in h.fok s.who
      have hP : ∀ j, j < s.P.length → (s.P.getD j 0).toNat ≠ i := fun j hj e => (h.pin j hj).2.2 (e ▸ ho)
      have hgP : ∀ j, (s.P ++ [(i : Int)]).getD j 0 = if j < s.P.length then s.P.getD j 0 else if j = s.P.length then (i : Int) else 0 := fun j => by
        rw [List.getD_eq_getElem?_getD, List.getElem?_append]
        split
        · rw [List.getD_eq_getElem?_getD]
        · rename_i hj
          by_cases e : j = s.P.length
          · subst e; simp
          · rw [if_neg e, List.getElem?_eq_none (by simp; omega)]
            rfl
      rw [hRR]
      have hlf := h.lf
      have hfl : ∀ t, (fillL s.M i []).getD t 0 = if 16 * i ≤ t ∧ t < 16 * i + 16 then 0 else s.M.getD t 0 := fun t => by
        rw [fillL_get s.M s.n i [] t h.lm (by omega) (by decide)]
        split
        · simp
        · rfl
      refine ⟨h.n1, ?_, ?_, fun j => ?_, ?_, ?_, ?_, fun j hj => ?_, fun j k hj hk e => ?_, fun k hk => ?_⟩
      · show (fillL s.M i []).length = _
        rw [fillL_len]; exact h.lm
      · show (s.F.set i _).length = _
        rw [List.length_set]; exact h.lf
      · show W32 ((fillL s.M i []).getD j 0)
        rw [hfl]
        split
        · exact w32_zero
        · exact h.w32 j
      · have := hin
        rw [show frAlloc s.F s.who = _ from hR] at this
        exact this
      · show 17 ≤ (s.P ++ [(i : Int)]).length
        rw [List.length_append]; have := h.p17; omega
      · show (s.P ++ [(i : Int)]).length ≤ 512
        rw [List.length_append]; simp; omega
      · have hj' : j < s.P.length + 1 := by have := hj; simp at this; exact this
        show 0 ≤ (s.P ++ [(i : Int)]).getD j 0 ∧ (s.P ++ [(i : Int)]).getD j 0 < (s.n : Int) ∧ ((s.F.set i _).getD ((s.P ++ [(i : Int)]).getD j 0).toNat default).owner ≠ -1
        rw [hgP j]
        by_cases hjl : j < s.P.length
        · rw [if_pos hjl]
          have hp := h.pin j hjl
          refine ⟨hp.1, hp.2.1, ?_⟩
          rw [set_owner _ _ _ hi, if_neg (hP j hjl)]
          exact hp.2.2
        · rw [if_neg hjl, if_pos (by omega)]
          refine ⟨by omega, by omega, ?_⟩
          rw [Int.toNat_natCast, set_owner _ _ _ hi, if_pos rfl]
          exact hw
      · have hj' : j < s.P.length + 1 := by have := hj; simp at this; exact this
        have hk' : k < s.P.length + 1 := by have := hk; simp at this; exact this
        have e' : (s.P ++ [(i : Int)]).getD j 0 = (s.P ++ [(i : Int)]).getD k 0 := e
        rw [hgP j, hgP k] at e'
        by_cases hjl : j < s.P.length
        · rw [if_pos hjl] at e'
          by_cases hkl : k < s.P.length
          · rw [if_pos hkl] at e'
            exact h.pne j k hjl hkl e'
          · rw [if_neg hkl, if_pos (by omega)] at e'
            exact absurd (by rw [e']; simp) (hP j hjl)
        · rw [if_neg hjl, if_pos (by omega)] at e'
          by_cases hkl : k < s.P.length
          · rw [if_pos hkl] at e'
            exact absurd (by rw [← e']; simp) (hP k hkl)
          · omega
      · have h17 := h.p17
        show (fillL s.M i []).getD (16 * ((s.P ++ [(i : Int)]).getD 0 0).toNat + k) 0 = entW ((s.P ++ [(i : Int)]).getD (k + 1) 0) true true true
        rw [hgP 0, hgP (k + 1), if_pos (by omega), if_pos (by omega), hfl, if_neg (by have := hP 0 (by omega); omega)]
        exact h.root k hk
    · exact h.mono

set_option maxRecDepth 100000 in
set_option maxHeartbeats 6400000 in
theorem tadd_many (E : Nat → Addr) (p : Pl) (s : Ts) (w : World) (hE : ErrsK E p w) (h : PtAt w p s) (hl : 512 ≤ s.P.length) :
    Calls Tryd.prog 38 #[.pointer (some ⟨p.tb, 0, none⟩)] w (AddQ E p s w) := by
  have HR : Hid (tAdd s = (s, 0, 104)) := Lib.hid (by unfold tAdd; rw [if_pos hl])
  unfold AddQ
  rw [HR.out]
  have HH := Lib.hid h
  have HF := Lib.hid (pm_full s.P p.pb p.pv w h.pm)
  rw [decide_eq_true hl] at HF
  have e3 : w.cell? ⟨5, 0, none⟩ = some (errV (E 3)) := ((hE w (Only.refl _ _)).1 3 (by decide)).1
  have g3 := World.block_lt_of_cell? _ _ e3
  obtain ⟨-, -, -, c3, -⟩ := h.cells
  clear hE h hl HR
  go_enter Tryd.func38, Tryd.ntmps38
  go_wp2_with fail
  refine HF.out.mono ?_
  rintro y w1 ⟨rfl, rfl⟩
  go_wp2_with fail
  go_quiet (fail)
  go_wp2
  go_ret2
  exact ⟨p.pv, rfl, HH.out.below (below_drewN (Below.refl _ _) _), Only.of_below (below_drewN (Below.refl _ _) _), fun _ h => .inl h⟩

set_option maxRecDepth 100000 in
set_option maxHeartbeats 6400000 in
theorem tadd_no (E : Nat → Addr) (p : Pl) (s : Ts) (w : World) (hE : ErrsK E p w) (h : PtAt w p s) (hl : ¬ 512 ≤ s.P.length) (hc : (tAddR s).c ≠ 0) :
    Calls Tryd.prog 38 #[.pointer (some ⟨p.tb, 0, none⟩)] w (AddQ E p s w) := by
  have HR : Hid (tAdd s = (s, 0, (tAddR s).c)) := Lib.hid (by unfold tAdd; rw [if_neg hl, if_neg hc])
  have hFs : (tAddR s).l = s.F := by
    unfold tAddR frAlloc at hc ⊢
    split
    · rename_i hw
      rw [if_pos hw] at hc
      cases hf : frFree s.F with
      | none => rfl
      | some i => rw [hf] at hc; exact absurd rfl hc
    · rfl
  unfold AddQ
  rw [HR.out]
  have HH := Lib.hid h
  have HF := Lib.hid (pm_full s.P p.pb p.pv w h.pm)
  rw [decide_eq_false hl] at HF
  have HA : Hid (∀ wx, Below w.heap.size w wx → Calls Tryd.prog 14 #[.pointer (some ⟨p.fb, 0, none⟩), .int .i64 s.who] wx (FrQA 95 33 E p.fb p.fg s.n (tAddR s) wx)) := Lib.hid fun wx hx => falloc_any E s.F p.fb p.fg s.n s.who wx (hE wx (Only.of_below hx)) (h.below hx).fr
  have HFS := Lib.hid hFs
  obtain ⟨R, hR⟩ : ∃ R, tAddR s = R := ⟨_, rfl⟩
  rw [hR] at HA HFS hc ⊢
  have HEC : Hid (errC E R.c = errV (E (R.c - 101).toNat)) := Lib.hid (by unfold errC; rw [if_neg hc])
  obtain ⟨-, c1, c2, c3, -⟩ := h.cells
  have ltb := blk_lt h.row
  clear hE h hl HR hFs hR hc
  go_enter Tryd.func38, Tryd.ntmps38
  go_wp2_with fail
  refine HF.out.mono ?_
  rintro y w1 ⟨rfl, rfl⟩
  go_wp2_with fail
  go_region_with (first | (go_at_call 14; refine (HA.out _ (by first | exact (Below.refl _ _).drew | exact Below.refl _ _)).mono ?_; rintro e w2 ⟨rfl, hf2, ho2⟩))
  all_goals
    have HH2 : Hid (PtAt w2 p s) := Lib.hid ((HH.out.below (Below.refl _ _).drew).fr' ho2 (HFS.out ▸ hf2))
    have HO2 : Hid (Only p.zw w w2) := Lib.hid ((Only.refl _ _).drew.trans (zw_f ho2))
    clear hf2 ho2
    try rw [HEC.out]
    go_wp2_with fail
    go_wp2
    go_ret2
    exact ⟨p.pv, by rw [HEC.out]; rfl, HH2.out, HO2.out, fun _ h => .inl h⟩

set_option maxRecDepth 100000 in
set_option maxHeartbeats 16000000 in
theorem tadd_ok (E : Nat → Addr) (p : Pl) (s : Ts) (m : Int) (w : World) (hE : ErrsK E p w) (h : PtAt w p s) (hi : TInv m s) (hl : ¬ 512 ≤ s.P.length) (hc : (tAddR s).c = 0) :
    Calls Tryd.prog 38 #[.pointer (some ⟨p.tb, 0, none⟩)] w (AddQ E p s w) := by
  obtain ⟨i, hil, ho, hR0⟩ := frAlloc_ok hc
  obtain ⟨F1, hF1⟩ : ∃ F1, s.F.set i ⟨s.who, (s.F.getD i default).kind, (s.F.getD i default).wr, (s.F.getD i default).us⟩ = F1 := ⟨_, rfl⟩
  rw [hF1] at hR0
  have hR : tAddR s = ⟨F1, (i : Int), 0⟩ := hR0
  have HR : Hid (tAdd s = ({ s with F := F1, M := fillL s.M i [], P := s.P ++ [(i : Int)] }, (s.P.length : Int), 0)) := Lib.hid (by unfold tAdd; rw [if_neg hl, hR, if_pos rfl]; rfl)
  have hin : i < s.n := by rw [← hi.lf]; exact hil
  have hn1 := hi.n1
  have hnot : (i : Int) ∉ s.P := fun hmem => by
    obtain ⟨j, hj, e⟩ := mem_getD.1 hmem
    have := (hi.pin j hj).2.2
    rw [e, Int.toNat_natCast] at this
    exact this ho
  unfold AddQ
  rw [HR.out]
  have HH := Lib.hid h
  have HF := Lib.hid (pm_full s.P p.pb p.pv w h.pm)
  rw [decide_eq_false hl] at HF
  have HA : Hid (∀ wx, Below w.heap.size w wx → Calls Tryd.prog 14 #[.pointer (some ⟨p.fb, 0, none⟩), .int .i64 s.who] wx (FrQA 95 33 E p.fb p.fg s.n ⟨F1, (i : Int), 0⟩ wx)) := Lib.hid fun wx hx => hR0 ▸ falloc_any E s.F p.fb p.fg s.n s.who wx (hE wx (Only.of_below hx)) (h.below hx).fr
  have HFL : Hid (∀ wx, MAt wx p.mb p.mv s.n s.M → Calls Tryd.prog 64 #[.pointer (some ⟨p.mb, 0, none⟩), .int .i64 (i : Int), .slice none 0 0] wx fun e w' => e = .returned (.bool true) ∧ MAt w' p.mb p.mv s.n (fillL s.M i []) ∧ Only (fun k => inRow p.mv k) wx w') := Lib.hid fun wx hx => mm_fill_ok s.M [] p.mb s.n i 0 0 none p.mv wx hx hn1 hin (atL_nil _ _) rfl (by decide) (fun a h => by omega)
  have hfair : fairP (i : Int) = true := by simp [fairP]; omega
  have HAD : Hid (∀ wx, PAt wx p.pb p.pv s.P → Calls Tryd.prog 66 #[.pointer (some ⟨p.pb, 0, none⟩), .int .i64 (i : Int)] wx fun e w' => e = .returned (.tuple #[.int .i64 s.P.length, .nilIface]) ∧ ∃ v', PAt w' p.pb v' (s.P ++ [(i : Int)]) ∧ Only (fun k => k = p.pb ∨ inRow p.pv k) wx w' ∧ ∀ k, inRow v' k → inRow p.pv k ∨ wx.heap.size ≤ k) := Lib.hid fun wx hx => add_ok s.P p.pb p.pv (i : Int) wx hx hfair hnot (by omega)
  have HT : Hid ((s.P ++ [(i : Int)]).take 17 = s.P.take 17) := Lib.hid (by rw [List.take_append_of_le_length hi.p17])
  obtain ⟨-, c1, c2, c3, -⟩ := h.cells
  have ltb := blk_lt h.row
  clear hE h hi hl hc hil ho hR0 hF1 hR HR hin hn1 hnot hfair
  go_enter Tryd.func38, Tryd.ntmps38
  go_wp2_with fail
  refine HF.out.mono ?_
  rintro y w1 ⟨rfl, rfl⟩
  go_wp2_with fail
  go_region_with (first | (go_at_call 14; refine (HA.out _ (by first | exact (Below.refl _ _).drew | exact Below.refl _ _)).mono ?_; rintro e w2 ⟨rfl, hf2, ho2⟩))
  all_goals
    have HH2 : Hid (PtAt w2 p { s with F := F1 }) := Lib.hid ((HH.out.below (Below.refl _ _).drew).fr' ho2 hf2)
    have HO2 : Hid (Only p.zw w w2) := Lib.hid ((Only.refl _ _).drew.trans (zw_f ho2))
    obtain ⟨d0, -, -, d3, -⟩ := HH2.out.cells
    have ltb2 := blk_lt HH2.out.row
    clear hf2 ho2 c1 c2 c3
    try unfold errC
    try rw [if_pos rfl]
    go_wp2_with fail
    refine (HFL.out _ HH2.out.mem).mono ?_
    rintro y w3 ⟨rfl, hm3, ho3⟩
    have HH3 := Lib.hid (HH2.out.mem' ho3 hm3)
    have HO3 := Lib.hid (HO2.out.trans (zw_m ho3))
    obtain ⟨-, -, -, q3, -⟩ := HH3.out.cells
    have ltb3 := blk_lt HH3.out.row
    clear hm3 ho3 d0 d3
    go_wp2_with fail
    refine (HAD.out _ HH3.out.pm).mono ?_
    rintro y w4 ⟨rfl, v', hp4, ho4, hr4⟩
    have HH4 := Lib.hid (HH3.out.pm' ho4 hp4 hr4 HT.out)
    have HO4 : Hid (Only p.zw w w4) := Lib.hid (HO3.out.trans (ho4.mono fun k hk => .inl (by rcases hk with hk | hk; exact .inr (.inr (.inl hk)); exact .inr (.inr (.inr hk)))))
    have HR4 : Hid (∀ k, inRow v' k → inRow p.pv k ∨ w.heap.size ≤ k) := Lib.hid fun k hk => by
      rcases hr4 k hk with h | h
      · exact .inl h
      · exact .inr (Nat.le_trans HO3.out.size h)
    clear hp4 ho4 hr4 q3
    go_wp2
    go_ret2
    exact ⟨v', rfl, HH4.out, HO4.out, HR4.out⟩
theorem tadd_any (E : Nat → Addr) (p : Pl) (s : Ts) (m : Int) (w : World) (hE : ErrsK E p w) (h : PtAt w p s) (hi : TInv m s) :
    Calls Tryd.prog 38 #[.pointer (some ⟨p.tb, 0, none⟩)] w (AddQ E p s w) := by
  by_cases hl : 512 ≤ s.P.length
  · exact tadd_many E p s w hE h hl
  · by_cases hc : (tAddR s).c = 0
    · exact tadd_ok E p s m w hE h hi hl hc
    · exact tadd_no E p s w hE h hl hc
end Go.Proofs.YtaoaachgnnengaaDoor

/-
  Which pages are live: plain laws; pt.Tables.Live.
-/
namespace Go.Proofs.YtaoaachgnnengaaDoor
open Go.RowKit

theorem tWord_inj {m : Int} {s : Ts} (h : TInv m s) {a b : Nat} (ha : a < 256) (hb : b < 256) (e : tWord s a = tWord s b) : a = b := by
  have h1 := h.pin (1 + a / 16) (by have := h.p17; omega)
  have h2 := h.pin (1 + b / 16) (by have := h.p17; omega)
  unfold tWord at e
  have e1 : s.P.getD (1 + a / 16) 0 = s.P.getD (1 + b / 16) 0 := by omega
  have := h.pne _ _ (by have := h.p17; omega) (by have := h.p17; omega) e1
  omega
theorem tWord_lt {m : Int} {s : Ts} (h : TInv m s) {a : Nat} (ha : a < 256) : tWord s a < s.M.length := by
  have h1 := h.pin (1 + a / 16) (by have := h.p17; omega)
  rw [h.lm]
  unfold tWord
  omega
/-- a page's entry, where its word is known -/
theorem tEnt_word (s : Ts) (page : Int) (hp : isPage page = true) (x : Int) (hx : s.M.getD (tWord s page.toNat) 0 = x) : tEnt s page = if (ofA x).1.t = true then (ofA x).1 else Ent.z := by
  have hpg : 0 ≤ page ∧ page < 256 := by simpa [isPage] using hp
  unfold tEnt
  rw [hx]
  by_cases h : (ofA x).1.t = true
  · rw [if_pos ⟨hpg.1, hpg.2, h⟩, if_pos h]
  · rw [if_neg (fun hh => h hh.2.2), if_neg h]
theorem tEnt_none (s : Ts) (page : Int) (hp : isPage page = false) : tEnt s page = Ent.z := by
  have hpg : ¬ (0 ≤ page ∧ page < 256) := by simpa [isPage] using hp
  unfold tEnt
  rw [if_neg (fun hh => hpg ⟨hh.1, hh.2.1⟩)]
/-- one word put: each page's entry then -/
theorem tEnt_put {m : Int} {s : Ts} (h : TInv m s) (page : Int) (hp : isPage page = true) (x : Int) (F : List Fr) (p : Int) : tEnt { s with F := F, M := writeL s.M (tWord s page.toNat : Int) x } p = if p = page then (if (ofA x).1.t = true then (ofA x).1 else Ent.z) else tEnt s p := by
  have hpg : 0 ≤ page ∧ page < 256 := by simpa [isPage] using hp
  have hlt := tWord_lt h (a := page.toNat) (by omega)
  have hg : ∀ t, (writeL s.M (tWord s page.toNat : Int) x).getD t 0 = if t = tWord s page.toNat then x else s.M.getD t 0 := fun t => by
    unfold writeL
    rw [if_pos (by omega), Int.toNat_natCast, setD_get _ _ _ _ hlt]
  have hw : ∀ q, tWord { s with F := F, M := writeL s.M (tWord s page.toNat : Int) x } q = tWord s q := fun q => rfl
  by_cases e : p = page
  · subst e
    rw [if_pos rfl]
    exact tEnt_word _ p hp x (by show (writeL s.M _ x).getD (tWord s p.toNat) 0 = x; rw [hg, if_pos rfl])
  · rw [if_neg e]
    cases hq : isPage p with
    | false => rw [tEnt_none _ p hq, tEnt_none _ p hq]
    | true =>
      have hpq : 0 ≤ p ∧ p < 256 := by simpa [isPage] using hq
      have hne : tWord s p.toNat ≠ tWord s page.toNat := fun e2 => by
        have := tWord_inj h (by omega) (by omega) e2
        omega
      rw [tEnt_word _ p hq (s.M.getD (tWord s p.toNat) 0) (by show (writeL s.M _ x).getD (tWord s p.toNat) 0 = _; rw [hg, if_neg hne]), tEnt_word s p hq _ rfl]
theorem ofA_zero'' : ofA 0 = (Ent.z, true) := ofA_ent'' (f := 0) (t := false) (wr := false) (u := false) ⟨by decide, by decide, fun _ => ⟨rfl, rfl, rfl⟩⟩
theorem tEnt_zt : Ent.z.t = false := rfl
theorem tEnt_there (s : Ts) (page : Int) (h : ¬ (tEnt s page).t = true) : tEnt s page = Ent.z := by
  unfold tEnt at h ⊢
  split
  · rename_i hh
    rw [if_pos hh] at h
    exact absurd hh.2.2 h
  · rfl
theorem tEnt_F (s : Ts) (F : List Fr) (p : Int) : tEnt { s with F := F } p = tEnt s p := rfl
/-- behind Drop -/
theorem tEnt_drop {m : Int} {s : Ts} (h : TInv m s) (page : Int) (hp : isPage page = true) (p : Int) : tEnt (tDrop s page).1 p = if p = page then Ent.z else tEnt s p := by
  unfold tDrop
  rw [if_pos hp]
  by_cases ht : (tEnt s page).t = true
  · rw [if_pos ht]
    have := tEnt_put h page hp 0 (tDropF s page) p
    rw [ofA_zero'', show (if ((Ent.z, true) : Ent × Bool).1.t = true then ((Ent.z, true) : Ent × Bool).1 else Ent.z) = Ent.z from rfl] at this
    exact this
  · rw [if_neg ht]
    by_cases e : p = page
    · rw [if_pos e, e]
      exact tEnt_there s page ht
    · rw [if_neg e]
/-- behind set -/
theorem tEnt_set {m : Int} {s : Ts} (h : TInv m s) (page frame : Int) (w : Bool) (hp : isPage page = true) (hc : (tSetR s frame w).c = 0) (hf : 0 ≤ frame ∧ frame < 1024) (p : Int) : tEnt (tSet s page frame w).1 p = if p = page then ⟨frame, true, w, true⟩ else tEnt s p := by
  have hok : entOk frame true w true := ⟨hf.1, hf.2, fun h => by cases h⟩
  have hpg : 0 ≤ page ∧ page < 256 := by simpa [isPage] using hp
  unfold tSet
  rw [if_pos hc]
  have hI := tDrop_inv (tSetR_inv h frame w) page
  have hD := tEnt_drop (tSetR_inv h frame w) page hp
  have hP := (tDrop_P { s with F := (tSetR s frame w).l } page).1
  obtain ⟨S, hS⟩ : ∃ S, (tDrop { s with F := (tSetR s frame w).l } page).1 = S := ⟨_, rfl⟩
  rw [hS] at hI hD hP ⊢
  have h1 := hI.pin (1 + page.toNat / 16) (by have := hI.p17; omega)
  have hput : putE S.M (s.P.getD (1 + page.toNat / 16) 0) ((page.toNat % 16 : Nat) : Int) ⟨frame, true, w, true⟩ = writeL S.M (tWord S page.toNat : Int) (entW frame true w true) := by
    unfold putE bitsA
    rw [if_pos ((entOkB_iff _ _ _ _).2 hok)]
    show writeL S.M _ (entW frame true w true) = _
    rw [show s.P = S.P from hP.symm, show S.P.getD (1 + page.toNat / 16) 0 * 16 + ((page.toNat % 16 : Nat) : Int) = ((tWord S page.toNat : Nat) : Int) by unfold tWord; omega]
  show tEnt { S with M := putE S.M (s.P.getD (1 + page.toNat / 16) 0) ((page.toNat % 16 : Nat) : Int) ⟨frame, true, w, true⟩ } p = _
  rw [hput]
  have := tEnt_put hI page hp (entW frame true w true) S.F p
  rw [ofA_ent'' hok, if_pos rfl] at this
  refine Eq.trans this ?_
  rw [hD p]
  by_cases e : p = page
  · rw [if_pos e, if_pos e]
  · rw [if_neg e, if_neg e, if_neg e]
    rfl

/-- the live pages below n -/
def tLiveN (s : Ts) : Nat → List Int
  | 0 => []
  | n + 1 => if (tEnt s (n : Int)).t = true then tLiveN s n ++ [(n : Int)] else tLiveN s n
def tLive (s : Ts) : List Int := tLiveN s 256
theorem tLiveN_len (s : Ts) : ∀ n, (tLiveN s n).length ≤ n
  | 0 => Nat.le_refl _
  | n + 1 => by
    have := tLiveN_len s n
    unfold tLiveN
    split
    · rw [List.length_append]; simp; omega
    · omega
theorem infoLive : (Tryd.prog.info? 3).map (fun i => (i.zero, i.size, i.bytes)) = some (some (.int .i64 0), 1, 8) := by kernel_rfl
def LvTo (s : Ts) (w : World) (v i : Value) (wr : World) : Prop := ∃ k : Nat, k ≤ 256 ∧ i = .int .i64 (k : Int) ∧ wr.ownsRow 0 3 1 v (tLiveN s k).length (ints (tLiveN s k)) ∧ (∀ j, inRow v j → w.heap.size ≤ j) ∧ Below w.heap.size w wr

set_option maxRecDepth 100000 in
set_option maxHeartbeats 6400000 in
theorem tlive_any (p : Pl) (s : Ts) (m : Int) (w : World) (h : PtAt w p s) (hi : TInv m s) :
    Calls Tryd.prog 35 #[.pointer (some ⟨p.tb, 0, none⟩)] w fun y w' => ∃ v', y = .returned v' ∧ w'.ownsRow 0 3 1 v' (tLive s).length (ints (tLive s)) ∧ (∀ j, inRow v' j → w.heap.size ≤ j) ∧ Below w.heap.size w w' := by
  obtain ⟨i0, hi0, hz0, hz1, hz2⟩ := info_parts infoLive
  have HEN : Hid (∀ wx, Below w.heap.size w wx → ∀ page : Int, Calls Tryd.prog 73 #[.pointer (some ⟨p.tb, 0, none⟩), .int .i64 page] wx fun y w' => y = .returned (.tuple #[(tEnt s page).v, .bool (tEnt s page).t]) ∧ Below wx.heap.size wx w') := Lib.hid fun wx hb page => tentry_any p s m page wx (h.below hb) hi
  clear h hi
  go_enter Tryd.func35, Tryd.ntmps35
  go_wp2_with fail
  go_loopw [3, 7] (fun v i wr => LvTo s w v i wr) (fun _ i _ => 256 - (intOf i).toNat)
  case atStart => exact ⟨0, Nat.zero_le _, rfl, own_nil _ _ _, fun j h => (by cases h), Below.refl _ _⟩
  case round =>
    obtain ⟨k, hk, rfl, ho, hf, hb⟩ := hrel
    have HO := Lib.hid ho
    have HF := Lib.hid hf
    have HB := Lib.hid hb
    by_cases hlt : k < 256
    · have hki : (k : Int) < 256 := by omega
      have HE := Lib.hid (HEN.out _ HB.out (k : Int))
      have HL1 : Hid (tLiveN s (k + 1) = if (tEnt s (k : Int)).t = true then tLiveN s k ++ [(k : Int)] else tLiveN s k) := Lib.hid rfl
      have hlen := tLiveN_len s k
      obtain ⟨L, hL⟩ : ∃ L, tLiveN s k = L := ⟨_, rfl⟩
      rw [hL] at HO HL1 hlen ho
      obtain ⟨ao, cap, rfl⟩ := own_slice ho
      clear ho hf hb
      obtain ⟨⟨ef, et, ew, eu⟩, he⟩ : ∃ e, tEnt s (k : Int) = e := ⟨_, rfl⟩
      rw [he] at HE HL1
      unfold Ent.v at HE
      dsimp only at HE HL1
      go_wp2_with fail
      refine HE.out.mono ?_
      rintro y w1 ⟨rfl, hb1⟩
      have HB1 : Hid (Below w.heap.size w w1) := Lib.hid (HB.out.trans (hb1.mono HB.out.size))
      have HO1 : Hid (w1.ownsRow 0 3 1 (.slice ao L.length cap) L.length (ints L)) := Lib.hid (own_frame HO.out fun j hj => hb1.block j (own_lt HO.out hj))
      have HLL := Lib.hid hL
      clear hb1 hL he
      cases et with
      | false =>
        have HB2 : Hid (∀ X, Below w.heap.size w (w1.alloc X)) := Lib.hid fun X => HB1.out.alloc HB1.out.size X
        go_wp2_with fail
        go_roundw
        case rel => exact ⟨k + 1, by omega, by go_num, by rw [HL1.out, if_neg (by decide)]; exact HO1.out.alloc _, HF.out, HB2.out _⟩
        case measure => simp [intOf]; omega
      | true =>
        go_wp2_with (at_builtin; refine wpList_append_sep _ rfl _ _ 37 rfl 3 i0 (.int .i64 0) 1 8 Tryd.underlying37 hi0 hz0 hz1 hz2 rfl (by decide) _ _ _ rfl ((HO1.out.alloc (.cells #[.int .i64 ef, .bool true, .bool ew, .bool eu] 68)).alloc _) ⟨w1.heap.size + 1, 0, none⟩ 1 1 [.int .i64 (k : Int)] rfl rfl (by have := cell_one_new (w1.alloc (.cells #[.int .i64 ef, .bool true, .bool ew, .bool eu] 68)) (.int .i64 (k : Int)) 3; simpa using this) (by simp [Value.oneCell']) (by unfold maxLen; omega) (by omega) ?_)
        intro v' wx ho3 hg3 hs3
        obtain ⟨ao2, cap2, rfl⟩ := own_slice ho3
        have HO3 : Hid (wx.ownsRow 0 3 1 (.slice ao2 (L.length + 1) cap2) (L ++ [(k : Int)]).length (ints (L ++ [(k : Int)]))) := Lib.hid (by
          have e1 : ints L ++ [Value.int .i64 (k : Int)] = ints (L ++ [(k : Int)]) := by simp [ints]
          rw [e1] at ho3
          rw [List.length_append]
          exact ho3)
        have HF3 : Hid (∀ j, inRow (.slice ao2 (L.length + 1) cap2) j → w.heap.size ≤ j) := Lib.hid fun j hj => by
          rcases hs3 j hj with h | h
          · exact HF.out j h
          · have h' := h
            try simp at h'
            have := HB1.out.size
            omega
        have HB3 : Hid (Below w.heap.size w wx) := Lib.hid (Below.grown ((HB1.out.alloc HB1.out.size _).alloc (by have := HB1.out.size; simp; omega) _) hg3 (by have := HB1.out.size; simp; omega) (fun j hj => HF.out j hj))
        clear ho3 hg3 hs3
        go_wp2_with fail
        go_roundw
        case rel => exact ⟨k + 1, by omega, by go_num, by rw [HL1.out]; simp only [if_true]; exact HO3.out, HF3.out, HB3.out⟩
        case measure => simp [intOf]; omega
    · obtain rfl : k = 256 := by omega
      obtain ⟨ao, cap, rfl⟩ := own_slice ho
      clear ho hf hb
      go_wp2
      go_ret
      exact ⟨_, rfl, HO.out, HF.out, HB.out⟩
end Go.Proofs.YtaoaachgnnengaaDoor

/-
  math/bits.Mul: the product of two words of 64 bits, in two words.
-/
namespace Go.Proofs.YtaoaachgnnengaaDoor
open Go.RowKit Go.Lib

set_option maxHeartbeats 1000000 in
theorem mul64_any (x y : Nat) (hx : x < 18446744073709551616) (hy : y < 18446744073709551616) (w : World) :
    Calls Tryd.prog 101 #[.int .u64 x, .int .u64 y] w fun e w' => e = .returned (.tuple #[.int .u64 ((x * y / 18446744073709551616 : Nat) : Int), .int .u64 ((x * y % 18446744073709551616 : Nat) : Int)]) ∧ w' = w := by
  obtain ⟨bd, bt, bw, hhi⟩ := Lib.mul64_hi x y hx hy
  have ba := Lib.half_mul_le (a := x / 4294967296) (b := y / 4294967296) (by omega) (by omega)
  have bb := Lib.half_mul_le (a := x / 4294967296) (b := y % 4294967296) (by omega) (by omega)
  have bc := Lib.half_mul_le (a := x % 4294967296) (b := y / 4294967296) (by omega) (by omega)
  have ba' : x / 4294967296 * (y / 4294967296) < 18446744073709551616 := by omega
  have bb' : x / 4294967296 * (y % 4294967296) < 18446744073709551616 := by omega
  have bc' : x % 4294967296 * (y / 4294967296) < 18446744073709551616 := by omega
  have bh1 : x / 4294967296 * (y / 4294967296) + (x / 4294967296 * (y % 4294967296) + x % 4294967296 * (y % 4294967296) / 4294967296) / 4294967296 < 18446744073709551616 := by omega
  have bh : x / 4294967296 * (y / 4294967296) + (x / 4294967296 * (y % 4294967296) + x % 4294967296 * (y % 4294967296) / 4294967296) / 4294967296 + ((x / 4294967296 * (y % 4294967296) + x % 4294967296 * (y % 4294967296) / 4294967296) % 4294967296 + x % 4294967296 * (y / 4294967296)) / 4294967296 < 18446744073709551616 := by omega
  go_enter Tryd.func101, Tryd.ntmps101
  go_wp2
  simp only [Mul64.maskN x hx, Mul64.maskN y hy, Mul64.divN, Mul64.mulN, Mul64.addN, Mul64.wrapN _ bd, Mul64.wrapN _ bb', Mul64.wrapN _ bt, Mul64.maskN _ bt, Mul64.wrapN _ bc', Mul64.wrapN _ bw, Mul64.wrapN _ ba', Mul64.wrapN _ bh1, Mul64.wrapN _ bh, Mul64.wrapM (x * y)]
  rw [hhi]
  go_ret2
  exact ⟨rfl, rfl⟩
theorem mul_any (x y : Nat) (hx : x < 18446744073709551616) (hy : y < 18446744073709551616) (w : World) :
    Calls Tryd.prog 83 #[.int .u64 x, .int .u64 y] w fun e w' => e = .returned (.tuple #[.int .u64 ((x * y / 18446744073709551616 : Nat) : Int), .int .u64 ((x * y % 18446744073709551616 : Nat) : Int)]) ∧ w' = w := by
  have c64 := Lib.hid (mul64_any x y hx hy w)
  obtain ⟨p, hp⟩ : ∃ p, x * y / 18446744073709551616 = p := ⟨_, rfl⟩
  obtain ⟨q, hq⟩ : ∃ q, x * y % 18446744073709551616 = q := ⟨_, rfl⟩
  rw [hp, hq] at c64 ⊢
  clear hp hq
  go_enter Tryd.func83, Tryd.ntmps83
  go_wp2_with fail
  refine c64.out.mono ?_
  rintro e w' ⟨rfl, rfl⟩
  go_wp2
  go_ret2
  exact ⟨rfl, rfl⟩
end Go.Proofs.YtaoaachgnnengaaDoor

