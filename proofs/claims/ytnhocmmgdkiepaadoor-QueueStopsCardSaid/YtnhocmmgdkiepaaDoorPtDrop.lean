/-
  pt.Tables.Drop.
-/
import Derived.Test.YtnhocmmgdkiepaaDoorPtLaw
import Derived.Test.YtnhocmmgdkiepaaDoorPtEntry
namespace Go.Proofs.YtnhocmmgdkiepaaDoor
open Go.RowKit

/-- what tables write -/
def Pl.zw (p : Pl) (k : Nat) : Prop := inRow p.mv k ∨ k = p.fg ∨ k = p.pb ∨ inRow p.pv k
def PtQ (E : Nat → Addr) (p : Pl) (R : Ts × Int) (w : World) (e : Ending) (w' : World) : Prop := e = .returned (errC E R.2) ∧ PtAt w' p R.1 ∧ Only p.zw w w'
def ErrsK (E : Nat → Addr) (p : Pl) (w : World) : Prop := ∀ wx, Only p.zw w wx → ErrsAt errT gOf wx E nine
theorem ErrsK.next {E : Nat → Addr} {p : Pl} {w w' : World} (h : ErrsK E p w) (ho : Only p.zw w w') : ErrsK E p w' := fun wx hx => h wx (ho.trans hx)
theorem zw_m {p : Pl} {w w' : World} (h : Only (fun k => inRow p.mv k) w w') : Only p.zw w w' := h.mono fun _ hi => .inl (.inl hi)
theorem zw_f {p : Pl} {w w' : World} (h : Only (fun k => k = p.fg) w w') : Only p.zw w w' := h.mono fun _ hi => .inl (.inr (.inl hi))
theorem PtAt.free {w w' : World} {p : Pl} {s : Ts} (h : PtAt w p s) (k : Nat) (hk : w.heap.size ≤ k) : ¬ p.zw k := by
  intro hz
  rcases hz with hz | hz | hz | hz
  · have := own_lt h.mem.2.1 hz; omega
  · have := h.fr.lt.2; omega
  · have := blk_lt h.pm.1; omega
  · have := own_lt h.pm.2 hz; omega

set_option maxRecDepth 100000 in
set_option maxHeartbeats 3200000 in
theorem tdrop_any (E : Nat → Addr) (p : Pl) (s : Ts) (m : Int) (page : Int) (w : World) (hE : ErrsK E p w) (h : PtAt w p s) (hi : TInv m s) (hm : m ≤ 1000000) :
    Calls Tryd.prog 106 #[.pointer (some ⟨p.tb, 0, none⟩), .int .i64 page] w (PtQ E p (tDrop s page) w) := by
  have HPA := Lib.hid (fun wx => tpage_any page wx)
  by_cases hp : isPage page = true
  · have HEN := Lib.hid (tentry_any p s m page w h hi)
    rw [hp] at HPA
    by_cases ht : (tEnt s page).t = true
    · have HR : Hid (tDrop s page = ({ s with F := tDropF s page, M := writeL s.M (tWord s page.toNat : Int) 0 }, 0)) := Lib.hid (by unfold tDrop; rw [if_pos hp, if_pos ht])
      rw [HR.out]
      have HH := Lib.hid h
      have HFB := Lib.hid (frOk_b hi.fok hm)
      have HEE := Lib.hid hE
      have hpg : 0 ≤ page ∧ page < 256 := by simpa [isPage] using hp
      obtain ⟨j, rfl⟩ : ∃ j : Nat, page = (j : Int) := ⟨page.toNat, by omega⟩
      have hP := hi.p17
      have h1 := hi.pin (1 + j / 16) (by omega)
      have hn := hi.n1
      have HLI : Hid (∀ wx, Below w.heap.size w wx → ∃ g cap, p.lv = .slice (some ⟨g, 0, none⟩) 17 cap ∧ g < wx.heap.size ∧ ∀ k, k < 17 → wx.cell? ⟨g, k, none⟩ = some (.int .i64 (s.P.getD k 0))) := Lib.hid fun wx hb => (h.below hb).list hP
      have HP17 := Lib.hid hP
      have hj : j < 256 := by omega
      obtain ⟨a, ha⟩ : ∃ a, j / 16 = a := ⟨_, rfl⟩
      obtain ⟨k, hk⟩ : ∃ k, 1 + a = k := ⟨_, rfl⟩
      obtain ⟨r, hr⟩ : ∃ r, j % 16 = r := ⟨_, rfl⟩
      have wq : wrap64 ((j : Int).tdiv 16) = (a : Int) := by rw [Int.tdiv_eq_ediv_of_nonneg (by omega)]; exact (IntWalk.wrap64_in _ (by omega)).trans (by omega)
      have wq' : IntKind.i64.wrap ((j : Int) / 16) = (a : Int) := (IntWalk.i64_in _ (by omega)).trans (by omega)
      have wq1 : IntKind.i64.wrap (1 + (a : Int)) = (k : Int) := (IntWalk.i64_in _ (by omega)).trans (by omega)
      have wr : (j : Int).tmod 16 = (r : Int) := by rw [Int.tmod_eq_emod_of_nonneg (by omega)]; omega
      have wi0 : (0 : Int) ≤ (k : Int) := by omega
      have wi1 : (k : Int) < 17 := by omega
      rw [ha, hk] at h1
      have HTW : Hid (s.P.getD k 0 * 16 + (r : Int) = ((tWord s j : Nat) : Int)) := Lib.hid (by unfold tWord; rw [ha, hk, hr]; omega)
      have hb16 : 0 ≤ s.P.getD k 0 ∧ s.P.getD k 0 < 1024 := by omega
      obtain ⟨t1, ht1⟩ : ∃ x, s.P.getD k 0 = x := ⟨_, rfl⟩
      rw [ht1] at HTW hb16
      have HT1 := Lib.hid ht1
      have wm := IntWalk.i64_in (t1 * 16) (by omega)
      have ws : IntKind.i64.wrap (t1 * 16 + (r : Int)) = ((tWord s j : Nat) : Int) := (IntWalk.i64_in _ (by omega)).trans HTW.out
      rw [Int.toNat_natCast]
      obtain ⟨F1, hF1⟩ : ∃ F1, tDropF s (j : Int) = F1 := ⟨_, rfl⟩
      rw [hF1]
      unfold tDropF at hF1
      obtain ⟨⟨ef, et, ew, eu⟩, he⟩ : ∃ e, tEnt s (j : Int) = e := ⟨_, rfl⟩
      rw [he] at HEN ht hF1
      unfold Ent.v at HEN
      dsimp only at HEN ht hF1
      have HF1 := Lib.hid hF1
      subst ht
      clear hE h hi hp he hpg h1 hP hn HR hF1 ht1 ha hk hr hj
      go_enter Tryd.func106, Tryd.ntmps106
      go_wp2_with fail
      refine (HPA.out _).mono ?_
      rintro y w1 ⟨rfl, rfl⟩
      go_wp2_with fail
      refine HEN.out.mono ?_
      rintro y w2 ⟨rfl, hb2⟩
      have HB2 := Lib.hid (hb2.alloc hb2.size (.cells #[.int .i64 ef, .bool true, .bool ew, .bool eu] 42))
      have HB2d := Lib.hid HB2.out.drew
      have HH2 := Lib.hid (HH.out.below HB2.out)
      obtain ⟨-, c1, -, -, -⟩ := HH2.out.cells
      have hnew := blk_new w2 (.cells #[.int .i64 ef, .bool true, .bool ew, .bool eu] 42)
      have ce0 := blk_cell hnew 0
      have ltb := blk_lt HH2.out.row
      cases ew
      · have HU := Lib.hid (funuse_any E s.F p.fb p.fg s.n ef _ HFB.out ((HEE.out _ (Only.of_below HB2d.out))) (HH.out.below HB2d.out).fr)
        clear hb2 hnew
        go_wp2_with fail
        go_region_with (first | (go_at_call 130; refine HU.out.mono ?_; rintro e w3 ⟨rfl, hf3, ho3⟩))
        all_goals
          have HO3 := Lib.hid ((Only.of_below HB2d.out).trans (zw_f ho3))
          have HH3 : Hid (PtAt w3 p { s with F := F1 }) := Lib.hid ((HH.out.below HB2d.out).fr' ho3 (by rw [← HF1.out]; exact hf3))
          obtain ⟨c0, -, -, -, c4⟩ := HH3.out.cells
          obtain ⟨g, cap, hl, hg, hcell⟩ := HH3.out.list HP17.out
          rw [hl] at c4
          have ct := hcell k (by omega)
          have ct1 : w3.cell? ⟨g, k, none⟩ = some (.int .i64 t1) := ct.trans (by rw [HT1.out])
          have ltb := blk_lt HH3.out.row
          have HW := Lib.hid (fun wx (hx : Below w3.heap.size w3 wx) => mm_write s.M p.mb s.n p.mv ((tWord s j : Nat) : Int) 0 wx (HH3.out.below hx).mem)
          clear hf3 ho3 hl hcell c1 ce0 ct
          go_wp2_with fail
          go_region_with (first | (go_at_call 102; refine (HW.out _ (by first | exact (Below.refl _ _).drew | exact Below.refl _ _)).mono ?_; rintro e w4 ⟨rfl, hm4, ho4⟩))
          all_goals
            have HO4 := Lib.hid (HO3.out.trans ((Only.refl _ _).drew.trans (zw_m ho4)))
            have HH4 := Lib.hid ((HH3.out.below (Below.refl _ _).drew).mem' ho4 hm4)
            clear hm4 ho4
            go_wp2
            go_ret
            exact ⟨rfl, HH4.out, HO4.out⟩
      · have HU := Lib.hid (funwrite_any E s.F p.fb p.fg s.n ef _ HFB.out ((HEE.out _ (Only.of_below HB2d.out))) (HH.out.below HB2d.out).fr)
        clear hb2 hnew
        go_wp2_with fail
        go_region_with (first | (go_at_call 129; refine HU.out.mono ?_; rintro e w3 ⟨rfl, hf3, ho3⟩))
        all_goals
          have HO3 := Lib.hid ((Only.of_below HB2d.out).trans (zw_f ho3))
          have HH3 : Hid (PtAt w3 p { s with F := F1 }) := Lib.hid ((HH.out.below HB2d.out).fr' ho3 (by rw [← HF1.out]; exact hf3))
          obtain ⟨c0, -, -, -, c4⟩ := HH3.out.cells
          obtain ⟨g, cap, hl, hg, hcell⟩ := HH3.out.list HP17.out
          rw [hl] at c4
          have ct := hcell k (by omega)
          have ct1 : w3.cell? ⟨g, k, none⟩ = some (.int .i64 t1) := ct.trans (by rw [HT1.out])
          have ltb := blk_lt HH3.out.row
          have HW := Lib.hid (fun wx (hx : Below w3.heap.size w3 wx) => mm_write s.M p.mb s.n p.mv ((tWord s j : Nat) : Int) 0 wx (HH3.out.below hx).mem)
          clear hf3 ho3 hl hcell c1 ce0 ct
          go_wp2_with fail
          go_region_with (first | (go_at_call 102; refine (HW.out _ (by first | exact (Below.refl _ _).drew | exact Below.refl _ _)).mono ?_; rintro e w4 ⟨rfl, hm4, ho4⟩))
          all_goals
            have HO4 := Lib.hid (HO3.out.trans ((Only.refl _ _).drew.trans (zw_m ho4)))
            have HH4 := Lib.hid ((HH3.out.below (Below.refl _ _).drew).mem' ho4 hm4)
            clear hm4 ho4
            go_wp2
            go_ret
            exact ⟨rfl, HH4.out, HO4.out⟩
    · have HR : Hid (tDrop s page = (s, 0)) := Lib.hid (by unfold tDrop; rw [if_pos hp, if_neg ht])
      rw [HR.out]
      have HH := Lib.hid h
      obtain ⟨⟨ef, et, ew, eu⟩, he⟩ : ∃ e, tEnt s page = e := ⟨_, rfl⟩
      rw [he] at HEN ht
      unfold Ent.v at HEN
      dsimp only at HEN ht
      obtain rfl : et = false := by simpa using ht
      clear hE h hi hp he ht HR
      go_enter Tryd.func106, Tryd.ntmps106
      go_wp2_with fail
      refine (HPA.out _).mono ?_
      rintro y w1 ⟨rfl, rfl⟩
      go_wp2_with fail
      refine HEN.out.mono ?_
      rintro y w2 ⟨rfl, hb2⟩
      have HB2 := Lib.hid (hb2.alloc hb2.size (.cells #[.int .i64 ef, .bool false, .bool ew, .bool eu] 42))
      clear hb2
      go_wp2
      go_ret
      exact ⟨rfl, HH.out.below HB2.out, Only.of_below HB2.out⟩
  · have HR : Hid (tDrop s page = (s, 103)) := Lib.hid (by unfold tDrop; rw [if_neg hp])
    rw [HR.out]
    rw [show isPage page = false by simpa using hp] at HPA
    have HH := Lib.hid h
    have e2 : w.cell? ⟨0, 0, none⟩ = some (errV (E 2)) := ((hE w (Only.refl _ _)).1 2 (by decide)).1
    clear hE h hi hp HR
    go_enter Tryd.func106, Tryd.ntmps106
    go_wp2_with fail
    refine (HPA.out _).mono ?_
    rintro y w1 ⟨rfl, rfl⟩
    go_wp2
    go_ret
    exact ⟨rfl, HH.out, Only.refl _ _⟩
end Go.Proofs.YtnhocmmgdkiepaaDoor
