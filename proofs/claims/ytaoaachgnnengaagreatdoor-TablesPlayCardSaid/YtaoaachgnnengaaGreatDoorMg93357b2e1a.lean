/-
  Parts of one proof, one behind the other.
-/
import Derived.Test.YtaoaachgnnengaaGreatDoorMg0168c28601
import Derived.Deep.RegionWith
import Derived.Deep.DeepCutAuto
import Derived.Test.YtaoaachgnnengaaGreatDoorRows
import Derived.Test.YtaoaachgnnengaaGreatDoorMg46ad1761f3
import Derived.BigQuiet
import Derived.Test.YtaoaachgnnengaaGreatDoorMga85010b3ec
import Derived.Test.YtaoaachgnnengaaGreatDoorMg4e4d88e392
/-
  The document's tables: Get: a page's entry, its frame as the guest's number.
-/
namespace Go.Proofs.YtaoaachgnnengaaGreatDoor
open Go.RowKit

set_option maxRecDepth 100000 in
set_option maxHeartbeats 6400000 in
theorem zget_any (z : Zl) (s : Ts) (m : Int) (page : Int) (w : World) (h : ZtAt w z s) (hi : TInv m s) :
    Calls Tryz.prog 10 #[.pointer (some ⟨z.zb, 0, none⟩), .int .i64 page] w fun y w' => y = .returned (.tuple #[(tGet s page).v, .bool (tGet s page).t]) ∧ Below w.heap.size w w' := by
  have hb0 : Below w.heap.size w (w.alloc (.cells #[.int .i64 0, .bool false, .bool false, .bool false] 34)) := (Below.refl _ _).alloc (Nat.le_refl _) _
  have HEN := Lib.hid (zentry_any z s m page _ (ZAt.below h hb0) hi)
  obtain ⟨ao, cap, hgv, -⟩ := atL_of_own h.gl
  have HOF : Hid (∀ wx, Below w.heap.size w wx → ∀ x, Calls Tryz.prog 44 #[.slice ao s.P.length cap, .int .i64 x] wx fun e w' => e = .returned (.int .i64 (pmI s.P x)) ∧ wx = w') := Lib.hid fun wx hb x => by
    obtain ⟨ao', cap', hgv', hat⟩ := atL_of_own (ZAt.below h hb).gl
    rw [hgv] at hgv'
    obtain ⟨h1, -, -⟩ := Value.slice.inj hgv'
    subst h1
    refine (ofFrame_any s.P s.P.length ao cap x wx hat rfl (by have := hi.p512; omega)).mono ?_
    rintro e w' ⟨r, rfl, hr, rfl⟩
    exact ⟨by rw [hr.same (pmI_is s.P x)], rfl⟩
  have HC : Hid (∀ wx, Below w.heap.size w wx → wx.cell? ⟨z.zb, 3, none⟩ = some (.slice ao s.P.length cap)) := Lib.hid fun wx hb => hgv ▸ (ZAt.cells (ZAt.below h hb)).2.2.2.1
  have htb : z.zb < w.heap.size := (ZAt.cells h).2.2.2.2.2
  obtain ⟨tb, htb0⟩ : ∃ x, z.zb = x := ⟨_, rfl⟩
  rw [htb0] at HEN HC htb ⊢
  have HTG : Hid (tGet s page = if (tEnt s page).t = true then { tEnt s page with f := pmI s.P (tEnt s page).f } else Ent.z) := Lib.hid rfl
  obtain ⟨L, hL⟩ : ∃ L, s.P.length = L := ⟨_, rfl⟩
  rw [hL] at HOF HC
  obtain ⟨⟨ef, et, ew, eu⟩, he⟩ : ∃ e, tEnt s page = e := ⟨_, rfl⟩
  rw [he] at HEN HTG
  rw [HTG.out]
  have HB0 := Lib.hid hb0
  have HBN := Lib.hid (blk_new w (.cells #[.int .i64 0, .bool false, .bool false, .bool false] 34))
  clear h hi he hb0 htb0 hgv hL HTG
  unfold Ent.v at HEN
  dsimp only at HEN
  go_enter Tryz.func10, Tryz.ntmps10
  go_wp2_with fail
  refine HEN.out.mono ?_
  rintro y w1 ⟨rfl, hb1⟩
  have HB1 := Lib.hid (HB0.out.trans (hb1.mono HB0.out.size))
  have hk1 := blk_below HBN.out hb1 (blk_lt HBN.out)
  clear hb1
  cases et with
  | false =>
    have hn := blk_new w1 (.cells #[.int .i64 ef, .bool false, .bool ew, .bool eu] 34)
    obtain ⟨b, hb⟩ : ∃ b, w1.heap.size = b := ⟨_, rfl⟩
    have lb : w.heap.size < b := hb ▸ blk_lt hk1
    have hk2 := blk_below hk1 ((Below.refl _ _).alloc (Nat.le_refl _) (.cells #[.int .i64 ef, .bool false, .bool ew, .bool eu] 34)) (blk_lt hk1)
    obtain ⟨w2, hw2⟩ : ∃ w2, w1.alloc (.cells #[.int .i64 ef, .bool false, .bool ew, .bool eu] 34) = w2 := ⟨_, rfl⟩
    have hb2 : Below w.heap.size w w2 := hw2 ▸ HB1.out.alloc HB1.out.size _
    rw [hw2] at hn hk2
    rw [hb] at hn
    have HB2 := Lib.hid hb2
    have n0 : w2.cell? ⟨b, 0, none⟩ = some (.int .i64 ef) := blk_cell hn 0
    have n1 : w2.cell? ⟨b, 1, none⟩ = some (.bool false) := blk_cell hn 1
    have g0 := blk_free hn 0
    clear HB1 hk1 hb2
    have f0 := blk_free hk2 0
    have f1 := blk_free hk2 1
    have f2 := blk_free hk2 2
    have f3 := blk_free hk2 3
    have z0 := blk_cell hk2 0
    have z1 := blk_cell hk2 1
    have z2 := blk_cell hk2 2
    have z3 := blk_cell hk2 3
    clear hn hk2 HOF HC
    go_upto_region 2 with fail
    try rw [hb, hw2]
    clear hb hw2
    go_wp2
    refine bodyPost_ret (v := .tuple #[.agg #[.int .i64 0, .bool false, .bool false, .bool false], .bool false]) (by simp [results, Tryz.results10, go_sem, z0, z1, z2, z3]) rfl ⟨rfl, ?_⟩
    first | exact HB2.out | exact (((HB2.out.setCell (p := ⟨w.heap.size, 0, none⟩) (Nat.le_refl _) _).setCell (p := ⟨w.heap.size, 1, none⟩) (Nat.le_refl _) _).setCell (p := ⟨w.heap.size, 2, none⟩) (Nat.le_refl _) _).setCell (p := ⟨w.heap.size, 3, none⟩) (Nat.le_refl _) _
  | true =>
    have hn := blk_new w1 (.cells #[.int .i64 ef, .bool true, .bool ew, .bool eu] 34)
    obtain ⟨b, hb⟩ : ∃ b, w1.heap.size = b := ⟨_, rfl⟩
    have lb : w.heap.size < b := hb ▸ blk_lt hk1
    have hk2 := blk_below hk1 ((Below.refl _ _).alloc (Nat.le_refl _) (.cells #[.int .i64 ef, .bool true, .bool ew, .bool eu] 34)) (blk_lt hk1)
    obtain ⟨w2, hw2⟩ : ∃ w2, w1.alloc (.cells #[.int .i64 ef, .bool true, .bool ew, .bool eu] 34) = w2 := ⟨_, rfl⟩
    have hb2 : Below w.heap.size w w2 := hw2 ▸ HB1.out.alloc HB1.out.size _
    rw [hw2] at hn hk2
    rw [hb] at hn
    have HB2 := Lib.hid hb2
    have n0 : w2.cell? ⟨b, 0, none⟩ = some (.int .i64 ef) := blk_cell hn 0
    have n1 : w2.cell? ⟨b, 1, none⟩ = some (.bool true) := blk_cell hn 1
    have g0 := blk_free hn 0
    clear HB1 hk1 hb2
    go_upto_region 2 with fail
    try rw [hb, hw2]
    clear hb hw2
    go_wp2_with fail
    have hc := HC.out _ HB2.out
    have ltb : tb < w2.heap.size := Nat.lt_of_lt_of_le htb HB2.out.size
    have HD2 : Hid (Below w.heap.size w w2.drew) := Lib.hid HB2.out.drew
    have HN2 := Lib.hid hn
    have HK2 := Lib.hid hk2
    obtain ⟨r, hr⟩ : ∃ r, pmI s.P ef = r := ⟨_, rfl⟩
    have HOX : Hid (∀ wx, Below w.heap.size w wx → Calls Tryz.prog 44 #[.slice ao L cap, .int .i64 ef] wx fun e w' => e = .returned (.int .i64 r) ∧ wx = w') := Lib.hid fun wx hx => hr ▸ HOF.out wx hx ef
    have HRR := Lib.hid hr
    clear HOF hr hn hk2
    go_region_with (first | (go_at_call 44; refine (HOX.out _ (by first | exact HD2.out | exact HB2.out)).mono ?_; rintro e wz ⟨rfl, rfl⟩))
    all_goals
      have hn3 := blk_put HN2.out 0 (.int .i64 r)
      have hk3 := blk_set HK2.out (a := ⟨b, 0, none⟩) (by show w.heap.size ≠ b; omega) (.int .i64 r)
      obtain ⟨w3, hw3⟩ : ∃ w3, (w2.setCell ⟨b, 0, none⟩ (.int .i64 r)).drew = w3 := ⟨_, rfl⟩
      replace hn3 := (show (w2.setCell ⟨b, 0, none⟩ (.int .i64 r)).drew.heap[b]? = _ from hn3)
      replace hk3 := (show (w2.setCell ⟨b, 0, none⟩ (.int .i64 r)).drew.heap[w.heap.size]? = _ from hk3)
      have HB3 : Hid (Below w.heap.size w w3) := Lib.hid (hw3 ▸ (HB2.out.setCell (p := ⟨b, 0, none⟩) (Nat.le_of_lt lb) _).drew)
      rw [hw3] at hn3 hk3
      try rw [hw3]
      clear hw3
      have f0 := blk_free hk3 0
      have f1 := blk_free hk3 1
      have f2 := blk_free hk3 2
      have f3 := blk_free hk3 3
      have z0 := blk_cell hk3 0
      have z1 := blk_cell hk3 1
      have z2 := blk_cell hk3 2
      have z3 := blk_cell hk3 3
      have y0 := blk_cell hn3 0
      have y1 := blk_cell hn3 1
      have y2 := blk_cell hn3 2
      have y3 := blk_cell hn3 3
      clear hn3 hk3 HOX HC hc n0 g0 n1
      go_wp2
      refine bodyPost_ret (v := .tuple #[.agg #[.int .i64 r, .bool true, .bool ew, .bool eu], .bool true]) (by simp [results, Tryz.results10, go_sem, z0, z1, z2, z3]) rfl ⟨by rw [HRR.out]; rfl, ?_⟩
      exact (((HB3.out.setCell (p := ⟨w.heap.size, 0, none⟩) (Nat.le_refl _) _).setCell (p := ⟨w.heap.size, 1, none⟩) (Nat.le_refl _) _).setCell (p := ⟨w.heap.size, 2, none⟩) (Nat.le_refl _) _).setCell (p := ⟨w.heap.size, 3, none⟩) (Nat.le_refl _) _
end Go.Proofs.YtaoaachgnnengaaGreatDoor

/-
  facaderef.SameWords: are two lists the same?
-/
namespace Go.Proofs.YtaoaachgnnengaaGreatDoor
open Go.RowKit

/-- the first k are the same -/
def SameWordsTo (xs ys : List Int) (w : World) (i : Value) (wr : World) : Prop := ∃ k : Nat, k ≤ xs.length ∧ i = .int .i64 k ∧ xs.take k = ys.take k ∧ ∃ n, wr = w.drewN n

set_option maxHeartbeats 800000 in
theorem sameWords_any (xs ys : List Int) (ao bo : Option Addr) (c1 c2 : Nat) (w : World) (hx : AtL w ao (u32s xs)) (hy : AtL w bo (u32s ys)) (hl : xs.length ≤ 1000000000) (hl2 : ys.length ≤ 1000000000) :
    Calls Tryz.prog 28 #[.slice ao xs.length c1, .slice bo ys.length c2] w fun e w' => e = .returned (.bool (decide (xs = ys))) ∧ ∃ n, w' = w.drewN n := by
  by_cases hlen : xs.length = ys.length
  · have HX := Lib.hid hx
    have HY := Lib.hid hy
    have HLEN := Lib.hid hlen
    rw [← HLEN.out]
    clear hx hy hlen
    go_enter Tryz.func28, Tryz.ntmps28
    go_wp2_with fail
    go_loopw [5] (fun i wr => SameWordsTo xs ys w i wr) (fun i _ => xs.length - (intOf i).toNat)
    case atStart => exact ⟨0, Nat.zero_le _, rfl, rfl, 0, rfl⟩
    case round =>
      obtain ⟨k, hk, rfl, hs, n, rfl⟩ := hrel
      have HS := Lib.hid hs
      clear hs
      by_cases hlt : k < xs.length
      · have hlt2 : k < ys.length := by have := HLEN.out; omega
        obtain ⟨b, o, rfl, p0, hb⟩ := HX.out k _ (u32s_get xs k hlt)
        obtain ⟨b2, o2, rfl, q0, hb2⟩ := HY.out k _ (u32s_get ys k hlt2)
        obtain ⟨x, hx⟩ : ∃ x, xs.getD k 0 = x := ⟨_, rfl⟩
        obtain ⟨y, hy⟩ : ∃ y, ys.getD k 0 = y := ⟨_, rfl⟩
        rw [hx] at p0
        rw [hy] at q0
        have HXE := Lib.hid hx
        have HYE := Lib.hid hy
        have hki : (k : Int) < (xs.length : Int) := by omega
        clear hx hy
        by_cases hxy : x = y
        · have hbq : (x == y) = true := by simp [hxy]
          have HXY := Lib.hid hxy
          clear hxy
          go_wp2_with fail
          go_quiet (fail)
          go_wp2
          go_roundw
          case rel => exact ⟨k + 1, by omega, by go_num, take_eq 0 hlt hlt2 HS.out (by rw [HXE.out, HYE.out, HXY.out]), n + nq, rfl⟩
          case measure => simp [intOf]; omega
        · have hbq : (x == y) = false := by simp [hxy]
          have HXY := Lib.hid hxy
          clear hxy
          go_wp2_with fail
          go_quiet (fail)
          go_wp2
          go_ret
          refine ⟨ret_bool ?_, n + nq, rfl⟩
          symm
          rw [decide_eq_false_iff_not]
          intro h
          subst h
          exact HXY.out (HXE.out.symm.trans HYE.out)
      · obtain rfl : k = xs.length := by omega
        go_wp2
        go_ret
        refine ⟨ret_bool ?_, n, rfl⟩
        symm
        rw [decide_eq_true_eq]
        have := HS.out
        rwa [List.take_length, List.take_of_length_le (by rw [HLEN.out]; exact Nat.le_refl _)] at this
  · have hne : ((xs.length : Int) != (ys.length : Int)) = true := by rw [bne_iff_ne]; omega
    have HLEN := Lib.hid hlen
    clear hlen hx hy
    go_enter Tryz.func28, Tryz.ntmps28
    go_wp2
    go_ret
    refine ⟨ret_bool ?_, 0, rfl⟩
    symm
    rw [decide_eq_false_iff_not]
    intro h
    exact HLEN.out (by rw [h])
end Go.Proofs.YtaoaachgnnengaaGreatDoor

/-
  pt.New, where there is room.
-/
namespace Go.Proofs.YtaoaachgnnengaaGreatDoor
open Go.RowKit

def nz (mv : Value) (fg k : Nat) : Prop := inRow mv k ∨ k = fg
/-- frames taken, so far -/
def L1To (n o mb fb fg : Nat) (mv : Value) (M : List Int) (who : Int) (w : World) (i : Value) (wr : World) : Prop :=
  ∃ (k : Nat) (lv : Value), k ≤ 17 ∧ i = .int .i64 (k : Int) ∧ NAt wr ⟨w.heap.size + 1, mb, fb, fg, w.heap.size, mv, .slice none 0 0, lv⟩ n M (frU n o k who) [] (rngF o k) who ∧ Only (nz mv fg) w wr ∧ (∀ j, inRow lv j → w.heap.size ≤ j)
/-- tables made, so far -/
def L3To (n o mb fb fg : Nat) (mv lv : Value) (M : List Int) (who : Int) (w : World) (i : Value) (wr : World) : Prop :=
  ∃ (k : Nat) (pv : Value), k ≤ 17 ∧ i = .int .i64 (k : Int) ∧ NAt wr ⟨w.heap.size + 1, mb, fb, fg, w.heap.size, mv, pv, lv⟩ n (tM M o k) (frM n o k who) (rngF o k) (rngF o 17) who ∧ Only (nz mv fg) w wr ∧ (∀ j, inRow pv j → w.heap.size ≤ j)
def L4To (w0 : World) (i : Value) (wr : World) : Prop := ∃ k : Nat, k ≤ 2 ∧ i = .int .i64 (k : Int) ∧ wr = w0
theorem frM_make1 (n o : Nat) (who : Int) (hw : frOwns who) (hn : o + 17 ≤ n) : frMine (frM n o 0 who) ((o + 0 : Nat) : Int) who (kMake 1) = ⟨(frM n o 0 who).set (o + 0) ⟨who, 1, 0, 0⟩, 0, 0⟩ := frM_make n o 0 who hw hn (by decide)
theorem frM_make2 (n o k : Nat) (who : Int) (hw : frOwns who) (hn : o + 17 ≤ n) (hk : k < 17) (h0 : k ≠ 0) : frMine (frM n o k who) ((o + k : Nat) : Int) who (kMake 2) = ⟨(frM n o k who).set (o + k) ⟨who, 2, 0, 0⟩, 0, 0⟩ := by
  have := frM_make n o k who hw hn hk
  rw [if_neg h0] at this
  exact this
theorem frM_use1 (n o : Nat) (who : Int) (hw : frOwns who) (hn : o + 17 ≤ n) : frThere ((frM n o 0 who).set (o + 0) ⟨who, 1, 0, 0⟩) ((o + 0 : Nat) : Int) kUse = ⟨frM n o 1 who, 0, 0⟩ := frM_use n o 0 who hw hn (by decide)
theorem frM_use2 (n o k : Nat) (who : Int) (hw : frOwns who) (hn : o + 17 ≤ n) (hk : k < 17) (h0 : k ≠ 0) : frThere ((frM n o k who).set (o + k) ⟨who, 2, 0, 0⟩) ((o + k : Nat) : Int) kUse = ⟨frM n o (k + 1) who, 0, 0⟩ := by
  have := frM_use n o k who hw hn hk
  rw [if_neg h0] at this
  exact this
theorem blk_two (w : World) (x y : Obj) : ((w.alloc x).alloc y).heap[w.heap.size + 1]? = some y := by
  have := blk_new (w.alloc x) y
  simpa using this
theorem rngF_not (o k : Nat) : ((o + k : Nat) : Int) ∉ rngF o k := fun h => by
  obtain ⟨i, hi, e⟩ := rngF_mem o k _ h
  omega
theorem fr_bounds1 (n o k : Nat) (who kd : Int) (hl : o + k < n) : ∀ i, i < ((frM n o k who).set (o + k) ⟨who, kd, 0, 0⟩).length → (0 ≤ (((frM n o k who).set (o + k) ⟨who, kd, 0, 0⟩).getD i default).wr ∧ (((frM n o k who).set (o + k) ⟨who, kd, 0, 0⟩).getD i default).wr ≤ 1000000) ∧ (0 ≤ (((frM n o k who).set (o + k) ⟨who, kd, 0, 0⟩).getD i default).us ∧ (((frM n o k who).set (o + k) ⟨who, kd, 0, 0⟩).getD i default).us ≤ 1000000) := fun i hi => by
  rw [List.length_set, frM_len] at hi
  rw [fr_setD _ _ _ _ (by rw [frM_len]; exact hl)]
  split
  · exact ⟨⟨by show (0 : Int) ≤ 0; decide, by show (0 : Int) ≤ 1000000; decide⟩, ⟨by show (0 : Int) ≤ 0; decide, by show (0 : Int) ≤ 1000000; decide⟩⟩
  · rw [frM_get n o k i who hi]
    split
    · exact ⟨⟨by decide, by decide⟩, ⟨by decide, by decide⟩⟩
    · split
      · split
        all_goals exact ⟨⟨by show (0 : Int) ≤ 0; decide, by show (0 : Int) ≤ 1000000; decide⟩, by first | exact ⟨by show (0 : Int) ≤ 1; decide, by show (1 : Int) ≤ 1000000; decide⟩ | exact ⟨by show (0 : Int) ≤ 0; decide, by show (0 : Int) ≤ 1000000; decide⟩⟩
      · exact ⟨⟨by decide, by decide⟩, ⟨by decide, by decide⟩⟩

/-- what New answers where there is room -/
def NewQ (n o mb fb fg : Nat) (mv : Value) (M : List Int) (who : Int) (w : World) (y : Ending) (w' : World) : Prop := ∃ pv lv, y = .returned (.tuple #[.pointer (some ⟨w.heap.size + 1, 0, none⟩), .nilIface]) ∧ PtAt w' ⟨w.heap.size + 1, mb, fb, fg, w.heap.size, mv, pv, lv⟩ ⟨n, tM M o 17, frM n o 17 who, rngF o 17, who⟩ ∧ Only (nz mv fg) w w' ∧ (∀ j, inRow pv j → w.heap.size ≤ j)
/-- and where its list lies -/
def NewQ2 (n o mb fb fg : Nat) (mv : Value) (M : List Int) (who : Int) (w : World) (y : Ending) (w' : World) : Prop := ∃ pv lv, y = .returned (.tuple #[.pointer (some ⟨w.heap.size + 1, 0, none⟩), .nilIface]) ∧ PtAt w' ⟨w.heap.size + 1, mb, fb, fg, w.heap.size, mv, pv, lv⟩ ⟨n, tM M o 17, frM n o 17 who, rngF o 17, who⟩ ∧ Only (nz mv fg) w w' ∧ (∀ j, inRow pv j → w.heap.size ≤ j) ∧ (∀ j, inRow lv j → w.heap.size ≤ j)
set_option maxRecDepth 100000 in
set_option maxHeartbeats 32000000 in
theorem tnew_all (E : Nat → Addr) (n o mb fb fg : Nat) (mv : Value) (M : List Int) (who : Int) (w : World) (hE : ∀ wx, Only (nz mv fg) w wx → ErrsAt errT gOf wx E nine) (hm : MAt w mb mv n M) (hf : FrAt 99 69 w fb fg n (frU n o 0 who)) (hap : (∀ k, inRow mv k → k ≠ fb ∧ k ≠ fg) ∧ fg ≠ mb) (hw : frOwns who) (hn : o + 17 ≤ n) (hn2 : n ≤ 1024) :
    Calls Tryz.prog 21 #[.pointer (some ⟨mb, 0, none⟩), .pointer (some ⟨fb, 0, none⟩), .int .i64 who] w (NewQ2 n o mb fb fg mv M who w) := by
  obtain ⟨i0, hi, hz0, hz1, hz2⟩ := info_parts infoPInt
  have HEE := Lib.hid hE
  obtain ⟨W1, hW1⟩ : ∃ W1, W1 = (w.alloc (.cells #[.slice none 0 0] 106)).alloc (.cells #[.pointer (some ⟨mb, 0, none⟩), .pointer (some ⟨fb, 0, none⟩), .int .i64 who, .pointer (some ⟨w.heap.size, 0, none⟩), .slice none 0 0] 90) := ⟨_, rfl⟩
  have hb1 : Below w.heap.size w W1 := hW1 ▸ ((Below.refl _ _).alloc (Nat.le_refl _) _).alloc (by simp) _
  have hmb := blk_lt hm.1
  have hfl := hf.lt
  have hap1 : Pl.Apart ⟨w.heap.size + 1, mb, fb, fg, w.heap.size, mv, .slice none 0 0, .slice none 0 0⟩ := by
    refine ⟨fun k h0 h1 => ?_, fun k h0 h2 => ?_, fun k h0 h3 => ?_, fun k h1 h2 => (hap.1 k h1).2 h2, fun k h1 h3 => ?_, fun k h2 h3 => ?_⟩
    · have h1' : inRow mv k := h1
      rcases h0 with h0 | h0 | h0 | h0
      · have := own_lt hm.2.1 h1'
        rw [show k = w.heap.size + 1 from h0] at this
        omega
      · rw [show k = mb from h0] at h1'
        exact hm.not h1'
      · exact (hap.1 k h1').1 h0
      · cases h0
    · have h2' : k = fg := h2
      rcases h0 with h0 | h0 | h0 | h0
      · rw [show k = w.heap.size + 1 from h0] at h2'
        omega
      · exact hap.2 (h2'.symm.trans h0)
      · exact hf.2.2.1 ((show k = fb from h0) ▸ h2')
      · cases h0
    · rcases h3 with h3 | h3
      · have h3' : k = w.heap.size := h3
        rcases h0 with h0 | h0 | h0 | h0
        · rw [show k = w.heap.size + 1 from h0] at h3'
          omega
        · rw [show k = mb from h0] at h3'
          omega
        · rw [show k = fb from h0] at h3'
          omega
        · cases h0
      · cases h3
    · rcases h3 with h3 | h3
      · have := own_lt hm.2.1 (show inRow mv k from h1)
        rw [show k = w.heap.size from h3] at this
        omega
      · cases h3
    · rcases h3 with h3 | h3
      · have h4 : k = w.heap.size := h3
        have h5 : k = fg := h2
        omega
      · cases h3
  have HN1 : Hid (NAt W1 ⟨w.heap.size + 1, mb, fb, fg, w.heap.size, mv, .slice none 0 0, .slice none 0 0⟩ n M (frU n o 0 who) [] (rngF o 0) who) := Lib.hid ⟨by rw [hW1]; exact blk_two w _ _, hm.below hb1, hf.below hb1, ⟨by rw [hW1]; exact blk_old (blk_new w _) _, own_nil _ _ _⟩, own_nil _ _ _, hap1⟩
  have HO1 : Hid (Only (nz mv fg) w W1) := Lib.hid (Only.of_below hb1)
  have HST : Hid (L1To n o mb fb fg mv M who w (.int .i64 0) W1) := Lib.hid ⟨0, _, Nat.zero_le _, rfl, HN1.out, HO1.out, fun j h => by cases h⟩
  have HW1 := Lib.hid hW1
  have HLT : Hid (mb < w.heap.size ∧ fb < w.heap.size) := Lib.hid ⟨hmb, hfl.1⟩
  clear hE hm hf hap hap1 hW1 hb1 hmb hfl HN1 HO1
  go_enter Tryz.func21, Tryz.ntmps21
  go_wp2_with fail
  rw [← HW1.out]
  go_loopw [27] (fun i wr => L1To n o mb fb fg mv M who w i wr) (fun i _ => 17 - (intOf i).toNat)
  case atStart => exact HST.out
  case round =>
    obtain ⟨k, lv, hk, rfl, hN, ho, hlv⟩ := hrel
    have HN := Lib.hid hN
    have HO := Lib.hid ho
    have HLV := Lib.hid hlv
    clear HST
    by_cases hlt : k < 17
    · have hki : (k : Int) < 17 := by omega
      have ha := falloc_any E (frU n o k who) fb fg n who wr (HEE.out _ ho) hN.fr
      rw [frU_alloc n o k who hw (by omega)] at ha
      obtain ⟨x, hx⟩ : ∃ x : Int, ((o + k : Nat) : Int) = x := ⟨_, rfl⟩
      rw [hx] at ha
      have HA := Lib.hid ha
      have HXE := Lib.hid hx
      clear ha hN ho hlv hx
      go_wp2_with fail
      refine HA.out.mono ?_
      rintro y w2 ⟨rfl, hf2, ho2⟩
      have HN2 := Lib.hid (HN.out.fr' ho2 hf2)
      have HO2 := Lib.hid (HO.out.trans (ho2.mono fun _ h => .inl (.inr h)))
      obtain ⟨-, c4, f4⟩ := HN2.out.cells
      have ltb := blk_lt HN2.out.row
      have htl := HN2.out.tl
      rw [rngF_len] at htl
      obtain ⟨ao, cap, hlve⟩ := own_slice htl
      dsimp only at hlve c4
      subst hlve
      have HTL := Lib.hid htl
      have HNT : Hid (¬ inRow (.slice ao k cap) (w.heap.size + 1)) := Lib.hid fun h => own_not htl HN2.out.row (by decide) h
      clear hf2 ho2 htl
      unfold errC
      rw [if_pos rfl]
      dsimp only
      go_wp2_with (at_builtin; refine wpList_append_sep _ rfl _ _ 43 rfl 3 i0 (.int .i64 0) 1 8 Tryz.underlying43 hi hz0 hz1 hz2 rfl (by decide) _ _ _ rfl (HTL.out.alloc _) ⟨w2.heap.size, 0, none⟩ 1 1 [.int .i64 x] rfl rfl (cell_one_new _ _ _) (by simp [Value.oneCell']) (by unfold maxLen; omega) (by omega) ?_)
      intro v' wx ho3 hg3 hs3
      obtain ⟨ao2, cap2, rfl⟩ := own_slice ho3
      have hbx := blk_grown (blk_old HN2.out.row (.cells #[.int .i64 x] 3)) hg3 HNT.out
      have cx := blk_cell hbx 4
      have fx := blk_free hbx 4
      have HON : Hid (Only (fun j => j = w.heap.size + 1 ∨ inRow (.slice ao k cap) j) w2 (wx.setCell ⟨w.heap.size + 1, 4, none⟩ (.slice ao2 (k + 1) cap2))) := Lib.hid
        (Only.setCell (F := fun j => j = w.heap.size + 1 ∨ inRow (.slice ao k cap) j) ((Only.alloc _ w2 (.cells #[.int .i64 x] 3)).grown hg3 (fun j hj => .inl (.inr hj))) (p := ⟨w.heap.size + 1, 4, none⟩) (.inl (.inl rfl)) _)
      have hs4 : ∀ j, inRow (.slice ao2 (k + 1) cap2) j → inRow (.slice ao k cap) j ∨ w2.heap.size ≤ j := fun j hj => by
        rcases hs3 j hj with h | h
        · exact .inl h
        · have h' := h
          try simp only [World.size_alloc] at h'
          exact .inr (by omega)
      have HN3 : Hid (NAt (wx.setCell ⟨w.heap.size + 1, 4, none⟩ (.slice ao2 (k + 1) cap2)) ⟨w.heap.size + 1, mb, fb, fg, w.heap.size, mv, .slice none 0 0, .slice ao2 (k + 1) cap2⟩ n M (frU n o (k + 1) who) [] (rngF o (k + 1)) who) := Lib.hid (HN2.out.list' HON.out (by have := blk_put hbx 4 (.slice ao2 (k + 1) cap2); exact this) (by
        have e1 : ints (rngF o k) ++ [Value.int .i64 x] = ints (rngF o (k + 1)) := by rw [rngF_succ, HXE.out]; simp [ints]
        rw [e1] at ho3
        rw [rngF_len]
        exact own_set ho3 hbx (by decide) 4 _) ⟨by show mb ≠ w.heap.size + 1; have := HLT.out.1; omega, fun h => by have := HLV.out mb h; have := HLT.out.1; omega⟩ ⟨by show fb ≠ w.heap.size + 1; have := HLT.out.2; omega, fun h => by have := HLV.out fb h; have := HLT.out.2; omega⟩ hs4)
      have HO3 : Hid (Only (nz mv fg) w (wx.setCell ⟨w.heap.size + 1, 4, none⟩ (.slice ao2 (k + 1) cap2))) := Lib.hid (HO2.out.trans' HON.out fun j hj => by
        rcases hj with hj | hj
        · exact .inr (by omega)
        · exact .inr (HLV.out j hj))
      have HLV3 : Hid (∀ j, inRow (.slice ao2 (k + 1) cap2) j → w.heap.size ≤ j) := Lib.hid fun j hj => by
        rcases hs4 j hj with h | h
        · exact HLV.out j h
        · have := HO2.out.size; omega
      clear ho3 hg3 hs3 hbx c4 f4 hs4
      go_wp2_with fail
      go_roundw
      case rel => exact ⟨k + 1, _, by omega, by go_num, HN3.out, HO3.out, HLV3.out⟩
      case measure => simp [intOf]; omega
    · have hk17 : k = 17 := by omega
      have hkn : ¬ (k : Int) < 17 := by omega
      have hN17 : NAt wr ⟨w.heap.size + 1, mb, fb, fg, w.heap.size, mv, .slice none 0 0, lv⟩ n M (frM n o 0 who) [] (rngF o 17) who := by
        rw [frM_zero, ← hk17]
        exact hN
      have hsh := own_shape hN17.tl
      rw [rngF_len] at hsh
      rcases hsh with ⟨-, hz, -⟩ | ⟨g, cap, hlve, -⟩
      · omega
      dsimp only at hlve
      subst hlve
      have HST3 : Hid (L3To n o mb fb fg mv (.slice (some ⟨g, 0, none⟩) 17 cap) M who w (.int .i64 0) wr) := Lib.hid ⟨0, _, Nat.zero_le _, rfl, hN17, ho, fun j h => by cases h⟩
      obtain ⟨-, c4, -⟩ := hN17.cells
      have ltb := blk_lt hN17.row
      have HCL : Hid (∀ wx : World, wx.ownsRow 0 3 1 (.slice (some ⟨g, 0, none⟩) 17 cap) (rngF o 17).length (ints (rngF o 17)) → ∀ q, q < 17 → wx.cell? ⟨g, q, none⟩ = some (.int .i64 ((o + q : Nat) : Int))) := Lib.hid fun wx ht q hq => by
        rw [rngF_len] at ht
        rw [own_cell ht q (by omega), ints_get' _ q (by rw [rngF_len]; exact hq), rngF_get o 17 q hq]
      have HLV9 := Lib.hid HLV.out
      clear hN hN17 ho hlv HN HO HLV hk17 hlt hk
      go_wp2_with fail
      go_loopw [70] (fun i wr => L3To n o mb fb fg mv (.slice (some ⟨g, 0, none⟩) 17 cap) M who w i wr) (fun i _ => 17 - (intOf i).toNat)
      case atStart => exact HST3.out
      case round =>
        obtain ⟨k, pv, hk, rfl, hN, ho, hpv⟩ := hrel
        clear HST3 c4 ltb
        by_cases hlt : k < 17
        · have hki : (k : Int) < 17 := by omega
          by_cases hk0 : k = 0
          · subst hk0
            clear hki
            obtain ⟨x, hx⟩ : ∃ x : Int, ((o + 0 : Nat) : Int) = x := ⟨_, rfl⟩
            have q1 : wr.cell? ⟨g, 0, none⟩ = some (.int .i64 x) := by rw [← hx]; exact HCL.out wr hN.tl 0 hlt
            have HX := Lib.hid hx
            have HFL : Hid (∀ wx, MAt wx mb mv n (tM M o 0) → Calls Tryz.prog 50 #[.pointer (some ⟨mb, 0, none⟩), .int .i64 x, .slice none 0 0] wx fun e w' => e = .returned (.bool true) ∧ MAt w' mb mv n (fillL (tM M o 0) (o + 0) []) ∧ Only (fun k => inRow mv k) wx w') := Lib.hid fun wx h => hx ▸ mm_fill_ok (tM M o 0) [] mb n (o + 0) 0 0 none mv wx h hn2 (by omega) (atL_nil _ _) rfl (by decide) (fun a h => by omega)
            have HMK : Hid (∀ wx, Only (nz mv fg) w wx → FrAt 99 69 wx fb fg n (frM n o 0 who) → Calls Tryz.prog 51 #[.pointer (some ⟨fb, 0, none⟩), .int .i64 x, .int .i64 who, .int .i64 1] wx (FrQ 99 69 E fb fg n ⟨((frM n o 0 who).set (o + 0) ⟨who, 1, 0, 0⟩), 0, 0⟩ wx)) := Lib.hid fun wx hoo h => by
              have := fmake1 E (frM n o 0 who) fb fg n ((o + 0 : Nat) : Int) who wx (HEE.out _ hoo) h
              rw [frM_make1 n o who hw hn, hx] at this
              exact this
            have HUS : Hid (∀ wx, Only (nz mv fg) w wx → FrAt 99 69 wx fb fg n ((frM n o 0 who).set (o + 0) ⟨who, 1, 0, 0⟩) → Calls Tryz.prog 52 #[.pointer (some ⟨fb, 0, none⟩), .int .i64 x] wx (FrQ 99 69 E fb fg n ⟨frM n o 1 who, 0, 0⟩ wx)) := Lib.hid fun wx hoo h => by
              have := fuse_any E ((frM n o 0 who).set (o + 0) ⟨who, 1, 0, 0⟩) fb fg n ((o + 0 : Nat) : Int) wx (fr_bounds1 n o 0 who 1 (by omega)) (HEE.out _ hoo) h
              rw [frM_use1 n o who hw hn, hx] at this
              exact this
            have hfair : fairP x = true := by rw [← hx]; simp [fairP]; omega
            have hnot : x ∉ rngF o 0 := by rw [← hx]; exact rngF_not o 0
            have HAD : Hid (∀ wx, PAt wx w.heap.size pv (rngF o 0) → Calls Tryz.prog 54 #[.pointer (some ⟨w.heap.size, 0, none⟩), .int .i64 x] wx fun e w' => e = .returned (.tuple #[.int .i64 (rngF o 0).length, .nilIface]) ∧ ∃ v', PAt w' w.heap.size v' (rngF o 0 ++ [x]) ∧ Only (fun k => k = w.heap.size ∨ inRow pv k) wx w' ∧ ∀ k, inRow v' k → inRow pv k ∨ wx.heap.size ≤ k) := Lib.hid fun wx h => add_ok (rngF o 0) w.heap.size pv x wx h hfair hnot (by rw [rngF_len]; omega)
            have HN := Lib.hid hN
            have HO := Lib.hid ho
            have HPV := Lib.hid hpv
            clear hN ho hpv hx hfair hnot
            go_wp2_with fail
            refine (HFL.out _ HN.out.mem).mono ?_
            rintro y w2 ⟨rfl, hm2, ho2⟩
            have HN2 := Lib.hid (HN.out.mem' ho2 hm2)
            have HO2 := Lib.hid (HO.out.trans (ho2.mono fun _ h => .inl (.inl h)))
            clear hm2 ho2 q1
            go_wp2_with fail
            refine (HMK.out _ HO2.out HN2.out.fr).mono ?_
            rintro y w3 ⟨rfl, hf3, ho3⟩
            have HN3 := Lib.hid (HN2.out.fr' ho3 hf3)
            have HO3 := Lib.hid (HO2.out.trans (ho3.mono fun _ h => .inl (.inr h)))
            clear hf3 ho3
            unfold errC
            rw [if_pos rfl]
            go_wp2_with fail
            refine (HUS.out _ HO3.out HN3.out.fr).mono ?_
            rintro y w4 ⟨rfl, hf4, ho4⟩
            have HN4 := Lib.hid (HN3.out.fr' ho4 hf4)
            have HO4 := Lib.hid (HO3.out.trans (ho4.mono fun _ h => .inl (.inr h)))
            clear hf4 ho4
            unfold errC
            rw [if_pos rfl]
            have hnw := blk_new w4 (.cells #[.nilIface, .nilIface] 49)
            obtain ⟨W4, hW4⟩ : ∃ W4, w4.alloc (.cells #[.nilIface, .nilIface] 49) = W4 := ⟨_, rfl⟩
            have hb4 : Below w4.heap.size w4 W4 := hW4 ▸ (Below.refl _ _).alloc (Nat.le_refl _) _
            rw [hW4] at hnw
            have HN5 := Lib.hid (HN4.out.below hb4)
            have HO5 := Lib.hid (HO4.out.below' hb4)
            have HC4 : Hid (∀ q, q < 2 → W4.cell? ⟨w4.heap.size, q, none⟩ = some .nilIface) := Lib.hid fun q hq => by
              rw [blk_cell hnw q]
              match q, hq with
              | 0, _ => rfl
              | 1, _ => rfl
            have HW4 := Lib.hid hW4
            clear hnw hb4 hW4
            go_wp2_with fail
            rw [HW4.out]
            go_loopw [90] (fun i wr => L4To W4 i wr) (fun i _ => 2 - (intOf i).toNat)
            case atStart => exact ⟨0, Nat.zero_le _, rfl, rfl⟩
            case round =>
              obtain ⟨q, hq, rfl, rfl⟩ := hrel
              by_cases hq2 : q < 2
              · have hqi : (q : Int) < 2 := by omega
                have cq := HC4.out q hq2
                go_wp2_with fail
                go_roundw
                case rel => exact ⟨q + 1, by omega, by go_num, rfl⟩
                case measure => simp [intOf]; omega
              · have hqn : ¬ (q : Int) < 2 := by omega
                obtain ⟨c3, c4, -⟩ := HN5.out.cells
                have ltb := blk_lt HN5.out.row
                go_wp2_with fail
                refine (HAD.out _ HN5.out.pm).mono ?_
                rintro y w6 ⟨rfl, v', hp6, ho6, hr6⟩
                have HN6 := Lib.hid (HN5.out.pm' ho6 hp6 hr6)
                have HO6 := Lib.hid (HO5.out.trans' ho6 fun j hj => .inr (by rcases hj with hj | hj; rw [hj]; exact Nat.le_refl _; exact HPV.out j hj))
                have HPV6 : Hid (∀ j, inRow v' j → w.heap.size ≤ j) := Lib.hid fun j hj => by
                  rcases hr6 j hj with h | h
                  · exact HPV.out j h
                  · have := HO5.out.size; omega
                clear hp6 ho6 hr6 c3 c4
                go_wp2_with fail
                go_roundw
                case rel => exact ⟨1, v', by omega, by go_num, by have := HN6.out; rw [← HX.out, ← rngF_succ] at this; exact this, HO6.out, HPV6.out⟩
                case measure => simp [intOf]
          · have hk0' : ((k : Int) == 0) = false := by simp; omega
            obtain ⟨x, hx⟩ : ∃ x : Int, ((o + k : Nat) : Int) = x := ⟨_, rfl⟩
            have q1 : wr.cell? ⟨g, k, none⟩ = some (.int .i64 x) := by rw [← hx]; exact HCL.out wr hN.tl k hlt
            have HX := Lib.hid hx
            have HFL : Hid (∀ wx, MAt wx mb mv n (tM M o k) → Calls Tryz.prog 50 #[.pointer (some ⟨mb, 0, none⟩), .int .i64 x, .slice none 0 0] wx fun e w' => e = .returned (.bool true) ∧ MAt w' mb mv n (fillL (tM M o k) (o + k) []) ∧ Only (fun k => inRow mv k) wx w') := Lib.hid fun wx h => hx ▸ mm_fill_ok (tM M o k) [] mb n (o + k) 0 0 none mv wx h hn2 (by omega) (atL_nil _ _) rfl (by decide) (fun a h => by omega)
            have HMK : Hid (∀ wx, Only (nz mv fg) w wx → FrAt 99 69 wx fb fg n (frM n o k who) → Calls Tryz.prog 51 #[.pointer (some ⟨fb, 0, none⟩), .int .i64 x, .int .i64 who, .int .i64 2] wx (FrQ 99 69 E fb fg n ⟨((frM n o k who).set (o + k) ⟨who, 2, 0, 0⟩), 0, 0⟩ wx)) := Lib.hid fun wx hoo h => by
              have := fmake2 E (frM n o k who) fb fg n ((o + k : Nat) : Int) who wx (HEE.out _ hoo) h
              rw [frM_make2 n o k who hw hn hlt hk0, hx] at this
              exact this
            have HUS : Hid (∀ wx, Only (nz mv fg) w wx → FrAt 99 69 wx fb fg n ((frM n o k who).set (o + k) ⟨who, 2, 0, 0⟩) → Calls Tryz.prog 52 #[.pointer (some ⟨fb, 0, none⟩), .int .i64 x] wx (FrQ 99 69 E fb fg n ⟨frM n o (k + 1) who, 0, 0⟩ wx)) := Lib.hid fun wx hoo h => by
              have := fuse_any E ((frM n o k who).set (o + k) ⟨who, 2, 0, 0⟩) fb fg n ((o + k : Nat) : Int) wx (fr_bounds1 n o k who 2 (by omega)) (HEE.out _ hoo) h
              rw [frM_use2 n o k who hw hn hlt hk0, hx] at this
              exact this
            have hfair : fairP x = true := by rw [← hx]; simp [fairP]; omega
            have hnot : x ∉ rngF o k := by rw [← hx]; exact rngF_not o k
            have HAD : Hid (∀ wx, PAt wx w.heap.size pv (rngF o k) → Calls Tryz.prog 54 #[.pointer (some ⟨w.heap.size, 0, none⟩), .int .i64 x] wx fun e w' => e = .returned (.tuple #[.int .i64 (rngF o k).length, .nilIface]) ∧ ∃ v', PAt w' w.heap.size v' (rngF o k ++ [x]) ∧ Only (fun k => k = w.heap.size ∨ inRow pv k) wx w' ∧ ∀ k, inRow v' k → inRow pv k ∨ wx.heap.size ≤ k) := Lib.hid fun wx h => add_ok (rngF o k) w.heap.size pv x wx h hfair hnot (by rw [rngF_len]; omega)
            have HN := Lib.hid hN
            have HO := Lib.hid ho
            have HPV := Lib.hid hpv
            clear hN ho hpv hx hfair hnot
            go_wp2_with fail
            refine (HFL.out _ HN.out.mem).mono ?_
            rintro y w2 ⟨rfl, hm2, ho2⟩
            have HN2 := Lib.hid (HN.out.mem' ho2 hm2)
            have HO2 := Lib.hid (HO.out.trans (ho2.mono fun _ h => .inl (.inl h)))
            clear hm2 ho2 q1
            go_wp2_with fail
            refine (HMK.out _ HO2.out HN2.out.fr).mono ?_
            rintro y w3 ⟨rfl, hf3, ho3⟩
            have HN3 := Lib.hid (HN2.out.fr' ho3 hf3)
            have HO3 := Lib.hid (HO2.out.trans (ho3.mono fun _ h => .inl (.inr h)))
            clear hf3 ho3
            unfold errC
            rw [if_pos rfl]
            go_wp2_with fail
            refine (HUS.out _ HO3.out HN3.out.fr).mono ?_
            rintro y w4 ⟨rfl, hf4, ho4⟩
            have HN4 := Lib.hid (HN3.out.fr' ho4 hf4)
            have HO4 := Lib.hid (HO3.out.trans (ho4.mono fun _ h => .inl (.inr h)))
            clear hf4 ho4
            unfold errC
            rw [if_pos rfl]
            have hnw := blk_new w4 (.cells #[.nilIface, .nilIface] 49)
            obtain ⟨W4, hW4⟩ : ∃ W4, w4.alloc (.cells #[.nilIface, .nilIface] 49) = W4 := ⟨_, rfl⟩
            have hb4 : Below w4.heap.size w4 W4 := hW4 ▸ (Below.refl _ _).alloc (Nat.le_refl _) _
            rw [hW4] at hnw
            have HN5 := Lib.hid (HN4.out.below hb4)
            have HO5 := Lib.hid (HO4.out.below' hb4)
            have HC4 : Hid (∀ q, q < 2 → W4.cell? ⟨w4.heap.size, q, none⟩ = some .nilIface) := Lib.hid fun q hq => by
              rw [blk_cell hnw q]
              match q, hq with
              | 0, _ => rfl
              | 1, _ => rfl
            have HW4 := Lib.hid hW4
            clear hnw hb4 hW4
            go_wp2_with fail
            rw [HW4.out]
            go_loopw [90] (fun i wr => L4To W4 i wr) (fun i _ => 2 - (intOf i).toNat)
            case atStart => exact ⟨0, Nat.zero_le _, rfl, rfl⟩
            case round =>
              obtain ⟨q, hq, rfl, rfl⟩ := hrel
              by_cases hq2 : q < 2
              · have hqi : (q : Int) < 2 := by omega
                have cq := HC4.out q hq2
                go_wp2_with fail
                go_roundw
                case rel => exact ⟨q + 1, by omega, by go_num, rfl⟩
                case measure => simp [intOf]; omega
              · have hqn : ¬ (q : Int) < 2 := by omega
                obtain ⟨c3, c4, -⟩ := HN5.out.cells
                have ltb := blk_lt HN5.out.row
                have q0 := (HCL.out _ HN5.out.tl 0 (by omega)).trans (show _ = some (.int .i64 (o : Int)) by rw [Nat.add_zero])
                have hkp : (0 : Int) < (k : Int) := by omega
                have wk1 := IntWalk.i64_in ((k : Int) - 1) (by omega)
                have HW := Lib.hid (twrite_any (fillL (tM M o k) (o + k) []) mb n mv (o : Int) ((k : Int) - 1) ⟨x, true, true, true⟩ _ HN5.out.mem (by omega) (by omega))
                unfold Ent.v at HW
                dsimp only at HW
                go_wp2_with fail
                refine HW.out.mono ?_
                rintro y w5 ⟨rfl, hm5, ho5⟩
                have HN5b := Lib.hid (HN5.out.mem' ho5 hm5)
                have HO5b := Lib.hid (HO5.out.trans (ho5.mono fun _ h => .inl (.inl h)))
                obtain ⟨d3, d4, -⟩ := HN5b.out.cells
                have ltb2 := blk_lt HN5b.out.row
                clear hm5 ho5 c3 c4 q0
                go_wp2_with fail
                refine (HAD.out _ HN5b.out.pm).mono ?_
                rintro y w6 ⟨rfl, v', hp6, ho6, hr6⟩
                have HN6 := Lib.hid (HN5b.out.pm' ho6 hp6 hr6)
                have HO6 := Lib.hid (HO5b.out.trans' ho6 fun j hj => .inr (by rcases hj with hj | hj; rw [hj]; exact Nat.le_refl _; exact HPV.out j hj))
                have HPV6 : Hid (∀ j, inRow v' j → w.heap.size ≤ j) := Lib.hid fun j hj => by
                  rcases hr6 j hj with h | h
                  · exact HPV.out j h
                  · have := HO5b.out.size; omega
                clear hp6 ho6 hr6 d3 d4
                go_wp2_with fail
                go_roundw
                case rel => exact ⟨k + 1, v', by omega, by go_num, by have := HN6.out; rw [← HX.out, ← rngF_succ] at this; unfold tM; rw [if_neg hk0]; exact this, HO6.out, HPV6.out⟩
                case measure => simp [intOf]; omega
        · have hkn3 : ¬ (k : Int) < 17 := by omega
          obtain rfl : k = 17 := by omega
          go_wp2
          go_ret2
          exact ⟨pv, _, rfl, hN.done (by rw [List.take_of_length_le (by rw [rngF_len]; exact Nat.le_refl _)]) (rngF_len o 17), ho, hpv, HLV9.out⟩
theorem tnew_ok (E : Nat → Addr) (n o mb fb fg : Nat) (mv : Value) (M : List Int) (who : Int) (w : World) (hE : ∀ wx, Only (nz mv fg) w wx → ErrsAt errT gOf wx E nine) (hm : MAt w mb mv n M) (hf : FrAt 99 69 w fb fg n (frU n o 0 who)) (hap : (∀ k, inRow mv k → k ≠ fb ∧ k ≠ fg) ∧ fg ≠ mb) (hw : frOwns who) (hn : o + 17 ≤ n) (hn2 : n ≤ 1024) :
    Calls Tryz.prog 21 #[.pointer (some ⟨mb, 0, none⟩), .pointer (some ⟨fb, 0, none⟩), .int .i64 who] w (NewQ n o mb fb fg mv M who w) :=
  (tnew_all E n o mb fb fg mv M who w hE hm hf hap hw hn hn2).mono fun _ _ ⟨pv, lv, h1, h2, h3, h4, _⟩ => ⟨pv, lv, h1, h2, h3, h4⟩
end Go.Proofs.YtaoaachgnnengaaGreatDoor

/-
  facaderef.SameInts: are two lists the same?
-/
namespace Go.Proofs.YtaoaachgnnengaaGreatDoor
open Go.RowKit

/-- the first k are the same -/
def SameIntsTo (xs ys : List Int) (w : World) (i : Value) (wr : World) : Prop := ∃ k : Nat, k ≤ xs.length ∧ i = .int .i64 k ∧ xs.take k = ys.take k ∧ ∃ n, wr = w.drewN n

set_option maxHeartbeats 800000 in
theorem sameInts_any (xs ys : List Int) (ao bo : Option Addr) (c1 c2 : Nat) (w : World) (hx : AtL w ao (ints xs)) (hy : AtL w bo (ints ys)) (hl : xs.length ≤ 1000000000) (hl2 : ys.length ≤ 1000000000) :
    Calls Tryz.prog 29 #[.slice ao xs.length c1, .slice bo ys.length c2] w fun e w' => e = .returned (.bool (decide (xs = ys))) ∧ ∃ n, w' = w.drewN n := by
  by_cases hlen : xs.length = ys.length
  · have HX := Lib.hid hx
    have HY := Lib.hid hy
    have HLEN := Lib.hid hlen
    rw [← HLEN.out]
    clear hx hy hlen
    go_enter Tryz.func29, Tryz.ntmps29
    go_wp2_with fail
    go_loopw [5] (fun i wr => SameIntsTo xs ys w i wr) (fun i _ => xs.length - (intOf i).toNat)
    case atStart => exact ⟨0, Nat.zero_le _, rfl, rfl, 0, rfl⟩
    case round =>
      obtain ⟨k, hk, rfl, hs, n, rfl⟩ := hrel
      have HS := Lib.hid hs
      clear hs
      by_cases hlt : k < xs.length
      · have hlt2 : k < ys.length := by have := HLEN.out; omega
        obtain ⟨b, o, rfl, p0, hb⟩ := HX.out k _ (ints_get xs k hlt)
        obtain ⟨b2, o2, rfl, q0, hb2⟩ := HY.out k _ (ints_get ys k hlt2)
        obtain ⟨x, hx⟩ : ∃ x, xs.getD k 0 = x := ⟨_, rfl⟩
        obtain ⟨y, hy⟩ : ∃ y, ys.getD k 0 = y := ⟨_, rfl⟩
        rw [hx] at p0
        rw [hy] at q0
        have HXE := Lib.hid hx
        have HYE := Lib.hid hy
        have hki : (k : Int) < (xs.length : Int) := by omega
        clear hx hy
        by_cases hxy : x = y
        · have hbq : (x == y) = true := by simp [hxy]
          have HXY := Lib.hid hxy
          clear hxy
          go_wp2_with fail
          go_quiet (fail)
          go_wp2
          go_roundw
          case rel => exact ⟨k + 1, by omega, by go_num, take_eq 0 hlt hlt2 HS.out (by rw [HXE.out, HYE.out, HXY.out]), n + nq, rfl⟩
          case measure => simp [intOf]; omega
        · have hbq : (x == y) = false := by simp [hxy]
          have HXY := Lib.hid hxy
          clear hxy
          go_wp2_with fail
          go_quiet (fail)
          go_wp2
          go_ret
          refine ⟨ret_bool ?_, n + nq, rfl⟩
          symm
          rw [decide_eq_false_iff_not]
          intro h
          subst h
          exact HXY.out (HXE.out.symm.trans HYE.out)
      · obtain rfl : k = xs.length := by omega
        go_wp2
        go_ret
        refine ⟨ret_bool ?_, n, rfl⟩
        symm
        rw [decide_eq_true_eq]
        have := HS.out
        rwa [List.take_length, List.take_of_length_le (by rw [HLEN.out]; exact Nat.le_refl _)] at this
  · have hne : ((xs.length : Int) != (ys.length : Int)) = true := by rw [bne_iff_ne]; omega
    have HLEN := Lib.hid hlen
    clear hlen hx hy
    go_enter Tryz.func29, Tryz.ntmps29
    go_wp2
    go_ret
    refine ⟨ret_bool ?_, 0, rfl⟩
    symm
    rw [decide_eq_false_iff_not]
    intro h
    exact HLEN.out (by rw [h])
end Go.Proofs.YtaoaachgnnengaaGreatDoor

/-
  facadelaw18.same: tables, memory, frames beside the document's.
-/
namespace Go.Proofs.YtaoaachgnnengaaGreatDoor
open Go.RowKit

theorem ts_words (xs : List Int) (h : xs.length = 16) (ao bo : Option Addr) (c1 c2 : Nat) (w : World) (hx : AtL w ao (u32s xs)) (hy : AtL w bo (u32s xs)) :
    Calls Tryz.prog 28 #[.slice ao 16 c1, .slice bo 16 c2] w fun e w' => e = .returned (.bool true) ∧ Below w.heap.size w w' := by
  have := sameWords_any xs xs ao bo c1 c2 w hx hy (by omega) (by omega)
  rw [h] at this
  refine this.mono ?_
  rintro e w' ⟨rfl, d, rfl⟩
  exact ⟨by rw [decide_eq_true rfl], below_drewN (Below.refl _ _) d⟩
theorem ts_ints (xs : List Int) (h : xs.length ≤ 1000) (ao bo : Option Addr) (c1 c2 : Nat) (w : World) (hx : AtL w ao (ints xs)) (hy : AtL w bo (ints xs)) :
    Calls Tryz.prog 29 #[.slice ao xs.length c1, .slice bo xs.length c2] w fun e w' => e = .returned (.bool true) ∧ Below w.heap.size w w' := by
  refine (sameInts_any xs xs ao bo c1 c2 w hx hy (by omega) (by omega)).mono ?_
  rintro e w' ⟨rfl, d, rfl⟩
  exact ⟨by rw [decide_eq_true rfl], below_drewN (Below.refl _ _) d⟩
def SmTo (n : Nat) (w0 : World) (i : Value) (wr : World) : Prop := ∃ k : Nat, k ≤ n ∧ i = .int .i64 (k : Int) ∧ Below w0.heap.size w0 wr
set_option maxRecDepth 100000 in
set_option maxHeartbeats 32000000 in
theorem tsame_any (w0 : World) (p : Pl) (z : Zl) (s : Ts) (m : Int) (w : World) (hT : Tw w0 w p z s s) (hi : TInv m s) :
    Calls Tryz.prog 7 #[.pointer (some ⟨p.tb, 0, none⟩), .pointer (some ⟨z.zb, 0, none⟩), .pointer (some ⟨p.mb, 0, none⟩), .pointer (some ⟨p.fb, 0, none⟩)] w fun y w' => y = .returned (.bool true) ∧ Below w.heap.size w w' := by
  have HT := Lib.hid (fun wx (hx : Below w.heap.size w wx) => hT.below hx)
  have HI := Lib.hid hi
  have HST : Hid (SmTo s.n w (.int .i64 0) w) := Lib.hid ⟨0, Nat.zero_le _, rfl, Below.refl _ _⟩
  clear hT hi
  go_enter Tryz.func7, Tryz.ntmps7
  go_wp2_with fail
  go_loopw [9] (fun i wr => SmTo s.n w i wr) (fun i _ => s.n - (intOf i).toNat)
  case atStart => exact HST.out
  case round =>
    obtain ⟨k, hk, rfl, hb⟩ := hrel
    have HB := Lib.hid hb
    have HR := Lib.hid (HT.out _ hb)
    obtain ⟨zc0, -, -, -, -, ltz⟩ := ZAt.cells HR.out.zt
    have HFS := Lib.hid (mr_frames s.M z.mb s.n z.mv wr HR.out.zt.mem HI.out.n1)
    clear hb HST
    by_cases hlt : k < s.n
    · have hki : (k : Int) < (s.n : Int) := by omega
      have wk := IntWalk.i64_in ((k : Int) + 1) (by have := HI.out.n1; omega)
      have HMF := Lib.hid (mm_frame s.M p.mb s.n k p.mv wr HR.out.pt.mem HI.out.n1 hlt)
      have HFL : Hid (k < s.F.length) := Lib.hid (by rw [HI.out.lf]; exact hlt)
      have HWL := Lib.hid (frameW_len s.M s.n k HI.out.lm hlt)
      go_wp2_with fail
      refine HFS.out.mono ?_
      rintro y wx ⟨rfl, rfl⟩
      go_wp2_with fail
      refine HMF.out.mono ?_
      rintro y w2 ⟨v2, rfl, ho2, -, hb2⟩
      obtain ⟨a2, q2, rfl, hat2⟩ := atL_of_own ho2
      have HB2 := Lib.hid (HB.out.trans (hb2.mono HB.out.size))
      have HA2 := Lib.hid hat2
      have HR2 := Lib.hid (HT.out _ HB2.out)
      obtain ⟨zc0', -, -, -, -, ltz'⟩ := ZAt.cells HR2.out.zt
      have HZF := Lib.hid (mr_frame s.M z.mb s.n k z.mv w2 HR2.out.zt.mem HI.out.n1 hlt)
      clear ho2 hb2 hat2 zc0 ltz
      go_wp2_with fail
      refine HZF.out.mono ?_
      rintro y w3 ⟨v3, rfl, ho3, -, hb3⟩
      obtain ⟨a3, q3, rfl, hat3⟩ := atL_of_own ho3
      have HB3 := Lib.hid (HB2.out.trans (hb3.mono HB2.out.size))
      have HA2' := Lib.hid (HA2.out.mono hb3)
      have HA3 := Lib.hid hat3
      have HR3 := Lib.hid (HT.out _ HB3.out)
      have HFG := Lib.hid (fget_some s.F p.fb p.fg s.n k w3 HR3.out.pt.fr HFL.out)
      unfold frV at HFG
      clear ho3 hb3 hat3 zc0' ltz'
      go_wp2_with fail
      refine HFG.out.mono ?_
      rintro y w4 ⟨rfl, hb4⟩
      obtain ⟨⟨xo, xk, xw, xu⟩, hx⟩ : ∃ x, s.F.getD k default = x := ⟨_, rfl⟩
      rw [hx]
      dsimp only
      have HB4 := Lib.hid (HB3.out.trans (hb4.mono HB3.out.size))
      have HR4 := Lib.hid (HT.out _ HB4.out)
      obtain ⟨-, zc1, -, -, -, ltz5⟩ := ZAt.cells HR4.out.zt
      have zh := HR4.out.zt.fr.hdr
      obtain ⟨e0, e1, e2, e3⟩ := HR4.out.zt.fr.cells k HFL.out
      rw [hx] at e0 e1 e2 e3
      dsimp only at e0 e1 e2 e3
      have ltf := HR4.out.zt.fr.lt.1
      have ltg := HR4.out.zt.fr.lt.2
      have hkf : (k : Int) < (s.F.length : Int) := by have := HFL.out; omega
      have hfk : k < s.F.length := HFL.out
      have HSW : Hid (∀ wx, Below w3.heap.size w3 wx → Calls Tryz.prog 28 #[.slice a2 16 q2, .slice a3 16 q3] wx fun e w' => e = .returned (.bool true) ∧ Below wx.heap.size wx w') := Lib.hid fun wx hx => ts_words (frameW s.M k) HWL.out a2 a3 q2 q3 wx (HA2'.out.mono hx) (HA3.out.mono hx)
      obtain ⟨w6, hw6⟩ : ∃ w6, (w4.alloc (.cells #[.int .i64 xo, .int .i64 xk, .int .i64 xw, .int .i64 xu] 69)).alloc (.cells #[.int .i64 xo, .int .i64 xk, .int .i64 xw, .int .i64 xu] 72) = w6 := ⟨_, rfl⟩
      have hb46 : Below w4.heap.size w4 w6 := hw6 ▸ ((Below.refl _ _).alloc (Nat.le_refl _) _).alloc (by simp) _
      have HB36 := Lib.hid (hb4.trans (hb46.mono hb4.size))
      have HB6 := Lib.hid (HB4.out.trans (hb46.mono HB4.out.size))
      have HK6 : Hid (w6.heap[w4.heap.size + 1]? = some (.cells #[.int .i64 xo, .int .i64 xk, .int .i64 xw, .int .i64 xu] 72 (0, 0)) ∧ w6.heap[w4.heap.size]? = some (.cells #[.int .i64 xo, .int .i64 xk, .int .i64 xw, .int .i64 xu] 69 (0, 0))) := Lib.hid ⟨hw6 ▸ blk_two w4 _ _, hw6 ▸ blk_old (blk_new w4 _) _⟩
      have HW6 := Lib.hid hw6
      clear hx hw6 hb4 hb46
      go_wp2_with fail
      rw [HW6.out]
      clear zc1 ltz5 zh e0 e1 e2 e3 ltf ltg hkf hfk
      refine (HSW.out _ HB36.out).mono ?_
      rintro y w7 ⟨rfl, hb7⟩
      have HB7 := Lib.hid (HB6.out.trans (hb7.mono HB6.out.size))
      have k6 := blk_below HK6.out.1 hb7 (blk_lt HK6.out.1)
      have k5 := blk_below HK6.out.2 hb7 (blk_lt HK6.out.2)
      have g0 := blk_cell k6 0
      have g1 := blk_cell k6 1
      have g2 := blk_cell k6 2
      have g3 := blk_cell k6 3
      have h0 := blk_cell k5 0
      have h1 := blk_cell k5 1
      have h2 := blk_cell k5 2
      have h3 := blk_cell k5 3
      clear hb7
      go_wp2_with fail
      go_roundw
      case rel => exact ⟨k + 1, by omega, by go_num, HB7.out⟩
      case measure => simp [intOf]; omega
    · have hki : ¬ (k : Int) < (s.n : Int) := by omega
      go_wp2_with fail
      refine HFS.out.mono ?_
      rintro y wx ⟨rfl, rfl⟩
      have HPL := Lib.hid (fun wx (hx : Below w.heap.size w wx) => tlive_any p s m wx (HT.out wx hx).pt HI.out)
      have HZL := Lib.hid (fun wx (hx : Below w.heap.size w wx) => zlive_any z s m wx (HT.out wx hx).zt HI.out)
      have HMP := Lib.hid (fun wx (hx : Below w.heap.size w wx) => tmap_any p s m wx (HT.out wx hx).pt HI.out)
      obtain ⟨lv, hlv⟩ : ∃ lv, tLive s = lv := ⟨_, rfl⟩
      have HLN : Hid (lv.length ≤ 256) := Lib.hid (by rw [← hlv]; exact tLiveN_len s 256)
      rw [hlv] at HPL HZL
      have HPN : Hid (s.P.length ≤ 512) := Lib.hid HI.out.p512
      have HZC : Hid (∀ wx, Below w.heap.size w wx → ∃ g cap, z.gv = .slice (some ⟨g, 0, none⟩) s.P.length cap ∧ wx.cell? ⟨z.zb, 3, none⟩ = some (.slice (some ⟨g, 0, none⟩) s.P.length cap) ∧ z.zb < wx.heap.size ∧ AtL wx (some ⟨g, 0, none⟩) (ints s.P)) := Lib.hid fun wx hx => by
        have hz := (HT.out wx hx).zt
        obtain ⟨g, cap, hl, -, -⟩ := ZAt.list hz HI.out.p17
        have c3 := (ZAt.cells hz).2.2.2.1
        rw [hl] at c3
        obtain ⟨a, c, e, hat⟩ := atL_of_own hz.gl
        rw [hl] at e
        cases e
        exact ⟨g, cap, hl, c3, (ZAt.cells hz).2.2.2.2.2, hat⟩
      obtain ⟨g, cap, hgv, -, -, -⟩ := HZC.out w (Below.refl _ _)
      have HZ3 : Hid (∀ wx, Below w.heap.size w wx → wx.cell? ⟨z.zb, 3, none⟩ = some (.slice (some ⟨g, 0, none⟩) s.P.length cap) ∧ z.zb < wx.heap.size ∧ AtL wx (some ⟨g, 0, none⟩) (ints s.P)) := Lib.hid fun wx hx => by
        obtain ⟨g', cap', e, h1, h2, h3⟩ := HZC.out wx hx
        rw [hgv] at e
        cases e
        exact ⟨h1, h2, h3⟩
      have HSI : Hid (∀ (xs : List Int), xs.length ≤ 1000 → ∀ wx a b c d, AtL wx a (ints xs) → AtL wx b (ints xs) → Calls Tryz.prog 29 #[.slice a xs.length c, .slice b xs.length d] wx fun e w' => e = .returned (.bool true) ∧ Below wx.heap.size wx w') := Lib.hid fun xs hx wx a b c d h1 h2 => ts_ints xs hx a b c d wx h1 h2
      clear hlv hgv HZC HFS zc0 ltz
      go_wp2_with fail
      go_region_with (first
        | (go_at_call 13; refine (HPL.out _ (by first | exact HB.out | exact HB.out.drew)).mono ?_; rintro e w2 ⟨v2, rfl, ho2, -, hb2⟩; obtain ⟨a2, q2, rfl, hat2⟩ := atL_of_own ho2; have hB2 : Below w.heap.size w w2 := (by first | exact HB.out.trans (hb2.mono HB.out.size) | exact HB.out.drew.trans (hb2.mono HB.out.drew.size)))
        | (go_at_call 30; refine (HZL.out _ hB2).mono ?_; rintro e w3 ⟨v3, rfl, ho3, -, hb3⟩; obtain ⟨a3, q3, rfl, hat3⟩ := atL_of_own ho3; have hat2' := hat2.mono hb3; have hB3 := hB2.trans (hb3.mono hB2.size))
        | (go_at_call 31; refine (HMP.out _ hB4).mono ?_; rintro e w5 ⟨cb, cv, rfl, hp5, hb5⟩; have hB5 := hB4.trans (hb5.mono hB4.size); obtain ⟨zc5, zl5, -⟩ := HZ3.out _ hB5)
        | (go_at_call 32; refine (pm_all s.P cb cv w5 hp5 (by have := HPN.out; omega)).mono ?_; rintro e w6 ⟨v6, rfl, ho6, -, hb6⟩; obtain ⟨a6, q6, rfl, hat6⟩ := atL_of_own ho6; have hB6 := hB5.trans (hb6.mono hB5.size); obtain ⟨zc6, zl6, hat7⟩ := HZ3.out _ hB6)
        | (go_at_call 29; refine (HSI.out s.P (by have := HPN.out; omega) _ a6 (some ⟨g, 0, none⟩) q6 cap hat6 hat7).mono ?_; rintro e w7 ⟨rfl, hb7⟩; have hB7 := hB6.trans (hb7.mono hB6.size))
        | (go_at_call 29; refine (HSI.out lv (by have := HLN.out; omega) _ a2 a3 q2 q3 hat2' hat3).mono ?_; rintro e w4 ⟨rfl, hb4⟩; have hB4 := hB3.trans (hb4.mono hB3.size); obtain ⟨zc4, zl4, -⟩ := HZ3.out _ hB4))
      all_goals
        have HB7 := Lib.hid hB7
        clear hB2 hB3 hB4 hB5 hB6 hB7 hat2 hat2' hat3 hat6 hat7 hp5 ho2 ho3 ho6
        go_wp2
        go_ret
        exact ⟨rfl, HB7.out⟩
end Go.Proofs.YtaoaachgnnengaaGreatDoor

/-
  The fields of a struct that came in, read off its cells: numbers, bools, rows of numbers.
-/
namespace Go.Proofs.YtaoaachgnnengaaGreatDoor
open Go.ChangeShapes Go.WideShapes Go.ChangeAt Go.RowKit Go.Joins
section
variable {H : Type} {enc : TypeId × Value → H} {P : Program} {w : World} {base : Nat} {spare : Nat → Bool} {held : Bool} {n : Nat}

theorem cut1 {cs : List Value} {o : Nat} {v : Value} (h : (cs.drop o).take 1 = [v]) : cs[o]? = some v := by
  have := congrArg (fun l => l[0]?) h
  simpa [List.getElem?_take, List.getElem?_drop] using this
theorem fld_int {cs : List Value} {o : Nat} {t : TypeId} {k : IntKind} {y : DataW H × List MemPlace} (ht : P.underlying t = some (.int k)) (hc : P.cellsOf t = 1)
    (h : DataW.trod enc P w base spare held n t ((cs.drop o).take (P.cellsOf t)) = some y) : ∃ z, cs[o]? = some (.int k z) ∧ (Lit.int k z).wf = true := by
  rw [hc] at h
  obtain ⟨z, e, -, wz⟩ := DataW.trod_int ht h
  exact ⟨z, cut1 e, wz⟩
theorem fld_bool {cs : List Value} {o : Nat} {t : TypeId} {y : DataW H × List MemPlace} (ht : P.underlying t = some .bool) (hc : P.cellsOf t = 1)
    (h : DataW.trod enc P w base spare held n t ((cs.drop o).take (P.cellsOf t)) = some y) : ∃ z, cs[o]? = some (.bool z) := by
  rw [hc] at h
  obtain ⟨z, e, -⟩ := DataW.trod_bool ht h
  exact ⟨z, cut1 e⟩
theorem ints_row {k : IntKind} : ∀ {m : Nat} {l : List Value}, l.length = m → (∀ i, i < m → ∃ z, l[i]? = some (.int k z) ∧ (Lit.int k z).wf = true) → ∃ zs : List Int, zs.length = m ∧ l = zs.map (Value.int k) ∧ ∀ z ∈ zs, (Lit.int k z).wf = true
  | 0, l, hl, _ => ⟨[], rfl, List.eq_nil_of_length_eq_zero hl, by simp⟩
  | m + 1, [], hl, _ => by simp at hl
  | m + 1, v :: l, hl, h => by
    obtain ⟨z, hz, wz⟩ := h 0 (by omega)
    simp at hz
    subst hz
    obtain ⟨zs, h1, h2, h3⟩ := ints_row (l := l) (m := m) (by simpa using hl) (fun i hi => by simpa using h (i + 1) (by omega))
    exact ⟨z :: zs, by simp [h1], by simp [h2], by simp [wz]; exact h3⟩
theorem fld_ints {cs : List Value} {o m : Nat} {t e : TypeId} {k : IntKind} {y : DataW H × List MemPlace} (ht : P.underlying t = some (.array m e)) (he : P.underlying e = some (.int k)) (hce : P.cellsOf e = 1) (hc : P.cellsOf t = m)
    (h : DataW.trod enc P w base spare held n t ((cs.drop o).take (P.cellsOf t)) = some y) : ∃ zs : List Int, zs.length = m ∧ (cs.drop o).take m = zs.map (Value.int k) ∧ ∀ z ∈ zs, (Lit.int k z).wf = true := by
  obtain ⟨xs, n', -, -, hl, hx, hi⟩ := DataW.trod_array ht h
  rw [hc] at hl hi
  refine ints_row hl fun i him => ?_
  have hsome : ∃ y, xs[i]? = some y := ⟨_, List.getElem?_eq_getElem (by omega)⟩
  obtain ⟨y', hy'⟩ := hsome
  have := (hi i him).trans hy'
  rw [hce] at this
  obtain ⟨z, e', -, wz⟩ := DataW.trod_int he this
  rw [Nat.mul_one] at e'
  exact ⟨z, cut1 e', wz⟩
end
end Go.Proofs.YtaoaachgnnengaaGreatDoor

