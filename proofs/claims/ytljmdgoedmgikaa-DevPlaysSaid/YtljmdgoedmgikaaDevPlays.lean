/-
  DevPlays: for every things, sector and time the call returns true.
-/
import Derived.Test.YtljmdgoedmgikaaDevZone
import Derived.Deep.Cut
import Derived.Deep.CutRange
import Derived.Deep.CutBlock
import Derived.Deep.RegionHeld3
import Derived.Deep.RegionWith
import Derived.BigQuiet
namespace Go.Proofs.Ytljmdgoedmgikaa
open Go.RowKit

def DpTo (n : Nat) (B bd bx : Nat) (w : World) (i : Value) (wr : World) : Prop :=
  ∃ (k : Nat) (D X : DevS), k ≤ n ∧ i = .int .i64 k ∧ TwoAt wr B bd bx D X ∧ Sim D X ∧ D.keys.length ≤ 64 ∧ D.seen.length ≤ k ∧ Below w.heap.size w wr
set_option maxRecDepth 100000 in
set_option maxHeartbeats 40000000 in
theorem devPlays_walk (xs : List DDo) (ao : Option Addr) (c1 : Nat) (s now : Int) (w : World) (hx : ∀ x ∈ xs, ddoOk x) (hr : AtL w ao (xs.flatMap ddoCells)) (hs : 0 ≤ s ∧ s ≤ 4294967295) :
    Calls Try.prog 7 #[.slice ao xs.length c1, .int .u32 s, .int .i64 now] w fun e w' => e = .returned (.bool true) ∧ Below w.heap.size w w' := by
  by_cases hlen : xs.length ≤ 100
  · have hlen2 : ¬ (100 : Int) < (xs.length : Int) := by omega
    have HR := Lib.hid hr
    have HXS := Lib.hid hx
    clear hr hx
    go_enter Try.func7, Try.ntmps7
    go_wp2_with fail
    refine (first_true _).mono ?_
    rintro e w1 ⟨rfl, hb1⟩
    have HB1 := Lib.hid hb1
    clear hb1
    go_wp2_with fail
    go_loopw [10] (fun i wr => DpTo xs.length w1.heap.size w1.heap.size (w1.heap.size + 1) w i wr) (fun i _ => xs.length - (intOf i).toNat)
    case atStart => exact ⟨0, {}, {}, Nat.zero_le _, rfl, two_new w1, ⟨rfl, rfl, rfl, rfl, fun h => by cases h⟩, by decide, by decide, (HB1.out.alloc HB1.out.size _).alloc (Nat.le_trans HB1.out.size (by simp)) _⟩
    case round =>
      obtain ⟨k, D, X, hk, rfl, ht, hsim, hkl, hsl, hb⟩ := hrel
      have HT := Lib.hid ht
      have HSIM := Lib.hid hsim
      have HB := Lib.hid hb
      clear ht hsim hb
      by_cases hlt : k < xs.length
      · have hki : (k : Int) < (xs.length : Int) := by omega
        obtain ⟨x0, x1, x2, x3⟩ := ddo_get xs k hlt
        have hok := HXS.out (xs.getD k default) (by rw [List.getD_eq_getElem?_getD, List.getElem?_eq_getElem hlt]; exact List.getElem_mem _)
        obtain ⟨⟨kd, nn, vv, uu⟩, hd⟩ : ∃ d, xs.getD k default = d := ⟨_, rfl⟩
        rw [hd] at x0 x1 x2 x3 hok
        obtain ⟨hv, hu⟩ := hok
        obtain ⟨sb, so, rfl, d0, hbl⟩ := HR.out _ _ x0
        have q1 := HR.out _ _ x1
        have q2 := HR.out _ _ x2
        have q3 := HR.out _ _ x3
        obtain ⟨sb1, so1, e1, d1, -⟩ := q1
        obtain ⟨sb2, so2, e2, d2, -⟩ := q2
        obtain ⟨sb3, so3, e3, d3, -⟩ := q3
        cases e1
        cases e2
        cases e3
        have c0 := (HB.out.cell (p := ⟨sb, so + k * 4, none⟩) hbl).trans d0
        have c1 := (HB.out.cell (p := ⟨sb, so + (k * 4 + 1), none⟩) hbl).trans d1
        have c2 := (HB.out.cell (p := ⟨sb, so + (k * 4 + 2), none⟩) hbl).trans d2
        have c3 := (HB.out.cell (p := ⟨sb, so + (k * 4 + 3), none⟩) hbl).trans d3
        rw [← Nat.add_assoc] at c1 c2 c3
        clear d0 d1 d2 d3 x0 x1 x2 x3 hd
        have HV : Hid (0 ≤ vv ∧ vv ≤ 4294967295) := Lib.hid hv
        have HU : Hid (0 ≤ uu ∧ uu ≤ 4294967295) := Lib.hid hu
        clear hv hu
        by_cases hn0 : nn < 0
        · go_wp2
          go_ret
          exact ⟨rfl, (HB.out.alloc HB.out.size _)⟩
        · by_cases hn1 : 1125899906842624 < nn
          · go_wp2
            go_ret
            exact ⟨rfl, (HB.out.alloc HB.out.size _)⟩
          · have hx1 : 0 ≤ nn ∧ nn ≤ 1125899906842624 := by omega
            go_wp2_with fail
            obtain ⟨wA, hwA⟩ : ∃ wA, wA = wr.alloc (.cells #[.int .i64 kd, .int .i64 nn, .int .u32 vv, .int .u32 uu] 53) := ⟨_, rfl⟩
            have hba : Below wr.heap.size wr wA := hwA ▸ Below.alloc (Below.refl _ _) (Nat.le_refl _) _
            have HBA0 := Lib.hid hba
            have HTA := Lib.hid (HT.out.below hba)
            have HBA := Lib.hid (HB.out.trans (hba.mono HB.out.size))
            have HBLK : Hid (wA.heap[wr.heap.size]? = some (.cells #[.int .i64 kd, .int .i64 nn, .int .u32 vv, .int .u32 uu] 53 (0, 0))) := Lib.hid (hwA ▸ blk_new wr _)
            rw [← hwA]
            clear hwA hba HB c0 c1 c2 c3
            obtain ⟨F, hF, -, -⟩ := HTA.out.d
            refine (clone_any D wA _ F hF hkl (by omega)).mono ?_
            rintro e w2 ⟨bc, rfl, hc2, hb2⟩
            have HC2 := Lib.hid hc2
            have HX2 := Lib.hid hb2
            clear hF hc2 hb2
            go_wp2_with fail
            refine (seen_any D w2 bc _ HC2.out (by omega)).mono ?_
            rintro e w3 ⟨sv, rfl, hs3, hsf, hb3⟩
            have HC3 := Lib.hid (HC2.out.below hb3)
            have hx3 := HX2.out.trans (hb3.mono HX2.out.size)
            have HB3 := Lib.hid (HBA.out.trans (hx3.mono HBA.out.size))
            have HS3 := Lib.hid hs3
            have HSF : Hid (∀ k, inRow sv k → wr.heap.size ≤ k) := Lib.hid fun k hk => Nat.le_trans HBA0.out.size (Nat.le_trans HX2.out.size (hsf k hk))
            have HCF : Hid (wr.heap.size ≤ wA.heap.size) := Lib.hid HBA0.out.size
            have HZ : Hid (Zone w w3 w1.heap.size wr.heap.size w1.heap.size (w1.heap.size + 1) D X w3) := Lib.hid (Zone.of HT.out (HBA0.out.trans (hx3.mono HBA0.out.size)) HB3.out HB1.out.size)
            have HKZ : Hid (∀ wx D' X', Zone w w3 w1.heap.size wr.heap.size w1.heap.size (w1.heap.size + 1) D' X' wx → wx.cell? ⟨wr.heap.size, 0, none⟩ = some (.int .i64 kd) ∧ wx.cell? ⟨wr.heap.size, 1, none⟩ = some (.int .i64 nn) ∧ wx.cell? ⟨wr.heap.size, 2, none⟩ = some (.int .u32 vv) ∧ wx.cell? ⟨wr.heap.size, 3, none⟩ = some (.int .u32 uu)) := Lib.hid fun wx D' X' h => by
              have hl := blk_lt HBLK.out
              have hblk : wx.heap[wr.heap.size]? = some (.cells #[.int .i64 kd, .int .i64 nn, .int .u32 vv, .int .u32 uu] 53 (0, 0)) := by
                rw [h.blk (Nat.le_refl _) (Nat.lt_of_lt_of_le hl hx3.size), hx3.block _ hl]
                exact HBLK.out
              exact ⟨blk_cell hblk 0, blk_cell hblk 1, blk_cell hblk 2, blk_cell hblk 3⟩
            obtain ⟨c0, c1, c2, c3⟩ := HKZ.out _ _ _ HZ.out
            clear hs3 hsf hb3 hx3 HX2 HC2 HTA HBA HBA0 HBLK HT
            obtain ⟨L, hL⟩ : ∃ L, wr.heap.size = L := ⟨_, rfl⟩
            rw [hL] at HZ HKZ HSF HCF c0 c1 c2 c3 ⊢
            obtain ⟨da, hda⟩ : ∃ da, da = L := ⟨_, rfl⟩
            rw [← hda] at c0 c1 c2 c3 ⊢
            have HKZ : Hid (∀ wx D' X', Zone w w3 w1.heap.size L w1.heap.size (w1.heap.size + 1) D' X' wx → wx.cell? ⟨da, 0, none⟩ = some (.int .i64 kd) ∧ wx.cell? ⟨da, 1, none⟩ = some (.int .i64 nn) ∧ wx.cell? ⟨da, 2, none⟩ = some (.int .u32 vv) ∧ wx.cell? ⟨da, 3, none⟩ = some (.int .u32 uu)) := Lib.hid fun wx D' X' h => by rw [hda]; exact HKZ.out wx D' X' h
            clear hda hL
            go_upto_block 2 with fail
            go_cut [] from 49 to 171 (fun wc => DpMid k w w3 w1.heap.size L w1.heap.size (w1.heap.size + 1) wc)
            · by_cases hk3 : kd = 3
              · subst hk3
                go_wp2_with fail
                obtain ⟨F, hF, hback⟩ := HZ.out.d
                refine (out_any D _ _ F hF uu (by omega)).mono ?_
                rintro e w4 ⟨rfl, hd4, ho4⟩
                have HZ4 : Hid (Zone w w3 w1.heap.size L w1.heap.size (w1.heap.size + 1) { D with seen := D.seen ++ [(1, 0, uu)] } X w4) := Lib.hid (hback _ _ _ hd4 (fun k hk => hk) ho4)
                obtain ⟨c0, c1, c2, c3⟩ := HKZ.out _ _ _ HZ4.out
                clear hF hback hd4 ho4
                go_wp2_with fail
                obtain ⟨F, hF, hback⟩ := HZ4.out.x
                refine (rout_any X _ _ F hF uu (by rw [HSIM.out.seen]; omega)).mono ?_
                rintro e w5 ⟨rfl, hd5, ho5⟩
                have HZ5 : Hid (Zone w w3 w1.heap.size L w1.heap.size (w1.heap.size + 1) { D with seen := D.seen ++ [(1, 0, uu)] } { X with seen := X.seen ++ [(1, 0, uu)] } w5) := Lib.hid (hback _ _ _ hd5 (fun k hk => hk) ho5)
                clear hF hback hd5 ho5
                go_wp2_with fail
                go_meet
                case rel => exact ⟨_, _, HZ5.out, ⟨HSIM.out.keys, HSIM.out.sec, congrArg (· ++ [(1, 0, uu)]) HSIM.out.seen, HSIM.out.set, HSIM.out.due⟩, hkl, by simp; omega⟩
              by_cases hk4 : kd = 4
              · subst hk4
                go_wp2_with fail
                obtain ⟨F, hF, hback⟩ := HZ.out.d
                refine (put_any D _ _ F hF vv uu HV.out.1 HV.out.2 (by omega)).mono ?_
                rintro e w4 ⟨rfl, hd4, ho4⟩
                have HZ4 : Hid (Zone w w3 w1.heap.size L w1.heap.size (w1.heap.size + 1) { D with sec := D.sec.set (vv.toNat % 16) uu, seen := D.seen ++ [(2, vv % 16, uu)] } X w4) := Lib.hid (hback _ _ _ hd4 (fun k hk => hk) ho4)
                obtain ⟨c0, c1, c2, c3⟩ := HKZ.out _ _ _ HZ4.out
                clear hF hback hd4 ho4
                go_wp2_with fail
                obtain ⟨F, hF, hback⟩ := HZ4.out.x
                refine (rput_any X _ _ F hF vv uu HV.out.1 HV.out.2 (by rw [HSIM.out.seen]; omega)).mono ?_
                rintro e w5 ⟨rfl, hd5, ho5⟩
                have HZ5 : Hid (Zone w w3 w1.heap.size L w1.heap.size (w1.heap.size + 1) { D with sec := D.sec.set (vv.toNat % 16) uu, seen := D.seen ++ [(2, vv % 16, uu)] } { X with sec := X.sec.set (vv.toNat % 16) uu, seen := X.seen ++ [(2, vv % 16, uu)] } w5) := Lib.hid (hback _ _ _ hd5 (fun k hk => hk) ho5)
                clear hF hback hd5 ho5
                go_wp2_with fail
                go_meet
                case rel => exact ⟨_, _, HZ5.out, ⟨HSIM.out.keys, congrArg (List.set · (vv.toNat % 16) uu) HSIM.out.sec, congrArg (· ++ [(2, vv % 16, uu)]) HSIM.out.seen, HSIM.out.set, HSIM.out.due⟩, hkl, by simp; omega⟩
              by_cases hk5 : kd = 5
              · subst hk5
                by_cases hu0 : uu = 0
                · subst hu0
                  go_wp2_with fail
                  obtain ⟨F, hF, hback⟩ := HZ.out.d
                  refine (set_zero D _ _ F hF nn).mono ?_
                  rintro e w4 ⟨rfl, hd4, ho4⟩
                  have HZ4 : Hid (Zone w w3 w1.heap.size L w1.heap.size (w1.heap.size + 1) { D with set := false, due := 0 } X w4) := Lib.hid (hback _ _ _ hd4 (fun k hk => .inl hk) ho4)
                  obtain ⟨c0, c1, c2, c3⟩ := HKZ.out _ _ _ HZ4.out
                  clear hF hback hd4 ho4
                  go_wp2_with fail
                  obtain ⟨F, hF, hback⟩ := HZ4.out.x
                  refine (rset_any X _ _ F hF nn 0 (by decide) (by decide) hx1.1 (by omega)).mono ?_
                  rintro e w5 ⟨rfl, hd5, ho5⟩
                  have HZ5 : Hid (Zone w w3 w1.heap.size L w1.heap.size (w1.heap.size + 1) { D with set := false, due := 0 } { X with set := decide ((0 : Int) < 0), due := nn + 0 } w5) := Lib.hid (hback _ _ _ hd5 (fun k hk => .inl hk) ho5)
                  clear hF hback hd5 ho5
                  go_wp2_with fail
                  go_meet
                  case rel => exact ⟨_, _, HZ5.out, ⟨HSIM.out.keys, HSIM.out.sec, HSIM.out.seen, rfl, fun h => by cases h⟩, hkl, by simp; omega⟩
                · have hu1 : 0 < uu := by have := HU.out; omega
                  go_wp2_with fail
                  obtain ⟨F, hF, hback⟩ := HZ.out.d
                  refine (set_pos D _ _ F hF nn uu hu1 HU.out.2 hx1.1 (by omega)).mono ?_
                  rintro e w4 ⟨rfl, hd4, ho4⟩
                  have HZ4 : Hid (Zone w w3 w1.heap.size L w1.heap.size (w1.heap.size + 1) { D with set := true, due := nn + uu } X w4) := Lib.hid (hback _ _ _ hd4 (fun k hk => .inl hk) ho4)
                  obtain ⟨c0, c1, c2, c3⟩ := HKZ.out _ _ _ HZ4.out
                  clear hF hback hd4 ho4
                  go_wp2_with fail
                  obtain ⟨F, hF, hback⟩ := HZ4.out.x
                  refine (rset_any X _ _ F hF nn uu HU.out.1 HU.out.2 hx1.1 (by omega)).mono ?_
                  rintro e w5 ⟨rfl, hd5, ho5⟩
                  have HZ5 : Hid (Zone w w3 w1.heap.size L w1.heap.size (w1.heap.size + 1) { D with set := true, due := nn + uu } { X with set := decide (0 < uu), due := nn + uu } w5) := Lib.hid (hback _ _ _ hd5 (fun k hk => .inl hk) ho5)
                  clear hF hback hd5 ho5
                  go_wp2_with fail
                  go_meet
                  case rel => exact ⟨_, _, HZ5.out, ⟨HSIM.out.keys, HSIM.out.sec, HSIM.out.seen, decide_eq_true hu1, fun _ => rfl⟩, hkl, by simp; omega⟩
              by_cases hk2 : kd = 2
              · subst hk2
                cases hkeys : D.keys with
                | nil =>
                  have HXK : Hid (X.keys = []) := Lib.hid (HSIM.out.keys.trans hkeys)
                  have HDK := Lib.hid hkeys
                  clear hkeys
                  go_wp2_with fail
                  obtain ⟨F, hF, -⟩ := HZ.out.d
                  refine (in_none D _ _ F hF HDK.out).mono ?_
                  rintro e w4 ⟨rfl, rfl⟩
                  clear hF
                  go_wp2_with fail
                  obtain ⟨F, hF, -⟩ := HZ.out.x
                  refine (rin_none X _ _ F hF HXK.out).mono ?_
                  rintro e w4 ⟨rfl, rfl⟩
                  clear hF
                  go_wp2_with fail
                  go_meet
                  case rel => exact ⟨D, X, HZ.out, HSIM.out, hkl, by omega⟩
                | cons key ks =>
                  have HXK : Hid (X.keys = key :: ks) := Lib.hid (HSIM.out.keys.trans hkeys)
                  have HDK := Lib.hid hkeys
                  have HKL : Hid (ks.length ≤ 64) := Lib.hid (by rw [hkeys] at hkl; simp at hkl; omega)
                  have HXL : Hid (X.keys.length ≤ 64) := Lib.hid (by rw [HSIM.out.keys]; exact hkl)
                  clear hkeys
                  go_wp2_with fail
                  obtain ⟨F, hF, hback⟩ := HZ.out.d
                  refine (in_some D _ _ F key ks hF HDK.out hkl).mono ?_
                  rintro e w4 ⟨rfl, hd4, ho4⟩
                  have HZ4 : Hid (Zone w w3 w1.heap.size L w1.heap.size (w1.heap.size + 1) { D with keys := ks } X w4) := Lib.hid (hback _ _ _ hd4 (fun k hk => hk) ho4)
                  clear hF hback hd4 ho4
                  go_wp2_with fail
                  obtain ⟨F, hF, hback⟩ := HZ4.out.x
                  refine (rin_some X _ _ F key ks hF HXK.out HXL.out).mono ?_
                  rintro e w5 ⟨rfl, hd5, ho5⟩
                  have HZ5 : Hid (Zone w w3 w1.heap.size L w1.heap.size (w1.heap.size + 1) { D with keys := ks } { X with keys := ks } w5) := Lib.hid (hback _ _ _ hd5 (fun k hk => hk) ho5)
                  clear hF hback hd5 ho5
                  go_wp2_with fail
                  go_meet
                  case rel => exact ⟨_, _, HZ5.out, ⟨rfl, HSIM.out.sec, HSIM.out.seen, HSIM.out.set, HSIM.out.due⟩, HKL.out, by simp; omega⟩
              by_cases hk1 : kd = 1
              · subst hk1
                have hzd := HZ.out.drew
                by_cases hroom : D.keys.length < 64
                · have HXR : Hid (X.keys.length < 64) := Lib.hid (by rw [HSIM.out.keys]; exact hroom)
                  obtain ⟨F, hF, hback⟩ := hzd.d
                  have HF := Lib.hid hF
                  have HBK := Lib.hid hback
                  have HROOM := Lib.hid hroom
                  clear hF hback hroom
                  go_wp2_with fail
                  go_region_held3 (fun wx => wx.cell? ⟨da, 3, none⟩ = some (.int .u32 uu)) (first | exact (HKZ.out _ _ _ (by assumption)).2.2.2)
                    (first
                      | (go_at_call 9; refine (press_room D _ _ uu F HF.out HROOM.out).mono ?_; rintro e w4 ⟨rfl, hd4, ho4⟩; have hz4 := HBK.out _ _ _ hd4 (fun k hk => hk) ho4; obtain ⟨F2, hF2, hback2⟩ := hz4.x; have HF2 := Lib.hid hF2; have HBK2 := Lib.hid hback2; clear hF2 hback2 hd4 ho4)
                      | (go_at_call 22; refine (rpress_room X _ _ uu F2 HF2.out HXR.out).mono ?_; rintro e w5 ⟨rfl, hd5, ho5⟩; have hz5 := HBK2.out _ _ _ hd5 (fun k hk => hk) ho5))
                  have HZ5 := Lib.hid hz5
                  clear hd5 ho5 hz5 hz4 hzd
                  go_wp2_with fail
                  go_meet
                  case rel => exact ⟨_, _, HZ5.out, ⟨congrArg (· ++ [uu]) HSIM.out.keys, HSIM.out.sec, HSIM.out.seen, HSIM.out.set, HSIM.out.due⟩, by have := HROOM.out; simp; omega, by simp; omega⟩
                · have HXR : Hid (¬ X.keys.length < 64) := Lib.hid (by rw [HSIM.out.keys]; exact hroom)
                  obtain ⟨F, hF, -⟩ := hzd.d
                  obtain ⟨F2, hF2, -⟩ := hzd.x
                  have HF := Lib.hid hF
                  have HF2 := Lib.hid hF2
                  have HROOM := Lib.hid hroom
                  clear hF hF2 hroom
                  go_wp2_with fail
                  go_region_held3 (fun wx => wx.cell? ⟨da, 3, none⟩ = some (.int .u32 uu)) (first | exact (HKZ.out _ _ _ (by assumption)).2.2.2)
                    (first
                      | (go_at_call 9; refine (press_full D _ _ uu F HF.out HROOM.out).mono ?_; rintro e w4 ⟨rfl, rfl⟩)
                      | (go_at_call 22; refine (rpress_full X _ _ uu F2 HF2.out HXR.out).mono ?_; rintro e w5 ⟨rfl, rfl⟩))
                  have HZ5 := Lib.hid hzd
                  clear hzd
                  go_wp2_with fail
                  go_meet
                  case rel => exact ⟨D, X, HZ5.out, HSIM.out, hkl, by omega⟩
              by_cases hk6 : kd = 6
              · subst hk6
                go_wp2_with fail
                obtain ⟨F, hF, hback⟩ := HZ.out.d
                refine (rang_any D _ _ F hF).mono ?_
                rintro e w4 ⟨rfl, hd4, ho4⟩
                have HZ4 : Hid (Zone w w3 w1.heap.size L w1.heap.size (w1.heap.size + 1) { D with set := false, due := 0 } X w4) := Lib.hid (hback _ _ _ hd4 (fun k hk => .inl hk) ho4)
                clear hF hback hd4 ho4
                obtain ⟨F, hF, hback⟩ := HZ4.out.x
                obtain ⟨kv, sv2, hrep, hfoot⟩ := hF
                have r0 := (blk_cell hrep.blk 19).trans (rdevCells_17 kv sv2 X.sec X.set X.due hrep.len)
                have f0 := blk_free hrep.blk 19
                have HZ5 : Hid (Zone w w3 w1.heap.size L w1.heap.size (w1.heap.size + 1) { D with set := false, due := 0 } { X with set := false } (w4.setCell ⟨w1.heap.size + 1, 19, none⟩ (.bool false))) := Lib.hid (hback _ _ F ⟨kv, sv2, hrep.put_set false, hfoot⟩ (fun k hk => .inl hk) (Only.setCell (F := F) (Only.refl _ _) (p := ⟨w1.heap.size + 1, 19, none⟩) (.inl (hfoot _ (.inl rfl))) _))
                clear hback hrep hfoot
                go_wp2_with fail
                go_meet
                case rel => exact ⟨_, _, HZ5.out, ⟨HSIM.out.keys, HSIM.out.sec, HSIM.out.seen, rfl, fun h => by cases h⟩, hkl, by simp; omega⟩
              have hb3 : (kd == 3) = false := by simp [hk3]
              have hb4 : (kd == 4) = false := by simp [hk4]
              have hb5 : (kd == 5) = false := by simp [hk5]
              have hb2 : (kd == 2) = false := by simp [hk2]
              have hb1 : (kd == 1) = false := by simp [hk1]
              have hb6 : (kd == 6) = false := by simp [hk6]
              clear hk3 hk4 hk5 hk2 hk1 hk6
              have hm8 : 0 ≤ vv % 8 ∧ vv % 8 < 8 := by omega
              have hty : vv.tmod 8 = vv % 8 := Int.tmod_eq_emod_of_nonneg (HV.out.1)
              obtain ⟨y, hy⟩ : ∃ y, vv % 8 = y := ⟨_, rfl⟩
              rw [hy] at hm8 hty
              have hw8 : wrap64 y = y := IntWalk.wrap64_in y (by omega)
              clear hy
              by_cases hy3 : y = 3
              · rw [hy3] at hty hw8
                go_wp2_with fail
                obtain ⟨F, hF, hback⟩ := HZ.out.d
                refine (end_halt D _ _ F hF uu (by omega)).mono ?_
                rintro e w4 ⟨rfl, hd4, ho4⟩
                have HZ4 : Hid (Zone w w3 w1.heap.size L w1.heap.size (w1.heap.size + 1) { D with seen := D.seen ++ [(3, 0, uu)] } X w4) := Lib.hid (hback _ _ _ hd4 (fun k hk => hk) ho4)
                obtain ⟨c0, c1, c2, c3⟩ := HKZ.out _ _ _ HZ4.out
                clear hF hback hd4 ho4
                go_wp2_with fail
                obtain ⟨F, hF, hback⟩ := HZ4.out.x
                refine (rend_halt X _ _ F hF uu (by rw [HSIM.out.seen]; omega)).mono ?_
                rintro e w5 ⟨rfl, hd5, ho5⟩
                have HZ5 : Hid (Zone w w3 w1.heap.size L w1.heap.size (w1.heap.size + 1) { D with seen := D.seen ++ [(3, 0, uu)] } { X with seen := X.seen ++ [(3, 0, uu)] } w5) := Lib.hid (hback _ _ _ hd5 (fun k hk => hk) ho5)
                clear hF hback hd5 ho5
                go_wp2_with fail
                go_meet
                case rel => exact ⟨_, _, HZ5.out, ⟨HSIM.out.keys, HSIM.out.sec, congrArg (· ++ [(3, 0, uu)]) HSIM.out.seen, HSIM.out.set, HSIM.out.due⟩, hkl, by simp; omega⟩
              · by_cases hy4 : y = 4
                · rw [hy4] at hty hw8
                  go_wp2_with fail
                  obtain ⟨F, hF, hback⟩ := HZ.out.d
                  refine (end_fault D _ _ F hF uu (by omega)).mono ?_
                  rintro e w4 ⟨rfl, hd4, ho4⟩
                  have HZ4 : Hid (Zone w w3 w1.heap.size L w1.heap.size (w1.heap.size + 1) { D with seen := D.seen ++ [(4, uu, 0)] } X w4) := Lib.hid (hback _ _ _ hd4 (fun k hk => hk) ho4)
                  obtain ⟨c0, c1, c2, c3⟩ := HKZ.out _ _ _ HZ4.out
                  clear hF hback hd4 ho4
                  go_wp2_with fail
                  obtain ⟨F, hF, hback⟩ := HZ4.out.x
                  refine (rend_fault X _ _ F hF uu (by rw [HSIM.out.seen]; omega)).mono ?_
                  rintro e w5 ⟨rfl, hd5, ho5⟩
                  have HZ5 : Hid (Zone w w3 w1.heap.size L w1.heap.size (w1.heap.size + 1) { D with seen := D.seen ++ [(4, uu, 0)] } { X with seen := X.seen ++ [(4, uu, 0)] } w5) := Lib.hid (hback _ _ _ hd5 (fun k hk => hk) ho5)
                  clear hF hback hd5 ho5
                  go_wp2_with fail
                  go_meet
                  case rel => exact ⟨_, _, HZ5.out, ⟨HSIM.out.keys, HSIM.out.sec, congrArg (· ++ [(4, uu, 0)]) HSIM.out.seen, HSIM.out.set, HSIM.out.due⟩, hkl, by simp; omega⟩
                · have hb3 : (y == 3) = false := by simp [hy3]
                  have hb4 : (y == 4) = false := by simp [hy4]
                  have HB3' := Lib.hid hb3
                  have HB4' := Lib.hid hb4
                  clear hb3 hb4 hy3 hy4
                  go_wp2_with fail
                  obtain ⟨F, hF, -⟩ := HZ.out.d
                  refine (end_other D _ _ F hF y uu HB3'.out HB4'.out).mono ?_
                  rintro e w4 ⟨rfl, rfl⟩
                  clear hF
                  go_wp2_with fail
                  obtain ⟨F, hF, -⟩ := HZ.out.x
                  refine (rend_other X _ _ F hF y uu HB3'.out HB4'.out).mono ?_
                  rintro e w4 ⟨rfl, rfl⟩
                  clear hF
                  go_wp2_with fail
                  go_meet
                  case rel => exact ⟨D, X, HZ.out, HSIM.out, hkl, by omega⟩
            · obtain ⟨D', X', hz, hsim, hkl', hsl'⟩ := hcut
              have hHC := HC3.out.tight'
              have HCC : Hid (DevAt wc bc D (fun k => wA.heap.size ≤ k ∧ k < w3.heap.size)) := Lib.hid (hHC.only hz.2.1 (fun k hk _ hL => by have := hk.1; have := HCF.out; omega))
              have HSC : Hid (Reads wc sv D.seen.length (seenCells D.seen)) := Lib.hid (own_reads (own_only HS3.out hz.2.1 (fun k hk hL => by have := HSF.out k hk; omega)))
              have HZT := Lib.hid hz.two
              have HBC := Lib.hid hz.2.2.1
              have HSIM' := Lib.hid hsim
              obtain ⟨F, hF, -⟩ := hz.d
              obtain ⟨F2, hF2, -⟩ := hz.x
              have HF := Lib.hid hF
              have HF2 := Lib.hid hF2
              obtain ⟨kv, yv, hrep, -⟩ := hF2
              obtain ⟨xa, xc, rfl, -⟩ := atL_of_own hrep.keys
              obtain ⟨ya, yc, rfl, -⟩ := atL_of_own hrep.seen
              have y0 := (blk_cell hrep.blk 0).trans (rdevCells_0 _ _ _ _ _)
              have y1 := (blk_cell hrep.blk 1).trans (rdevCells_19 _ _ _ _ _ hrep.len)
              have hl := blk_lt hrep.blk
              rw [hsim.keys] at y0
              rw [hsim.seen] at y1
              have HYR : Hid (Reads wc (.slice ya X'.seen.length yc) D'.seen.length (seenCells D'.seen)) := Lib.hid (by have := own_reads hrep.seen; rw [hsim.seen] at this ⊢; exact this)
              rw [hsim.seen] at HYR
              have HK2 : Hid (∀ wx, Below wc.heap.size wc wx → Below wc.heap.size wc wx ∧ wx.cell? ⟨w1.heap.size + 1, 0, none⟩ = some (.slice xa D'.keys.length xc) ∧ wx.cell? ⟨w1.heap.size + 1, 1, none⟩ = some (.slice ya D'.seen.length yc)) := Lib.hid fun wx h =>
                ⟨h, (h.cell (p := ⟨w1.heap.size + 1, 0, none⟩) hl).trans y0, (h.cell (p := ⟨w1.heap.size + 1, 1, none⟩) hl).trans y1⟩
              have HKEYS : Hid (∀ wx, Below wc.heap.size wc wx → Calls Try.prog 10 #[.pointer (some ⟨w1.heap.size, 0, none⟩)] wx fun e w' => e = .returned (.int .i64 D'.keys.length) ∧ wx = w') := Lib.hid fun wx h => keys_any D' wx _ F (HF.out.below h)
              have HSEEN1 : Hid (∀ wx, Below wc.heap.size wc wx → Calls Try.prog 12 #[.pointer (some ⟨w1.heap.size, 0, none⟩)] wx fun e w' => ∃ v, e = .returned v ∧ Reads w' v D'.seen.length (seenCells D'.seen) ∧ Below wc.heap.size wc w') := Lib.hid fun wx h => (seen_any D' wx _ F (HF.out.below h) (by omega)).mono fun e w' ⟨v, he, ho, _, hb⟩ => ⟨v, he, own_reads ho, h.trans (hb.mono h.size)⟩
              have HSEEN2 : Hid (∀ wx, Below wc.heap.size wc wx → Calls Try.prog 12 #[.pointer (some ⟨bc, 0, none⟩)] wx fun e w' => ∃ v, e = .returned v ∧ Reads w' v D.seen.length (seenCells D.seen) ∧ Below wc.heap.size wc w') := Lib.hid fun wx h => (seen_any D wx _ _ (HCC.out.below h) (by omega)).mono fun e w' ⟨v, he, ho, _, hb⟩ => ⟨v, he, own_reads ho, h.trans (hb.mono h.size)⟩
              have HSAME1 : Hid (∀ wx v, Below wc.heap.size wc wx → Reads wx v D'.seen.length (seenCells D'.seen) → Calls Try.prog 19 #[v, .slice ya D'.seen.length yc] wx fun e w' => e = .returned (.bool true) ∧ Below wc.heap.size wc w') := Lib.hid fun wx v h hr => (seens_refl v _ D'.seen wx (by omega) hr (reads_below HYR.out h)).mono fun e w' hp => ⟨hp.1, h.trans (hp.2.mono h.size)⟩
              have HSAME2 : Hid (∀ wx v, Below wc.heap.size wc wx → Reads wx v D.seen.length (seenCells D.seen) → Calls Try.prog 19 #[v, sv] wx fun e w' => e = .returned (.bool true) ∧ Below wc.heap.size wc w') := Lib.hid fun wx v h hr => (seens_refl v sv D.seen wx (by omega) hr (reads_below HSC.out h)).mono fun e w' hp => ⟨hp.1, h.trans (hp.2.mono h.size)⟩
              obtain ⟨gv, hgv⟩ : ∃ gv, D'.sec.getD (s.toNat % 16) 0 = gv := ⟨_, rfl⟩
              have HGET : Hid (∀ wx, Below wc.heap.size wc wx → Calls Try.prog 18 #[.pointer (some ⟨w1.heap.size, 0, none⟩), .int .u32 s] wx fun e w' => e = .returned (.int .u32 gv) ∧ wx = w') := Lib.hid fun wx h => by rw [← hgv]; exact get_any D' wx _ F (HF.out.below h) s hs.1 hs.2
              have HRGET : Hid (∀ wx, Below wc.heap.size wc wx → Calls Try.prog 28 #[.pointer (some ⟨w1.heap.size + 1, 0, none⟩), .int .u32 s] wx fun e w' => e = .returned (.int .u32 gv) ∧ wx = w') := Lib.hid fun wx h => by rw [← hgv, ← hsim.sec]; exact rget_any X' wx _ F2 (HF2.out.below h) s hs.1 hs.2
              obtain ⟨dv, hdv⟩ : ∃ dv, (D'.set && decide (D'.due ≤ now)) = dv := ⟨_, rfl⟩
              have HDUE : Hid (∀ wx, Below wc.heap.size wc wx → Calls Try.prog 13 #[.pointer (some ⟨w1.heap.size, 0, none⟩), .int .i64 now] wx fun e w' => e = .returned (.bool dv) ∧ wx = w') := Lib.hid fun wx h => by rw [← hdv]; exact due_any D' wx _ F (HF.out.below h) now
              have HRDUE : Hid (∀ wx, Below wc.heap.size wc wx → Calls Try.prog 29 #[.pointer (some ⟨w1.heap.size + 1, 0, none⟩), .int .i64 now] wx fun e w' => e = .returned (.bool dv) ∧ wx = w') := Lib.hid fun wx h => by
                have e1 : (X'.set && decide (X'.due ≤ now)) = dv := by
                  rw [← hdv, hsim.set]
                  cases hset : D'.set
                  · rfl
                  · rw [hsim.due hset]
                rw [← e1]
                exact rdue_any X' wx _ F2 (HF2.out.below h) now
              clear hHC hz hsim hF hrep hgv hdv y0 y1 hl HF HF2 HCC HSC HYR HC3 HS3 HSF HCF HZ HKZ HSIM HB3
              have hBd : Below wc.heap.size wc wc.drew := (Below.refl _ _).drew
              go_wp2_with fail
              try simp only [List.append]
              go_region_held3 (fun wx => Below wc.heap.size wc wx ∧ wx.cell? ⟨w1.heap.size + 1, 0, none⟩ = some (.slice xa D'.keys.length xc) ∧ wx.cell? ⟨w1.heap.size + 1, 1, none⟩ = some (.slice ya D'.seen.length yc)) (exact HK2.out _ (by assumption))
                (first
                  | (go_at_call 10; refine (HKEYS.out _ (by assumption)).mono ?_; rintro e w7 ⟨rfl, rfl⟩)
                  | (go_at_call 12; refine (HSEEN1.out _ (by assumption)).mono ?_; rintro e w7 ⟨v7, rfl, hr7, hb7⟩)
                  | (go_at_call 12; refine (HSEEN2.out _ (by assumption)).mono ?_; rintro e w8 ⟨v8, rfl, hr8, hb8⟩)
                  | (go_at_call 19; refine (HSAME2.out _ _ (by assumption) hr8).mono ?_; rintro e w10 ⟨rfl, hb10⟩)
                  | (go_at_call 19; refine (HSAME1.out _ _ (by assumption) hr7).mono ?_; rintro e w9 ⟨rfl, hb9⟩)
                  | (go_at_call 18; refine (HGET.out _ (by assumption)).mono ?_; rintro e w7 ⟨rfl, rfl⟩)
                  | (go_at_call 28; refine (HRGET.out _ (by assumption)).mono ?_; rintro e w7 ⟨rfl, rfl⟩)
                  | (go_at_call 13; refine (HDUE.out _ (by assumption)).mono ?_; rintro e w7 ⟨rfl, rfl⟩)
                  | (go_at_call 29; refine (HRDUE.out _ (by assumption)).mono ?_; rintro e w7 ⟨rfl, rfl⟩))
              all_goals go_wp2_with fail
              all_goals exact ⟨⟨k + 1, D', X', by omega, by go_num, HZT.out.below hb10, HSIM'.out, hkl', hsl', HBC.out.trans (hb10.mono HBC.out.size)⟩, by simp [intOf]; omega⟩
      · obtain rfl : k = xs.length := by omega
        go_wp2
        go_ret
        exact ⟨rfl, HB.out⟩
  · have hlen2 : (100 : Int) < (xs.length : Int) := by omega
    clear hr
    go_enter Try.func7, Try.ntmps7
    go_wp2_with fail
    refine (first_true _).mono ?_
    rintro e w1 ⟨rfl, hb1⟩
    go_wp2
    go_ret
    exact ⟨rfl, hb1⟩
end Go.Proofs.Ytljmdgoedmgikaa
