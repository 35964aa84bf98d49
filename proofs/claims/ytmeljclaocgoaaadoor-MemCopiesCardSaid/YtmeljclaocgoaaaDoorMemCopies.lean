/-
  MemCopies: for every numbers and word the call returns true.
-/
import Derived.Test.YtmeljclaocgoaaaDoorMm7
import Derived.Test.YtmeljclaocgoaaaDoorNumber
import Derived.Test.YtmeljclaocgoaaaDoorSameInts
import Derived.Test.YtmeljclaocgoaaaDoorSameWords
namespace Go.Proofs.YtmeljclaocgoaaaDoor
open Go.RowKit

/-- the first k are written, here and there -/
def CopTo (xs : List Int) (W : Int) (b : Nat) (v : Value) (cb : Nat) (cv : Value) (w : World) (i : Value) (wr : World) : Prop :=
  ∃ (k : Nat) (l c : List Int), k ≤ xs.length ∧ i = .int .i64 k ∧ MAt wr b v 10 l ∧ MAt wr cb cv 10 c ∧ (c.getD 3 0 = 5 ∨ c.getD 3 0 = W) ∧ Below w.heap.size w wr
/-- the frames below k that differ are listed -/
def CopWant (l c : List Int) (w : World) (v i : Value) (wr : World) : Prop :=
  ∃ k : Nat, k ≤ 10 ∧ i = .int .i64 k ∧ wr.ownsRow 0 3 1 v (difL l 10 c 10 k).length (ints (difL l 10 c 10 k)) ∧ (∀ j, inRow v j → w.heap.size ≤ j) ∧ Below w.heap.size w wr ∧ ∃ ao cap, v = .slice ao (difL l 10 c 10 k).length cap
theorem dif_in (l c : List Int) (k : Nat) (h : k < 10) : dif l 10 c 10 k = !decide (fw l 10 k = fw c 10 k) := by
  unfold dif
  simp

set_option maxRecDepth 100000 in
set_option maxHeartbeats 3200000 in
theorem copies_walk (xs : List Int) (ao : Option Addr) (c1 : Nat) (x1 : Int) (w : World) (hx : ∀ z ∈ xs, -9223372036854775808 ≤ z ∧ z ≤ 9223372036854775807) (hr : AtL w ao (ints xs)) :
    Calls Tryd.prog 7 #[.slice ao xs.length c1, .int .u32 x1] w fun e w' => e = .returned (.bool true) ∧ Below w.heap.size w w' := by
  obtain ⟨i0, hi, hz0, hz1, hz2⟩ := info_parts infoMInt
  by_cases hlen : xs.length ≤ 20
  · have hlen2 : ¬ (20 : Int) < (xs.length : Int) := by omega
    have HR := Lib.hid hr
    have HXS := Lib.hid hx
    obtain ⟨W, hW⟩ : ∃ W, bits BinOp.or IntKind.u32 x1 1 = W := ⟨_, rfl⟩
    clear hr hx
    go_enter Tryd.func7, Tryd.ntmps7
    go_wp2_with fail
    refine (mm_first _).mono ?_
    rintro e w1 ⟨rfl, hb1⟩
    have HB1 := Lib.hid hb1
    clear hb1
    go_wp2_with fail
    refine (mm_new 10 _ (by decide) (by decide)).mono ?_
    rintro e w2 ⟨b, v, rfl, hm, hbg, hvg, hb⟩
    have HM := Lib.hid hm
    have HV : Hid (∀ k, inRow v k → w.heap.size ≤ k) := Lib.hid fun k hk => Nat.le_trans HB1.out.size (hvg k hk)
    have HB := Lib.hid (HB1.out.trans (hb.mono HB1.out.size))
    clear hm hbg hvg hb HB1
    go_wp2_with fail
    refine (mm_write_in _ b 10 3 v 5 _ HM.out (by decide)).mono ?_
    rintro e w3 ⟨rfl, hm3, ho3⟩
    have HM3 := Lib.hid hm3
    have HB3 := Lib.hid (HB.out.trans (ho3.below HB.out.size HV.out))
    clear hm3 ho3 HM HB
    go_wp2_with fail
    refine (mm_clone _ b 10 v _ HM3.out (by decide)).mono ?_
    rintro e w4 ⟨cb, cv, rfl, hc, hcb, hcv, hb4⟩
    have HC4 := Lib.hid hc
    have HM4 := Lib.hid (HM3.out.below hb4)
    have HB4 := Lib.hid (HB3.out.trans (hb4.mono HB3.out.size))
    have HX1 : Hid (¬ inRow v cb) := Lib.hid fun h => by have := own_lt HM3.out.2.1 h; omega
    have HX2 : Hid (∀ k, inRow cv k → ¬ inRow v k) := Lib.hid fun k hk h => by have := own_lt HM3.out.2.1 h; have := hcv k hk; omega
    have HX3 : Hid (¬ inRow cv b) := Lib.hid fun h => by have := blk_lt HM3.out.1; have := hcv _ h; omega
    have HX4 : Hid (∀ k, inRow v k → ¬ inRow cv k) := Lib.hid fun k hk h => HX2.out k h hk
    have HCV : Hid (∀ k, inRow cv k → w.heap.size ≤ k) := Lib.hid fun k hk => Nat.le_trans HB3.out.size (hcv k hk)
    clear hc hcb hcv hb4 HM3 HB3
    go_wp2_with fail
    go_loopw [10, 11] (fun i _ wr => CopTo xs W b v cb cv w i wr) (fun i _ _ => xs.length - (intOf i).toNat)
    case atStart => exact ⟨0, _, _, Nat.zero_le _, rfl, HM4.out, HC4.out, .inl (by decide +kernel), HB4.out⟩
    case round =>
      obtain ⟨k, l, c, hk, rfl, hm, hc, h3, hbw⟩ := hrel
      have HM := Lib.hid hm
      have HC := Lib.hid hc
      have HT := Lib.hid h3
      have HB := Lib.hid hbw
      clear hm hc h3 hbw HM4 HC4 HB4
      by_cases hlt : k < xs.length
      · have hki : (k : Int) < (xs.length : Int) := by omega
        obtain ⟨sb, so, rfl, hcell, hbl⟩ := HR.out k _ (ints_get xs k hlt)
        have cr : wr.cell? ⟨sb, so + k, none⟩ = some (.int .i64 (xs.getD k 0)) := (HB.out.cell (p := ⟨sb, so + k, none⟩) hbl).trans hcell
        obtain ⟨z, hz⟩ : ∃ z, xs.getD k 0 = z := ⟨_, rfl⟩
        have HZ : Hid (-9223372036854775808 ≤ z ∧ z ≤ 9223372036854775807) := Lib.hid (by
          rw [← hz]
          exact HXS.out _ (by rw [List.getD_eq_getElem?_getD, List.getElem?_eq_getElem hlt]; exact List.getElem_mem _))
        rw [hz] at cr
        clear hz hcell
        go_wp2_with fail
        refine (number_any z 160 _ HZ.out.1 HZ.out.2 (by decide) (by decide)).mono ?_
        rintro e w5 ⟨rfl, rfl⟩
        obtain ⟨a, hf⟩ : ∃ a : Nat, z % 160 = (a : Int) := ⟨(z % 160).toNat, by omega⟩
        have ha : a < 16 * 10 := by omega
        rw [hf]
        clear hf
        by_cases hodd : k % 2 = 0
        · have ho1 : (k : Int) % 2 = 0 := by omega
          have ho2 : (k : Int).tmod 2 = 0 := by rw [Int.tmod_eq_emod_of_nonneg (by omega)]; exact ho1
          clear hodd
          go_wp2_with fail
          refine (mm_write_in l b 10 a v _ _ HM.out ha).mono ?_
          rintro e w6 ⟨rfl, hm6, ho6⟩
          have HM6 := Lib.hid hm6
          have HC6 := Lib.hid (HC.out.only ho6 HX1.out HX2.out)
          have HB6 := Lib.hid (HB.out.trans (ho6.below HB.out.size HV.out))
          clear hm6 ho6 HM HC HB ho1 ho2
          go_wp2
          go_roundw
          case rel => exact ⟨k + 1, _, _, by omega, by go_num, HM6.out, HC6.out, HT.out, HB6.out⟩
          case measure => simp [intOf]; omega
        · have ho1 : (k : Int) % 2 = 1 := by omega
          have ho2 : (k : Int).tmod 2 = 1 := by rw [Int.tmod_eq_emod_of_nonneg (by omega)]; exact ho1
          clear hodd
          go_wp2_with fail
          refine (mm_write_in c cb 10 a cv _ _ HC.out ha).mono ?_
          rintro e w6 ⟨rfl, hm6, ho6⟩
          have HC6 := Lib.hid hm6
          have HM6 := Lib.hid (HM.out.only ho6 HX3.out HX4.out)
          have HB6 := Lib.hid (HB.out.trans (ho6.below HB.out.size HCV.out))
          have HT6 : Hid ((c.set a W).getD 3 0 = 5 ∨ (c.set a W).getD 3 0 = W) := Lib.hid (by
            rw [set_getD c a 3 W (by rw [HC.out.2.2]; exact ha)]
            by_cases e : 3 = a
            · rw [if_pos e]; exact .inr rfl
            · rw [if_neg e]; exact HT.out)
          clear hm6 ho6 HM HC HB ho1 ho2 HT
          go_wp2
          go_roundw
          case rel => exact ⟨k + 1, _, _, by omega, by go_num, HM6.out, HC6.out, HT6.out, HB6.out⟩
          case measure => simp [intOf]; omega
      · obtain rfl : k = xs.length := by omega
        obtain ⟨wl, hwl⟩ : ∃ wl, wl = wr := ⟨_, rfl⟩
        subst hwl
        go_wp2_with fail
        go_loopw [9, 12] (fun v i wx => CopWant l c wl v i wx) (fun _ i _ => 10 - (intOf i).toNat)
        case atStart => exact ⟨0, Nat.zero_le _, rfl, own_nil _ _ _, fun j hj => by simp [inRow, Value.ownBlock] at hj, Below.refl _ _, _, _, rfl⟩
        case round =>
          obtain ⟨f, hf10, rfl, hown, hfr, hbx, ao', cap', rfl⟩ := hrel
          have HO := Lib.hid hown
          have HF := Lib.hid hfr
          have HBX := Lib.hid hbx
          have HM1 := Lib.hid (HM.out.below hbx)
          have HC1 := Lib.hid (HC.out.below hbx)
          clear hown hfr hbx
          by_cases hlt10 : f < 10
          · have hfi : (f : Int) < 10 := by omega
            go_wp2_with fail
            refine (mm_frame_any l b 10 f v _ HM1.out (by decide)).mono ?_
            rintro e w7 ⟨a7, c7, rfl, hp, hb7⟩
            have HP := Lib.hid hp
            have HC7 := Lib.hid (HC1.out.below hb7)
            have HX7 := Lib.hid hb7
            clear hp hb7
            go_wp2_with fail
            refine (mm_frame_any c cb 10 f cv _ HC7.out (by decide)).mono ?_
            rintro e w8 ⟨a8, c8, rfl, hq, hb8⟩
            have HQ := Lib.hid hq
            have HP8 := Lib.hid (HP.out.mono hb8)
            have hx8 := HX7.out.trans (hb8.mono HX7.out.size)
            have HOW := Lib.hid (own_frame HO.out fun k hk => hx8.block k (own_lt HO.out hk))
            have HW8 := Lib.hid (HBX.out.trans (hx8.mono HBX.out.size))
            have HDF := Lib.hid (dif_in l c f hlt10)
            have hpl : (fw l 10 f).length ≤ 1000000000 := by rw [fw_len l 10 f HM1.out.2.2 hlt10]; decide
            have hql : (fw c 10 f).length ≤ 1000000000 := by rw [fw_len c 10 f HC1.out.2.2 hlt10]; decide
            clear hq hb8 hx8 HM1 HC1 HC7 HX7 HP HO HBX
            obtain ⟨p, hp⟩ : ∃ p, fw l 10 f = p := ⟨_, rfl⟩
            obtain ⟨q, hq⟩ : ∃ q, fw c 10 f = q := ⟨_, rfl⟩
            rw [hp] at HP8 HDF hpl ⊢
            rw [hq] at HQ HDF hql ⊢
            clear hp hq
            go_wp2_with fail
            refine (sameWords_any p q a7 a8 c7 c8 _ HP8.out HQ.out hpl hql).mono ?_
            rintro e w9 ⟨rfl, nd, rfl⟩
            have HO5 := Lib.hid (own_frame HOW.out fun k hk => (below_drewN (Below.refl w8.heap.size w8) nd).block k (own_lt HOW.out hk))
            have HW5 := Lib.hid (below_drewN HW8.out nd)
            clear HOW HW8
            by_cases hpq : p = q
            · have HE2 : Hid (difL l 10 c 10 (f + 1) = difL l 10 c 10 f) := Lib.hid (by rw [difL_succ, HDF.out, decide_eq_true hpq]; rfl)
              rw [decide_eq_true hpq]
              clear hpq
              go_wp2
              go_roundw
              case rel => exact ⟨f + 1, by omega, by go_num, by rw [HE2.out]; exact HO5.out, HF.out, HW5.out, ao', cap', by rw [HE2.out]⟩
              case measure => simp [intOf]; omega
            · have HE1 : Hid (ints (difL l 10 c 10 (f + 1)) = ints (difL l 10 c 10 f) ++ [.int .i64 (f : Int)]) := Lib.hid (by rw [difL_succ, HDF.out, decide_eq_false hpq]; simp [ints])
              have HE2 : Hid ((difL l 10 c 10 (f + 1)).length = (difL l 10 c 10 f).length + 1) := Lib.hid (by rw [difL_succ, HDF.out, decide_eq_false hpq]; simp)
              have hdl := difL_len l 10 c 10 f
              rw [decide_eq_false hpq]
              clear hpq
              go_wp2_with (at_builtin; refine wpList_append_sep _ rfl _ _ 45 rfl 3 i0 (.int .i64 0) 1 8 Tryd.underlying45 hi hz0 hz1 hz2 rfl (by decide) _ _ _ rfl (HO5.out.alloc _) ⟨(w8.drewN nd).heap.size, 0, none⟩ 1 1 [.int .i64 (f : Int)] rfl rfl (cell_one_new _ _ _) (by simp [Value.oneCell']) (by unfold maxLen; omega) (by omega) ?_)
              intro v' w10 ho4 hg4 hs4
              obtain ⟨ao4, cap4, rfl⟩ := own_slice ho4
              rw [← HE1.out] at ho4
              have hw4 : Below wl.heap.size wl w10 := (HW5.out.alloc HW5.out.size _).grown hg4 (Nat.le_trans HW5.out.size (by simp)) (fun j hj => HF.out j hj)
              have HF4 := Lib.hid (show ∀ j, inRow (.slice ao4 ((difL l 10 c 10 f).length + 1) cap4) j → wl.heap.size ≤ j from fun j hj => by
                rcases hs4 j hj with h | h
                · exact HF.out j h
                · exact Nat.le_trans HW5.out.size (Nat.le_trans (by simp) h))
              have HO4 := Lib.hid ho4
              have HW4 := Lib.hid hw4
              clear ho4 hg4 hs4 hw4
              go_wp2
              go_roundw
              case rel => exact ⟨f + 1, by omega, by go_num, by rw [HE2.out]; exact HO4.out, HF4.out, HW4.out, ao4, cap4, by rw [HE2.out]⟩
              case measure => simp [intOf]; omega
          · obtain rfl : f = 10 := by omega
            have HWA := Lib.hid (own_atL HO.out)
            have HBY := Lib.hid (HB.out.trans (HBX.out.mono HB.out.size))
            have hdl := difL_len l 10 c 10 10
            clear HO HF HBX HM HC HB
            go_wp2_with fail
            refine (mm_read_in c cb 10 3 cv _ HC1.out (by decide)).mono ?_
            rintro e w7 ⟨rfl, rfl⟩
            obtain ⟨y, hy⟩ : ∃ y, c.getD 3 0 = y := ⟨_, rfl⟩
            rw [hy] at HT ⊢
            clear hy
            have HOR : Hid ((y == 5) = true ∨ ((y == 5) = false ∧ (y == W) = true)) := Lib.hid (by
              by_cases e5 : y = 5
              · exact .inl (by simp [e5])
              · exact .inr ⟨by simp [e5], by
                  rcases HT.out with h | h
                  · exact (e5 h).elim
                  · simp [h]⟩)
            obtain ⟨D, hD⟩ : ∃ D, difL l 10 c 10 10 = D := ⟨_, rfl⟩
            have HD2 : Hid (difL c 10 l 10 10 = D) := Lib.hid (by rw [difL_comm]; exact hD)
            rw [hD] at HWA hdl ⊢
            have HD := Lib.hid hD
            clear hD
            rcases HOR.out with h5 | ⟨h5, h6⟩
            all_goals
              go_wp2_with fail
              refine (differ_any l b 10 v c cb 10 cv _ HM1.out HC1.out (by decide) (by decide)).mono ?_
              rintro e w8 ⟨dv, rfl, hd8, -, hb8⟩
              rw [show max 10 10 = 10 from rfl, HD.out] at hd8
              obtain ⟨da, dc, rfl⟩ := own_slice hd8
              have HM8 := Lib.hid (HM1.out.below hb8)
              have HC8 := Lib.hid (HC1.out.below hb8)
              have HW8 := Lib.hid (HWA.out.mono hb8)
              have HB8 := Lib.hid (HBY.out.trans (hb8.mono HBY.out.size))
              have HD8 := Lib.hid (own_atL hd8)
              clear hb8 hd8 HM1 HC1 HWA HBY
              go_wp2_with fail
              refine (sameInts_any D D da ao' dc cap' _ HD8.out HW8.out (by omega) (by omega)).mono ?_
              rintro e w9 ⟨rfl, nd, rfl⟩
              rw [decide_eq_true rfl]
              have hx9 := below_drewN (Below.refl w8.heap.size w8) nd
              have HM9 := Lib.hid (HM8.out.below hx9)
              have HC9 := Lib.hid (HC8.out.below hx9)
              have HW9 := Lib.hid (HW8.out.mono hx9)
              have HB9 := Lib.hid (HB8.out.trans (hx9.mono HB8.out.size))
              clear hx9 HM8 HC8 HW8 HB8 HD8
              go_wp2_with fail
              refine (differ_any c cb 10 cv l b 10 v _ HC9.out HM9.out (by decide) (by decide)).mono ?_
              rintro e w10 ⟨dv, rfl, hd8, -, hb8⟩
              rw [show max 10 10 = 10 from rfl, HD2.out] at hd8
              obtain ⟨da2, dc2, rfl⟩ := own_slice hd8
              have HW10 := Lib.hid (HW9.out.mono hb8)
              have HB10 := Lib.hid (HB9.out.trans (hb8.mono HB9.out.size))
              have HD10 := Lib.hid (own_atL hd8)
              clear hb8 hd8 HM9 HC9 HW9 HB9
              go_wp2_with fail
              refine (sameInts_any D D da2 ao' dc2 cap' _ HD10.out HW10.out (by omega) (by omega)).mono ?_
              rintro e w11 ⟨rfl, nd2, rfl⟩
              rw [decide_eq_true rfl]
              have HB11 := Lib.hid (below_drewN HB10.out nd2)
              clear HB10 HW10 HD10
              go_wp2
              go_ret
              exact ⟨rfl, HB11.out⟩
  · have hlen2 : (20 : Int) < (xs.length : Int) := by omega
    clear hr
    go_enter Tryd.func7, Tryd.ntmps7
    go_wp2_with fail
    refine (mm_first _).mono ?_
    rintro e w1 ⟨rfl, hb1⟩
    go_wp2
    go_ret
    exact ⟨rfl, hb1⟩
theorem copies_any (xs : List Int) (v : Value) (x1 : Int) (w : World) (hx : ∀ z ∈ xs, -9223372036854775808 ≤ z ∧ z ≤ 9223372036854775807) (hr : Reads w v xs.length (ints xs)) :
    Calls Tryd.prog 7 #[v, .int .u32 x1] w fun e w' => e = .returned (.bool true) ∧ Below w.heap.size w w' := by
  obtain ⟨ao, cap, rfl, hat⟩ := atL_of_reads hr
  exact copies_walk xs ao cap x1 w hx hat
end Go.Proofs.YtmeljclaocgoaaaDoor
