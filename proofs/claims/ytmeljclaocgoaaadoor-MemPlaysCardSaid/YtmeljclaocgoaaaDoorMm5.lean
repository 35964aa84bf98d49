/-
  mem.Differ: the frames that differ.
-/
import Derived.Test.YtmeljclaocgoaaaDoorMm3
namespace Go.Proofs.YtmeljclaocgoaaaDoor
open Go.RowKit

def DiffTo (l1 : List Int) (n1 : Nat) (l2 : List Int) (n2 : Nat) (w : World) (v i : Value) (wr : World) : Prop :=
  ∃ k : Nat, k ≤ max n1 n2 ∧ i = .int .i64 k ∧ wr.ownsRow 0 3 1 v (difL l1 n1 l2 n2 k).length (ints (difL l1 n1 l2 n2 k)) ∧ (∀ j, inRow v j → w.heap.size ≤ j) ∧ Below w.heap.size w wr ∧ ∃ ao cap, v = .slice ao (difL l1 n1 l2 n2 k).length cap

set_option maxRecDepth 100000 in
set_option maxHeartbeats 3200000 in
theorem differ_in (l1 : List Int) (b1 n1 : Nat) (v1 : Value) (l2 : List Int) (b2 n2 : Nat) (v2 : Value) (w : World) (h1 : MAt w b1 v1 n1 l1) (h2 : MAt w b2 v2 n2 l2) (hn1 : n1 ≤ 1024) (hn2 : n2 ≤ 1024) (hc : (n1 : Int) < n2 ∨ (n2 : Int) ≤ n1) :
    Calls Tryd.prog 43 #[.pointer (some ⟨b1, 0, none⟩), .pointer (some ⟨b2, 0, none⟩)] w fun e w' => ∃ v, e = .returned v ∧ w'.ownsRow 0 3 1 v (difL l1 n1 l2 n2 (max n1 n2)).length (ints (difL l1 n1 l2 n2 (max n1 n2))) ∧ (∀ k, inRow v k → w.heap.size ≤ k) ∧ Below w.heap.size w w' := by
  obtain ⟨i0, hi, hz0, hz1, hz2⟩ := info_parts infoMInt
  have H1 := Lib.hid h1
  have H2 := Lib.hid h2
  clear h1 h2
  rcases hc with hc | hc
  all_goals
    go_enter Tryd.func43, Tryd.ntmps43
    go_wp2_with fail
    refine (mm_frames l1 b1 n1 v1 _ H1.out hn1).mono ?_
    rintro e w1 ⟨rfl, rfl⟩
    go_wp2_with fail
    refine (mm_frames l2 b2 n2 v2 _ H2.out hn2).mono ?_
    rintro e w1 ⟨rfl, rfl⟩
    go_wp2_with fail
    go_loopw [5, 16] (fun v i wr => DiffTo l1 n1 l2 n2 w v i wr) (fun _ i _ => max n1 n2 - (intOf i).toNat)
    case atStart => exact ⟨0, Nat.zero_le _, rfl, own_nil _ _ _, fun j hj => by simp [inRow, Value.ownBlock] at hj, Below.refl _ _, _, _, rfl⟩
    case round =>
      obtain ⟨k, hk, rfl, hown, hf, hbw, ao', cap', rfl⟩ := hrel
      have hlen := difL_len l1 n1 l2 n2 k
      by_cases hlt : k < max n1 n2
      · have hki : (k : Int) < (max n1 n2 : Nat) := by omega
        first | (have hkj : (k : Int) < (n2 : Int) := by omega) | (have hkj : (k : Int) < (n1 : Int) := by omega)
        have HA := Lib.hid (H1.out.below hbw)
        have HB := Lib.hid (H2.out.below hbw)
        have HW := Lib.hid hbw
        have HF := Lib.hid hf
        have HOW0 := Lib.hid hown
        clear hown hf hbw
        go_wp2_with fail
        refine (mm_frame_any l1 b1 n1 k v1 _ HA.out hn1).mono ?_
        rintro e w2 ⟨ap, cp, rfl, hp, hb2⟩
        have HP := Lib.hid hp
        have HB2 := Lib.hid (HB.out.below hb2)
        have HX2 := Lib.hid hb2
        clear hp hb2
        go_wp2_with fail
        refine (mm_frame_any l2 b2 n2 k v2 _ HB2.out hn2).mono ?_
        rintro e w3 ⟨aq, cq, rfl, hq, hb3⟩
        have HQ := Lib.hid hq
        have HP3 := Lib.hid (HP.out.mono hb3)
        have hx3 := HX2.out.trans (hb3.mono HX2.out.size)
        have HOW := Lib.hid (own_frame HOW0.out fun k hk => hx3.block k (own_lt HOW0.out hk))
        have HW3 := Lib.hid (HW.out.trans (hx3.mono HW.out.size))
        clear hq hb3 hx3 HA HB HB2 HX2 HP HOW0 HW
        obtain ⟨d1, hd1⟩ : ∃ d, decide (k < n1) = d := ⟨_, rfl⟩
        obtain ⟨d2, hd2⟩ : ∃ d, decide (k < n2) = d := ⟨_, rfl⟩
        rw [hd1, hd2]
        obtain ⟨p, hp⟩ : ∃ p, fw l1 n1 k = p := ⟨_, rfl⟩
        obtain ⟨q, hq⟩ : ∃ q, fw l2 n2 k = q := ⟨_, rfl⟩
        rw [hp, hq]
        rw [hp] at HP3
        rw [hq] at HQ
        have hpl : p.length ≤ 1000000000 := by rw [← hp, fw]; split; · rw [frameW_len _ n1 _ H1.out.2.2 (by assumption)]; decide
                                               · simp
        have hql : q.length ≤ 1000000000 := by rw [← hq, fw]; split; · rw [frameW_len _ n2 _ H2.out.2.2 (by assumption)]; decide
                                               · simp
        have HDF0 : Hid (dif l1 n1 l2 n2 k = ((d1 != d2) || !decide (p = q))) := Lib.hid (by unfold dif; rw [hd1, hd2, hp, hq])
        have hdd : (d1 = true ∧ d2 = false) ∨ (d1 = false ∧ d2 = true) ∨ (d1 = true ∧ d2 = true) := by
          by_cases g1 : k < n1 <;> by_cases g2 : k < n2
          · exact .inr (.inr ⟨by rw [← hd1]; exact decide_eq_true g1, by rw [← hd2]; exact decide_eq_true g2⟩)
          · exact .inl ⟨by rw [← hd1]; exact decide_eq_true g1, by rw [← hd2]; exact decide_eq_false g2⟩
          · exact .inr (.inl ⟨by rw [← hd1]; exact decide_eq_false g1, by rw [← hd2]; exact decide_eq_true g2⟩)
          · omega
        clear hd1 hd2 hp hq
        rcases hdd with ⟨rfl, rfl⟩ | ⟨rfl, rfl⟩ | ⟨rfl, rfl⟩
        · have HDF : Hid (dif l1 n1 l2 n2 k = true) := Lib.hid (by rw [HDF0.out]; rfl)
          go_wp2_with (at_builtin; refine wpList_append_sep _ rfl _ _ 45 rfl 3 i0 (.int .i64 0) 1 8 Tryd.underlying45 hi hz0 hz1 hz2 rfl (by decide) _ _ _ rfl (HOW.out.alloc _) ⟨w3.heap.size, 0, none⟩ 1 1 [.int .i64 (k : Int)] rfl rfl (cell_one_new _ _ _) (by simp [Value.oneCell']) (by unfold maxLen; omega) (by omega) ?_)
          intro v' w4 ho4 hg4 hs4
          obtain ⟨ao4, cap4, rfl⟩ := own_slice ho4
          have e1 : ints (difL l1 n1 l2 n2 (k + 1)) = ints (difL l1 n1 l2 n2 k) ++ [.int .i64 (k : Int)] := by rw [difL_succ, HDF.out]; simp [ints]
          have e2 : (difL l1 n1 l2 n2 (k + 1)).length = (difL l1 n1 l2 n2 k).length + 1 := by rw [difL_succ, HDF.out]; simp
          rw [← e1] at ho4
          have hw4 : Below w.heap.size w w4 := (HW3.out.alloc HW3.out.size _).grown hg4 (Nat.le_trans HW3.out.size (by simp)) (fun j hj => HF.out j hj)
          have HF4 := Lib.hid (show ∀ j, inRow (.slice ao4 ((difL l1 n1 l2 n2 k).length + 1) cap4) j → w.heap.size ≤ j from fun j hj => by
            rcases hs4 j hj with h | h
            · exact HF.out j h
            · exact Nat.le_trans HW3.out.size (Nat.le_trans (by simp) h))
          have HO4 := Lib.hid ho4
          have HW4 := Lib.hid hw4
          have HE2 := Lib.hid e2
          clear ho4 hg4 hs4 e1 hw4 e2
          go_wp2
          go_roundw
          case rel => exact ⟨k + 1, by omega, by go_num, by rw [HE2.out]; exact HO4.out, HF4.out, HW4.out, ao4, cap4, by rw [HE2.out]⟩
          case measure => simp [intOf]; omega
        · have HDF : Hid (dif l1 n1 l2 n2 k = true) := Lib.hid (by rw [HDF0.out]; rfl)
          go_wp2_with (at_builtin; refine wpList_append_sep _ rfl _ _ 45 rfl 3 i0 (.int .i64 0) 1 8 Tryd.underlying45 hi hz0 hz1 hz2 rfl (by decide) _ _ _ rfl (HOW.out.alloc _) ⟨w3.heap.size, 0, none⟩ 1 1 [.int .i64 (k : Int)] rfl rfl (cell_one_new _ _ _) (by simp [Value.oneCell']) (by unfold maxLen; omega) (by omega) ?_)
          intro v' w4 ho4 hg4 hs4
          obtain ⟨ao4, cap4, rfl⟩ := own_slice ho4
          have e1 : ints (difL l1 n1 l2 n2 (k + 1)) = ints (difL l1 n1 l2 n2 k) ++ [.int .i64 (k : Int)] := by rw [difL_succ, HDF.out]; simp [ints]
          have e2 : (difL l1 n1 l2 n2 (k + 1)).length = (difL l1 n1 l2 n2 k).length + 1 := by rw [difL_succ, HDF.out]; simp
          rw [← e1] at ho4
          have hw4 : Below w.heap.size w w4 := (HW3.out.alloc HW3.out.size _).grown hg4 (Nat.le_trans HW3.out.size (by simp)) (fun j hj => HF.out j hj)
          have HF4 := Lib.hid (show ∀ j, inRow (.slice ao4 ((difL l1 n1 l2 n2 k).length + 1) cap4) j → w.heap.size ≤ j from fun j hj => by
            rcases hs4 j hj with h | h
            · exact HF.out j h
            · exact Nat.le_trans HW3.out.size (Nat.le_trans (by simp) h))
          have HO4 := Lib.hid ho4
          have HW4 := Lib.hid hw4
          have HE2 := Lib.hid e2
          clear ho4 hg4 hs4 e1 hw4 e2
          go_wp2
          go_roundw
          case rel => exact ⟨k + 1, by omega, by go_num, by rw [HE2.out]; exact HO4.out, HF4.out, HW4.out, ao4, cap4, by rw [HE2.out]⟩
          case measure => simp [intOf]; omega
        · by_cases hpq : p = q
          · have HDF : Hid (dif l1 n1 l2 n2 k = false) := Lib.hid (by rw [HDF0.out, decide_eq_true hpq]; rfl)
            have HPQ : Hid (decide (p = q) = true) := Lib.hid (decide_eq_true hpq)
            clear hpq
            go_wp2_with fail
            refine (eqWords_any p q ap aq cp cq _ HP3.out HQ.out hpl hql).mono ?_
            rintro e w4 ⟨rfl, nd, rfl⟩
            rw [HPQ.out]
            have HO5 := Lib.hid (own_frame HOW.out fun k hk => (below_drewN (Below.refl w3.heap.size w3) nd).block k (own_lt HOW.out hk))
            have HW5 := Lib.hid (below_drewN HW3.out nd)
            have HE2 : Hid (difL l1 n1 l2 n2 (k + 1) = difL l1 n1 l2 n2 k) := Lib.hid (by rw [difL_succ, HDF.out]; rfl)
            go_wp2
            go_roundw
            case rel => exact ⟨k + 1, by omega, by go_num, by rw [HE2.out]; exact HO5.out, HF.out, HW5.out, _, _, by rw [HE2.out]⟩
            case measure => simp [intOf]; omega
          · have HDF : Hid (dif l1 n1 l2 n2 k = true) := Lib.hid (by rw [HDF0.out, decide_eq_false hpq]; rfl)
            have HPQ : Hid (decide (p = q) = false) := Lib.hid (decide_eq_false hpq)
            clear hpq
            go_wp2_with fail
            refine (eqWords_any p q ap aq cp cq _ HP3.out HQ.out hpl hql).mono ?_
            rintro e w4 ⟨rfl, nd, rfl⟩
            rw [HPQ.out]
            have HO5 := Lib.hid (own_frame HOW.out fun k hk => (below_drewN (Below.refl w3.heap.size w3) nd).block k (own_lt HOW.out hk))
            have HW5 := Lib.hid (below_drewN HW3.out nd)
            go_wp2_with (at_builtin; refine wpList_append_sep _ rfl _ _ 45 rfl 3 i0 (.int .i64 0) 1 8 Tryd.underlying45 hi hz0 hz1 hz2 rfl (by decide) _ _ _ rfl (HO5.out.alloc _) ⟨(w3.drewN nd).heap.size, 0, none⟩ 1 1 [.int .i64 (k : Int)] rfl rfl (cell_one_new _ _ _) (by simp [Value.oneCell']) (by unfold maxLen; omega) (by omega) ?_)
            intro v' w4 ho4 hg4 hs4
            obtain ⟨ao4, cap4, rfl⟩ := own_slice ho4
            have e1 : ints (difL l1 n1 l2 n2 (k + 1)) = ints (difL l1 n1 l2 n2 k) ++ [.int .i64 (k : Int)] := by rw [difL_succ, HDF.out]; simp [ints]
            have e2 : (difL l1 n1 l2 n2 (k + 1)).length = (difL l1 n1 l2 n2 k).length + 1 := by rw [difL_succ, HDF.out]; simp
            rw [← e1] at ho4
            have hw4 : Below w.heap.size w w4 := (HW5.out.alloc HW5.out.size _).grown hg4 (Nat.le_trans HW5.out.size (by simp)) (fun j hj => HF.out j hj)
            have HF4 := Lib.hid (show ∀ j, inRow (.slice ao4 ((difL l1 n1 l2 n2 k).length + 1) cap4) j → w.heap.size ≤ j from fun j hj => by
              rcases hs4 j hj with h | h
              · exact HF.out j h
              · exact Nat.le_trans HW5.out.size (Nat.le_trans (by simp) h))
            have HO4 := Lib.hid ho4
            have HW4 := Lib.hid hw4
            have HE2 := Lib.hid e2
            clear ho4 hg4 hs4 e1 hw4 e2
            go_wp2
            go_roundw
            case rel => exact ⟨k + 1, by omega, by go_num, by rw [HE2.out]; exact HO4.out, HF4.out, HW4.out, ao4, cap4, by rw [HE2.out]⟩
            case measure => simp [intOf]; omega
      · have hno1 : ¬ (k : Int) < (n1 : Int) := by omega
        have hno2 : ¬ (k : Int) < (n2 : Int) := by omega
        have HK : Hid (k = max n1 n2) := Lib.hid (by omega)
        have HO := Lib.hid hown
        have HF := Lib.hid hf
        have HW := Lib.hid hbw
        clear hown hf hbw hlen hlt hk hc
        go_wp2
        go_ret
        have := HO.out
        rw [HK.out] at this
        refine ⟨_, rfl, ?_, HF.out, HW.out⟩
        rw [HK.out]
        exact this
theorem differ_any (l1 : List Int) (b1 n1 : Nat) (v1 : Value) (l2 : List Int) (b2 n2 : Nat) (v2 : Value) (w : World) (h1 : MAt w b1 v1 n1 l1) (h2 : MAt w b2 v2 n2 l2) (hn1 : n1 ≤ 1024) (hn2 : n2 ≤ 1024) :
    Calls Tryd.prog 43 #[.pointer (some ⟨b1, 0, none⟩), .pointer (some ⟨b2, 0, none⟩)] w fun e w' => ∃ v, e = .returned v ∧ w'.ownsRow 0 3 1 v (difL l1 n1 l2 n2 (max n1 n2)).length (ints (difL l1 n1 l2 n2 (max n1 n2))) ∧ (∀ k, inRow v k → w.heap.size ≤ k) ∧ Below w.heap.size w w' :=
  differ_in l1 b1 n1 v1 l2 b2 n2 v2 w h1 h2 hn1 hn2 (by omega)
end Go.Proofs.YtmeljclaocgoaaaDoor
