/-
  Chapter 21: as many ports as may be.
-/
import Derived.Test.YtpmbbbgmaipmbaaDoorEvLoops
namespace Go.Proofs.YtpmbbbgmaipmbaaDoor
open Go.RowKit

def ManyTo (b g n : Nat) (w : World) (i : Value) (wr : World) : Prop := ∃ (j : Nat) (l : List Pe), j ≤ n ∧ i = .int .i64 (j : Int) ∧ NAt wr b l ∧ Fresh l g (min j 16) ∧ Below w.heap.size w wr
theorem fresh_full {l : List Pe} {g : Nat} (h : Fresh l g 16) : allocP l g = none := allocP_none _ _ fun i hi => by rw [h.2, if_pos ⟨by omega, by omega⟩]
theorem atP_off (l : List Pe) (g : Nat) (p : Int) (h : p < 0 ∨ 16 ≤ p) : atP l g p = none := by
  unfold atP
  rw [if_neg (by omega)]
/-- what is there when each guest has made its ports -/
theorem many_facts (L : List Pe) (g n o : Nat) (h : Fresh L g (min n 16)) (hg : g < 8) (ho : o < 8) (hgo : g ≠ o) :
    ∃ L2, allocP L o = some 0 ∧ L.set (o * 16 + 0) { L.getD (o * 16 + 0) default with live := true } = L2 ∧ atP L2 g ((min n 16 : Nat) : Int) = none ∧ atP L2 o ((1 : Nat) : Int) = none ∧ atP L2 g (-1) = none := by
  have hl := h.1
  have g2 : ∀ i, (L.set (o * 16 + 0) { L.getD (o * 16 + 0) default with live := true }).getD i default = if i = o * 16 + 0 then { live := true } else L.getD i default := fun i => by
    rw [set_getD _ _ _ _ (by omega), h.2 (o * 16 + 0), if_neg (show ¬ (g * 16 ≤ o * 16 + 0 ∧ o * 16 + 0 < g * 16 + min n 16) by omega)]
  refine ⟨_, allocP_some _ _ _ (fun i hi => absurd hi (by omega)) (by decide) (by rw [h.2, if_neg (by omega)]), rfl, ?_, atP_dead _ _ _ (by rw [g2, if_neg (by omega), h.2, if_neg (by omega)]), atP_off _ _ _ (.inl (by decide))⟩
  by_cases hn : n < 16
  · rw [Nat.min_eq_left (by omega)] at h ⊢
    exact atP_dead _ _ _ (by rw [g2, if_neg (by omega), h.2, if_neg (by omega)])
  · rw [Nat.min_eq_right (by omega)]
    exact atP_off _ _ _ (.inr (by decide))

set_option maxRecDepth 100000 in
set_option maxHeartbeats 8000000 in
theorem evchMany_walk (E : Nat → Addr) (x0 x1 : Int) (w : World) (hE : ErrsAt errT gOf w E all16) (h0 : -9223372036854775808 ≤ x0 ∧ x0 ≤ 9223372036854775807) (h1 : -9223372036854775808 ≤ x1 ∧ x1 ≤ 9223372036854775807) :
    Calls Tryd.prog 6 #[.int .i64 x0, .int .i64 x1] w fun e w' => e = .returned (.bool true) ∧ Below w.heap.size w w' := by
  have HN0 := Lib.hid (fun wx => number_any x0 8 wx h0.1 h0.2 (by decide) (by decide))
  have HN1 := Lib.hid (fun wx => number_any x1 19 wx h1.1 h1.2 (by decide) (by decide))
  obtain ⟨g, hgq⟩ : ∃ g : Nat, x0 % 8 = (g : Int) := ⟨(x0 % 8).toNat, by omega⟩
  have hg : g < 8 := by omega
  obtain ⟨n, hnq⟩ : ∃ n : Nat, x1 % 19 = (n : Int) := ⟨(x1 % 19).toNat, by omega⟩
  have hn19 : n < 19 := by omega
  rw [hgq] at HN0
  rw [hnq] at HN1
  obtain ⟨oo, hoo⟩ : ∃ oo : Nat, (g + 1) % 8 = oo := ⟨_, rfl⟩
  have ho8 : oo < 8 := by omega
  have hne : Hid (g ≠ oo) := Lib.hid (by omega)
  have HOO : Hid (((g : Int) + 1) % 8 = (oo : Int)) := Lib.hid (by omega)
  have HE := Lib.hid hE
  clear hgq hnq h0 h1 hE hoo
  go_enter Tryd.func6, Tryd.ntmps6
  go_wp2_with fail
  refine (ev_first E _ HE.out).mono ?_
  rintro e w1 ⟨rfl, hb1⟩
  have HB1 := Lib.hid hb1
  clear hb1
  go_wp2_with fail
  refine (HN0.out _).mono ?_
  rintro e w2 ⟨rfl, rfl⟩
  go_wp2_with fail
  refine (HN1.out _).mono ?_
  rintro e w2 ⟨rfl, rfl⟩
  have HST : Hid (ManyTo w1.heap.size g n w (.int .i64 0) (w1.alloc (.cells Tryd.zeroCells41 41))) := Lib.hid ⟨0, _, Nat.zero_le _, rfl, ev_new w1, fresh_none g, HB1.out.alloc HB1.out.size _⟩
  have HBS : Hid (w.heap.size ≤ w1.heap.size) := Lib.hid HB1.out.size
  have HEK : Hid (∀ wx, Below w.heap.size w wx → ErrsAt errT gOf wx E all16) := Lib.hid fun wx h => HE.out.mono h
  go_wp2_with fail
  generalize w1.alloc (.cells Tryd.zeroCells41 41) = w2 at HST ⊢
  obtain ⟨b, hb⟩ : ∃ b, w1.heap.size = b := ⟨_, rfl⟩
  rw [hb] at HST HBS ⊢
  clear hb HB1 HN0 HN1
  go_loopw [7] (fun i wr => ManyTo b g n w i wr) (fun i _ => n - (intOf i).toNat)
  case atStart => exact HST.out
  case round =>
    obtain ⟨j, l, hj, rfl, hn, hf, hb⟩ := hrel
    have HN := Lib.hid hn
    have HF := Lib.hid hf
    have HB := Lib.hid hb
    clear hn hf hb HST
    by_cases hlt : j < n
    · have hji : (j : Int) < (n : Int) := by omega
      by_cases h16 : j < 16
      · have hji16 : (j : Int) < 16 := by omega
        have HX : Hid (allocP l g = some j ∧ Fresh (l.set (g * 16 + j) { l.getD (g * 16 + j) default with live := true }) g (min (j + 1) 16)) := Lib.hid (by
          have := HF.out
          rw [Nat.min_eq_left (by omega)] at this ⊢
          exact fresh_next this hg h16)
        go_wp2_with fail
        refine (alloc_any E l b g _ all16 (by decide) (HEK.out _ HB.out) HN.out hg).mono ?_
        rintro e w3 ⟨h1, -⟩
        obtain ⟨rfl, hn, ho⟩ := h1 j HX.out.1
        have HN3 := Lib.hid hn
        have HB3 := Lib.hid (HB.out.trans (ho.below (B := w.heap.size) HB.out.size (fun k hk => by subst hk; exact HBS.out)))
        clear h1 hn ho
        go_wp2
        go_roundw
        case rel => exact ⟨j + 1, _, by omega, by go_num, HN3.out, HX.out.2, HB3.out⟩
        case measure => simp [intOf]; omega
      · have hji16 : (16 : Int) ≤ (j : Int) := by omega
        have HF16 : Hid (Fresh l g 16) := Lib.hid (by
          have := HF.out
          rw [Nat.min_eq_right (by omega)] at this
          exact this)
        go_wp2_with fail
        refine (alloc_any E l b g _ all16 (by decide) (HEK.out _ HB.out) HN.out hg).mono ?_
        rintro e w3 ⟨-, h2⟩
        obtain ⟨rfl, ho⟩ := h2 (fresh_full HF16.out)
        have HB3 := Lib.hid (HB.out.trans (ho.mono HB.out.size))
        have HN3 := Lib.hid (HN.out.below ho)
        clear h2 ho
        go_wp2_with fail
        refine (is_any E (errV (E 3)) 104 104 (.inr ⟨3, by decide, rfl, rfl⟩) _ (HEK.out _ HB3.out)).mono ?_
        rintro e w4 ⟨rfl, hb4⟩
        have HB4 := Lib.hid (HB3.out.trans (hb4.mono HB3.out.size))
        have HN4 := Lib.hid (HN3.out.below hb4)
        clear hb4
        go_wp2
        go_roundw
        case rel => exact ⟨j + 1, l, by omega, by go_num, HN4.out, by rw [Nat.min_eq_right (by omega)]; exact HF16.out, HB4.out⟩
        case measure => simp [intOf]; omega
    · obtain rfl : j = n := by omega
      obtain ⟨L2, q1, q2, q3, q4, q5⟩ := many_facts l g j oo HF.out hg ho8 hne.out
      have H1 := Lib.hid q1
      have H2 := Lib.hid q2
      have H3 := Lib.hid q3
      have H4 := Lib.hid q4
      have H5 := Lib.hid q5
      clear q1 q2 q3 q4 q5
      obtain ⟨k, hk⟩ : ∃ k : Nat, min j 16 = k := ⟨_, rfl⟩
      rw [hk] at H3
      have HCASE : Hid ((j ≤ 16 → k = j) ∧ (16 < j → k = 16)) := Lib.hid ⟨fun h => by omega, fun h => by omega⟩
      clear hk
      by_cases hj16 : 16 < j
      · obtain rfl : k = 16 := HCASE.out.2 hj16
        have hji : (16 : Int) < (j : Int) := by omega
        have hjl : ¬ ((j : Int) < 16) := by omega
        go_wp2_with fail
        rw [HOO.out]
        refine (alloc_any E l b oo _ all16 (by decide) (HEK.out _ HB.out) HN.out ho8).mono ?_
        rintro e w3 ⟨h1, -⟩
        obtain ⟨rfl, hn, ho⟩ := h1 0 H1.out
        rw [H2.out] at hn
        have HN3 := Lib.hid hn
        have HB3 := Lib.hid (HB.out.trans (ho.below (B := w.heap.size) HB.out.size (fun k hk => by subst hk; exact HBS.out)))
        clear h1 hn ho
        go_wp2_with fail
        refine (alloc_bad E b 8 _ all16 (by decide) (HEK.out _ HB3.out) (by decide)).mono ?_
        rintro e w4 ⟨rfl, hb4⟩
        have HB4 := Lib.hid (HB3.out.trans (hb4.mono HB3.out.size))
        have HN4 := Lib.hid (HN3.out.below hb4)
        clear hb4
        go_wp2_with fail
        refine (bind_none E L2 b g oo 16 0 _ all16 (by decide) (HEK.out _ HB4.out) HN4.out hg ho8 (.inl H3.out)).mono ?_
        rintro e w5 ⟨rfl, rfl⟩
        go_wp2_with fail
        refine (bind_none E L2 b g oo 0 1 _ all16 (by decide) (HEK.out _ HB4.out) HN4.out hg ho8 (.inr H4.out)).mono ?_
        rintro e w5 ⟨rfl, rfl⟩
        go_wp2_with fail
        refine (mask_none E L2 b g 16 true _ all16 (by decide) (HEK.out _ HB4.out) HN4.out hg H3.out).mono ?_
        rintro e w5 ⟨rfl, rfl⟩
        go_wp2_with fail
        refine (send_none E L2 b g (-1) _ all16 (by decide) (HEK.out _ HB4.out) HN4.out hg (by unfold sendP; rw [H5.out])).mono ?_
        rintro e w5 ⟨rfl, rfl⟩
        go_wp2_with fail
        refine (eget_none L2 b g 16 _ HN4.out hg H3.out).mono ?_
        rintro e w5 ⟨rfl, hb5⟩
        have HB5 : Hid (∀ X, Below w.heap.size w (w5.alloc X)) := Lib.hid fun X => (HB4.out.trans (hb5.mono HB4.out.size)).alloc (HB4.out.trans (hb5.mono HB4.out.size)).size _
        clear hb5
        have HB6 := Lib.hid (HB5.out (.cells #[.bool false, .bool false, .bool false, .int .i64 0, .int .i64 0] 67))
        go_wp2_with fail
        refine (is_any E (errV (E 2)) 103 103 (.inr ⟨2, by decide, rfl, rfl⟩) _ (HEK.out _ HB6.out)).mono ?_
        rintro e w70 ⟨rfl, hb70⟩
        have HB70 := Lib.hid (HB6.out.trans (hb70.mono HB6.out.size))
        clear hb70
        go_wp2_with fail
        refine (is_any E (errV (E 6)) 107 107 (.inr ⟨6, by decide, rfl, rfl⟩) _ (HEK.out _ HB70.out)).mono ?_
        rintro e w71 ⟨rfl, hb71⟩
        have HB71 := Lib.hid (HB70.out.trans (hb71.mono HB70.out.size))
        clear hb71
        go_wp2_with fail
        refine (is_any E (errV (E 6)) 107 107 (.inr ⟨6, by decide, rfl, rfl⟩) _ (HEK.out _ HB71.out)).mono ?_
        rintro e w72 ⟨rfl, hb72⟩
        have HB72 := Lib.hid (HB71.out.trans (hb72.mono HB71.out.size))
        clear hb72
        go_wp2_with fail
        refine (is_any E (errV (E 6)) 107 107 (.inr ⟨6, by decide, rfl, rfl⟩) _ (HEK.out _ HB72.out)).mono ?_
        rintro e w73 ⟨rfl, hb73⟩
        have HB73 := Lib.hid (HB72.out.trans (hb73.mono HB72.out.size))
        clear hb73
        go_wp2_with fail
        refine (is_any E (errV (E 6)) 107 107 (.inr ⟨6, by decide, rfl, rfl⟩) _ (HEK.out _ HB73.out)).mono ?_
        rintro e w74 ⟨rfl, hb74⟩
        have HB74 := Lib.hid (HB73.out.trans (hb74.mono HB73.out.size))
        clear hb74
        go_wp2_with fail
        refine (take_bad b 9 _ (by decide)).mono ?_
        rintro e w8 ⟨rfl, rfl⟩
        go_wp2_with fail
        refine (bind_bad E b 9 0 0 0 _ all16 (by decide) (HEK.out _ HB74.out) (.inl (by decide))).mono ?_
        rintro e w8 ⟨rfl, rfl⟩
        go_wp2_with fail
        refine (is_any E (errV (E 2)) 103 103 (.inr ⟨2, by decide, rfl, rfl⟩) _ (HEK.out _ HB74.out)).mono ?_
        rintro e w9 ⟨rfl, hb9⟩
        have HB9 := Lib.hid (HB74.out.trans (hb9.mono HB74.out.size))
        clear hb9
        go_wp2
        go_ret
        exact ⟨rfl, HB9.out⟩
      · obtain rfl : k = j := HCASE.out.1 (by omega)
        have hji : (k : Int) ≤ 16 := by omega
        have hjl : ¬ (16 : Int) < (k : Int) := by omega
        go_wp2_with fail
        rw [HOO.out]
        refine (alloc_any E l b oo _ all16 (by decide) (HEK.out _ HB.out) HN.out ho8).mono ?_
        rintro e w3 ⟨h1, -⟩
        obtain ⟨rfl, hn, ho⟩ := h1 0 H1.out
        rw [H2.out] at hn
        have HN3 := Lib.hid hn
        have HB3 := Lib.hid (HB.out.trans (ho.below (B := w.heap.size) HB.out.size (fun k hk => by subst hk; exact HBS.out)))
        clear h1 hn ho
        go_wp2_with fail
        refine (alloc_bad E b 8 _ all16 (by decide) (HEK.out _ HB3.out) (by decide)).mono ?_
        rintro e w4 ⟨rfl, hb4⟩
        have HB4 := Lib.hid (HB3.out.trans (hb4.mono HB3.out.size))
        have HN4 := Lib.hid (HN3.out.below hb4)
        clear hb4
        go_wp2_with fail
        refine (bind_none E L2 b g oo k 0 _ all16 (by decide) (HEK.out _ HB4.out) HN4.out hg ho8 (.inl H3.out)).mono ?_
        rintro e w5 ⟨rfl, rfl⟩
        go_wp2_with fail
        refine (bind_none E L2 b g oo 0 1 _ all16 (by decide) (HEK.out _ HB4.out) HN4.out hg ho8 (.inr H4.out)).mono ?_
        rintro e w5 ⟨rfl, rfl⟩
        go_wp2_with fail
        refine (mask_none E L2 b g k true _ all16 (by decide) (HEK.out _ HB4.out) HN4.out hg H3.out).mono ?_
        rintro e w5 ⟨rfl, rfl⟩
        go_wp2_with fail
        refine (send_none E L2 b g (-1) _ all16 (by decide) (HEK.out _ HB4.out) HN4.out hg (by unfold sendP; rw [H5.out])).mono ?_
        rintro e w5 ⟨rfl, rfl⟩
        go_wp2_with fail
        refine (eget_none L2 b g k _ HN4.out hg H3.out).mono ?_
        rintro e w5 ⟨rfl, hb5⟩
        have HB5 : Hid (∀ X, Below w.heap.size w (w5.alloc X)) := Lib.hid fun X => (HB4.out.trans (hb5.mono HB4.out.size)).alloc (HB4.out.trans (hb5.mono HB4.out.size)).size _
        clear hb5
        have HB6 := Lib.hid (HB5.out (.cells #[.bool false, .bool false, .bool false, .int .i64 0, .int .i64 0] 67))
        go_wp2_with fail
        refine (is_any E (errV (E 2)) 103 103 (.inr ⟨2, by decide, rfl, rfl⟩) _ (HEK.out _ HB6.out)).mono ?_
        rintro e w70 ⟨rfl, hb70⟩
        have HB70 := Lib.hid (HB6.out.trans (hb70.mono HB6.out.size))
        clear hb70
        go_wp2_with fail
        refine (is_any E (errV (E 6)) 107 107 (.inr ⟨6, by decide, rfl, rfl⟩) _ (HEK.out _ HB70.out)).mono ?_
        rintro e w71 ⟨rfl, hb71⟩
        have HB71 := Lib.hid (HB70.out.trans (hb71.mono HB70.out.size))
        clear hb71
        go_wp2_with fail
        refine (is_any E (errV (E 6)) 107 107 (.inr ⟨6, by decide, rfl, rfl⟩) _ (HEK.out _ HB71.out)).mono ?_
        rintro e w72 ⟨rfl, hb72⟩
        have HB72 := Lib.hid (HB71.out.trans (hb72.mono HB71.out.size))
        clear hb72
        go_wp2_with fail
        refine (is_any E (errV (E 6)) 107 107 (.inr ⟨6, by decide, rfl, rfl⟩) _ (HEK.out _ HB72.out)).mono ?_
        rintro e w73 ⟨rfl, hb73⟩
        have HB73 := Lib.hid (HB72.out.trans (hb73.mono HB72.out.size))
        clear hb73
        go_wp2_with fail
        refine (is_any E (errV (E 6)) 107 107 (.inr ⟨6, by decide, rfl, rfl⟩) _ (HEK.out _ HB73.out)).mono ?_
        rintro e w74 ⟨rfl, hb74⟩
        have HB74 := Lib.hid (HB73.out.trans (hb74.mono HB73.out.size))
        clear hb74
        go_wp2_with fail
        refine (take_bad b 9 _ (by decide)).mono ?_
        rintro e w8 ⟨rfl, rfl⟩
        go_wp2_with fail
        refine (bind_bad E b 9 0 0 0 _ all16 (by decide) (HEK.out _ HB74.out) (.inl (by decide))).mono ?_
        rintro e w8 ⟨rfl, rfl⟩
        go_wp2_with fail
        refine (is_any E (errV (E 2)) 103 103 (.inr ⟨2, by decide, rfl, rfl⟩) _ (HEK.out _ HB74.out)).mono ?_
        rintro e w9 ⟨rfl, hb9⟩
        have HB9 := Lib.hid (HB74.out.trans (hb9.mono HB74.out.size))
        clear hb9
        go_wp2
        go_ret
        exact ⟨rfl, HB9.out⟩
end Go.Proofs.YtpmbbbgmaipmbaaDoor
