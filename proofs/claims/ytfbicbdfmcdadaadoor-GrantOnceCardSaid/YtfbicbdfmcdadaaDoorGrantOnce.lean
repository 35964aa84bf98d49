/-
  GrantOnce: for every numbers the call returns true. Given where the sentinels lie.
-/
import Derived.Test.YtfbicbdfmcdadaaDoorGrOne
import Derived.Test.YtfbicbdfmcdadaaDoorNumber
namespace Go.Proofs.YtfbicbdfmcdadaaDoor
open Go.RowKit

set_option maxRecDepth 100000 in
set_option maxHeartbeats 1500000 in
theorem once_other (E : Nat → Addr) (x0 x1 x2 x3 : Int) (wb : Bool) (w : World) (hbother : (x3 % 8 == x2 % 8) = false) (hE : ErrsAt errT gOf w E all16) (h0 : -9223372036854775808 ≤ x0 ∧ x0 ≤ 9223372036854775807) (h1 : -9223372036854775808 ≤ x1 ∧ x1 ≤ 9223372036854775807) (h2 : -9223372036854775808 ≤ x2 ∧ x2 ≤ 9223372036854775807) (h3 : -9223372036854775808 ≤ x3 ∧ x3 ≤ 9223372036854775807) :
    Calls Tryd.prog 13 #[.int .i64 x0, .int .i64 x1, .int .i64 x2, .int .i64 x3, .bool wb] w fun e w' => e = .returned (.bool true) ∧ Below w.heap.size w w' := by
  have HX : Hid (∀ wx, Below w.heap.size w wx → ErrsAt errT gOf wx E all16) := Lib.hid fun wx h => hE.mono h
  have H0 := Lib.hid h0
  have H1 := Lib.hid h1
  have H2 := Lib.hid h2
  have H3 := Lib.hid h3
  clear hE h0 h1 h2 h3
  go_enter Tryd.func13, Tryd.ntmps13
  go_wp2_with fail
  refine (gr_first E _ (HX.out _ (Below.refl _ _))).mono ?_
  rintro e w1 ⟨rfl, hb1⟩
  have HB1 := Lib.hid hb1
  clear hb1
  go_wp2_with fail
  refine (number_any x0 16 _ H0.out.1 H0.out.2 (by decide) (by decide)).mono ?_
  rintro e w2 ⟨rfl, rfl⟩
  go_wp2_with fail
  refine (number_any x1 1024 _ H1.out.1 H1.out.2 (by decide) (by decide)).mono ?_
  rintro e w2 ⟨rfl, rfl⟩
  go_wp2_with fail
  refine (number_any x2 8 _ H2.out.1 H2.out.2 (by decide) (by decide)).mono ?_
  rintro e w2 ⟨rfl, rfl⟩
  go_wp2_with fail
  refine (number_any x3 8 _ H3.out.1 H3.out.2 (by decide) (by decide)).mono ?_
  rintro e w2 ⟨rfl, rfl⟩
  obtain ⟨r, hr⟩ : ∃ r : Nat, x0 % 16 = (r : Int) := ⟨(x0 % 16).toNat, by omega⟩
  have hr16 : r < 16 := by omega
  have hf0 : 0 ≤ x1 % 1024 := by omega
  have hf1 : x1 % 1024 < 1024 := by omega
  have ht0 : 0 ≤ x2 % 8 := by omega
  have ht1 : x2 % 8 < 8 := by omega
  rw [hr]
  have HM := Lib.hid hbother
  clear hbother
  obtain ⟨f, hf⟩ : ∃ f, x1 % 1024 = f := ⟨_, rfl⟩
  obtain ⟨t, ht⟩ : ∃ t, x2 % 8 = t := ⟨_, rfl⟩
  obtain ⟨y, hy⟩ : ∃ y, x3 % 8 = y := ⟨_, rfl⟩
  rw [hf] at hf0 hf1 ⊢
  rw [ht] at ht0 ht1 ⊢
  rw [hy]
  rw [ht, hy] at HM
  clear hr hf ht hy H0 H1 H2 H3
  have HG := Lib.hid (gr_new w1)
  have HBA := Lib.hid (HB1.out.alloc HB1.out.size (.cells Tryd.zeroCells93 93))
  have hs1 := HB1.out.size
  have HLOW : Hid (∀ k : Nat, k = w1.heap.size → w.heap.size ≤ k) := Lib.hid fun k hk => by subst hk; exact hs1
  clear HB1
  go_wp2_with fail
  refine (set_new none16 _ r f t wb _ HG.out hr16 hf0 hf1 ht0 ht1 (by rw [none16_get r hr16])).mono ?_
  rintro e w2 ⟨rfl, hg2, ho2⟩
  have HG2 : Hid (GAt w2 w1.heap.size (one1 r ⟨true, wb, false, f, t⟩)) := Lib.hid hg2
  have HB2 := Lib.hid (HBA.out.trans (ho2.below HBA.out.size HLOW.out))
  clear hg2 ho2 HG HBA
  go_wp2_with fail
  refine (set_live E _ _ r f t wb _ (HX.out _ HB2.out) HG2.out hr16 hf0 hf1 ht0 ht1 (by rw [one1_get r _ hr16])).mono ?_
  rintro e w3 ⟨rfl, rfl⟩
  go_wp2_with fail
  refine (is_any E (errV (E 5)) 106 106 (.inr ⟨5, by decide, rfl, rfl⟩) _ (HX.out _ HB2.out)).mono ?_
  rintro e w3 ⟨rfl, hb3⟩
  have HG3 := Lib.hid (HG2.out.below hb3)
  have HB3 := Lib.hid (HB2.out.trans (hb3.mono HB2.out.size))
  clear hb3 HG2 HB2
  go_wp2_with fail
  have hne : ¬ y = t := by
    have := HM.out
    simpa using this
  have hnb : (y != t) = true := by simp [hne]
  have HNE := Lib.hid hne
  clear hne
  refine (map_other E _ _ r r y _ (HX.out _ HB3.out) HG3.out (by rw [one1_live r _ hr16]; rfl) (by rw [one1_get r _ hr16]; exact fun h => HNE.out h.symm)).mono ?_
  rintro e w4 ⟨rfl, hb4⟩
  have HG4 := Lib.hid (HG3.out.below hb4)
  have HB4 := Lib.hid (HB3.out.trans (hb4.mono HB3.out.size))
  clear hb4 HG3 HB3
  go_wp2_with fail
  refine (lent_any _ _ f y _ HG4.out).mono ?_
  rintro e w5 ⟨rfl, hb5⟩
  rw [one1_lent r _ hr16, show lentTo f y ⟨true, wb, false, f, t⟩ = false from by simp [lentTo]]
  have HG5 := Lib.hid (HG4.out.below hb5)
  have HB5 := Lib.hid (HB4.out.trans (hb5.mono HB4.out.size))
  clear hb5 HG4 HB4
  go_wp2_with fail
  refine (is_any E (errV (E 9)) 110 110 (.inr ⟨9, by decide, rfl, rfl⟩) _ (HX.out _ HB5.out)).mono ?_
  rintro e w6 ⟨rfl, hb6⟩
  have HG6 := Lib.hid (HG5.out.below hb6)
  have HB6 := Lib.hid (HB5.out.trans (hb6.mono HB5.out.size))
  clear hb6 HG5 HB5
  go_wp2_with fail
  refine (revoke_one r _ _ _ hr16 HG6.out rfl rfl).mono ?_
  rintro e w7 ⟨rfl, -, ho7⟩
  have HB7 := Lib.hid (HB6.out.trans (ho7.below HB6.out.size HLOW.out))
  clear ho7
  go_wp2
  go_ret
  exact ⟨rfl, HB7.out⟩

set_option maxRecDepth 100000 in
set_option maxHeartbeats 1500000 in
theorem once_same (E : Nat → Addr) (x0 x1 x2 x3 : Int) (wb : Bool) (w : World) (hbsame : (x3 % 8 == x2 % 8) = true) (hE : ErrsAt errT gOf w E all16) (h0 : -9223372036854775808 ≤ x0 ∧ x0 ≤ 9223372036854775807) (h1 : -9223372036854775808 ≤ x1 ∧ x1 ≤ 9223372036854775807) (h2 : -9223372036854775808 ≤ x2 ∧ x2 ≤ 9223372036854775807) (h3 : -9223372036854775808 ≤ x3 ∧ x3 ≤ 9223372036854775807) :
    Calls Tryd.prog 13 #[.int .i64 x0, .int .i64 x1, .int .i64 x2, .int .i64 x3, .bool wb] w fun e w' => e = .returned (.bool true) ∧ Below w.heap.size w w' := by
  have HX : Hid (∀ wx, Below w.heap.size w wx → ErrsAt errT gOf wx E all16) := Lib.hid fun wx h => hE.mono h
  have H0 := Lib.hid h0
  have H1 := Lib.hid h1
  have H2 := Lib.hid h2
  have H3 := Lib.hid h3
  clear hE h0 h1 h2 h3
  go_enter Tryd.func13, Tryd.ntmps13
  go_wp2_with fail
  refine (gr_first E _ (HX.out _ (Below.refl _ _))).mono ?_
  rintro e w1 ⟨rfl, hb1⟩
  have HB1 := Lib.hid hb1
  clear hb1
  go_wp2_with fail
  refine (number_any x0 16 _ H0.out.1 H0.out.2 (by decide) (by decide)).mono ?_
  rintro e w2 ⟨rfl, rfl⟩
  go_wp2_with fail
  refine (number_any x1 1024 _ H1.out.1 H1.out.2 (by decide) (by decide)).mono ?_
  rintro e w2 ⟨rfl, rfl⟩
  go_wp2_with fail
  refine (number_any x2 8 _ H2.out.1 H2.out.2 (by decide) (by decide)).mono ?_
  rintro e w2 ⟨rfl, rfl⟩
  go_wp2_with fail
  refine (number_any x3 8 _ H3.out.1 H3.out.2 (by decide) (by decide)).mono ?_
  rintro e w2 ⟨rfl, rfl⟩
  obtain ⟨r, hr⟩ : ∃ r : Nat, x0 % 16 = (r : Int) := ⟨(x0 % 16).toNat, by omega⟩
  have hr16 : r < 16 := by omega
  have hf0 : 0 ≤ x1 % 1024 := by omega
  have hf1 : x1 % 1024 < 1024 := by omega
  have ht0 : 0 ≤ x2 % 8 := by omega
  have ht1 : x2 % 8 < 8 := by omega
  rw [hr]
  have HM := Lib.hid hbsame
  clear hbsame
  obtain ⟨f, hf⟩ : ∃ f, x1 % 1024 = f := ⟨_, rfl⟩
  obtain ⟨t, ht⟩ : ∃ t, x2 % 8 = t := ⟨_, rfl⟩
  obtain ⟨y, hy⟩ : ∃ y, x3 % 8 = y := ⟨_, rfl⟩
  rw [hf] at hf0 hf1 ⊢
  rw [ht] at ht0 ht1 ⊢
  rw [hy]
  rw [ht, hy] at HM
  clear hr hf ht hy H0 H1 H2 H3
  have HG := Lib.hid (gr_new w1)
  have HBA := Lib.hid (HB1.out.alloc HB1.out.size (.cells Tryd.zeroCells93 93))
  have hs1 := HB1.out.size
  have HLOW : Hid (∀ k : Nat, k = w1.heap.size → w.heap.size ≤ k) := Lib.hid fun k hk => by subst hk; exact hs1
  clear HB1
  go_wp2_with fail
  refine (set_new none16 _ r f t wb _ HG.out hr16 hf0 hf1 ht0 ht1 (by rw [none16_get r hr16])).mono ?_
  rintro e w2 ⟨rfl, hg2, ho2⟩
  have HG2 : Hid (GAt w2 w1.heap.size (one1 r ⟨true, wb, false, f, t⟩)) := Lib.hid hg2
  have HB2 := Lib.hid (HBA.out.trans (ho2.below HBA.out.size HLOW.out))
  clear hg2 ho2 HG HBA
  go_wp2_with fail
  refine (set_live E _ _ r f t wb _ (HX.out _ HB2.out) HG2.out hr16 hf0 hf1 ht0 ht1 (by rw [one1_get r _ hr16])).mono ?_
  rintro e w3 ⟨rfl, rfl⟩
  go_wp2_with fail
  refine (is_any E (errV (E 5)) 106 106 (.inr ⟨5, by decide, rfl, rfl⟩) _ (HX.out _ HB2.out)).mono ?_
  rintro e w3 ⟨rfl, hb3⟩
  have HG3 := Lib.hid (HG2.out.below hb3)
  have HB3 := Lib.hid (HB2.out.trans (hb3.mono HB2.out.size))
  clear hb3 HG2 HB2
  go_wp2_with fail
  obtain rfl : y = t := by
    have := HM.out
    simpa using this
  refine (map_one r _ _ _ hr16 HG3.out rfl rfl).mono ?_
  rintro e w4 ⟨rfl, hg4, ho4⟩
  have HG4 := Lib.hid hg4
  have HB4 := Lib.hid (HB3.out.trans (ho4.below HB3.out.size HLOW.out))
  clear hg4 ho4 HG3 HB3
  go_wp2_with fail
  refine (lent_any _ _ f y _ HG4.out).mono ?_
  rintro e w5 ⟨rfl, hb5⟩
  rw [one1_lent r _ hr16, one1_lentW r _ hr16, show lentTo f y ⟨true, wb, true, f, y⟩ = true from by simp [lentTo], Bool.true_and]
  have HG5 := Lib.hid (HG4.out.below hb5)
  have HB5 := Lib.hid (HB4.out.trans (hb5.mono HB4.out.size))
  clear hb5 HG4 HB4
  go_wp2_with fail
  refine (map_used E _ _ r r y _ (HX.out _ HB5.out) HG5.out (by rw [one1_live r _ hr16]; rfl) (by rw [one1_get r _ hr16]) (by rw [one1_get r _ hr16])).mono ?_
  rintro e w6 ⟨rfl, hb6⟩
  have HG6 := Lib.hid (HG5.out.below hb6)
  have HB6 := Lib.hid (HB5.out.trans (hb6.mono HB5.out.size))
  clear hb6 HG5 HB5
  go_wp2_with fail
  refine (revoke_used E _ _ r r _ (HX.out _ HB6.out) HG6.out (by rw [one1_live r _ hr16]; rfl) (by rw [one1_get r _ hr16])).mono ?_
  rintro e w7 ⟨rfl, rfl⟩
  go_wp2_with fail
  refine (unmap_one r _ _ _ hr16 HG6.out rfl rfl).mono ?_
  rintro e w7 ⟨rfl, hg7, ho7⟩
  have HG7 := Lib.hid hg7
  have HB7 := Lib.hid (HB6.out.trans (ho7.below HB6.out.size HLOW.out))
  clear hg7 ho7 HG6 HB6
  go_wp2_with fail
  refine (lent_any _ _ f y _ HG7.out).mono ?_
  rintro e w8 ⟨rfl, hb8⟩
  rw [one1_lent r _ hr16, show lentTo f y ⟨true, wb, false, f, y⟩ = false from by simp [lentTo]]
  have HG8 := Lib.hid (HG7.out.below hb8)
  have HB8 := Lib.hid (HB7.out.trans (hb8.mono HB7.out.size))
  clear hb8 HG7 HB7
  go_wp2_with fail
  refine (is_any E (errV (E 11)) 112 112 (.inr ⟨11, by decide, rfl, rfl⟩) _ (HX.out _ HB8.out)).mono ?_
  rintro e w9 ⟨rfl, hb9⟩
  have HG9 := Lib.hid (HG8.out.below hb9)
  have HB9 := Lib.hid (HB8.out.trans (hb9.mono HB8.out.size))
  clear hb9 HG8 HB8
  go_wp2_with fail
  refine (is_any E (errV (E 11)) 112 112 (.inr ⟨11, by decide, rfl, rfl⟩) _ (HX.out _ HB9.out)).mono ?_
  rintro e w10 ⟨rfl, hb10⟩
  have HG10 := Lib.hid (HG9.out.below hb10)
  have HB10 := Lib.hid (HB9.out.trans (hb10.mono HB9.out.size))
  clear hb10 HG9 HB9
  go_wp2_with fail
  refine (revoke_one r _ _ _ hr16 HG10.out rfl rfl).mono ?_
  rintro e w11 ⟨rfl, hg11, ho11⟩
  have HG11 := Lib.hid hg11
  have HB11 := Lib.hid (HB10.out.trans (ho11.below HB10.out.size HLOW.out))
  clear hg11 ho11 HG10 HB10
  go_wp2_with fail
  refine (revoke_none E _ _ r _ (HX.out _ HB11.out) HG11.out (by rw [one1_live r _ hr16]; rfl)).mono ?_
  rintro e w12 ⟨rfl, rfl⟩
  go_wp2_with fail
  refine (is_any E (errV (E 6)) 107 107 (.inr ⟨6, by decide, rfl, rfl⟩) _ (HX.out _ HB11.out)).mono ?_
  rintro e w12 ⟨rfl, hb12⟩
  have HB12 := Lib.hid (HB11.out.trans (hb12.mono HB11.out.size))
  clear hb12
  go_wp2
  go_ret
  exact ⟨rfl, HB12.out⟩

theorem once_walk (E : Nat → Addr) (x0 x1 x2 x3 : Int) (wb : Bool) (w : World) (hE : ErrsAt errT gOf w E all16) (h0 : -9223372036854775808 ≤ x0 ∧ x0 ≤ 9223372036854775807) (h1 : -9223372036854775808 ≤ x1 ∧ x1 ≤ 9223372036854775807) (h2 : -9223372036854775808 ≤ x2 ∧ x2 ≤ 9223372036854775807) (h3 : -9223372036854775808 ≤ x3 ∧ x3 ≤ 9223372036854775807) :
    Calls Tryd.prog 13 #[.int .i64 x0, .int .i64 x1, .int .i64 x2, .int .i64 x3, .bool wb] w fun e w' => e = .returned (.bool true) ∧ Below w.heap.size w w' := by
  cases hb : (x3 % 8 == x2 % 8)
  · exact once_other E x0 x1 x2 x3 wb w hb hE h0 h1 h2 h3
  · exact once_same E x0 x1 x2 x3 wb w hb hE h0 h1 h2 h3
end Go.Proofs.YtfbicbdfmcdadaaDoor
