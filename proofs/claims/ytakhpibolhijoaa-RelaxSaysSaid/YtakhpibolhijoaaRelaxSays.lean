/-
  RelaxSays: for every items and marks the call returns true; nothing that was there is turned. No conditions.
-/
import Derived.Test.YtakhpibolhijoaaR9Relax
import Derived.Test.YtakhpibolhijoaaR9Other
import Derived.Test.YtakhpibolhijoaaRelaxLeast
import Derived.Test.YtakhpibolhijoaaSameInts
import Derived.Test.YtakhpibolhijoaaSameBools
namespace Go.Proofs.Ytakhpibolhijoaa
open Go.RowKit

def plq (l : List Rx.It) (bs : List Bool) : List Int := if bs.length = l.length then Rx.pl 0 l bs else []
theorem plq_len (l : List Rx.It) (bs : List Bool) : (plq l bs).length ≤ l.length + 1 := by
  unfold plq
  split
  · rename_i h
    rw [Rx.pl_length 0 l bs h]
    exact Nat.le_refl _
  · simp
theorem places_q (l : List Rx.It) (bs : List Bool) (n m : Nat) (ao bo : Option Addr) (c1 c2 : Nat) (w : World) (hl : AtL w ao (itCells l)) (hbl : AtL w bo (bls bs)) (hn : l.length = n) (hm : bs.length = m) (hf : Rx.Fair l) (h : n ≤ 5000) :
    Calls Try.prog 12 #[.slice ao n c1, .slice bo m c2] w fun e w' => ∃ v c, e = .returned (.slice v (plq l bs).length c) ∧ AtL w' v (ints (plq l bs)) ∧ Below w.heap.size w w' := by
  by_cases hnm : m = n
  · refine (places_n l bs n m ao bo c1 c2 w hl hbl hn hm hnm hf h).mono ?_
    rintro e w' ⟨v, rfl, ho, -, hb⟩
    obtain ⟨a, c, rfl, hat⟩ := atL_of_own ho
    have e1 : plq l bs = Rx.pl 0 l bs := by unfold plq; rw [if_pos (by omega)]
    rw [e1, Rx.pl_length 0 l bs (by omega), hn]
    exact ⟨_, _, rfl, hat, hb⟩
  · refine (places_none n m ao bo c1 c2 w (fun e => hnm e.symm)).mono ?_
    rintro e w' ⟨rfl, hb⟩
    have e1 : plq l bs = [] := by unfold plq; rw [if_neg (by omega)]
    rw [e1]
    exact ⟨_, _, rfl, atL_nil _ _, hb⟩
theorem nine_places_q (l : List Rx.It) (bs : List Bool) (n m : Nat) (ao bo : Option Addr) (c1 c2 : Nat) (w : World) (hl : AtL w ao (itCells l)) (hbl : AtL w bo (bls bs)) (hn : l.length = n) (hm : bs.length = m) (hf : Rx.Fair l) (h : n ≤ 5000) :
    Calls Try.prog 18 #[.slice ao n c1, .slice bo m c2] w fun e w' => ∃ v c, e = .returned (.slice v (plq l bs).length c) ∧ AtL w' v (ints (plq l bs)) ∧ Below w.heap.size w w' := by
  by_cases hnm : m = n
  · refine (nine_places l bs n m ao bo c1 c2 w hl hbl hn hm hnm hf h).mono ?_
    rintro e w' ⟨v, rfl, ho, -, hb⟩
    obtain ⟨a, c, rfl, hat⟩ := atL_of_own ho
    have e1 : plq l bs = Rx.pl 0 l bs := by unfold plq; rw [if_pos (by omega)]
    rw [e1, Rx.pl_length 0 l bs (by omega), hn]
    exact ⟨_, _, rfl, hat, hb⟩
  · refine (nine_places_none n m ao bo c1 c2 w hnm).mono ?_
    rintro e w' ⟨rfl, hb⟩
    have e1 : plq l bs = [] := by unfold plq; rw [if_neg (by omega)]
    rw [e1]
    exact ⟨_, _, rfl, atL_nil _ _, hb⟩
theorem sameB (xs : List Bool) (n : Nat) (ao bo : Option Addr) (c1 c2 : Nat) (w : World) (hx : AtL w ao (bls xs)) (hy : AtL w bo (bls xs)) (h1 : xs.length = n) (hl : n ≤ 1000000000) :
    Calls Try.prog 13 #[.slice ao n c1, .slice bo n c2] w fun e w' => e = .returned (.bool true) ∧ Below w.heap.size w w' := by
  subst h1
  refine (sameBools_any xs xs ao bo c1 c2 w hx hy hl hl).mono ?_
  rintro e w' ⟨rfl, k, rfl⟩
  exact ⟨by rw [decide_eq_true rfl], below_drewN (Below.refl _ _) _⟩
theorem sameI (xs : List Int) (n : Nat) (ao bo : Option Addr) (c1 c2 : Nat) (w : World) (hx : AtL w ao (ints xs)) (hy : AtL w bo (ints xs)) (h1 : xs.length = n) (hl : n ≤ 1000000000) :
    Calls Try.prog 14 #[.slice ao n c1, .slice bo n c2] w fun e w' => e = .returned (.bool true) ∧ Below w.heap.size w w' := by
  subst h1
  refine (sameInts_any xs xs ao bo c1 c2 w hx hy hl hl).mono ?_
  rintro e w' ⟨rfl, k, rfl⟩
  exact ⟨by rw [decide_eq_true rfl], below_drewN (Below.refl _ _) _⟩

set_option maxHeartbeats 1000000 in
theorem says_many (n m : Nat) (ao bo : Option Addr) (c1 c2 : Nat) (w : World) (h : 200 < n ∨ 210 < m) :
    Calls Try.prog 6 #[.slice ao n c1, .slice bo m c2] w fun e w' => e = .returned (.bool true) ∧ Below w.heap.size w w' := by
  by_cases hn : (200 : Int) < (n : Int)
  · clear h
    go_enter Try.func6, Try.ntmps6
    go_wp2_with fail
    refine (first_true _).mono ?_
    rintro e w1 ⟨rfl, hb1⟩
    go_wp2
    go_ret
    exact ⟨rfl, hb1⟩
  · have hm : (210 : Int) < (m : Int) := by omega
    clear h
    go_enter Try.func6, Try.ntmps6
    go_wp2_with fail
    refine (first_true _).mono ?_
    rintro e w1 ⟨rfl, hb1⟩
    go_wp2
    go_ret
    exact ⟨rfl, hb1⟩

set_option maxHeartbeats 2000000 in
theorem says_bad (l : List Rx.It) (m : Nat) (ao bo : Option Addr) (c1 c2 : Nat) (w : World) (hl : AtL w ao (itCells l)) (hn : l.length ≤ 200) (hm : m ≤ 210) (hf : fairB l = false) :
    Calls Try.prog 6 #[.slice ao l.length c1, .slice bo m c2] w fun e w' => e = .returned (.bool true) ∧ Below w.heap.size w w' := by
  have HL := Lib.hid hl
  have HF := Lib.hid hf
  have hn1 : ¬ (200 : Int) < (l.length : Int) := by omega
  have hm1 : ¬ (210 : Int) < (m : Int) := by omega
  clear hl hf
  go_enter Try.func6, Try.ntmps6
  go_wp2_with fail
  refine (first_true _).mono ?_
  rintro e w1 ⟨rfl, hb1⟩
  have HB1 := Lib.hid hb1
  clear hb1
  go_wp2_with fail
  refine (other_any l ao c1 _ (HL.out.mono HB1.out) (by omega)).mono ?_
  rintro e w2 ⟨xv, xc, rfl, hxa, hb2⟩
  have HX := Lib.hid hxa
  have HB2 := Lib.hid (HB1.out.trans (hb2.mono HB1.out.size))
  clear hxa hb2
  go_wp2_with fail
  refine (do_n l l.length _ _ _ (HL.out.mono HB2.out) rfl (by omega)).mono ?_
  rintro e w3 ⟨hd0, -⟩
  obtain ⟨rfl, hb3⟩ := hd0 HF.out
  have HB3 := Lib.hid (HB2.out.trans (hb3.mono HB2.out.size))
  have HX3 := Lib.hid (HX.out.mono hb3)
  clear hd0 hb3
  go_wp2_with fail
  refine (nine_valid l l.length _ _ _ HX3.out rfl (by omega)).mono ?_
  rintro e w4 ⟨rfl, hb4⟩
  rw [HF.out]
  have HB4 := Lib.hid (HB3.out.trans (hb4.mono HB3.out.size))
  clear hb4
  go_wp2
  go_ret
  exact ⟨rfl, HB4.out⟩

set_option maxRecDepth 100000 in
set_option maxHeartbeats 4000000 in
theorem says_good (l : List Rx.It) (bs : List Bool) (ao bo : Option Addr) (c1 c2 : Nat) (w : World) (hl : AtL w ao (itCells l)) (hbl : AtL w bo (bls bs)) (hn : l.length ≤ 200) (hm : bs.length ≤ 210) (hf : Rx.Fair l) :
    Calls Try.prog 6 #[.slice ao l.length c1, .slice bo bs.length c2] w fun e w' => e = .returned (.bool true) ∧ Below w.heap.size w w' := by
  have HL := Lib.hid hl
  have HBL := Lib.hid hbl
  have HF := Lib.hid hf
  have HFB := Lib.hid ((fair_iff l).2 hf)
  have hn1 : (l.length : Int) ≤ 200 := by omega
  have hm1 : (bs.length : Int) ≤ 210 := by omega
  clear hl hbl hf
  go_enter Try.func6, Try.ntmps6
  go_wp2_with fail
  refine (first_true _).mono ?_
  rintro e w1 ⟨rfl, hb1⟩
  have HB1 := Lib.hid hb1
  clear hb1
  go_wp2_with fail
  all_goals (try (exfalso; omega))
  refine (other_any l ao c1 _ (HL.out.mono HB1.out) (by omega)).mono ?_
  rintro e w2 ⟨xv, xc, rfl, hxa, hb2⟩
  have HX := Lib.hid hxa
  have HB2 := Lib.hid (HB1.out.trans (hb2.mono HB1.out.size))
  clear hxa hb2
  go_wp2_with fail
  refine (do_n l l.length _ _ _ (HL.out.mono HB2.out) rfl (by omega)).mono ?_
  rintro e w3 ⟨-, hd1⟩
  obtain ⟨v, a, r, rfl, hdo, hown, -, hb3⟩ := hd1 HFB.out
  obtain ⟨av, cv, rfl, hav⟩ := atL_of_own hown
  have HAV := Lib.hid hav
  have HDO := Lib.hid hdo
  have HB3 := Lib.hid (HB2.out.trans (hb3.mono HB2.out.size))
  have HX3 := Lib.hid (HX.out.mono hb3)
  clear hd1 hb3 hav hdo hown
  go_wp2_with fail
  refine (nine_valid l l.length _ _ _ HX3.out rfl (by omega)).mono ?_
  rintro e w4 ⟨rfl, hb4⟩
  rw [HFB.out]
  have HB4 := Lib.hid (HB3.out.trans (hb4.mono HB3.out.size))
  have HX4 := Lib.hid (HX3.out.mono hb4)
  have HA4 := Lib.hid (HAV.out.mono hb4)
  clear hb4
  go_wp2_with fail
  refine (nine_relax_any l _ _ _ HX4.out (by omega) HF.out).mono ?_
  rintro e w5 ⟨bv, bc, b, q, rfl, hdb, hbv, hb5⟩
  obtain ⟨rfl, rfl⟩ := hdb.unique HDO.out
  have HB5 := Lib.hid (HB4.out.trans (hb5.mono HB4.out.size))
  have HX5 := Lib.hid (HX4.out.mono hb5)
  have HA5 := Lib.hid (HA4.out.mono hb5)
  have HV5 := Lib.hid hbv
  have HLN := Lib.hid HDO.out.length
  clear hdb hbv hb5
  go_wp2_with fail
  refine (sameB b l.length _ _ _ _ _ HA5.out HV5.out HLN.out (by omega)).mono ?_
  rintro e w6 ⟨rfl, hb6⟩
  have HB6 := Lib.hid (HB5.out.trans (hb6.mono HB5.out.size))
  have HX6 := Lib.hid (HX5.out.mono hb6)
  have HA6 := Lib.hid (HA5.out.mono hb6)
  have HV6 := Lib.hid (HV5.out.mono hb6)
  clear hb6
  go_wp2_with fail
  refine (places_q l bs l.length bs.length _ _ _ _ _ (HL.out.mono HB6.out) (HBL.out.mono HB6.out) rfl rfl HF.out (by omega)).mono ?_
  rintro e w7 ⟨pv, pc, rfl, hpa, hb7⟩
  have HB7 := Lib.hid (HB6.out.trans (hb7.mono HB6.out.size))
  have HX7 := Lib.hid (HX6.out.mono hb7)
  have HA7 := Lib.hid (HA6.out.mono hb7)
  have HV7 := Lib.hid (HV6.out.mono hb7)
  have HP7 := Lib.hid hpa
  clear hb7 hpa
  go_wp2_with fail
  refine (nine_places_q l bs l.length bs.length _ _ _ _ _ HX7.out (HBL.out.mono HB7.out) rfl rfl HF.out (by omega)).mono ?_
  rintro e w8 ⟨qv, qc, rfl, hqa, hb8⟩
  have HB8 := Lib.hid (HB7.out.trans (hb8.mono HB7.out.size))
  have HX8 := Lib.hid (HX7.out.mono hb8)
  have HA8 := Lib.hid (HA7.out.mono hb8)
  have HV8 := Lib.hid (HV7.out.mono hb8)
  have HP8 := Lib.hid (HP7.out.mono hb8)
  have HQ8 := Lib.hid hqa
  clear hb8 hqa
  go_wp2_with fail
  refine (sameI (plq l bs) _ _ _ _ _ _ HP8.out HQ8.out rfl (by have := plq_len l bs; omega)).mono ?_
  rintro e w9 ⟨rfl, hb9⟩
  have HB9 := Lib.hid (HB8.out.trans (hb9.mono HB8.out.size))
  have HX9 := Lib.hid (HX8.out.mono hb9)
  have HA9 := Lib.hid (HA8.out.mono hb9)
  have HV9 := Lib.hid (HV8.out.mono hb9)
  clear hb9
  go_wp2_with fail
  refine (places_q l b l.length l.length _ _ _ _ _ (HL.out.mono HB9.out) HA9.out rfl HLN.out HF.out (by omega)).mono ?_
  rintro e w10 ⟨pv2, pc2, rfl, hpa, hb10⟩
  have HB10 := Lib.hid (HB9.out.trans (hb10.mono HB9.out.size))
  have HX10 := Lib.hid (HX9.out.mono hb10)
  have HA10 := Lib.hid (HA9.out.mono hb10)
  have HV10 := Lib.hid (HV9.out.mono hb10)
  have HP10 := Lib.hid hpa
  clear hb10 hpa
  go_wp2_with fail
  refine (nine_places_q l b l.length l.length _ _ _ _ _ HX10.out HV10.out rfl HLN.out HF.out (by omega)).mono ?_
  rintro e w11 ⟨qv2, qc2, rfl, hqa, hb11⟩
  have HB11 := Lib.hid (HB10.out.trans (hb11.mono HB10.out.size))
  have HA11 := Lib.hid (HA10.out.mono hb11)
  have HP11 := Lib.hid (HP10.out.mono hb11)
  have HQ11 := Lib.hid hqa
  clear hb11 hqa
  go_wp2_with fail
  refine (sameI (plq l b) _ _ _ _ _ _ HP11.out HQ11.out rfl (by have := plq_len l b; omega)).mono ?_
  rintro e w12 ⟨rfl, hb12⟩
  have HB12 := Lib.hid (HB11.out.trans (hb12.mono HB11.out.size))
  have HA12 := Lib.hid (HA11.out.mono hb12)
  clear hb12
  go_wp2_with fail
  refine (Fits_n l b l.length l.length _ _ _ _ _ (HL.out.mono HB12.out) HA12.out rfl HLN.out rfl HF.out (by omega)).mono ?_
  rintro e w13 ⟨rfl, hb13⟩
  rw [okAll_of HLN.out HDO.out.fix]
  have HB13 := Lib.hid (HB12.out.trans (hb13.mono HB12.out.size))
  clear hb13
  go_wp2
  go_ret
  exact ⟨ret_bool (by simp), HB13.out⟩

theorem says_walk (l : List Rx.It) (bs : List Bool) (ao bo : Option Addr) (c1 c2 : Nat) (w : World) (hl : AtL w ao (itCells l)) (hbl : AtL w bo (bls bs)) :
    Calls Try.prog 6 #[.slice ao l.length c1, .slice bo bs.length c2] w fun e w' => e = .returned (.bool true) ∧ Below w.heap.size w w' := by
  by_cases h : 200 < l.length ∨ 210 < bs.length
  · exact says_many _ _ _ _ _ _ _ h
  · by_cases hf : fairB l = true
    · exact says_good l bs ao bo c1 c2 w hl hbl (by omega) (by omega) ((fair_iff l).1 hf)
    · exact says_bad l _ ao bo c1 c2 w hl (by omega) (by omega) (by cases hb : fairB l with | false => rfl | true => exact absurd hb hf)
end Go.Proofs.Ytakhpibolhijoaa
