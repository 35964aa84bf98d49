/-
  facaderef9: fits, Places, ValidItems.
-/
import Derived.Test.YtakhpibolhijoaaRxDo
import Derived.Test.YtakhpibolhijoaaRxFirst
import Derived.Test.YtakhpibolhijoaaCopyBools
import Derived.Test.YtakhpibolhijoaaSameBools
namespace Go.Proofs.Ytakhpibolhijoaa
open Go.RowKit

theorem made_n (w : World) (n : Nat) (h : n ≤ 1000000) : (Instr.makeSlice 24 (.int .i64 (n : Int)) (.int .i64 (n : Int))).run Try.prog w = .ok (.slice (some ⟨w.heap.size, 0, none⟩) n n) (w.alloc (.cells (madeCells #[.bool false] n) 4)) := by
  obtain ⟨i, hi, hz0, hz1, hz2⟩ := info_parts infoBool
  have e := run_make (P := Try.prog) w 24 4 i (.bool false) Try.underlying24 hi hz0 .i64 .i64 n n (by omega) (by omega) (by rw [hz2]; omega) (by omega)
  rw [e, hz1, Int.toNat_natCast, Nat.mul_one]
  rfl

set_option maxHeartbeats 1000000 in
theorem nine_fits (p : List Int) (s : Int) (t : Nat) (r : Bool) (i m : Nat) (ap : Option Addr) (c2 : Nat) (w : World) (hp : AtL w ap (ints p)) (hm : p.length = m) (htp : t < p.length) (hip : i < p.length) (hb : ∀ j, j < p.length → 0 ≤ p.getD j 0 ∧ p.getD j 0 ≤ 1000000000) (hl2 : p.length ≤ 100000) :
    Calls Try.prog 25 #[.agg #[.int .i64 s, .int .i64 (t : Int), .bool r], .int .i64 i, .slice ap m c2] w fun e w' => e = .returned (.bool (!Rx.bad (p.getD t 0 - p.getD i 0))) ∧ Below w.heap.size w w' := by
  obtain ⟨d, q, rfl, e1, -⟩ := hp t _ (ints_get p t htp)
  obtain ⟨d', q', he, e2, -⟩ := hp i _ (ints_get p i hip)
  cases he
  have bu := hb t htp
  have bv := hb i hip
  subst hm
  obtain ⟨u, hu⟩ : ∃ u, p.getD t 0 = u := ⟨_, rfl⟩
  obtain ⟨v, hv⟩ : ∃ v, p.getD i 0 = v := ⟨_, rfl⟩
  rw [hu] at bu e1 ⊢
  rw [hv] at bv e2 ⊢
  have a1 := cell_past e1 (.cells #[.int .i64 s, .int .i64 (t : Int), .bool r] 49)
  have a2 := cell_past e2 (.cells #[.int .i64 s, .int .i64 (t : Int), .bool r] 49)
  have a3 := blk_cell (blk_new w (.cells #[.int .i64 s, .int .i64 (t : Int), .bool r] 49)) 1
  have w1 := IntWalk.i64_in (u - v) (by omega)
  have f2 : (i : Int) < (p.length : Int) := by omega
  have f3 : (t : Int) < (p.length : Int) := by omega
  have f4 : (0 : Int) ≤ (t : Int) := by omega
  have f5 : (0 : Int) ≤ (i : Int) := by omega
  have HBW : Hid (∀ k, Below w.heap.size w ((w.alloc (.cells #[.int .i64 s, .int .i64 (t : Int), .bool r] 49)).drewN k)) := Lib.hid fun k => below_drewN ((Below.refl _ _).alloc (Nat.le_refl _) _) k
  clear hp hb hu hv bu bv e1 e2
  by_cases k1 : -128 ≤ u - v
  · by_cases k2 : u - v ≤ 127
    · have HG := Lib.hid (Rx.bad_no k1 k2)
      go_enter Try.func25, Try.ntmps25
      go_wp2_with fail
      go_quiet (fail)
      go_wp2
      go_ret
      exact ⟨ret_bool HG.out.symm, HBW.out _⟩
    · have HG := Lib.hid (Rx.bad_high k2)
      go_enter Try.func25, Try.ntmps25
      go_wp2_with fail
      go_quiet (fail)
      go_wp2
      go_ret
      exact ⟨ret_bool (by rw [HG.out, decide_eq_false_iff_not]; omega), HBW.out _⟩
  · have HG := Lib.hid (Rx.bad_low k1)
    go_enter Try.func25, Try.ntmps25
    go_wp2_with fail
    go_quiet (fail)
    go_wp2
    go_ret
    exact ⟨ret_bool HG.out.symm, HBW.out _⟩

/-- the first k are told -/
def PlTo9 (l : List Rx.It) (bs : List Bool) (w : World) (out a i : Value) (wr : World) : Prop :=
  ∃ k : Nat, k ≤ l.length ∧ i = .int .i64 k ∧ a = .int .i64 ((Rx.pl 0 l bs).getD k 0) ∧ wr.ownsRow 0 3 1 out k (ints ((Rx.pl 0 l bs).take k)) ∧ (∀ j, inRow out j → w.heap.size ≤ j) ∧ Below w.heap.size w wr ∧ ∃ ao cap, out = .slice ao k cap

set_option maxHeartbeats 2000000 in
theorem nine_places_any (l : List Rx.It) (bs : List Bool) (ao bo : Option Addr) (c1 c2 : Nat) (w : World) (hl : AtIt w ao l) (hbl : AtL w bo (bls bs)) (hlen : bs.length = l.length) (hf : Rx.Fair l) (hn : l.length ≤ 5000) :
    Calls Try.prog 18 #[.slice ao l.length c1, .slice bo l.length c2] w fun e w' => ∃ v', e = .returned v' ∧ w'.ownsRow 0 3 1 v' (l.length + 1) (ints (Rx.pl 0 l bs)) ∧ (∀ k, inRow v' k → w.heap.size ≤ k) ∧ Below w.heap.size w w' := by
  obtain ⟨i0, hi, hz0, hz1, hz2⟩ := info_parts infoInt
  have HL := Lib.hid hl
  have HBL := Lib.hid hbl
  have HLEN := Lib.hid hlen
  have HF := Lib.hid hf
  have hne : ((l.length : Int) != (l.length : Int)) = false := by simp
  clear hl hbl hlen hf
  go_enter Try.func18, Try.ntmps18
  go_wp2_with fail
  go_loopw [5, 6, 7] (fun v a i wr => PlTo9 l bs w v a i wr) (fun _ _ i _ => l.length - (intOf i).toNat)
  case atStart => exact ⟨0, Nat.zero_le _, rfl, by rw [Rx.pl_zero], own_nil _ _ _, fun j hj => by simp [inRow, Value.ownBlock] at hj, Below.refl _ _, _, _, rfl⟩
  case round =>
    obtain ⟨k, hk, rfl, rfl, hown, hfr, hbw, ao', cap', rfl⟩ := hrel
    have hpk := Rx.pl_bound l bs HLEN.out HF.out k hk
    have hpl : (Rx.pl 0 l bs).length = l.length + 1 := Rx.pl_length 0 l bs HLEN.out
    have hkp : k < (Rx.pl 0 l bs).length := by omega
    have e1 := Lib.hid (ints_take (Rx.pl 0 l bs) k hkp)
    obtain ⟨a, ha⟩ : ∃ a, (Rx.pl 0 l bs).getD k 0 = a := ⟨_, rfl⟩
    rw [ha] at hpk e1 ⊢
    have HA := Lib.hid ha
    have HO := Lib.hid hown
    have HFR := Lib.hid hfr
    have HW := Lib.hid hbw
    have HPL := Lib.hid hpl
    clear ha hfr hbw hpl hkp
    by_cases hlt : k < l.length
    · have hki : (k : Int) < (l.length : Int) := by omega
      go_wp2_with (at_builtin; refine wpList_append_sep _ rfl _ _ 30 rfl 3 i0 (.int .i64 0) 1 8 Try.underlying30 hi hz0 hz1 hz2 rfl (by decide) _ _ _ rfl (HO.out.alloc _) ⟨wr.heap.size, 0, none⟩ 1 1 [.int .i64 a] rfl rfl (cell_one_new _ _ _) (by simp [Value.oneCell']) (by unfold maxLen; omega) (by omega) ?_)
      intro v' wx ho2 hg2 hs2
      obtain ⟨ao2, cap2, rfl⟩ := own_slice ho2
      rw [← e1.out] at ho2
      have hw2 : Below w.heap.size w wx := (HW.out.alloc HW.out.size _).grown hg2 (by have := HW.out.size; simp; omega) (fun j hj => HFR.out j hj)
      have HO2 := Lib.hid ho2
      have HW2 := Lib.hid hw2
      have HF2 := Lib.hid (show ∀ j, inRow (.slice ao2 (k + 1) cap2) j → w.heap.size ≤ j from fun j hj => by
        rcases hs2 j hj with h | h
        · exact HFR.out j h
        · have h' := h
          try simp only [World.size_alloc] at h'
          have := HW.out.size
          omega)
      clear ho2 hg2 hs2 hw2 hown
      obtain ⟨b, off, rfl, -, x0, -, -⟩ := (HL.out.mono HW2.out) k hlt
      obtain ⟨d, q, rfl, y0, -⟩ := (HBL.out.mono HW2.out) k _ (bls_get bs k (by rw [HLEN.out]; exact hlt))
      have hsz := HF.out k hlt
      have hstep := Lib.hid (Rx.pl_succ 0 l bs k HLEN.out hlt)
      rw [HA.out] at hstep
      obtain ⟨s, hs⟩ : ∃ s, (l.getD k default).size = s := ⟨_, rfl⟩
      obtain ⟨g, hg⟩ : ∃ g, bs.getD k false = g := ⟨_, rfl⟩
      rw [hs] at x0 hsz hstep
      rw [hg] at y0 hstep
      have s0 := hsz.1
      have s1 := hsz.2.1
      clear hs hg hsz
      have w1 := IntWalk.i64_in (a + s) (by omega)
      have w2 := IntWalk.i64_in (a + s + 1) (by omega)
      cases g
      all_goals
        go_wp2
        go_roundw
        case rel => exact ⟨k + 1, by omega, by go_num, by rw [hstep.out]; simp [Rx.one], HO2.out, HF2.out, HW2.out, _, _, rfl⟩
        case measure => simp [intOf]; omega
    · obtain rfl : k = l.length := by omega
      go_wp2_with (at_builtin; refine wpList_append_sep _ rfl _ _ 30 rfl 3 i0 (.int .i64 0) 1 8 Try.underlying30 hi hz0 hz1 hz2 rfl (by decide) _ _ _ rfl (HO.out.alloc _) ⟨wr.heap.size, 0, none⟩ 1 1 [.int .i64 a] rfl rfl (cell_one_new _ _ _) (by simp [Value.oneCell']) (by unfold maxLen; omega) (by omega) ?_)
      intro v' wx ho2 hg2 hs2
      obtain ⟨ao2, cap2, rfl⟩ := own_slice ho2
      rw [← e1.out, List.take_of_length_le (by rw [HPL.out]; exact Nat.le_refl _)] at ho2
      have hw2 : Below w.heap.size w wx := (HW.out.alloc HW.out.size _).grown hg2 (by have := HW.out.size; simp; omega) (fun j hj => HFR.out j hj)
      have HO2 := Lib.hid ho2
      have HW2 := Lib.hid hw2
      have HF2 := Lib.hid (show ∀ j, inRow (.slice ao2 (l.length + 1) cap2) j → w.heap.size ≤ j from fun j hj => by
        rcases hs2 j hj with h | h
        · exact HFR.out j h
        · have h' := h
          try simp only [World.size_alloc] at h'
          have := HW.out.size
          omega)
      clear ho2 hg2 hs2 hw2 hown
      go_wp2
      go_ret
      exact ⟨_, rfl, HO2.out, HF2.out, HW2.out⟩

theorem nine_places (l : List Rx.It) (bs : List Bool) (n m : Nat) (ao bo : Option Addr) (c1 c2 : Nat) (w : World) (hl : AtL w ao (itCells l)) (hbl : AtL w bo (bls bs)) (hn : l.length = n) (hm : bs.length = m) (hnm : m = n) (hf : Rx.Fair l) (h : n ≤ 5000) :
    Calls Try.prog 18 #[.slice ao n c1, .slice bo m c2] w fun e w' => ∃ v', e = .returned v' ∧ w'.ownsRow 0 3 1 v' (n + 1) (ints (Rx.pl 0 l bs)) ∧ (∀ k, inRow v' k → w.heap.size ≤ k) ∧ Below w.heap.size w w' := by
  subst hnm hn
  exact nine_places_any l bs ao bo c1 c2 w (AtIt.of hl) hbl hm hf h
set_option maxHeartbeats 400000 in
theorem nine_places_none (n m : Nat) (ao bo : Option Addr) (c1 c2 : Nat) (w : World) (h : m ≠ n) :
    Calls Try.prog 18 #[.slice ao n c1, .slice bo m c2] w fun e w' => e = .returned (.slice none 0 0) ∧ Below w.heap.size w w' := by
  have hne : ((m : Int) != (n : Int)) = true := by rw [bne_iff_ne]; omega
  clear h
  go_enter Try.func18, Try.ntmps18
  go_wp2
  go_ret
  exact ⟨rfl, Below.refl _ _⟩

theorem any_or' (p q : Rx.It → Bool) (l : List Rx.It) : l.any (fun x => p x || q x) = (l.any p || l.any q) := by
  induction l with
  | nil => rfl
  | cons x l ih => simp only [List.any_cons, ih]; cases p x <;> cases q x <;> cases l.any p <;> cases l.any q <;> rfl
def badIt (n : Nat) (x : Rx.It) : Bool := badSize x || badTo n x
theorem fair_bad (l : List Rx.It) : fairB l = !l.any (badIt l.length) := by
  rw [show badIt l.length = fun x => badSize x || badTo l.length x from rfl, any_or', fairB]
  cases l.any badSize <;> cases l.any (badTo l.length) <;> rfl

set_option maxHeartbeats 2000000 in
theorem nine_valid_any (l : List Rx.It) (ao : Option Addr) (c1 : Nat) (w : World) (hl : AtIt w ao l) (h : l.length ≤ 4096) :
    Calls Try.prog 16 #[.slice ao l.length c1] w fun e w' => e = .returned (.bool (fairB l)) ∧ Below w.heap.size w w' := by
  have HL := Lib.hid hl
  have h2 : ¬ (4096 : Int) < (l.length : Int) := by omega
  clear hl
  go_enter Try.func16, Try.ntmps16
  go_wp2_with fail
  go_loopw [3] (fun i wr => NoneTo (badIt l.length) l w i wr) (fun i _ => l.length - (intOf i).toNat)
  case atStart => exact ⟨0, Nat.zero_le _, rfl, rfl, Below.refl _ _⟩
  case round =>
    obtain ⟨k, hk, rfl, hno, hbw⟩ := hrel
    have HNO := Lib.hid hno
    have HW := Lib.hid hbw
    clear hno hbw
    by_cases hlt : k < l.length
    · obtain ⟨b, off, rfl, -, x0, x1, x2⟩ := (HL.out.mono HW.out) k hlt
      have hki : (k : Int) < (l.length : Int) := by omega
      have HBAD : Hid (badIt l.length (l.getD k default) = true → fairB l = false) := Lib.hid fun hb => by rw [fair_bad, any_of_getD _ l k hlt hb]; rfl
      have HOK : Hid (badIt l.length (l.getD k default) = false → (l.take (k + 1)).any (badIt l.length) = false) := Lib.hid fun hb => by rw [any_take_succ _ l k hlt, HNO.out, hb]; rfl
      obtain ⟨x, hx⟩ : ∃ x, l.getD k default = x := ⟨_, rfl⟩
      rw [hx] at x0 x1 x2 HBAD HOK
      clear hx
      obtain ⟨s, t, r⟩ := x
      by_cases h0 : s < 0
      · go_wp2
        go_ret
        exact ⟨ret_bool (by rw [HBAD.out (by simp [badIt, badSize, badTo]; omega)]), HW.out⟩
      · by_cases h1 : 2048 < s
        · go_wp2
          go_ret
          exact ⟨ret_bool (by rw [HBAD.out (by simp [badIt, badSize, badTo]; omega)]), HW.out⟩
        · cases r
          · go_wp2
            go_roundw
            case rel => exact ⟨k + 1, by omega, by go_num, HOK.out (by simp [badIt, badSize, badTo]; omega), HW.out⟩
            case measure => simp [intOf]; omega
          · by_cases h3 : t < 0
            · go_wp2
              go_ret
              exact ⟨ret_bool (by rw [HBAD.out (by simp [badIt, badSize, badTo]; omega)]), HW.out⟩
            · by_cases h4 : (l.length : Int) < t
              · go_wp2
                go_ret
                exact ⟨ret_bool (by rw [HBAD.out (by simp [badIt, badSize, badTo]; omega)]), HW.out⟩
              · go_wp2
                go_roundw
                case rel => exact ⟨k + 1, by omega, by go_num, HOK.out (by simp [badIt, badSize, badTo]; omega), HW.out⟩
                case measure => simp [intOf]; omega
    · obtain rfl : k = l.length := by omega
      have HALL : Hid (fairB l = true) := Lib.hid (by rw [fair_bad, ← List.take_length (l := l), List.length_take, Nat.min_self, HNO.out]; rfl)
      go_wp2
      go_ret
      exact ⟨ret_bool (by rw [HALL.out]), HW.out⟩
theorem nine_valid (l : List Rx.It) (n : Nat) (ao : Option Addr) (c1 : Nat) (w : World) (hl : AtL w ao (itCells l)) (hn : l.length = n) (h : n ≤ 4096) :
    Calls Try.prog 16 #[.slice ao n c1] w fun e w' => e = .returned (.bool (fairB l)) ∧ Below w.heap.size w w' := by
  subst hn
  exact nine_valid_any l ao c1 w (AtIt.of hl) h
end Go.Proofs.Ytakhpibolhijoaa
