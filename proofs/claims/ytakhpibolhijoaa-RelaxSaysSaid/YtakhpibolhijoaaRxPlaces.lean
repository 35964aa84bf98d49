/-
  relax.Places: where items begin.
-/
import Derived.Test.YtakhpibolhijoaaRxBase
namespace Go.Proofs.Ytakhpibolhijoaa
open Go.RowKit

theorem infoInt : (Try.prog.info? 3).map (fun i => (i.zero, i.size, i.bytes)) = some (some (.int .i64 0), 1, 8) := by kernel_rfl

theorem pl_small (l : List Rx.It) (bs : List Bool) (h : bs.length = l.length) (hf : Rx.Fair l) (hn : l.length ≤ 5000) : ∀ j, j < (Rx.pl 0 l bs).length → 0 ≤ (Rx.pl 0 l bs).getD j 0 ∧ (Rx.pl 0 l bs).getD j 0 ≤ 1000000000 := by
  intro j hj
  rw [Rx.pl_length 0 l bs h] at hj
  have := Rx.pl_bound l bs h hf j (by omega)
  omega

/-- the first k are told -/
def PlTo (l : List Rx.It) (bs : List Bool) (w : World) (a out i : Value) (wr : World) : Prop :=
  ∃ k : Nat, k ≤ l.length ∧ i = .int .i64 k ∧ a = .int .i64 ((Rx.pl 0 l bs).getD k 0) ∧ wr.ownsRow 0 3 1 out k (ints ((Rx.pl 0 l bs).take k)) ∧ (∀ j, inRow out j → w.heap.size ≤ j) ∧ Below w.heap.size w wr ∧ ∃ ao cap, out = .slice ao k cap

set_option maxHeartbeats 2000000 in
theorem places_any (l : List Rx.It) (bs : List Bool) (ao bo : Option Addr) (c1 c2 : Nat) (w : World) (hl : AtIt w ao l) (hbl : AtL w bo (bls bs)) (hlen : bs.length = l.length) (hf : Rx.Fair l) (hn : l.length ≤ 5000) :
    Calls Try.prog 12 #[.slice ao l.length c1, .slice bo bs.length c2] w fun e w' => ∃ v', e = .returned v' ∧ w'.ownsRow 0 3 1 v' (l.length + 1) (ints (Rx.pl 0 l bs)) ∧ (∀ k, inRow v' k → w.heap.size ≤ k) ∧ Below w.heap.size w w' := by
  obtain ⟨i0, hi, hz0, hz1, hz2⟩ := info_parts infoInt
  have HL := Lib.hid hl
  have HBL := Lib.hid hbl
  have HLEN := Lib.hid hlen
  have HF := Lib.hid hf
  rw [HLEN.out]
  clear hl hbl hlen hf
  go_enter Try.func12, Try.ntmps12
  go_wp2_with fail
  go_loopw [5, 6, 16] (fun a v i wr => PlTo l bs w a v i wr) (fun _ _ i _ => l.length - (intOf i).toNat)
  case atStart => exact ⟨0, Nat.zero_le _, rfl, by rw [Rx.pl_zero], own_nil _ _ _, fun j hj => by simp [inRow, Value.ownBlock] at hj, Below.refl _ _, _, _, rfl⟩
  case round =>
    obtain ⟨k, hk, rfl, rfl, hown, hfr, hbw, ao', cap', rfl⟩ := hrel
    have hpk := Rx.pl_bound l bs HLEN.out HF.out k hk
    have hpl : (Rx.pl 0 l bs).length = l.length + 1 := Rx.pl_length 0 l bs HLEN.out
    have hkp : k < (Rx.pl 0 l bs).length := by omega
    have e1 := Lib.hid (ints_take (Rx.pl 0 l bs) k hkp)
    obtain ⟨a, ha⟩ : ∃ a, (Rx.pl 0 l bs).getD k 0 = a := ⟨_, rfl⟩
    rw [ha] at hpk e1 ⊢
    have HA := Lib.hid ha
    have HO := Lib.hid hown
    have HFR := Lib.hid hfr
    have HW := Lib.hid hbw
    have HPL := Lib.hid hpl
    clear ha hfr hbw hpl hkp
    by_cases hlt : k < l.length
    · obtain ⟨b, off, rfl, -, x0, x1, x2⟩ := (HL.out.mono HW.out) k hlt
      obtain ⟨d, q, rfl, y00, hdl⟩ := HBL.out k _ (bls_get bs k (by rw [HLEN.out]; exact hlt))
      have y0 := (HW.out.cell (p := ⟨d, q + k, none⟩) hdl).trans y00
      clear y00
      have hsz := HF.out k hlt
      have hstep := Lib.hid (Rx.pl_succ 0 l bs k HLEN.out hlt)
      rw [HA.out] at hstep
      obtain ⟨s, hs⟩ : ∃ s, (l.getD k default).size = s := ⟨_, rfl⟩
      obtain ⟨t, ht⟩ : ∃ t, (l.getD k default).to_ = t := ⟨_, rfl⟩
      obtain ⟨r, hr⟩ : ∃ r, (l.getD k default).br = r := ⟨_, rfl⟩
      obtain ⟨g, hg⟩ : ∃ g, bs.getD k false = g := ⟨_, rfl⟩
      rw [hs] at x0 hsz hstep
      rw [ht] at x1
      rw [hr] at x2
      rw [hg] at y0 hstep
      have s0 := hsz.1
      have s1 := hsz.2.1
      clear hs ht hr hg hsz
      have hki : (k : Int) < (l.length : Int) := by omega
      have w1 := IntWalk.i64_in (a + s) (by omega)
      have w2 := IntWalk.i64_in (a + s + 1) (by omega)
      cases g
      all_goals
        go_wp2_with (at_builtin; refine wpList_append_sep _ rfl _ _ 30 rfl 3 i0 (.int .i64 0) 1 8 Try.underlying30 hi hz0 hz1 hz2 rfl (by decide) _ _ _ rfl ((HO.out.alloc _).alloc _) ⟨wr.heap.size + 1, 0, none⟩ 1 1 [.int .i64 a] rfl rfl (cell_one_new2 _ _ _ _) (by simp [Value.oneCell']) (by unfold maxLen; omega) (by omega) ?_)
        intro v' wx ho2 hg2 hs2
        obtain ⟨ao2, cap2, rfl⟩ := own_slice ho2
        rw [← e1.out] at ho2
        have hw2 : Below w.heap.size w wx := ((HW.out.alloc HW.out.size _).alloc (by have := HW.out.size; simp; omega) _).grown hg2 (by have := HW.out.size; simp; omega) (fun j hj => HFR.out j hj)
        have HO2 := Lib.hid ho2
        have HW2 := Lib.hid hw2
        have HF2 := Lib.hid (show ∀ j, inRow (.slice ao2 (k + 1) cap2) j → w.heap.size ≤ j from fun j hj => by
          rcases hs2 j hj with h | h
          · exact HFR.out j h
          · have h' := h
            try simp only [World.size_alloc] at h'
            have := HW.out.size
            omega)
        have hx2 := blk_grown (blk_old (blk_new wr (.cells #[.int .i64 s, .int .i64 t, .bool r] 29)) _) hg2 (fun h => by have := own_lt HO.out h; omega)
        have z0 := blk_cell hx2 0
        have y2 : wx.cell? ⟨d, q + k, none⟩ = _ := (HW2.out.cell (p := ⟨d, q + k, none⟩) hdl).trans ((HW.out.cell (p := ⟨d, q + k, none⟩) hdl).symm.trans y0)
        clear ho2 hg2 hs2 hw2 hown hx2
        go_wp2
        go_roundw
        case rel => exact ⟨k + 1, by omega, by go_num, by rw [hstep.out]; simp [Rx.one], HO2.out, HF2.out, HW2.out, _, _, rfl⟩
        case measure => simp [intOf]; omega
    · obtain rfl : k = l.length := by omega
      go_wp2_with (at_builtin; refine wpList_append_sep _ rfl _ _ 30 rfl 3 i0 (.int .i64 0) 1 8 Try.underlying30 hi hz0 hz1 hz2 rfl (by decide) _ _ _ rfl (HO.out.alloc _) ⟨wr.heap.size, 0, none⟩ 1 1 [.int .i64 a] rfl rfl (cell_one_new _ _ _) (by simp [Value.oneCell']) (by unfold maxLen; omega) (by omega) ?_)
      intro v' wx ho2 hg2 hs2
      obtain ⟨ao2, cap2, rfl⟩ := own_slice ho2
      rw [← e1.out, List.take_of_length_le (by rw [HPL.out]; exact Nat.le_refl _)] at ho2
      have hw2 : Below w.heap.size w wx := (HW.out.alloc HW.out.size _).grown hg2 (by have := HW.out.size; simp; omega) (fun j hj => HFR.out j hj)
      have HO2 := Lib.hid ho2
      have HW2 := Lib.hid hw2
      have HF2 := Lib.hid (show ∀ j, inRow (.slice ao2 (l.length + 1) cap2) j → w.heap.size ≤ j from fun j hj => by
        rcases hs2 j hj with h | h
        · exact HFR.out j h
        · have h' := h
          try simp only [World.size_alloc] at h'
          have := HW.out.size
          omega)
      clear ho2 hg2 hs2 hw2 hown
      go_wp2
      go_ret
      exact ⟨_, rfl, HO2.out, HF2.out, HW2.out⟩
end Go.Proofs.Ytakhpibolhijoaa
