/-
  facaderef9: ValidImage, Pages, Quota, bits, CPU.
-/
import Derived.Test.YtehmpdgpjpifoaaDoorLdBare2
import Derived.Test.YtehmpdgpjpifoaaDoorWkr
namespace Go.Proofs.YtehmpdgpjpifoaaDoor
open Go.RowKit

theorem validC_five (e : Int) (d c : Nat) : ((2048 : Int) < (d : Int) ∧ validC e d c = 104) ∨ (¬ (2048 : Int) < (d : Int) ∧ (2048 : Int) < (c : Int) ∧ validC e d c = 104) ∨ (¬ (2048 : Int) < (d : Int) ∧ ¬ (2048 : Int) < (c : Int) ∧ e < 2048 ∧ validC e d c = 103) ∨ (¬ (2048 : Int) < (d : Int) ∧ ¬ (2048 : Int) < (c : Int) ∧ ¬ e < 2048 ∧ 2048 + (c : Int) ≤ e ∧ validC e d c = 103) ∨ (¬ (2048 : Int) < (d : Int) ∧ ¬ (2048 : Int) < (c : Int) ∧ ¬ e < 2048 ∧ ¬ 2048 + (c : Int) ≤ e ∧ validC e d c = 0) := by
  unfold validC
  by_cases h1 : 2048 < d ∨ 2048 < c
  · rw [if_pos h1]
    rcases h1 with h1 | h1
    · exact .inl ⟨by omega, rfl⟩
    · by_cases h2 : 2048 < d
      · exact .inl ⟨by omega, rfl⟩
      · exact .inr (.inl ⟨by omega, by omega, rfl⟩)
  · rw [if_neg h1]
    by_cases h2 : e < 2048 ∨ 2048 + (c : Int) ≤ e
    · rw [if_pos h2]
      by_cases h3 : e < 2048
      · exact .inr (.inr (.inl ⟨by omega, by omega, h3, rfl⟩))
      · exact .inr (.inr (.inr (.inl ⟨by omega, by omega, h3, by omega, rfl⟩)))
    · rw [if_neg h2]
      exact .inr (.inr (.inr (.inr ⟨by omega, by omega, by omega, by omega, rfl⟩)))
set_option maxRecDepth 100000 in
set_option maxHeartbeats 1600000 in
theorem rvalid_any (e : Int) (a1 a2 : Option Addr) (d c k1 k2 : Nat) (rv pv sv : Value) (w : World) (he : 0 ≤ e ∧ e ≤ 4294967295) (hc : c ≤ 1000000) :
    Calls Tryd.prog 19 #[.agg #[.int .u32 e, .slice a1 d k1, .slice a2 c k2, rv, pv, sv]] w fun x w' => x = .returned (.int .i64 (validC e d c)) ∧ Below w.heap.size w w' := by
  have HB := Lib.hid (show Below w.heap.size w (w.alloc (.cells #[.int .u32 e, .slice a1 d k1, .slice a2 c k2, rv, pv, sv] 28)) from (Below.refl _ _).alloc (Nat.le_refl _) _)
  have w1 := IntWalk.i64_in e (by omega)
  have w2 := IntWalk.i64_in (2048 + (c : Int)) (by omega)
  rcases validC_five e d c with ⟨h1, hv⟩ | ⟨h1, h2, hv⟩ | ⟨h1, h2, h3, hv⟩ | ⟨h1, h2, h3, h4, hv⟩ | ⟨h1, h2, h3, h4, hv⟩
  all_goals
    rw [hv]
    clear hv
    go_enter Tryd.func19, Tryd.ntmps19
    go_wp2
    go_ret
    exact ⟨rfl, HB.out⟩

theorem wrap64_nat (n : Nat) (h : n ≤ 100000000) : wrap64 (n : Int) = (n : Int) := IntWalk.wrap64_in (n : Int) (by omega)
set_option maxRecDepth 100000 in
set_option maxHeartbeats 1600000 in
theorem rpages_any (e : Int) (a1 a2 : Option Addr) (d c k1 k2 : Nat) (rv pv sv : Value) (w : World) (hd : d ≤ 100000) (hc : c ≤ 100000) :
    Calls Tryd.prog 20 #[.agg #[.int .u32 e, .slice a1 d k1, .slice a2 c k2, rv, pv, sv]] w fun x w' => x = .returned (.tuple #[.int .i64 ((pg d : Nat) : Int), .int .i64 ((pg c : Nat) : Int)]) ∧ Below w.heap.size w w' := by
  have HB := Lib.hid (show Below w.heap.size w (w.alloc (.cells #[.int .u32 e, .slice a1 d k1, .slice a2 c k2, rv, pv, sv] 28)) from (Below.refl _ _).alloc (Nat.le_refl _) _)
  have w1 := IntWalk.i64_in ((d : Int) + 16) (by omega)
  have w2 := IntWalk.i64_in ((d : Int) + 16 - 1) (by omega)
  have w3 := IntWalk.i64_in ((c : Int) + 16) (by omega)
  have w4 := IntWalk.i64_in ((c : Int) + 16 - 1) (by omega)
  have E1 : Hid (wrap64 (((d : Int) + 16 - 1).tdiv 16) = ((pg d : Nat) : Int)) := Lib.hid (by rw [Int.tdiv_eq_ediv_of_nonneg (by omega), show ((d : Int) + 16 - 1) / 16 = ((pg d : Nat) : Int) by unfold pg; omega]; exact wrap64_nat _ (by unfold pg; omega))
  have E2 : Hid (wrap64 (((c : Int) + 16 - 1).tdiv 16) = ((pg c : Nat) : Int)) := Lib.hid (by rw [Int.tdiv_eq_ediv_of_nonneg (by omega), show ((c : Int) + 16 - 1) / 16 = ((pg c : Nat) : Int) by unfold pg; omega]; exact wrap64_nat _ (by unfold pg; omega))
  clear hd hc
  go_enter Tryd.func20, Tryd.ntmps20
  go_wp2_with fail
  go_quiet (fail)
  go_wp2
  go_ret2
  refine ⟨?_, below_drewN HB.out _⟩
  rw [← E1.out, ← E2.out]
  rfl

set_option maxRecDepth 100000 in
set_option maxHeartbeats 1600000 in
theorem rquota_any (e : Int) (a1 a2 : Option Addr) (d c k1 k2 : Nat) (rv pv sv : Value) (w : World) (hd : d ≤ 100000) (hc : c ≤ 100000) :
    Calls Tryd.prog 24 #[.agg #[.int .u32 e, .slice a1 d k1, .slice a2 c k2, rv, pv, sv]] w fun x w' => x = .returned (.int .i64 (17 + ((pg d : Nat) : Int))) ∧ Below w.heap.size w w' := by
  have HB := Lib.hid (show Below w.heap.size w (w.alloc (.cells #[.int .u32 e, .slice a1 d k1, .slice a2 c k2, rv, pv, sv] 28)) from (Below.refl _ _).alloc (Nat.le_refl _) _)
  have HP := Lib.hid (fun wx => rpages_any e a1 a2 d c k1 k2 rv pv sv wx hd hc)
  have hp : pg d ≤ 100000 := by unfold pg; omega
  have w1 := IntWalk.i64_in (17 + ((pg d : Nat) : Int)) (by omega)
  clear hd hc hp
  go_enter Tryd.func24, Tryd.ntmps24
  go_wp2_with fail
  refine (HP.out _).mono ?_
  rintro x w1 ⟨rfl, hb1⟩
  have HB1 := Lib.hid (HB.out.trans (hb1.mono HB.out.size))
  clear hb1
  go_wp2
  go_ret
  exact ⟨rfl, HB1.out⟩

theorem bitsA_there (f : Int) (wr : Bool) (h : 0 ≤ f ∧ f < 1024) : bitsA ⟨f, true, wr, true⟩ = (entW f true wr true, true) := by
  unfold bitsA
  rw [if_pos ((entOkB_iff _ _ _ _).2 ⟨h.1, h.2, fun h => by cases h⟩)]
set_option maxRecDepth 100000 in
set_option maxHeartbeats 1600000 in
theorem rbits9_any (f : Int) (wr : Bool) (w : World) (h : 0 ≤ f ∧ f < 1024) :
    Calls Tryd.prog 41 #[.int .i64 f, .bool wr] w fun x w' => x = .returned (.int .u32 (entW f true wr true)) ∧ Below w.heap.size w w' := by
  have hb : Calls Tryd.prog 58 #[.agg #[.int .i64 f, .bool true, .bool wr, .bool true]] w fun x w' => x = .returned (.tuple #[.int .u32 (entW f true wr true), .bool true]) ∧ Below w.heap.size w w' := by
    have := rbits_any ⟨f, true, wr, true⟩ w
    rw [bitsA_there f wr h] at this
    exact this
  have HB := Lib.hid hb
  obtain ⟨E, hE⟩ : ∃ E, entW f true wr true = E := ⟨_, rfl⟩
  rw [hE] at HB ⊢
  clear hb h hE
  go_enter Tryd.func41, Tryd.ntmps41
  go_wp2_with fail
  refine HB.out.mono ?_
  rintro x w1 ⟨rfl, hb1⟩
  have HB1 := Lib.hid hb1
  clear hb1
  go_wp2
  go_ret
  exact ⟨rfl, HB1.out⟩

set_option maxRecDepth 100000 in
set_option maxHeartbeats 3200000 in
theorem rcpu_any (e : Int) (a1 a2 : Option Addr) (d c k1 k2 : Nat) (rv pv sv : Value) (q0 q Q : Int) (w : World) (hd : d ≤ 100000) (hc : c ≤ 100000) (hq : IntKind.u32.wrap q0 = q) (hQ : (17 : Int) + ((pg d : Nat) : Int) = Q) :
    Calls Tryd.prog 28 #[.agg #[.int .u32 e, .slice a1 d k1, .slice a2 c k2, rv, pv, sv], .int .i64 q0] w fun x w' => x = .returned (.agg (cpuCells (ldC e q Q))) ∧ Below w.heap.size w w' := by
  have HQT := Lib.hid (fun wx => rquota_any e a1 a2 d c k1 k2 rv pv sv wx hd hc)
  have hpg : pg d ≤ 100000 := by unfold pg; omega
  have hwQ := IntWalk.u32_in Q (by omega)
  rw [hQ] at HQT
  clear hd hc hQ hpg
  have ho1 : allOne #[.int .u32 0, .int .u32 0, .int .u32 0, .int .u32 0, .int .u32 0, .int .u32 0, .int .u32 0, .int .u32 0, .int .u32 0, .int .u32 0, .int .u32 0, .int .u32 0, .int .u32 0, .int .u32 0, .int .u32 0, .int .u32 0, .int .u32 e, .bool false, .bool false, .int .u32 0, .int .u32 0, .int .u32 0, .int .u32 0] = true := by simp [allOne, Value.oneCell']
  have ho2 : allOne #[.int .u32 0, .int .u32 q, .int .u32 Q, .int .u32 0, .int .u32 0, .int .u32 0, .int .u32 0, .int .u32 0, .int .u32 0, .int .u32 0, .int .u32 0, .int .u32 0, .int .u32 0, .int .u32 0, .int .u32 0, .int .u32 0, .int .u32 e, .bool false, .bool false, .int .u32 0, .int .u32 0, .int .u32 0, .int .u32 0] = true := by simp [allOne, Value.oneCell']
  obtain ⟨W2, hW2⟩ : ∃ W2, W2 = ((w.alloc (.cells #[.int .u32 e, .slice a1 d k1, .slice a2 c k2, rv, pv, sv] 28)).alloc (.cells #[.int .u32 0, .int .u32 0, .int .u32 0, .int .u32 0, .int .u32 0, .int .u32 0, .int .u32 0, .int .u32 0, .int .u32 0, .int .u32 0, .int .u32 0, .int .u32 0, .int .u32 0, .int .u32 0, .int .u32 0, .int .u32 0, .int .u32 0, .bool false, .bool false, .int .u32 0, .int .u32 0, .int .u32 0, .int .u32 0] 59)).alloc (.cells #[.int .u32 0, .int .u32 0, .int .u32 0, .int .u32 0, .int .u32 0, .int .u32 0, .int .u32 0, .int .u32 0, .int .u32 0, .int .u32 0, .int .u32 0, .int .u32 0, .int .u32 0, .int .u32 0, .int .u32 0, .int .u32 0, .int .u32 e, .bool false, .bool false, .int .u32 0, .int .u32 0, .int .u32 0, .int .u32 0] 59) := ⟨_, rfl⟩
  have hk20 : W2.heap[w.heap.size + 1 + 1]? = some (.cells #[.int .u32 0, .int .u32 0, .int .u32 0, .int .u32 0, .int .u32 0, .int .u32 0, .int .u32 0, .int .u32 0, .int .u32 0, .int .u32 0, .int .u32 0, .int .u32 0, .int .u32 0, .int .u32 0, .int .u32 0, .int .u32 0, .int .u32 e, .bool false, .bool false, .int .u32 0, .int .u32 0, .int .u32 0, .int .u32 0] 59 (0, 0)) := by
    have := blk_new ((w.alloc (.cells #[.int .u32 e, .slice a1 d k1, .slice a2 c k2, rv, pv, sv] 28)).alloc (.cells #[.int .u32 0, .int .u32 0, .int .u32 0, .int .u32 0, .int .u32 0, .int .u32 0, .int .u32 0, .int .u32 0, .int .u32 0, .int .u32 0, .int .u32 0, .int .u32 0, .int .u32 0, .int .u32 0, .int .u32 0, .int .u32 0, .int .u32 0, .bool false, .bool false, .int .u32 0, .int .u32 0, .int .u32 0, .int .u32 0] 59)) (.cells #[.int .u32 0, .int .u32 0, .int .u32 0, .int .u32 0, .int .u32 0, .int .u32 0, .int .u32 0, .int .u32 0, .int .u32 0, .int .u32 0, .int .u32 0, .int .u32 0, .int .u32 0, .int .u32 0, .int .u32 0, .int .u32 0, .int .u32 e, .bool false, .bool false, .int .u32 0, .int .u32 0, .int .u32 0, .int .u32 0] 59)
    rw [hW2]
    simpa using this
  have hk10 : W2.heap[w.heap.size + 1]? = some (.cells #[.int .u32 0, .int .u32 0, .int .u32 0, .int .u32 0, .int .u32 0, .int .u32 0, .int .u32 0, .int .u32 0, .int .u32 0, .int .u32 0, .int .u32 0, .int .u32 0, .int .u32 0, .int .u32 0, .int .u32 0, .int .u32 0, .int .u32 0, .bool false, .bool false, .int .u32 0, .int .u32 0, .int .u32 0, .int .u32 0] 59 (0, 0)) := by
    have := blk_old (blk_new (w.alloc (.cells #[.int .u32 e, .slice a1 d k1, .slice a2 c k2, rv, pv, sv] 28)) (.cells #[.int .u32 0, .int .u32 0, .int .u32 0, .int .u32 0, .int .u32 0, .int .u32 0, .int .u32 0, .int .u32 0, .int .u32 0, .int .u32 0, .int .u32 0, .int .u32 0, .int .u32 0, .int .u32 0, .int .u32 0, .int .u32 0, .int .u32 0, .bool false, .bool false, .int .u32 0, .int .u32 0, .int .u32 0, .int .u32 0] 59)) (.cells #[.int .u32 0, .int .u32 0, .int .u32 0, .int .u32 0, .int .u32 0, .int .u32 0, .int .u32 0, .int .u32 0, .int .u32 0, .int .u32 0, .int .u32 0, .int .u32 0, .int .u32 0, .int .u32 0, .int .u32 0, .int .u32 0, .int .u32 e, .bool false, .bool false, .int .u32 0, .int .u32 0, .int .u32 0, .int .u32 0] 59)
    rw [hW2]
    simpa using this
  have hk00 : W2.heap[w.heap.size]? = some (.cells #[.int .u32 e, .slice a1 d k1, .slice a2 c k2, rv, pv, sv] 28 (0, 0)) := by
    have := blk_old (blk_old (blk_new w (.cells #[.int .u32 e, .slice a1 d k1, .slice a2 c k2, rv, pv, sv] 28)) (.cells #[.int .u32 0, .int .u32 0, .int .u32 0, .int .u32 0, .int .u32 0, .int .u32 0, .int .u32 0, .int .u32 0, .int .u32 0, .int .u32 0, .int .u32 0, .int .u32 0, .int .u32 0, .int .u32 0, .int .u32 0, .int .u32 0, .int .u32 0, .bool false, .bool false, .int .u32 0, .int .u32 0, .int .u32 0, .int .u32 0] 59)) (.cells #[.int .u32 0, .int .u32 0, .int .u32 0, .int .u32 0, .int .u32 0, .int .u32 0, .int .u32 0, .int .u32 0, .int .u32 0, .int .u32 0, .int .u32 0, .int .u32 0, .int .u32 0, .int .u32 0, .int .u32 0, .int .u32 0, .int .u32 e, .bool false, .bool false, .int .u32 0, .int .u32 0, .int .u32 0, .int .u32 0] 59)
    rw [hW2]
    simpa using this
  have hs2 : W2.heap.size = w.heap.size + 1 + 1 + 1 := by rw [hW2]; simp
  have hbw : Below w.heap.size w W2 := by
    rw [hW2]
    exact (((Below.refl _ _).alloc (Nat.le_refl _) _).alloc (by simp) _).alloc (by simp <;> omega) _
  have HBW := Lib.hid hbw
  have HK20 := Lib.hid hk20
  have HK10 := Lib.hid hk10
  have HK00 := Lib.hid hk00
  have HS2 := Lib.hid hs2
  have HW2 := Lib.hid hW2
  have z1 := blk_cell hk20 1
  have f1 := blk_free hk20 1
  have c0 := blk_cell hk00 0
  have c1 := blk_cell hk00 1
  have c2 := blk_cell hk00 2
  have c3 := blk_cell hk00 3
  have c4 := blk_cell hk00 4
  have c5 := blk_cell hk00 5
  have HP2 : Hid ((W2.setCell ⟨w.heap.size + 1 + 1, 1, none⟩ (.int .u32 q)).heap[w.heap.size + 1 + 1]? = some (.cells #[.int .u32 0, .int .u32 q, .int .u32 0, .int .u32 0, .int .u32 0, .int .u32 0, .int .u32 0, .int .u32 0, .int .u32 0, .int .u32 0, .int .u32 0, .int .u32 0, .int .u32 0, .int .u32 0, .int .u32 0, .int .u32 0, .int .u32 e, .bool false, .bool false, .int .u32 0, .int .u32 0, .int .u32 0, .int .u32 0] 59 (0, 0))) := Lib.hid (by have := blk_put hk20 1 (.int .u32 q); simpa using this)
  have HP1 : Hid ((W2.setCell ⟨w.heap.size + 1 + 1, 1, none⟩ (.int .u32 q)).heap[w.heap.size + 1]? = some (.cells #[.int .u32 0, .int .u32 0, .int .u32 0, .int .u32 0, .int .u32 0, .int .u32 0, .int .u32 0, .int .u32 0, .int .u32 0, .int .u32 0, .int .u32 0, .int .u32 0, .int .u32 0, .int .u32 0, .int .u32 0, .int .u32 0, .int .u32 0, .bool false, .bool false, .int .u32 0, .int .u32 0, .int .u32 0, .int .u32 0] 59 (0, 0))) := Lib.hid (blk_set hk10 (by show ¬ w.heap.size + 1 = w.heap.size + 1 + 1; omega) _)
  have HSP : Hid ((W2.setCell ⟨w.heap.size + 1 + 1, 1, none⟩ (.int .u32 q)).heap.size = w.heap.size + 1 + 1 + 1) := Lib.hid (by simp [hs2])
  have HBP : Hid (Below w.heap.size w (W2.setCell ⟨w.heap.size + 1 + 1, 1, none⟩ (.int .u32 q))) := Lib.hid (hbw.setCell (p := ⟨w.heap.size + 1 + 1, 1, none⟩) (by show w.heap.size ≤ w.heap.size + 1 + 1; omega) _)
  clear hk20 hk10 hk00 hs2 hW2 hbw
  go_enter Tryd.func28, Tryd.ntmps28
  go_wp2_with (rw [← HW2.out])
  refine (HQT.out _).mono ?_
  rintro x w1 ⟨rfl, hb1⟩
  have hk2 : w1.heap[w.heap.size + 1 + 1]? = some (.cells #[.int .u32 0, .int .u32 q, .int .u32 0, .int .u32 0, .int .u32 0, .int .u32 0, .int .u32 0, .int .u32 0, .int .u32 0, .int .u32 0, .int .u32 0, .int .u32 0, .int .u32 0, .int .u32 0, .int .u32 0, .int .u32 0, .int .u32 e, .bool false, .bool false, .int .u32 0, .int .u32 0, .int .u32 0, .int .u32 0] 59 (0, 0)) := by
    rw [hb1.block _ (by rw [HSP.out]; omega)]
    exact HP2.out
  have hk1 : w1.heap[w.heap.size + 1]? = some (.cells #[.int .u32 0, .int .u32 0, .int .u32 0, .int .u32 0, .int .u32 0, .int .u32 0, .int .u32 0, .int .u32 0, .int .u32 0, .int .u32 0, .int .u32 0, .int .u32 0, .int .u32 0, .int .u32 0, .int .u32 0, .int .u32 0, .int .u32 0, .bool false, .bool false, .int .u32 0, .int .u32 0, .int .u32 0, .int .u32 0] 59 (0, 0)) := by
    rw [hb1.block _ (by rw [HSP.out]; omega)]
    exact HP1.out
  have HB1 : Hid (Below w.heap.size w w1) := Lib.hid (HBP.out.trans (hb1.mono (by rw [HSP.out]; omega)))
  have HK1 := Lib.hid hk1
  have f2 := blk_free hk2 2
  have z2 := blk_cell hk2 2
  have r1 := row?_of hk1
  have r2 := row?_of hk2
  have l1 := blk_lt hk1
  have l2 := blk_lt hk2
  clear hb1 hk1 hk2 z1 f1 c0 c1 c2 c3 c4 c5
  go_wp2
  have hks : (w1.setCell ⟨w.heap.size + 1 + 1, 2, none⟩ (.int .u32 Q)).heap[w.heap.size + 1]? = some (.cells #[.int .u32 0, .int .u32 0, .int .u32 0, .int .u32 0, .int .u32 0, .int .u32 0, .int .u32 0, .int .u32 0, .int .u32 0, .int .u32 0, .int .u32 0, .int .u32 0, .int .u32 0, .int .u32 0, .int .u32 0, .int .u32 0, .int .u32 0, .bool false, .bool false, .int .u32 0, .int .u32 0, .int .u32 0, .int .u32 0] 59 (0, 0)) := blk_set HK1.out (by show ¬ w.heap.size + 1 = w.heap.size + 1 + 1; omega) _
  have hkF := setRow_heap _ _ _ #[.int .u32 0, .int .u32 q, .int .u32 Q, .int .u32 0, .int .u32 0, .int .u32 0, .int .u32 0, .int .u32 0, .int .u32 0, .int .u32 0, .int .u32 0, .int .u32 0, .int .u32 0, .int .u32 0, .int .u32 0, .int .u32 0, .int .u32 e, .bool false, .bool false, .int .u32 0, .int .u32 0, .int .u32 0, .int .u32 0] _ _ hks
  have HBF : Hid (Below w.heap.size w ((w1.setCell ⟨w.heap.size + 1 + 1, 2, none⟩ (.int .u32 Q)).setRow (w.heap.size + 1) #[.int .u32 0, .int .u32 q, .int .u32 Q, .int .u32 0, .int .u32 0, .int .u32 0, .int .u32 0, .int .u32 0, .int .u32 0, .int .u32 0, .int .u32 0, .int .u32 0, .int .u32 0, .int .u32 0, .int .u32 0, .int .u32 0, .int .u32 e, .bool false, .bool false, .int .u32 0, .int .u32 0, .int .u32 0, .int .u32 0])) := Lib.hid (below_setRow (HB1.out.setCell (p := ⟨w.heap.size + 1 + 1, 2, none⟩) (by simp <;> omega) _) (by omega) _)
  generalize (w1.setCell ⟨w.heap.size + 1 + 1, 2, none⟩ (.int .u32 Q)).setRow (w.heap.size + 1) #[.int .u32 0, .int .u32 q, .int .u32 Q, .int .u32 0, .int .u32 0, .int .u32 0, .int .u32 0, .int .u32 0, .int .u32 0, .int .u32 0, .int .u32 0, .int .u32 0, .int .u32 0, .int .u32 0, .int .u32 0, .int .u32 0, .int .u32 e, .bool false, .bool false, .int .u32 0, .int .u32 0, .int .u32 0, .int .u32 0] = wF at hkF HBF ⊢
  have hrow : row? wF (w.heap.size + 1) = some (cpuCells (ldC e q Q)) := (row?_of hkF).trans (congrArg some (ldC_cells e q Q))
  exact bodyPost_ret (cpu_ret (c := ldC e q Q) rfl rfl hrow) rfl ⟨rfl, HBF.out⟩
end Go.Proofs.YtehmpdgpjpifoaaDoor
