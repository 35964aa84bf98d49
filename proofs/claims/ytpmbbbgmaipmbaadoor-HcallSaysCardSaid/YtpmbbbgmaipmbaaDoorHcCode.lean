/-
  hcall: the errors' numbers; the first check of chapter 25.
-/
import Derived.Test.YtpmbbbgmaipmbaaDoorErrIs
import Derived.Test.YtpmbbbgmaipmbaaDoorNumber
namespace Go.Proofs.YtpmbbbgmaipmbaaDoor
open Go.RowKit

set_option maxHeartbeats 400000 in
theorem hall_any (E : Nat → Addr) (w : World) (hE : ErrsAt errT gOf w E all16) :
    Calls Tryd.prog 49 #[] w fun e w' => e = .returned (.slice (some ⟨w.heap.size, 0, none⟩) 16 16) ∧ w' = w.alloc (.cells (errArr E) 27) := by
  have c0 : w.cell? ⟨5, 0, none⟩ = some (errV (E 0)) := (hE.1 0 (by decide)).1
  have c1 : w.cell? ⟨6, 0, none⟩ = some (errV (E 1)) := (hE.1 1 (by decide)).1
  have c2 : w.cell? ⟨1, 0, none⟩ = some (errV (E 2)) := (hE.1 2 (by decide)).1
  have c3 : w.cell? ⟨2, 0, none⟩ = some (errV (E 3)) := (hE.1 3 (by decide)).1
  have c4 : w.cell? ⟨7, 0, none⟩ = some (errV (E 4)) := (hE.1 4 (by decide)).1
  have c5 : w.cell? ⟨8, 0, none⟩ = some (errV (E 5)) := (hE.1 5 (by decide)).1
  have c6 : w.cell? ⟨3, 0, none⟩ = some (errV (E 6)) := (hE.1 6 (by decide)).1
  have c7 : w.cell? ⟨9, 0, none⟩ = some (errV (E 7)) := (hE.1 7 (by decide)).1
  have c8 : w.cell? ⟨10, 0, none⟩ = some (errV (E 8)) := (hE.1 8 (by decide)).1
  have c9 : w.cell? ⟨11, 0, none⟩ = some (errV (E 9)) := (hE.1 9 (by decide)).1
  have c10 : w.cell? ⟨12, 0, none⟩ = some (errV (E 10)) := (hE.1 10 (by decide)).1
  have c11 : w.cell? ⟨4, 0, none⟩ = some (errV (E 11)) := (hE.1 11 (by decide)).1
  have c12 : w.cell? ⟨0, 0, none⟩ = some (errV (E 12)) := (hE.1 12 (by decide)).1
  have c13 : w.cell? ⟨13, 0, none⟩ = some (errV (E 13)) := (hE.1 13 (by decide)).1
  have c14 : w.cell? ⟨14, 0, none⟩ = some (errV (E 14)) := (hE.1 14 (by decide)).1
  have c15 : w.cell? ⟨15, 0, none⟩ = some (errV (E 15)) := (hE.1 15 (by decide)).1
  clear hE
  go_enter Tryd.func49, Tryd.ntmps49
  go_wp2
  go_ret
  exact ⟨rfl, rfl⟩
/-- what the call makes, said on its world -/
theorem hall_at (E : Nat → Addr) (w : World) (hE : ErrsAt errT gOf w E all16) :
    Calls Tryd.prog 49 #[] w fun e w' => ∃ b, e = .returned (.slice (some ⟨b, 0, none⟩) 16 16) ∧ w'.heap[b]? = some (.cells (errArr E) 27 (0, 0)) ∧ Below w.heap.size w w' :=
  (hall_any E w hE).mono fun e w' ⟨he, hw⟩ => ⟨w.heap.size, he, by rw [hw]; exact blk_new _ _, by rw [hw]; exact (Below.refl _ _).alloc (Nat.le_refl _) _⟩
theorem hAll_at (E : Nat → Addr) (w : World) (hE : ErrsAt errT gOf w E all16) :
    Calls Tryd.prog 14 #[] w fun e w' => ∃ b, e = .returned (.slice (some ⟨b, 0, none⟩) 16 16) ∧ w'.heap[b]? = some (.cells (errArr E) 27 (0, 0)) ∧ Below w.heap.size w w' := by
  have HS := Lib.hid (sentinels_any E w hE)
  have HB : Hid (∀ w', w' = w.alloc (.cells (errArr E) 27) → w'.heap[w.heap.size]? = some (.cells (errArr E) 27 (0, 0)) ∧ Below w.heap.size w w') := Lib.hid fun w' hw => ⟨by rw [hw]; exact blk_new _ _, by rw [hw]; exact (Below.refl _ _).alloc (Nat.le_refl _) _⟩
  clear hE
  go_enter Tryd.func14, Tryd.ntmps14
  go_wp2_with fail
  refine HS.out.mono ?_
  rintro e w1 ⟨rfl, hw⟩
  have H := Lib.hid (HB.out w1 hw)
  clear hw
  go_wp2
  go_ret
  first
    | exact ⟨_, rfl, H.out.1, H.out.2⟩
    | exact ⟨w.heap.size, rfl, H.out.1, H.out.2⟩

/-- an error is sentinel k, as errors.Is has it, in any later world -/
def IsK (v : Value) (E : Nat → Addr) (k : Nat) (w : World) : Prop := ∀ wx, Below w.heap.size w wx → ∀ j, j ≤ k → Calls Tryd.prog 50 #[v, errV (E j)] wx fun e w' => e = .returned (.bool (decide (j = k))) ∧ wx = w'
theorem IsK.below {v : Value} {E : Nat → Addr} {k : Nat} {w w' : World} (h : IsK v E k w) (hb : Below w.heap.size w w') : IsK v E k w' := fun wx hx j hj => h wx (hb.trans (hx.mono hb.size)) j hj
theorem isK_bare (E : Nat → Addr) (k : Nat) (hk : k < 16) (w : World) (hE : ErrsAt errT gOf w E all16) : IsK (errV (E k)) E k w := fun wx hx j hj => by
  have hE' := hE.mono hx
  by_cases h : j = k
  · subst h
    rw [decide_eq_true rfl]
    exact eis_same _ _
  · rw [decide_eq_false h]
    exact eis_other _ _ _ (hE'.2 k (mem16 hk) j (mem16 (by omega)) (fun e => h e.symm)) (hE'.1 k (mem16 hk)).2 (hE'.1 j (mem16 (by omega))).2
theorem isK_at (E : Nat → Addr) (k p : Nat) (hk : k < 16) (w : World) (hE : ErrsAt errT gOf w E all16) (h1 : w.cell? ⟨p, 1, none⟩ = some (errV (E k))) : IsK (atV p) E k w := fun wx hx j hj => by
  have hE' := hE.mono hx
  have h1' : wx.cell? ⟨p, 1, none⟩ = some (errV (E k)) := (hx.cell (p := ⟨p, 1, none⟩) (World.block_lt_of_cell? w _ h1)).trans h1
  by_cases h : j = k
  · subst h
    rw [decide_eq_true rfl]
    exact eis_at_same _ _ _ h1'
  · rw [decide_eq_false h]
    exact eis_at_other _ _ _ _ h1' (hE'.2 k (mem16 hk) j (mem16 (by omega)) (fun e => h e.symm)) (hE'.1 k (mem16 hk)).2 (hE'.1 j (mem16 (by omega))).2
theorem isK_at2 (E : Nat → Addr) (k p q : Nat) (hk : k < 16) (w : World) (hE : ErrsAt errT gOf w E all16) (h1 : w.cell? ⟨p, 1, none⟩ = some (atV q)) (h2 : w.cell? ⟨q, 1, none⟩ = some (errV (E k))) : IsK (atV p) E k w := fun wx hx j hj => by
  have hE' := hE.mono hx
  have h1' : wx.cell? ⟨p, 1, none⟩ = some (atV q) := (hx.cell (p := ⟨p, 1, none⟩) (World.block_lt_of_cell? w _ h1)).trans h1
  have h2' : wx.cell? ⟨q, 1, none⟩ = some (errV (E k)) := (hx.cell (p := ⟨q, 1, none⟩) (World.block_lt_of_cell? w _ h2)).trans h2
  by_cases h : j = k
  · subst h
    rw [decide_eq_true rfl]
    exact eis_at2_same _ _ _ _ h1' h2'
  · rw [decide_eq_false h]
    exact eis_at2_other _ _ _ _ _ h1' h2' (hE'.2 k (mem16 hk) j (mem16 (by omega)) (fun e => h e.symm)) (hE'.1 k (mem16 hk)).2 (hE'.1 j (mem16 (by omega))).2

theorem code_nil (w : World) : Calls Tryd.prog 16 #[.nilIface] w fun e w' => e = .returned (.int .u32 0) ∧ w = w' := by
  go_enter Tryd.func16, Tryd.ntmps16
  go_wp2
  go_ret
  exact ⟨rfl, rfl⟩
set_option maxHeartbeats 800000 in
theorem code_any (E : Nat → Addr) (t : TypeId) (a : Addr) (k : Nat) (hk : k < 16) (w : World) (hE : ErrsAt errT gOf w E all16) (h : IsK (.iface t (.pointer (some a))) E k w) :
    Calls Tryd.prog 16 #[.iface t (.pointer (some a))] w fun e w' => e = .returned (.int .u32 ((k + 1 : Nat) : Int)) ∧ Below w.heap.size w w' := by
  have HA := Lib.hid (hall_at E w hE)
  have HK := Lib.hid h
  clear hE h
  go_enter Tryd.func16, Tryd.ntmps16
  go_wp2_with fail
  refine HA.out.mono ?_
  rintro e w1 ⟨b, rfl, hblk, hb1⟩
  have HB := Lib.hid hb1
  have HBK := Lib.hid hblk
  clear hb1 hblk
  go_wp2_with fail
  go_loop [9] (fun i => UpToN k i) (fun i => 16 - (intOf i).toNat)
  case atStart => exact ⟨0, Nat.zero_le _, rfl⟩
  case round =>
    obtain ⟨j, hj, rfl⟩ := hrel
    have cj := (blk_cell HBK.out j).trans (errArr_get E j (by omega))
    have hj16 : (j : Int) < 16 := by omega
    have HI := Lib.hid (HK.out w1 HB.out j hj)
    by_cases hlt : j < k
    · rw [decide_eq_false (show ¬ j = k by omega)] at HI
      go_wp2_with fail
      refine HI.out.mono ?_
      rintro e w2 ⟨rfl, rfl⟩
      go_wp2
      go_round
      case rel => exact ⟨j + 1, by omega, by go_num⟩
      case measure => simp [intOf]; omega
    · obtain rfl : j = k := by omega
      rw [decide_eq_true rfl] at HI
      have hw := IntWalk.u32_in ((j : Int) + 1) (by omega)
      go_wp2_with fail
      refine HI.out.mono ?_
      rintro e w2 ⟨rfl, rfl⟩
      go_wp2
      go_ret
      exact ⟨by simp, HB.out⟩
theorem hc_first (E : Nat → Addr) (w : World) (hE : ErrsAt errT gOf w E all16) : Calls Tryd.prog 13 #[] w fun e w' => e = .returned (.bool true) ∧ Below w.heap.size w w' := by
  have c : w.cell? ⟨0, 0, none⟩ = some (errV (E 12)) := (hE.1 12 (by decide)).1
  have HC := Lib.hid (code_any E errT (E 12) 12 (by decide) w hE (isK_bare E 12 (by decide) w hE))
  clear hE
  go_enter Tryd.func13, Tryd.ntmps13
  go_wp2_with fail
  refine HC.out.mono ?_
  rintro e w1 ⟨rfl, hb1⟩
  have HB := Lib.hid hb1
  clear hb1
  rw [show ((12 + 1 : Nat) : Int) = 13 from rfl]
  go_wp2_with fail
  refine (code_nil _).mono ?_
  rintro e w2 ⟨rfl, rfl⟩
  go_wp2
  go_ret
  exact ⟨rfl, HB.out⟩
set_option maxHeartbeats 800000 in
theorem herr_none (E : Nat → Addr) (w : World) (hE : ErrsAt errT gOf w E all16) : Calls Tryd.prog 15 #[.int .u32 0] w fun e w' => e = .returned (.tuple #[.nilIface, .bool true]) ∧ Below w.heap.size w w' := by
  have HA := Lib.hid (hall_at E w hE)
  clear hE
  go_enter Tryd.func15, Tryd.ntmps15
  go_wp2_with fail
  refine HA.out.mono ?_
  rintro e w1 ⟨b, rfl, hblk, hb1⟩
  have HB := Lib.hid hb1
  clear hb1 hblk
  go_wp2
  go_ret2
  exact ⟨rfl, HB.out⟩
set_option maxHeartbeats 800000 in
theorem herr_far (E : Nat → Addr) (c : Int) (w : World) (hE : ErrsAt errT gOf w E all16) (h : 16 < c) : Calls Tryd.prog 15 #[.int .u32 c] w fun e w' => e = .returned (.tuple #[.nilIface, .bool false]) ∧ Below w.heap.size w w' := by
  have HA := Lib.hid (hall_at E w hE)
  have h0 : (c == 0) = false := by simp; omega
  clear hE
  go_enter Tryd.func15, Tryd.ntmps15
  go_wp2_with fail
  refine HA.out.mono ?_
  rintro e w1 ⟨b, rfl, hblk, hb1⟩
  have HB := Lib.hid hb1
  clear hb1 hblk
  go_wp2
  go_ret2
  exact ⟨rfl, HB.out⟩
set_option maxHeartbeats 800000 in
theorem herr_some (E : Nat → Addr) (k : Nat) (hk : k < 16) (w : World) (hE : ErrsAt errT gOf w E all16) : Calls Tryd.prog 15 #[.int .u32 ((k : Int) + 1)] w fun e w' => e = .returned (.tuple #[errV (E k), .bool true]) ∧ Below w.heap.size w w' := by
  have HA := Lib.hid (hall_at E w hE)
  have h0 : ((k : Int) + 1 == 0) = false := by simp; omega
  have h1 : ¬ (16 : Int) < (k : Int) + 1 := by omega
  have hk' : (k : Int) < 16 := by omega
  have hw := IntWalk.u32_in (k : Int) (by omega)
  clear hE
  go_enter Tryd.func15, Tryd.ntmps15
  go_wp2_with fail
  refine HA.out.mono ?_
  rintro e w1 ⟨b, rfl, hblk, hb1⟩
  have HB := Lib.hid hb1
  have ck := (blk_cell hblk k).trans (errArr_get E k hk)
  clear hb1 hblk
  go_wp2
  go_ret2
  exact ⟨rfl, HB.out⟩
end Go.Proofs.YtpmbbbgmaipmbaaDoor
