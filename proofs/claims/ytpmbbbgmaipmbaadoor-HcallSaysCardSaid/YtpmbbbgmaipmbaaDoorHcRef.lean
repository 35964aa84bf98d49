/-
  facaderef16.OfCall, facaderef16.Batch; hcall.Words.
-/
import Derived.Test.YtpmbbbgmaipmbaaDoorHcWordsLaw
import Derived.Test.YtpmbbbgmaipmbaaDoorSeeAt
namespace Go.Proofs.YtpmbbbgmaipmbaaDoor
open Go.RowKit

set_option maxRecDepth 100000 in
set_option maxHeartbeats 4000000 in
theorem ofCall_any (num : Int) (r : List Int) (w : World) (h0 : 0 ≤ num) (hr : r.length = 16) : Calls Tryd.prog 37 #[.int .u32 num, .agg (rgc r)] w fun e w' => e = .returned (.tuple #[(ofL num r).1.v, .bool (ofL num r).2]) ∧ Below w.heap.size w w' := by
  obtain ⟨R, hR⟩ : ∃ R, ofL num r = R := ⟨_, rfl⟩
  have e1 := rgc_get r hr 1 (by decide)
  have e2 := rgc_get r hr 2 (by decide)
  have e3 := rgc_get r hr 3 (by decide)
  have e4 := rgc_get r hr 4 (by decide)
  have HUN : Hid (ofL num r = if 1 ≤ num ∧ num ≤ 15 then (cutL num (argN num) [r.getD 1 0, r.getD 2 0, r.getD 3 0, r.getD 4 0], true) else (⟨0, 0, 0, 0, 0⟩, false)) := Lib.hid rfl
  obtain ⟨x1, hx1⟩ : ∃ x, r.getD 1 0 = x := ⟨_, rfl⟩
  obtain ⟨x2, hx2⟩ : ∃ x, r.getD 2 0 = x := ⟨_, rfl⟩
  obtain ⟨x3, hx3⟩ : ∃ x, r.getD 3 0 = x := ⟨_, rfl⟩
  obtain ⟨x4, hx4⟩ : ∃ x, r.getD 4 0 = x := ⟨_, rfl⟩
  rw [hx1] at e1 HUN
  rw [hx2] at e2 HUN
  rw [hx3] at e3 HUN
  rw [hx4] at e4 HUN
  rw [hR] at HUN
  have hsz := rgc_size r hr
  obtain ⟨cs, hcs⟩ : ∃ cs, rgc r = cs := ⟨_, rfl⟩
  rw [hR]
  rw [hcs] at e1 e2 e3 e4 hsz ⊢
  clear hcs hx1 hx2 hx3 hx4 hR
  by_cases hin : 1 ≤ num ∧ num ≤ 15
  · have HR : Hid (R = (cutL num (argN num) [x1, x2, x3, x4], true)) := Lib.hid (by have := HUN.out; rw [if_pos hin] at this; exact this)
    have hn1 : ¬ num < 1 := by omega
    have hn2 : ¬ 15 < num := by omega
    have hw := IntWalk.i64_in num (by omega)
    have d1 : ((w.alloc (.cells cs 53)).alloc (.cells #[.int .i64 0, .int .u32 0, .int .u32 0, .int .u32 0, .int .u32 0] 61)).cell? ⟨w.heap.size, 1, none⟩ = some (.int .u32 x1) := (blk_cell (blk_old (blk_new w _) _) 1).trans e1
    have d2 : ((w.alloc (.cells cs 53)).alloc (.cells #[.int .i64 0, .int .u32 0, .int .u32 0, .int .u32 0, .int .u32 0] 61)).cell? ⟨w.heap.size, 2, none⟩ = some (.int .u32 x2) := (blk_cell (blk_old (blk_new w _) _) 2).trans e2
    have d3 : ((w.alloc (.cells cs 53)).alloc (.cells #[.int .i64 0, .int .u32 0, .int .u32 0, .int .u32 0, .int .u32 0] 61)).cell? ⟨w.heap.size, 3, none⟩ = some (.int .u32 x3) := (blk_cell (blk_old (blk_new w _) _) 3).trans e3
    have d4 : ((w.alloc (.cells cs 53)).alloc (.cells #[.int .i64 0, .int .u32 0, .int .u32 0, .int .u32 0, .int .u32 0] 61)).cell? ⟨w.heap.size, 4, none⟩ = some (.int .u32 x4) := (blk_cell (blk_old (blk_new w _) _) 4).trans e4
    have HCUT := Lib.hid (fun wx => cut_any num x1 x2 x3 x4 wx)
    obtain ⟨⟨y0, y1, y2, y3, y4⟩, hy⟩ : ∃ y, cutL num (argN num) [x1, x2, x3, x4] = y := ⟨_, rfl⟩
    rw [hy] at HR HCUT
    unfold Hc.v at HCUT
    dsimp only at HCUT
    clear HUN hin h0 hy
    go_enter Tryd.func37, Tryd.ntmps37
    go_wp2_with fail
    refine (HCUT.out _).mono ?_
    rintro e w2 ⟨rfl, hb2⟩
    have HB2 : Hid (Below (w.heap.size + 1 + 1) ((w.alloc (.cells cs 53)).alloc (.cells #[.int .i64 0, .int .u32 0, .int .u32 0, .int .u32 0, .int .u32 0] 61)) w2) := Lib.hid (by simpa using hb2)
    have hk2 : w2.heap[w.heap.size + 1]? = some (.cells #[.int .i64 0, .int .u32 0, .int .u32 0, .int .u32 0, .int .u32 0] 61 (0, 0)) := by
      rw [HB2.out.block _ (by omega)]
      have := blk_new (w.alloc (.cells cs 53)) (.cells #[.int .i64 0, .int .u32 0, .int .u32 0, .int .u32 0, .int .u32 0] 61)
      simpa using this
    have hlt2 := blk_lt hk2
    have z0 := blk_cell hk2 0
    have z1 := blk_cell hk2 1
    have z2 := blk_cell hk2 2
    have z3 := blk_cell hk2 3
    have z4 := blk_cell hk2 4
    have g0 := blk_free hk2 0
    have g1 := blk_free hk2 1
    have g2 := blk_free hk2 2
    have g3 := blk_free hk2 3
    have g4 := blk_free hk2 4
    have HBB : Hid (Below w.heap.size w w2) := Lib.hid ((((Below.refl _ _).alloc (Nat.le_refl _) _).alloc (by simp) _).trans (HB2.out.mono (by omega)))
    clear hb2 hk2 d1 d2 d3 d4
    go_wp2
    rw [HR.out]
    unfold Hc.v
    refine bodyPost_ret (v := .tuple #[.agg #[.int .i64 y0, .int .u32 y1, .int .u32 y2, .int .u32 y3, .int .u32 y4], .bool true]) (by simp [results, Tryd.results37, go_sem, hlt2, z0, z1, z2, z3, z4, g0, g1, g2, g3, g4]) rfl ⟨rfl, ?_⟩
    exact (((((HBB.out.setCell (by simp) _).setCell (by simp) _).setCell (by simp) _).setCell (by simp) _).setCell (by simp) _)
  · have HR : Hid (R = (⟨0, 0, 0, 0, 0⟩, false)) := Lib.hid (by have := HUN.out; rw [if_neg hin] at this; exact this)
    have hc : num = 0 ∨ (¬ num < 1 ∧ 15 < num) := by omega
    clear HUN hin e1 e2 e3 e4
    rcases hc with rfl | ⟨n1, n2⟩
    all_goals
      go_enter Tryd.func37, Tryd.ntmps37
      go_wp2
      rw [HR.out]
      unfold Hc.v
      refine bodyPost_ret (v := .tuple #[.agg #[.int .i64 0, .int .u32 0, .int .u32 0, .int .u32 0, .int .u32 0], .bool false]) (by simp [results, Tryd.results37, go_sem]) rfl ⟨rfl, ?_⟩
      repeat (first | exact Below.refl _ _ | refine Below.alloc ?_ (by first | (simp; done) | (simp; omega)) _ | refine Below.setCell ?_ (by first | (simp; done) | (simp; omega)) _)
end Go.Proofs.YtpmbbbgmaipmbaaDoor
