/-
  AluOne: its closure; what is reckoned of two words, plain.
-/
import Derived.Test.YtikioeddilgbpaaAlu8
import Derived.Test.YtikioeddilgbpaaAluOpen
import Derived.Test.YtikioeddilgbpaaHeld
import Derived.Test.YtikioeddilgbpaaBits
namespace Go.Proofs.Ytikioeddilgbpaa
open Go.RowKit

set_option linter.unusedSimpArgs false
theorem and15_n (a : Int) : ∃ n : Nat, n < 16 ∧ bits BinOp.and IntKind.i64 a 15 = (n : Int) := by
  have h : (BitVec.ofInt 64 a &&& BitVec.ofInt 64 15).toNat < 16 := by
    rw [BitVec.toNat_and]
    exact Nat.lt_of_le_of_lt Nat.and_le_right (by decide)
  obtain ⟨n, hn⟩ : ∃ n, (BitVec.ofInt 64 a &&& BitVec.ofInt 64 15).toNat = n := ⟨_, rfl⟩
  rw [hn] at h
  refine ⟨n, h, ?_⟩
  show IntKind.i64.wrap (((BitVec.ofInt 64 a &&& BitVec.ofInt 64 15).toNat : Nat) : Int) = _
  rw [hn]
  exact IntWalk.i64_in _ (by omega)
theorem fit_n (n : Nat) (h : n < 16) : fit (n : Int) 1 = true := by
  unfold fit
  rw [show most 1 = 15 from rfl, decide_eq_true (show (0 : Int) ≤ n by omega), decide_eq_true (show (n : Int) ≤ 15 by omega)]
  rfl
theorem getD_set' (r : List Int) (k : Nat) (x : Int) (h : k < r.length) : (r.set k x).getD k 0 = x := by simp [h]
theorem wrap_M (x : Int) : IntKind.u32.wrap x = x % 4294967296 := rfl
def CloTo (W : World) (i : Value) (wr : World) : Prop := ∃ k : Nat, k ≤ 16 ∧ i = .int .i64 k ∧ ∃ n, wr = W.drewN n
set_option maxRecDepth 100000 in
set_option maxHeartbeats 4000000 in
theorem clo_any (op : Int) (ia ib ic : Nat) (r : List Int) (x : Int) (hl : r.length = 16) (pa pb pc pr : Nat) (w : World) (HD : Hid (∀ wx, Calls Try.prog 10 #[insV ⟨op, ia, ib, ic, 0⟩, .agg (regCells r)] wx fun e w' => e = .returned (.tuple #[.agg (regCells (r.set ia x)), .bool true]) ∧ Below wx.heap.size wx w'))
    (ca : w.cell? ⟨pa, 0, none⟩ = some (.int .i64 ia)) (cb : w.cell? ⟨pb, 0, none⟩ = some (.int .i64 ib)) (cc : w.cell? ⟨pc, 0, none⟩ = some (.int .i64 ic)) (hr : w.heap[pr]? = some (.cells (regCells r) 24 (0, 0))) (hia : ia < 16) :
    Calls Try.prog 11 #[.int .i64 op, .pointer (some ⟨pa, 0, none⟩), .pointer (some ⟨pb, 0, none⟩), .pointer (some ⟨pc, 0, none⟩), .pointer (some ⟨pr, 0, none⟩)] w fun e w' => e = .returned (.int .u32 x) ∧ Below w.heap.size w w' := by
  have hrow := row?_of hr
  have hsz := regs_size r hl
  have hsz2 := regs_size (r.set ia x) (by rw [List.length_set]; exact hl)
  have HCA := Lib.hid ca
  have HR := Lib.hid hr
  have HL := Lib.hid hl
  have hpa : pa < w.heap.size := World.block_lt_of_cell? w _ ca
  have hpr : pr < w.heap.size := blk_lt hr
  have HIA := Lib.hid hia
  have hia0 : (0 : Int) ≤ (ia : Int) := by omega
  have hia1 : (ia : Int) < 16 := by omega
  clear hl hr hia
  go_enter Try.func11, Try.ntmps11
  go_wp2_with fail
  refine (HD.out _).mono ?_
  rintro e w1 ⟨rfl, hb1⟩
  have hs1 := hb1.size
  have HB1 := Lib.hid hb1
  have HK : Hid (∀ wx, Below (w1.alloc (.cells (regCells (r.set ia x)) 24)).heap.size (w1.alloc (.cells (regCells (r.set ia x)) 24)) wx → wx.cell? ⟨pa, 0, none⟩ = some (.int .i64 ia) ∧ (∀ i u, (regCells (r.set ia x))[i]? = some u → wx.cell? ⟨w1.heap.size, i, none⟩ = some u) ∧ (∀ i u, (regCells r)[i]? = some u → wx.cell? ⟨pr, i, none⟩ = some u)) := Lib.hid fun wx h => by
    have ha : Below w.heap.size w wx := (HB1.out.alloc HB1.out.size _).trans (h.mono (HB1.out.alloc HB1.out.size _).size)
    have e1 : wx.heap[w1.heap.size]? = _ := (h.block _ (by simp)).trans (blk_new w1 _)
    have e2 : wx.heap[pr]? = _ := (ha.block _ (blk_lt HR.out)).trans HR.out
    exact ⟨(ha.cell (p := ⟨pa, 0, none⟩) (World.block_lt_of_cell? w _ HCA.out)).trans HCA.out, fun i u hu => (blk_cell e1 i).trans hu, fun i u hu => (blk_cell e2 i).trans hu⟩
  have HZ : Hid (∀ n, Below (w1.alloc (.cells (regCells (r.set ia x)) 24)).heap.size (w1.alloc (.cells (regCells (r.set ia x)) 24)) ((w1.alloc (.cells (regCells (r.set ia x)) 24)).drewN n)) := Lib.hid fun n => below_drewN (Below.refl _ _) n
  have HF : Hid (∀ n, Below w.heap.size w ((w1.alloc (.cells (regCells (r.set ia x)) 24)).drewN n)) := Lib.hid fun n => below_drewN (HB1.out.alloc HB1.out.size _) n
  clear hb1 ca cb cc hrow
  go_wp2_with fail
  go_loopw [9] (fun i wr => CloTo (w1.alloc (.cells (regCells (r.set ia x)) 24)) i wr) (fun i _ => 16 - (intOf i).toNat)
  case atStart => exact ⟨0, Nat.zero_le _, rfl, 0, rfl⟩
  case round =>
    obtain ⟨k, hk, rfl, n, rfl⟩ := hrel
    by_cases hlt : k < 16
    · have hk0 : (0 : Int) ≤ (k : Int) := by omega
      have hk1 : (k : Int) < 16 := by omega
      have hbd : Below (w1.alloc (.cells (regCells (r.set ia x)) 24)).heap.size (w1.alloc (.cells (regCells (r.set ia x)) 24)) ((w1.alloc (.cells (regCells (r.set ia x)) 24)).drewN n).drew := (HZ.out n).drew
      by_cases hki : k = ia
      · have hne : ((k : Int) != (ia : Int)) = false := by rw [hki]; simp
        have HS : Hid (∀ wx, Below (w1.alloc (.cells (regCells (r.set ia x)) 24)).heap.size (w1.alloc (.cells (regCells (r.set ia x)) 24)) wx → Below (w1.alloc (.cells (regCells (r.set ia x)) 24)).heap.size (w1.alloc (.cells (regCells (r.set ia x)) 24)) wx ∧ wx.cell? ⟨pa, 0, none⟩ = some (.int .i64 ia)) := Lib.hid fun wx h => ⟨h, (HK.out wx h).1⟩
        clear hki
        go_wp2_with fail
        refine wp_region_noPanic ?_
        refine wp_region_held_drew (S := (fun wx => Below (w1.alloc (.cells (regCells (r.set ia x)) 24)).heap.size (w1.alloc (.cells (regCells (r.set ia x)) 24)) wx ∧ wx.cell? ⟨pa, 0, none⟩ = some (.int .i64 ia))) (by kernel_rfl) ?_ (fun hHeld => ?_)
        · exact HS.out _ hbd
        refine heldTake 0 (v := ?_) (by kernel_rfl) (by kernel_rfl) (by kernel_rfl) (by kernel_rfl) (fun _ _ _ _ _ h => h) (by assumption) (fun oi ho => by (simp only [List.getElem?_toArray, List.getElem?_cons_zero, List.getElem?_cons_succ, Option.some.injEq] at ho; subst ho); rfl) (fun oi ho => ?_) (fun oi ho => ?_)
        rotate_left
        · ((simp only [List.getElem?_toArray, List.getElem?_cons_zero, List.getElem?_cons_succ, Option.some.injEq] at ho; subst ho); intro wx hSx; (try dsimp only at hSx); go_simp; all_goals (with_reducible rfl))
        (simp only [List.getElem?_toArray, List.getElem?_cons_zero, List.getElem?_cons_succ, Option.some.injEq] at ho; subst ho)
        try simp only [Act.put, List.setIfInBounds_toArray, List.set_cons_zero, List.set_cons_succ]
        refine heldTake 1 (v := ?_) (by kernel_rfl) (by kernel_rfl) (by kernel_rfl) (by kernel_rfl) (fun _ _ _ _ _ h => h) (by assumption) (fun oi ho => by (simp only [List.getElem?_toArray, List.getElem?_cons_zero, List.getElem?_cons_succ, Option.some.injEq] at ho; subst ho); rfl) (fun oi ho => ?_) (fun oi ho => ?_)
        rotate_left
        · ((simp only [List.getElem?_toArray, List.getElem?_cons_zero, List.getElem?_cons_succ, Option.some.injEq] at ho; subst ho); intro wx hSx; (try dsimp only at hSx); go_simp; all_goals (with_reducible rfl))
        (simp only [List.getElem?_toArray, List.getElem?_cons_zero, List.getElem?_cons_succ, Option.some.injEq] at ho; subst ho)
        try simp only [Act.put, List.setIfInBounds_toArray, List.set_cons_zero, List.set_cons_succ]
        refine heldTake 2 (v := ?_) (by kernel_rfl) (by kernel_rfl) (by kernel_rfl) (by kernel_rfl) (fun _ _ _ _ _ h => h) (by assumption) (fun oi ho => by (simp only [List.getElem?_toArray, List.getElem?_cons_zero, List.getElem?_cons_succ, Option.some.injEq] at ho; subst ho); rfl) (fun oi ho => ?_) (fun oi ho => ?_)
        rotate_left
        · ((simp only [List.getElem?_toArray, List.getElem?_cons_zero, List.getElem?_cons_succ, Option.some.injEq] at ho; subst ho); intro wx hSx; (try dsimp only at hSx); go_simp; all_goals (with_reducible rfl))
        (simp only [List.getElem?_toArray, List.getElem?_cons_zero, List.getElem?_cons_succ, Option.some.injEq] at ho; subst ho)
        try simp only [Act.put, List.setIfInBounds_toArray, List.set_cons_zero, List.set_cons_succ]
        refine heldTake 3 (v := ?_) (by kernel_rfl) (by kernel_rfl) (by kernel_rfl) (by kernel_rfl) (fun _ _ _ _ _ h => h) (by assumption) (fun oi ho => by (simp only [List.getElem?_toArray, List.getElem?_cons_zero, List.getElem?_cons_succ, Option.some.injEq] at ho; subst ho); rfl) (fun oi ho => ?_) (fun oi ho => ?_)
        rotate_left
        · ((simp only [List.getElem?_toArray, List.getElem?_cons_zero, List.getElem?_cons_succ, Option.some.injEq] at ho; subst ho); intro wx hSx; (try dsimp only at hSx); go_simp; all_goals (with_reducible rfl))
        (simp only [List.getElem?_toArray, List.getElem?_cons_zero, List.getElem?_cons_succ, Option.some.injEq] at ho; subst ho)
        try simp only [Act.put, List.setIfInBounds_toArray, List.set_cons_zero, List.set_cons_succ]
        refine heldTake 4 (v := ?_) (by kernel_rfl) (by kernel_rfl) (by kernel_rfl) (by kernel_rfl) (fun _ _ _ _ _ h => h) (by assumption) (fun oi ho => by (simp only [List.getElem?_toArray, List.getElem?_cons_zero, List.getElem?_cons_succ, Option.some.injEq] at ho; subst ho); rfl) (fun oi ho => ?_) (fun oi ho => ?_)
        rotate_left
        · ((simp only [List.getElem?_toArray, List.getElem?_cons_zero, List.getElem?_cons_succ, Option.some.injEq] at ho; subst ho); intro wx hSx; (try dsimp only at hSx); go_simp; all_goals (with_reducible rfl))
        (simp only [List.getElem?_toArray, List.getElem?_cons_zero, List.getElem?_cons_succ, Option.some.injEq] at ho; subst ho)
        try simp only [Act.put, List.setIfInBounds_toArray, List.set_cons_zero, List.set_cons_succ]
        refine heldTake 5 (v := ?_) (by kernel_rfl) (by kernel_rfl) (by kernel_rfl) (by kernel_rfl) (fun _ _ _ _ _ h => h) (by assumption) (fun oi ho => by (simp only [List.getElem?_toArray, List.getElem?_cons_zero, List.getElem?_cons_succ, Option.some.injEq] at ho; subst ho); rfl) (fun oi ho => ?_) (fun oi ho => ?_)
        rotate_left
        · ((simp only [List.getElem?_toArray, List.getElem?_cons_zero, List.getElem?_cons_succ, Option.some.injEq] at ho; subst ho); intro wx hSx; (try dsimp only at hSx); go_simp; all_goals (with_reducible rfl))
        (simp only [List.getElem?_toArray, List.getElem?_cons_zero, List.getElem?_cons_succ, Option.some.injEq] at ho; subst ho)
        try simp only [Act.put, List.setIfInBounds_toArray, List.set_cons_zero, List.set_cons_succ]
        refine heldTake 6 (v := ?_) (by kernel_rfl) (by kernel_rfl) (by kernel_rfl) (by kernel_rfl) (fun _ _ _ _ _ h => h) (by assumption) (fun oi ho => by (simp only [List.getElem?_toArray, List.getElem?_cons_zero, List.getElem?_cons_succ, Option.some.injEq] at ho; subst ho); rfl) (fun oi ho => ?_) (fun oi ho => ?_)
        rotate_left
        · ((simp only [List.getElem?_toArray, List.getElem?_cons_zero, List.getElem?_cons_succ, Option.some.injEq] at ho; subst ho); intro wx hSx; (try dsimp only at hSx); go_simp; all_goals (with_reducible rfl))
        (simp only [List.getElem?_toArray, List.getElem?_cons_zero, List.getElem?_cons_succ, Option.some.injEq] at ho; subst ho)
        try simp only [Act.put, List.setIfInBounds_toArray, List.set_cons_zero, List.set_cons_succ]
        refine heldSkip 7 (by kernel_rfl) (by kernel_rfl) (by kernel_rfl) (by kernel_rfl) (fun _ _ _ _ _ h => h) (by assumption) (fun oi ho => by (simp only [List.getElem?_toArray, List.getElem?_cons_zero, List.getElem?_cons_succ, Option.some.injEq] at ho; subst ho); rfl) (fun oi ho => ?_)
        (simp only [List.getElem?_toArray, List.getElem?_cons_zero, List.getElem?_cons_succ, Option.some.injEq] at ho; subst ho)
        try simp only [Act.put, List.setIfInBounds_toArray, List.set_cons_zero, List.set_cons_succ]
        refine heldSkip 8 (by kernel_rfl) (by kernel_rfl) (by kernel_rfl) (by kernel_rfl) (fun _ _ _ _ _ h => h) (by assumption) (fun oi ho => by (simp only [List.getElem?_toArray, List.getElem?_cons_zero, List.getElem?_cons_succ, Option.some.injEq] at ho; subst ho); rfl) (fun oi ho => ?_)
        (simp only [List.getElem?_toArray, List.getElem?_cons_zero, List.getElem?_cons_succ, Option.some.injEq] at ho; subst ho)
        try simp only [Act.put, List.setIfInBounds_toArray, List.set_cons_zero, List.set_cons_succ]
        refine heldSkip 9 (by kernel_rfl) (by kernel_rfl) (by kernel_rfl) (by kernel_rfl) (fun _ _ _ _ _ h => h) (by assumption) (fun oi ho => by (simp only [List.getElem?_toArray, List.getElem?_cons_zero, List.getElem?_cons_succ, Option.some.injEq] at ho; subst ho); rfl) (fun oi ho => ?_)
        (simp only [List.getElem?_toArray, List.getElem?_cons_zero, List.getElem?_cons_succ, Option.some.injEq] at ho; subst ho)
        try simp only [Act.put, List.setIfInBounds_toArray, List.set_cons_zero, List.set_cons_succ]
        refine heldSkip 10 (by kernel_rfl) (by kernel_rfl) (by kernel_rfl) (by kernel_rfl) (fun _ _ _ _ _ h => h) (by assumption) (fun oi ho => by (simp only [List.getElem?_toArray, List.getElem?_cons_zero, List.getElem?_cons_succ, Option.some.injEq] at ho; subst ho); rfl) (fun oi ho => ?_)
        (simp only [List.getElem?_toArray, List.getElem?_cons_zero, List.getElem?_cons_succ, Option.some.injEq] at ho; subst ho)
        try simp only [Act.put, List.setIfInBounds_toArray, List.set_cons_zero, List.set_cons_succ]
        refine heldSkip 11 (by kernel_rfl) (by kernel_rfl) (by kernel_rfl) (by kernel_rfl) (fun _ _ _ _ _ h => h) (by assumption) (fun oi ho => by (simp only [List.getElem?_toArray, List.getElem?_cons_zero, List.getElem?_cons_succ, Option.some.injEq] at ho; subst ho); rfl) (fun oi ho => ?_)
        (simp only [List.getElem?_toArray, List.getElem?_cons_zero, List.getElem?_cons_succ, Option.some.injEq] at ho; subst ho)
        try simp only [Act.put, List.setIfInBounds_toArray, List.set_cons_zero, List.set_cons_succ]
        refine heldSkip 12 (by kernel_rfl) (by kernel_rfl) (by kernel_rfl) (by kernel_rfl) (fun _ _ _ _ _ h => h) (by assumption) (fun oi ho => by (simp only [List.getElem?_toArray, List.getElem?_cons_zero, List.getElem?_cons_succ, Option.some.injEq] at ho; subst ho); rfl) (fun oi ho => ?_)
        (simp only [List.getElem?_toArray, List.getElem?_cons_zero, List.getElem?_cons_succ, Option.some.injEq] at ho; subst ho)
        try simp only [Act.put, List.setIfInBounds_toArray, List.set_cons_zero, List.set_cons_succ]
        refine heldSkip 13 (by kernel_rfl) (by kernel_rfl) (by kernel_rfl) (by kernel_rfl) (fun _ _ _ _ _ h => h) (by assumption) (fun oi ho => by (simp only [List.getElem?_toArray, List.getElem?_cons_zero, List.getElem?_cons_succ, Option.some.injEq] at ho; subst ho); rfl) (fun oi ho => ?_)
        (simp only [List.getElem?_toArray, List.getElem?_cons_zero, List.getElem?_cons_succ, Option.some.injEq] at ho; subst ho)
        try simp only [Act.put, List.setIfInBounds_toArray, List.set_cons_zero, List.set_cons_succ]
        refine heldTake 14 (v := ?_) (by kernel_rfl) (by kernel_rfl) (by kernel_rfl) (by kernel_rfl) (fun _ _ _ _ _ h => h) (by assumption) (fun oi ho => by (simp only [List.getElem?_toArray, List.getElem?_cons_zero, List.getElem?_cons_succ, Option.some.injEq] at ho; subst ho); rfl) (fun oi ho => ?_) (fun oi ho => ?_)
        rotate_left
        · ((simp only [List.getElem?_toArray, List.getElem?_cons_zero, List.getElem?_cons_succ, Option.some.injEq] at ho; subst ho); intro wx hSx; (try dsimp only at hSx); go_simp; all_goals (with_reducible rfl))
        (simp only [List.getElem?_toArray, List.getElem?_cons_zero, List.getElem?_cons_succ, Option.some.injEq] at ho; subst ho)
        try simp only [Act.put, List.setIfInBounds_toArray, List.set_cons_zero, List.set_cons_succ]
        refine heldTake 15 (v := ?_) (by kernel_rfl) (by kernel_rfl) (by kernel_rfl) (by kernel_rfl) (fun _ _ _ _ _ h => h) (by assumption) (fun oi ho => by (simp only [List.getElem?_toArray, List.getElem?_cons_zero, List.getElem?_cons_succ, Option.some.injEq] at ho; subst ho); rfl) (fun oi ho => ?_) (fun oi ho => ?_)
        rotate_left
        · ((simp only [List.getElem?_toArray, List.getElem?_cons_zero, List.getElem?_cons_succ, Option.some.injEq] at ho; subst ho); intro wx hSx; (try dsimp only at hSx); go_simp; all_goals (with_reducible rfl))
        (simp only [List.getElem?_toArray, List.getElem?_cons_zero, List.getElem?_cons_succ, Option.some.injEq] at ho; subst ho)
        try simp only [Act.put, List.setIfInBounds_toArray, List.set_cons_zero, List.set_cons_succ]
        refine wpAnyH_done (by kernel_rfl) ?_ _
        refine NoPanic.normal ?_
        go_wp2
        go_roundw
        case rel => exact ⟨k + 1, by omega, by go_num, n + 1, rfl⟩
        case measure => simp [intOf]; omega
      · have hne : ((k : Int) != (ia : Int)) = true := by rw [bne_iff_ne]; omega
        obtain ⟨y, hy⟩ : ∃ y, r.getD k 0 = y := ⟨_, rfl⟩
        have HS : Hid (∀ wx, Below (w1.alloc (.cells (regCells (r.set ia x)) 24)).heap.size (w1.alloc (.cells (regCells (r.set ia x)) 24)) wx → Below (w1.alloc (.cells (regCells (r.set ia x)) 24)).heap.size (w1.alloc (.cells (regCells (r.set ia x)) 24)) wx ∧ wx.cell? ⟨pa, 0, none⟩ = some (.int .i64 ia) ∧ wx.cell? ⟨w1.heap.size, k, none⟩ = some (.int .u32 y) ∧ wx.cell? ⟨pr, k, none⟩ = some (.int .u32 y)) := Lib.hid fun wx h => by
          obtain ⟨h1, h2, h3⟩ := HK.out wx h
          exact ⟨h, h1, h2 k _ (regs_at _ (by rw [List.length_set]; exact HL.out) k y hlt (by rw [← hy, List.getD_eq_getElem?_getD, List.getElem?_set_ne (fun e => hki e.symm), List.getD_eq_getElem?_getD])), h3 k _ (regs_at r HL.out k y hlt hy)⟩
        clear hki hy
        go_wp2_with fail
        refine wp_region_noPanic ?_
        refine wp_region_held_drew (S := (fun wx => Below (w1.alloc (.cells (regCells (r.set ia x)) 24)).heap.size (w1.alloc (.cells (regCells (r.set ia x)) 24)) wx ∧ wx.cell? ⟨pa, 0, none⟩ = some (.int .i64 ia) ∧ wx.cell? ⟨w1.heap.size, k, none⟩ = some (.int .u32 y) ∧ wx.cell? ⟨pr, k, none⟩ = some (.int .u32 y))) (by kernel_rfl) ?_ (fun hHeld => ?_)
        · exact HS.out _ hbd
        refine heldTake 0 (v := ?_) (by kernel_rfl) (by kernel_rfl) (by kernel_rfl) (by kernel_rfl) (fun _ _ _ _ _ h => h) (by assumption) (fun oi ho => by (simp only [List.getElem?_toArray, List.getElem?_cons_zero, List.getElem?_cons_succ, Option.some.injEq] at ho; subst ho); rfl) (fun oi ho => ?_) (fun oi ho => ?_)
        rotate_left
        · ((simp only [List.getElem?_toArray, List.getElem?_cons_zero, List.getElem?_cons_succ, Option.some.injEq] at ho; subst ho); intro wx hSx; (try dsimp only at hSx); go_simp; all_goals (with_reducible rfl))
        (simp only [List.getElem?_toArray, List.getElem?_cons_zero, List.getElem?_cons_succ, Option.some.injEq] at ho; subst ho)
        try simp only [Act.put, List.setIfInBounds_toArray, List.set_cons_zero, List.set_cons_succ]
        refine heldTake 1 (v := ?_) (by kernel_rfl) (by kernel_rfl) (by kernel_rfl) (by kernel_rfl) (fun _ _ _ _ _ h => h) (by assumption) (fun oi ho => by (simp only [List.getElem?_toArray, List.getElem?_cons_zero, List.getElem?_cons_succ, Option.some.injEq] at ho; subst ho); rfl) (fun oi ho => ?_) (fun oi ho => ?_)
        rotate_left
        · ((simp only [List.getElem?_toArray, List.getElem?_cons_zero, List.getElem?_cons_succ, Option.some.injEq] at ho; subst ho); intro wx hSx; (try dsimp only at hSx); go_simp; all_goals (with_reducible rfl))
        (simp only [List.getElem?_toArray, List.getElem?_cons_zero, List.getElem?_cons_succ, Option.some.injEq] at ho; subst ho)
        try simp only [Act.put, List.setIfInBounds_toArray, List.set_cons_zero, List.set_cons_succ]
        refine heldTake 2 (v := ?_) (by kernel_rfl) (by kernel_rfl) (by kernel_rfl) (by kernel_rfl) (fun _ _ _ _ _ h => h) (by assumption) (fun oi ho => by (simp only [List.getElem?_toArray, List.getElem?_cons_zero, List.getElem?_cons_succ, Option.some.injEq] at ho; subst ho); rfl) (fun oi ho => ?_) (fun oi ho => ?_)
        rotate_left
        · ((simp only [List.getElem?_toArray, List.getElem?_cons_zero, List.getElem?_cons_succ, Option.some.injEq] at ho; subst ho); intro wx hSx; (try dsimp only at hSx); go_simp; all_goals (with_reducible rfl))
        (simp only [List.getElem?_toArray, List.getElem?_cons_zero, List.getElem?_cons_succ, Option.some.injEq] at ho; subst ho)
        try simp only [Act.put, List.setIfInBounds_toArray, List.set_cons_zero, List.set_cons_succ]
        refine heldTake 3 (v := ?_) (by kernel_rfl) (by kernel_rfl) (by kernel_rfl) (by kernel_rfl) (fun _ _ _ _ _ h => h) (by assumption) (fun oi ho => by (simp only [List.getElem?_toArray, List.getElem?_cons_zero, List.getElem?_cons_succ, Option.some.injEq] at ho; subst ho); rfl) (fun oi ho => ?_) (fun oi ho => ?_)
        rotate_left
        · ((simp only [List.getElem?_toArray, List.getElem?_cons_zero, List.getElem?_cons_succ, Option.some.injEq] at ho; subst ho); intro wx hSx; (try dsimp only at hSx); go_simp; all_goals (with_reducible rfl))
        (simp only [List.getElem?_toArray, List.getElem?_cons_zero, List.getElem?_cons_succ, Option.some.injEq] at ho; subst ho)
        try simp only [Act.put, List.setIfInBounds_toArray, List.set_cons_zero, List.set_cons_succ]
        refine heldTake 4 (v := ?_) (by kernel_rfl) (by kernel_rfl) (by kernel_rfl) (by kernel_rfl) (fun _ _ _ _ _ h => h) (by assumption) (fun oi ho => by (simp only [List.getElem?_toArray, List.getElem?_cons_zero, List.getElem?_cons_succ, Option.some.injEq] at ho; subst ho); rfl) (fun oi ho => ?_) (fun oi ho => ?_)
        rotate_left
        · ((simp only [List.getElem?_toArray, List.getElem?_cons_zero, List.getElem?_cons_succ, Option.some.injEq] at ho; subst ho); intro wx hSx; (try dsimp only at hSx); go_simp; all_goals (with_reducible rfl))
        (simp only [List.getElem?_toArray, List.getElem?_cons_zero, List.getElem?_cons_succ, Option.some.injEq] at ho; subst ho)
        try simp only [Act.put, List.setIfInBounds_toArray, List.set_cons_zero, List.set_cons_succ]
        refine heldTake 5 (v := ?_) (by kernel_rfl) (by kernel_rfl) (by kernel_rfl) (by kernel_rfl) (fun _ _ _ _ _ h => h) (by assumption) (fun oi ho => by (simp only [List.getElem?_toArray, List.getElem?_cons_zero, List.getElem?_cons_succ, Option.some.injEq] at ho; subst ho); rfl) (fun oi ho => ?_) (fun oi ho => ?_)
        rotate_left
        · ((simp only [List.getElem?_toArray, List.getElem?_cons_zero, List.getElem?_cons_succ, Option.some.injEq] at ho; subst ho); intro wx hSx; (try dsimp only at hSx); go_simp; all_goals (with_reducible rfl))
        (simp only [List.getElem?_toArray, List.getElem?_cons_zero, List.getElem?_cons_succ, Option.some.injEq] at ho; subst ho)
        try simp only [Act.put, List.setIfInBounds_toArray, List.set_cons_zero, List.set_cons_succ]
        refine heldTake 6 (v := ?_) (by kernel_rfl) (by kernel_rfl) (by kernel_rfl) (by kernel_rfl) (fun _ _ _ _ _ h => h) (by assumption) (fun oi ho => by (simp only [List.getElem?_toArray, List.getElem?_cons_zero, List.getElem?_cons_succ, Option.some.injEq] at ho; subst ho); rfl) (fun oi ho => ?_) (fun oi ho => ?_)
        rotate_left
        · ((simp only [List.getElem?_toArray, List.getElem?_cons_zero, List.getElem?_cons_succ, Option.some.injEq] at ho; subst ho); intro wx hSx; (try dsimp only at hSx); go_simp; all_goals (with_reducible rfl))
        (simp only [List.getElem?_toArray, List.getElem?_cons_zero, List.getElem?_cons_succ, Option.some.injEq] at ho; subst ho)
        try simp only [Act.put, List.setIfInBounds_toArray, List.set_cons_zero, List.set_cons_succ]
        refine heldTake 7 (v := ?_) (by kernel_rfl) (by kernel_rfl) (by kernel_rfl) (by kernel_rfl) (fun _ _ _ _ _ h => h) (by assumption) (fun oi ho => by (simp only [List.getElem?_toArray, List.getElem?_cons_zero, List.getElem?_cons_succ, Option.some.injEq] at ho; subst ho); rfl) (fun oi ho => ?_) (fun oi ho => ?_)
        rotate_left
        · ((simp only [List.getElem?_toArray, List.getElem?_cons_zero, List.getElem?_cons_succ, Option.some.injEq] at ho; subst ho); intro wx hSx; (try dsimp only at hSx); go_simp; all_goals (with_reducible rfl))
        (simp only [List.getElem?_toArray, List.getElem?_cons_zero, List.getElem?_cons_succ, Option.some.injEq] at ho; subst ho)
        try simp only [Act.put, List.setIfInBounds_toArray, List.set_cons_zero, List.set_cons_succ]
        refine heldTake 8 (v := ?_) (by kernel_rfl) (by kernel_rfl) (by kernel_rfl) (by kernel_rfl) (fun _ _ _ _ _ h => h) (by assumption) (fun oi ho => by (simp only [List.getElem?_toArray, List.getElem?_cons_zero, List.getElem?_cons_succ, Option.some.injEq] at ho; subst ho); rfl) (fun oi ho => ?_) (fun oi ho => ?_)
        rotate_left
        · ((simp only [List.getElem?_toArray, List.getElem?_cons_zero, List.getElem?_cons_succ, Option.some.injEq] at ho; subst ho); intro wx hSx; (try dsimp only at hSx); go_simp; all_goals (with_reducible rfl))
        (simp only [List.getElem?_toArray, List.getElem?_cons_zero, List.getElem?_cons_succ, Option.some.injEq] at ho; subst ho)
        try simp only [Act.put, List.setIfInBounds_toArray, List.set_cons_zero, List.set_cons_succ]
        refine heldTake 9 (v := ?_) (by kernel_rfl) (by kernel_rfl) (by kernel_rfl) (by kernel_rfl) (fun _ _ _ _ _ h => h) (by assumption) (fun oi ho => by (simp only [List.getElem?_toArray, List.getElem?_cons_zero, List.getElem?_cons_succ, Option.some.injEq] at ho; subst ho); rfl) (fun oi ho => ?_) (fun oi ho => ?_)
        rotate_left
        · ((simp only [List.getElem?_toArray, List.getElem?_cons_zero, List.getElem?_cons_succ, Option.some.injEq] at ho; subst ho); intro wx hSx; (try dsimp only at hSx); go_simp; all_goals (with_reducible rfl))
        (simp only [List.getElem?_toArray, List.getElem?_cons_zero, List.getElem?_cons_succ, Option.some.injEq] at ho; subst ho)
        try simp only [Act.put, List.setIfInBounds_toArray, List.set_cons_zero, List.set_cons_succ]
        refine heldTake 10 (v := ?_) (by kernel_rfl) (by kernel_rfl) (by kernel_rfl) (by kernel_rfl) (fun _ _ _ _ _ h => h) (by assumption) (fun oi ho => by (simp only [List.getElem?_toArray, List.getElem?_cons_zero, List.getElem?_cons_succ, Option.some.injEq] at ho; subst ho); rfl) (fun oi ho => ?_) (fun oi ho => ?_)
        rotate_left
        · ((simp only [List.getElem?_toArray, List.getElem?_cons_zero, List.getElem?_cons_succ, Option.some.injEq] at ho; subst ho); intro wx hSx; (try dsimp only at hSx); go_simp; all_goals (with_reducible rfl))
        (simp only [List.getElem?_toArray, List.getElem?_cons_zero, List.getElem?_cons_succ, Option.some.injEq] at ho; subst ho)
        try simp only [Act.put, List.setIfInBounds_toArray, List.set_cons_zero, List.set_cons_succ]
        refine heldTake 11 (v := ?_) (by kernel_rfl) (by kernel_rfl) (by kernel_rfl) (by kernel_rfl) (fun _ _ _ _ _ h => h) (by assumption) (fun oi ho => by (simp only [List.getElem?_toArray, List.getElem?_cons_zero, List.getElem?_cons_succ, Option.some.injEq] at ho; subst ho); rfl) (fun oi ho => ?_) (fun oi ho => ?_)
        rotate_left
        · ((simp only [List.getElem?_toArray, List.getElem?_cons_zero, List.getElem?_cons_succ, Option.some.injEq] at ho; subst ho); intro wx hSx; (try dsimp only at hSx); go_simp; all_goals (with_reducible rfl))
        (simp only [List.getElem?_toArray, List.getElem?_cons_zero, List.getElem?_cons_succ, Option.some.injEq] at ho; subst ho)
        try simp only [Act.put, List.setIfInBounds_toArray, List.set_cons_zero, List.set_cons_succ]
        refine heldTake 12 (v := ?_) (by kernel_rfl) (by kernel_rfl) (by kernel_rfl) (by kernel_rfl) (fun _ _ _ _ _ h => h) (by assumption) (fun oi ho => by (simp only [List.getElem?_toArray, List.getElem?_cons_zero, List.getElem?_cons_succ, Option.some.injEq] at ho; subst ho); rfl) (fun oi ho => ?_) (fun oi ho => ?_)
        rotate_left
        · ((simp only [List.getElem?_toArray, List.getElem?_cons_zero, List.getElem?_cons_succ, Option.some.injEq] at ho; subst ho); intro wx hSx; (try dsimp only at hSx); go_simp; all_goals (with_reducible rfl))
        (simp only [List.getElem?_toArray, List.getElem?_cons_zero, List.getElem?_cons_succ, Option.some.injEq] at ho; subst ho)
        try simp only [Act.put, List.setIfInBounds_toArray, List.set_cons_zero, List.set_cons_succ]
        refine heldTake 13 (v := ?_) (by kernel_rfl) (by kernel_rfl) (by kernel_rfl) (by kernel_rfl) (fun _ _ _ _ _ h => h) (by assumption) (fun oi ho => by (simp only [List.getElem?_toArray, List.getElem?_cons_zero, List.getElem?_cons_succ, Option.some.injEq] at ho; subst ho); rfl) (fun oi ho => ?_) (fun oi ho => ?_)
        rotate_left
        · ((simp only [List.getElem?_toArray, List.getElem?_cons_zero, List.getElem?_cons_succ, Option.some.injEq] at ho; subst ho); intro wx hSx; (try dsimp only at hSx); go_simp; all_goals (with_reducible rfl))
        (simp only [List.getElem?_toArray, List.getElem?_cons_zero, List.getElem?_cons_succ, Option.some.injEq] at ho; subst ho)
        try simp only [Act.put, List.setIfInBounds_toArray, List.set_cons_zero, List.set_cons_succ]
        refine heldTake 14 (v := ?_) (by kernel_rfl) (by kernel_rfl) (by kernel_rfl) (by kernel_rfl) (fun _ _ _ _ _ h => h) (by assumption) (fun oi ho => by (simp only [List.getElem?_toArray, List.getElem?_cons_zero, List.getElem?_cons_succ, Option.some.injEq] at ho; subst ho); rfl) (fun oi ho => ?_) (fun oi ho => ?_)
        rotate_left
        · ((simp only [List.getElem?_toArray, List.getElem?_cons_zero, List.getElem?_cons_succ, Option.some.injEq] at ho; subst ho); intro wx hSx; (try dsimp only at hSx); go_simp; all_goals (with_reducible rfl))
        (simp only [List.getElem?_toArray, List.getElem?_cons_zero, List.getElem?_cons_succ, Option.some.injEq] at ho; subst ho)
        try simp only [Act.put, List.setIfInBounds_toArray, List.set_cons_zero, List.set_cons_succ]
        refine heldTake 15 (v := ?_) (by kernel_rfl) (by kernel_rfl) (by kernel_rfl) (by kernel_rfl) (fun _ _ _ _ _ h => h) (by assumption) (fun oi ho => by (simp only [List.getElem?_toArray, List.getElem?_cons_zero, List.getElem?_cons_succ, Option.some.injEq] at ho; subst ho); rfl) (fun oi ho => ?_) (fun oi ho => ?_)
        rotate_left
        · ((simp only [List.getElem?_toArray, List.getElem?_cons_zero, List.getElem?_cons_succ, Option.some.injEq] at ho; subst ho); intro wx hSx; (try dsimp only at hSx); go_simp; all_goals (with_reducible rfl))
        (simp only [List.getElem?_toArray, List.getElem?_cons_zero, List.getElem?_cons_succ, Option.some.injEq] at ho; subst ho)
        try simp only [Act.put, List.setIfInBounds_toArray, List.set_cons_zero, List.set_cons_succ]
        refine wpAnyH_done (by kernel_rfl) ?_ _
        refine NoPanic.normal ?_
        go_wp2
        go_roundw
        case rel => exact ⟨k + 1, by omega, by go_num, n + 1, rfl⟩
        case measure => simp [intOf]; omega
    · obtain rfl : k = 16 := by omega
      obtain ⟨h1, h2, -⟩ := HK.out _ (HZ.out n)
      have h3 := h2 ia _ (regs_at _ (by rw [List.length_set]; exact HL.out) ia x HIA.out (getD_set' r ia x (by rw [HL.out]; exact HIA.out)))
      clear h2
      go_wp2
      go_ret
      exact ⟨rfl, HF.out n⟩

theorem run_shr_n (x : Int) (n : Nat) (h : n < 32) (P : Program) (W : World) : (Op.shift BinOp.shr IntKind.u32 x IntKind.u32 (n : Int)).run P W = .ok (.int .u32 (x.fdiv (2 ^ n))) W := by
  have h0 : ¬ (n : Int) < 0 := by omega
  have hm : min (n : Int).toNat IntKind.u32.bits = n := by rw [Int.toNat_natCast]; exact Nat.min_eq_left (by show n ≤ 32; omega)
  unfold Op.shift
  rw [if_neg h0, hm]
  rfl
theorem run_shl_n (x : Int) (n : Nat) (h : n < 32) (P : Program) (W : World) : (Op.shift BinOp.shl IntKind.u32 x IntKind.u32 (n : Int)).run P W = .ok (.int .u32 (x * 2 ^ n % 4294967296)) W := by
  have h0 : ¬ (n : Int) < 0 := by omega
  have hm : min (n : Int).toNat IntKind.u32.bits = n := by rw [Int.toNat_natCast]; exact Nat.min_eq_left (by show n ≤ 32; omega)
  unfold Op.shift
  rw [if_neg h0, hm]
  rfl
theorem fdiv_pow (a n : Nat) : ((a : Int)).fdiv (2 ^ n) = ((a / 2 ^ n : Nat) : Int) := by
  rw [Int.fdiv_eq_ediv_of_nonneg _ (Int.le_of_lt (Int.pow_pos (by decide)))]
  simp
theorem one_facts (b c : Int) (hb : U32 b) (hc : U32 c) (P : Program) : ∃ (N P1 Q1 P2 Q2 : Int), bits BinOp.and IntKind.u32 c 31 = (N : Int) ∧
    (∀ W, (Op.shift BinOp.shr IntKind.u32 (shlV b c) IntKind.u32 (N : Int)).run P W = .ok (.int .u32 P1) W) ∧ (∀ W, (Op.shift BinOp.shr IntKind.u32 4294967295 IntKind.u32 (N : Int)).run P W = .ok (.int .u32 Q1) W) ∧ bits BinOp.and IntKind.u32 b Q1 = P1 ∧
    (∀ W, (Op.shift BinOp.shl IntKind.u32 (shrV b c) IntKind.u32 (N : Int)).run P W = .ok (.int .u32 P2) W) ∧ (∀ W, (Op.shift BinOp.shl IntKind.u32 4294967295 IntKind.u32 (N : Int)).run P W = .ok (.int .u32 Q2) W) ∧ bits BinOp.and IntKind.u32 b Q2 = P2 := by
  obtain ⟨B, rfl⟩ := Int.eq_ofNat_of_zero_le hb.1
  have hB : B < 4294967296 := by have := hb.2; omega
  obtain ⟨N, hN⟩ : ∃ N : Nat, c % 32 = (N : Int) := ⟨(c % 32).toNat, by omega⟩
  have hn : N < 32 := by omega
  have e1 : shlV (B : Int) c = ((B * 2 ^ N % 4294967296 : Nat) : Int) := by
    unfold shlV
    rw [hN, Int.toNat_natCast, wrap_M]
    simp
  have e2 : shrV (B : Int) c = ((B / 2 ^ N : Nat) : Int) := by
    unfold shrV
    rw [hN, Int.toNat_natCast, fdiv_pow]
  refine ⟨(N : Int), _, _, _, _, by rw [and_31 c hc, hN], fun W => run_shr_n _ N hn P W, fun W => run_shr_n _ N hn P W, ?_, fun W => run_shl_n _ N hn P W, fun W => run_shl_n _ N hn P W, ?_⟩
  · rw [e1, fdiv_pow, show (4294967295 : Int) = ((4294967295 : Nat) : Int) from rfl, fdiv_pow, bits_and32 B _ hB (Nat.lt_of_le_of_lt (Nat.div_le_self _ _) (by decide)), low_back B N hB hn]
  · rw [e2]
    have h1 : ((B / 2 ^ N : Nat) : Int) * 2 ^ N % 4294967296 = ((B / 2 ^ N * 2 ^ N % 4294967296 : Nat) : Int) := by simp
    have h2 : (4294967295 : Int) * 2 ^ N % 4294967296 = ((4294967295 * 2 ^ N % 4294967296 : Nat) : Int) := by simp
    rw [h1, h2, bits_and32 B _ hB (Nat.mod_lt _ (by decide)), high_back B N hB hn]
theorem sum_facts (b c : Int) (hb : U32 b) (hc : U32 c) : (bits BinOp.or IntKind.u32 b c + bits BinOp.and IntKind.u32 b c) % 4294967296 = (b + c) % 4294967296 ∧ (bits BinOp.or IntKind.u32 b c - bits BinOp.and IntKind.u32 b c) % 4294967296 = bits BinOp.xor IntKind.u32 b c := by
  obtain ⟨B, rfl⟩ := Int.eq_ofNat_of_zero_le hb.1
  obtain ⟨C, rfl⟩ := Int.eq_ofNat_of_zero_le hc.1
  have hB : B < 4294967296 := by have := hb.2; omega
  have hC : C < 4294967296 := by have := hc.2; omega
  rw [bits_or32 B C hB hC, bits_and32 B C hB hC, bits_xor32 B C hB hC]
  have h1 := or_and_sum B C
  have h2 := xor_and_or B C
  have h3 : B ^^^ C < 2 ^ 32 := Nat.xor_lt_two_pow (by omega) (by omega)
  constructor <;> omega
theorem cmp_facts (b c : Int) (hb : U32 b) (hc : U32 c) : (((b - c) % 4294967296 == 0) = (eqV b c == 1)) ∧ eqV b c ≤ 1 ∧ ltV b c ≤ 1 ∧ (eqV b c + ltV b c) % 4294967296 ≤ 1 ∧ (ltV b c == 1) = decide (b < c) := by
  have h1 := hb.1
  have h2 := hb.2
  have h3 := hc.1
  have h4 := hc.2
  by_cases he : b = c
  · subst he
    have e1 : eqV b b = 1 := if_pos rfl
    have e2 : ltV b b = 0 := if_neg (by omega)
    rw [e1, e2]
    refine ⟨?_, by decide, by decide, by decide, ?_⟩
    · rw [Int.sub_self]
      rfl
    · rw [decide_eq_false (by omega)]
      rfl
  · have e1 : eqV b c = 0 := if_neg he
    have e0 : ((b - c) % 4294967296 == 0) = false := by rw [beq_eq_false_iff_ne]; omega
    by_cases hl : b < c
    · have e2 : ltV b c = 1 := if_pos hl
      rw [e1, e2, e0, decide_eq_true hl]
      exact ⟨rfl, by decide, by decide, by decide, rfl⟩
    · have e2 : ltV b c = 0 := if_neg hl
      rw [e1, e2, e0, decide_eq_false hl]
      exact ⟨rfl, by decide, by decide, by decide, rfl⟩
theorem wok_fn (op : Int) (h : op ∈ [3, 4, 5, 6, 7, 8, 9, 10, 11, 24]) (a b c : Nat) (ha : a < 16) (hb : b < 16) (hc : c < 16) : wok ⟨op, a, b, c, 0⟩ = true := by
  simp only [List.mem_cons, List.not_mem_nil, or_false] at h
  rcases h with rfl | rfl | rfl | rfl | rfl | rfl | rfl | rfl | rfl | rfl
  all_goals
    unfold wok
    dsimp only
    rw [show opk _ = (1, 1, 1) from rfl]
    dsimp only
    rw [fit_n a ha, fit_n b hb, fit_n c hc]
    rfl
theorem four_0 {w w1 : World} {o1 o2 o3 o4 : Obj} (h : Below ((((w.alloc o1).alloc o2).alloc o3).alloc o4).heap.size ((((w.alloc o1).alloc o2).alloc o3).alloc o4) w1) : w1.heap[w.heap.size]? = some o1 ∧ w1.heap[w.heap.size + 1]? = some o2 ∧ w1.heap[w.heap.size + 1 + 1]? = some o3 ∧ w1.heap[w.heap.size + 1 + 1 + 1]? = some o4 ∧ w.heap.size + 4 ≤ w1.heap.size := by
  have hs : ((((w.alloc o1).alloc o2).alloc o3).alloc o4).heap.size = w.heap.size + 4 := by simp
  refine ⟨?_, ?_, ?_, ?_, by have := h.size; omega⟩
  · rw [h.block _ (by omega), Below.heap_alloc _ _ _ (by simp <;> omega), Below.heap_alloc _ _ _ (by simp <;> omega), Below.heap_alloc _ _ _ (by simp)]
    exact blk_new _ _
  · rw [h.block _ (by omega), Below.heap_alloc _ _ _ (by simp <;> omega), Below.heap_alloc _ _ _ (by simp)]
    simpa using blk_new (w.alloc o1) o2
  · rw [h.block _ (by omega), Below.heap_alloc _ _ _ (by simp)]
    simpa using blk_new ((w.alloc o1).alloc o2) o3
  · rw [h.block _ (by omega)]
    simpa using blk_new (((w.alloc o1).alloc o2).alloc o3) o4
theorem four_below (w : World) (o1 o2 o3 o4 : Obj) : Below w.heap.size w ((((w.alloc o1).alloc o2).alloc o3).alloc o4) := ((((Below.refl w.heap.size w).alloc (Nat.le_refl _) _).alloc (by simp) _).alloc (by simp; omega) _).alloc (by simp; omega) _

end Go.Proofs.Ytikioeddilgbpaa
