/-
  hcall: how many words a call has; a call of words, of registers.
-/
import Derived.Test.YtpmbbbgmaipmbaaDoorHcCode
import Derived.Test.YtpmbbbgmaipmbaaDoorRow
namespace Go.Proofs.YtpmbbbgmaipmbaaDoor
open Go.RowKit

def argT : List Int := [0, 2, 0, 2, 4, 1, 3, 0, 3, 1, 2, 0, 1, 0, 1, 0]
/-- how many words; -1: no call -/
def argN (n : Int) : Int := if 1 ≤ n ∧ n ≤ 15 then argT.getD n.toNat 0 else -1
theorem argT_le (n : Nat) : 0 ≤ argT.getD n 0 ∧ argT.getD n 0 ≤ 4 := by
  match n with
  | 0 => decide
  | 1 => decide
  | 2 => decide
  | 3 => decide
  | 4 => decide
  | 5 => decide
  | 6 => decide
  | 7 => decide
  | 8 => decide
  | 9 => decide
  | 10 => decide
  | 11 => decide
  | 12 => decide
  | 13 => decide
  | 14 => decide
  | 15 => decide
  | n + 16 => exact ⟨by simp [argT], by simp [argT]⟩
def argA : Array Value := #[.int .i64 0, .int .i64 2, .int .i64 0, .int .i64 2, .int .i64 4, .int .i64 1, .int .i64 3, .int .i64 0, .int .i64 3, .int .i64 1, .int .i64 2, .int .i64 0, .int .i64 1, .int .i64 0, .int .i64 1, .int .i64 0]
def argB : Array Value := #[.int .i64 2, .int .i64 0, .int .i64 2, .int .i64 4, .int .i64 1, .int .i64 3, .int .i64 0, .int .i64 3, .int .i64 1, .int .i64 2, .int .i64 0, .int .i64 1, .int .i64 0, .int .i64 1, .int .i64 0]
theorem argA_get (n : Nat) (h : n < 16) : argA[n]? = some (.int .i64 (argT.getD n 0)) := by
  match n, h with
  | 0, _ => rfl
  | 1, _ => rfl
  | 2, _ => rfl
  | 3, _ => rfl
  | 4, _ => rfl
  | 5, _ => rfl
  | 6, _ => rfl
  | 7, _ => rfl
  | 8, _ => rfl
  | 9, _ => rfl
  | 10, _ => rfl
  | 11, _ => rfl
  | 12, _ => rfl
  | 13, _ => rfl
  | 14, _ => rfl
  | 15, _ => rfl
  | n + 16, h => exact absurd h (by omega)
theorem argB_get (n : Nat) (h : n < 15) : argB[n]? = some (.int .i64 (argT.getD (n + 1) 0)) := by
  match n, h with
  | 0, _ => rfl
  | 1, _ => rfl
  | 2, _ => rfl
  | 3, _ => rfl
  | 4, _ => rfl
  | 5, _ => rfl
  | 6, _ => rfl
  | 7, _ => rfl
  | 8, _ => rfl
  | 9, _ => rfl
  | 10, _ => rfl
  | 11, _ => rfl
  | 12, _ => rfl
  | 13, _ => rfl
  | 14, _ => rfl
  | n + 15, h => exact absurd h (by omega)
theorem args_bad (n : Int) (w : World) (h : n < 1 ∨ 15 < n) : Calls Tryd.prog 26 #[.int .i64 n] w fun e w' => e = .returned (.tuple #[.int .i64 0, .bool false]) ∧ w = w' := by
  by_cases h1 : n < 1
  · clear h
    go_enter Tryd.func26, Tryd.ntmps26
    go_wp2
    go_ret2
    exact ⟨rfl, rfl⟩
  · have h2 : 15 < n := by omega
    clear h
    go_enter Tryd.func26, Tryd.ntmps26
    go_wp2
    go_ret2
    exact ⟨rfl, rfl⟩
theorem args_ok (n : Nat) (w : World) (h1 : 1 ≤ n) (h2 : n ≤ 15) : Calls Tryd.prog 26 #[.int .i64 n] w fun e w' => e = .returned (.tuple #[.int .i64 (argT.getD n 0), .bool true]) ∧ Below w.heap.size w w' := by
  have hc : (w.alloc (.cells #[.int .i64 0, .int .i64 2, .int .i64 0, .int .i64 2, .int .i64 4, .int .i64 1, .int .i64 3, .int .i64 0, .int .i64 3, .int .i64 1, .int .i64 2, .int .i64 0, .int .i64 1, .int .i64 0, .int .i64 1, .int .i64 0] 3)).cell? ⟨w.heap.size, n, none⟩ = some (.int .i64 (argT.getD n 0)) := (blk_cell (blk_new w _) n).trans (argA_get n (by omega))
  obtain ⟨A, hA⟩ : ∃ A, argT.getD n 0 = A := ⟨_, rfl⟩
  rw [hA] at hc ⊢
  have i1 : ¬ (n : Int) < 1 := by omega
  have i2 : ¬ (15 : Int) < (n : Int) := by omega
  have i3 : (n : Int) < 16 := by omega
  clear hA
  go_enter Tryd.func26, Tryd.ntmps26
  go_wp2
  go_ret2
  exact ⟨rfl, (Below.refl _ _).alloc (Nat.le_refl _) _⟩
theorem args_any (n : Int) (w : World) : Calls Tryd.prog 26 #[.int .i64 n] w fun e w' => e = .returned (.tuple #[.int .i64 (if 0 ≤ argN n then argN n else 0), .bool (decide (0 ≤ argN n))]) ∧ Below w.heap.size w w' := by
  by_cases h : 1 ≤ n ∧ n ≤ 15
  · obtain ⟨m, rfl⟩ := Int.eq_ofNat_of_zero_le (show 0 ≤ n by omega)
    have e : argN (m : Int) = argT.getD m 0 := by unfold argN; rw [if_pos h, Int.toNat_natCast]
    rw [e, if_pos (argT_le m).1, decide_eq_true (argT_le m).1]
    exact args_ok m w (by omega) (by omega)
  · have e : argN n = -1 := by unfold argN; rw [if_neg h]
    rw [e, if_neg (by decide)]
    refine (args_bad n w (by omega)).mono ?_
    rintro x w' ⟨rfl, rfl⟩
    exact ⟨rfl, Below.refl _ _⟩

/-- a call: its number, the words that it has, nothing for the others -/
structure Hc where
  num : Int
  a : Int
  b : Int
  c : Int
  d : Int
deriving Inhabited
def Hc.v (x : Hc) : Value := .agg #[.int .i64 x.num, .int .u32 x.a, .int .u32 x.b, .int .u32 x.c, .int .u32 x.d]
def cutL (num : Int) (n : Int) (l : List Int) : Hc := ⟨num, if 0 < n then l.getD 0 0 else 0, if 1 < n then l.getD 1 0 else 0, if 2 < n then l.getD 2 0 else 0, if 3 < n then l.getD 3 0 else 0⟩

set_option maxRecDepth 100000 in
set_option maxHeartbeats 4000000 in
theorem made_any (num : Int) (n : Nat) (l : List Int) (ao : Option Addr) (c : Nat) (w : World) (hn : n ≤ 4) (hl : n ≤ l.length) (hm : l.length ≤ 9223372036854775807) (h : AtL w ao (u32s l)) :
    Calls Tryd.prog 54 #[.int .i64 num, .int .i64 n, .slice ao l.length c] w fun e w' => e = .returned (cutL num n l).v ∧ Below w.heap.size w w' := by
  have get : ∀ i, i < n → ∃ b off, ao = some ⟨b, off, none⟩ ∧ w.cell? ⟨b, off + i, none⟩ = some (.int .u32 (l.getD i 0)) ∧ b < w.heap.size := fun i hi => h i _ (u32s_get l i (by omega))
  have hcase : n = 0 ∨ n = 1 ∨ n = 2 ∨ n = 3 ∨ n = 4 := by omega
  have HLN := Lib.hid hl
  have HGET := Lib.hid get
  clear h hn get hl
  obtain ⟨x0, hx0⟩ : ∃ x, l.getD 0 0 = x := ⟨_, rfl⟩
  obtain ⟨x1, hx1⟩ : ∃ x, l.getD 1 0 = x := ⟨_, rfl⟩
  obtain ⟨x2, hx2⟩ : ∃ x, l.getD 2 0 = x := ⟨_, rfl⟩
  obtain ⟨x3, hx3⟩ : ∃ x, l.getD 3 0 = x := ⟨_, rfl⟩
  have HX := Lib.hid (And.intro hx0 (And.intro hx1 (And.intro hx2 hx3)))
  clear hx0 hx1 hx2 hx3
  rcases hcase with rfl | rfl | rfl | rfl | rfl
  · have HV : Hid ((cutL num ((0 : Nat) : Int) l).v = .agg #[.int .i64 num, .int .u32 0, .int .u32 0, .int .u32 0, .int .u32 0]) := Lib.hid (by
      obtain ⟨e0, e1, e2, e3⟩ := HX.out
      unfold cutL Hc.v
      simp [← e0, ← e1, ← e2, ← e3])
    rw [HV.out]
    go_enter Tryd.func54, Tryd.ntmps54
    go_wp2
    refine wp_loop_rounds 5 ?_
    rw [rounds_succ]
    go_wp2
    rw [rounds_succ]
    go_wp2
    rw [rounds_succ]
    go_wp2
    rw [rounds_succ]
    go_wp2
    rw [rounds_succ]
    go_wp2
    refine bodyPost_ret (v := .agg #[.int .i64 num, .int .u32 0, .int .u32 0, .int .u32 0, .int .u32 0]) (by simp [results, Tryd.results54, go_sem]) rfl ⟨rfl, ?_⟩
    repeat (first | exact Below.refl _ _ | refine Below.alloc ?_ (by first | (simp; done) | (simp; omega)) _ | refine Below.setCell ?_ (by first | (simp; done) | (simp; omega)) _)
  · have HV : Hid ((cutL num ((1 : Nat) : Int) l).v = .agg #[.int .i64 num, .int .u32 x0, .int .u32 0, .int .u32 0, .int .u32 0]) := Lib.hid (by
      obtain ⟨e0, e1, e2, e3⟩ := HX.out
      unfold cutL Hc.v
      simp [← e0, ← e1, ← e2, ← e3])
    rw [HV.out]
    obtain ⟨lb, lo, rfl, c0, hlt⟩ := HGET.out 0 (by decide)
    have hlt1 : lb < w.heap.size + 1 := by omega
    have hlt2 : lb < w.heap.size + 1 + 1 := by omega
    rw [Nat.add_zero] at c0
    obtain ⟨q0, q1, q2, q3⟩ := HX.out
    rw [q0] at c0
    clear q0 q1 q2 q3
    have hll : (0 : Int) < (l.length : Int) := by have := HLN.out; omega
    go_enter Tryd.func54, Tryd.ntmps54
    go_wp2
    refine wp_loop_rounds 5 ?_
    rw [rounds_succ]
    go_wp2
    rw [rounds_succ]
    go_wp2
    rw [rounds_succ]
    go_wp2
    rw [rounds_succ]
    go_wp2
    rw [rounds_succ]
    go_wp2
    refine bodyPost_ret (v := .agg #[.int .i64 num, .int .u32 x0, .int .u32 0, .int .u32 0, .int .u32 0]) (by simp [results, Tryd.results54, go_sem]) rfl ⟨rfl, ?_⟩
    repeat (first | exact Below.refl _ _ | refine Below.alloc ?_ (by first | (simp; done) | (simp; omega)) _ | refine Below.setCell ?_ (by first | (simp; done) | (simp; omega)) _)
  · have HV : Hid ((cutL num ((2 : Nat) : Int) l).v = .agg #[.int .i64 num, .int .u32 x0, .int .u32 x1, .int .u32 0, .int .u32 0]) := Lib.hid (by
      obtain ⟨e0, e1, e2, e3⟩ := HX.out
      unfold cutL Hc.v
      simp [← e0, ← e1, ← e2, ← e3])
    rw [HV.out]
    obtain ⟨lb, lo, rfl, c0, hlt⟩ := HGET.out 0 (by decide)
    obtain ⟨_, _, e1, c1, -⟩ := HGET.out 1 (by decide)
    cases e1
    have hlt1 : lb < w.heap.size + 1 := by omega
    have hlt2 : lb < w.heap.size + 1 + 1 := by omega
    rw [Nat.add_zero] at c0
    obtain ⟨q0, q1, q2, q3⟩ := HX.out
    rw [q0] at c0
    rw [q1] at c1
    clear q0 q1 q2 q3
    have hll : (1 : Int) < (l.length : Int) := by have := HLN.out; omega
    have hl0 : (0 : Int) < (l.length : Int) := by omega
    go_enter Tryd.func54, Tryd.ntmps54
    go_wp2
    refine wp_loop_rounds 5 ?_
    rw [rounds_succ]
    go_wp2
    rw [rounds_succ]
    go_wp2
    rw [rounds_succ]
    go_wp2
    rw [rounds_succ]
    go_wp2
    rw [rounds_succ]
    go_wp2
    refine bodyPost_ret (v := .agg #[.int .i64 num, .int .u32 x0, .int .u32 x1, .int .u32 0, .int .u32 0]) (by simp [results, Tryd.results54, go_sem]) rfl ⟨rfl, ?_⟩
    repeat (first | exact Below.refl _ _ | refine Below.alloc ?_ (by first | (simp; done) | (simp; omega)) _ | refine Below.setCell ?_ (by first | (simp; done) | (simp; omega)) _)
  · have HV : Hid ((cutL num ((3 : Nat) : Int) l).v = .agg #[.int .i64 num, .int .u32 x0, .int .u32 x1, .int .u32 x2, .int .u32 0]) := Lib.hid (by
      obtain ⟨e0, e1, e2, e3⟩ := HX.out
      unfold cutL Hc.v
      simp [← e0, ← e1, ← e2, ← e3])
    rw [HV.out]
    obtain ⟨lb, lo, rfl, c0, hlt⟩ := HGET.out 0 (by decide)
    obtain ⟨_, _, e1, c1, -⟩ := HGET.out 1 (by decide)
    cases e1
    obtain ⟨_, _, e2, c2, -⟩ := HGET.out 2 (by decide)
    cases e2
    have hlt1 : lb < w.heap.size + 1 := by omega
    have hlt2 : lb < w.heap.size + 1 + 1 := by omega
    rw [Nat.add_zero] at c0
    obtain ⟨q0, q1, q2, q3⟩ := HX.out
    rw [q0] at c0
    rw [q1] at c1
    rw [q2] at c2
    clear q0 q1 q2 q3
    have hll : (2 : Int) < (l.length : Int) := by have := HLN.out; omega
    have hl0 : (0 : Int) < (l.length : Int) := by omega
    have hl1 : (1 : Int) < (l.length : Int) := by omega
    go_enter Tryd.func54, Tryd.ntmps54
    go_wp2
    refine wp_loop_rounds 5 ?_
    rw [rounds_succ]
    go_wp2
    rw [rounds_succ]
    go_wp2
    rw [rounds_succ]
    go_wp2
    rw [rounds_succ]
    go_wp2
    rw [rounds_succ]
    go_wp2
    refine bodyPost_ret (v := .agg #[.int .i64 num, .int .u32 x0, .int .u32 x1, .int .u32 x2, .int .u32 0]) (by simp [results, Tryd.results54, go_sem]) rfl ⟨rfl, ?_⟩
    repeat (first | exact Below.refl _ _ | refine Below.alloc ?_ (by first | (simp; done) | (simp; omega)) _ | refine Below.setCell ?_ (by first | (simp; done) | (simp; omega)) _)
  · have HV : Hid ((cutL num ((4 : Nat) : Int) l).v = .agg #[.int .i64 num, .int .u32 x0, .int .u32 x1, .int .u32 x2, .int .u32 x3]) := Lib.hid (by
      obtain ⟨e0, e1, e2, e3⟩ := HX.out
      unfold cutL Hc.v
      simp [← e0, ← e1, ← e2, ← e3])
    rw [HV.out]
    obtain ⟨lb, lo, rfl, c0, hlt⟩ := HGET.out 0 (by decide)
    obtain ⟨_, _, e1, c1, -⟩ := HGET.out 1 (by decide)
    cases e1
    obtain ⟨_, _, e2, c2, -⟩ := HGET.out 2 (by decide)
    cases e2
    obtain ⟨_, _, e3, c3, -⟩ := HGET.out 3 (by decide)
    cases e3
    have hlt1 : lb < w.heap.size + 1 := by omega
    have hlt2 : lb < w.heap.size + 1 + 1 := by omega
    rw [Nat.add_zero] at c0
    obtain ⟨q0, q1, q2, q3⟩ := HX.out
    rw [q0] at c0
    rw [q1] at c1
    rw [q2] at c2
    rw [q3] at c3
    clear q0 q1 q2 q3
    have hll : (3 : Int) < (l.length : Int) := by have := HLN.out; omega
    have hl0 : (0 : Int) < (l.length : Int) := by omega
    have hl1 : (1 : Int) < (l.length : Int) := by omega
    have hl2 : (2 : Int) < (l.length : Int) := by omega
    go_enter Tryd.func54, Tryd.ntmps54
    go_wp2
    refine wp_loop_rounds 5 ?_
    rw [rounds_succ]
    go_wp2
    rw [rounds_succ]
    go_wp2
    rw [rounds_succ]
    go_wp2
    rw [rounds_succ]
    go_wp2
    rw [rounds_succ]
    go_wp2
    refine bodyPost_ret (v := .agg #[.int .i64 num, .int .u32 x0, .int .u32 x1, .int .u32 x2, .int .u32 x3]) (by simp [results, Tryd.results54, go_sem]) rfl ⟨rfl, ?_⟩
    repeat (first | exact Below.refl _ _ | refine Below.alloc ?_ (by first | (simp; done) | (simp; omega)) _ | refine Below.setCell ?_ (by first | (simp; done) | (simp; omega)) _)
end Go.Proofs.YtpmbbbgmaipmbaaDoor
