/-
  Chapter 4: the small functions: what an instruction's operands are, its class, what is reckoned of two words.
-/
import Derived.Test.YtikioeddilgbpaaLaw
import Derived.BigQuiet
import Derived.Deep.RegionHeld3
import Derived.Lib.Hide
namespace Go.Proofs.Ytikioeddilgbpaa
open Go.RowKit

theorem res4 {fn : Func} {t u v x : Tmp} (h : fn.results = #[.tmp t, .tmp u, .tmp v, .tmp x]) (tmps : Array Value) (P : Program) (w : World) :
    (results fn tmps).run P w = .ok (.tuple #[tmps.getD t undef, tmps.getD u undef, tmps.getD v undef, tmps.getD x undef]) w := by
  simp [results, h]
set_option linter.unusedSimpArgs false
structure Ins where
  op : Int
  a : Int
  b : Int
  c : Int
  imm : Int
abbrev insV (i : Ins) : Value := .agg #[.int .i64 i.op, .int .i64 i.a, .int .i64 i.b, .int .i64 i.c, .int .u32 i.imm]
def lk1 : List Int := [14, 15, 20, 21, 23, 32, 33, 35, 36, 39, 40, 43, 44, 66, 67]
def lk2 : List Int := [2, 37, 38, 41]
def lk3 : List Int := [3, 4, 5, 6, 7, 8, 9, 10, 11, 24]
def lk4 : List Int := [12, 13]
def lk5 : List Int := [17, 18]
def lkA : List Int := [14, 15, 20, 21, 23, 32, 33, 35, 36, 39, 40, 43, 44, 66, 67, 2, 37, 38, 41, 3, 4, 5, 6, 7, 8, 9, 10, 11, 24, 12, 13, 16, 17, 18]
def lkU : List Int := [1, 34, 42, 64, 65, 19, 22, 96, 2, 37, 38, 41, 12, 13, 16, 17, 18, 3, 4, 5, 6, 7, 8, 9, 10, 11, 24]
def lkN : List Int := [1, 34, 42, 64, 65, 19, 22, 96]
def lkT : List Int := [14, 15, 19, 20, 21, 22, 96]
def lkJ : List Int := [16, 17, 18, 19, 20, 21, 22, 23]
def opk (op : Int) : Int × Int × Int := if op ∈ lk1 then (1, 0, 0) else if op ∈ lk2 then (1, 1, 0) else if op ∈ lk3 then (1, 1, 1) else if op ∈ lk4 then (1, 1, 2) else if op = 16 then (0, 0, 2) else if op ∈ lk5 then (1, 0, 2) else (0, 0, 0)
theorem opk_other {op : Int} (h : ¬ op ∈ lkA) : opk op = (0, 0, 0) := by
  unfold opk
  have h1 : ¬ op ∈ lk1 := fun g => h (by simp only [lk1, lkA, List.mem_cons, List.not_mem_nil, or_false] at g ⊢; omega)
  have h2 : ¬ op ∈ lk2 := fun g => h (by simp only [lk2, lkA, List.mem_cons, List.not_mem_nil, or_false] at g ⊢; omega)
  have h3 : ¬ op ∈ lk3 := fun g => h (by simp only [lk3, lkA, List.mem_cons, List.not_mem_nil, or_false] at g ⊢; omega)
  have h4 : ¬ op ∈ lk4 := fun g => h (by simp only [lk4, lkA, List.mem_cons, List.not_mem_nil, or_false] at g ⊢; omega)
  have h5 : ¬ op = 16 := fun g => h (by simp only [lkA, List.mem_cons, List.not_mem_nil, or_false]; omega)
  have h6 : ¬ op ∈ lk5 := fun g => h (by simp only [lk5, lkA, List.mem_cons, List.not_mem_nil, or_false] at g ⊢; omega)
  rw [if_neg h1, if_neg h2, if_neg h3, if_neg h4, if_neg h5, if_neg h6]
def two (op : Int) : Bool := decide (op ∈ lkT)
def jmp (op : Int) : Bool := decide (op ∈ lkJ)
def cls (op : Int) : Int := if 1 ≤ op ∧ op ≤ 24 then 1 else if 32 ≤ op ∧ op ≤ 44 then 2 else if 64 ≤ op ∧ op ≤ 67 then 3 else if op = 96 then 4 else 0
def usk (op : Int) : Bool × Bool × Bool × Bool := if op ∈ lkN then (false, false, false, false) else if op ∈ lk2 then (true, true, false, false) else if op ∈ lk4 then (true, true, true, true) else if op = 16 then (false, false, true, true) else if op ∈ lk5 then (true, false, true, true) else if op ∈ lk3 then (true, true, true, false) else (true, false, false, false)
theorem usk_other {op : Int} (h : ¬ op ∈ lkU) : usk op = (true, false, false, false) := by
  unfold usk
  have h1 : ¬ op ∈ lkN := fun g => h (by simp only [lkN, lkU, List.mem_cons, List.not_mem_nil, or_false] at g ⊢; omega)
  have h2 : ¬ op ∈ lk2 := fun g => h (by simp only [lk2, lkU, List.mem_cons, List.not_mem_nil, or_false] at g ⊢; omega)
  have h3 : ¬ op ∈ lk3 := fun g => h (by simp only [lk3, lkU, List.mem_cons, List.not_mem_nil, or_false] at g ⊢; omega)
  have h4 : ¬ op ∈ lk4 := fun g => h (by simp only [lk4, lkU, List.mem_cons, List.not_mem_nil, or_false] at g ⊢; omega)
  have h5 : ¬ op = 16 := fun g => h (by simp only [lkU, List.mem_cons, List.not_mem_nil, or_false]; omega)
  have h6 : ¬ op ∈ lk5 := fun g => h (by simp only [lk5, lkU, List.mem_cons, List.not_mem_nil, or_false] at g ⊢; omega)
  rw [if_neg h1, if_neg h2, if_neg h4, if_neg h5, if_neg h6, if_neg h3]

def opkV (op : Int) : Value := .tuple #[.int .i64 (opk op).1, .int .i64 (opk op).2.1, .int .i64 (opk op).2.2]
set_option maxRecDepth 100000 in
set_option maxHeartbeats 4000000 in
theorem operands_any (op : Int) (w : World) : Calls Try.prog 23 #[.int .i64 op] w fun e w' => e = .returned (opkV op) ∧ w = w' := by
  by_cases h : op ∈ lkA
  · simp only [lkA, List.mem_cons, List.not_mem_nil, or_false] at h
    rcases h with rfl | rfl | rfl | rfl | rfl | rfl | rfl | rfl | rfl | rfl | rfl | rfl | rfl | rfl | rfl | rfl | rfl | rfl | rfl | rfl | rfl | rfl | rfl | rfl | rfl | rfl | rfl | rfl | rfl | rfl | rfl | rfl | rfl | rfl
    all_goals
      go_enter Try.func23, Try.ntmps23
      go_wp2
      go_ret3
      exact ⟨rfl, rfl⟩
  · have HO := Lib.hid (opk_other h)
    have h14 : (op == 14) = false := by rw [beq_eq_false_iff_ne]; rintro rfl; exact h (by decide)
    have h15 : (op == 15) = false := by rw [beq_eq_false_iff_ne]; rintro rfl; exact h (by decide)
    have h20 : (op == 20) = false := by rw [beq_eq_false_iff_ne]; rintro rfl; exact h (by decide)
    have h21 : (op == 21) = false := by rw [beq_eq_false_iff_ne]; rintro rfl; exact h (by decide)
    have h23 : (op == 23) = false := by rw [beq_eq_false_iff_ne]; rintro rfl; exact h (by decide)
    have h32 : (op == 32) = false := by rw [beq_eq_false_iff_ne]; rintro rfl; exact h (by decide)
    have h33 : (op == 33) = false := by rw [beq_eq_false_iff_ne]; rintro rfl; exact h (by decide)
    have h35 : (op == 35) = false := by rw [beq_eq_false_iff_ne]; rintro rfl; exact h (by decide)
    have h36 : (op == 36) = false := by rw [beq_eq_false_iff_ne]; rintro rfl; exact h (by decide)
    have h39 : (op == 39) = false := by rw [beq_eq_false_iff_ne]; rintro rfl; exact h (by decide)
    have h40 : (op == 40) = false := by rw [beq_eq_false_iff_ne]; rintro rfl; exact h (by decide)
    have h43 : (op == 43) = false := by rw [beq_eq_false_iff_ne]; rintro rfl; exact h (by decide)
    have h44 : (op == 44) = false := by rw [beq_eq_false_iff_ne]; rintro rfl; exact h (by decide)
    have h66 : (op == 66) = false := by rw [beq_eq_false_iff_ne]; rintro rfl; exact h (by decide)
    have h67 : (op == 67) = false := by rw [beq_eq_false_iff_ne]; rintro rfl; exact h (by decide)
    have h2 : (op == 2) = false := by rw [beq_eq_false_iff_ne]; rintro rfl; exact h (by decide)
    have h37 : (op == 37) = false := by rw [beq_eq_false_iff_ne]; rintro rfl; exact h (by decide)
    have h38 : (op == 38) = false := by rw [beq_eq_false_iff_ne]; rintro rfl; exact h (by decide)
    have h41 : (op == 41) = false := by rw [beq_eq_false_iff_ne]; rintro rfl; exact h (by decide)
    have h3 : (op == 3) = false := by rw [beq_eq_false_iff_ne]; rintro rfl; exact h (by decide)
    have h4 : (op == 4) = false := by rw [beq_eq_false_iff_ne]; rintro rfl; exact h (by decide)
    have h5 : (op == 5) = false := by rw [beq_eq_false_iff_ne]; rintro rfl; exact h (by decide)
    have h6 : (op == 6) = false := by rw [beq_eq_false_iff_ne]; rintro rfl; exact h (by decide)
    have h7 : (op == 7) = false := by rw [beq_eq_false_iff_ne]; rintro rfl; exact h (by decide)
    have h8 : (op == 8) = false := by rw [beq_eq_false_iff_ne]; rintro rfl; exact h (by decide)
    have h9 : (op == 9) = false := by rw [beq_eq_false_iff_ne]; rintro rfl; exact h (by decide)
    have h10 : (op == 10) = false := by rw [beq_eq_false_iff_ne]; rintro rfl; exact h (by decide)
    have h11 : (op == 11) = false := by rw [beq_eq_false_iff_ne]; rintro rfl; exact h (by decide)
    have h24 : (op == 24) = false := by rw [beq_eq_false_iff_ne]; rintro rfl; exact h (by decide)
    have h12 : (op == 12) = false := by rw [beq_eq_false_iff_ne]; rintro rfl; exact h (by decide)
    have h13 : (op == 13) = false := by rw [beq_eq_false_iff_ne]; rintro rfl; exact h (by decide)
    have h16 : (op == 16) = false := by rw [beq_eq_false_iff_ne]; rintro rfl; exact h (by decide)
    have h17 : (op == 17) = false := by rw [beq_eq_false_iff_ne]; rintro rfl; exact h (by decide)
    have h18 : (op == 18) = false := by rw [beq_eq_false_iff_ne]; rintro rfl; exact h (by decide)
    clear h
    go_enter Try.func23, Try.ntmps23
    go_wp2
    go_ret3
    exact ⟨by unfold opkV; rw [HO.out]; rfl, rfl⟩

def uskV (op : Int) : Value := .tuple #[.bool (usk op).1, .bool (usk op).2.1, .bool (usk op).2.2.1, .bool (usk op).2.2.2]
set_option maxRecDepth 100000 in
set_option maxHeartbeats 4000000 in
theorem uses_any (op : Int) (w : World) : Calls Try.prog 38 #[.int .i64 op] w fun e w' => e = .returned (uskV op) ∧ w = w' := by
  by_cases h : op ∈ lkU
  · simp only [lkU, List.mem_cons, List.not_mem_nil, or_false] at h
    rcases h with rfl | rfl | rfl | rfl | rfl | rfl | rfl | rfl | rfl | rfl | rfl | rfl | rfl | rfl | rfl | rfl | rfl | rfl | rfl | rfl | rfl | rfl | rfl | rfl | rfl | rfl | rfl
    all_goals
      go_enter Try.func38, Try.ntmps38
      go_wp2
      try simp only [Exit.inBlock, Exit.then]
      refine bodyPost_ret (res4 rfl _ _ _) rfl ?_
      exact ⟨rfl, rfl⟩
  · have HO := Lib.hid (usk_other h)
    have h1 : (op == 1) = false := by rw [beq_eq_false_iff_ne]; rintro rfl; exact h (by decide)
    have h34 : (op == 34) = false := by rw [beq_eq_false_iff_ne]; rintro rfl; exact h (by decide)
    have h42 : (op == 42) = false := by rw [beq_eq_false_iff_ne]; rintro rfl; exact h (by decide)
    have h64 : (op == 64) = false := by rw [beq_eq_false_iff_ne]; rintro rfl; exact h (by decide)
    have h65 : (op == 65) = false := by rw [beq_eq_false_iff_ne]; rintro rfl; exact h (by decide)
    have h19 : (op == 19) = false := by rw [beq_eq_false_iff_ne]; rintro rfl; exact h (by decide)
    have h22 : (op == 22) = false := by rw [beq_eq_false_iff_ne]; rintro rfl; exact h (by decide)
    have h96 : (op == 96) = false := by rw [beq_eq_false_iff_ne]; rintro rfl; exact h (by decide)
    have h2 : (op == 2) = false := by rw [beq_eq_false_iff_ne]; rintro rfl; exact h (by decide)
    have h37 : (op == 37) = false := by rw [beq_eq_false_iff_ne]; rintro rfl; exact h (by decide)
    have h38 : (op == 38) = false := by rw [beq_eq_false_iff_ne]; rintro rfl; exact h (by decide)
    have h41 : (op == 41) = false := by rw [beq_eq_false_iff_ne]; rintro rfl; exact h (by decide)
    have h12 : (op == 12) = false := by rw [beq_eq_false_iff_ne]; rintro rfl; exact h (by decide)
    have h13 : (op == 13) = false := by rw [beq_eq_false_iff_ne]; rintro rfl; exact h (by decide)
    have h16 : (op == 16) = false := by rw [beq_eq_false_iff_ne]; rintro rfl; exact h (by decide)
    have h17 : (op == 17) = false := by rw [beq_eq_false_iff_ne]; rintro rfl; exact h (by decide)
    have h18 : (op == 18) = false := by rw [beq_eq_false_iff_ne]; rintro rfl; exact h (by decide)
    have h3 : (op == 3) = false := by rw [beq_eq_false_iff_ne]; rintro rfl; exact h (by decide)
    have h4 : (op == 4) = false := by rw [beq_eq_false_iff_ne]; rintro rfl; exact h (by decide)
    have h5 : (op == 5) = false := by rw [beq_eq_false_iff_ne]; rintro rfl; exact h (by decide)
    have h6 : (op == 6) = false := by rw [beq_eq_false_iff_ne]; rintro rfl; exact h (by decide)
    have h7 : (op == 7) = false := by rw [beq_eq_false_iff_ne]; rintro rfl; exact h (by decide)
    have h8 : (op == 8) = false := by rw [beq_eq_false_iff_ne]; rintro rfl; exact h (by decide)
    have h9 : (op == 9) = false := by rw [beq_eq_false_iff_ne]; rintro rfl; exact h (by decide)
    have h10 : (op == 10) = false := by rw [beq_eq_false_iff_ne]; rintro rfl; exact h (by decide)
    have h11 : (op == 11) = false := by rw [beq_eq_false_iff_ne]; rintro rfl; exact h (by decide)
    have h24 : (op == 24) = false := by rw [beq_eq_false_iff_ne]; rintro rfl; exact h (by decide)
    clear h
    go_enter Try.func38, Try.ntmps38
    go_wp2
    try simp only [Exit.inBlock, Exit.then]
    refine bodyPost_ret (res4 rfl _ _ _) rfl ?_
    exact ⟨by unfold uskV; rw [HO.out]; rfl, rfl⟩

set_option maxRecDepth 100000 in
set_option maxHeartbeats 2000000 in
theorem two_any (op : Int) (w : World) : Calls Try.prog 24 #[.agg #[], .int .i64 op] w fun e w' => e = .returned (.bool (two op)) ∧ Below w.heap.size w w' := by
  by_cases h : op ∈ lkT
  · simp only [lkT, List.mem_cons, List.not_mem_nil, or_false] at h
    rcases h with rfl | rfl | rfl | rfl | rfl | rfl | rfl
    all_goals
      go_enter Try.func24, Try.ntmps24
      go_wp2
      go_ret
      exact ⟨rfl, (Below.refl _ _).alloc (Nat.le_refl _) _⟩
  · have HO : Hid (two op = false) := Lib.hid (decide_eq_false h)
    have h14 : (op == 14) = false := by rw [beq_eq_false_iff_ne]; rintro rfl; exact h (by decide)
    have h15 : (op == 15) = false := by rw [beq_eq_false_iff_ne]; rintro rfl; exact h (by decide)
    have h19 : (op == 19) = false := by rw [beq_eq_false_iff_ne]; rintro rfl; exact h (by decide)
    have h20 : (op == 20) = false := by rw [beq_eq_false_iff_ne]; rintro rfl; exact h (by decide)
    have h21 : (op == 21) = false := by rw [beq_eq_false_iff_ne]; rintro rfl; exact h (by decide)
    have h22 : (op == 22) = false := by rw [beq_eq_false_iff_ne]; rintro rfl; exact h (by decide)
    have h96 : (op == 96) = false := by rw [beq_eq_false_iff_ne]; rintro rfl; exact h (by decide)
    clear h
    go_enter Try.func24, Try.ntmps24
    go_wp2
    go_ret
    exact ⟨by rw [HO.out]; rfl, (Below.refl _ _).alloc (Nat.le_refl _) _⟩

set_option maxRecDepth 100000 in
set_option maxHeartbeats 2000000 in
theorem jmp_any (op : Int) (w : World) : Calls Try.prog 21 #[.agg #[], .int .i64 op] w fun e w' => e = .returned (.bool (jmp op)) ∧ Below w.heap.size w w' := by
  by_cases h : op ∈ lkJ
  · simp only [lkJ, List.mem_cons, List.not_mem_nil, or_false] at h
    rcases h with rfl | rfl | rfl | rfl | rfl | rfl | rfl | rfl
    all_goals
      go_enter Try.func21, Try.ntmps21
      go_wp2
      go_ret
      exact ⟨rfl, (Below.refl _ _).alloc (Nat.le_refl _) _⟩
  · have HO : Hid (jmp op = false) := Lib.hid (decide_eq_false h)
    have h16 : (op == 16) = false := by rw [beq_eq_false_iff_ne]; rintro rfl; exact h (by decide)
    have h17 : (op == 17) = false := by rw [beq_eq_false_iff_ne]; rintro rfl; exact h (by decide)
    have h18 : (op == 18) = false := by rw [beq_eq_false_iff_ne]; rintro rfl; exact h (by decide)
    have h19 : (op == 19) = false := by rw [beq_eq_false_iff_ne]; rintro rfl; exact h (by decide)
    have h20 : (op == 20) = false := by rw [beq_eq_false_iff_ne]; rintro rfl; exact h (by decide)
    have h21 : (op == 21) = false := by rw [beq_eq_false_iff_ne]; rintro rfl; exact h (by decide)
    have h22 : (op == 22) = false := by rw [beq_eq_false_iff_ne]; rintro rfl; exact h (by decide)
    have h23 : (op == 23) = false := by rw [beq_eq_false_iff_ne]; rintro rfl; exact h (by decide)
    clear h
    go_enter Try.func21, Try.ntmps21
    go_wp2
    go_ret
    exact ⟨by rw [HO.out]; rfl, (Below.refl _ _).alloc (Nat.le_refl _) _⟩

set_option maxRecDepth 100000 in
set_option maxHeartbeats 2000000 in
theorem rtwo_any (op : Int) (w : World) : Calls Try.prog 41 #[.int .i64 op] w fun e w' => e = .returned (.bool (two op)) ∧ w = w' := by
  by_cases h : op ∈ lkT
  · simp only [lkT, List.mem_cons, List.not_mem_nil, or_false] at h
    rcases h with rfl | rfl | rfl | rfl | rfl | rfl | rfl
    all_goals
      go_enter Try.func41, Try.ntmps41
      go_wp2
      go_ret
      exact ⟨rfl, rfl⟩
  · have HO : Hid (two op = false) := Lib.hid (decide_eq_false h)
    have h14 : (op == 14) = false := by rw [beq_eq_false_iff_ne]; rintro rfl; exact h (by decide)
    have h15 : (op == 15) = false := by rw [beq_eq_false_iff_ne]; rintro rfl; exact h (by decide)
    have h19 : (op == 19) = false := by rw [beq_eq_false_iff_ne]; rintro rfl; exact h (by decide)
    have h20 : (op == 20) = false := by rw [beq_eq_false_iff_ne]; rintro rfl; exact h (by decide)
    have h21 : (op == 21) = false := by rw [beq_eq_false_iff_ne]; rintro rfl; exact h (by decide)
    have h22 : (op == 22) = false := by rw [beq_eq_false_iff_ne]; rintro rfl; exact h (by decide)
    have h96 : (op == 96) = false := by rw [beq_eq_false_iff_ne]; rintro rfl; exact h (by decide)
    clear h
    go_enter Try.func41, Try.ntmps41
    go_wp2
    go_ret
    exact ⟨by rw [HO.out]; rfl, rfl⟩

set_option maxHeartbeats 2000000 in
theorem class_any (op : Int) (w : World) : Calls Try.prog 25 #[.agg #[], .int .i64 op] w fun e w' => e = .returned (.int .i64 (cls op)) ∧ Below w.heap.size w w' := by
  have k : op < 1 ∨ (1 ≤ op ∧ op ≤ 24) ∨ (24 < op ∧ op < 32) ∨ (32 ≤ op ∧ op ≤ 44) ∨ (44 < op ∧ op < 64) ∨ (64 ≤ op ∧ op ≤ 67) ∨ (67 < op ∧ ¬ op = 96) ∨ op = 96 := by omega
  rcases k with k | k | k | k | k | k | k | k
  · have HC : Hid (cls op = 0) := Lib.hid (by unfold cls; repeat (first | rw [if_pos (by omega)] | rw [if_neg (by omega)]))
    have f0 : ¬ (1 : Int) ≤ op := by omega
    have f1 : ¬ (32 : Int) ≤ op := by omega
    have f2 : ¬ (64 : Int) ≤ op := by omega
    have f3 : (op == 96) = false := by rw [beq_eq_false_iff_ne]; omega
    clear k
    go_enter Try.func25, Try.ntmps25
    go_wp2
    go_ret
    exact ⟨by rw [HC.out]; rfl, (Below.refl _ _).alloc (Nat.le_refl _) _⟩
  · have HC : Hid (cls op = 1) := Lib.hid (by unfold cls; repeat (first | rw [if_pos (by omega)] | rw [if_neg (by omega)]))
    have f0 : (1 : Int) ≤ op := by omega
    have f1 : op ≤ 24 := by omega
    clear k
    go_enter Try.func25, Try.ntmps25
    go_wp2
    go_ret
    exact ⟨by rw [HC.out]; rfl, (Below.refl _ _).alloc (Nat.le_refl _) _⟩
  · have HC : Hid (cls op = 0) := Lib.hid (by unfold cls; repeat (first | rw [if_pos (by omega)] | rw [if_neg (by omega)]))
    have f0 : (1 : Int) ≤ op := by omega
    have f1 : ¬ op ≤ 24 := by omega
    have f2 : ¬ (32 : Int) ≤ op := by omega
    have f3 : ¬ (64 : Int) ≤ op := by omega
    have f4 : (op == 96) = false := by rw [beq_eq_false_iff_ne]; omega
    clear k
    go_enter Try.func25, Try.ntmps25
    go_wp2
    go_ret
    exact ⟨by rw [HC.out]; rfl, (Below.refl _ _).alloc (Nat.le_refl _) _⟩
  · have HC : Hid (cls op = 2) := Lib.hid (by unfold cls; repeat (first | rw [if_pos (by omega)] | rw [if_neg (by omega)]))
    have f0 : (1 : Int) ≤ op := by omega
    have f1 : ¬ op ≤ 24 := by omega
    have f2 : (32 : Int) ≤ op := by omega
    have f3 : op ≤ 44 := by omega
    clear k
    go_enter Try.func25, Try.ntmps25
    go_wp2
    go_ret
    exact ⟨by rw [HC.out]; rfl, (Below.refl _ _).alloc (Nat.le_refl _) _⟩
  · have HC : Hid (cls op = 0) := Lib.hid (by unfold cls; repeat (first | rw [if_pos (by omega)] | rw [if_neg (by omega)]))
    have f0 : (1 : Int) ≤ op := by omega
    have f1 : ¬ op ≤ 24 := by omega
    have f2 : (32 : Int) ≤ op := by omega
    have f3 : ¬ op ≤ 44 := by omega
    have f4 : ¬ (64 : Int) ≤ op := by omega
    have f5 : (op == 96) = false := by rw [beq_eq_false_iff_ne]; omega
    clear k
    go_enter Try.func25, Try.ntmps25
    go_wp2
    go_ret
    exact ⟨by rw [HC.out]; rfl, (Below.refl _ _).alloc (Nat.le_refl _) _⟩
  · have HC : Hid (cls op = 3) := Lib.hid (by unfold cls; repeat (first | rw [if_pos (by omega)] | rw [if_neg (by omega)]))
    have f0 : (1 : Int) ≤ op := by omega
    have f1 : ¬ op ≤ 24 := by omega
    have f2 : (32 : Int) ≤ op := by omega
    have f3 : ¬ op ≤ 44 := by omega
    have f4 : (64 : Int) ≤ op := by omega
    have f5 : op ≤ 67 := by omega
    clear k
    go_enter Try.func25, Try.ntmps25
    go_wp2
    go_ret
    exact ⟨by rw [HC.out]; rfl, (Below.refl _ _).alloc (Nat.le_refl _) _⟩
  · have HC : Hid (cls op = 0) := Lib.hid (by unfold cls; repeat (first | rw [if_pos (by omega)] | rw [if_neg (by omega)]))
    have f0 : (1 : Int) ≤ op := by omega
    have f1 : ¬ op ≤ 24 := by omega
    have f2 : (32 : Int) ≤ op := by omega
    have f3 : ¬ op ≤ 44 := by omega
    have f4 : (64 : Int) ≤ op := by omega
    have f5 : ¬ op ≤ 67 := by omega
    have f6 : (op == 96) = false := by rw [beq_eq_false_iff_ne]; omega
    clear k
    go_enter Try.func25, Try.ntmps25
    go_wp2
    go_ret
    exact ⟨by rw [HC.out]; rfl, (Below.refl _ _).alloc (Nat.le_refl _) _⟩
  · subst k
    have HC : Hid (cls 96 = 4) := Lib.hid rfl
    go_enter Try.func25, Try.ntmps25
    go_wp2
    go_ret
    exact ⟨by rw [HC.out]; rfl, (Below.refl _ _).alloc (Nat.le_refl _) _⟩

set_option maxHeartbeats 2000000 in
theorem rclass_any (op : Int) (w : World) : Calls Try.prog 39 #[.int .i64 op] w fun e w' => e = .returned (.int .i64 (cls op)) ∧ w = w' := by
  have k : op < 1 ∨ (1 ≤ op ∧ op ≤ 24) ∨ (24 < op ∧ op < 32) ∨ (32 ≤ op ∧ op ≤ 44) ∨ (44 < op ∧ op < 64) ∨ (64 ≤ op ∧ op ≤ 67) ∨ (67 < op ∧ ¬ op = 96) ∨ op = 96 := by omega
  rcases k with k | k | k | k | k | k | k | k
  · have HC : Hid (cls op = 0) := Lib.hid (by unfold cls; repeat (first | rw [if_pos (by omega)] | rw [if_neg (by omega)]))
    have f0 : ¬ (1 : Int) ≤ op := by omega
    have f1 : ¬ (32 : Int) ≤ op := by omega
    have f2 : ¬ (64 : Int) ≤ op := by omega
    have f3 : (op == 96) = false := by rw [beq_eq_false_iff_ne]; omega
    clear k
    go_enter Try.func39, Try.ntmps39
    go_wp2
    go_ret
    exact ⟨by rw [HC.out]; rfl, rfl⟩
  · have HC : Hid (cls op = 1) := Lib.hid (by unfold cls; repeat (first | rw [if_pos (by omega)] | rw [if_neg (by omega)]))
    have f0 : (1 : Int) ≤ op := by omega
    have f1 : op ≤ 24 := by omega
    clear k
    go_enter Try.func39, Try.ntmps39
    go_wp2
    go_ret
    exact ⟨by rw [HC.out]; rfl, rfl⟩
  · have HC : Hid (cls op = 0) := Lib.hid (by unfold cls; repeat (first | rw [if_pos (by omega)] | rw [if_neg (by omega)]))
    have f0 : (1 : Int) ≤ op := by omega
    have f1 : ¬ op ≤ 24 := by omega
    have f2 : ¬ (32 : Int) ≤ op := by omega
    have f3 : ¬ (64 : Int) ≤ op := by omega
    have f4 : (op == 96) = false := by rw [beq_eq_false_iff_ne]; omega
    clear k
    go_enter Try.func39, Try.ntmps39
    go_wp2
    go_ret
    exact ⟨by rw [HC.out]; rfl, rfl⟩
  · have HC : Hid (cls op = 2) := Lib.hid (by unfold cls; repeat (first | rw [if_pos (by omega)] | rw [if_neg (by omega)]))
    have f0 : (1 : Int) ≤ op := by omega
    have f1 : ¬ op ≤ 24 := by omega
    have f2 : (32 : Int) ≤ op := by omega
    have f3 : op ≤ 44 := by omega
    clear k
    go_enter Try.func39, Try.ntmps39
    go_wp2
    go_ret
    exact ⟨by rw [HC.out]; rfl, rfl⟩
  · have HC : Hid (cls op = 0) := Lib.hid (by unfold cls; repeat (first | rw [if_pos (by omega)] | rw [if_neg (by omega)]))
    have f0 : (1 : Int) ≤ op := by omega
    have f1 : ¬ op ≤ 24 := by omega
    have f2 : (32 : Int) ≤ op := by omega
    have f3 : ¬ op ≤ 44 := by omega
    have f4 : ¬ (64 : Int) ≤ op := by omega
    have f5 : (op == 96) = false := by rw [beq_eq_false_iff_ne]; omega
    clear k
    go_enter Try.func39, Try.ntmps39
    go_wp2
    go_ret
    exact ⟨by rw [HC.out]; rfl, rfl⟩
  · have HC : Hid (cls op = 3) := Lib.hid (by unfold cls; repeat (first | rw [if_pos (by omega)] | rw [if_neg (by omega)]))
    have f0 : (1 : Int) ≤ op := by omega
    have f1 : ¬ op ≤ 24 := by omega
    have f2 : (32 : Int) ≤ op := by omega
    have f3 : ¬ op ≤ 44 := by omega
    have f4 : (64 : Int) ≤ op := by omega
    have f5 : op ≤ 67 := by omega
    clear k
    go_enter Try.func39, Try.ntmps39
    go_wp2
    go_ret
    exact ⟨by rw [HC.out]; rfl, rfl⟩
  · have HC : Hid (cls op = 0) := Lib.hid (by unfold cls; repeat (first | rw [if_pos (by omega)] | rw [if_neg (by omega)]))
    have f0 : (1 : Int) ≤ op := by omega
    have f1 : ¬ op ≤ 24 := by omega
    have f2 : (32 : Int) ≤ op := by omega
    have f3 : ¬ op ≤ 44 := by omega
    have f4 : (64 : Int) ≤ op := by omega
    have f5 : ¬ op ≤ 67 := by omega
    have f6 : (op == 96) = false := by rw [beq_eq_false_iff_ne]; omega
    clear k
    go_enter Try.func39, Try.ntmps39
    go_wp2
    go_ret
    exact ⟨by rw [HC.out]; rfl, rfl⟩
  · subst k
    have HC : Hid (cls 96 = 4) := Lib.hid rfl
    go_enter Try.func39, Try.ntmps39
    go_wp2
    go_ret
    exact ⟨by rw [HC.out]; rfl, rfl⟩

theorem jmp_in {op : Int} (h : 16 ≤ op ∧ op ≤ 23) : jmp op = true := decide_eq_true (by simp only [lkJ, List.mem_cons, List.not_mem_nil, or_false]; omega)
theorem jmp_out {op : Int} (h : ¬ (16 ≤ op ∧ op ≤ 23)) : jmp op = false := decide_eq_false (fun g => h (by simp only [lkJ, List.mem_cons, List.not_mem_nil, or_false] at g; omega))
theorem rjmp_any (op : Int) (w : World) : Calls Try.prog 22 #[.int .i64 op] w fun e w' => e = .returned (.bool (jmp op)) ∧ w = w' := by
  by_cases h1 : (16 : Int) ≤ op
  · by_cases h2 : op ≤ 23
    · have HC := Lib.hid (jmp_in ⟨h1, h2⟩)
      go_enter Try.func22, Try.ntmps22
      go_wp2
      go_ret
      exact ⟨by rw [HC.out]; rfl, rfl⟩
    · have HC := Lib.hid (jmp_out (op := op) (by omega))
      go_enter Try.func22, Try.ntmps22
      go_wp2
      go_ret
      exact ⟨by rw [HC.out]; rfl, rfl⟩
  · have HC := Lib.hid (jmp_out (op := op) (by omega))
    go_enter Try.func22, Try.ntmps22
    go_wp2
    go_ret
    exact ⟨by rw [HC.out]; rfl, rfl⟩
theorem tables_any (w : World) : Calls Try.prog 20 #[] w fun e w' => e = .returned (.agg #[]) ∧ Below w.heap.size w w' := by
  go_enter Try.func20, Try.ntmps20
  go_wp2
  exact bodyPost_ret (v := .agg #[]) (by simp [results, Try.results20, go_sem]) rfl ⟨rfl, (Below.refl _ _).alloc (Nat.le_refl _) _⟩

def most (k : Int) : Int := if k = 0 then 0 else if k = 1 then 15 else 255
def fit (n k : Int) : Bool := decide (0 ≤ n) && decide (n ≤ most k)
set_option maxHeartbeats 1000000 in
theorem fits_any (n k : Int) (hk : k = 0 ∨ k = 1 ∨ k = 2) (w : World) : Calls Try.prog 26 #[.int .i64 n, .int .i64 k] w fun e w' => e = .returned (.bool (fit n k)) ∧ Below w.heap.size w w' := by
  have HF : Hid (fit n k = (decide (0 ≤ n) && decide (n ≤ most k))) := Lib.hid rfl
  rcases hk with rfl | rfl | rfl
  all_goals
    by_cases h0 : (0 : Int) ≤ n
    · go_enter Try.func26, Try.ntmps26
      go_wp2
      go_ret
      exact ⟨by rw [HF.out, decide_eq_true (show (0 : Int) ≤ n by omega)]; rfl, (Below.refl _ _).alloc (Nat.le_refl _) _⟩
    · go_enter Try.func26, Try.ntmps26
      go_wp2
      go_ret
      exact ⟨by rw [HF.out, decide_eq_false (show ¬ (0 : Int) ≤ n by omega)]; rfl, (Below.refl _ _).alloc (Nat.le_refl _) _⟩
def rreg (n : Int) (has : Bool) : Bool := decide (n = 0) || (has && decide (0 < n) && decide (n < 16))
set_option maxHeartbeats 1000000 in
theorem rreg_any (n : Int) (has : Bool) (w : World) : Calls Try.prog 40 #[.int .i64 n, .bool has] w fun e w' => e = .returned (.bool (rreg n has)) ∧ w = w' := by
  by_cases h0 : n = 0
  · subst h0
    have HF : Hid (rreg 0 has = true) := Lib.hid (by unfold rreg; simp)
    go_enter Try.func40, Try.ntmps40
    go_wp2
    go_ret
    exact ⟨by rw [HF.out]; rfl, rfl⟩
  · have h1 : (n == 0) = false := by rw [beq_eq_false_iff_ne]; exact h0
    cases has
    · have HF : Hid (rreg n false = false) := Lib.hid (by unfold rreg; simp [h0])
      clear h0
      go_enter Try.func40, Try.ntmps40
      go_wp2
      go_ret
      exact ⟨by rw [HF.out]; rfl, rfl⟩
    · by_cases h2 : (0 : Int) < n
      · have HF : Hid (rreg n true = decide (n < 16)) := Lib.hid (by unfold rreg; simp [h0, h2])
        clear h0
        go_enter Try.func40, Try.ntmps40
        go_wp2
        go_ret
        exact ⟨by rw [HF.out]; rfl, rfl⟩
      · have HF : Hid (rreg n true = false) := Lib.hid (by unfold rreg; simp [h0, h2])
        clear h0
        go_enter Try.func40, Try.ntmps40
        go_wp2
        go_ret
        exact ⟨by rw [HF.out]; rfl, rfl⟩
theorem one_any (is : Bool) (w : World) : Calls Try.prog 19 #[.bool is] w fun e w' => e = .returned (.int .u32 (if is then 1 else 0)) ∧ w = w' := by
  cases is
  all_goals
    go_enter Try.func19, Try.ntmps19
    go_wp2
    go_ret
    exact ⟨rfl, rfl⟩
end Go.Proofs.Ytikioeddilgbpaa
