/-
  Chapter 4: what is reckoned of two words, and which function reckons it.
-/
import Derived.Test.YtikioeddilgbpaaAlu1
import Derived.Test.YtikioeddilgbpaaSame
namespace Go.Proofs.Ytikioeddilgbpaa
open Go.RowKit

set_option linter.unusedSimpArgs false
abbrev prV (b c : Int) : Value := .agg #[.int .u32 b, .int .u32 c]
def U32 (x : Int) : Prop := 0 ≤ x ∧ x ≤ 4294967295
theorem and_31 (c : Int) (h : U32 c) : bits BinOp.and IntKind.u32 c 31 = c % 32 := by
  obtain ⟨n, rfl⟩ := Int.eq_ofNat_of_zero_le h.1
  have hn : n ≤ 4294967295 := by have := h.2; omega
  have o1 : BitVec.ofInt 32 (n : Int) = BitVec.ofNat 32 n := by apply BitVec.eq_of_toNat_eq; simp
  show IntKind.u32.wrap ((BitVec.ofInt 32 (n : Int) &&& BitVec.ofInt 32 31).toNat : Int) = _
  have o2 : BitVec.ofInt 32 31 = BitVec.ofNat 32 31 := rfl
  have e : n &&& 31 = n % 32 := Nat.and_two_pow_sub_one_eq_mod n 5
  rw [o1, o2, BitVec.toNat_and, BitVec.toNat_ofNat, BitVec.toNat_ofNat, Nat.mod_eq_of_lt (by omega), Nat.mod_eq_of_lt (by omega), e]
  have h1 : IntKind.u32.wrap ((n % 32 : Nat) : Int) = ((n % 32 : Nat) : Int) % 4294967296 := rfl
  rw [h1]
  omega
def shlV (b c : Int) : Int := IntKind.u32.wrap (b * 2 ^ (c % 32).toNat)
def shrV (b c : Int) : Int := b.fdiv (2 ^ (c % 32).toNat)
theorem run_shl (b c : Int) (h : U32 c) (P : Program) (W : World) : (Op.shift BinOp.shl IntKind.u32 b IntKind.u32 (bits BinOp.and IntKind.u32 c 31)).run P W = .ok (.int .u32 (shlV b c)) W := by
  rw [and_31 c h]
  have h0 : ¬ c % 32 < 0 := by omega
  have hm : min (c % 32).toNat IntKind.u32.bits = (c % 32).toNat := Nat.min_eq_left (by show (c % 32).toNat ≤ 32; omega)
  unfold Op.shift
  rw [if_neg h0, hm]
  rfl
theorem run_shr (b c : Int) (h : U32 c) (P : Program) (W : World) : (Op.shift BinOp.shr IntKind.u32 b IntKind.u32 (bits BinOp.and IntKind.u32 c 31)).run P W = .ok (.int .u32 (shrV b c)) W := by
  rw [and_31 c h]
  have h0 : ¬ c % 32 < 0 := by omega
  have hm : min (c % 32).toNat IntKind.u32.bits = (c % 32).toNat := Nat.min_eq_left (by show (c % 32).toNat ≤ 32; omega)
  unfold Op.shift
  rw [if_neg h0, hm]
  rfl
def ltV (b c : Int) : Int := if b < c then 1 else 0
def eqV (b c : Int) : Int := if b = c then 1 else 0
def rk (op b c : Int) : Int :=
  if op = 2 then b else if op = 3 then (b + c) % 4294967296 else if op = 4 then (b - c) % 4294967296 else if op = 5 then bits BinOp.and IntKind.u32 b c else if op = 6 then bits BinOp.or IntKind.u32 b c else
  if op = 7 then bits BinOp.xor IntKind.u32 b c else if op = 8 then shlV b c else if op = 9 then shrV b c else if op = 10 then ltV b c else if op = 11 then eqV b c else b * c % 4294967296
def lkR : List Int := [2, 3, 4, 5, 6, 7, 8, 9, 10, 11, 24]
theorem pr_2 (b c : Int) (w : World) : Calls Try.prog 27 #[prV b c] w fun e w' => e = .returned (.int .u32 (rk 2 b c)) ∧ Below w.heap.size w w' := by
  go_enter Try.func27, Try.ntmps27
  go_wp2
  go_ret
  exact ⟨rfl, (Below.refl _ _).alloc (Nat.le_refl _) _⟩
theorem pr_3 (b c : Int) (w : World) : Calls Try.prog 28 #[prV b c] w fun e w' => e = .returned (.int .u32 (rk 3 b c)) ∧ Below w.heap.size w w' := by
  go_enter Try.func28, Try.ntmps28
  go_wp2
  go_ret
  exact ⟨rfl, (Below.refl _ _).alloc (Nat.le_refl _) _⟩
theorem pr_4 (b c : Int) (w : World) : Calls Try.prog 29 #[prV b c] w fun e w' => e = .returned (.int .u32 (rk 4 b c)) ∧ Below w.heap.size w w' := by
  go_enter Try.func29, Try.ntmps29
  go_wp2
  go_ret
  exact ⟨rfl, (Below.refl _ _).alloc (Nat.le_refl _) _⟩
theorem pr_5 (b c : Int) (w : World) : Calls Try.prog 30 #[prV b c] w fun e w' => e = .returned (.int .u32 (rk 5 b c)) ∧ Below w.heap.size w w' := by
  go_enter Try.func30, Try.ntmps30
  go_wp2
  go_ret
  exact ⟨rfl, (Below.refl _ _).alloc (Nat.le_refl _) _⟩
theorem pr_6 (b c : Int) (w : World) : Calls Try.prog 31 #[prV b c] w fun e w' => e = .returned (.int .u32 (rk 6 b c)) ∧ Below w.heap.size w w' := by
  go_enter Try.func31, Try.ntmps31
  go_wp2
  go_ret
  exact ⟨rfl, (Below.refl _ _).alloc (Nat.le_refl _) _⟩
theorem pr_7 (b c : Int) (w : World) : Calls Try.prog 32 #[prV b c] w fun e w' => e = .returned (.int .u32 (rk 7 b c)) ∧ Below w.heap.size w w' := by
  go_enter Try.func32, Try.ntmps32
  go_wp2
  go_ret
  exact ⟨rfl, (Below.refl _ _).alloc (Nat.le_refl _) _⟩
theorem pr_8 (b c : Int) (hc : U32 c) (w : World) : Calls Try.prog 33 #[prV b c] w fun e w' => e = .returned (.int .u32 (rk 8 b c)) ∧ Below w.heap.size w w' := by
  have hs := run_shl b c hc Try.prog
  clear hc
  go_enter Try.func33, Try.ntmps33
  go_wp2
  go_ret
  exact ⟨rfl, (Below.refl _ _).alloc (Nat.le_refl _) _⟩
theorem pr_9 (b c : Int) (hc : U32 c) (w : World) : Calls Try.prog 34 #[prV b c] w fun e w' => e = .returned (.int .u32 (rk 9 b c)) ∧ Below w.heap.size w w' := by
  have hs := run_shr b c hc Try.prog
  clear hc
  go_enter Try.func34, Try.ntmps34
  go_wp2
  go_ret
  exact ⟨rfl, (Below.refl _ _).alloc (Nat.le_refl _) _⟩
theorem pr_10 (b c : Int) (w : World) : Calls Try.prog 35 #[prV b c] w fun e w' => e = .returned (.int .u32 (rk 10 b c)) ∧ Below w.heap.size w w' := by
  have HR : Hid (rk 10 b c = ltV b c) := Lib.hid rfl
  by_cases h : b < c
  · have HV : Hid (ltV b c = 1) := Lib.hid (if_pos h)
    have hb : b < c := h
    go_enter Try.func35, Try.ntmps35
    go_wp2
    go_ret
    exact ⟨by rw [HR.out, HV.out]; rfl, (Below.refl _ _).alloc (Nat.le_refl _) _⟩
  · have HV : Hid (ltV b c = 0) := Lib.hid (if_neg h)
    have hb : ¬ b < c := h
    clear h
    go_enter Try.func35, Try.ntmps35
    go_wp2
    go_ret
    exact ⟨by rw [HR.out, HV.out]; rfl, (Below.refl _ _).alloc (Nat.le_refl _) _⟩
theorem pr_11 (b c : Int) (w : World) : Calls Try.prog 36 #[prV b c] w fun e w' => e = .returned (.int .u32 (rk 11 b c)) ∧ Below w.heap.size w w' := by
  have HR : Hid (rk 11 b c = eqV b c) := Lib.hid rfl
  by_cases h : b = c
  · have HV : Hid (eqV b c = 1) := Lib.hid (if_pos h)
    subst h
    go_enter Try.func36, Try.ntmps36
    go_wp2
    go_ret
    exact ⟨by rw [HR.out, HV.out]; rfl, (Below.refl _ _).alloc (Nat.le_refl _) _⟩
  · have HV : Hid (eqV b c = 0) := Lib.hid (if_neg h)
    have hb : (b == c) = false := by rw [beq_eq_false_iff_ne]; exact h
    clear h
    go_enter Try.func36, Try.ntmps36
    go_wp2
    go_ret
    exact ⟨by rw [HR.out, HV.out]; rfl, (Below.refl _ _).alloc (Nat.le_refl _) _⟩
theorem pr_24 (b c : Int) (w : World) : Calls Try.prog 37 #[prV b c] w fun e w' => e = .returned (.int .u32 (rk 24 b c)) ∧ Below w.heap.size w w' := by
  go_enter Try.func37, Try.ntmps37
  go_wp2
  go_ret
  exact ⟨rfl, (Below.refl _ _).alloc (Nat.le_refl _) _⟩

def doesV (op b c : Int) : Value :=
  if op = 2 then .func (.func 27) #[prV b c] #[] else if op = 3 then .func (.func 28) #[prV b c] #[] else if op = 4 then .func (.func 29) #[prV b c] #[] else if op = 5 then .func (.func 30) #[prV b c] #[] else if op = 6 then .func (.func 31) #[prV b c] #[] else if op = 7 then .func (.func 32) #[prV b c] #[] else if op = 8 then .func (.func 33) #[prV b c] #[] else if op = 9 then .func (.func 34) #[prV b c] #[] else if op = 10 then .func (.func 35) #[prV b c] #[] else if op = 11 then .func (.func 36) #[prV b c] #[] else if op = 24 then .func (.func 37) #[prV b c] #[] else .nilFunc
theorem doesV_no {op : Int} (h : ¬ op ∈ lkR) (b c : Int) : doesV op b c = .nilFunc := by
  simp only [lkR, List.mem_cons, List.not_mem_nil, or_false, not_or] at h
  obtain ⟨h2, h3, h4, h5, h6, h7, h8, h9, h10, h11, h24⟩ := h
  unfold doesV
  rw [if_neg h2, if_neg h3, if_neg h4, if_neg h5, if_neg h6, if_neg h7, if_neg h8, if_neg h9, if_neg h10, if_neg h11, if_neg h24]
set_option maxRecDepth 100000 in
set_option maxHeartbeats 4000000 in
theorem does_any (op b c : Int) (w : World) : Calls Try.prog 17 #[prV b c, .int .i64 op] w fun e w' => e = .returned (doesV op b c) ∧ Below w.heap.size w w' := by
  have HB : ∀ o1 o2 : Obj, Below w.heap.size w ((w.alloc o1).alloc o2) := fun o1 o2 => ((Below.refl _ _).alloc (Nat.le_refl _) _).alloc (by simp) _
  have HH := Lib.hid HB
  clear HB
  by_cases h0 : op < 0
  · have HV := Lib.hid (doesV_no (op := op) (fun g => by simp only [lkR, List.mem_cons, List.not_mem_nil, or_false] at g; omega) b c)
    go_enter Try.func17, Try.ntmps17
    go_wp2
    go_ret
    exact ⟨by rw [HV.out]; rfl, HH.out _ _⟩
  · by_cases h25 : (25 : Int) ≤ op
    · have HV := Lib.hid (doesV_no (op := op) (fun g => by simp only [lkR, List.mem_cons, List.not_mem_nil, or_false] at g; omega) b c)
      go_enter Try.func17, Try.ntmps17
      go_wp2
      go_ret
      exact ⟨by rw [HV.out]; rfl, HH.out _ _⟩
    · have h : op = 0 ∨ op = 1 ∨ op = 2 ∨ op = 3 ∨ op = 4 ∨ op = 5 ∨ op = 6 ∨ op = 7 ∨ op = 8 ∨ op = 9 ∨ op = 10 ∨ op = 11 ∨ op = 12 ∨ op = 13 ∨ op = 14 ∨ op = 15 ∨ op = 16 ∨ op = 17 ∨ op = 18 ∨ op = 19 ∨ op = 20 ∨ op = 21 ∨ op = 22 ∨ op = 23 ∨ op = 24 := by omega
      clear h0 h25
      rcases h with rfl | rfl | rfl | rfl | rfl | rfl | rfl | rfl | rfl | rfl | rfl | rfl | rfl | rfl | rfl | rfl | rfl | rfl | rfl | rfl | rfl | rfl | rfl | rfl | rfl
      all_goals
        go_enter Try.func17, Try.ntmps17
        go_wp2
        go_ret
        exact ⟨rfl, HH.out _ _⟩
end Go.Proofs.Ytikioeddilgbpaa
