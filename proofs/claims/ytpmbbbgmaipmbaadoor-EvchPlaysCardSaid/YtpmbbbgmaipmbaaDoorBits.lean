/-
  Bits of words, plain.
-/
import Derived.Test.YtpmbbbgmaipmbaaDoorPlain
namespace Go.Proofs.YtpmbbbgmaipmbaaDoor
open Go.RowKit

theorem mod2 (x : Nat) : x % 2 = 0 ∨ x % 2 = 1 := by omega
theorem or_and_sum (x y : Nat) : (x ||| y) + (x &&& y) = x + y := by
  induction x using Nat.strongRecOn generalizing y with
  | ind x ih =>
    by_cases h : x = 0
    · subst h
      simp
    · have i := ih (x / 2) (by omega) (y / 2)
      have a1 : (x ||| y) / 2 = x / 2 ||| y / 2 := Nat.or_div_two
      have a2 : (x &&& y) / 2 = x / 2 &&& y / 2 := Nat.and_div_two
      have b1 : (x ||| y) % 2 = (x % 2 ||| y % 2) := by simpa using Nat.or_mod_two_pow (a := x) (b := y) (n := 1)
      have b2 : (x &&& y) % 2 = (x % 2 &&& y % 2) := by simpa using Nat.and_mod_two_pow (a := x) (b := y) (n := 1)
      rw [← a1, ← a2] at i
      rcases mod2 x with hx | hx <;> rcases mod2 y with hy | hy <;> rw [hx, hy] at b1 b2
      · replace b1 : (x ||| y) % 2 = 0 := b1
        replace b2 : (x &&& y) % 2 = 0 := b2
        omega
      · replace b1 : (x ||| y) % 2 = 1 := b1
        replace b2 : (x &&& y) % 2 = 0 := b2
        omega
      · replace b1 : (x ||| y) % 2 = 1 := b1
        replace b2 : (x &&& y) % 2 = 0 := b2
        omega
      · replace b1 : (x ||| y) % 2 = 1 := b1
        replace b2 : (x &&& y) % 2 = 1 := b2
        omega
theorem xor_and_or (x y : Nat) : (x ^^^ y) + (x &&& y) = (x ||| y) := by
  induction x using Nat.strongRecOn generalizing y with
  | ind x ih =>
    by_cases h : x = 0
    · subst h
      simp
    · have i := ih (x / 2) (by omega) (y / 2)
      have a0 : (x ^^^ y) / 2 = x / 2 ^^^ y / 2 := Nat.xor_div_two
      have a1 : (x ||| y) / 2 = x / 2 ||| y / 2 := Nat.or_div_two
      have a2 : (x &&& y) / 2 = x / 2 &&& y / 2 := Nat.and_div_two
      have b0 : (x ^^^ y) % 2 = (x % 2 ^^^ y % 2) := by simpa using Nat.xor_mod_two_pow (a := x) (b := y) (n := 1)
      have b1 : (x ||| y) % 2 = (x % 2 ||| y % 2) := by simpa using Nat.or_mod_two_pow (a := x) (b := y) (n := 1)
      have b2 : (x &&& y) % 2 = (x % 2 &&& y % 2) := by simpa using Nat.and_mod_two_pow (a := x) (b := y) (n := 1)
      rw [← a0, ← a1, ← a2] at i
      rcases mod2 x with hx | hx <;> rcases mod2 y with hy | hy <;> rw [hx, hy] at b0 b1 b2
      · replace b0 : (x ^^^ y) % 2 = 0 := b0
        replace b1 : (x ||| y) % 2 = 0 := b1
        replace b2 : (x &&& y) % 2 = 0 := b2
        omega
      · replace b0 : (x ^^^ y) % 2 = 1 := b0
        replace b1 : (x ||| y) % 2 = 1 := b1
        replace b2 : (x &&& y) % 2 = 0 := b2
        omega
      · replace b0 : (x ^^^ y) % 2 = 1 := b0
        replace b1 : (x ||| y) % 2 = 1 := b1
        replace b2 : (x &&& y) % 2 = 0 := b2
        omega
      · replace b0 : (x ^^^ y) % 2 = 0 := b0
        replace b1 : (x ||| y) % 2 = 1 := b1
        replace b2 : (x &&& y) % 2 = 1 := b2
        omega
theorem nat_bv (a : Nat) (h : a < 4294967296) : BitVec.ofInt 32 (a : Int) = BitVec.ofNat 32 a := by
  apply BitVec.eq_of_toNat_eq
  simp
theorem bits_or32 (a b : Nat) (h : a < 4294967296) (h2 : b < 4294967296) : bits BinOp.or IntKind.u32 (a : Int) (b : Int) = ((a ||| b : Nat) : Int) := by
  show IntKind.u32.wrap ((BitVec.ofInt 32 (a : Int) ||| BitVec.ofInt 32 (b : Int)).toNat : Int) = _
  rw [nat_bv a h, nat_bv b h2, BitVec.toNat_or, BitVec.toNat_ofNat, BitVec.toNat_ofNat, Nat.mod_eq_of_lt (by omega), Nat.mod_eq_of_lt (by omega)]
  have : a ||| b < 2 ^ 32 := Nat.or_lt_two_pow (by omega) (by omega)
  show ((a ||| b : Nat) : Int) % 4294967296 = _
  omega
theorem bits_and32 (a b : Nat) (h : a < 4294967296) (h2 : b < 4294967296) : bits BinOp.and IntKind.u32 (a : Int) (b : Int) = ((a &&& b : Nat) : Int) := by
  show IntKind.u32.wrap ((BitVec.ofInt 32 (a : Int) &&& BitVec.ofInt 32 (b : Int)).toNat : Int) = _
  rw [nat_bv a h, nat_bv b h2, BitVec.toNat_and, BitVec.toNat_ofNat, BitVec.toNat_ofNat, Nat.mod_eq_of_lt (by omega), Nat.mod_eq_of_lt (by omega)]
  have : a &&& b < 2 ^ 32 := Nat.and_lt_two_pow a (by omega)
  show ((a &&& b : Nat) : Int) % 4294967296 = _
  omega
theorem bits_xor32 (a b : Nat) (h : a < 4294967296) (h2 : b < 4294967296) : bits BinOp.xor IntKind.u32 (a : Int) (b : Int) = ((a ^^^ b : Nat) : Int) := by
  show IntKind.u32.wrap ((BitVec.ofInt 32 (a : Int) ^^^ BitVec.ofInt 32 (b : Int)).toNat : Int) = _
  rw [nat_bv a h, nat_bv b h2, BitVec.toNat_xor, BitVec.toNat_ofNat, BitVec.toNat_ofNat, Nat.mod_eq_of_lt (by omega), Nat.mod_eq_of_lt (by omega)]
  have : a ^^^ b < 2 ^ 32 := Nat.xor_lt_two_pow (by omega) (by omega)
  show ((a ^^^ b : Nat) : Int) % 4294967296 = _
  omega
/-- a word's bits from n on, put back -/
theorem and_high (x k n : Nat) : x &&& ((2 ^ k - 1) <<< n) = ((x >>> n) &&& (2 ^ k - 1)) <<< n := by
  apply Nat.eq_of_testBit_eq
  intro i
  rw [Nat.testBit_and, Nat.testBit_shiftLeft, Nat.testBit_shiftLeft, Nat.testBit_and, Nat.testBit_shiftRight]
  by_cases h : i ≥ n
  · simp [h, Nat.add_sub_cancel' h]
  · simp [h]
theorem low_back (x n : Nat) (hx : x < 4294967296) (hn : n < 32) : x * 2 ^ n % 4294967296 / 2 ^ n = x &&& (4294967295 / 2 ^ n) := by
  have e : (4294967296 : Nat) = 2 ^ (32 - n) * 2 ^ n := by rw [← Nat.pow_add, show 32 - n + n = 32 by omega]
  have p : 0 < 2 ^ n := Nat.two_pow_pos n
  have q : 4294967295 / 2 ^ n = 2 ^ (32 - n) - 1 := by
    have q0 : 0 < 2 ^ (32 - n) := Nat.two_pow_pos _
    rw [show 4294967295 = (2 ^ (32 - n) - 1) * 2 ^ n + (2 ^ n - 1) by
      have : (2 ^ (32 - n) - 1) * 2 ^ n = 2 ^ (32 - n) * 2 ^ n - 2 ^ n := by rw [Nat.sub_mul, Nat.one_mul]
      rw [this, ← e]
      have : 2 ^ n ≤ 4294967296 := Nat.pow_le_pow_right (by decide) (show n ≤ 32 by omega)
      omega]
    rw [Nat.add_comm, Nat.add_mul_div_right _ _ p, Nat.div_eq_of_lt (by omega)]
    omega
  rw [q, Nat.and_two_pow_sub_one_eq_mod, e, Nat.mul_mod_mul_right, Nat.mul_div_cancel _ p]
theorem high_back (x n : Nat) (hx : x < 4294967296) (hn : n < 32) : x / 2 ^ n * 2 ^ n % 4294967296 = x &&& (4294967295 * 2 ^ n % 4294967296) := by
  have e : (4294967296 : Nat) = 2 ^ (32 - n) * 2 ^ n := by rw [← Nat.pow_add, show 32 - n + n = 32 by omega]
  have p : 0 < 2 ^ n := Nat.two_pow_pos n
  have q0 : 0 < 2 ^ (32 - n) := Nat.two_pow_pos _
  have pl : 2 ^ n ≤ 4294967296 := Nat.pow_le_pow_right (by decide) (show n ≤ 32 by omega)
  have m : 4294967295 * 2 ^ n % 4294967296 = (2 ^ (32 - n) - 1) <<< n := by
    rw [Nat.shiftLeft_eq, e, Nat.mul_mod_mul_right]
    have d : 4294967295 % 2 ^ (32 - n) = 2 ^ (32 - n) - 1 := by
      rw [show 4294967295 = 2 ^ (32 - n) * (2 ^ n - 1) + (2 ^ (32 - n) - 1) by
        rw [Nat.mul_sub, Nat.mul_one, ← e]
        have : 2 ^ (32 - n) ≤ 4294967296 := Nat.pow_le_pow_right (by decide) (show 32 - n ≤ 32 by omega)
        omega]
      rw [Nat.mul_add_mod, Nat.mod_eq_of_lt (by omega)]
    rw [d]
  rw [m, and_high, Nat.shiftLeft_eq, Nat.shiftRight_eq_div_pow, Nat.and_two_pow_sub_one_eq_mod]
  have b : x / 2 ^ n < 2 ^ (32 - n) := by
    rw [Nat.div_lt_iff_lt_mul p, ← e]
    exact hx
  have c : x / 2 ^ n * 2 ^ n ≤ x := Nat.div_mul_le_self x _
  rw [Nat.mod_eq_of_lt b, Nat.mod_eq_of_lt (by omega)]
end Go.Proofs.YtpmbbbgmaipmbaaDoor
