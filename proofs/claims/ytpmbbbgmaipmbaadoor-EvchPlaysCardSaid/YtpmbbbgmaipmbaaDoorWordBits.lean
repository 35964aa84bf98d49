/-
  Words made of single bits; plain.
-/
import Derived.Test.YtpmbbbgmaipmbaaDoorBits
namespace Go.Proofs.YtpmbbbgmaipmbaaDoor
open Go.RowKit

/-- the word that has bit i for each i below k that f says -/
def orN (f : Nat → Bool) : Nat → Nat
  | 0 => 0
  | k + 1 => if f k then orN f k ||| 2 ^ k else orN f k
theorem orN_bit (f : Nat → Bool) (k i : Nat) : (orN f k).testBit i = (decide (i < k) && f i) := by
  induction k with
  | zero => simp [orN]
  | succ k ih =>
    unfold orN
    by_cases hf : f k = true
    · rw [if_pos hf, Nat.testBit_or, ih, Nat.testBit_two_pow]
      by_cases h : k = i
      · subst h; simp [hf]
      · have : (decide (i < k + 1)) = decide (i < k) := by simp; omega
        rw [this]; simp [h]
    · rw [if_neg hf, ih]
      by_cases h : k = i
      · subst h; simp [hf]
      · have : (decide (i < k + 1)) = decide (i < k) := by simp; omega
        rw [this]
theorem orN_lt (f : Nat → Bool) (k : Nat) : orN f k < 2 ^ k := by
  induction k with
  | zero => simp [orN]
  | succ k ih =>
    unfold orN
    have h1 : orN f k < 2 ^ (k + 1) := by rw [Nat.pow_succ]; omega
    split
    · exact Nat.or_lt_two_pow h1 (by rw [Nat.pow_succ]; have := Nat.two_pow_pos k; omega)
    · exact h1
theorem orN_w (f : Nat → Bool) (k : Nat) (hk : k ≤ 32) : orN f k < 4294967296 :=
  Nat.lt_of_lt_of_le (orN_lt f k) (Nat.pow_le_pow_right (by decide) hk)
theorem orN_congr {f g : Nat → Bool} {k : Nat} (h : ∀ i, i < k → f i = g i) : orN f k = orN g k := by
  apply Nat.eq_of_testBit_eq
  intro i
  rw [orN_bit, orN_bit]
  by_cases hi : i < k
  · rw [h i hi]
  · simp [hi]
theorem orN_false (k : Nat) : orN (fun _ => false) k = 0 := by
  induction k with
  | zero => rfl
  | succ k ih => unfold orN; simp [ih]
theorem orN_zero_iff (f : Nat → Bool) (k : Nat) : orN f k = 0 ↔ ∀ i, i < k → f i = false := by
  constructor
  · intro h i hi
    have := orN_bit f k i
    rw [h] at this
    simp [hi] at this
    exact this
  · intro h
    rw [orN_congr h, orN_false]
theorem orN_one (k n : Nat) (h : k < n) : orN (fun i => decide (i = k)) n = 2 ^ k := by
  apply Nat.eq_of_testBit_eq
  intro i
  rw [orN_bit, Nat.testBit_two_pow]
  by_cases e : k = i
  · subst e; simp [h]
  · have : ¬ i = k := fun h => e h.symm
    simp [e, this]
theorem bits_andNot32 (a b : Nat) (h : a < 4294967296) (h2 : b < 4294967296) : bits BinOp.andNot IntKind.u32 (a : Int) (b : Int) = ((a &&& (b ^^^ 4294967295) : Nat) : Int) := by
  show IntKind.u32.wrap ((BitVec.ofInt 32 (a : Int) &&& ~~~ (BitVec.ofInt 32 (b : Int))).toNat : Int) = _
  rw [nat_bv a h, nat_bv b h2]
  have e : (BitVec.ofNat 32 a &&& ~~~ (BitVec.ofNat 32 b)).toNat = a &&& (b ^^^ 4294967295) := by
    apply Nat.eq_of_testBit_eq
    intro i
    rw [BitVec.testBit_toNat, BitVec.getLsbD_and, BitVec.getLsbD_not, Nat.testBit_and, Nat.testBit_xor, BitVec.getLsbD_ofNat, BitVec.getLsbD_ofNat, show (4294967295 : Nat) = 2 ^ 32 - 1 from rfl, Nat.testBit_two_pow_sub_one]
    by_cases hi : i < 32
    · simp [hi]
    · have ha : a.testBit i = false := Nat.testBit_lt_two_pow (Nat.lt_of_lt_of_le h (by rw [show (4294967296 : Nat) = 2 ^ 32 from rfl]; exact Nat.pow_le_pow_right (by decide) (by omega)))
      simp [hi, ha]
  rw [e]
  have : a &&& (b ^^^ 4294967295) ≤ a := Nat.and_le_left
  show ((a &&& (b ^^^ 4294967295) : Nat) : Int) % 4294967296 = _
  omega
theorem orN_andNot (f g : Nat → Bool) (k : Nat) (hk : k ≤ 32) : bits BinOp.andNot IntKind.u32 (orN f k : Nat) (orN g k : Nat) = ((orN (fun i => f i && !g i) k : Nat) : Int) := by
  rw [bits_andNot32 _ _ (orN_w f k hk) (orN_w g k hk)]
  congr 1
  apply Nat.eq_of_testBit_eq
  intro i
  rw [Nat.testBit_and, Nat.testBit_xor, orN_bit, orN_bit, orN_bit, show (4294967295 : Nat) = 2 ^ 32 - 1 from rfl, Nat.testBit_two_pow_sub_one]
  by_cases hi : i < k
  · have : i < 32 := by omega
    simp [hi, this]
  · simp [hi]
theorem orN_and (f g : Nat → Bool) (k : Nat) (hk : k ≤ 32) : bits BinOp.and IntKind.u32 (orN f k : Nat) (orN g k : Nat) = ((orN (fun i => f i && g i) k : Nat) : Int) := by
  rw [bits_and32 _ _ (orN_w f k hk) (orN_w g k hk)]
  congr 1
  apply Nat.eq_of_testBit_eq
  intro i
  rw [Nat.testBit_and, orN_bit, orN_bit, orN_bit]
  by_cases hi : i < k <;> simp [hi]
theorem orN_or (f g : Nat → Bool) (k : Nat) (hk : k ≤ 32) : bits BinOp.or IntKind.u32 (orN f k : Nat) (orN g k : Nat) = ((orN (fun i => f i || g i) k : Nat) : Int) := by
  rw [bits_or32 _ _ (orN_w f k hk) (orN_w g k hk)]
  congr 1
  apply Nat.eq_of_testBit_eq
  intro i
  rw [Nat.testBit_or, orN_bit, orN_bit, orN_bit]
  by_cases hi : i < k <;> simp [hi]
/-- one step of the making: what the shift gives, what the or then gives -/
theorem orN_step (f : Nat → Bool) (k : Nat) (hk : k < 32) (hf : f k = true) : bits BinOp.or IntKind.u32 (orN f k : Nat) ((2 ^ k : Nat) : Int) = ((orN f (k + 1) : Nat) : Int) := by
  rw [bits_or32 _ _ (orN_w f k (by omega)) (Nat.lt_of_lt_of_le (Nat.pow_lt_pow_right (by decide) hk) (by decide))]
  rw [orN, if_pos hf]
theorem orN_skip (f : Nat → Bool) (k : Nat) (hf : f k = false) : orN f (k + 1) = orN f k := by rw [orN, hf]; rfl
theorem run_shl_one (kd : IntKind) (n : Nat) (h : n < 32) (P : Program) (W : World) : (Op.shift BinOp.shl IntKind.u32 1 kd (n : Int)).run P W = .ok (.int .u32 ((2 ^ n : Nat) : Int)) W := by
  have h0 : ¬ (n : Int) < 0 := by omega
  have hm : min (n : Int).toNat IntKind.u32.bits = n := by rw [Int.toNat_natCast]; exact Nat.min_eq_left (by show n ≤ 32; omega)
  unfold Op.shift
  rw [if_neg h0, hm]
  have e : IntKind.u32.wrap (1 * 2 ^ n) = ((2 ^ n : Nat) : Int) := by
    rw [IntKind.wrap_u32]
    have : (2 ^ n : Nat) < 2 ^ 32 := Nat.pow_lt_pow_right (by decide) h
    have e2 : ((2 : Int) ^ n) = ((2 ^ n : Nat) : Int) := by simp
    rw [e2, Int.one_mul]
    obtain ⟨z, hz⟩ : ∃ z : Nat, 2 ^ n = z := ⟨_, rfl⟩
    rw [hz] at this ⊢
    omega
  show Result.ok (Value.int .u32 (IntKind.u32.wrap (1 * 2 ^ n))) W = _
  rw [e]
theorem shl_val (n : Nat) (h : n < 32) : (2 : Int) ^ n % 4294967296 = ((2 ^ n : Nat) : Int) := by
  have h1 : (2 ^ n : Nat) < 2 ^ 32 := Nat.pow_lt_pow_right (by decide) h
  have e2 : ((2 : Int) ^ n) = ((2 ^ n : Nat) : Int) := by simp
  rw [e2]
  obtain ⟨z, hz⟩ : ∃ z : Nat, 2 ^ n = z := ⟨_, rfl⟩
  rw [hz] at h1 ⊢
  omega
theorem orN_step' (f : Nat → Bool) (k : Nat) (hk : k < 32) (hf : f k = true) : bits BinOp.or IntKind.u32 (orN f k : Nat) ((2 : Int) ^ k % 4294967296) = ((orN f (k + 1) : Nat) : Int) := by
  rw [shl_val k hk]
  exact orN_step f k hk hf
end Go.Proofs.YtpmbbbgmaipmbaaDoor
