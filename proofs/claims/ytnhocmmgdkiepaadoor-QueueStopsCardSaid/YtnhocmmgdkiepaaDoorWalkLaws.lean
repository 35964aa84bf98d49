/-
  Plain laws: an entry and its bits go back and forth; unlike entries have unlike bits.
-/
import Derived.Test.YtnhocmmgdkiepaaDoorWalkBits
namespace Go.Proofs.YtnhocmmgdkiepaaDoor
open Go.RowKit

theorem and_pow (n i : Nat) : (0 < n &&& 2 ^ i) ↔ n / 2 ^ i % 2 = 1 := by
  rw [← decide_eq_true_iff (p := n / 2 ^ i % 2 = 1), ← Nat.testBit_eq_decide_div_mod_eq]
  constructor
  · intro h
    cases hb : n.testBit i
    · have : n &&& 2 ^ i = 0 := by
        apply Nat.eq_of_testBit_eq
        intro j
        rw [Nat.testBit_and, Nat.testBit_two_pow, Nat.zero_testBit]
        by_cases hj : i = j
        · subst hj; simp [hb]
        · simp [hj]
      omega
    · rfl
  · intro h
    have : (n &&& 2 ^ i).testBit i = true := by
      rw [Nat.testBit_and, Nat.testBit_two_pow]; simp [h]
    rcases Nat.eq_zero_or_pos (n &&& 2 ^ i) with h0 | h0
    · rw [h0] at this; simp at this
    · exact h0
theorem flag_pow (x : Int) (i : Nat) (hi : i < 8) (h : 0 ≤ x) (h2 : x ≤ 4294967295) : flag x ((2 ^ i : Nat) : Int) = decide (x / ((2 ^ i : Nat) : Int) % 2 = 1) := by
  obtain ⟨n, rfl⟩ := Int.eq_ofNat_of_zero_le h
  have hp : 2 ^ i < 4294967296 := Nat.lt_of_lt_of_le (Nat.pow_lt_pow_right (by omega) hi) (by decide)
  have e := and_nat n (2 ^ i) (by omega) hp
  unfold flag
  rw [e, decide_eq_decide]
  have hc : ((n : Int) / ((2 ^ i : Nat) : Int) % 2 = 1) ↔ (n / 2 ^ i % 2 = 1) := by
    rw [← Int.natCast_ediv]; omega
  rw [hc, ← and_pow]
  omega
theorem flag_1 (x : Int) (h : 0 ≤ x) (h2 : x ≤ 4294967295) : flag x 1 = decide (x % 2 = 1) := by
  have := flag_pow x 0 (by omega) h h2
  simpa using this
theorem flag_2 (x : Int) (h : 0 ≤ x) (h2 : x ≤ 4294967295) : flag x 2 = decide (x / 2 % 2 = 1) := flag_pow x 1 (by omega) h h2
theorem flag_4 (x : Int) (h : 0 ≤ x) (h2 : x ≤ 4294967295) : flag x 4 = decide (x / 4 % 2 = 1) := flag_pow x 2 (by omega) h h2

theorem entW_range {f : Int} {t wr u : Bool} (h : entOk f t wr u) : 0 ≤ entW f t wr u ∧ entW f t wr u ≤ 262143 := by
  obtain ⟨h1, h2, -⟩ := h
  cases t <;> cases wr <;> cases u <;> simp [entW, b2i] <;> omega
theorem ent_back {f : Int} {t wr u : Bool} (h : entOk f t wr u) : entW f t wr u / 256 = f ∧ flag (entW f t wr u) 1 = t ∧ flag (entW f t wr u) 2 = wr ∧ flag (entW f t wr u) 4 = u := by
  have hr := entW_range h
  rw [flag_1 _ hr.1 (by omega), flag_2 _ hr.1 (by omega), flag_4 _ hr.1 (by omega)]
  obtain ⟨h1, h2, -⟩ := h
  cases t <;> cases wr <;> cases u <;> simp [entW, b2i] <;> omega
theorem ent_is {f : Int} {t wr u : Bool} (h : entOk f t wr u) : isEnt (entW f t wr u) := by
  obtain ⟨e1, e2, e3, e4⟩ := ent_back h
  unfold isEnt
  rw [e1, e2, e3, e4]
  exact ⟨h, rfl⟩
theorem ent_inj {f g : Int} {t1 w1 u1 t2 w2 u2 : Bool} (h : entOk f t1 w1 u1) (h' : entOk g t2 w2 u2) (e : entW f t1 w1 u1 = entW g t2 w2 u2) : f = g ∧ t1 = t2 ∧ w1 = w2 ∧ u1 = u2 := by
  obtain ⟨a1, a2, a3, a4⟩ := ent_back h
  obtain ⟨b1, b2, b3, b4⟩ := ent_back h'
  rw [e] at a1 a2 a3 a4
  exact ⟨a1.symm.trans b1, a2.symm.trans b2, a3.symm.trans b3, a4.symm.trans b4⟩
end Go.Proofs.YtnhocmmgdkiepaaDoor
