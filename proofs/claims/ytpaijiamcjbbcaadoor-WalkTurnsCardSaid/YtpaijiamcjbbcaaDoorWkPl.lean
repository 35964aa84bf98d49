/-
  Where an address is, in a memory with tables of one frame each: plain laws.
-/
import Derived.Test.YtpaijiamcjbbcaaDoorWkMem
import Derived.Test.YtpaijiamcjbbcaaDoorNumber
namespace Go.Proofs.YtpaijiamcjbbcaaDoor
open Go.RowKit

theorem ofA_ent {f : Int} {t wr u : Bool} (h : entOk f t wr u) : ofA (entW f t wr u) = (⟨f, t, wr, u⟩, true) := by
  unfold ofA
  rw [if_pos ((isEntB_iff _).2 (ent_is h))]
  obtain ⟨e1, e2, e3, e4⟩ := ent_back h
  rw [e1, e2, e3, e4]
theorem ofA_zero : ofA 0 = (Ent.z, true) := ofA_ent (f := 0) (t := false) (wr := false) (u := false) ⟨by decide, by decide, fun _ => ⟨rfl, rfl, rfl⟩⟩
theorem top_ok : entOk 1 true false false := ⟨by decide, by decide, fun h => by cases h⟩
theorem low_ok {f : Int} (wr u : Bool) (h : 2 ≤ f ∧ f < 20) : entOk f true wr u := ⟨by omega, by omega, fun h => by cases h⟩
theorem entW_w32 {f : Int} {t wr u : Bool} (h : entOk f t wr u) : W32 (entW f t wr u) := ⟨(entW_range h).1, by have := (entW_range h).2; omega⟩

theorem pageA_top (l : List Int) (i j : Nat) (hi : i < 16) (hj : j < 16) (h : l.getD i 0 = entW 1 true false false) (o : Ent) (ok : Bool) (h2 : ofA (l.getD (16 + j) 0) = (o, ok)) :
    pageA l 20 0 ((16 * i + j : Nat) : Int) = if ok = true ∧ o.t = true then (o, true) else (Ent.z, false) := by
  have e1 : (16 * i + j) / 16 = i := by omega
  have e2 : (16 * i + j) % 16 = j := by omega
  have := pageA_by l 20 0 (16 * i + j) (by decide) (by omega) ⟨1, true, false, false⟩ true (by rw [e1, Nat.mul_zero, Nat.zero_add, h, ofA_ent top_ok])
  rw [e2, if_pos ⟨rfl, rfl⟩] at this
  exact this.trans (entryA_by l 20 1 j (by decide) (by decide) o ok h2)
theorem pageA_notop (l : List Int) (i j : Nat) (hi : i < 16) (hj : j < 16) (h : l.getD i 0 = 0) : pageA l 20 0 ((16 * i + j : Nat) : Int) = (Ent.z, false) := by
  have e1 : (16 * i + j) / 16 = i := by omega
  have := pageA_by l 20 0 (16 * i + j) (by decide) (by omega) Ent.z true (by rw [e1, Nat.mul_zero, Nat.zero_add, h, ofA_zero])
  rw [if_neg (by decide)] at this
  exact this
/-- one page is mapped -/
theorem placesA (l : List Int) (p a : Nat) (fr : Int) (w0 u0 : Bool) (hl : ∀ j, l.getD j 0 = if j = 16 + p % 16 then entW fr true w0 u0 else if j = p / 16 then entW 1 true false false else 0) (hp : p < 256) (hf : 2 ≤ fr ∧ fr < 20) (wr us : Bool) :
    walkA l 20 0 (a : Int) wr us = if a / 16 = p ∧ (wr = true → w0 = true) ∧ (us = true → u0 = true) then (16 * fr + ((a % 16 : Nat) : Int), true) else (0, false) := by
  by_cases h4 : 4096 ≤ a
  · rw [if_neg (by omega)]
    unfold walkA
    rw [if_neg (by omega)]
  · obtain ⟨i, hi⟩ : ∃ i, a / 16 / 16 = i := ⟨_, rfl⟩
    obtain ⟨j, hj⟩ : ∃ j, a / 16 % 16 = j := ⟨_, rfl⟩
    have hij : ((a : Int) / 16) = ((16 * i + j : Nat) : Int) := by omega
    have hi16 : i < 16 := by omega
    have hj16 : j < 16 := by omega
    have key : pageA l 20 0 ((16 * i + j : Nat) : Int) = if a / 16 = p then (⟨fr, true, w0, u0⟩, true) else (Ent.z, false) := by
      by_cases h1 : i = p / 16
      · have ht : l.getD i 0 = entW 1 true false false := by rw [hl i, if_neg (by omega), if_pos h1]
        by_cases h2 : j = p % 16
        · rw [pageA_top l i j hi16 hj16 ht ⟨fr, true, w0, u0⟩ true (by rw [hl (16 + j), if_pos (by omega), ofA_ent (low_ok w0 u0 hf)]), if_pos ⟨rfl, rfl⟩, if_pos (by omega)]
        · rw [pageA_top l i j hi16 hj16 ht Ent.z true (by rw [hl (16 + j), if_neg (by omega), if_neg (by omega), ofA_zero]), if_neg (by decide), if_neg (by omega)]
      · rw [pageA_notop l i j hi16 hj16 (by rw [hl i, if_neg (by omega), if_neg h1]), if_neg (by omega)]
    by_cases hin : a / 16 = p
    · rw [if_pos hin] at key
      rw [walkA_of l 20 0 (a : Int) wr us ⟨fr, true, w0, u0⟩ true (by omega) (by rw [hij]; exact key)]
      by_cases hc : (wr = true → w0 = true) ∧ (us = true → u0 = true)
      · rw [if_pos ⟨rfl, hc.1, hc.2, by show fr < _; omega⟩, if_pos ⟨hin, hc⟩]
        have : fr * 16 + (a : Int) % 16 = 16 * fr + ((a % 16 : Nat) : Int) := by omega
        rw [this]
      · rw [if_neg (fun h => hc ⟨h.2.1, h.2.2.1⟩), if_neg (fun h => hc h.2)]
    · rw [if_neg hin] at key
      rw [walkA_of l 20 0 (a : Int) wr us Ent.z false (by omega) (by rw [hij]; exact key), if_neg (fun h => by cases h.1), if_neg (fun h => hin h.1)]
/-- a walk through both levels -/
theorem throughA (l : List Int) (i j k : Nat) (hi : i < 16) (hj : j < 16) (hk : k < 16) (h : l.getD i 0 = entW 1 true false false) (o : Ent) (ok : Bool) (h2 : ofA (l.getD (16 + j) 0) = (o, ok)) (wr us : Bool) :
    walkA l 20 0 ((256 * i + 16 * j + k : Nat) : Int) wr us = if ok = true ∧ o.t = true ∧ (wr = true → o.w = true) ∧ (us = true → o.u = true) ∧ o.f < 20 then (16 * o.f + (k : Int), true) else (0, false) := by
  have hp := pageA_top l i j hi hj h o ok h2
  have e : (((256 * i + 16 * j + k : Nat) : Int) / 16) = ((16 * i + j : Nat) : Int) := by omega
  by_cases hc : ok = true ∧ o.t = true
  · rw [if_pos hc] at hp
    rw [walkA_of l 20 0 _ wr us o true (by omega) (by rw [e]; exact hp)]
    by_cases h3 : (wr = true → o.w = true) ∧ (us = true → o.u = true) ∧ o.f < 20
    · rw [if_pos ⟨rfl, h3.1, h3.2.1, h3.2.2⟩, if_pos ⟨hc.1, hc.2, h3⟩]
      have : o.f * 16 + ((256 * i + 16 * j + k : Nat) : Int) % 16 = 16 * o.f + (k : Int) := by omega
      rw [this]
    · rw [if_neg (fun h => h3 ⟨h.2.1, h.2.2.1, h.2.2.2⟩), if_neg (fun h => h3 h.2.2)]
  · rw [if_neg hc] at hp
    rw [walkA_of l 20 0 _ wr us Ent.z false (by omega) (by rw [e]; exact hp), if_neg (fun h => by cases h.1), if_neg (fun h => hc ⟨h.1, h.2.1⟩)]
theorem notopA (l : List Int) (i j k : Nat) (hi : i < 16) (hj : j < 16) (hk : k < 16) (h : l.getD i 0 = 0) (wr us : Bool) : walkA l 20 0 ((256 * i + 16 * j + k : Nat) : Int) wr us = (0, false) := by
  have hp := pageA_notop l i j hi hj h
  have e : (((256 * i + 16 * j + k : Nat) : Int) / 16) = ((16 * i + j : Nat) : Int) := by omega
  rw [walkA_of l 20 0 _ wr us Ent.z false (by omega) (by rw [e]; exact hp), if_neg (fun h => by cases h.1)]
end Go.Proofs.YtpaijiamcjbbcaaDoor
