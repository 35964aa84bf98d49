/-
  Contracts of walk.Bits, walk.Of and facaderef.SameEntry, and the plain law that an entry and its bits go back and forth.
-/
import Derived.Test.YtnhocmmgdkiepaaDoorRows
import Derived.Test.YtnhocmmgdkiepaaDoorPlain
namespace Go.Proofs.YtnhocmmgdkiepaaDoor
open Go.RowKit
def b2i (b : Bool) : Int := if b then 1 else 0
/-- an entry that may be -/
def entOk (f : Int) (t wr u : Bool) : Prop := 0 ≤ f ∧ f < 1024 ∧ (t = false → f = 0 ∧ wr = false ∧ u = false)
/-- its bits -/
def entW (f : Int) (t wr u : Bool) : Int := f * 256 + b2i t + 2 * b2i wr + 4 * b2i u
/-- the value of an entry -/
def ent (f : Int) (t wr u : Bool) : Value := .agg #[.int .i64 f, .bool t, .bool wr, .bool u]
/-- a flag of a word -/
def flag (x k : Int) : Bool := decide (0 < bits BinOp.and IntKind.u32 x k)
/-- a word is an entry's -/
def isEnt (x : Int) : Prop := entOk (x / 256) (flag x 1) (flag x 2) (flag x 4) ∧ entW (x / 256) (flag x 1) (flag x 2) (flag x 4) = x

theorem or_low (f m k : Nat) (h2 : f < 1024) (hm : m < 256) (hk : k < 256) (he : m ||| k = m + k) : bits BinOp.or IntKind.u32 ((f * 256 + m : Nat) : Int) k = ((f * 256 + (m + k) : Nat) : Int) := by
  rw [or_nat _ _ (by omega) (by omega)]
  congr 1
  have h8 : f * 256 = 2 ^ 8 * f := by omega
  rw [h8, Nat.two_pow_add_eq_or_of_lt (by simpa using hm), Nat.or_assoc, he, ← Nat.two_pow_add_eq_or_of_lt]
  have : m ||| k < 2 ^ 8 := Nat.or_lt_two_pow (by simpa using hm) (by simpa using hk)
  omega
theorem or_0 (f : Int) (k : Nat) (h : 0 ≤ f) (h2 : f < 1024) (hk : k < 256) : bits BinOp.or IntKind.u32 (f * 256) k = f * 256 + k := by
  obtain ⟨n, rfl⟩ := Int.eq_ofNat_of_zero_le h
  have := or_low n 0 k (by omega) (by omega) hk (by simp)
  simp at this
  omega
theorem or_1 (f : Int) (k : Nat) (h : 0 ≤ f) (h2 : f < 1024) (hk : k = 2 ∨ k = 4) : bits BinOp.or IntKind.u32 (f * 256 + 1) k = f * 256 + 1 + k := by
  obtain ⟨n, rfl⟩ := Int.eq_ofNat_of_zero_le h
  have := or_low n 1 k (by omega) (by omega) (by omega) (by rcases hk with rfl | rfl <;> decide)
  simp at this
  omega
theorem or_3 (f : Int) (h : 0 ≤ f) (h2 : f < 1024) : bits BinOp.or IntKind.u32 (f * 256 + 1 + 2) 4 = f * 256 + 7 := by
  obtain ⟨n, rfl⟩ := Int.eq_ofNat_of_zero_le h
  have := or_low n 3 4 (by omega) (by omega) (by omega) (by decide)
  simp at this
  rw [show ((n : Int) * 256 + 1 + 2) = (n : Int) * 256 + 3 from by omega]
  omega

set_option maxHeartbeats 400000 in
theorem bits_no (f : Int) (t wr u : Bool) (w : World) (h : ¬ entOk f t wr u) :
    Calls Tryd.prog 95 #[.agg #[.int .i64 f, .bool t, .bool wr, .bool u]] w fun e w' => e = .returned (.tuple #[.int .u32 0, .bool false]) ∧ Below w.heap.size w w' := by
  by_cases h1 : f < 0
  · clear h
    go_enter Tryd.func95, Tryd.ntmps95
    go_wp2
    go_ret2
    exact ⟨rfl, (Below.refl _ _).alloc (Nat.le_refl _) _⟩
  · by_cases h2 : 1024 ≤ f
    · clear h
      go_enter Tryd.func95, Tryd.ntmps95
      go_wp2
      go_ret2
      exact ⟨rfl, (Below.refl _ _).alloc (Nat.le_refl _) _⟩
    · have ht : t = false := by
        cases t
        · rfl
        · exact (h ⟨by omega, by omega, by simp⟩).elim
      subst ht
      have h0 : (f == 0 && !wr && !u) = false := by
        cases wr <;> cases u <;> simp [entOk] at h ⊢
        omega
      clear h
      by_cases hf : f = 0
      · subst hf
        cases wr <;> cases u
        · simp at h0
        all_goals
          clear h0 h1 h2
          go_enter Tryd.func95, Tryd.ntmps95
          go_wp2
          go_ret2
          exact ⟨rfl, (Below.refl _ _).alloc (Nat.le_refl _) _⟩
      · clear h0
        have hf' : (f == 0) = false := by simp [hf]
        clear hf
        go_enter Tryd.func95, Tryd.ntmps95
        go_wp2
        go_ret2
        exact ⟨rfl, (Below.refl _ _).alloc (Nat.le_refl _) _⟩

set_option maxHeartbeats 800000 in
theorem bits_there (f : Int) (wr u : Bool) (w : World) (h : 0 ≤ f) (h2 : f < 1024) :
    Calls Tryd.prog 95 #[.agg #[.int .i64 f, .bool true, .bool wr, .bool u]] w fun e w' => e = .returned (.tuple #[.int .u32 (entW f true wr u), .bool true]) ∧ Below w.heap.size w w' := by
  have e0 : bits BinOp.or IntKind.u32 (f * 256) 1 = f * 256 + 1 := or_0 f 1 h h2 (by omega)
  have e1 : bits BinOp.or IntKind.u32 (f * 256 + 1) 2 = f * 256 + 1 + 2 := or_1 f 2 h h2 (by omega)
  have e2 : bits BinOp.or IntKind.u32 (f * 256 + 1) 4 = f * 256 + 1 + 4 := or_1 f 4 h h2 (by omega)
  have e3 := or_3 f h h2
  cases wr <;> cases u
  all_goals
    go_enter Tryd.func95, Tryd.ntmps95
    go_wp2
    refine wp_loop_rounds 4 ?_
    rw [rounds_succ]
    go_wp2
    rw [rounds_succ]
    go_wp2
    rw [rounds_succ]
    go_wp2
    rw [rounds_succ]
    go_wp2
    go_ret2
    refine ⟨?_, ((Below.refl _ _).alloc (Nat.le_refl _) _).alloc (by simp) _⟩
    show Ending.returned (Value.tuple #[.int .u32 _, .bool true]) = _
    simp only [entW, b2i]
    congr 4
  all_goals simp
  all_goals omega

set_option maxHeartbeats 400000 in
theorem bits_zero (w : World) :
    Calls Tryd.prog 95 #[.agg #[.int .i64 0, .bool false, .bool false, .bool false]] w fun e w' => e = .returned (.tuple #[.int .u32 0, .bool true]) ∧ Below w.heap.size w w' := by
  go_enter Tryd.func95, Tryd.ntmps95
  go_wp2
  refine wp_loop_rounds 4 ?_
  rw [rounds_succ]
  go_wp2
  rw [rounds_succ]
  go_wp2
  rw [rounds_succ]
  go_wp2
  rw [rounds_succ]
  go_wp2
  go_ret2
  exact ⟨rfl, ((Below.refl _ _).alloc (Nat.le_refl _) _).alloc (by simp) _⟩

theorem bits_yes (f : Int) (t wr u : Bool) (w : World) (h : entOk f t wr u) :
    Calls Tryd.prog 95 #[.agg #[.int .i64 f, .bool t, .bool wr, .bool u]] w fun e w' => e = .returned (.tuple #[.int .u32 (entW f t wr u), .bool true]) ∧ Below w.heap.size w w' := by
  cases t
  · obtain ⟨rfl, rfl, rfl⟩ := h.2.2 rfl
    exact bits_zero w
  · exact bits_there f wr u w h.1 h.2.1

set_option maxHeartbeats 400000 in
theorem sameEnt_any (f g : Int) (t1 t2 w1 w2 u1 u2 : Bool) (w : World) :
    Calls Tryd.prog 46 #[.agg #[.int .i64 f, .bool t1, .bool w1, .bool u1], .agg #[.int .i64 g, .bool t2, .bool w2, .bool u2]] w fun e w' => e = .returned (.bool (f == g && t1 == t2 && w1 == w2 && u1 == u2)) ∧ Below w.heap.size w w' := by
  go_enter Tryd.func46, Tryd.ntmps46
  go_wp2
  all_goals go_ret
  all_goals refine ⟨ret_bool (by simp_all), ?_⟩
  all_goals repeat (first | exact Below.refl _ _ | refine Below.alloc ?_ (by simp) _)

set_option maxHeartbeats 400000 in
theorem of_yes (x : Int) (w : World) (h : 0 ≤ x) (h2 : x ≤ 4294967295) (hx : isEnt x) :
    Calls Tryd.prog 63 #[.int .u32 x] w fun e w' => e = .returned (.tuple #[.agg #[.int .i64 (x / 256), .bool (flag x 1), .bool (flag x 2), .bool (flag x 4)], .bool true]) ∧ Below w.heap.size w w' := by
  obtain ⟨hok, hw⟩ := hx
  have e1 : (entW (x / 256) (flag x 1) (flag x 2) (flag x 4) != x) = false := by simp [hw]
  clear hw
  go_enter Tryd.func63, Tryd.ntmps63
  go_wp2_with fail
  refine (bits_yes (x / 256) (flag x 1) (flag x 2) (flag x 4) _ hok).mono ?_
  rintro e w1 ⟨rfl, hb⟩
  obtain ⟨hc, hf⟩ := bcell hb
  go_wp2
  refine bodyPost_ret (v := .tuple #[.agg #[.int .i64 (x / 256), .bool (flag x 1), .bool (flag x 2), .bool (flag x 4)], .bool true]) (by simp [results, Tryd.results63, go_sem, flag, hc, show w.heap.size < w.heap.size + 1 + 1 from by omega]) rfl ⟨rfl, ?_⟩
  have hb' : Below w.heap.size _ w1 := hb.mono (by simp; omega)
  refine Below.setCell (Below.setCell (Below.setCell (Below.setCell ?_ (by simp) _) (by simp) _) (by simp) _) (by simp) _
  exact (((Below.refl _ _).alloc (Nat.le_refl _) _).alloc (by simp) _).trans hb'

set_option maxHeartbeats 400000 in
theorem of_no (x : Int) (w : World) (h : 0 ≤ x) (h2 : x ≤ 4294967295) (hx : ¬ isEnt x) :
    Calls Tryd.prog 63 #[.int .u32 x] w fun e w' => e = .returned (.tuple #[.agg #[.int .i64 0, .bool false, .bool false, .bool false], .bool false]) ∧ Below w.heap.size w w' := by
  by_cases hok : entOk (x / 256) (flag x 1) (flag x 2) (flag x 4)
  · have e1 : (entW (x / 256) (flag x 1) (flag x 2) (flag x 4) != x) = true := by
      simp only [bne_iff_ne]
      exact fun e => hx ⟨hok, e⟩
    clear hx
    go_enter Tryd.func63, Tryd.ntmps63
    go_wp2_with fail
    refine (bits_yes (x / 256) (flag x 1) (flag x 2) (flag x 4) _ hok).mono ?_
    rintro e w1 ⟨rfl, hb⟩
    obtain ⟨hc, hf⟩ := bcell hb
    go_wp2
    refine bodyPost_ret (v := .tuple #[.agg #[.int .i64 0, .bool false, .bool false, .bool false], .bool false]) (by simp [results, Tryd.results63, go_sem, hc, show w.heap.size < w.heap.size + 1 + 1 from by omega]) rfl ⟨rfl, ?_⟩
    have hb' : Below w.heap.size _ w1 := hb.mono (by simp; omega)
    refine Below.setCell (Below.setCell (Below.setCell (Below.setCell ?_ (by simp) _) (by simp) _) (by simp) _) (by simp) _
    exact (((Below.refl _ _).alloc (Nat.le_refl _) _).alloc (by simp) _).trans hb'
  · clear hx
    go_enter Tryd.func63, Tryd.ntmps63
    go_wp2_with fail
    refine (bits_no (x / 256) (flag x 1) (flag x 2) (flag x 4) _ hok).mono ?_
    rintro e w1 ⟨rfl, hb⟩
    obtain ⟨hc, hf⟩ := bcell hb
    go_wp2
    refine bodyPost_ret (v := .tuple #[.agg #[.int .i64 0, .bool false, .bool false, .bool false], .bool false]) (by simp [results, Tryd.results63, go_sem, hc, show w.heap.size < w.heap.size + 1 + 1 from by omega]) rfl ⟨rfl, ?_⟩
    have hb' : Below w.heap.size _ w1 := hb.mono (by simp; omega)
    refine Below.setCell (Below.setCell (Below.setCell (Below.setCell ?_ (by simp) _) (by simp) _) (by simp) _) (by simp) _
    exact (((Below.refl _ _).alloc (Nat.le_refl _) _).alloc (by simp) _).trans hb'
end Go.Proofs.YtnhocmmgdkiepaaDoor
