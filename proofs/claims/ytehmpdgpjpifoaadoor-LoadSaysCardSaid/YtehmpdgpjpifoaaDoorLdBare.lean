/-
  load.Valid, load.CPU, bare.New, load.Bare.
-/
import Derived.Test.YtehmpdgpjpifoaaDoorLdFill
import Derived.Test.YtehmpdgpjpifoaaDoorSee
namespace Go.Proofs.YtehmpdgpjpifoaaDoor
open Go.RowKit

abbrev two23 : List Nat := [2, 3]
theorem errs23 {W : World} {E : Nat → Addr} (h : ErrsAt errT gOf W E all16) : ErrsAt errT gOf W E two23 :=
  ⟨fun k hk => h.1 k (mem16 (by simp [two23] at hk; omega)), fun i hi j hj hne => h.2 i (mem16 (by simp [two23] at hi; omega)) j (mem16 (by simp [two23] at hj; omega)) hne⟩
/-- an error's number as an error -/
def errNo (E : Nat → Addr) (c : Int) : Value := if c = 0 then .nilIface else errV (E (c - 101).toNat)
theorem errNo_num (E : Nat → Addr) (c : Int) (h : c = 0 ∨ (101 ≤ c ∧ c ≤ 116)) : errNum (errNo E c) E c := by
  unfold errNo errNum
  by_cases h0 : c = 0
  · rw [if_pos h0]
    exact .inl ⟨rfl, h0⟩
  · rw [if_neg h0]
    exact .inr ⟨(c - 101).toNat, by omega, rfl, by omega⟩
/-- what is amiss with an image -/
def validC (e : Int) (d c : Nat) : Int := if 2048 < d ∨ 2048 < c then 104 else if e < 2048 ∨ 2048 + (c : Int) ≤ e then 103 else 0
set_option maxRecDepth 100000 in
set_option maxHeartbeats 1600000 in
theorem valid_any (E : Nat → Addr) (e : Int) (a1 a2 : Option Addr) (d c k1 k2 : Nat) (rv pv sv : Value) (w : World) (hE : ErrsAt errT gOf w E two23) (he : 0 ≤ e ∧ e ≤ 4294967295) (hc : c ≤ 1000000) :
    Calls Tryd.prog 8 #[.agg #[.int .u32 e, .slice a1 d k1, .slice a2 c k2, rv, pv, sv]] w fun x w' => x = .returned (errNo E (validC e d c)) ∧ Below w.heap.size w w' := by
  have hb : Below w.heap.size w (w.alloc (.cells #[.int .u32 e, .slice a1 d k1, .slice a2 c k2, rv, pv, sv] 28)) := (Below.refl _ _).alloc (Nat.le_refl _) _
  have e3 : (w.alloc (.cells #[.int .u32 e, .slice a1 d k1, .slice a2 c k2, rv, pv, sv] 28)).cell? ⟨0, 0, none⟩ = some (errV (E 3)) := ((hE.mono hb).1 3 (by decide)).1
  have e2 : (w.alloc (.cells #[.int .u32 e, .slice a1 d k1, .slice a2 c k2, rv, pv, sv] 28)).cell? ⟨1, 0, none⟩ = some (errV (E 2)) := ((hE.mono hb).1 2 (by decide)).1
  have e3' : w.cell? ⟨0, 0, none⟩ = some (errV (E 3)) := (hE.1 3 (by decide)).1
  have e2' : w.cell? ⟨1, 0, none⟩ = some (errV (E 2)) := (hE.1 2 (by decide)).1
  have g2 := World.block_lt_of_cell? _ _ e2'
  have g3 := World.block_lt_of_cell? _ _ e3'
  have w1 := IntWalk.i64_in e (by omega)
  have w2 := IntWalk.i64_in (2048 + (c : Int)) (by omega)
  have HB := Lib.hid hb
  clear hb hE
  have hcase : ((2048 : Int) < (d : Int) ∧ validC e d c = 104) ∨ (¬ (2048 : Int) < (d : Int) ∧ (2048 : Int) < (c : Int) ∧ validC e d c = 104) ∨ (¬ (2048 : Int) < (d : Int) ∧ ¬ (2048 : Int) < (c : Int) ∧ e < 2048 ∧ validC e d c = 103) ∨ (¬ (2048 : Int) < (d : Int) ∧ ¬ (2048 : Int) < (c : Int) ∧ ¬ e < 2048 ∧ 2048 + (c : Int) ≤ e ∧ validC e d c = 103) ∨ (¬ (2048 : Int) < (d : Int) ∧ ¬ (2048 : Int) < (c : Int) ∧ ¬ e < 2048 ∧ ¬ 2048 + (c : Int) ≤ e ∧ validC e d c = 0) := by
    unfold validC
    by_cases h1 : 2048 < d ∨ 2048 < c
    · rw [if_pos h1]
      rcases h1 with h1 | h1
      · exact .inl ⟨by omega, rfl⟩
      · by_cases h2 : 2048 < d
        · exact .inl ⟨by omega, rfl⟩
        · exact .inr (.inl ⟨by omega, by omega, rfl⟩)
    · rw [if_neg h1]
      by_cases h2 : e < 2048 ∨ 2048 + (c : Int) ≤ e
      · rw [if_pos h2]
        by_cases h3 : e < 2048
        · exact .inr (.inr (.inl ⟨by omega, by omega, h3, rfl⟩))
        · exact .inr (.inr (.inr (.inl ⟨by omega, by omega, h3, by omega, rfl⟩)))
      · rw [if_neg h2]
        exact .inr (.inr (.inr (.inr ⟨by omega, by omega, by omega, by omega, rfl⟩)))
  rcases hcase with ⟨h1, hv⟩ | ⟨h1, h2, hv⟩ | ⟨h1, h2, h3, hv⟩ | ⟨h1, h2, h3, h4, hv⟩ | ⟨h1, h2, h3, h4, hv⟩
  all_goals
    rw [hv]
    clear hv
    go_enter Tryd.func8, Tryd.ntmps8
    go_wp2
    go_ret
    exact ⟨rfl, HB.out⟩

/-- the processor at the beginning -/
def ldCpu (e q Q : Int) : Array Value := #[.int .u32 0, .int .u32 q, .int .u32 Q, .int .u32 0, .int .u32 0, .int .u32 0, .int .u32 0, .int .u32 0, .int .u32 0, .int .u32 0, .int .u32 0, .int .u32 0, .int .u32 0, .int .u32 0, .int .u32 0, .int .u32 0, .int .u32 e, .bool false, .bool false, .int .u32 0, .int .u32 0, .int .u32 0, .int .u32 0]
end Go.Proofs.YtehmpdgpjpifoaaDoor
