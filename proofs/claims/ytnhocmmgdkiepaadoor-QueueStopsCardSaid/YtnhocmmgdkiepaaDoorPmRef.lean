/-
  p2m.Map: Clone; the document's own: place, AddFrame, PutFrame, OfFrame.
-/
import Derived.Test.YtnhocmmgdkiepaaDoorPmPut
import Derived.Test.YtnhocmmgdkiepaaDoorCopyInts
namespace Go.Proofs.YtnhocmmgdkiepaaDoor
open Go.RowKit

def addC (l : List Int) (x : Int) : Option Nat := if fairP x = false then some 2 else if x ∈ l then some 5 else if 512 ≤ l.length then some 3 else none
def addL (l : List Int) (x : Int) : List Int := if addC l x = none then l ++ [x] else l
def putC (l : List Int) (n x : Int) : Option Nat := if n < 0 ∨ (l.length : Int) ≤ n then some 6 else if fairP x = false then some 2 else if x ∈ l ∧ l.getD n.toNat 0 ≠ x then some 5 else none
def putL (l : List Int) (n x : Int) : List Int := if putC l n x = none then l.set n.toNat x else l
def codeOf : Option Nat → Int
  | none => 0
  | some k => ((101 + k : Nat) : Int)

set_option maxHeartbeats 800000 in
theorem place_ints (l : List Int) (n : Nat) (ao : Option Addr) (c1 : Nat) (x : Int) (w : World) (hl : AtL w ao (ints l)) (hn : l.length = n) (h : n ≤ 100000) :
    Calls Tryd.prog 120 #[.slice ao n c1, .int .i64 x] w fun e w' => ∃ r, e = .returned (.int .i64 r) ∧ IdxIs l x r ∧ w = w' := by
  subst hn
  have HL := Lib.hid hl
  clear hl
  go_enter Tryd.func120, Tryd.ntmps120
  go_wp2_with fail
  go_loop [5] (fun i => NotTo l x i) (fun i => l.length - (intOf i).toNat)
  case atStart => exact ⟨0, Nat.zero_le _, rfl, fun j hj => by omega⟩
  case round =>
    obtain ⟨k, hk, rfl, hno⟩ := hrel
    have HNO := Lib.hid hno
    clear hno
    by_cases hlt : k < l.length
    · obtain ⟨b, off, rfl, c0, -⟩ := HL.out k _ (ints_get l k hlt)
      have hki : (k : Int) < (l.length : Int) := by omega
      obtain ⟨z, hz⟩ : ∃ z, l.getD k 0 = z := ⟨_, rfl⟩
      rw [hz] at c0
      have HZ := Lib.hid hz
      clear hz
      by_cases hx : z = x
      · have hb : (z == x) = true := by simp [hx]
        have HX := Lib.hid hx
        clear hx
        go_wp2
        go_ret
        exact ⟨k, rfl, .inr ⟨k, hlt, rfl, by rw [HZ.out, HX.out], HNO.out⟩, rfl⟩
      · have hb : (z == x) = false := by simp [hx]
        have HX := Lib.hid hx
        clear hx
        go_wp2
        go_round
        case rel =>
          refine ⟨k + 1, by omega, by go_num, fun j hj => ?_⟩
          rcases Nat.lt_succ_iff_lt_or_eq.1 hj with h | rfl
          · exact HNO.out j h
          · rw [HZ.out]; exact HX.out
        case measure => simp [intOf]; omega
    · obtain rfl : k = l.length := by omega
      go_wp2
      go_ret
      exact ⟨-1, rfl, .inl ⟨rfl, HNO.out⟩, rfl⟩
set_option maxHeartbeats 400000 in
theorem ofFrame_any (l : List Int) (n : Nat) (ao : Option Addr) (c1 : Nat) (x : Int) (w : World) (hl : AtL w ao (ints l)) (hn : l.length = n) (h : n ≤ 100000) :
    Calls Tryd.prog 86 #[.slice ao n c1, .int .i64 x] w fun e w' => ∃ r, e = .returned (.int .i64 r) ∧ IdxIs l x r ∧ w = w' := by
  have HL := Lib.hid hl
  clear hl
  go_enter Tryd.func86, Tryd.ntmps86
  go_wp2_with fail
  refine (place_ints l n ao c1 x _ HL.out hn h).mono ?_
  rintro e w1 ⟨r, rfl, hr, rfl⟩
  have HR := Lib.hid hr
  clear hr
  go_wp2
  go_ret
  exact ⟨r, rfl, HR.out, rfl⟩

theorem copyInts_n (ao : Option Addr) (c1 n : Nat) (xs : List Int) (w : World) (hr : AtL w ao (ints xs)) (hx : xs.length = n) (hn : n ≤ 1000000000) :
    Calls Tryd.prog 123 #[.slice ao n c1] w fun e w' => ∃ v', e = .returned v' ∧ w'.ownsRow 0 3 1 v' n (ints xs) ∧ (∀ k, inRow v' k → w.heap.size ≤ k) ∧ Below w.heap.size w w' := by
  subst hx
  exact copyInts_any ao c1 xs w hr hn

/-- what the document's own answer: a row that reads as the list, there or new -/
def RefAns (l : List Int) (ao : Option Addr) (c : Option Nat) (w : World) (e : Ending) (w' : World) : Prop :=
  ∃ av cap, e = .returned (.tuple #[.slice av l.length cap, .int .i64 (codeOf c)]) ∧ AtL w' av (ints l) ∧ (av = ao ∨ ∀ b off, av = some ⟨b, off, none⟩ → w.heap.size ≤ b ∧ b < w'.heap.size) ∧ Below w.heap.size w w'