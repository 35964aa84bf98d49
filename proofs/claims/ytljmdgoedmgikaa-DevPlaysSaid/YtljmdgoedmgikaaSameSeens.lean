/-
  facaderef.SameSeen1, SameSeens at equal lists.
-/
import Derived.Test.YtljmdgoedmgikaaRows
import Derived.Test.YtljmdgoedmgikaaDev
import Derived.Deep.RegionWith
namespace Go.Proofs.Ytljmdgoedmgikaa
open Go.RowKit

set_option maxHeartbeats 400000 in
theorem seen1_refl (x y z : Int) (w : World) :
    Calls Try.prog 32 #[.agg #[.int .i64 x, .int .u32 y, .int .u32 z], .agg #[.int .i64 x, .int .u32 y, .int .u32 z]] w fun e w' => e = .returned (.bool true) ∧ Below w.heap.size w w' := by
  go_enter Try.func32, Try.ntmps32
  go_wp2
  go_ret
  exact ⟨rfl, by repeat (first | exact Below.refl _ _ | refine Below.alloc ?_ (by simp) _)⟩

theorem seenCells_at (l : List (Int × Int × Int)) (k : Nat) (x y z : Int) (h : l[k]? = some (x, y, z)) : (seenCells l)[k * 3]? = some (.int .i64 x) ∧ (seenCells l)[k * 3 + 1]? = some (.int .u32 y) ∧ (seenCells l)[k * 3 + 2]? = some (.int .u32 z) := by
  induction l generalizing k with
  | nil => simp at h
  | cons s l ih =>
    cases k with
    | zero =>
      simp at h
      subst h
      simp [seenCells]
    | succ k =>
      have := ih k (by simpa using h)
      have e : seenCells (s :: l) = [.int .i64 s.1, .int .u32 s.2.1, .int .u32 s.2.2] ++ seenCells l := rfl
      rw [e]
      have e3 : (k + 1) * 3 = 3 + k * 3 := by omega
      rw [e3]
      simp only [List.getElem?_append, List.length_cons, List.length_nil]
      rw [if_neg (by omega), if_neg (by omega), if_neg (by omega), show 3 + k * 3 - (0 + 1 + 1 + 1) = k * 3 from by omega, show 3 + k * 3 + 1 - (0 + 1 + 1 + 1) = k * 3 + 1 from by omega, show 3 + k * 3 + 2 - (0 + 1 + 1 + 1) = k * 3 + 2 from by omega]
      exact this

/-- the first k are the same -/
def SeenTo (n : Nat) (w : World) (i : Value) (wr : World) : Prop := ∃ k : Nat, k ≤ n ∧ i = .int .i64 k ∧ Below w.heap.size w wr

set_option maxHeartbeats 1000000 in
theorem seens_refl (v1 v2 : Value) (l : List (Int × Int × Int)) (w : World) (hl : l.length < 100000) (hr1 : Reads w v1 l.length (seenCells l)) (hr2 : Reads w v2 l.length (seenCells l)) :
    Calls Try.prog 19 #[v1, v2] w fun e w' => e = .returned (.bool true) ∧ Below w.heap.size w w' := by
  obtain ⟨ao1, cap1, rfl, hc1⟩ := reads_cells hr1
  obtain ⟨ao2, cap2, rfl, hc2⟩ := reads_cells hr2
  have HC1 := Lib.hid hc1
  have HC2 := Lib.hid hc2
  clear hc1 hc2 hr1 hr2
  go_enter Try.func19, Try.ntmps19
  go_wp2_with fail
  go_loopw [5] (fun i wr => SeenTo l.length w i wr) (fun i _ => l.length - (intOf i).toNat)
  case atStart => exact ⟨0, Nat.zero_le _, rfl, Below.refl _ _⟩
  case round =>
    obtain ⟨k, hk, rfl, hB⟩ := hrel
    by_cases hlt : k < l.length
    · obtain ⟨⟨x, y, z⟩, hxyz⟩ : ∃ s, l[k]? = some s := ⟨_, List.getElem?_eq_getElem hlt⟩
      obtain ⟨s0, s1, s2⟩ := seenCells_at l k x y z hxyz
      obtain ⟨b, o, rfl, p0, hb⟩ := HC1.out _ _ s0
      obtain ⟨b', o', he', p1, -⟩ := HC1.out _ _ s1
      cases he'
      obtain ⟨b', o', he', p2, -⟩ := HC1.out _ _ s2
      cases he'
      obtain ⟨d, q, rfl, t0, hd⟩ := HC2.out _ _ s0
      obtain ⟨b', o', he', t1, -⟩ := HC2.out _ _ s1
      cases he'
      obtain ⟨b', o', he', t2, -⟩ := HC2.out _ _ s2
      cases he'
      replace p0 := (hB.cell (p := ⟨_, _, none⟩) hb).trans p0
      replace p1 := (hB.cell (p := ⟨_, _, none⟩) hb).trans p1
      replace p2 := (hB.cell (p := ⟨_, _, none⟩) hb).trans p2
      replace t0 := (hB.cell (p := ⟨_, _, none⟩) hd).trans t0
      replace t1 := (hB.cell (p := ⟨_, _, none⟩) hd).trans t1
      replace t2 := (hB.cell (p := ⟨_, _, none⟩) hd).trans t2
      rw [← Nat.add_assoc] at p1 p2 t1 t2
      have hki : (k : Int) < (l.length : Int) := by omega
      have HB := Lib.hid hB
      clear hB s0 s1 s2 hxyz
      go_wp2_with fail
      go_region_with (first | (go_at_call 32; refine (seen1_refl _ _ _ _).mono ?_; rintro e w' ⟨rfl, hbw⟩))
      all_goals
        go_wp2
        go_roundw
        case rel => exact ⟨k + 1, by omega, by go_num, HB.out.drew.trans (hbw.mono HB.out.size)⟩
        case measure => simp [intOf]; omega
    · obtain rfl : k = l.length := by omega
      go_wp2
      go_ret
      exact ⟨rfl, hB⟩
end Go.Proofs.Ytljmdgoedmgikaa
