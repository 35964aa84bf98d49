/-
  The closures of relaxing; slices.ContainsFunc with each; may.
-/
import Derived.Test.YtakhpibolhijoaaRxBase
namespace Go.Proofs.Ytakhpibolhijoaa
open Go.RowKit

/-- a size that may not be; a branch to nowhere -/
def badSize (x : Rx.It) : Bool := decide (x.size < 0) || decide (2048 < x.size)
def badTo (n : Nat) (x : Rx.It) : Bool := x.br && (decide (x.to_ < 0) || decide ((n : Int) < x.to_))

set_option maxHeartbeats 400000 in
theorem size_closure (s t : Int) (r : Bool) (w : World) :
    Calls Try.prog 23 #[.agg #[.int .i64 s, .int .i64 t, .bool r]] w fun e w' => e = .returned (.bool (badSize ⟨s, t, r⟩)) ∧ Below w.heap.size w w' := by
  by_cases h0 : s < 0
  · go_enter Try.func23, Try.ntmps23
    go_wp2
    go_ret
    exact ⟨ret_bool (by simp [badSize]; omega), by repeat (first | exact Below.refl _ _ | refine Below.alloc ?_ (by simp) _)⟩
  · by_cases h1 : 2048 < s
    · go_enter Try.func23, Try.ntmps23
      go_wp2
      go_ret
      exact ⟨ret_bool (by simp [badSize]; omega), by repeat (first | exact Below.refl _ _ | refine Below.alloc ?_ (by simp) _)⟩
    · go_enter Try.func23, Try.ntmps23
      go_wp2
      go_ret
      exact ⟨ret_bool (by simp [badSize]; omega), by repeat (first | exact Below.refl _ _ | refine Below.alloc ?_ (by simp) _)⟩

set_option maxHeartbeats 400000 in
theorem to_closure (s t : Int) (r : Bool) (bl n cap : Nat) (ao : Option Addr) (w : World) (hc : w.cell? ⟨bl, 0, none⟩ = some (.slice ao n cap)) :
    Calls Try.prog 26 #[.agg #[.int .i64 s, .int .i64 t, .bool r], .pointer (some ⟨bl, 0, none⟩)] w fun e w' => e = .returned (.bool (badTo n ⟨s, t, r⟩)) ∧ Below w.heap.size w w' := by
  have hbl := World.block_lt_of_cell? w ⟨bl, 0, none⟩ hc
  have hc' : ∀ o, (w.alloc o).cell? ⟨bl, 0, none⟩ = some (.slice ao n cap) := fun o => (((Below.refl _ _).alloc (Nat.le_refl _) o).cell (p := ⟨bl, 0, none⟩) hbl).trans hc
  cases r
  · go_enter Try.func26, Try.ntmps26
    go_wp2
    go_ret
    exact ⟨ret_bool (by simp [badTo]), by repeat (first | exact Below.refl _ _ | refine Below.alloc ?_ (by simp) _)⟩
  · by_cases h0 : t < 0
    · go_enter Try.func26, Try.ntmps26
      go_wp2
      go_ret
      exact ⟨ret_bool (by simp [badTo]; omega), by repeat (first | exact Below.refl _ _ | refine Below.alloc ?_ (by simp) _)⟩
    · by_cases h1 : (n : Int) < t
      · go_enter Try.func26, Try.ntmps26
        go_wp2
        go_ret
        exact ⟨ret_bool (by simp [badTo]; omega), by repeat (first | exact Below.refl _ _ | refine Below.alloc ?_ (by simp) _)⟩
      · go_enter Try.func26, Try.ntmps26
        go_wp2
        go_ret
        exact ⟨ret_bool (by simp [badTo]; omega), by repeat (first | exact Below.refl _ _ | refine Below.alloc ?_ (by simp) _)⟩

/-- none of the first k -/
def NoneTo (p : Rx.It → Bool) (l : List Rx.It) (w : World) (i : Value) (wr : World) : Prop := ∃ k : Nat, k ≤ l.length ∧ i = .int .i64 k ∧ (l.take k).any p = false ∧ Below w.heap.size w wr
/-- a place, or -1 -/
def PlaceOr (b : Bool) (w : World) (e : Ending) (w' : World) : Prop := ∃ r : Int, e = .returned (.int .i64 r) ∧ -1 ≤ r ∧ r ≤ 1000000 ∧ decide (0 ≤ r) = b ∧ Below w.heap.size w w'
theorem any_take_succ (p : Rx.It → Bool) (l : List Rx.It) (k : Nat) (h : k < l.length) : (l.take (k + 1)).any p = ((l.take k).any p || p (l.getD k default)) := by
  rw [List.take_succ_eq_append_getElem h, List.any_append, List.getD_eq_getElem?_getD, List.getElem?_eq_getElem h]
  simp
theorem any_of_getD (p : Rx.It → Bool) (l : List Rx.It) (k : Nat) (h : k < l.length) (hp : p (l.getD k default) = true) : l.any p = true := by
  rw [List.any_eq_true]
  exact ⟨_, getD_mem_it l k h, hp⟩

set_option maxHeartbeats 1000000 in
theorem index_size (l : List Rx.It) (ao : Option Addr) (c1 : Nat) (w : World) (hl : AtIt w ao l) (hn : l.length ≤ 100000) :
    Calls Try.prog 27 #[.slice ao l.length c1, .func (.func 23) #[] #[]] w (PlaceOr (l.any badSize) w) := by
  have HL := Lib.hid hl
  clear hl
  go_enter Try.func27, Try.ntmps27
  go_wp2_with fail
  go_loopw [8] (fun i wr => NoneTo badSize l w i wr) (fun i _ => l.length - (intOf i).toNat)
  case atStart => exact ⟨0, Nat.zero_le _, rfl, rfl, Below.refl _ _⟩
  case round =>
    obtain ⟨k, hk, rfl, hno, hbw⟩ := hrel
    have HW := Lib.hid hbw
    have HNO := Lib.hid hno
    clear hbw hno
    by_cases hlt : k < l.length
    · obtain ⟨b, off, rfl, -, x0, x1, x2⟩ := (HL.out.mono HW.out) k hlt
      have hki : (k : Int) < (l.length : Int) := by omega
      have HS := Lib.hid (any_take_succ badSize l k hlt)
      have HG := Lib.hid (any_of_getD badSize l k hlt)
      obtain ⟨⟨s, t, r⟩, hx⟩ : ∃ x, l.getD k default = x := ⟨_, rfl⟩
      rw [hx] at x0 x1 x2 HS HG
      have x0' : wr.cell? ⟨b, off + k * 3, none⟩ = some (.int .i64 s) := x0
      have x1' : wr.cell? ⟨b, off + k * 3 + 1, none⟩ = some (.int .i64 t) := x1
      have x2' : wr.cell? ⟨b, off + k * 3 + 2, none⟩ = some (.bool r) := x2
      clear hx x0 x1 x2
      go_wp2_with fail
      refine (size_closure s t r _).mono ?_
      rintro e w1 ⟨rfl, hb1⟩
      have HW1 := Lib.hid (HW.out.trans (hb1.mono HW.out.size))
      clear hb1
      cases hp : badSize ⟨s, t, r⟩
      · rw [hp] at HS
        have HS' := Lib.hid (show (l.take (k + 1)).any badSize = false by rw [HS.out, HNO.out]; rfl)
        clear hp HS
        go_wp2
        go_roundw
        case rel => exact ⟨k + 1, by omega, by go_num, HS'.out, HW1.out⟩
        case measure => simp [intOf]; omega
      · have HG' := Lib.hid (HG.out hp)
        clear hp HS
        go_wp2
        go_ret
        exact ⟨k, rfl, by omega, by omega, by rw [HG'.out]; simp, HW1.out⟩
    · obtain rfl : k = l.length := by omega
      go_wp2
      go_ret
      refine ⟨-1, rfl, by omega, by omega, ?_, HW.out⟩
      have := HNO.out
      rw [List.take_length] at this
      rw [this]
      rfl

set_option maxHeartbeats 1000000 in
theorem index_to (l : List Rx.It) (ao ax : Option Addr) (c1 n cx bl : Nat) (w : World) (hl : AtIt w ao l) (hn : l.length ≤ 100000) (hc : w.cell? ⟨bl, 0, none⟩ = some (.slice ax n cx)) :
    Calls Try.prog 27 #[.slice ao l.length c1, .func (.func 26) #[] #[.pointer (some ⟨bl, 0, none⟩)]] w (PlaceOr (l.any (badTo n)) w) := by
  have HL := Lib.hid hl
  have HC : Hid (∀ wx, Below w.heap.size w wx → wx.cell? ⟨bl, 0, none⟩ = some (.slice ax n cx)) := Lib.hid fun wx hwx => (hwx.cell (p := ⟨bl, 0, none⟩) (World.block_lt_of_cell? w ⟨bl, 0, none⟩ hc)).trans hc
  clear hl hc
  go_enter Try.func27, Try.ntmps27
  go_wp2_with fail
  go_loopw [8] (fun i wr => NoneTo (badTo n) l w i wr) (fun i _ => l.length - (intOf i).toNat)
  case atStart => exact ⟨0, Nat.zero_le _, rfl, rfl, Below.refl _ _⟩
  case round =>
    obtain ⟨k, hk, rfl, hno, hbw⟩ := hrel
    have HW := Lib.hid hbw
    have HNO := Lib.hid hno
    clear hbw hno
    by_cases hlt : k < l.length
    · obtain ⟨b, off, rfl, -, x0, x1, x2⟩ := (HL.out.mono HW.out) k hlt
      have hki : (k : Int) < (l.length : Int) := by omega
      have HS := Lib.hid (any_take_succ (badTo n) l k hlt)
      have HG := Lib.hid (any_of_getD (badTo n) l k hlt)
      obtain ⟨⟨s, t, r⟩, hx⟩ : ∃ x, l.getD k default = x := ⟨_, rfl⟩
      rw [hx] at x0 x1 x2 HS HG
      have x0' : wr.cell? ⟨b, off + k * 3, none⟩ = some (.int .i64 s) := x0
      have x1' : wr.cell? ⟨b, off + k * 3 + 1, none⟩ = some (.int .i64 t) := x1
      have x2' : wr.cell? ⟨b, off + k * 3 + 2, none⟩ = some (.bool r) := x2
      clear hx x0 x1 x2
      go_wp2_with fail
      refine (to_closure s t r bl n cx ax _ (HC.out _ HW.out)).mono ?_
      rintro e w1 ⟨rfl, hb1⟩
      have HW1 := Lib.hid (HW.out.trans (hb1.mono HW.out.size))
      clear hb1
      cases hp : badTo n ⟨s, t, r⟩
      · rw [hp] at HS
        have HS' := Lib.hid (show (l.take (k + 1)).any (badTo n) = false by rw [HS.out, HNO.out]; rfl)
        clear hp HS
        go_wp2
        go_roundw
        case rel => exact ⟨k + 1, by omega, by go_num, HS'.out, HW1.out⟩
        case measure => simp [intOf]; omega
      · have HG' := Lib.hid (HG.out hp)
        clear hp HS
        go_wp2
        go_ret
        exact ⟨k, rfl, by omega, by omega, by rw [HG'.out]; simp, HW1.out⟩
    · obtain rfl : k = l.length := by omega
      go_wp2
      go_ret
      refine ⟨-1, rfl, by omega, by omega, ?_, HW.out⟩
      have := HNO.out
      rw [List.take_length] at this
      rw [this]
      rfl

set_option maxHeartbeats 400000 in
theorem contains_size (l : List Rx.It) (ao : Option Addr) (c1 : Nat) (w : World) (hl : AtIt w ao l) (hn : l.length ≤ 100000) :
    Calls Try.prog 22 #[.slice ao l.length c1, .func (.func 23) #[] #[]] w fun e w' => e = .returned (.bool (l.any badSize)) ∧ Below w.heap.size w w' := by
  have HL := Lib.hid hl
  clear hl
  go_enter Try.func22, Try.ntmps22
  go_wp2_with fail
  refine (index_size l ao c1 _ HL.out hn).mono ?_
  rintro e w1 ⟨r, rfl, h1, h2, h3, hb⟩
  have H3 := Lib.hid h3
  clear h3
  go_wp2
  go_ret
  exact ⟨ret_bool H3.out, hb⟩

set_option maxHeartbeats 400000 in
theorem contains_to (l : List Rx.It) (ao ax : Option Addr) (c1 n cx bl : Nat) (w : World) (hl : AtIt w ao l) (hn : l.length ≤ 100000) (hc : w.cell? ⟨bl, 0, none⟩ = some (.slice ax n cx)) :
    Calls Try.prog 22 #[.slice ao l.length c1, .func (.func 26) #[] #[.pointer (some ⟨bl, 0, none⟩)]] w fun e w' => e = .returned (.bool (l.any (badTo n))) ∧ Below w.heap.size w w' := by
  have HL := Lib.hid hl
  have HC := Lib.hid hc
  clear hl hc
  go_enter Try.func22, Try.ntmps22
  go_wp2_with fail
  refine (index_to l ao ax c1 n cx bl _ HL.out hn HC.out).mono ?_
  rintro e w1 ⟨r, rfl, h1, h2, h3, hb⟩
  have H3 := Lib.hid h3
  clear h3
  go_wp2
  go_ret
  exact ⟨ret_bool H3.out, hb⟩

set_option maxHeartbeats 400000 in
theorem may_any (l : List Rx.It) (ao : Option Addr) (c1 : Nat) (w : World) (hl : AtIt w ao l) (hn : l.length ≤ 100000) :
    Calls Try.prog 21 #[.slice ao l.length c1] w fun e w' => e = .returned (.bool (!l.any (badTo l.length))) ∧ Below w.heap.size w w' := by
  have hb0 : Below w.heap.size w (w.alloc (.cells #[.slice ao l.length c1] 22)) := (Below.refl _ _).alloc (Nat.le_refl _) _
  have HL := Lib.hid (hl.mono hb0)
  have HB := Lib.hid hb0
  have HC := Lib.hid (blk_cell (blk_new w (.cells #[.slice ao l.length c1] 22)) 0)
  clear hl hb0
  go_enter Try.func21, Try.ntmps21
  go_wp2_with fail
  refine (contains_to l ao ao c1 l.length c1 w.heap.size _ HL.out hn HC.out).mono ?_
  rintro e w1 ⟨rfl, hb⟩
  go_wp2
  go_ret
  exact ⟨rfl, HB.out.trans (hb.mono (by simp))⟩
end Go.Proofs.Ytakhpibolhijoaa
