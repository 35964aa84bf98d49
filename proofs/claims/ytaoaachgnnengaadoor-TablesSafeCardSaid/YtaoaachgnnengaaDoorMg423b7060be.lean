/-
  Parts of one proof, one behind the other.
-/
import Derived.Test.YtaoaachgnnengaaDoorMg27fb478bb6
import Derived.BigQuiet
import Derived.Deep.RegionWith
import Derived.Deep.RegionHeld3
import Derived.Test.YtaoaachgnnengaaDoorRows
/-
  facadesee: is an error this one? Over the program's sentinels.
-/
namespace Go.Proofs.YtaoaachgnnengaaDoor
open Go.RowKit

abbrev errV (a : Addr) : Value := .iface errT (.pointer (some a))
def all16 : List Nat := [0, 1, 2, 3, 4, 5, 6, 7, 8, 9, 10, 11, 12, 13, 14, 15]
theorem mem16 {k : Nat} (h : k < 16) : k ∈ all16 := by
  simp [all16]
  omega
theorem err_comp : (Tryd.prog.info? errT).map (·.comparable) = some true := by kernel_rfl
theorem err_size : (Tryd.prog.info? 174).map (·.size) = some 1 := by kernel_rfl
theorem eql_same (w : World) (a : Addr) : (binOp .eql 26 (errV a) (errV a)).run Tryd.prog w = .ok (.bool true) w := by
  obtain ⟨i, hi, hc⟩ := Option.map_eq_some_iff.1 err_comp
  obtain ⟨j, hj, -⟩ := Option.map_eq_some_iff.1 err_size
  exact run_eql_iface_ptr_same w a Tryd.underlying26 Tryd.underlying158 hi hc hj
theorem eql_other (w : World) {a b : Addr} (hne : a ≠ b) (ha : ∃ c t, w.heap[a.block]? = some (.cells c t (0, 0))) (hb : ∃ c t, w.heap[b.block]? = some (.cells c t (0, 0))) :
    (binOp .eql 26 (errV a) (errV b)).run Tryd.prog w = .ok (.bool false) w := by
  obtain ⟨i, hi, hc⟩ := Option.map_eq_some_iff.1 err_comp
  obtain ⟨j, hj, hs⟩ := Option.map_eq_some_iff.1 err_size
  obtain ⟨ca, ta, ha⟩ := ha
  obtain ⟨cb, tb, hb⟩ := hb
  exact run_eql_iface_ptr_other w Tryd.underlying26 Tryd.underlying158 hi hc hj (by omega) hne ha hb

set_option maxHeartbeats 400000 in
theorem alike_same (a : Addr) (w : World) : Calls Tryd.prog 110 #[errV a, errV a] w fun e w' => e = .returned (.bool true) ∧ w = w' := by
  have heq := fun wx => eql_same wx a
  go_enter Tryd.func110, Tryd.ntmps110
  go_wp2
  go_ret
  exact ⟨rfl, rfl⟩
set_option maxHeartbeats 400000 in
theorem alike_other (a b : Addr) (w : World) (hne : a ≠ b) (ha : ∃ c t, w.heap[a.block]? = some (.cells c t (0, 0))) (hb : ∃ c t, w.heap[b.block]? = some (.cells c t (0, 0))) :
    Calls Tryd.prog 110 #[errV a, errV b] w fun e w' => e = .returned (.bool false) ∧ w = w' := by
  have heq := eql_other w hne ha hb
  clear hne ha hb
  go_enter Tryd.func110, Tryd.ntmps110
  go_wp2
  go_ret
  exact ⟨rfl, rfl⟩

def errArr (E : Nat → Addr) : Array Value := #[errV (E 0), errV (E 1), errV (E 2), errV (E 3), errV (E 4), errV (E 5), errV (E 6), errV (E 7), errV (E 8), errV (E 9), errV (E 10), errV (E 11), errV (E 12), errV (E 13), errV (E 14), errV (E 15)]
theorem errArr_get (E : Nat → Addr) (j : Nat) (hj : j < 16) : (errArr E)[j]? = some (errV (E j)) := by
  match j, hj with
  | 0, _ => rfl
  | 1, _ => rfl
  | 2, _ => rfl
  | 3, _ => rfl
  | 4, _ => rfl
  | 5, _ => rfl
  | 6, _ => rfl
  | 7, _ => rfl
  | 8, _ => rfl
  | 9, _ => rfl
  | 10, _ => rfl
  | 11, _ => rfl
  | 12, _ => rfl
  | 13, _ => rfl
  | 14, _ => rfl
  | 15, _ => rfl
  | n + 16, h => exact absurd h (by omega)
set_option maxHeartbeats 400000 in
theorem sentinels_any (E : Nat → Addr) (w : World) (hE : ErrsAt errT gOf w E all16) :
    Calls Tryd.prog 109 #[] w fun e w' => e = .returned (.slice (some ⟨w.heap.size, 0, none⟩) 16 16) ∧ w' = w.alloc (.cells (errArr E) 26) := by
  have c0 : w.cell? ⟨8, 0, none⟩ = some (errV (E 0)) := (hE.1 0 (by decide)).1
  have c1 : w.cell? ⟨9, 0, none⟩ = some (errV (E 1)) := (hE.1 1 (by decide)).1
  have c2 : w.cell? ⟨0, 0, none⟩ = some (errV (E 2)) := (hE.1 2 (by decide)).1
  have c3 : w.cell? ⟨5, 0, none⟩ = some (errV (E 3)) := (hE.1 3 (by decide)).1
  have c4 : w.cell? ⟨10, 0, none⟩ = some (errV (E 4)) := (hE.1 4 (by decide)).1
  have c5 : w.cell? ⟨7, 0, none⟩ = some (errV (E 5)) := (hE.1 5 (by decide)).1
  have c6 : w.cell? ⟨3, 0, none⟩ = some (errV (E 6)) := (hE.1 6 (by decide)).1
  have c7 : w.cell? ⟨11, 0, none⟩ = some (errV (E 7)) := (hE.1 7 (by decide)).1
  have c8 : w.cell? ⟨12, 0, none⟩ = some (errV (E 8)) := (hE.1 8 (by decide)).1
  have c9 : w.cell? ⟨6, 0, none⟩ = some (errV (E 9)) := (hE.1 9 (by decide)).1
  have c10 : w.cell? ⟨4, 0, none⟩ = some (errV (E 10)) := (hE.1 10 (by decide)).1
  have c11 : w.cell? ⟨2, 0, none⟩ = some (errV (E 11)) := (hE.1 11 (by decide)).1
  have c12 : w.cell? ⟨1, 0, none⟩ = some (errV (E 12)) := (hE.1 12 (by decide)).1
  have c13 : w.cell? ⟨13, 0, none⟩ = some (errV (E 13)) := (hE.1 13 (by decide)).1
  have c14 : w.cell? ⟨14, 0, none⟩ = some (errV (E 14)) := (hE.1 14 (by decide)).1
  have c15 : w.cell? ⟨15, 0, none⟩ = some (errV (E 15)) := (hE.1 15 (by decide)).1
  clear hE
  go_enter Tryd.func109, Tryd.ntmps109
  go_wp2
  go_ret
  exact ⟨rfl, rfl⟩

def UpToN (n : Nat) (i : Value) : Prop := ∃ j : Nat, j ≤ n ∧ i = .int .i64 (j : Int)
set_option maxHeartbeats 800000 in
theorem sentinel_any (E : Nat → Addr) (k : Nat) (hk : k < 16) (w : World) (hE : ErrsAt errT gOf w E all16) :
    Calls Tryd.prog 103 #[errV (E k)] w fun e w' => e = .returned (.int .i64 ((101 + k : Nat) : Int)) ∧ Below w.heap.size w w' := by
  have HE := Lib.hid hE
  clear hE
  go_enter Tryd.func103, Tryd.ntmps103
  go_wp2_with fail
  refine (sentinels_any E _ HE.out).mono ?_
  rintro e w1 ⟨rfl, hw1⟩
  have hb1 : Below w.heap.size w w1 := by rw [hw1]; exact (Below.refl _ _).alloc (Nat.le_refl _) _
  have hblk : w1.heap[w.heap.size]? = some (.cells (errArr E) 26 (0, 0)) := by rw [hw1]; exact blk_new _ _
  have HE1 := Lib.hid (HE.out.mono hb1)
  have HB := Lib.hid hb1
  have HBK := Lib.hid hblk
  clear hw1 hb1 hblk HE
  go_wp2_with fail
  go_loop [4] (fun i => UpToN k i) (fun i => 16 - (intOf i).toNat)
  case atStart => exact ⟨0, Nat.zero_le _, rfl⟩
  case round =>
    obtain ⟨j, hj, rfl⟩ := hrel
    have cj := (blk_cell HBK.out j).trans (errArr_get E j (by omega))
    have hj16 : (j : Int) < 16 := by omega
    by_cases hlt : j < k
    · have hne := HE1.out.2 j (mem16 (by omega)) k (mem16 hk) (by omega)
      have HA := Lib.hid (alike_other (E k) (E j) w1 (fun e => hne e.symm) (HE1.out.1 k (mem16 hk)).2 (HE1.out.1 j (mem16 (by omega))).2)
      clear hne
      go_wp2_with fail
      refine HA.out.mono ?_
      rintro e w2 ⟨rfl, rfl⟩
      go_wp2
      go_round
      case rel => exact ⟨j + 1, by omega, by go_num⟩
      case measure => simp [intOf]; omega
    · obtain rfl : j = k := by omega
      have hw := IntWalk.i64_in (101 + (j : Int)) (by omega)
      go_wp2_with fail
      refine (alike_same (E j) _).mono ?_
      rintro e w2 ⟨rfl, rfl⟩
      go_wp2
      go_ret
      exact ⟨by simp, HB.out⟩

theorem bare_any (c : Int) (w : World) : Calls Tryd.prog 52 #[.int .i64 c] w fun e w' => e = .returned (.agg #[.int .i64 c, .bool false, .int .i64 0]) ∧ Below w.heap.size w w' := by
  go_enter Tryd.func52, Tryd.ntmps52
  go_wp2
  exact bodyPost_ret (v := .agg #[.int .i64 c, .bool false, .int .i64 0]) (by simp [results, Tryd.results52, go_sem]) rfl ⟨rfl, (Below.refl _ _).alloc (Nat.le_refl _) _⟩
theorem none_any (w : World) : Calls Tryd.prog 102 #[] w fun e w' => e = .returned (.agg #[.int .i64 0, .bool false, .int .i64 0]) ∧ Below w.heap.size w w' := by
  go_enter Tryd.func102, Tryd.ntmps102
  go_wp2
  exact bodyPost_ret (v := .agg #[.int .i64 0, .bool false, .int .i64 0]) (by simp [results, Tryd.results102, go_sem]) rfl ⟨rfl, (Below.refl _ _).alloc (Nat.le_refl _) _⟩
set_option maxHeartbeats 400000 in
theorem sameFault_any (c d : Int) (w : World) : Calls Tryd.prog 84 #[.agg #[.int .i64 c, .bool false, .int .i64 0], .agg #[.int .i64 d, .bool false, .int .i64 0]] w fun e w' => e = .returned (.bool (decide (c = d))) ∧ Below w.heap.size w w' := by
  by_cases h : c = d
  · subst h
    go_enter Tryd.func84, Tryd.ntmps84
    go_wp2
    go_ret
    exact ⟨ret_bool (by simp), by repeat (first | exact Below.refl _ _ | refine Below.alloc ?_ (by simp) _)⟩
  · have hb : (c == d) = false := by simp [h]
    have H := Lib.hid h
    clear h
    go_enter Tryd.func84, Tryd.ntmps84
    go_wp2
    go_ret
    exact ⟨ret_bool (by simp [H.out]), by repeat (first | exact Below.refl _ _ | refine Below.alloc ?_ (by simp) _)⟩

theorem flt_cells {w w1 : World} (hb : Below (w.heap.size + 1) (w.alloc (.cells #[.int .i64 0, .bool false, .int .i64 0] 100)) w1) :
    w1.heap[w.heap.size]? = some (.cells #[.int .i64 0, .bool false, .int .i64 0] 100 (0, 0)) := by
  rw [hb.block _ (by omega)]
  exact blk_new _ _
set_option maxHeartbeats 800000 in
theorem fault_nil (w : World) : Calls Tryd.prog 85 #[.nilIface] w fun e w' => e = .returned (.agg #[.int .i64 0, .bool false, .int .i64 0]) ∧ Below w.heap.size w w' := by
  go_enter Tryd.func85, Tryd.ntmps85
  go_wp2_with fail
  refine (none_any _).mono ?_
  rintro e w1 ⟨rfl, hb1⟩
  have hblk := flt_cells (w := w) (by simpa using hb1)
  have c0 := blk_cell hblk 0
  have c1 := blk_cell hblk 1
  have c2 := blk_cell hblk 2
  have f0 := blk_free hblk 0
  have f1 := blk_free hblk 1
  have f2 := blk_free hblk 2
  have hlt := blk_lt hblk
  have HB := Lib.hid (show Below w.heap.size w w1 from ((Below.refl _ _).alloc (Nat.le_refl _) _).trans (hb1.mono (by simp)))
  clear hb1 hblk
  go_wp2
  exact bodyPost_ret (v := .agg #[.int .i64 0, .bool false, .int .i64 0]) (by simp [results, Tryd.results85, go_sem, c0, c1, c2, f0, f1, f2, hlt]) rfl ⟨rfl, ((HB.out.setCell (Nat.le_refl _) _).setCell (Nat.le_refl _) _).setCell (Nat.le_refl _) _⟩
set_option maxRecDepth 100000 in
set_option maxHeartbeats 800000 in
theorem fault_err (E : Nat → Addr) (k : Nat) (hk : k < 16) (w : World) (hE : ErrsAt errT gOf w E all16) :
    Calls Tryd.prog 85 #[errV (E k)] w fun e w' => e = .returned (.agg #[.int .i64 ((101 + k : Nat) : Int), .bool false, .int .i64 0]) ∧ Below w.heap.size w w' := by
  have HE := Lib.hid (hE.mono ((Below.refl _ _).alloc (Nat.le_refl _) (.cells #[.int .i64 0, .bool false, .int .i64 0] 100)))
  have hta : ∀ wx, (Instr.typeAssert (errV (E k)) 26 149 true).run Tryd.prog wx = .ok (.tuple #[.pointer none, .bool false]) wx := fun _ => by kernel_rfl
  clear hE
  go_enter Tryd.func85, Tryd.ntmps85
  go_wp2_with fail
  refine (sentinel_any E k hk _ HE.out).mono ?_
  rintro e w0 ⟨rfl, hb0⟩
  have HB0 := Lib.hid hb0
  clear hb0
  go_wp2_with fail
  refine (bare_any _ _).mono ?_
  rintro e w1 ⟨rfl, hb1'⟩
  have hb1 := HB0.out.trans (hb1'.mono HB0.out.size)
  have hblk := flt_cells (w := w) (by simpa using hb1)
  have c0 := blk_cell hblk 0
  have c1 := blk_cell hblk 1
  have c2 := blk_cell hblk 2
  have f0 := blk_free hblk 0
  have f1 := blk_free hblk 1
  have f2 := blk_free hblk 2
  have hlt := blk_lt hblk
  have HB := Lib.hid (show Below w.heap.size w w1 from ((Below.refl _ _).alloc (Nat.le_refl _) _).trans (hb1.mono (by simp)))
  clear hb1 hb1' hblk
  go_wp2
  exact bodyPost_ret (v := .agg #[.int .i64 ((101 + k : Nat) : Int), .bool false, .int .i64 0]) (by simp [results, Tryd.results85, go_sem, c0, c1, c2, f0, f1, f2, hlt]) rfl ⟨rfl, ((HB.out.setCell (Nat.le_refl _) _).setCell (Nat.le_refl _) _).setCell (Nat.le_refl _) _⟩

/-- an error that is sentinel k, or none: its number -/
def errNum (v : Value) (E : Nat → Addr) (c : Int) : Prop := (v = .nilIface ∧ c = 0) ∨ ∃ k, k < 16 ∧ v = errV (E k) ∧ c = ((101 + k : Nat) : Int)
theorem fault_any (E : Nat → Addr) (v : Value) (c : Int) (hv : errNum v E c) (w : World) (hE : ErrsAt errT gOf w E all16) :
    Calls Tryd.prog 85 #[v] w fun e w' => e = .returned (.agg #[.int .i64 c, .bool false, .int .i64 0]) ∧ Below w.heap.size w w' := by
  rcases hv with ⟨rfl, rfl⟩ | ⟨k, hk, rfl, rfl⟩
  · exact fault_nil w
  · exact fault_err E k hk w hE
set_option maxHeartbeats 800000 in
theorem same_any (E : Nat → Addr) (v : Value) (c d : Int) (hv : errNum v E c) (w : World) (hE : ErrsAt errT gOf w E all16) :
    Calls Tryd.prog 51 #[v, .agg #[.int .i64 d, .bool false, .int .i64 0]] w fun e w' => e = .returned (.bool (decide (c = d))) ∧ Below w.heap.size w w' := by
  have hb0 : Below w.heap.size w (w.alloc (.cells #[.int .i64 d, .bool false, .int .i64 0] 100)) := (Below.refl _ _).alloc (Nat.le_refl _) _
  have HF : Hid (∀ wx, Below (w.heap.size + 1) (w.alloc (.cells #[.int .i64 d, .bool false, .int .i64 0] 100)) wx → ErrsAt errT gOf wx E all16) := Lib.hid fun wx hwx => hE.mono (hb0.trans (hwx.mono (by omega)))
  have hblk := blk_new w (.cells #[.int .i64 d, .bool false, .int .i64 0] 100)
  have HB0 := Lib.hid hb0
  have HBK := Lib.hid hblk
  have HV := Lib.hid hv
  clear hE hb0 hblk hv
  go_enter Tryd.func51, Tryd.ntmps51
  have HK : Hid (∀ wx, Below (w.heap.size + 1) (w.alloc (.cells #[.int .i64 d, .bool false, .int .i64 0] 100)) wx → (Below (w.heap.size + 1) (w.alloc (.cells #[.int .i64 d, .bool false, .int .i64 0] 100)) wx ∧ wx.cell? ⟨w.heap.size, 0, none⟩ = some (.int .i64 d) ∧ wx.cell? ⟨w.heap.size, 1, none⟩ = some (.bool false) ∧ wx.cell? ⟨w.heap.size, 2, none⟩ = some (.int .i64 0))) := Lib.hid fun wx hwx => by
    have h : wx.heap[w.heap.size]? = some (.cells #[.int .i64 d, .bool false, .int .i64 0] 100 (0, 0)) := by rw [hwx.block _ (by omega)]; exact HBK.out
    exact ⟨hwx, blk_cell h 0, blk_cell h 1, blk_cell h 2⟩
  have hbD : Below (w.heap.size + 1) (w.alloc (.cells #[.int .i64 d, .bool false, .int .i64 0] 100)) (w.alloc (.cells #[.int .i64 d, .bool false, .int .i64 0] 100)).drew := (Below.refl _ _).drew
  go_wp2_with fail
  go_region_held3 (fun wx => Below (w.heap.size + 1) (w.alloc (.cells #[.int .i64 d, .bool false, .int .i64 0] 100)) wx ∧ wx.cell? ⟨w.heap.size, 0, none⟩ = some (.int .i64 d) ∧ wx.cell? ⟨w.heap.size, 1, none⟩ = some (.bool false) ∧ wx.cell? ⟨w.heap.size, 2, none⟩ = some (.int .i64 0)) (exact HK.out _ (by assumption))
    (first
      | (go_at_call 85; refine (fault_any E v c HV.out _ (HF.out _ hbD)).mono ?_; rintro e w2 ⟨rfl, hb2⟩; have hbS : Below (w.heap.size + 1) (w.alloc (.cells #[.int .i64 d, .bool false, .int .i64 0] 100)) w2 := hbD.trans (hb2.mono (by simp)))
      | (go_at_call 84; refine (sameFault_any c d _).mono ?_; rintro e w3 ⟨rfl, hb3⟩; have hbS3 : Below (w.heap.size + 1) (w.alloc (.cells #[.int .i64 d, .bool false, .int .i64 0] 100)) w3 := hbS.trans (hb3.mono (by have := hbS.size; simp at this; omega))))
  all_goals
    go_wp2
    go_ret
    exact ⟨rfl, HB0.out.trans (hbS3.mono (by omega))⟩

theorem is_any (E : Nat → Addr) (v : Value) (c d : Int) (hv : errNum v E c) (w : World) (hE : ErrsAt errT gOf w E all16) :
    Calls Tryd.prog 17 #[v, .int .i64 d] w fun e w' => e = .returned (.bool (decide (c = d))) ∧ Below w.heap.size w w' := by
  have HE := Lib.hid hE
  have HV := Lib.hid hv
  clear hE hv
  go_enter Tryd.func17, Tryd.ntmps17
  go_wp2_with fail
  refine (bare_any _ _).mono ?_
  rintro e w1 ⟨rfl, hb1⟩
  have HB1 := Lib.hid hb1
  clear hb1
  go_wp2_with fail
  refine (same_any E v c d HV.out _ (HE.out.mono HB1.out)).mono ?_
  rintro e w2 ⟨rfl, hb2⟩
  have HB2 := Lib.hid (HB1.out.trans (hb2.mono HB1.out.size))
  clear hb2
  go_wp2
  go_ret
  exact ⟨rfl, HB2.out⟩
end Go.Proofs.YtaoaachgnnengaaDoor

/-
  slices.Clone at uint32: the copy is in new memory and reads as what was copied; nothing that was there is turned.
-/
namespace Go.Proofs.YtaoaachgnnengaaDoor
open Go.RowKit
theorem infoU32 : (Tryd.prog.info? 88).map (fun i => (i.zero, i.size, i.bytes)) = some (some (.int .u32 0), 1, 4) := by kernel_rfl

set_option maxHeartbeats 400000 in
theorem cloneU32 (v : Value) (n : Nat) (xs : List Value) (w : World) (hr : Reads w v n xs) (hn : n * 4 ≤ 140737488355328) (hl : xs.length = n * 1) (h1 : ∀ u ∈ xs, u.oneCell' = true) :
    Calls Tryd.prog 76 #[v] w fun e w' => ∃ v', e = .returned v' ∧ w'.ownsRow 0 88 1 v' n xs ∧ (∀ k, inRow v' k → w.heap.size ≤ k) ∧ Below w.heap.size w w' := by
  obtain ⟨i0, hi, hz0, hz1, hz2⟩ := info_parts infoU32
  rcases hr with ⟨rfl, rfl, rfl⟩ | ⟨a, cap, rfl, hc⟩
  · have heq := fun wx => Lib.run_eql_slice_nil (P := Tryd.prog) wx 81 88 none 0 0 0 0 Tryd.underlying81
    clear hl h1 hn
    go_enter Tryd.func76, Tryd.ntmps76
    go_wp2
    go_ret
    exact ⟨_, rfl, own_nil _ _ _, fun k hk => by simp [inRow, Value.ownBlock] at hk, Below.refl _ _⟩
  · have heq := fun wx => Lib.run_eql_slice_nil (P := Tryd.prog) wx 81 88 (some a) n cap 0 0 Tryd.underlying81
    have HC := Lib.hid hc
    have HL := Lib.hid hl
    have H1 := Lib.hid h1
    clear hc hl h1
    go_enter Tryd.func76, Tryd.ntmps76
    go_wp2_with (at_builtin; refine wpList_append_sep _ rfl _ _ 81 rfl 88 i0 (.int .u32 0) 1 4 Tryd.underlying81 hi hz0 hz1 hz2 rfl (by decide) (.slice (some ⟨w.heap.size, 0, none⟩) 0 0) 0 [] rfl (World.ownsRow_made w #[] 0 (Nat.zero_le _) (Nat.zero_le _) rfl) a n cap xs rfl HL.out ?_ H1.out (by unfold maxLen; omega) (by omega) ?_)
    · intro j u hj
      have := HC.out j u hj
      exact (World.cell?_of_block (blk_cell_old this)).trans this
    · intro v' w' ho hg hs
      have hk' : ∀ k, inRow v' k → w.heap.size ≤ k := fun k hk => by
        rcases hs k hk with h | h
        · simp [inRow, Value.ownBlock] at h; omega
        · exact Nat.le_trans (by simp) h
      have hb : Below w.heap.size w w' := ((Below.refl _ _).alloc (Nat.le_refl _) _).grown hg (by simp) (fun k hk => by simp [Value.ownBlock] at hk; omega)
      have ho' : w'.ownsRow 0 88 1 v' n xs := by simpa using ho
      clear ho hg hs HC HL H1
      go_wp2
      go_ret
      exact ⟨_, rfl, ho', hk', hb⟩
end Go.Proofs.YtaoaachgnnengaaDoor

/-
  mem.Mem: what its functions answer, over the list of its words.
-/
namespace Go.Proofs.YtaoaachgnnengaaDoor
open Go.RowKit

def MAt (w : World) (b : Nat) (v : Value) (n : Nat) (l : List Int) : Prop := w.heap[b]? = some (.cells #[v] 108 (0, 0)) ∧ w.ownsRow 0 88 1 v (16 * n) (u32s l) ∧ l.length = 16 * n
theorem MAt.not {w : World} {b : Nat} {v : Value} {n : Nat} {l : List Int} (h : MAt w b v n l) : ¬ inRow v b := own_not h.2.1 h.1 (by decide)
theorem MAt.cell {w : World} {b : Nat} {v : Value} {n : Nat} {l : List Int} (h : MAt w b v n l) : w.cell? ⟨b, 0, none⟩ = some v := blk_cell h.1 0
theorem MAt.below {w w' : World} {b : Nat} {v : Value} {n : Nat} {l : List Int} (h : MAt w b v n l) (hb : Below w.heap.size w w') : MAt w' b v n l :=
  ⟨by rw [hb.block b (blk_lt h.1)]; exact h.1, own_frame h.2.1 fun k hk => hb.block k (own_lt h.2.1 hk), h.2.2⟩
theorem MAt.only {F : Nat → Prop} {w w' : World} {b : Nat} {v : Value} {n : Nat} {l : List Int} (h : MAt w b v n l) (ho : Only F w w') (h1 : ¬ F b) (h2 : ∀ k, inRow v k → ¬ F k) : MAt w' b v n l :=
  ⟨ho.blk h.1 h1, own_only h.2.1 ho h2, h.2.2⟩
theorem MAt.slice {w : World} {b : Nat} {v : Value} {n : Nat} {l : List Int} (h : MAt w b v n l) : ∃ ao cap, v = .slice ao (16 * n) cap ∧ AtL w ao (u32s l) := atL_of_own h.2.1
theorem MAt.own {w : World} {b : Nat} {v : Value} {n : Nat} {l : List Int} (h : MAt w b v n l) (hn : 0 < n) : ∃ g cap, v = .slice (some ⟨g, 0, none⟩) (16 * n) cap ∧ 16 * n ≤ cap := by
  rcases own_shape h.2.1 with ⟨-, hz, -⟩ | h
  · omega
  · obtain ⟨g, cap, e1, e2, -⟩ := h
    exact ⟨g, cap, e1, e2⟩
theorem u32s_set (l : List Int) (k : Nat) (x : Int) : (u32s l).set k (.int .u32 x) = u32s (l.set k x) := by simp [u32s, List.map_set]

set_option maxRecDepth 100000 in
set_option maxHeartbeats 800000 in
theorem mm_new (n : Nat) (w : World) (h1 : 1 ≤ n) (h2 : n ≤ 1024) :
    Calls Tryd.prog 31 #[.int .i64 n] w fun e w' => ∃ b v, e = .returned (.tuple #[.pointer (some ⟨b, 0, none⟩), .nilIface]) ∧ MAt w' b v n (List.replicate (16 * n) 0) ∧ w.heap.size ≤ b ∧ (∀ k, inRow v k → w.heap.size ≤ k) ∧ Below w.heap.size w w' := by
  obtain ⟨i, hi, hz0, hz1, hz2⟩ := info_parts infoU32
  have hn1 : ¬ (n : Int) < 1 := by omega
  have hn2 : ¬ (1024 : Int) < (n : Int) := by omega
  have hw := IntWalk.i64_in ((n : Int) * 16) (by omega)
  obtain ⟨v, w1, hmk, ho, hg, rfl⟩ : ∃ v w1, (Instr.makeSlice 81 (.int .i64 ((n : Int) * 16)) (.int .i64 ((n : Int) * 16))).run Tryd.prog w = .ok v w1 ∧ w1.ownsRow 0 88 1 v (16 * n) (u32s (List.replicate (16 * n) 0)) ∧ w.grownBy w1 none ∧ v = .slice (some ⟨w.heap.size, 0, none⟩) (16 * n) (16 * n) := by
    obtain ⟨w1, e, ho, hg⟩ := run_makeSlice_full (P := Tryd.prog) w 0 81 88 i (.int .u32 0) 1 Tryd.underlying81 hi hz0 hz1 .i64 .i64 (16 * n) (by omega) (by rw [hz2]; omega) (by unfold maxLen; omega) (Nat.zero_le _)
    rw [show ((16 * n : Nat) : Int) = (n : Int) * 16 by omega] at e
    refine ⟨_, w1, e, ?_, hg, rfl⟩
    rw [Nat.mul_one, show (Value.int IntKind.u32 0).cells = #[Value.int IntKind.u32 0] from rfl, toList_madeCells_one] at ho
    simpa [u32s] using ho
  have hb : Below w.heap.size w w1 := (Below.refl _ _).grown hg (Nat.le_refl _) (fun k hk => by cases hk)
  have HM : Hid (MAt (w1.alloc (.cells #[.slice (some ⟨w.heap.size, 0, none⟩) (16 * n) (16 * n)] 108)) w1.heap.size (.slice (some ⟨w.heap.size, 0, none⟩) (16 * n) (16 * n)) n (List.replicate (16 * n) 0)) := Lib.hid ⟨blk_new _ _, ho.alloc _, by simp⟩
  have HB := Lib.hid (hb.alloc hb.size (.cells #[.slice (some ⟨w.heap.size, 0, none⟩) (16 * n) (16 * n)] 108))
  have HS := Lib.hid hb.size
  have HV : Hid (∀ k, inRow (.slice (some ⟨w.heap.size, 0, none⟩) (16 * n) (16 * n)) k → w.heap.size ≤ k) := Lib.hid fun k hk => by simp [inRow, Value.ownBlock] at hk; omega
  clear ho hg hb
  go_enter Tryd.func31, Tryd.ntmps31
  go_wp2
  go_ret2
  first | exact ⟨w1.heap.size, _, rfl, HM.out, HS.out, HV.out, HB.out⟩ | exact ⟨w1.heap.size, rfl, _, HM.out, HS.out, HV.out, HB.out⟩ | exact ⟨_, rfl, _, HM.out, HS.out, HV.out, HB.out⟩

def readAns (l : List Int) (i : Int) : Value := if 0 ≤ i ∧ i < l.length then .tuple #[.int .u32 (l.getD i.toNat 0), .bool true] else .tuple #[.int .u32 0, .bool false]
set_option maxHeartbeats 800000 in
theorem mm_read (l : List Int) (b n : Nat) (v : Value) (i : Int) (w : World) (h : MAt w b v n l) :
    Calls Tryd.prog 46 #[.pointer (some ⟨b, 0, none⟩), .int .i64 i] w fun e w' => e = .returned (readAns l i) ∧ w = w' := by
  have c := h.cell
  have hlen := h.2.2
  obtain ⟨ao, cap, rfl, hat⟩ := h.slice
  have HAT := Lib.hid hat
  have HLEN := Lib.hid hlen
  clear h hat hlen
  by_cases h0 : i < 0
  · have HC : Hid (readAns l i = .tuple #[.int .u32 0, .bool false]) := Lib.hid (by unfold readAns; rw [if_neg (by omega)])
    go_enter Tryd.func46, Tryd.ntmps46
    go_wp2
    go_ret2
    exact ⟨by rw [HC.out]; rfl, rfl⟩
  · obtain ⟨j, rfl⟩ : ∃ j : Nat, i = (j : Int) := ⟨i.toNat, by omega⟩
    by_cases h1 : j < 16 * n
    · have HC : Hid (readAns l (j : Int) = .tuple #[.int .u32 (l.getD j 0), .bool true]) := Lib.hid (by unfold readAns; rw [if_pos (by have := HLEN.out; omega), Int.toNat_natCast])
      obtain ⟨d, off, rfl, c0, -⟩ := HAT.out j _ (u32s_get l j (by rw [HLEN.out]; exact h1))
      obtain ⟨z, hz⟩ : ∃ z, l.getD j 0 = z := ⟨_, rfl⟩
      rw [hz] at c0 HC
      clear hz
      have hji : (j : Int) < ((16 * n : Nat) : Int) := by omega
      obtain ⟨N, hN⟩ : ∃ N, 16 * n = N := ⟨_, rfl⟩
      rw [hN] at hji c
      clear h1
      go_enter Tryd.func46, Tryd.ntmps46
      clear hN
      go_wp2
      go_ret2
      exact ⟨by rw [HC.out]; rfl, rfl⟩
    · have HC : Hid (readAns l (j : Int) = .tuple #[.int .u32 0, .bool false]) := Lib.hid (by unfold readAns; rw [if_neg (by have := HLEN.out; omega)])
      have hji : ((16 * n : Nat) : Int) ≤ (j : Int) := by omega
      obtain ⟨N, hN⟩ : ∃ N, 16 * n = N := ⟨_, rfl⟩
      rw [hN] at hji c
      clear h1
      go_enter Tryd.func46, Tryd.ntmps46
      clear hN
      go_wp2
      go_ret2
      exact ⟨by rw [HC.out]; rfl, rfl⟩

def writeL (l : List Int) (i x : Int) : List Int := if 0 ≤ i ∧ i < l.length then l.set i.toNat x else l
set_option maxHeartbeats 800000 in
theorem mm_write (l : List Int) (b n : Nat) (v : Value) (i x : Int) (w : World) (h : MAt w b v n l) :
    Calls Tryd.prog 81 #[.pointer (some ⟨b, 0, none⟩), .int .i64 i, .int .u32 x] w fun e w' => e = .returned (.bool (decide (0 ≤ i) && decide (i < l.length))) ∧ MAt w' b v n (writeL l i x) ∧ Only (fun k => inRow v k) w w' := by
  have c := h.cell
  have HM := Lib.hid h
  by_cases h0 : i < 0
  · have HC : Hid (writeL l i x = l) := Lib.hid (by unfold writeL; rw [if_neg (by omega)])
    have HD : Hid ((decide (0 ≤ i) && decide (i < (l.length : Int))) = false) := Lib.hid (by simp; omega)
    rw [HC.out, HD.out]
    clear h
    go_enter Tryd.func81, Tryd.ntmps81
    go_wp2
    go_ret
    exact ⟨rfl, HM.out, Only.refl _ _⟩
  · obtain ⟨j, rfl⟩ : ∃ j : Nat, i = (j : Int) := ⟨i.toNat, by omega⟩
    have hlen := h.2.2
    by_cases h1 : j < 16 * n
    · have HC : Hid (writeL l j x = l.set j x) := Lib.hid (by unfold writeL; rw [if_pos (by omega), Int.toNat_natCast])
      have HD : Hid ((decide (0 ≤ (j : Int)) && decide ((j : Int) < (l.length : Int))) = true) := Lib.hid (by simp; omega)
      rw [HC.out, HD.out]
      obtain ⟨g, cap, rfl, -⟩ := h.own (by omega)
      have g0 := (own_cell h.2.1 j (by omega)).trans (u32s_get l j (by omega))
      have g1 := own_free h.2.1 j
      have hgb : ¬ b = g := fun e => h.not (by subst e; rfl)
      have HS : Hid (MAt (w.setCell ⟨g, j, none⟩ (.int .u32 x)) b (.slice (some ⟨g, 0, none⟩) (16 * n) cap) n (l.set j x)) := Lib.hid ⟨blk_set h.1 (by exact hgb) _, by
        rw [← u32s_set]
        exact (h.2.1.stored j _).1, by rw [List.length_set]; exact hlen⟩
      have HON : Hid (Only (fun k => inRow (.slice (some ⟨g, 0, none⟩) (16 * n) cap) k) w (w.setCell ⟨g, j, none⟩ (.int .u32 x))) := Lib.hid
        (Only.setCell (F := fun k => inRow (.slice (some ⟨g, 0, none⟩) (16 * n) cap) k) (Only.refl _ _) (p := ⟨g, j, none⟩) (.inl rfl) _)
      have hji : (j : Int) < ((16 * n : Nat) : Int) := by omega
      obtain ⟨N, hN⟩ : ∃ N, 16 * n = N := ⟨_, rfl⟩
      rw [hN] at hji c HON HS ⊢
      clear h h1 hgb hlen HM HC
      go_enter Tryd.func81, Tryd.ntmps81
      clear hN
      go_wp2
      go_ret
      exact ⟨rfl, HS.out, HON.out⟩
    · have HC : Hid (writeL l j x = l) := Lib.hid (by unfold writeL; rw [if_neg (by omega)])
      have HD : Hid ((decide (0 ≤ (j : Int)) && decide ((j : Int) < (l.length : Int))) = false) := Lib.hid (by simp; omega)
      rw [HC.out, HD.out]
      obtain ⟨ao, cap, rfl, -⟩ := h.slice
      have hji : ((16 * n : Nat) : Int) ≤ (j : Int) := by omega
      obtain ⟨N, hN⟩ : ∃ N, 16 * n = N := ⟨_, rfl⟩
      rw [hN] at hji c HM ⊢
      clear h h1 hlen
      go_enter Tryd.func81, Tryd.ntmps81
      clear hN
      go_wp2
      go_ret
      exact ⟨rfl, HM.out, Only.refl _ _⟩
end Go.Proofs.YtaoaachgnnengaaDoor

/-
  mem.Mem: Frames, Frame, Clone.
-/
namespace Go.Proofs.YtaoaachgnnengaaDoor
open Go.RowKit

set_option maxHeartbeats 800000 in
theorem mm_frames (l : List Int) (b n : Nat) (v : Value) (w : World) (h : MAt w b v n l) (hn : n ≤ 1024) :
    Calls Tryd.prog 82 #[.pointer (some ⟨b, 0, none⟩)] w fun e w' => e = .returned (.int .i64 n) ∧ w = w' := by
  have c := h.cell
  obtain ⟨ao, cap, rfl, -⟩ := h.slice
  clear h
  obtain ⟨N, hN⟩ : ∃ N, 16 * n = N := ⟨_, rfl⟩
  have H3 : Hid ((N : Int) / 16 = n) := Lib.hid (by omega)
  have hw := IntWalk.i64_in ((N : Int) / 16) (by omega)
  rw [hN] at c
  clear hN
  go_enter Tryd.func82, Tryd.ntmps82
  go_wp2
  go_ret
  refine ⟨?_, rfl⟩
  show Ending.returned (Value.int .i64 ((N : Int) / 16)) = _
  rw [H3.out]

def frameW (l : List Int) (f : Nat) : List Int := (l.drop (16 * f)).take 16
theorem frameW_len (l : List Int) (n f : Nat) (hl : l.length = 16 * n) (hf : f < n) : (frameW l f).length = 16 := by simp [frameW]; omega
theorem frameW_get (l : List Int) (n f k : Nat) (hl : l.length = 16 * n) (hf : f < n) (hk : k < 16) : (frameW l f).getD k 0 = l.getD (16 * f + k) 0 := by
  simp [frameW, List.getD_eq_getElem?_getD, List.getElem?_take, hk]

set_option maxHeartbeats 800000 in
theorem mm_frame_none (l : List Int) (b n : Nat) (v : Value) (f : Int) (w : World) (h : MAt w b v n l) (hn : n ≤ 1024) (hf : f < 0 ∨ (n : Int) ≤ f) :
    Calls Tryd.prog 43 #[.pointer (some ⟨b, 0, none⟩), .int .i64 f] w fun e w' => e = .returned (.tuple #[.slice none 0 0, .bool false]) ∧ w = w' := by
  have HM := Lib.hid h
  clear h
  by_cases h0 : f < 0
  · clear hf
    go_enter Tryd.func43, Tryd.ntmps43
    go_wp2
    go_ret2
    exact ⟨rfl, rfl⟩
  · have h1 : (n : Int) ≤ f := by omega
    clear hf
    go_enter Tryd.func43, Tryd.ntmps43
    go_wp2_with fail
    refine (mm_frames l b n v _ HM.out hn).mono ?_
    rintro e w1 ⟨rfl, rfl⟩
    go_wp2
    go_ret2
    exact ⟨rfl, rfl⟩

set_option maxHeartbeats 1600000 in
theorem mm_frame (l : List Int) (b n f : Nat) (v : Value) (w : World) (h : MAt w b v n l) (hn : n ≤ 1024) (hf : f < n) :
    Calls Tryd.prog 43 #[.pointer (some ⟨b, 0, none⟩), .int .i64 f] w fun e w' => ∃ v', e = .returned (.tuple #[v', .bool true]) ∧ w'.ownsRow 0 88 1 v' 16 (u32s (frameW l f)) ∧ (∀ k, inRow v' k → w.heap.size ≤ k) ∧ Below w.heap.size w w' := by
  have c := h.cell
  have HM := Lib.hid h
  have hlen := h.2.2
  obtain ⟨g, cap, rfl, hcap⟩ := h.own (by omega)
  have hrd : Reads w (.slice (some ⟨g, 16 * f, none⟩) 16 (cap - 16 * f)) 16 (u32s (frameW l f)) := .inr ⟨⟨g, 16 * f, none⟩, cap - 16 * f, rfl, fun j u hj => by
    have hj16 : j < 16 := by
      have := (List.getElem?_eq_some_iff.mp hj).1
      rw [u32s, List.length_map, frameW_len l n f hlen hf] at this
      exact this
    rw [u32s_get _ j (by rw [frameW_len l n f hlen hf]; exact hj16), frameW_get l n f j hlen hf hj16] at hj
    rw [Addr.add_lit]
    rw [← hj]
    exact (own_cell h.2.1 (16 * f + j) (by omega)).trans (u32s_get l (16 * f + j) (by omega))⟩
  have HRD := Lib.hid hrd
  have HLN : Hid ((u32s (frameW l f)).length = 16 * 1) := Lib.hid (by rw [u32s, List.length_map, frameW_len l n f hlen hf])
  have h1 := IntWalk.i64_in ((f : Int) * 16) (by omega)
  have h2 := IntWalk.i64_in ((f : Int) + 1) (by omega)
  have h3 := IntWalk.i64_in (((f : Int) + 1) * 16) (by omega)
  have hfi : (f : Int) < (n : Int) := by omega
  have e1 : ((f : Int) * 16).toNat = 16 * f := by omega
  have e2 : (((f : Int) + 1) * 16).toNat = 16 * f + 16 := by omega
  have g1 : (0 : Int) ≤ (f : Int) * 16 := by omega
  have g2 : (f : Int) * 16 ≤ ((f : Int) + 1) * 16 := by omega
  have g3 : ((f : Int) + 1) * 16 ≤ (cap : Int) := by omega
  clear h hrd hlen
  go_enter Tryd.func43, Tryd.ntmps43
  go_wp2_with fail
  refine (mm_frames l b n _ _ HM.out hn).mono ?_
  rintro e w1 ⟨rfl, rfl⟩
  go_wp2_with fail
  refine (cloneU32 _ 16 (u32s (frameW l f)) _ HRD.out (by decide) HLN.out (u32s_one _)).mono ?_
  rintro e w2 ⟨v', rfl, ho, hf2, hb2⟩
  have HO := Lib.hid ho
  have HF := Lib.hid hf2
  have HB := Lib.hid hb2
  obtain ⟨ao2, cap2, rfl⟩ := own_slice ho
  clear ho hf2 hb2
  go_wp2
  go_ret2
  exact ⟨_, rfl, HO.out, HF.out, HB.out⟩

set_option maxHeartbeats 800000 in
theorem mm_clone (l : List Int) (b n : Nat) (v : Value) (w : World) (h : MAt w b v n l) (hn : n ≤ 1024) :
    Calls Tryd.prog 39 #[.pointer (some ⟨b, 0, none⟩)] w fun e w' => ∃ cb cv, e = .returned (.pointer (some ⟨cb, 0, none⟩)) ∧ MAt w' cb cv n l ∧ w.heap.size ≤ cb ∧ (∀ k, inRow cv k → w.heap.size ≤ k) ∧ Below w.heap.size w w' := by
  have c := h.cell
  have HR := Lib.hid (own_reads h.2.1)
  have HLN := Lib.hid h.2.2
  have HLN2 : Hid ((u32s l).length = 16 * n * 1) := Lib.hid (by rw [u32s, List.length_map, h.2.2, Nat.mul_one])
  clear h
  go_enter Tryd.func39, Tryd.ntmps39
  go_wp2_with fail
  refine (cloneU32 v (16 * n) (u32s l) _ HR.out (by omega) HLN2.out (u32s_one l)).mono ?_
  rintro e w1 ⟨v', rfl, ho, hf, hb⟩
  have HP : Hid (MAt (w1.alloc (.cells #[v'] 108)) w1.heap.size v' n l) := Lib.hid ⟨blk_new _ _, ho.alloc _, HLN.out⟩
  have HF := Lib.hid hf
  have HB := Lib.hid (hb.alloc hb.size (.cells #[v'] 108))
  have HS := Lib.hid hb.size
  obtain ⟨ao, cap, rfl⟩ := own_slice ho
  clear ho hf hb
  go_wp2
  go_ret
  exact ⟨_, _, rfl, HP.out, HS.out, HF.out, HB.out⟩
end Go.Proofs.YtaoaachgnnengaaDoor

/-
  mem.Mem: a word within; lists and one place of theirs.
-/
namespace Go.Proofs.YtaoaachgnnengaaDoor
open Go.RowKit

theorem setD_get (l : List Int) (a k : Nat) (x : Int) (ha : a < l.length) : (l.set a x).getD k 0 = if k = a then x else l.getD k 0 := by
  by_cases h : k = a
  · subst h
    simp [List.getD_eq_getElem?_getD, ha]
  · rw [if_neg h]
    simp [List.getD_eq_getElem?_getD, List.getElem?_set_ne (fun e => h e.symm)]
theorem repD_get (n k : Nat) : (List.replicate n (0 : Int)).getD k 0 = 0 := by
  simp only [List.getD_eq_getElem?_getD, List.getElem?_replicate]
  split <;> rfl
theorem extD {xs ys : List Int} (hl : xs.length = ys.length) (h : ∀ j, j < xs.length → xs.getD j 0 = ys.getD j 0) : xs = ys := by
  apply List.ext_getElem hl
  intro j h1 h2
  have := h j h1
  simpa [List.getD_eq_getElem?_getD, h1, h2] using this
theorem mm_read_at (l : List Int) (b n j : Nat) (v : Value) (w : World) (h : MAt w b v n l) (hj : j < 16 * n) :
    Calls Tryd.prog 46 #[.pointer (some ⟨b, 0, none⟩), .int .i64 j] w fun e w' => e = .returned (.tuple #[.int .u32 (l.getD j 0), .bool true]) ∧ w = w' := by
  have hl := h.2.2
  have e1 : readAns l (j : Int) = .tuple #[.int .u32 (l.getD j 0), .bool true] := by unfold readAns; rw [if_pos (by omega), Int.toNat_natCast]
  have := mm_read l b n v (j : Int) w h
  rw [e1] at this
  exact this

theorem mm_write_at (l : List Int) (b n j : Nat) (v : Value) (x : Int) (w : World) (h : MAt w b v n l) (hj : j < 16 * n) :
    Calls Tryd.prog 81 #[.pointer (some ⟨b, 0, none⟩), .int .i64 j, .int .u32 x] w fun e w' => e = .returned (.bool true) ∧ MAt w' b v n (l.set j x) ∧ Only (fun k => inRow v k) w w' := by
  have hl := h.2.2
  have e1 : writeL l (j : Int) x = l.set j x := by unfold writeL; rw [if_pos (by omega), Int.toNat_natCast]
  have e2 : (decide (0 ≤ (j : Int)) && decide ((j : Int) < (l.length : Int))) = true := by simp; omega
  have := mm_write l b n v (j : Int) x w h
  rw [e1, e2] at this
  exact this
end Go.Proofs.YtaoaachgnnengaaDoor

/-
  Contracts of walk.Bits, walk.Of and facaderef.SameEntry, and the plain law that an entry and its bits go back and forth.
-/
namespace Go.Proofs.YtaoaachgnnengaaDoor
open Go.RowKit
def b2i (b : Bool) : Int := if b then 1 else 0
/-- an entry that may be -/
def entOk (f : Int) (t wr u : Bool) : Prop := 0 ≤ f ∧ f < 1024 ∧ (t = false → f = 0 ∧ wr = false ∧ u = false)
/-- its bits -/
def entW (f : Int) (t wr u : Bool) : Int := f * 256 + b2i t + 2 * b2i wr + 4 * b2i u
/-- the value of an entry -/
def ent (f : Int) (t wr u : Bool) : Value := .agg #[.int .i64 f, .bool t, .bool wr, .bool u]
/-- a flag of a word -/
def flag (x k : Int) : Bool := decide (0 < bits BinOp.and IntKind.u32 x k)
/-- a word is an entry's -/
def isEnt (x : Int) : Prop := entOk (x / 256) (flag x 1) (flag x 2) (flag x 4) ∧ entW (x / 256) (flag x 1) (flag x 2) (flag x 4) = x

theorem or_low (f m k : Nat) (h2 : f < 1024) (hm : m < 256) (hk : k < 256) (he : m ||| k = m + k) : bits BinOp.or IntKind.u32 ((f * 256 + m : Nat) : Int) k = ((f * 256 + (m + k) : Nat) : Int) := by
  rw [or_nat _ _ (by omega) (by omega)]
  congr 1
  have h8 : f * 256 = 2 ^ 8 * f := by omega
  rw [h8, Nat.two_pow_add_eq_or_of_lt (by simpa using hm), Nat.or_assoc, he, ← Nat.two_pow_add_eq_or_of_lt]
  have : m ||| k < 2 ^ 8 := Nat.or_lt_two_pow (by simpa using hm) (by simpa using hk)
  omega
theorem or_0 (f : Int) (k : Nat) (h : 0 ≤ f) (h2 : f < 1024) (hk : k < 256) : bits BinOp.or IntKind.u32 (f * 256) k = f * 256 + k := by
  obtain ⟨n, rfl⟩ := Int.eq_ofNat_of_zero_le h
  have := or_low n 0 k (by omega) (by omega) hk (by simp)
  simp at this
  omega
theorem or_1 (f : Int) (k : Nat) (h : 0 ≤ f) (h2 : f < 1024) (hk : k = 2 ∨ k = 4) : bits BinOp.or IntKind.u32 (f * 256 + 1) k = f * 256 + 1 + k := by
  obtain ⟨n, rfl⟩ := Int.eq_ofNat_of_zero_le h
  have := or_low n 1 k (by omega) (by omega) (by omega) (by rcases hk with rfl | rfl <;> decide)
  simp at this
  omega
theorem or_3 (f : Int) (h : 0 ≤ f) (h2 : f < 1024) : bits BinOp.or IntKind.u32 (f * 256 + 1 + 2) 4 = f * 256 + 7 := by
  obtain ⟨n, rfl⟩ := Int.eq_ofNat_of_zero_le h
  have := or_low n 3 4 (by omega) (by omega) (by omega) (by decide)
  simp at this
  rw [show ((n : Int) * 256 + 1 + 2) = (n : Int) * 256 + 3 from by omega]
  omega

set_option maxHeartbeats 400000 in
theorem bits_no (f : Int) (t wr u : Bool) (w : World) (h : ¬ entOk f t wr u) :
    Calls Tryd.prog 89 #[.agg #[.int .i64 f, .bool t, .bool wr, .bool u]] w fun e w' => e = .returned (.tuple #[.int .u32 0, .bool false]) ∧ Below w.heap.size w w' := by
  by_cases h1 : f < 0
  · clear h
    go_enter Tryd.func89, Tryd.ntmps89
    go_wp2
    go_ret2
    exact ⟨rfl, (Below.refl _ _).alloc (Nat.le_refl _) _⟩
  · by_cases h2 : 1024 ≤ f
    · clear h
      go_enter Tryd.func89, Tryd.ntmps89
      go_wp2
      go_ret2
      exact ⟨rfl, (Below.refl _ _).alloc (Nat.le_refl _) _⟩
    · have ht : t = false := by
        cases t
        · rfl
        · exact (h ⟨by omega, by omega, by simp⟩).elim
      subst ht
      have h0 : (f == 0 && !wr && !u) = false := by
        cases wr <;> cases u <;> simp [entOk] at h ⊢
        omega
      clear h
      by_cases hf : f = 0
      · subst hf
        cases wr <;> cases u
        · simp at h0
        all_goals
          clear h0 h1 h2
          go_enter Tryd.func89, Tryd.ntmps89
          go_wp2
          go_ret2
          exact ⟨rfl, (Below.refl _ _).alloc (Nat.le_refl _) _⟩
      · clear h0
        have hf' : (f == 0) = false := by simp [hf]
        clear hf
        go_enter Tryd.func89, Tryd.ntmps89
        go_wp2
        go_ret2
        exact ⟨rfl, (Below.refl _ _).alloc (Nat.le_refl _) _⟩

set_option maxHeartbeats 800000 in
theorem bits_there (f : Int) (wr u : Bool) (w : World) (h : 0 ≤ f) (h2 : f < 1024) :
    Calls Tryd.prog 89 #[.agg #[.int .i64 f, .bool true, .bool wr, .bool u]] w fun e w' => e = .returned (.tuple #[.int .u32 (entW f true wr u), .bool true]) ∧ Below w.heap.size w w' := by
  have e0 : bits BinOp.or IntKind.u32 (f * 256) 1 = f * 256 + 1 := or_0 f 1 h h2 (by omega)
  have e1 : bits BinOp.or IntKind.u32 (f * 256 + 1) 2 = f * 256 + 1 + 2 := or_1 f 2 h h2 (by omega)
  have e2 : bits BinOp.or IntKind.u32 (f * 256 + 1) 4 = f * 256 + 1 + 4 := or_1 f 4 h h2 (by omega)
  have e3 := or_3 f h h2
  cases wr <;> cases u
  all_goals
    go_enter Tryd.func89, Tryd.ntmps89
    go_wp2
    refine wp_loop_rounds 4 ?_
    rw [rounds_succ]
    go_wp2
    rw [rounds_succ]
    go_wp2
    rw [rounds_succ]
    go_wp2
    rw [rounds_succ]
    go_wp2
    go_ret2
    refine ⟨?_, ((Below.refl _ _).alloc (Nat.le_refl _) _).alloc (by simp) _⟩
    show Ending.returned (Value.tuple #[.int .u32 _, .bool true]) = _
    simp only [entW, b2i]
    congr 4
  all_goals simp
  all_goals omega

set_option maxHeartbeats 400000 in
theorem bits_zero (w : World) :
    Calls Tryd.prog 89 #[.agg #[.int .i64 0, .bool false, .bool false, .bool false]] w fun e w' => e = .returned (.tuple #[.int .u32 0, .bool true]) ∧ Below w.heap.size w w' := by
  go_enter Tryd.func89, Tryd.ntmps89
  go_wp2
  refine wp_loop_rounds 4 ?_
  rw [rounds_succ]
  go_wp2
  rw [rounds_succ]
  go_wp2
  rw [rounds_succ]
  go_wp2
  rw [rounds_succ]
  go_wp2
  go_ret2
  exact ⟨rfl, ((Below.refl _ _).alloc (Nat.le_refl _) _).alloc (by simp) _⟩

theorem bits_yes (f : Int) (t wr u : Bool) (w : World) (h : entOk f t wr u) :
    Calls Tryd.prog 89 #[.agg #[.int .i64 f, .bool t, .bool wr, .bool u]] w fun e w' => e = .returned (.tuple #[.int .u32 (entW f t wr u), .bool true]) ∧ Below w.heap.size w w' := by
  cases t
  · obtain ⟨rfl, rfl, rfl⟩ := h.2.2 rfl
    exact bits_zero w
  · exact bits_there f wr u w h.1 h.2.1

set_option maxHeartbeats 400000 in
theorem of_yes (x : Int) (w : World) (h : 0 ≤ x) (h2 : x ≤ 4294967295) (hx : isEnt x) :
    Calls Tryd.prog 98 #[.int .u32 x] w fun e w' => e = .returned (.tuple #[.agg #[.int .i64 (x / 256), .bool (flag x 1), .bool (flag x 2), .bool (flag x 4)], .bool true]) ∧ Below w.heap.size w w' := by
  obtain ⟨hok, hw⟩ := hx
  have e1 : (entW (x / 256) (flag x 1) (flag x 2) (flag x 4) != x) = false := by simp [hw]
  clear hw
  go_enter Tryd.func98, Tryd.ntmps98
  go_wp2_with fail
  refine (bits_yes (x / 256) (flag x 1) (flag x 2) (flag x 4) _ hok).mono ?_
  rintro e w1 ⟨rfl, hb⟩
  obtain ⟨hc, hf⟩ := bcell hb
  go_wp2
  refine bodyPost_ret (v := .tuple #[.agg #[.int .i64 (x / 256), .bool (flag x 1), .bool (flag x 2), .bool (flag x 4)], .bool true]) (by simp [results, Tryd.results98, go_sem, flag, hc, show w.heap.size < w.heap.size + 1 + 1 from by omega]) rfl ⟨rfl, ?_⟩
  have hb' : Below w.heap.size _ w1 := hb.mono (by simp; omega)
  refine Below.setCell (Below.setCell (Below.setCell (Below.setCell ?_ (by simp) _) (by simp) _) (by simp) _) (by simp) _
  exact (((Below.refl _ _).alloc (Nat.le_refl _) _).alloc (by simp) _).trans hb'

set_option maxHeartbeats 400000 in
theorem of_no (x : Int) (w : World) (h : 0 ≤ x) (h2 : x ≤ 4294967295) (hx : ¬ isEnt x) :
    Calls Tryd.prog 98 #[.int .u32 x] w fun e w' => e = .returned (.tuple #[.agg #[.int .i64 0, .bool false, .bool false, .bool false], .bool false]) ∧ Below w.heap.size w w' := by
  by_cases hok : entOk (x / 256) (flag x 1) (flag x 2) (flag x 4)
  · have e1 : (entW (x / 256) (flag x 1) (flag x 2) (flag x 4) != x) = true := by
      simp only [bne_iff_ne]
      exact fun e => hx ⟨hok, e⟩
    clear hx
    go_enter Tryd.func98, Tryd.ntmps98
    go_wp2_with fail
    refine (bits_yes (x / 256) (flag x 1) (flag x 2) (flag x 4) _ hok).mono ?_
    rintro e w1 ⟨rfl, hb⟩
    obtain ⟨hc, hf⟩ := bcell hb
    go_wp2
    refine bodyPost_ret (v := .tuple #[.agg #[.int .i64 0, .bool false, .bool false, .bool false], .bool false]) (by simp [results, Tryd.results98, go_sem, hc, show w.heap.size < w.heap.size + 1 + 1 from by omega]) rfl ⟨rfl, ?_⟩
    have hb' : Below w.heap.size _ w1 := hb.mono (by simp; omega)
    refine Below.setCell (Below.setCell (Below.setCell (Below.setCell ?_ (by simp) _) (by simp) _) (by simp) _) (by simp) _
    exact (((Below.refl _ _).alloc (Nat.le_refl _) _).alloc (by simp) _).trans hb'
  · clear hx
    go_enter Tryd.func98, Tryd.ntmps98
    go_wp2_with fail
    refine (bits_no (x / 256) (flag x 1) (flag x 2) (flag x 4) _ hok).mono ?_
    rintro e w1 ⟨rfl, hb⟩
    obtain ⟨hc, hf⟩ := bcell hb
    go_wp2
    refine bodyPost_ret (v := .tuple #[.agg #[.int .i64 0, .bool false, .bool false, .bool false], .bool false]) (by simp [results, Tryd.results98, go_sem, hc, show w.heap.size < w.heap.size + 1 + 1 from by omega]) rfl ⟨rfl, ?_⟩
    have hb' : Below w.heap.size _ w1 := hb.mono (by simp; omega)
    refine Below.setCell (Below.setCell (Below.setCell (Below.setCell ?_ (by simp) _) (by simp) _) (by simp) _) (by simp) _
    exact (((Below.refl _ _).alloc (Nat.le_refl _) _).alloc (by simp) _).trans hb'
end Go.Proofs.YtaoaachgnnengaaDoor

/-
  Plain laws: an entry and its bits go back and forth; unlike entries have unlike bits.
-/
namespace Go.Proofs.YtaoaachgnnengaaDoor
open Go.RowKit

theorem and_pow (n i : Nat) : (0 < n &&& 2 ^ i) ↔ n / 2 ^ i % 2 = 1 := by
  rw [← decide_eq_true_iff (p := n / 2 ^ i % 2 = 1), ← Nat.testBit_eq_decide_div_mod_eq]
  constructor
  · intro h
    cases hb : n.testBit i
    · have : n &&& 2 ^ i = 0 := by
        apply Nat.eq_of_testBit_eq
        intro j
        rw [Nat.testBit_and, Nat.testBit_two_pow, Nat.zero_testBit]
        by_cases hj : i = j
        · subst hj; simp [hb]
        · simp [hj]
      omega
    · rfl
  · intro h
    have : (n &&& 2 ^ i).testBit i = true := by
      rw [Nat.testBit_and, Nat.testBit_two_pow]; simp [h]
    rcases Nat.eq_zero_or_pos (n &&& 2 ^ i) with h0 | h0
    · rw [h0] at this; simp at this
    · exact h0
theorem flag_pow (x : Int) (i : Nat) (hi : i < 8) (h : 0 ≤ x) (h2 : x ≤ 4294967295) : flag x ((2 ^ i : Nat) : Int) = decide (x / ((2 ^ i : Nat) : Int) % 2 = 1) := by
  obtain ⟨n, rfl⟩ := Int.eq_ofNat_of_zero_le h
  have hp : 2 ^ i < 4294967296 := Nat.lt_of_lt_of_le (Nat.pow_lt_pow_right (by omega) hi) (by decide)
  have e := and_nat n (2 ^ i) (by omega) hp
  unfold flag
  rw [e, decide_eq_decide]
  have hc : ((n : Int) / ((2 ^ i : Nat) : Int) % 2 = 1) ↔ (n / 2 ^ i % 2 = 1) := by
    rw [← Int.natCast_ediv]; omega
  rw [hc, ← and_pow]
  omega
theorem flag_1 (x : Int) (h : 0 ≤ x) (h2 : x ≤ 4294967295) : flag x 1 = decide (x % 2 = 1) := by
  have := flag_pow x 0 (by omega) h h2
  simpa using this
theorem flag_2 (x : Int) (h : 0 ≤ x) (h2 : x ≤ 4294967295) : flag x 2 = decide (x / 2 % 2 = 1) := flag_pow x 1 (by omega) h h2
theorem flag_4 (x : Int) (h : 0 ≤ x) (h2 : x ≤ 4294967295) : flag x 4 = decide (x / 4 % 2 = 1) := flag_pow x 2 (by omega) h h2

theorem entW_range {f : Int} {t wr u : Bool} (h : entOk f t wr u) : 0 ≤ entW f t wr u ∧ entW f t wr u ≤ 262143 := by
  obtain ⟨h1, h2, -⟩ := h
  cases t <;> cases wr <;> cases u <;> simp [entW, b2i] <;> omega
theorem ent_back {f : Int} {t wr u : Bool} (h : entOk f t wr u) : entW f t wr u / 256 = f ∧ flag (entW f t wr u) 1 = t ∧ flag (entW f t wr u) 2 = wr ∧ flag (entW f t wr u) 4 = u := by
  have hr := entW_range h
  rw [flag_1 _ hr.1 (by omega), flag_2 _ hr.1 (by omega), flag_4 _ hr.1 (by omega)]
  obtain ⟨h1, h2, -⟩ := h
  cases t <;> cases wr <;> cases u <;> simp [entW, b2i] <;> omega
theorem ent_is {f : Int} {t wr u : Bool} (h : entOk f t wr u) : isEnt (entW f t wr u) := by
  obtain ⟨e1, e2, e3, e4⟩ := ent_back h
  unfold isEnt
  rw [e1, e2, e3, e4]
  exact ⟨h, rfl⟩
theorem ent_inj {f g : Int} {t1 w1 u1 t2 w2 u2 : Bool} (h : entOk f t1 w1 u1) (h' : entOk g t2 w2 u2) (e : entW f t1 w1 u1 = entW g t2 w2 u2) : f = g ∧ t1 = t2 ∧ w1 = w2 ∧ u1 = u2 := by
  obtain ⟨a1, a2, a3, a4⟩ := ent_back h
  obtain ⟨b1, b2, b3, b4⟩ := ent_back h'
  rw [e] at a1 a2 a3 a4
  exact ⟨a1.symm.trans b1, a2.symm.trans b2, a3.symm.trans b3, a4.symm.trans b4⟩
end Go.Proofs.YtaoaachgnnengaaDoor

/-
  WalkBack returns true for every pair of entries and every word; nothing that was there is turned. No conditions.
-/
namespace Go.Proofs.YtaoaachgnnengaaDoor
open Go.ChangeShapes Go.WideShapes Go.ChangeAt Go.RowKit Go.Joins

theorem of_ent (f : Int) (t wr u : Bool) (w : World) (h : entOk f t wr u) :
    Calls Tryd.prog 98 #[.int .u32 (entW f t wr u)] w fun e w' => e = .returned (.tuple #[.agg #[.int .i64 f, .bool t, .bool wr, .bool u], .bool true]) ∧ Below w.heap.size w w' := by
  have hr := entW_range h
  obtain ⟨e1, e2, e3, e4⟩ := ent_back h
  have := of_yes (entW f t wr u) w hr.1 (by omega) (ent_is h)
  rw [e1, e2, e3, e4] at this
  exact this
end Go.Proofs.YtaoaachgnnengaaDoor

