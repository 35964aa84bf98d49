/-
  facadesee: is an error this one? Over the program's sentinels.
-/
import Derived.Test.YtnhocmmgdkiepaaDoorErrsSeat
import Derived.BigQuiet
import Derived.Deep.RegionWith
import Derived.Deep.RegionHeld3
namespace Go.Proofs.YtnhocmmgdkiepaaDoor
open Go.RowKit

abbrev errV (a : Addr) : Value := .iface errT (.pointer (some a))
def all16 : List Nat := [0, 1, 2, 3, 4, 5, 6, 7, 8, 9, 10, 11, 12, 13, 14, 15]
theorem mem16 {k : Nat} (h : k < 16) : k ∈ all16 := by
  simp [all16]
  omega
theorem err_comp : (Tryd.prog.info? errT).map (·.comparable) = some true := by kernel_rfl
theorem err_size : (Tryd.prog.info? 230).map (·.size) = some 1 := by kernel_rfl
theorem eql_same (w : World) (a : Addr) : (binOp .eql 27 (errV a) (errV a)).run Tryd.prog w = .ok (.bool true) w := by
  obtain ⟨i, hi, hc⟩ := Option.map_eq_some_iff.1 err_comp
  obtain ⟨j, hj, -⟩ := Option.map_eq_some_iff.1 err_size
  exact run_eql_iface_ptr_same w a Tryd.underlying27 Tryd.underlying213 hi hc hj
theorem eql_other (w : World) {a b : Addr} (hne : a ≠ b) (ha : ∃ c t, w.heap[a.block]? = some (.cells c t (0, 0))) (hb : ∃ c t, w.heap[b.block]? = some (.cells c t (0, 0))) :
    (binOp .eql 27 (errV a) (errV b)).run Tryd.prog w = .ok (.bool false) w := by
  obtain ⟨i, hi, hc⟩ := Option.map_eq_some_iff.1 err_comp
  obtain ⟨j, hj, hs⟩ := Option.map_eq_some_iff.1 err_size
  obtain ⟨ca, ta, ha⟩ := ha
  obtain ⟨cb, tb, hb⟩ := hb
  exact run_eql_iface_ptr_other w Tryd.underlying27 Tryd.underlying213 hi hc hj (by omega) hne ha hb

set_option maxHeartbeats 400000 in
theorem alike_same (a : Addr) (w : World) : Calls Tryd.prog 148 #[errV a, errV a] w fun e w' => e = .returned (.bool true) ∧ w = w' := by
  have heq := fun wx => eql_same wx a
  go_enter Tryd.func148, Tryd.ntmps148
  go_wp2
  go_ret
  exact ⟨rfl, rfl⟩
set_option maxHeartbeats 400000 in
theorem alike_other (a b : Addr) (w : World) (hne : a ≠ b) (ha : ∃ c t, w.heap[a.block]? = some (.cells c t (0, 0))) (hb : ∃ c t, w.heap[b.block]? = some (.cells c t (0, 0))) :
    Calls Tryd.prog 148 #[errV a, errV b] w fun e w' => e = .returned (.bool false) ∧ w = w' := by
  have heq := eql_other w hne ha hb
  clear hne ha hb
  go_enter Tryd.func148, Tryd.ntmps148
  go_wp2
  go_ret
  exact ⟨rfl, rfl⟩

def errArr (E : Nat → Addr) : Array Value := #[errV (E 0), errV (E 1), errV (E 2), errV (E 3), errV (E 4), errV (E 5), errV (E 6), errV (E 7), errV (E 8), errV (E 9), errV (E 10), errV (E 11), errV (E 12), errV (E 13), errV (E 14), errV (E 15)]
theorem errArr_get (E : Nat → Addr) (j : Nat) (hj : j < 16) : (errArr E)[j]? = some (errV (E j)) := by
  match j, hj with
  | 0, _ => rfl
  | 1, _ => rfl
  | 2, _ => rfl
  | 3, _ => rfl
  | 4, _ => rfl
  | 5, _ => rfl
  | 6, _ => rfl
  | 7, _ => rfl
  | 8, _ => rfl
  | 9, _ => rfl
  | 10, _ => rfl
  | 11, _ => rfl
  | 12, _ => rfl
  | 13, _ => rfl
  | 14, _ => rfl
  | 15, _ => rfl
  | n + 16, h => exact absurd h (by omega)
set_option maxHeartbeats 400000 in
theorem sentinels_any (E : Nat → Addr) (w : World) (hE : ErrsAt errT gOf w E all16) :
    Calls Tryd.prog 147 #[] w fun e w' => e = .returned (.slice (some ⟨w.heap.size, 0, none⟩) 16 16) ∧ w' = w.alloc (.cells (errArr E) 27) := by
  have c0 : w.cell? ⟨9, 0, none⟩ = some (errV (E 0)) := (hE.1 0 (by decide)).1
  have c1 : w.cell? ⟨5, 0, none⟩ = some (errV (E 1)) := (hE.1 1 (by decide)).1
  have c2 : w.cell? ⟨0, 0, none⟩ = some (errV (E 2)) := (hE.1 2 (by decide)).1
  have c3 : w.cell? ⟨4, 0, none⟩ = some (errV (E 3)) := (hE.1 3 (by decide)).1
  have c4 : w.cell? ⟨10, 0, none⟩ = some (errV (E 4)) := (hE.1 4 (by decide)).1
  have c5 : w.cell? ⟨1, 0, none⟩ = some (errV (E 5)) := (hE.1 5 (by decide)).1
  have c6 : w.cell? ⟨2, 0, none⟩ = some (errV (E 6)) := (hE.1 6 (by decide)).1
  have c7 : w.cell? ⟨11, 0, none⟩ = some (errV (E 7)) := (hE.1 7 (by decide)).1
  have c8 : w.cell? ⟨12, 0, none⟩ = some (errV (E 8)) := (hE.1 8 (by decide)).1
  have c9 : w.cell? ⟨8, 0, none⟩ = some (errV (E 9)) := (hE.1 9 (by decide)).1
  have c10 : w.cell? ⟨7, 0, none⟩ = some (errV (E 10)) := (hE.1 10 (by decide)).1
  have c11 : w.cell? ⟨6, 0, none⟩ = some (errV (E 11)) := (hE.1 11 (by decide)).1
  have c12 : w.cell? ⟨3, 0, none⟩ = some (errV (E 12)) := (hE.1 12 (by decide)).1
  have c13 : w.cell? ⟨13, 0, none⟩ = some (errV (E 13)) := (hE.1 13 (by decide)).1
  have c14 : w.cell? ⟨14, 0, none⟩ = some (errV (E 14)) := (hE.1 14 (by decide)).1
  have c15 : w.cell? ⟨15, 0, none⟩ = some (errV (E 15)) := (hE.1 15 (by decide)).1
  clear hE
  go_enter Tryd.func147, Tryd.ntmps147
  go_wp2
  go_ret
  exact ⟨rfl, rfl⟩

def UpToN (n : Nat) (i : Value) : Prop := ∃ j : Nat, j ≤ n ∧ i = .int .i64 (j : Int)
set_option maxHeartbeats 800000 in
theorem sentinel_any (E : Nat → Addr) (k : Nat) (hk : k < 16) (w : World) (hE : ErrsAt errT gOf w E all16) :
    Calls Tryd.prog 125 #[errV (E k)] w fun e w' => e = .returned (.int .i64 ((101 + k : Nat) : Int)) ∧ Below w.heap.size w w' := by
  have HE := Lib.hid hE
  clear hE
  go_enter Tryd.func125, Tryd.ntmps125
  go_wp2_with fail
  refine (sentinels_any E _ HE.out).mono ?_
  rintro e w1 ⟨rfl, hw1⟩
  have hb1 : Below w.heap.size w w1 := by rw [hw1]; exact (Below.refl _ _).alloc (Nat.le_refl _) _
  have hblk : w1.heap[w.heap.size]? = some (.cells (errArr E) 27 (0, 0)) := by rw [hw1]; exact blk_new _ _
  have HE1 := Lib.hid (HE.out.mono hb1)
  have HB := Lib.hid hb1
  have HBK := Lib.hid hblk
  clear hw1 hb1 hblk HE
  go_wp2_with fail
  go_loop [4] (fun i => UpToN k i) (fun i => 16 - (intOf i).toNat)
  case atStart => exact ⟨0, Nat.zero_le _, rfl⟩
  case round =>
    obtain ⟨j, hj, rfl⟩ := hrel
    have cj := (blk_cell HBK.out j).trans (errArr_get E j (by omega))
    have hj16 : (j : Int) < 16 := by omega
    by_cases hlt : j < k
    · have hne := HE1.out.2 j (mem16 (by omega)) k (mem16 hk) (by omega)
      have HA := Lib.hid (alike_other (E k) (E j) w1 (fun e => hne e.symm) (HE1.out.1 k (mem16 hk)).2 (HE1.out.1 j (mem16 (by omega))).2)
      clear hne
      go_wp2_with fail
      refine HA.out.mono ?_
      rintro e w2 ⟨rfl, rfl⟩
      go_wp2
      go_round
      case rel => exact ⟨j + 1, by omega, by go_num⟩
      case measure => simp [intOf]; omega
    · obtain rfl : j = k := by omega
      have hw := IntWalk.i64_in (101 + (j : Int)) (by omega)
      go_wp2_with fail
      refine (alike_same (E j) _).mono ?_
      rintro e w2 ⟨rfl, rfl⟩
      go_wp2
      go_ret
      exact ⟨by simp, HB.out⟩

theorem bare_any (c : Int) (w : World) : Calls Tryd.prog 61 #[.int .i64 c] w fun e w' => e = .returned (.agg #[.int .i64 c, .bool false, .int .i64 0]) ∧ Below w.heap.size w w' := by
  go_enter Tryd.func61, Tryd.ntmps61
  go_wp2
  exact bodyPost_ret (v := .agg #[.int .i64 c, .bool false, .int .i64 0]) (by simp [results, Tryd.results61, go_sem]) rfl ⟨rfl, (Below.refl _ _).alloc (Nat.le_refl _) _⟩
theorem none_any (w : World) : Calls Tryd.prog 124 #[] w fun e w' => e = .returned (.agg #[.int .i64 0, .bool false, .int .i64 0]) ∧ Below w.heap.size w w' := by
  go_enter Tryd.func124, Tryd.ntmps124
  go_wp2
  exact bodyPost_ret (v := .agg #[.int .i64 0, .bool false, .int .i64 0]) (by simp [results, Tryd.results124, go_sem]) rfl ⟨rfl, (Below.refl _ _).alloc (Nat.le_refl _) _⟩
set_option maxHeartbeats 400000 in
theorem sameFault_any (c d : Int) (w : World) : Calls Tryd.prog 93 #[.agg #[.int .i64 c, .bool false, .int .i64 0], .agg #[.int .i64 d, .bool false, .int .i64 0]] w fun e w' => e = .returned (.bool (decide (c = d))) ∧ Below w.heap.size w w' := by
  by_cases h : c = d
  · subst h
    go_enter Tryd.func93, Tryd.ntmps93
    go_wp2
    go_ret
    exact ⟨ret_bool (by simp), by repeat (first | exact Below.refl _ _ | refine Below.alloc ?_ (by simp) _)⟩
  · have hb : (c == d) = false := by simp [h]
    have H := Lib.hid h
    clear h
    go_enter Tryd.func93, Tryd.ntmps93
    go_wp2
    go_ret
    exact ⟨ret_bool (by simp [H.out]), by repeat (first | exact Below.refl _ _ | refine Below.alloc ?_ (by simp) _)⟩

theorem flt_cells {w w1 : World} (hb : Below (w.heap.size + 1) (w.alloc (.cells #[.int .i64 0, .bool false, .int .i64 0] 116)) w1) :
    w1.heap[w.heap.size]? = some (.cells #[.int .i64 0, .bool false, .int .i64 0] 116 (0, 0)) := by
  rw [hb.block _ (by omega)]
  exact blk_new _ _
set_option maxHeartbeats 800000 in
theorem fault_nil (w : World) : Calls Tryd.prog 94 #[.nilIface] w fun e w' => e = .returned (.agg #[.int .i64 0, .bool false, .int .i64 0]) ∧ Below w.heap.size w w' := by
  go_enter Tryd.func94, Tryd.ntmps94
  go_wp2_with fail
  refine (none_any _).mono ?_
  rintro e w1 ⟨rfl, hb1⟩
  have hblk := flt_cells (w := w) (by simpa using hb1)
  have c0 := blk_cell hblk 0
  have c1 := blk_cell hblk 1
  have c2 := blk_cell hblk 2
  have f0 := blk_free hblk 0
  have f1 := blk_free hblk 1
  have f2 := blk_free hblk 2
  have hlt := blk_lt hblk
  have HB := Lib.hid (show Below w.heap.size w w1 from ((Below.refl _ _).alloc (Nat.le_refl _) _).trans (hb1.mono (by simp)))
  clear hb1 hblk
  go_wp2
  exact bodyPost_ret (v := .agg #[.int .i64 0, .bool false, .int .i64 0]) (by simp [results, Tryd.results94, go_sem, c0, c1, c2, f0, f1, f2, hlt]) rfl ⟨rfl, ((HB.out.setCell (Nat.le_refl _) _).setCell (Nat.le_refl _) _).setCell (Nat.le_refl _) _⟩
set_option maxRecDepth 100000 in
set_option maxHeartbeats 800000 in
theorem fault_err (E : Nat → Addr) (k : Nat) (hk : k < 16) (w : World) (hE : ErrsAt errT gOf w E all16) :
    Calls Tryd.prog 94 #[errV (E k)] w fun e w' => e = .returned (.agg #[.int .i64 ((101 + k : Nat) : Int), .bool false, .int .i64 0]) ∧ Below w.heap.size w w' := by
  have HE := Lib.hid (hE.mono ((Below.refl _ _).alloc (Nat.le_refl _) (.cells #[.int .i64 0, .bool false, .int .i64 0] 116)))
  have hta : ∀ wx, (Instr.typeAssert (errV (E k)) 27 183 true).run Tryd.prog wx = .ok (.tuple #[.pointer none, .bool false]) wx := fun _ => by kernel_rfl
  clear hE
  go_enter Tryd.func94, Tryd.ntmps94
  go_wp2_with fail
  refine (sentinel_any E k hk _ HE.out).mono ?_
  rintro e w0 ⟨rfl, hb0⟩
  have HB0 := Lib.hid hb0
  clear hb0
  go_wp2_with fail
  refine (bare_any _ _).mono ?_
  rintro e w1 ⟨rfl, hb1'⟩
  have hb1 := HB0.out.trans (hb1'.mono HB0.out.size)
  have hblk := flt_cells (w := w) (by simpa using hb1)
  have c0 := blk_cell hblk 0
  have c1 := blk_cell hblk 1
  have c2 := blk_cell hblk 2
  have f0 := blk_free hblk 0
  have f1 := blk_free hblk 1
  have f2 := blk_free hblk 2
  have hlt := blk_lt hblk
  have HB := Lib.hid (show Below w.heap.size w w1 from ((Below.refl _ _).alloc (Nat.le_refl _) _).trans (hb1.mono (by simp)))
  clear hb1 hb1' hblk
  go_wp2
  exact bodyPost_ret (v := .agg #[.int .i64 ((101 + k : Nat) : Int), .bool false, .int .i64 0]) (by simp [results, Tryd.results94, go_sem, c0, c1, c2, f0, f1, f2, hlt]) rfl ⟨rfl, ((HB.out.setCell (Nat.le_refl _) _).setCell (Nat.le_refl _) _).setCell (Nat.le_refl _) _⟩

/-- an error that is sentinel k, or none: its number -/
def errNum (v : Value) (E : Nat → Addr) (c : Int) : Prop := (v = .nilIface ∧ c = 0) ∨ ∃ k, k < 16 ∧ v = errV (E k) ∧ c = ((101 + k : Nat) : Int)
theorem fault_any (E : Nat → Addr) (v : Value) (c : Int) (hv : errNum v E c) (w : World) (hE : ErrsAt errT gOf w E all16) :
    Calls Tryd.prog 94 #[v] w fun e w' => e = .returned (.agg #[.int .i64 c, .bool false, .int .i64 0]) ∧ Below w.heap.size w w' := by
  rcases hv with ⟨rfl, rfl⟩ | ⟨k, hk, rfl, rfl⟩
  · exact fault_nil w
  · exact fault_err E k hk w hE
set_option maxHeartbeats 800000 in
theorem same_any (E : Nat → Addr) (v : Value) (c d : Int) (hv : errNum v E c) (w : World) (hE : ErrsAt errT gOf w E all16) :
    Calls Tryd.prog 60 #[v, .agg #[.int .i64 d, .bool false, .int .i64 0]] w fun e w' => e = .returned (.bool (decide (c = d))) ∧ Below w.heap.size w w' := by
  have hb0 : Below w.heap.size w (w.alloc (.cells #[.int .i64 d, .bool false, .int .i64 0] 116)) := (Below.refl _ _).alloc (Nat.le_refl _) _
  have HF : Hid (∀ wx, Below (w.heap.size + 1) (w.alloc (.cells #[.int .i64 d, .bool false, .int .i64 0] 116)) wx → ErrsAt errT gOf wx E all16) := Lib.hid fun wx hwx => hE.mono (hb0.trans (hwx.mono (by omega)))
  have hblk := blk_new w (.cells #[.int .i64 d, .bool false, .int .i64 0] 116)
  have HB0 := Lib.hid hb0
  have HBK := Lib.hid hblk
  have HV := Lib.hid hv
  clear hE hb0 hblk hv
  go_enter Tryd.func60, Tryd.ntmps60
  have HK : Hid (∀ wx, Below (w.heap.size + 1) (w.alloc (.cells #[.int .i64 d, .bool false, .int .i64 0] 116)) wx → (Below (w.heap.size + 1) (w.alloc (.cells #[.int .i64 d, .bool false, .int .i64 0] 116)) wx ∧ wx.cell? ⟨w.heap.size, 0, none⟩ = some (.int .i64 d) ∧ wx.cell? ⟨w.heap.size, 1, none⟩ = some (.bool false) ∧ wx.cell? ⟨w.heap.size, 2, none⟩ = some (.int .i64 0))) := Lib.hid fun wx hwx => by
    have h : wx.heap[w.heap.size]? = some (.cells #[.int .i64 d, .bool false, .int .i64 0] 116 (0, 0)) := by rw [hwx.block _ (by omega)]; exact HBK.out
    exact ⟨hwx, blk_cell h 0, blk_cell h 1, blk_cell h 2⟩
  have hbD : Below (w.heap.size + 1) (w.alloc (.cells #[.int .i64 d, .bool false, .int .i64 0] 116)) (w.alloc (.cells #[.int .i64 d, .bool false, .int .i64 0] 116)).drew := (Below.refl _ _).drew
  go_wp2_with fail
  go_region_held3 (fun wx => Below (w.heap.size + 1) (w.alloc (.cells #[.int .i64 d, .bool false, .int .i64 0] 116)) wx ∧ wx.cell? ⟨w.heap.size, 0, none⟩ = some (.int .i64 d) ∧ wx.cell? ⟨w.heap.size, 1, none⟩ = some (.bool false) ∧ wx.cell? ⟨w.heap.size, 2, none⟩ = some (.int .i64 0)) (exact HK.out _ (by assumption))
    (first
      | (go_at_call 94; refine (fault_any E v c HV.out _ (HF.out _ hbD)).mono ?_; rintro e w2 ⟨rfl, hb2⟩; have hbS : Below (w.heap.size + 1) (w.alloc (.cells #[.int .i64 d, .bool false, .int .i64 0] 116)) w2 := hbD.trans (hb2.mono (by simp)))
      | (go_at_call 93; refine (sameFault_any c d _).mono ?_; rintro e w3 ⟨rfl, hb3⟩; have hbS3 : Below (w.heap.size + 1) (w.alloc (.cells #[.int .i64 d, .bool false, .int .i64 0] 116)) w3 := hbS.trans (hb3.mono (by have := hbS.size; simp at this; omega))))
  all_goals
    go_wp2
    go_ret
    exact ⟨rfl, HB0.out.trans (hbS3.mono (by omega))⟩

theorem is_any (E : Nat → Addr) (v : Value) (c d : Int) (hv : errNum v E c) (w : World) (hE : ErrsAt errT gOf w E all16) :
    Calls Tryd.prog 19 #[v, .int .i64 d] w fun e w' => e = .returned (.bool (decide (c = d))) ∧ Below w.heap.size w w' := by
  have HE := Lib.hid hE
  have HV := Lib.hid hv
  clear hE hv
  go_enter Tryd.func19, Tryd.ntmps19
  go_wp2_with fail
  refine (bare_any _ _).mono ?_
  rintro e w1 ⟨rfl, hb1⟩
  have HB1 := Lib.hid hb1
  clear hb1
  go_wp2_with fail
  refine (same_any E v c d HV.out _ (HE.out.mono HB1.out)).mono ?_
  rintro e w2 ⟨rfl, hb2⟩
  have HB2 := Lib.hid (HB1.out.trans (hb2.mono HB1.out.size))
  clear hb2
  go_wp2
  go_ret
  exact ⟨rfl, HB2.out⟩
end Go.Proofs.YtnhocmmgdkiepaaDoor
