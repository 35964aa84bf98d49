/-
  Parts of one proof, one behind the other.
-/
import Derived.Test.YtnhocmmgdkiepaaDoorMg891e6fd1b3
import Derived.BigQuiet
import Derived.Deep.RegionWith
import Derived.Deep.RegionHeld3
import Derived.Lib.Hide
import Derived.BigRegion
/-
  facadesee: is an error this one? Over the program's sentinels.
-/
namespace Go.Proofs.YtnhocmmgdkiepaaDoor
open Go.RowKit

abbrev errV (a : Addr) : Value := .iface errT (.pointer (some a))
def all16 : List Nat := [0, 1, 2, 3, 4, 5, 6, 7, 8, 9, 10, 11, 12, 13, 14, 15]
theorem mem16 {k : Nat} (h : k < 16) : k ∈ all16 := by
  simp [all16]
  omega
theorem err_comp : (Tryd.prog.info? errT).map (·.comparable) = some true := by kernel_rfl
theorem err_size : (Tryd.prog.info? 230).map (·.size) = some 1 := by kernel_rfl
theorem eql_same (w : World) (a : Addr) : (binOp .eql 27 (errV a) (errV a)).run Tryd.prog w = .ok (.bool true) w := by
  obtain ⟨i, hi, hc⟩ := Option.map_eq_some_iff.1 err_comp
  obtain ⟨j, hj, -⟩ := Option.map_eq_some_iff.1 err_size
  exact run_eql_iface_ptr_same w a Tryd.underlying27 Tryd.underlying213 hi hc hj
theorem eql_other (w : World) {a b : Addr} (hne : a ≠ b) (ha : ∃ c t, w.heap[a.block]? = some (.cells c t (0, 0))) (hb : ∃ c t, w.heap[b.block]? = some (.cells c t (0, 0))) :
    (binOp .eql 27 (errV a) (errV b)).run Tryd.prog w = .ok (.bool false) w := by
  obtain ⟨i, hi, hc⟩ := Option.map_eq_some_iff.1 err_comp
  obtain ⟨j, hj, hs⟩ := Option.map_eq_some_iff.1 err_size
  obtain ⟨ca, ta, ha⟩ := ha
  obtain ⟨cb, tb, hb⟩ := hb
  exact run_eql_iface_ptr_other w Tryd.underlying27 Tryd.underlying213 hi hc hj (by omega) hne ha hb

set_option maxHeartbeats 400000 in
theorem alike_same (a : Addr) (w : World) : Calls Tryd.prog 148 #[errV a, errV a] w fun e w' => e = .returned (.bool true) ∧ w = w' := by
  have heq := fun wx => eql_same wx a
  go_enter Tryd.func148, Tryd.ntmps148
  go_wp2
  go_ret
  exact ⟨rfl, rfl⟩
set_option maxHeartbeats 400000 in
theorem alike_other (a b : Addr) (w : World) (hne : a ≠ b) (ha : ∃ c t, w.heap[a.block]? = some (.cells c t (0, 0))) (hb : ∃ c t, w.heap[b.block]? = some (.cells c t (0, 0))) :
    Calls Tryd.prog 148 #[errV a, errV b] w fun e w' => e = .returned (.bool false) ∧ w = w' := by
  have heq := eql_other w hne ha hb
  clear hne ha hb
  go_enter Tryd.func148, Tryd.ntmps148
  go_wp2
  go_ret
  exact ⟨rfl, rfl⟩

def errArr (E : Nat → Addr) : Array Value := #[errV (E 0), errV (E 1), errV (E 2), errV (E 3), errV (E 4), errV (E 5), errV (E 6), errV (E 7), errV (E 8), errV (E 9), errV (E 10), errV (E 11), errV (E 12), errV (E 13), errV (E 14), errV (E 15)]
theorem errArr_get (E : Nat → Addr) (j : Nat) (hj : j < 16) : (errArr E)[j]? = some (errV (E j)) := by
  match j, hj with
  | 0, _ => rfl
  | 1, _ => rfl
  | 2, _ => rfl
  | 3, _ => rfl
  | 4, _ => rfl
  | 5, _ => rfl
  | 6, _ => rfl
  | 7, _ => rfl
  | 8, _ => rfl
  | 9, _ => rfl
  | 10, _ => rfl
  | 11, _ => rfl
  | 12, _ => rfl
  | 13, _ => rfl
  | 14, _ => rfl
  | 15, _ => rfl
  | n + 16, h => exact absurd h (by omega)
set_option maxHeartbeats 400000 in
theorem sentinels_any (E : Nat → Addr) (w : World) (hE : ErrsAt errT gOf w E all16) :
    Calls Tryd.prog 147 #[] w fun e w' => e = .returned (.slice (some ⟨w.heap.size, 0, none⟩) 16 16) ∧ w' = w.alloc (.cells (errArr E) 27) := by
  have c0 : w.cell? ⟨9, 0, none⟩ = some (errV (E 0)) := (hE.1 0 (by decide)).1
  have c1 : w.cell? ⟨5, 0, none⟩ = some (errV (E 1)) := (hE.1 1 (by decide)).1
  have c2 : w.cell? ⟨0, 0, none⟩ = some (errV (E 2)) := (hE.1 2 (by decide)).1
  have c3 : w.cell? ⟨4, 0, none⟩ = some (errV (E 3)) := (hE.1 3 (by decide)).1
  have c4 : w.cell? ⟨10, 0, none⟩ = some (errV (E 4)) := (hE.1 4 (by decide)).1
  have c5 : w.cell? ⟨1, 0, none⟩ = some (errV (E 5)) := (hE.1 5 (by decide)).1
  have c6 : w.cell? ⟨2, 0, none⟩ = some (errV (E 6)) := (hE.1 6 (by decide)).1
  have c7 : w.cell? ⟨11, 0, none⟩ = some (errV (E 7)) := (hE.1 7 (by decide)).1
  have c8 : w.cell? ⟨12, 0, none⟩ = some (errV (E 8)) := (hE.1 8 (by decide)).1
  have c9 : w.cell? ⟨8, 0, none⟩ = some (errV (E 9)) := (hE.1 9 (by decide)).1
  have c10 : w.cell? ⟨7, 0, none⟩ = some (errV (E 10)) := (hE.1 10 (by decide)).1
  have c11 : w.cell? ⟨6, 0, none⟩ = some (errV (E 11)) := (hE.1 11 (by decide)).1
  have c12 : w.cell? ⟨3, 0, none⟩ = some (errV (E 12)) := (hE.1 12 (by decide)).1
  have c13 : w.cell? ⟨13, 0, none⟩ = some (errV (E 13)) := (hE.1 13 (by decide)).1
  have c14 : w.cell? ⟨14, 0, none⟩ = some (errV (E 14)) := (hE.1 14 (by decide)).1
  have c15 : w.cell? ⟨15, 0, none⟩ = some (errV (E 15)) := (hE.1 15 (by decide)).1
  clear hE
  go_enter Tryd.func147, Tryd.ntmps147
  go_wp2
  go_ret
  exact ⟨rfl, rfl⟩

def UpToN (n : Nat) (i : Value) : Prop := ∃ j : Nat, j ≤ n ∧ i = .int .i64 (j : Int)
set_option maxHeartbeats 800000 in
theorem sentinel_any (E : Nat → Addr) (k : Nat) (hk : k < 16) (w : World) (hE : ErrsAt errT gOf w E all16) :
    Calls Tryd.prog 125 #[errV (E k)] w fun e w' => e = .returned (.int .i64 ((101 + k : Nat) : Int)) ∧ Below w.heap.size w w' := by
  have HE := Lib.hid hE
  clear hE
  go_enter Tryd.func125, Tryd.ntmps125
  go_wp2_with fail
  refine (sentinels_any E _ HE.out).mono ?_
  rintro e w1 ⟨rfl, hw1⟩
  have hb1 : Below w.heap.size w w1 := by rw [hw1]; exact (Below.refl _ _).alloc (Nat.le_refl _) _
  have hblk : w1.heap[w.heap.size]? = some (.cells (errArr E) 27 (0, 0)) := by rw [hw1]; exact blk_new _ _
  have HE1 := Lib.hid (HE.out.mono hb1)
  have HB := Lib.hid hb1
  have HBK := Lib.hid hblk
  clear hw1 hb1 hblk HE
  go_wp2_with fail
  go_loop [4] (fun i => UpToN k i) (fun i => 16 - (intOf i).toNat)
  case atStart => exact ⟨0, Nat.zero_le _, rfl⟩
  case round =>
    obtain ⟨j, hj, rfl⟩ := hrel
    have cj := (blk_cell HBK.out j).trans (errArr_get E j (by omega))
    have hj16 : (j : Int) < 16 := by omega
    by_cases hlt : j < k
    · have hne := HE1.out.2 j (mem16 (by omega)) k (mem16 hk) (by omega)
      have HA := Lib.hid (alike_other (E k) (E j) w1 (fun e => hne e.symm) (HE1.out.1 k (mem16 hk)).2 (HE1.out.1 j (mem16 (by omega))).2)
      clear hne
      go_wp2_with fail
      refine HA.out.mono ?_
      rintro e w2 ⟨rfl, rfl⟩
      go_wp2
      go_round
      case rel => exact ⟨j + 1, by omega, by go_num⟩
      case measure => simp [intOf]; omega
    · obtain rfl : j = k := by omega
      have hw := IntWalk.i64_in (101 + (j : Int)) (by omega)
      go_wp2_with fail
      refine (alike_same (E j) _).mono ?_
      rintro e w2 ⟨rfl, rfl⟩
      go_wp2
      go_ret
      exact ⟨by simp, HB.out⟩

theorem bare_any (c : Int) (w : World) : Calls Tryd.prog 61 #[.int .i64 c] w fun e w' => e = .returned (.agg #[.int .i64 c, .bool false, .int .i64 0]) ∧ Below w.heap.size w w' := by
  go_enter Tryd.func61, Tryd.ntmps61
  go_wp2
  exact bodyPost_ret (v := .agg #[.int .i64 c, .bool false, .int .i64 0]) (by simp [results, Tryd.results61, go_sem]) rfl ⟨rfl, (Below.refl _ _).alloc (Nat.le_refl _) _⟩
theorem none_any (w : World) : Calls Tryd.prog 124 #[] w fun e w' => e = .returned (.agg #[.int .i64 0, .bool false, .int .i64 0]) ∧ Below w.heap.size w w' := by
  go_enter Tryd.func124, Tryd.ntmps124
  go_wp2
  exact bodyPost_ret (v := .agg #[.int .i64 0, .bool false, .int .i64 0]) (by simp [results, Tryd.results124, go_sem]) rfl ⟨rfl, (Below.refl _ _).alloc (Nat.le_refl _) _⟩
set_option maxHeartbeats 400000 in
theorem sameFault_any (c d : Int) (w : World) : Calls Tryd.prog 93 #[.agg #[.int .i64 c, .bool false, .int .i64 0], .agg #[.int .i64 d, .bool false, .int .i64 0]] w fun e w' => e = .returned (.bool (decide (c = d))) ∧ Below w.heap.size w w' := by
  by_cases h : c = d
  · subst h
    go_enter Tryd.func93, Tryd.ntmps93
    go_wp2
    go_ret
    exact ⟨ret_bool (by simp), by repeat (first | exact Below.refl _ _ | refine Below.alloc ?_ (by simp) _)⟩
  · have hb : (c == d) = false := by simp [h]
    have H := Lib.hid h
    clear h
    go_enter Tryd.func93, Tryd.ntmps93
    go_wp2
    go_ret
    exact ⟨ret_bool (by simp [H.out]), by repeat (first | exact Below.refl _ _ | refine Below.alloc ?_ (by simp) _)⟩

theorem flt_cells {w w1 : World} (hb : Below (w.heap.size + 1) (w.alloc (.cells #[.int .i64 0, .bool false, .int .i64 0] 116)) w1) :
    w1.heap[w.heap.size]? = some (.cells #[.int .i64 0, .bool false, .int .i64 0] 116 (0, 0)) := by
  rw [hb.block _ (by omega)]
  exact blk_new _ _
set_option maxHeartbeats 800000 in
theorem fault_nil (w : World) : Calls Tryd.prog 94 #[.nilIface] w fun e w' => e = .returned (.agg #[.int .i64 0, .bool false, .int .i64 0]) ∧ Below w.heap.size w w' := by
  go_enter Tryd.func94, Tryd.ntmps94
  go_wp2_with fail
  refine (none_any _).mono ?_
  rintro e w1 ⟨rfl, hb1⟩
  have hblk := flt_cells (w := w) (by simpa using hb1)
  have c0 := blk_cell hblk 0
  have c1 := blk_cell hblk 1
  have c2 := blk_cell hblk 2
  have f0 := blk_free hblk 0
  have f1 := blk_free hblk 1
  have f2 := blk_free hblk 2
  have hlt := blk_lt hblk
  have HB := Lib.hid (show Below w.heap.size w w1 from ((Below.refl _ _).alloc (Nat.le_refl _) _).trans (hb1.mono (by simp)))
  clear hb1 hblk
  go_wp2
  exact bodyPost_ret (v := .agg #[.int .i64 0, .bool false, .int .i64 0]) (by simp [results, Tryd.results94, go_sem, c0, c1, c2, f0, f1, f2, hlt]) rfl ⟨rfl, ((HB.out.setCell (Nat.le_refl _) _).setCell (Nat.le_refl _) _).setCell (Nat.le_refl _) _⟩
set_option maxRecDepth 100000 in
set_option maxHeartbeats 800000 in
theorem fault_err (E : Nat → Addr) (k : Nat) (hk : k < 16) (w : World) (hE : ErrsAt errT gOf w E all16) :
    Calls Tryd.prog 94 #[errV (E k)] w fun e w' => e = .returned (.agg #[.int .i64 ((101 + k : Nat) : Int), .bool false, .int .i64 0]) ∧ Below w.heap.size w w' := by
  have HE := Lib.hid (hE.mono ((Below.refl _ _).alloc (Nat.le_refl _) (.cells #[.int .i64 0, .bool false, .int .i64 0] 116)))
  have hta : ∀ wx, (Instr.typeAssert (errV (E k)) 27 183 true).run Tryd.prog wx = .ok (.tuple #[.pointer none, .bool false]) wx := fun _ => by kernel_rfl
  clear hE
  go_enter Tryd.func94, Tryd.ntmps94
  go_wp2_with fail
  refine (sentinel_any E k hk _ HE.out).mono ?_
  rintro e w0 ⟨rfl, hb0⟩
  have HB0 := Lib.hid hb0
  clear hb0
  go_wp2_with fail
  refine (bare_any _ _).mono ?_
  rintro e w1 ⟨rfl, hb1'⟩
  have hb1 := HB0.out.trans (hb1'.mono HB0.out.size)
  have hblk := flt_cells (w := w) (by simpa using hb1)
  have c0 := blk_cell hblk 0
  have c1 := blk_cell hblk 1
  have c2 := blk_cell hblk 2
  have f0 := blk_free hblk 0
  have f1 := blk_free hblk 1
  have f2 := blk_free hblk 2
  have hlt := blk_lt hblk
  have HB := Lib.hid (show Below w.heap.size w w1 from ((Below.refl _ _).alloc (Nat.le_refl _) _).trans (hb1.mono (by simp)))
  clear hb1 hb1' hblk
  go_wp2
  exact bodyPost_ret (v := .agg #[.int .i64 ((101 + k : Nat) : Int), .bool false, .int .i64 0]) (by simp [results, Tryd.results94, go_sem, c0, c1, c2, f0, f1, f2, hlt]) rfl ⟨rfl, ((HB.out.setCell (Nat.le_refl _) _).setCell (Nat.le_refl _) _).setCell (Nat.le_refl _) _⟩

/-- an error that is sentinel k, or none: its number -/
def errNum (v : Value) (E : Nat → Addr) (c : Int) : Prop := (v = .nilIface ∧ c = 0) ∨ ∃ k, k < 16 ∧ v = errV (E k) ∧ c = ((101 + k : Nat) : Int)
theorem fault_any (E : Nat → Addr) (v : Value) (c : Int) (hv : errNum v E c) (w : World) (hE : ErrsAt errT gOf w E all16) :
    Calls Tryd.prog 94 #[v] w fun e w' => e = .returned (.agg #[.int .i64 c, .bool false, .int .i64 0]) ∧ Below w.heap.size w w' := by
  rcases hv with ⟨rfl, rfl⟩ | ⟨k, hk, rfl, rfl⟩
  · exact fault_nil w
  · exact fault_err E k hk w hE
set_option maxHeartbeats 800000 in
theorem same_any (E : Nat → Addr) (v : Value) (c d : Int) (hv : errNum v E c) (w : World) (hE : ErrsAt errT gOf w E all16) :
    Calls Tryd.prog 60 #[v, .agg #[.int .i64 d, .bool false, .int .i64 0]] w fun e w' => e = .returned (.bool (decide (c = d))) ∧ Below w.heap.size w w' := by
  have hb0 : Below w.heap.size w (w.alloc (.cells #[.int .i64 d, .bool false, .int .i64 0] 116)) := (Below.refl _ _).alloc (Nat.le_refl _) _
  have HF : Hid (∀ wx, Below (w.heap.size + 1) (w.alloc (.cells #[.int .i64 d, .bool false, .int .i64 0] 116)) wx → ErrsAt errT gOf wx E all16) := Lib.hid fun wx hwx => hE.mono (hb0.trans (hwx.mono (by omega)))
  have hblk := blk_new w (.cells #[.int .i64 d, .bool false, .int .i64 0] 116)
  have HB0 := Lib.hid hb0
  have HBK := Lib.hid hblk
  have HV := Lib.hid hv
  clear hE hb0 hblk hv
  go_enter Tryd.func60, Tryd.ntmps60
  have HK : Hid (∀ wx, Below (w.heap.size + 1) (w.alloc (.cells #[.int .i64 d, .bool false, .int .i64 0] 116)) wx → (Below (w.heap.size + 1) (w.alloc (.cells #[.int .i64 d, .bool false, .int .i64 0] 116)) wx ∧ wx.cell? ⟨w.heap.size, 0, none⟩ = some (.int .i64 d) ∧ wx.cell? ⟨w.heap.size, 1, none⟩ = some (.bool false) ∧ wx.cell? ⟨w.heap.size, 2, none⟩ = some (.int .i64 0))) := Lib.hid fun wx hwx => by
    have h : wx.heap[w.heap.size]? = some (.cells #[.int .i64 d, .bool false, .int .i64 0] 116 (0, 0)) := by rw [hwx.block _ (by omega)]; exact HBK.out
    exact ⟨hwx, blk_cell h 0, blk_cell h 1, blk_cell h 2⟩
  have hbD : Below (w.heap.size + 1) (w.alloc (.cells #[.int .i64 d, .bool false, .int .i64 0] 116)) (w.alloc (.cells #[.int .i64 d, .bool false, .int .i64 0] 116)).drew := (Below.refl _ _).drew
  go_wp2_with fail
  go_region_held3 (fun wx => Below (w.heap.size + 1) (w.alloc (.cells #[.int .i64 d, .bool false, .int .i64 0] 116)) wx ∧ wx.cell? ⟨w.heap.size, 0, none⟩ = some (.int .i64 d) ∧ wx.cell? ⟨w.heap.size, 1, none⟩ = some (.bool false) ∧ wx.cell? ⟨w.heap.size, 2, none⟩ = some (.int .i64 0)) (exact HK.out _ (by assumption))
    (first
      | (go_at_call 94; refine (fault_any E v c HV.out _ (HF.out _ hbD)).mono ?_; rintro e w2 ⟨rfl, hb2⟩; have hbS : Below (w.heap.size + 1) (w.alloc (.cells #[.int .i64 d, .bool false, .int .i64 0] 116)) w2 := hbD.trans (hb2.mono (by simp)))
      | (go_at_call 93; refine (sameFault_any c d _).mono ?_; rintro e w3 ⟨rfl, hb3⟩; have hbS3 : Below (w.heap.size + 1) (w.alloc (.cells #[.int .i64 d, .bool false, .int .i64 0] 116)) w3 := hbS.trans (hb3.mono (by have := hbS.size; simp at this; omega))))
  all_goals
    go_wp2
    go_ret
    exact ⟨rfl, HB0.out.trans (hbS3.mono (by omega))⟩

theorem is_any (E : Nat → Addr) (v : Value) (c d : Int) (hv : errNum v E c) (w : World) (hE : ErrsAt errT gOf w E all16) :
    Calls Tryd.prog 19 #[v, .int .i64 d] w fun e w' => e = .returned (.bool (decide (c = d))) ∧ Below w.heap.size w w' := by
  have HE := Lib.hid hE
  have HV := Lib.hid hv
  clear hE hv
  go_enter Tryd.func19, Tryd.ntmps19
  go_wp2_with fail
  refine (bare_any _ _).mono ?_
  rintro e w1 ⟨rfl, hb1⟩
  have HB1 := Lib.hid hb1
  clear hb1
  go_wp2_with fail
  refine (same_any E v c d HV.out _ (HE.out.mono HB1.out)).mono ?_
  rintro e w2 ⟨rfl, hb2⟩
  have HB2 := Lib.hid (HB1.out.trans (hb2.mono HB1.out.size))
  clear hb2
  go_wp2
  go_ret
  exact ⟨rfl, HB2.out⟩
end Go.Proofs.YtnhocmmgdkiepaaDoor

/-
  sched.turns: where it lies; Len, Less.
-/
namespace Go.Proofs.YtnhocmmgdkiepaaDoor
open Go.RowKit

theorem own_put {w : World} {e : TypeId} {n g cap : Nat} {xs : List Value} (h : w.ownsRow 0 e 1 (.slice (some ⟨g, 0, none⟩) n cap) n xs) (j : Nat) (hj : j < n) (u : Value) : (w.setCell ⟨g, j, none⟩ u).ownsRow 0 e 1 (.slice (some ⟨g, 0, none⟩) n cap) n (xs.set j u) := by
  obtain ⟨h1, h2⟩ := h
  refine ⟨by rw [List.length_set]; exact h1, ?_⟩
  rcases h2 with ⟨h2, -⟩ | ⟨g', cap', cur, he, hg, hh, hn, hm, hs, hx⟩
  · cases h2
  · cases he
    refine .inr ⟨g, cap, cur.setIfInBounds j u, rfl, hg, blk_put hh j u, hn, hm, by simpa using hs, ?_⟩
    rw [← hx, Array.toList_setIfInBounds, List.take_set]
theorem own_pop {w : World} {e : TypeId} {n g cap : Nat} {xs : List Value} (h : w.ownsRow 0 e 1 (.slice (some ⟨g, 0, none⟩) (n + 1) cap) (n + 1) xs) : w.ownsRow 0 e 1 (.slice (some ⟨g, 0, none⟩) n cap) n (xs.take n) := by
  obtain ⟨h1, h2⟩ := h
  refine ⟨by rw [List.length_take]; omega, ?_⟩
  rcases h2 with ⟨h2, -⟩ | ⟨g', cap', cur, he, hg, hh, hn, hm, hs, hx⟩
  · cases h2
  · cases he
    refine .inr ⟨g, cap, cur, rfl, hg, hh, by omega, hm, hs, ?_⟩
    rw [← hx, List.take_take]
    congr 1
    omega
/-- one of them in memory, at place i -/
def onCells (o : On) (i : Int) : Array Value := #[.int .i64 o.id, .int .i64 o.wt, .int .i64 o.us, .bool o.sl, .int .i64 o.un, .int .i64 i]
def onPtr (o : On) : Value := .pointer (some ⟨o.blk, 0, none⟩)
def ptrs (l : List On) : List Value := l.map onPtr
theorem ptrs_len (l : List On) : (ptrs l).length = l.length := by simp [ptrs]
theorem ptrs_get (l : List On) (i : Nat) (h : i < l.length) : (ptrs l)[i]? = some (onPtr (og l i)) := by
  unfold ptrs og
  rw [List.getElem?_map, List.getD_eq_getElem?_getD, List.getElem?_eq_getElem h]
  rfl
theorem ptrs_set (l : List On) (i : Nat) (x : On) : (ptrs l).set i (onPtr x) = ptrs (l.set i x) := by simp [ptrs, List.map_set]
/-- those that the heap has, each at its place -/
structure HpAt (w : World) (tb : Nat) (v : Value) (l : List On) : Prop where
  hdr : w.heap[tb]? = some (.cells #[v] 104 (0, 0))
  own : w.ownsRow 0 107 1 v l.length (ptrs l)
  ones : ∀ i, i < l.length → w.heap[(og l i).blk]? = some (.cells (onCells (og l i) i) 109 (0, 0))
  nd : ∀ i j, i < l.length → j < l.length → (og l i).blk = (og l j).blk → i = j
  max : l.length ≤ 100
/-- what a heap's steps write -/
def hz (v : Value) (l : List On) (b : Nat) : Prop := inRow v b ∨ ∃ j, j < l.length ∧ b = (og l j).blk
theorem HpAt.keep {G : Nat → Prop} {w w' : World} {tb : Nat} {v : Value} {l : List On} (h : HpAt w tb v l) (ho : Only G w w') (h1 : ¬ G tb) (h2 : ∀ b, hz v l b → ¬ G b) : HpAt w' tb v l :=
  ⟨ho.blk h.hdr h1, own_only h.own ho fun k hk => h2 k (.inl hk), fun i hi => ho.blk (h.ones i hi) (h2 _ (.inr ⟨i, hi, rfl⟩)), h.nd, h.max⟩
theorem HpAt.below {w w' : World} {tb : Nat} {v : Value} {l : List On} (h : HpAt w tb v l) (hb : Below w.heap.size w w') : HpAt w' tb v l :=
  h.keep (G := fun _ => False) (Only.of_below hb) (fun h => h) (fun _ _ h => h)
theorem HpAt.lt {w : World} {tb : Nat} {v : Value} {l : List On} (h : HpAt w tb v l) : tb < w.heap.size ∧ ∀ b, hz v l b → b < w.heap.size :=
  ⟨blk_lt h.hdr, fun b hb => by
    rcases hb with hb | ⟨j, hj, rfl⟩
    · exact own_lt h.own hb
    · exact blk_lt (h.ones j hj)⟩
theorem HpAt.tb_not {w : World} {tb : Nat} {v : Value} {l : List On} (h : HpAt w tb v l) : ¬ hz v l tb := fun hb => by
  rcases hb with hb | ⟨j, hj, e⟩
  · exact own_not h.own h.hdr (by decide) hb
  · have h1 := h.ones j hj
    rw [← e, h.hdr] at h1
    simp only [Option.some.injEq, Obj.cells.injEq] at h1
    exact absurd h1.2.1 (by decide)
theorem HpAt.slice {w : World} {tb : Nat} {v : Value} {l : List On} (h : HpAt w tb v l) : ∃ ao cap, v = .slice ao l.length cap := own_slice h.own
theorem HpAt.row {w : World} {tb : Nat} {v : Value} {l : List On} (h : HpAt w tb v l) (h0 : 0 < l.length) : ∃ g cap, v = .slice (some ⟨g, 0, none⟩) l.length cap := by
  rcases own_shape h.own with ⟨-, hz, -⟩ | ⟨g, cap, e, -⟩
  · omega
  · exact ⟨g, cap, e⟩
theorem HpAt.ptr {w : World} {tb g cap : Nat} {l : List On} (h : HpAt w tb (.slice (some ⟨g, 0, none⟩) l.length cap) l) (i : Nat) (hi : i < l.length) : w.cell? ⟨g, i, none⟩ = some (.pointer (some ⟨(og l i).blk, 0, none⟩)) :=
  (own_cell h.own i (by omega)).trans (ptrs_get l i hi)
set_option maxHeartbeats 800000 in
theorem tlen_any (tb : Nat) (v : Value) (l : List On) (w : World) (h : HpAt w tb v l) :
    Calls Tryd.prog 62 #[.pointer (some ⟨tb, 0, none⟩)] w fun e w' => e = .returned (.int .i64 (l.length : Int)) ∧ w = w' := by
  obtain ⟨ao, cap, rfl⟩ := h.slice
  have c : w.cell? ⟨tb, 0, none⟩ = some (.slice ao l.length cap) := blk_cell h.hdr 0
  have lt := h.lt.1
  clear h
  go_enter Tryd.func62, Tryd.ntmps62
  go_wp2
  go_ret
  exact ⟨rfl, rfl⟩
theorem less_ways (x y i j : Int) : (decide (x < y) = true) ∨ (decide (x < y) = false ∧ (x == y) = false) ∨ (decide (x < y) = false ∧ (x == y) = true) := by
  by_cases h : x < y
  · exact .inl (decide_eq_true h)
  · by_cases h2 : x = y
    · exact .inr (.inr ⟨decide_eq_false h, by simp [h2]⟩)
    · exact .inr (.inl ⟨decide_eq_false h, by simp [h2]⟩)
set_option maxRecDepth 100000 in
set_option maxHeartbeats 6400000 in
theorem tless_any (tb : Nat) (v : Value) (l : List On) (i k : Nat) (w : World) (h : HpAt w tb v l) (hi : i < l.length) (hk : k < l.length) :
    Calls Tryd.prog 175 #[.pointer (some ⟨tb, 0, none⟩), .int .i64 (i : Int), .int .i64 (k : Int)] w fun e w' => e = .returned (.bool (On.lt (og l i) (og l k))) ∧ Below w.heap.size w w' := by
  obtain ⟨g, cap, rfl⟩ := h.row (by omega)
  have c : w.cell? ⟨tb, 0, none⟩ = some (.slice (some ⟨g, 0, none⟩) l.length cap) := blk_cell h.hdr 0
  have ltb := h.lt.1
  have ltg : g < w.heap.size := h.lt.2 g (.inl rfl)
  have pi := h.ptr i hi
  have pk := h.ptr k hk
  have oi := h.ones i hi
  have ok := h.ones k hk
  obtain ⟨a, ha⟩ : ∃ a, og l i = a := ⟨_, rfl⟩
  obtain ⟨b, hb⟩ : ∃ b, og l k = b := ⟨_, rfl⟩
  rw [ha] at pi oi ⊢
  rw [hb] at pk ok ⊢
  obtain ⟨ai, aw, au, asl, an, ab⟩ := a
  obtain ⟨bi, bw, bu, bs, bn, bb⟩ := b
  dsimp only at pi pk oi ok
  have i0 : w.cell? ⟨ab, 0, none⟩ = some (.int .i64 ai) := blk_cell oi 0
  have i2 : w.cell? ⟨ab, 2, none⟩ = some (.int .i64 au) := blk_cell oi 2
  have i3 : w.cell? ⟨ab, 3, none⟩ = some (.bool asl) := blk_cell oi 3
  have i4 : w.cell? ⟨ab, 4, none⟩ = some (.int .i64 an) := blk_cell oi 4
  have k0 : w.cell? ⟨bb, 0, none⟩ = some (.int .i64 bi) := blk_cell ok 0
  have k2 : w.cell? ⟨bb, 2, none⟩ = some (.int .i64 bu) := blk_cell ok 2
  have k4 : w.cell? ⟨bb, 4, none⟩ = some (.int .i64 bn) := blk_cell ok 4
  have la := blk_lt oi
  have lb := blk_lt ok
  obtain ⟨n, hn⟩ : ∃ n, l.length = n := ⟨_, rfl⟩
  rw [hn] at c hi hk
  have z0 : (0 : Int) ≤ (i : Int) := by omega
  have z1 : (0 : Int) ≤ (k : Int) := by omega
  have z2 : (i : Int) < (n : Int) := by omega
  have z3 : (k : Int) < (n : Int) := by omega
  have z4 : (i : Int).toNat = i := Int.toNat_natCast i
  have z5 : (k : Int).toNat = k := Int.toNat_natCast k
  clear h ha hb hn oi ok
  cases asl with
  | false =>
    have HR : Hid (On.lt ⟨ai, aw, au, false, an, ab⟩ ⟨bi, bw, bu, bs, bn, bb⟩ = (decide (au < bu) || (au == bu && decide (ai < bi)))) := Lib.hid rfl
    rw [HR.out]
    rcases less_ways au bu ai bi with h1 | ⟨h1, h2⟩ | ⟨h1, h2⟩
    · rw [h1]
      go_enter Tryd.func175, Tryd.ntmps175
      go_wp2_with fail
      go_quiet (fail)
      go_wp2_with fail
      go_quiet (fail)
      go_wp2_with fail
      go_quiet (fail)
      go_wp2
      go_ret
      exact ⟨by simp, by repeat (first | exact Below.refl _ _ | refine below_drewN ?_ _)⟩
    · rw [h1, h2]
      go_enter Tryd.func175, Tryd.ntmps175
      go_wp2_with fail
      go_quiet (fail)
      go_wp2_with fail
      go_quiet (fail)
      go_wp2_with fail
      go_quiet (fail)
      go_wp2
      go_ret
      exact ⟨by simp, by repeat (first | exact Below.refl _ _ | refine below_drewN ?_ _)⟩
    · rw [h1, h2]
      go_enter Tryd.func175, Tryd.ntmps175
      go_wp2_with fail
      go_quiet (fail)
      go_wp2_with fail
      go_quiet (fail)
      go_wp2_with fail
      go_quiet (fail)
      go_wp2
      go_ret
      exact ⟨by simp, by repeat (first | exact Below.refl _ _ | refine below_drewN ?_ _)⟩
  | true =>
    have HR : Hid (On.lt ⟨ai, aw, au, true, an, ab⟩ ⟨bi, bw, bu, bs, bn, bb⟩ = (decide (an < bn) || (an == bn && decide (ai < bi)))) := Lib.hid rfl
    rw [HR.out]
    rcases less_ways an bn ai bi with h1 | ⟨h1, h2⟩ | ⟨h1, h2⟩
    · rw [h1]
      go_enter Tryd.func175, Tryd.ntmps175
      go_wp2_with fail
      go_quiet (fail)
      go_wp2_with fail
      go_quiet (fail)
      go_wp2_with fail
      go_quiet (fail)
      go_wp2_with fail
      go_quiet (fail)
      go_wp2
      go_ret
      exact ⟨by simp, by repeat (first | exact Below.refl _ _ | refine below_drewN ?_ _)⟩
    · rw [h1, h2]
      go_enter Tryd.func175, Tryd.ntmps175
      go_wp2_with fail
      go_quiet (fail)
      go_wp2_with fail
      go_quiet (fail)
      go_wp2_with fail
      go_quiet (fail)
      go_wp2_with fail
      go_quiet (fail)
      go_wp2
      go_ret
      exact ⟨by simp, by repeat (first | exact Below.refl _ _ | refine below_drewN ?_ _)⟩
    · rw [h1, h2]
      go_enter Tryd.func175, Tryd.ntmps175
      go_wp2_with fail
      go_quiet (fail)
      go_wp2_with fail
      go_quiet (fail)
      go_wp2_with fail
      go_quiet (fail)
      go_wp2_with fail
      go_quiet (fail)
      go_wp2
      go_ret
      exact ⟨by simp, by repeat (first | exact Below.refl _ _ | refine below_drewN ?_ _)⟩
end Go.Proofs.YtnhocmmgdkiepaaDoor

/-
  sched.turns: Swap, Push, Pop.
-/
namespace Go.Proofs.YtnhocmmgdkiepaaDoor
open Go.RowKit

theorem row_type {w : World} {tb g cap : Nat} {l : List On} (h : HpAt w tb (.slice (some ⟨g, 0, none⟩) l.length cap) l) : ∃ cur, w.heap[g]? = some (.cells cur 107 (0, 0)) := own_type h.own (show inRow _ g from rfl)
theorem one_ne_row {w : World} {tb g cap : Nat} {l : List On} (h : HpAt w tb (.slice (some ⟨g, 0, none⟩) l.length cap) l) (i : Nat) (hi : i < l.length) : (og l i).blk ≠ g := fun e => by
  obtain ⟨cur, hc⟩ := row_type h
  have := h.ones i hi
  rw [e, hc] at this
  simp only [Option.some.injEq, Obj.cells.injEq] at this
  exact absurd this.2.1 (by decide)
theorem one_ne_hdr {w : World} {tb : Nat} {v : Value} {l : List On} (h : HpAt w tb v l) (i : Nat) (hi : i < l.length) : (og l i).blk ≠ tb := fun e => h.tb_not (.inr ⟨i, hi, e.symm⟩)
theorem hdr_ne_row {w : World} {tb g cap : Nat} {l : List On} (h : HpAt w tb (.slice (some ⟨g, 0, none⟩) l.length cap) l) : tb ≠ g := fun e => h.tb_not (.inl (by rw [e]; rfl))
/-- the row is turned, the places are not yet -/
structure SwA (w : World) (tb g cap : Nat) (l : List On) (i k : Nat) : Prop where
  hdr : w.heap[tb]? = some (.cells #[.slice (some ⟨g, 0, none⟩) l.length cap] 104 (0, 0))
  own : w.ownsRow 0 107 1 (.slice (some ⟨g, 0, none⟩) l.length cap) l.length (ptrs (swp l i k))
  ones : ∀ j, j < l.length → w.heap[(og l j).blk]? = some (.cells (onCells (og l j) j) 109 (0, 0))
theorem swA_of {w : World} {tb g cap : Nat} {l : List On} (h : HpAt w tb (.slice (some ⟨g, 0, none⟩) l.length cap) l) (i k : Nat) (hi : i < l.length) (hk : k < l.length) :
    SwA (((w.setCell ⟨g, i, none⟩ (onPtr (og l k))).setCell ⟨g, k, none⟩ (onPtr (og l i))).drew) tb g cap l i k ∧ Only (hz (.slice (some ⟨g, 0, none⟩) l.length cap) l) w (((w.setCell ⟨g, i, none⟩ (onPtr (og l k))).setCell ⟨g, k, none⟩ (onPtr (og l i))).drew) := by
  have hb : ∀ b o, b ≠ g → w.heap[b]? = some o → ((w.setCell ⟨g, i, none⟩ (onPtr (og l k))).setCell ⟨g, k, none⟩ (onPtr (og l i))).heap[b]? = some o := fun b o hne hw => by
    rw [Below.heap_setCell _ _ _ _ (fun e => hne e), Below.heap_setCell _ _ _ _ (fun e => hne e)]
    exact hw
  refine ⟨⟨hb _ _ (hdr_ne_row h) h.hdr, ?_, fun j hj => hb _ _ (one_ne_row h j hj) (h.ones j hj)⟩, ?_⟩
  · have h1 := own_put (own_put h.own i hi (onPtr (og l k))) k hk (onPtr (og l i))
    rw [ptrs_set, ptrs_set] at h1
    exact h1
  · exact (((Only.refl (hz (.slice (some ⟨g, 0, none⟩) l.length cap) l) w).setCell (p := ⟨g, i, none⟩) (.inl (.inl rfl)) _).setCell (p := ⟨g, k, none⟩) (.inl (.inl rfl)) _).drew
theorem swA_done {w : World} {tb g cap : Nat} {l : List On} {i k : Nat} (h : SwA w tb g cap l i k) (hi : i < l.length) (hk : k < l.length) (hne : i ≠ k) (hmax : l.length ≤ 100) (nd : ∀ i j, i < l.length → j < l.length → (og l i).blk = (og l j).blk → i = j) :
    HpAt (((w.setCell ⟨(og l k).blk, 5, none⟩ (.int .i64 (i : Int))).setCell ⟨(og l i).blk, 5, none⟩ (.int .i64 (k : Int))).drew) tb (.slice (some ⟨g, 0, none⟩) l.length cap) (swp l i k) := by
  have hki : (og l k).blk ≠ (og l i).blk := fun e => hne (nd k i hk hi e).symm
  have r1 : ∀ j, j < l.length → w.heap[(og l j).blk]? = some (.cells (onCells (og l j) j) 109 (0, 0)) := h.ones
  have hrow : ∃ cur, w.heap[g]? = some (.cells cur 107 (0, 0)) := own_type h.own (show inRow _ g from rfl)
  obtain ⟨cur, hcur⟩ := hrow
  have ntb : ∀ j, j < l.length → (og l j).blk ≠ tb := fun j hj e => by
    have := r1 j hj
    rw [e, h.hdr] at this
    simp only [Option.some.injEq, Obj.cells.injEq] at this
    exact absurd this.2.1 (by decide)
  have hsl := swp_len l i k
  have b1 : (w.setCell ⟨(og l k).blk, 5, none⟩ (.int .i64 (i : Int))).heap[(og l i).blk]? = some (.cells (onCells (og l i) i) 109 (0, 0)) := by
    rw [Below.heap_setCell _ _ _ _ (fun e => hki e.symm)]
    exact r1 i hi
  refine ⟨?_, ?_, fun j hj => ?_, fun a b ha hb e => (Same.swp l i k hi hk).nd nd a b ha hb e, by rw [hsl]; exact hmax⟩
  · show ((w.setCell ⟨(og l k).blk, 5, none⟩ (.int .i64 (i : Int))).setCell ⟨(og l i).blk, 5, none⟩ (.int .i64 (k : Int))).heap[tb]? = _
    rw [Below.heap_setCell _ _ _ _ (fun e => ntb i hi e.symm), Below.heap_setCell _ _ _ _ (fun e => ntb k hk e.symm)]
    exact h.hdr
  · rw [hsl]
    exact own_set (own_set h.own (r1 k hk) (by decide) 5 _) b1 (by decide) 5 _
  · rw [hsl] at hj
    show ((w.setCell ⟨(og l k).blk, 5, none⟩ (.int .i64 (i : Int))).setCell ⟨(og l i).blk, 5, none⟩ (.int .i64 (k : Int))).heap[(og (swp l i k) j).blk]? = _
    rw [swp_get l i k j hi hk]
    by_cases h1 : j = k
    · subst h1
      rw [if_pos rfl]
      exact blk_put b1 5 _
    · rw [if_neg h1]
      by_cases h2 : j = i
      · subst h2
        rw [if_pos rfl, Below.heap_setCell _ _ _ _ (fun e => hki e)]
        exact blk_put (r1 k hk) 5 _
      · rw [if_neg h2, Below.heap_setCell _ _ _ _ (fun e => h2 (nd j i hj hi e)), Below.heap_setCell _ _ _ _ (fun e => h1 (nd j k hj hk e))]
        exact r1 j hj

set_option maxRecDepth 100000 in
set_option maxHeartbeats 6400000 in
theorem tswap_any (tb : Nat) (v : Value) (l : List On) (i k : Nat) (w : World) (h : HpAt w tb v l) (hi : i < l.length) (hk : k < l.length) (hne : i ≠ k) :
    Calls Tryd.prog 178 #[.pointer (some ⟨tb, 0, none⟩), .int .i64 (i : Int), .int .i64 (k : Int)] w fun e w' => e = .returned (.tuple #[]) ∧ HpAt w' tb v (swp l i k) ∧ Only (hz v l) w w' := by
  obtain ⟨g, cap, rfl⟩ := h.row (by omega)
  obtain ⟨sa, ho⟩ := swA_of h i k hi hk
  have nd := h.nd
  have HD := Lib.hid (fun W (hW : SwA W tb g cap l i k) => swA_done hW hi hk hne h.max nd)
  have c : w.cell? ⟨tb, 0, none⟩ = some (.slice (some ⟨g, 0, none⟩) l.length cap) := blk_cell h.hdr 0
  have ltb := h.lt.1
  have ltg : g < w.heap.size := h.lt.2 g (.inl rfl)
  have pi := h.ptr i hi
  have pk := h.ptr k hk
  have fi : w.frozen? ⟨g, i, none⟩ = false := own_free h.own i
  have fk : w.frozen? ⟨g, k, none⟩ = false := own_free h.own k
  obtain ⟨W1, hW1⟩ : ∃ W1, ((w.setCell ⟨g, i, none⟩ (onPtr (og l k))).setCell ⟨g, k, none⟩ (onPtr (og l i))).drew = W1 := ⟨_, rfl⟩
  rw [hW1] at sa ho
  have hzi : hz (.slice (some ⟨g, 0, none⟩) l.length cap) l (og l i).blk := .inr ⟨i, hi, rfl⟩
  have hzk : hz (.slice (some ⟨g, 0, none⟩) l.length cap) l (og l k).blk := .inr ⟨k, hk, rfl⟩
  have HZ := Lib.hid (And.intro hzi hzk)
  have hbne : (og l i).blk ≠ (og l k).blk := fun e => hne (nd i k hi hk e)
  have p1 := own_cell sa.own i (by omega)
  have p2 := own_cell sa.own k (by omega)
  rw [ptrs_get _ _ (by rw [swp_len]; exact hi), swp_get l i k i hi hk, if_neg hne, if_pos rfl] at p1
  rw [ptrs_get _ _ (by rw [swp_len]; exact hk), swp_get l i k k hi hk, if_pos rfl] at p2
  have HF : Hid (W1.cell? ⟨tb, 0, none⟩ = some (.slice (some ⟨g, 0, none⟩) l.length cap) ∧ W1.cell? ⟨g, i, none⟩ = some (.pointer (some ⟨(og l k).blk, 0, none⟩)) ∧ W1.cell? ⟨g, k, none⟩ = some (.pointer (some ⟨(og l i).blk, 0, none⟩)) ∧ W1.frozen? ⟨(og l k).blk, 5, none⟩ = false ∧ W1.frozen? ⟨(og l i).blk, 5, none⟩ = false ∧ W1.cell? ⟨(og l k).blk, 5, none⟩ = some (.int .i64 (k : Int)) ∧ W1.cell? ⟨(og l i).blk, 5, none⟩ = some (.int .i64 (i : Int)) ∧ tb < W1.heap.size ∧ g < W1.heap.size ∧ (og l k).blk < W1.heap.size ∧ (og l i).blk < W1.heap.size) :=
    Lib.hid ⟨blk_cell sa.hdr 0, p1, p2, blk_free (sa.ones k hk) 5, blk_free (sa.ones i hi) 5, blk_cell (sa.ones k hk) 5, blk_cell (sa.ones i hi) 5, blk_lt sa.hdr, own_lt sa.own rfl, blk_lt (sa.ones k hk), blk_lt (sa.ones i hi)⟩
  have HSA := Lib.hid sa
  have HO := Lib.hid ho
  have HV : Hid (∃ v0, v0 = (.slice (some ⟨g, 0, none⟩) l.length cap : Value)) := Lib.hid ⟨_, rfl⟩
  obtain ⟨L', hL'⟩ : ∃ L', swp l i k = L' := ⟨_, rfl⟩
  rw [hL'] at HD ⊢
  unfold onPtr at hW1
  obtain ⟨Z, hZ⟩ : ∃ Z, hz (.slice (some ⟨g, 0, none⟩) l.length cap) l = Z := ⟨_, rfl⟩
  rw [hZ] at HO HZ ⊢
  obtain ⟨bi, hbi⟩ : ∃ b, (og l i).blk = b := ⟨_, rfl⟩
  obtain ⟨bk, hbk⟩ : ∃ b, (og l k).blk = b := ⟨_, rfl⟩
  rw [hbi, hbk] at HD HF hW1 HZ hbne
  have HBN := Lib.hid hbne
  rw [hbi] at pi
  rw [hbk] at pk
  have HD2 := Lib.hid (HD.out W1 HSA.out)
  obtain ⟨n, hn⟩ : ∃ n, l.length = n := ⟨_, rfl⟩
  rw [hn] at c hi hk HF HD2 ⊢
  have z0 : (0 : Int) ≤ (i : Int) := by omega
  have z1 : (0 : Int) ≤ (k : Int) := by omega
  have z2 : (i : Int) < (n : Int) := by omega
  have z3 : (k : Int) < (n : Int) := by omega
  have z4 : (i : Int).toNat = i := Int.toNat_natCast i
  have z5 : (k : Int).toNat = k := Int.toNat_natCast k
  have HW1 := Lib.hid hW1
  clear h hn sa ho nd hbne hzi hzk p1 p2 HD HSA HV hL' hZ hbi hbk hW1
  go_enter Tryd.func178, Tryd.ntmps178
  go_wp2_with fail
  go_region
  rw [HW1.out]
  clear c ltb ltg pi pk fi fk
  obtain ⟨c, pi, pk, f1, f2, q1, q2, ltb, ltg, l1, l2⟩ := HF.out
  have n1 : bi ≠ bk := HBN.out
  have n2 : bk ≠ bi := fun e => HBN.out e.symm
  go_wp2_with fail
  go_region
  go_wp2
  go_end0
  refine ⟨rfl, HD2.out, ?_⟩
  exact ((HO.out.setCell (p := ⟨bk, 5, none⟩) (.inl HZ.out.2) _).setCell (p := ⟨bi, 5, none⟩) (.inl HZ.out.1) _).drew
end Go.Proofs.YtnhocmmgdkiepaaDoor

/-
  sched.turns: Push, Pop.
-/
namespace Go.Proofs.YtnhocmmgdkiepaaDoor
open Go.RowKit

theorem infoPOne : (Tryd.prog.info? 107).map (fun i => (i.zero, i.size, i.bytes)) = some (some (.pointer none), 1, 8) := by kernel_rfl
theorem run_asOne (b : Nat) : ∀ w : World, (Instr.typeAssert (.iface 107 (.pointer (some ⟨b, 0, none⟩))) 20 107 true).run Tryd.prog w = .ok (.tuple #[.pointer (some ⟨b, 0, none⟩), .bool true]) w := fun _ => by kernel_rfl
theorem ptrs_app (l : List On) (o : On) : ptrs (l ++ [o]) = ptrs l ++ [onPtr o] := by simp [ptrs]
set_option maxRecDepth 100000 in
set_option maxHeartbeats 6400000 in
theorem tpush_any (tb : Nat) (v : Value) (l : List On) (o : On) (p0 : Int) (w : World) (h : HpAt w tb v l) (ho : w.heap[o.blk]? = some (.cells (onCells o p0) 109 (0, 0))) (hne : ∀ j, j < l.length → (og l j).blk ≠ o.blk) (hm : l.length < 100) :
    Calls Tryd.prog 177 #[.pointer (some ⟨tb, 0, none⟩), .iface 107 (.pointer (some ⟨o.blk, 0, none⟩))] w fun e w' => e = .returned (.tuple #[]) ∧ ∃ v', HpAt w' tb v' (l ++ [o]) ∧ Only (fun b => b = tb ∨ inRow v b ∨ b = o.blk) w w' ∧ ∀ b, inRow v' b → inRow v b ∨ w.heap.size ≤ b := by
  obtain ⟨i0, hi, hz0, hz1, hz2⟩ := info_parts infoPOne
  obtain ⟨ao, cap, rfl⟩ := h.slice
  obtain ⟨W1, hW1⟩ : ∃ W1, w.setCell ⟨o.blk, 5, none⟩ (.int .i64 (l.length : Int)) = W1 := ⟨_, rfl⟩
  have htb : o.blk ≠ tb := fun e => by
    have := h.hdr
    rw [← e, ho] at this
    simp only [Option.some.injEq, Obj.cells.injEq] at this
    exact absurd this.2.1 (by decide)
  have o1 : W1.heap[o.blk]? = some (.cells (onCells o (l.length : Int)) 109 (0, 0)) := hW1 ▸ blk_put ho 5 _
  have h1 : W1.heap[tb]? = some (.cells #[.slice ao l.length cap] 104 (0, 0)) := by
    rw [← hW1, Below.heap_setCell _ _ _ _ (fun e => htb e.symm)]
    exact h.hdr
  have own1 : W1.ownsRow 0 107 1 (.slice ao l.length cap) l.length (ptrs l) := hW1 ▸ own_set h.own ho (by decide) 5 _
  have ones1 : ∀ j, j < l.length → W1.heap[(og l j).blk]? = some (.cells (onCells (og l j) j) 109 (0, 0)) := fun j hj => by
    rw [← hW1, Below.heap_setCell _ _ _ _ (hne j hj)]
    exact h.ones j hj
  have on1 : Only (fun b => b = tb ∨ inRow (.slice ao l.length cap) b ∨ b = o.blk) w W1 := hW1 ▸ (Only.refl _ w).setCell (p := ⟨o.blk, 5, none⟩) (.inl (.inr (.inr rfl))) _
  have c : w.cell? ⟨tb, 0, none⟩ = some (.slice ao l.length cap) := blk_cell h.hdr 0
  have ltb := h.lt.1
  have lo := blk_lt ho
  have f5 := blk_free ho 5
  have q5 : w.cell? ⟨o.blk, 5, none⟩ = some (.int .i64 p0) := blk_cell ho 5
  have c1 : W1.cell? ⟨tb, 0, none⟩ = some (.slice ao l.length cap) := blk_cell h1 0
  have HC1 := Lib.hid (And.intro c1 (blk_lt h1))
  have HOWN := Lib.hid own1
  have HND := Lib.hid h.nd
  have HH1 := Lib.hid h1
  have HO1 := Lib.hid o1
  have HONES := Lib.hid ones1
  have HON := Lib.hid on1
  have HNE := Lib.hid hne
  have HM := Lib.hid hm
  have HTB := Lib.hid htb
  have HSZ : Hid (W1.heap.size = w.heap.size) := Lib.hid (by rw [← hW1]; simp)
  have HW1 := Lib.hid hW1
  have HNT : Hid (¬ inRow (.slice ao l.length cap) tb) := Lib.hid fun e => own_not own1 h1 (by decide) e
  clear h ho hne hm htb o1 h1 own1 ones1 on1 c1 hW1
  go_enter Tryd.func177, Tryd.ntmps177
  have hta := run_asOne o.blk
  have HNW : Hid (∀ (j : Nat) (u : Value), ([.pointer (some ⟨o.blk, 0, none⟩)] : List Value)[j]? = some u → ((w.setCell ⟨o.blk, 5, none⟩ (.int .i64 (l.length : Int))).alloc (.cells #[.pointer (some ⟨o.blk, 0, none⟩)] 107)).cell? ((⟨w.heap.size, 0, none⟩ : Addr).add j) = some u) := Lib.hid fun j u hj => by
    have := cell_one_new (w.setCell ⟨o.blk, 5, none⟩ (.int .i64 (l.length : Int))) (.pointer (some ⟨o.blk, 0, none⟩)) 107 j u hj
    rw [show (w.setCell ⟨o.blk, 5, none⟩ (.int .i64 (l.length : Int))).heap.size = w.heap.size by simp] at this
    exact this
  have HOW2 : Hid ((w.setCell ⟨o.blk, 5, none⟩ (.int .i64 (l.length : Int))).ownsRow 0 107 1 (.slice ao l.length cap) l.length (ptrs l)) := Lib.hid (by rw [HW1.out]; exact HOWN.out)
  have HC2 : Hid ((w.setCell ⟨o.blk, 5, none⟩ (.int .i64 (l.length : Int))).cell? ⟨tb, 0, none⟩ = some (.slice ao l.length cap)) := Lib.hid (by rw [HW1.out]; exact HC1.out.1)
  have c2 := HC2.out
  go_wp2_with (at_builtin; refine wpList_append_sep _ rfl _ _ 102 rfl 107 i0 (.pointer none) 1 8 Tryd.underlying102 hi hz0 hz1 hz2 rfl (by decide) _ _ _ rfl (HOW2.out.alloc _) ⟨w.heap.size, 0, none⟩ 1 1 [.pointer (some ⟨o.blk, 0, none⟩)] rfl rfl HNW.out (by simp [Value.oneCell']) (by unfold maxLen; have := HM.out; omega) (by have := HM.out; omega) ?_)
  intro v' wx ho3 hg3 hs3
  have hlt3 : (∀ b, inRow v' b → inRow (.slice ao l.length cap) b ∨ w.heap.size ≤ b) := fun b hb => by
    rcases hs3 b hb with h | h
    · exact .inl h
    · have h' := h
      try simp only [World.size_alloc] at h'
      try simp at h'
      exact .inr (by have := HSZ.out; omega)
  obtain ⟨ao2, cap2, rfl⟩ := own_slice ho3
  have hA : Below w.heap.size (w.setCell ⟨o.blk, 5, none⟩ (.int .i64 (l.length : Int))) ((w.setCell ⟨o.blk, 5, none⟩ (.int .i64 (l.length : Int))).alloc (.cells #[.pointer (some ⟨o.blk, 0, none⟩)] 107)) := (Below.refl _ _).alloc (by simp) _
  have b1 := blk_grown (blk_old (by rw [HW1.out]; exact HH1.out) (.cells #[.pointer (some ⟨o.blk, 0, none⟩)] 107)) hg3 HNT.out
  have cx := blk_cell b1 0
  have fx := blk_free b1 0
  have lx := blk_lt b1
  have HF : Hid (HpAt (wx.setCell ⟨tb, 0, none⟩ (.slice ao2 (l.length + 1) cap2)) tb (.slice ao2 (l.length + 1) cap2) (l ++ [o]) ∧ Only (fun b => b = tb ∨ inRow (.slice ao l.length cap) b ∨ b = o.blk) w (wx.setCell ⟨tb, 0, none⟩ (.slice ao2 (l.length + 1) cap2))) := Lib.hid (by
    have hone : ∀ (b : Nat) (x : Array Value), (w.setCell ⟨o.blk, 5, none⟩ (.int .i64 (l.length : Int))).heap[b]? = some (Obj.cells x 109 (0, 0)) → (wx.setCell ⟨tb, 0, none⟩ (.slice ao2 (l.length + 1) cap2)).heap[b]? = some (Obj.cells x 109 (0, 0)) := fun b x hb => by
      have hnr : ¬ inRow (.slice ao l.length cap) b := fun e => own_not HOW2.out hb (by decide) e
      have hb2 := blk_grown (blk_old hb (.cells #[.pointer (some ⟨o.blk, 0, none⟩)] 107)) hg3 hnr
      rw [Below.heap_setCell _ _ _ _ (fun e => by
        have e' : b = tb := e
        rw [e', HW1.out, HH1.out] at hb
        simp only [Option.some.injEq, Obj.cells.injEq] at hb
        exact absurd hb.2.1 (by decide))]
      exact hb2
    refine ⟨⟨blk_put b1 0 _, ?_, fun j hj => ?_, fun a b ha hb e => ?_, ?_⟩, ?_⟩
    · rw [List.length_append, ptrs_app]
      exact own_set ho3 b1 (by decide) 0 _
    · rw [List.length_append] at hj
      by_cases hjl : j < l.length
      · rw [og_app _ _ _ hjl]
        exact hone _ _ (by rw [HW1.out]; exact HONES.out j hjl)
      · have : j = l.length := by simp at hj; omega
        subst this
        rw [og_last]
        exact hone _ _ (by rw [HW1.out]; exact HO1.out)
    · rw [List.length_append] at ha hb
      simp at ha hb
      by_cases h1 : a < l.length
      · by_cases h2 : b < l.length
        · rw [og_app _ _ _ h1, og_app _ _ _ h2] at e
          exact HND.out a b h1 h2 e
        · rw [og_app _ _ _ h1, show b = l.length by omega, og_last] at e
          exact absurd e (HNE.out a h1)
      · by_cases h2 : b < l.length
        · rw [og_app _ _ _ h2, show a = l.length by omega, og_last] at e
          exact absurd e.symm (HNE.out b h2)
        · omega
    · rw [List.length_append]; have := HM.out; simp; omega
    · exact Only.setCell (F := fun b => b = tb ∨ inRow (.slice ao l.length cap) b ∨ b = o.blk) (Only.grown (Only.alloc' (by rw [HW1.out]; exact HON.out) _) hg3 (fun b hb => .inl (.inr (.inl hb)))) (p := ⟨tb, 0, none⟩) (.inl (.inl rfl)) _)
  have HL3 := Lib.hid hlt3
  clear ho3 hg3 hs3 b1 hA hlt3
  go_wp2_with fail
  go_end0
  exact ⟨rfl, _, HF.out.1, HF.out.2, HL3.out⟩
set_option maxRecDepth 100000 in
set_option maxHeartbeats 6400000 in
theorem tpop_any (tb g cap n : Nat) (l : List On) (hn : l.length = n + 1) (w : World) (h : HpAt w tb (.slice (some ⟨g, 0, none⟩) (n + 1) cap) l) :
    Calls Tryd.prog 176 #[.pointer (some ⟨tb, 0, none⟩)] w fun e w' => e = .returned (.iface 107 (.pointer (some ⟨(og l n).blk, 0, none⟩))) ∧ HpAt w' tb (.slice (some ⟨g, 0, none⟩) n cap) (l.take n) ∧ Only (fun b => b = tb) w w' := by
  have c : w.cell? ⟨tb, 0, none⟩ = some (.slice (some ⟨g, 0, none⟩) (n + 1) cap) := blk_cell h.hdr 0
  have f0 := blk_free h.hdr 0
  have ltb := h.lt.1
  have ltg : g < w.heap.size := h.lt.2 g (.inl rfl)
  have hown := h.own
  rw [hn] at hown
  have hp := own_cell hown n (by omega)
  rw [ptrs_get _ _ (by omega)] at hp
  unfold onPtr at hp
  have hlt : (l.take n).length = n := by rw [List.length_take]; omega
  have hog : ∀ j, j < n → og (l.take n) j = og l j := fun j hj => by
    unfold og
    rw [List.getD_eq_getElem?_getD, List.getElem?_take, if_pos hj, ← List.getD_eq_getElem?_getD]
  have HF : Hid (∀ W : World, HpAt W tb (.slice (some ⟨g, 0, none⟩) (n + 1) cap) l → HpAt (W.setCell ⟨tb, 0, none⟩ (.slice (some ⟨g, 0, none⟩) n cap)) tb (.slice (some ⟨g, 0, none⟩) n cap) (l.take n) ∧ Only (fun b => b = tb) W (W.setCell ⟨tb, 0, none⟩ (.slice (some ⟨g, 0, none⟩) n cap))) := Lib.hid fun W h => ⟨⟨blk_put h.hdr 0 _, by
    have h1 := h.own
    rw [hn] at h1
    have h2 := own_pop h1
    rw [hlt]
    have h3 : (ptrs l).take n = ptrs (l.take n) := by unfold ptrs; rw [List.map_take]
    rw [h3] at h2
    exact own_set h2 h.hdr (by decide) 0 _, fun j hj => by
    rw [hlt] at hj
    rw [hog j hj, Below.heap_setCell _ _ _ _ (fun e => one_ne_hdr h j (by omega) e)]
    exact h.ones j (by omega), fun a b ha hb e => by
    rw [hlt] at ha hb
    rw [hog a ha, hog b hb] at e
    exact h.nd a b (by omega) (by omega) e, by rw [hlt]; have := h.max; omega⟩, (Only.refl (fun b => b = tb) W).setCell (p := ⟨tb, 0, none⟩) (.inl rfl) _⟩
  have HH := Lib.hid h
  obtain ⟨bl, hbl⟩ : ∃ b, (og l n).blk = b := ⟨_, rfl⟩
  rw [hbl] at hp ⊢
  obtain ⟨T, hT⟩ : ∃ T, l.take n = T := ⟨_, rfl⟩
  rw [hT] at HF ⊢
  have hmx := h.max
  have wn := IntWalk.i64_in (n : Int) (by omega)
  have hn1 : ((n + 1 : Nat) : Int) = (n : Int) + 1 := by omega
  have hn2 : (n : Int) + 1 - 1 = (n : Int) := by omega
  have hn3 : (n : Int) < (n : Int) + 1 := by omega
  have hn4 : ¬ (n : Int) < 0 := by omega
  have hn5 : (n : Int) ≤ (cap : Int) := by
    rcases own_shape hown with ⟨-, hz, -⟩ | ⟨g', cap', e, h2, -⟩
    · omega
    · cases e; omega
  clear h hn hown hlt hog hbl hT hmx
  go_enter Tryd.func176, Tryd.ntmps176
  go_wp2_with fail
  go_quiet (fail)
  go_wp2_with fail
  go_region
  go_wp2_with fail
  go_ret
  have hb : Below w.heap.size w (w.drewN (nq + 1)) := below_drewN (Below.refl _ _) _
  obtain ⟨h1, h2⟩ := HF.out _ (HH.out.below hb)
  exact ⟨rfl, h1, (Only.of_below hb).trans h2⟩
end Go.Proofs.YtnhocmmgdkiepaaDoor

