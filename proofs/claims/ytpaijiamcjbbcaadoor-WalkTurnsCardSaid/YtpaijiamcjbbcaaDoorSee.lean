/-
  facadesee: is an error this one? Over the program's sentinels.
-/
import Derived.Test.YtpaijiamcjbbcaaDoorErrsSeat
import Derived.BigQuiet
import Derived.Deep.RegionWith
import Derived.Deep.RegionHeld3
namespace Go.Proofs.YtpaijiamcjbbcaaDoor
open Go.RowKit

abbrev errV (a : Addr) : Value := .iface errT (.pointer (some a))
def all16 : List Nat := [0, 1, 2, 3, 4, 5, 6, 7, 8, 9, 10, 11, 12, 13, 14, 15]
theorem mem16 {k : Nat} (h : k < 16) : k ∈ all16 := by
  simp [all16]
  omega
theorem err_comp : (Tryd.prog.info? errT).map (·.comparable) = some true := by kernel_rfl
theorem err_size : (Tryd.prog.info? 76).map (·.size) = some 1 := by kernel_rfl
theorem eql_same (w : World) (a : Addr) : (binOp .eql 49 (errV a) (errV a)).run Tryd.prog w = .ok (.bool true) w := by
  obtain ⟨i, hi, hc⟩ := Option.map_eq_some_iff.1 err_comp
  obtain ⟨j, hj, -⟩ := Option.map_eq_some_iff.1 err_size
  exact run_eql_iface_ptr_same w a Tryd.underlying49 Tryd.underlying60 hi hc hj
theorem eql_other (w : World) {a b : Addr} (hne : a ≠ b) (ha : ∃ c t, w.heap[a.block]? = some (.cells c t (0, 0))) (hb : ∃ c t, w.heap[b.block]? = some (.cells c t (0, 0))) :
    (binOp .eql 49 (errV a) (errV b)).run Tryd.prog w = .ok (.bool false) w := by
  obtain ⟨i, hi, hc⟩ := Option.map_eq_some_iff.1 err_comp
  obtain ⟨j, hj, hs⟩ := Option.map_eq_some_iff.1 err_size
  obtain ⟨ca, ta, ha⟩ := ha
  obtain ⟨cb, tb, hb⟩ := hb
  exact run_eql_iface_ptr_other w Tryd.underlying49 Tryd.underlying60 hi hc hj (by omega) hne ha hb