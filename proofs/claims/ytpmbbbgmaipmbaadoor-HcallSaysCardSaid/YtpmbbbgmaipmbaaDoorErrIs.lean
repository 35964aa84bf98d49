/-
  errors.Is over the program's sentinels, bare, or within an api.At, or within two.
-/
import Derived.Test.YtpmbbbgmaipmbaaDoorSee
import Derived.Stop.Asserts
import Derived.RowKitTokens
import Derived.LaidEql
namespace Go.Proofs.YtpmbbbgmaipmbaaDoor
open Go.RowKit Go.Extern.Stop Go.Stop Go.Extern

theorem isTypeOf (v : Value) (w : World) : (callFunc 61 #[.iface errT v]).run Tryd.prog w = .ok (.value (.iface 124 (.agg #[.pointer (some ⟨16, errT, none⟩)]))) w := by kernel_rfl
theorem isComparable (w : World) : (callFunc 85 #[.agg #[.pointer (some ⟨16, errT, none⟩)]]).run Tryd.prog w = .ok (.value (.bool true)) w := by kernel_rfl
theorem isMethodComparable (v : Value) (w : World) : (Go.method 269 124 v "Comparable").run Tryd.prog w = .ok (85, v) w := by kernel_rfl
theorem noIsE (v : Value) (xT : TypeId) (w : World) : (Instr.typeAssert (.iface errT v) xT 126 true).run Tryd.prog w = .ok (.tuple #[.nilIface, .bool false]) w := run_typeAssert_lacksB Tryd.underlying126 (by kernel_rfl) (by kernel_rfl) v xT w
theorem noUnwrapE (v : Value) (xT : TypeId) (w : World) : (Instr.typeAssert (.iface errT v) xT 129 true).run Tryd.prog w = .ok (.tuple #[.nilIface, .bool false]) w := run_typeAssert_lacksB Tryd.underlying129 (by kernel_rfl) (by kernel_rfl) v xT w
theorem noUnwrapsE (v : Value) (xT : TypeId) (w : World) : (Instr.typeAssert (.iface errT v) xT 131 true).run Tryd.prog w = .ok (.tuple #[.nilIface, .bool false]) w := run_typeAssert_lacksB Tryd.underlying131 (by kernel_rfl) (by kernel_rfl) v xT w
theorem noIsW (v : Value) (xT : TypeId) (w : World) : (Instr.typeAssert (.iface 32 v) xT 126 true).run Tryd.prog w = .ok (.tuple #[.nilIface, .bool false]) w := run_typeAssert_lacksB Tryd.underlying126 (by kernel_rfl) (by kernel_rfl) v xT w
theorem hasUnwrapW (v : Value) (xT : TypeId) (w : World) : (Instr.typeAssert (.iface 32 v) xT 129 true).run Tryd.prog w = .ok (.tuple #[.iface 32 v, .bool true]) w := run_typeAssert_hasB Tryd.underlying129 (by kernel_rfl) v xT w
theorem methodUnwrap (v : Value) (w : World) : (Go.method 269 32 v "Unwrap").run Tryd.prog w = .ok (81, v) w := by kernel_rfl

theorem eis_same (a : Addr) (w : World) : Calls Tryd.prog 50 #[errV a, errV a] w fun e w' => e = .returned (.bool true) ∧ w = w' := by
  have tT := isTypeOf
  have cT := isComparable
  have mR := isMethodComparable
  have heq := eql_same w a
  go_enter Tryd.func50, Tryd.ntmps50
  go_wp2
  refine wp_loop_rounds 1 ?_
  rw [rounds_succ]
  go_wp2
  go_ret
  exact ⟨rfl, rfl⟩
theorem eis_other (a b : Addr) (w : World) (hne : a ≠ b) (ha : ∃ c t, w.heap[a.block]? = some (.cells c t (0, 0))) (hb : ∃ c t, w.heap[b.block]? = some (.cells c t (0, 0))) :
    Calls Tryd.prog 50 #[errV a, errV b] w fun e w' => e = .returned (.bool false) ∧ w = w' := by
  have tT := isTypeOf
  have cT := isComparable
  have mR := isMethodComparable
  have nE := noIsE
  have uE := noUnwrapE
  have vE := noUnwrapsE
  have heq := eql_other w hne ha hb
  clear hne ha hb
  go_enter Tryd.func50, Tryd.ntmps50
  go_wp2
  refine wp_loop_rounds 1 ?_
  rw [rounds_succ]
  go_wp2
  go_ret
  exact ⟨rfl, rfl⟩
/-- an error with a place, around another one -/
abbrev atV (p : Nat) : Value := .iface 32 (.pointer (some ⟨p, 0, none⟩))
theorem eis_at_same (p : Nat) (b : Addr) (w : World) (h1 : w.cell? ⟨p, 1, none⟩ = some (errV b)) :
    Calls Tryd.prog 50 #[atV p, errV b] w fun e w' => e = .returned (.bool true) ∧ w = w' := by
  have tT := isTypeOf
  have cT := isComparable
  have mR := isMethodComparable
  have nW := noIsW
  have uW := hasUnwrapW
  have mU := methodUnwrap
  have heq := eql_same w b
  have hty := run_eql_iface_types (P := Tryd.prog) 32 errT (.pointer (some ⟨p, 0, none⟩)) (.pointer (some b)) Tryd.underlying27 (by decide) w
  go_enter Tryd.func50, Tryd.ntmps50
  go_wp2
  refine wp_loop_rounds 2 ?_
  rw [rounds_succ]
  go_wp2
  rw [rounds_succ]
  go_wp2
  go_ret
  exact ⟨rfl, rfl⟩
theorem eis_at_other (p : Nat) (a b : Addr) (w : World) (h1 : w.cell? ⟨p, 1, none⟩ = some (errV a)) (hne : a ≠ b) (ha : ∃ c t, w.heap[a.block]? = some (.cells c t (0, 0))) (hb : ∃ c t, w.heap[b.block]? = some (.cells c t (0, 0))) :
    Calls Tryd.prog 50 #[atV p, errV b] w fun e w' => e = .returned (.bool false) ∧ w = w' := by
  have tT := isTypeOf
  have cT := isComparable
  have mR := isMethodComparable
  have nE := noIsE
  have uE := noUnwrapE
  have vE := noUnwrapsE
  have nW := noIsW
  have uW := hasUnwrapW
  have mU := methodUnwrap
  have heq := eql_other w hne ha hb
  have hty := run_eql_iface_types (P := Tryd.prog) 32 errT (.pointer (some ⟨p, 0, none⟩)) (.pointer (some b)) Tryd.underlying27 (by decide) w
  clear hne ha hb
  go_enter Tryd.func50, Tryd.ntmps50
  go_wp2
  refine wp_loop_rounds 2 ?_
  rw [rounds_succ]
  go_wp2
  rw [rounds_succ]
  go_wp2
  go_ret
  exact ⟨rfl, rfl⟩
theorem eis_at2_same (p q : Nat) (b : Addr) (w : World) (h1 : w.cell? ⟨p, 1, none⟩ = some (atV q)) (h2 : w.cell? ⟨q, 1, none⟩ = some (errV b)) :
    Calls Tryd.prog 50 #[atV p, errV b] w fun e w' => e = .returned (.bool true) ∧ w = w' := by
  have tT := isTypeOf
  have cT := isComparable
  have mR := isMethodComparable
  have nW := noIsW
  have uW := hasUnwrapW
  have mU := methodUnwrap
  have heq := eql_same w b
  have hty := run_eql_iface_types (P := Tryd.prog) 32 errT (.pointer (some ⟨p, 0, none⟩)) (.pointer (some b)) Tryd.underlying27 (by decide) w
  have hty2 := run_eql_iface_types (P := Tryd.prog) 32 errT (.pointer (some ⟨q, 0, none⟩)) (.pointer (some b)) Tryd.underlying27 (by decide) w
  go_enter Tryd.func50, Tryd.ntmps50
  go_wp2
  refine wp_loop_rounds 3 ?_
  rw [rounds_succ]
  go_wp2
  rw [rounds_succ]
  go_wp2
  rw [rounds_succ]
  go_wp2
  go_ret
  exact ⟨rfl, rfl⟩
theorem eis_at2_other (p q : Nat) (a b : Addr) (w : World) (h1 : w.cell? ⟨p, 1, none⟩ = some (atV q)) (h2 : w.cell? ⟨q, 1, none⟩ = some (errV a)) (hne : a ≠ b) (ha : ∃ c t, w.heap[a.block]? = some (.cells c t (0, 0))) (hb : ∃ c t, w.heap[b.block]? = some (.cells c t (0, 0))) :
    Calls Tryd.prog 50 #[atV p, errV b] w fun e w' => e = .returned (.bool false) ∧ w = w' := by
  have tT := isTypeOf
  have cT := isComparable
  have mR := isMethodComparable
  have nE := noIsE
  have uE := noUnwrapE
  have vE := noUnwrapsE
  have nW := noIsW
  have uW := hasUnwrapW
  have mU := methodUnwrap
  have heq := eql_other w hne ha hb
  have hty := run_eql_iface_types (P := Tryd.prog) 32 errT (.pointer (some ⟨p, 0, none⟩)) (.pointer (some b)) Tryd.underlying27 (by decide) w
  have hty2 := run_eql_iface_types (P := Tryd.prog) 32 errT (.pointer (some ⟨q, 0, none⟩)) (.pointer (some b)) Tryd.underlying27 (by decide) w
  clear hne ha hb
  go_enter Tryd.func50, Tryd.ntmps50
  go_wp2
  refine wp_loop_rounds 3 ?_
  rw [rounds_succ]
  go_wp2
  rw [rounds_succ]
  go_wp2
  rw [rounds_succ]
  go_wp2
  go_ret
  exact ⟨rfl, rfl⟩
end Go.Proofs.YtpmbbbgmaipmbaaDoor
