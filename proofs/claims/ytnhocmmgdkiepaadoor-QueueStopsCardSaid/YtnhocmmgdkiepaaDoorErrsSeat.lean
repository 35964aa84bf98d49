/-
  The sentinels of this seat: which variable holds which; what a list of them gives.
-/
import Derived.Test.YtnhocmmgdkiepaaDoorErrs
namespace Go.Proofs.YtnhocmmgdkiepaaDoor
open Go.ChangeShapes Go.WideShapes Go.ChangeAt Go.RowKit

abbrev errT : TypeId := 213
def gOf : Nat → Nat
  | 0 => 9
  | 1 => 5
  | 2 => 0
  | 3 => 4
  | 4 => 10
  | 5 => 1
  | 6 => 2
  | 7 => 11
  | 8 => 12
  | 9 => 8
  | 10 => 7
  | 11 => 6
  | 12 => 3
  | 13 => 13
  | 14 => 14
  | 15 => 15
  | _ => 0
theorem err_star : "*" ++ "errors.errorString" = "*errors.errorString" := by decide
theorem err_row (u : TypeId) (h : Tryd.prog.typeName? 3 u = some "*errors.errorString") : u = errT :=
  typeName_ptr_named (nm := "errors.errorString") (by rw [err_star]; kernel_rfl) (by kernel_rfl) (by decide) u (by rw [err_star]; exact h)
theorem err_cells : Tryd.prog.cellsOf 230 = 1 := by kernel_rfl
theorem str_cells : Tryd.prog.cellsOf 9 = 1 := by kernel_rfl
theorem errs_sents {W : World} (L : List (String × DataW Unit)) (ps : List MemPlace) (hv : DataW.LaidVars Tryd.prog W L ps) (hnd : ps.Nodup)
    (hrows : ∀ b off, MemPlace.cell b off ∈ ps → (∃ c t, W.heap[b]? = some (.cells c t (0, 0))) ∧ ∀ u v, W.cell? ⟨b, off, none⟩ = some (.iface u v) → Value.okWide Tryd.prog W .any 0 u v)
    (hL : ∀ x ∈ L, (∃ text, x.2 = .iface "*errors.errorString" (.ptr (.agg [.lit (.string text)]))) ∧ ∀ g, Tryd.prog.globalNamed x.1 = some g → (Tryd.prog.globals[g]?).map (·.type) = some 27) :
    ∃ A : List Addr, A.length = L.length ∧ A.Nodup ∧ (∀ a ∈ A, MemPlace.cell a.block a.off ∈ ps) ∧ ∀ (i : Nat) x a, L[i]? = some x → A[i]? = some a → ∃ g, Tryd.prog.globalNamed x.1 = some g ∧ SentAt errT W g a :=
  sents Tryd.underlying27 err_row Tryd.underlying213 Tryd.underlying230 rfl rfl Tryd.underlying9 err_cells str_cells L ps hv hnd hrows hL
end Go.Proofs.YtnhocmmgdkiepaaDoor
