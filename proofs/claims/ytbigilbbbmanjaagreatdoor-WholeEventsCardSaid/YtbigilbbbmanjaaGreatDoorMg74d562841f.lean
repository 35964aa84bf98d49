/-
  Parts of one proof, one behind the other.
-/
import Derived.Test.YtbigilbbbmanjaaGreatDoorMgbf9aad01db
import Derived.Test.YtbigilbbbmanjaaGreatDoorMg892d52ebca
import Derived.Test.YtbigilbbbmanjaaGreatDoorProg
/-
  The evaluator of closed calls: a part.
-/
set_option linter.unusedVariables false
set_option linter.unusedSimpArgs false
set_option maxRecDepth 100000
namespace Go.Ev
theorem e14_ok : Ent Go.Proofs.Tryz.prog 14 e14 := ent_of_fact (np := 2) (ks := [0, 1, 4]) (sch := []) (by kernel_rfl)
theorem e34_ok : Ent Go.Proofs.Tryz.prog 34 e34 := ent_of_fact (np := 2) (ks := [0, 1, 11, 4, 5, 6]) (sch := []) (by kernel_rfl)
theorem e56_ok : Ent Go.Proofs.Tryz.prog 56 e56 := ent_of_fact (np := 1) (ks := [0, 2]) (sch := []) (by kernel_rfl)
theorem e72_ok : Ent Go.Proofs.Tryz.prog 72 e72 := ent_of_fact (np := 1) (ks := [0, 2]) (sch := []) (by kernel_rfl)
theorem e87_ok : Ent Go.Proofs.Tryz.prog 87 e87 := ent_of_fact (np := 1) (ks := [0, 15, 26, 2, 3, 4, 14, 13, 12, 8, 11, 7, 5, 9, 6, 10]) (sch := []) (by kernel_rfl)
theorem e99_ok : Ent Go.Proofs.Tryz.prog 99 e99 := ent_of_fact (np := 2) (ks := [0, 1, 4, 5, 6, 7]) (sch := [(2, [.N 0, .N 1, .N 2, .N 3, .E 4 [] [2], .N 5])]) (by kernel_rfl)
theorem e117_ok : Ent Go.Proofs.Tryz.prog 117 e117 := ent_of_fact (np := 3) (ks := [0, 1, 2, 20, 6, 7]) (sch := []) (by kernel_rfl)
theorem e131_ok : Ent Go.Proofs.Tryz.prog 131 e131 := ent_of_fact (np := 1) (ks := [0, 10, 2, 3, 6, 4, 5]) (sch := []) (by kernel_rfl)
theorem e145_ok : Ent Go.Proofs.Tryz.prog 145 e145 := ent_of_fact (np := 2) (ks := [0, 1, 16, 24, 4, 5, 6]) (sch := [(2, [.N 0, .N 1, .N 2]), (5, [.N 0, .N 1, .N 2])]) (by kernel_rfl)
theorem e159_ok : Ent Go.Proofs.Tryz.prog 159 e159 := ent_of_fact (np := 3) (ks := [0, 1, 2, 5, 4, 3]) (sch := []) (by kernel_rfl)
theorem e174_ok : Ent Go.Proofs.Tryz.prog 174 e174 := ent_of_fact (np := 0) (ks := [0]) (sch := []) (by kernel_rfl)
theorem e189_ok : Ent Go.Proofs.Tryz.prog 189 e189 := ent_of_fact (np := 1) (ks := [0, 22, 34, 53, 59, 2, 3, 4, 5, 33, 32, 31, 10, 9, 7, 8, 6]) (sch := []) (by kernel_rfl)
theorem e205_ok : Ent Go.Proofs.Tryz.prog 205 e205 := ent_of_fact (np := 4) (ks := [0, 1, 2, 3, 16, 23, 32, 37, 8, 9, 10]) (sch := []) (by kernel_rfl)
theorem e217_ok : Ent Go.Proofs.Tryz.prog 217 e217 := ent_of_fact (np := 1) (ks := [0, 24, 38, 42, 2, 3, 1, 37, 36, 35, 6, 4, 5]) (sch := []) (by kernel_rfl)
theorem e236_ok : Ent Go.Proofs.Tryz.prog 236 e236 := ent_of_fact (np := 3) (ks := [0, 1, 2, 16, 29, 59, 82, 92, 94, 6, 3, 14, 7, 8, 9]) (sch := [(5, [.N 1, .N 2, .E 0 [] [2], .E 3 [] [], .N 4, .N 5]), (8, [.N 1, .N 2, .E 0 [] [2], .E 3 [] [], .N 4, .N 5, .N 6, .N 7, .N 8, .N 9, .N 10, .N 11, .N 12, .N 13, .N 14, .N 15, .N 16, .N 17, .N 18, .N 19, .N 20, .N 21])]) (by kernel_rfl)
theorem e249_ok : Ent Go.Proofs.Tryz.prog 249 e249 := ent_of_fact (np := 1) (ks := [0, 13, 65, 86, 105, 149, 2, 4, 1, 5, 3, 6, 8, 7]) (sch := []) (by kernel_rfl)
theorem e265_ok : Ent Go.Proofs.Tryz.prog 265 e265 := ent_of_fact (np := 2) (ks := [0, 1, 4, 5]) (sch := [(1, [.N 0, .N 1, .N 2, .N 3, .N 4, .N 5, .N 6, .N 7, .N 8, .N 9, .N 10, .E 11 [] [], .N 12, .N 13, .E 14 [] [], .N 15])]) (by kernel_rfl)
theorem e299_ok : Ent Go.Proofs.Tryz.prog 299 e299 := ent_of_fact (np := 1) (ks := [0, 2]) (sch := []) (by kernel_rfl)
end Go.Ev

