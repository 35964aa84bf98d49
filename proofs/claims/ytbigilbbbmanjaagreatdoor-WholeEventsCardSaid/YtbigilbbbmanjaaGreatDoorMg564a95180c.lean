/-
  Parts of one proof, one behind the other.
-/
import Derived.Test.YtbigilbbbmanjaaGreatDoorMgbf9aad01db
import Derived.Test.YtbigilbbbmanjaaGreatDoorMg892d52ebca
import Derived.Test.YtbigilbbbmanjaaGreatDoorProg
/-
  The evaluator of closed calls: a part.
-/
set_option linter.unusedVariables false
set_option linter.unusedSimpArgs false
set_option maxRecDepth 100000
namespace Go.Ev
theorem e28_ok : Ent Go.Proofs.Tryz.prog 28 e28 := ent_of_fact (np := 1) (ks := [0, 2]) (sch := []) (by kernel_rfl)
theorem e41_ok : Ent Go.Proofs.Tryz.prog 41 e41 := ent_of_fact (np := 1) (ks := [0, 14, 2, 3, 6, 4]) (sch := []) (by kernel_rfl)
theorem e65_ok : Ent Go.Proofs.Tryz.prog 65 e65 := ent_of_fact (np := 2) (ks := [0, 1, 30, 32, 41, 67, 73, 78, 4, 6, 60, 5]) (sch := [(0, [.N 0, .N 1, .N 2, .N 3, .N 4, .N 5, .N 6, .N 7, .N 8, .N 9, .N 10, .N 11, .N 12, .N 13, .N 14, .N 15, .N 16, .N 17, .N 18, .N 19, .E 20 [] [3, 7, 11], .E 21 [] [], .N 22]), (5, [.N 0, .N 1, .N 2, .N 3, .N 4, .N 5, .N 6, .N 7, .N 9, .N 10, .N 11, .N 12, .B 17, .B 18, .E 8 [] [3, 12], .E 13 [] [], .N 14, .N 15, .N 16, .E 19 [17, 18] [], .E 20 [] []])]) (by kernel_rfl)
theorem e81_ok : Ent Go.Proofs.Tryz.prog 81 e81 := ent_of_fact (np := 1) (ks := [0, 2]) (sch := []) (by kernel_rfl)
theorem e93_ok : Ent Go.Proofs.Tryz.prog 93 e93 := ent_of_fact (np := 2) (ks := [0, 1, 12, 21, 33, 4, 5, 2, 6, 8, 7]) (sch := [(5, [.N 0, .N 1, .N 2])]) (by kernel_rfl)
theorem e110_ok : Ent Go.Proofs.Tryz.prog 110 e110 := ent_of_fact (np := 1) (ks := [0, 9, 2, 3]) (sch := [(2, [.N 0, .N 1, .N 2])]) (by kernel_rfl)
theorem e123_ok : Ent Go.Proofs.Tryz.prog 123 e123 := ent_of_fact (np := 2) (ks := [0, 1, 11, 4, 3, 5]) (sch := [(3, [.N 0, .N 1, .N 2, .N 3, .N 4, .N 5, .N 6, .N 7, .N 8, .N 9, .N 10, .N 11, .N 12]), (4, [.N 0, .N 1, .N 2, .N 3, .N 4, .N 5, .N 6, .N 7, .N 8, .N 9, .N 10, .N 11, .N 12, .N 13, .N 14, .N 15, .N 16, .N 17, .N 18, .N 19])]) (by kernel_rfl)
theorem e138_ok : Ent Go.Proofs.Tryz.prog 138 e138 := ent_of_fact (np := 1) (ks := [0, 3, 10, 17, 24, 2]) (sch := []) (by kernel_rfl)
theorem e151_ok : Ent Go.Proofs.Tryz.prog 151 e151 := ent_of_fact (np := 2) (ks := [0, 1, 9, 16, 4, 8, 7, 5]) (sch := []) (by kernel_rfl)
theorem e168_ok : Ent Go.Proofs.Tryz.prog 168 e168 := ent_of_fact (np := 1) (ks := [0, 2]) (sch := []) (by kernel_rfl)
theorem e182_ok : Ent Go.Proofs.Tryz.prog 182 e182 := ent_of_fact (np := 2) (ks := [0, 1, 16, 4, 5]) (sch := []) (by kernel_rfl)
theorem e197_ok : Ent Go.Proofs.Tryz.prog 197 e197 := ent_of_fact (np := 0) (ks := [0]) (sch := []) (by kernel_rfl)
theorem e211_ok : Ent Go.Proofs.Tryz.prog 211 e211 := ent_of_fact (np := 1) (ks := [0, 2, 1]) (sch := []) (by kernel_rfl)
theorem e225_ok : Ent Go.Proofs.Tryz.prog 225 e225 := ent_of_fact (np := 3) (ks := [0, 1, 2, 19, 24, 34, 58, 6, 4, 3, 8, 7]) (sch := [(9, [.N 0, .N 1, .N 2, .N 3, .E 4 [] [1], .N 5, .N 6, .N 7, .E 8 [] []])]) (by kernel_rfl)
theorem e242_ok : Ent Go.Proofs.Tryz.prog 242 e242 := ent_of_fact (np := 1) (ks := [0, 2, 1]) (sch := []) (by kernel_rfl)
theorem e255_ok : Ent Go.Proofs.Tryz.prog 255 e255 := ent_of_fact (np := 1) (ks := [0, 4, 2]) (sch := []) (by kernel_rfl)
theorem e275_ok : Ent Go.Proofs.Tryz.prog 275 e275 := ent_of_fact (np := 3) (ks := [0, 1, 2, 19, 25, 6, 7, 18, 17, 16, 8, 9]) (sch := []) (by kernel_rfl)
theorem e324_ok : Ent Go.Proofs.Tryz.prog 324 e324 := ent_of_fact (np := 2) (ks := [0, 1, 9, 12, 23, 4, 5, 11, 6]) (sch := [(2, [.N 0, .N 1, .N 2]), (10, [.N 0, .N 1, .N 2])]) (by kernel_rfl)
end Go.Ev

