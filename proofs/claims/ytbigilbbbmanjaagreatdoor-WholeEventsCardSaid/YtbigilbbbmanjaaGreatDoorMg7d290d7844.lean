/-
  Parts of one proof, one behind the other.
-/
import Derived.Test.YtbigilbbbmanjaaGreatDoorMgbf9aad01db
import Derived.Test.YtbigilbbbmanjaaGreatDoorMg892d52ebca
import Derived.Test.YtbigilbbbmanjaaGreatDoorProg
/-
  The evaluator of closed calls: a part.
-/
set_option linter.unusedVariables false
set_option linter.unusedSimpArgs false
set_option maxRecDepth 100000
namespace Go.Ev
theorem e10_ok : Ent Go.Proofs.Tryz.prog 10 e10 := ent_of_fact (np := 0) (ks := [0, 2, 1]) (sch := []) (by kernel_rfl)
theorem e31_ok : Ent Go.Proofs.Tryz.prog 31 e31 := ent_of_fact (np := 3) (ks := [0, 1, 2, 6]) (sch := []) (by kernel_rfl)
theorem e45_ok : Ent Go.Proofs.Tryz.prog 45 e45 := ent_of_fact (np := 1) (ks := [0, 21, 34, 42, 58, 2, 3, 6, 5, 4, 7, 9]) (sch := [(10, [.N 0, .N 1, .N 2, .N 3, .N 4, .N 5])]) (by kernel_rfl)
theorem e68_ok : Ent Go.Proofs.Tryz.prog 68 e68 := ent_of_fact (np := 1) (ks := [0, 2]) (sch := []) (by kernel_rfl)
theorem e84_ok : Ent Go.Proofs.Tryz.prog 84 e84 := ent_of_fact (np := 2) (ks := [0, 1, 12, 24, 4, 5]) (sch := []) (by kernel_rfl)
theorem e96_ok : Ent Go.Proofs.Tryz.prog 96 e96 := ent_of_fact (np := 1) (ks := [0, 16, 2, 3, 4, 5]) (sch := [(4, [.N 0, .N 1, .N 2, .N 3, .N 4, .N 5, .N 6, .N 7])]) (by kernel_rfl)
theorem e114_ok : Ent Go.Proofs.Tryz.prog 114 e114 := ent_of_fact (np := 3) (ks := [0, 1, 2, 24, 6, 7, 8]) (sch := []) (by kernel_rfl)
theorem e127_ok : Ent Go.Proofs.Tryz.prog 127 e127 := ent_of_fact (np := 1) (ks := [0, 11, 16, 26, 37, 64, 70, 80, 88, 2, 3, 4, 5, 6, 7, 8]) (sch := [(13, [.N 0, .N 1, .N 2, .N 3, .N 4, .N 5, .N 6, .N 7, .N 8, .N 9, .N 10, .N 11, .N 12, .E 13 [] [], .N 14, .N 15, .N 16])]) (by kernel_rfl)
theorem e142_ok : Ent Go.Proofs.Tryz.prog 142 e142 := ent_of_fact (np := 1) (ks := [0, 2]) (sch := []) (by kernel_rfl)
theorem e155_ok : Ent Go.Proofs.Tryz.prog 155 e155 := ent_of_fact (np := 2) (ks := [0, 1, 9, 40, 3, 4, 8]) (sch := [(4, [.N 0, .N 1, .N 2, .N 3, .N 4, .N 5, .N 6, .N 7, .N 8, .N 9, .N 10, .N 11, .N 12, .N 13, .N 14, .N 15, .N 16, .E 17 [] []]), (5, [.N 0, .N 1, .N 2, .N 3, .N 4, .N 5, .N 6, .N 7, .N 8, .N 9, .N 10, .E 11 [] []]), (8, [.N 0, .N 1, .N 2, .N 3, .N 4, .N 5, .N 6, .N 7, .N 8, .N 9, .N 10, .E 11 [] []]), (9, [.N 0, .N 1, .N 2, .N 3, .N 4, .N 5, .N 6, .N 7, .N 8, .N 9, .N 10, .N 11, .N 12, .N 13, .N 14, .N 15, .N 16, .E 17 [] [], .N 18, .N 19, .N 20, .N 21, .N 22, .E 23 [] [], .N 24, .N 25, .E 26 [] []])]) (by kernel_rfl)
theorem e171_ok : Ent Go.Proofs.Tryz.prog 171 e171 := ent_of_fact (np := 1) (ks := [0, 2]) (sch := []) (by kernel_rfl)
theorem e185_ok : Ent Go.Proofs.Tryz.prog 185 e185 := ent_of_fact (np := 1) (ks := [0, 2, 4]) (sch := []) (by kernel_rfl)
theorem e200_ok : Ent Go.Proofs.Tryz.prog 200 e200 := ent_of_fact (np := 2) (ks := [0, 1, 12, 16, 33, 4, 7, 5, 6]) (sch := []) (by kernel_rfl)
theorem e214_ok : Ent Go.Proofs.Tryz.prog 214 e214 := ent_of_fact (np := 2) (ks := [0, 1, 9, 18, 20, 4, 6, 5]) (sch := [(7, [.N 0, .N 1, .N 2, .N 3, .N 4, .N 5, .E 6 [] []]), (8, [.N 0, .N 1, .N 2, .N 3, .N 4, .N 5, .E 6 [] []]), (9, [.N 0, .N 1, .N 2, .N 3, .N 4, .N 5, .N 6, .N 7, .N 8, .N 9, .N 10, .N 11, .N 12, .N 13, .N 14, .N 15, .N 16, .E 17 [] []])]) (by kernel_rfl)
theorem e228_ok : Ent Go.Proofs.Tryz.prog 228 e228 := ent_of_fact (np := 1) (ks := [0, 6, 10, 16, 2, 9, 8, 7, 4, 3]) (sch := []) (by kernel_rfl)
theorem e246_ok : Ent Go.Proofs.Tryz.prog 246 e246 := ent_of_fact (np := 2) (ks := [0, 1, 16, 24, 49, 50, 71, 86, 107, 110, 4, 5, 2, 23, 7, 9, 8, 11, 6]) (sch := [(12, [.N 0, .N 1, .N 2, .N 3, .N 4, .N 5, .N 6, .B 12, .E 7 [] [1, 4], .E 8 [] [], .N 9, .N 10, .N 11, .E 13 [12] [], .N 14])]) (by kernel_rfl)
theorem e262_ok : Ent Go.Proofs.Tryz.prog 262 e262 := ent_of_fact (np := 3) (ks := [0, 1, 2, 7, 13, 6]) (sch := []) (by kernel_rfl)
theorem e290_ok : Ent Go.Proofs.Tryz.prog 290 e290 := ent_of_fact (np := 2) (ks := [0, 1]) (sch := []) (by kernel_rfl)
theorem e328_ok : Ent Go.Proofs.Tryz.prog 328 e328 := ent_of_fact (np := 2) (ks := [0, 1, 10, 12, 31, 4, 11, 6, 7, 5]) (sch := []) (by kernel_rfl)
end Go.Ev

