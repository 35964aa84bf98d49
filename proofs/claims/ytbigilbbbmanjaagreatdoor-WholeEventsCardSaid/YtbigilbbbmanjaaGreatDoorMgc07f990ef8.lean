/-
  Parts of one proof, one behind the other.
-/
import Derived.Test.YtbigilbbbmanjaaGreatDoorMgbf9aad01db
import Derived.Test.YtbigilbbbmanjaaGreatDoorMg892d52ebca
import Derived.Test.YtbigilbbbmanjaaGreatDoorProg
/-
  The evaluator of closed calls: a part.
-/
set_option linter.unusedVariables false
set_option linter.unusedSimpArgs false
set_option maxRecDepth 100000
namespace Go.Ev
theorem e20_ok : Ent Go.Proofs.Tryz.prog 20 e20 := ent_of_fact (np := 5) (ks := [0, 1, 2, 3, 4, 15, 49, 10, 11, 13, 12]) (sch := [(4, [.N 0, .N 1, .N 2, .N 3, .N 4, .N 5, .N 6, .N 7, .N 8, .N 9, .N 10, .N 11, .N 12, .N 13, .N 14, .N 15, .N 16, .N 17, .N 18, .N 19, .N 20, .N 21, .E 22 [] [20], .N 23, .N 24])]) (by kernel_rfl)
theorem e38_ok : Ent Go.Proofs.Tryz.prog 38 e38 := ent_of_fact (np := 2) (ks := [0, 1, 4, 5, 6]) (sch := []) (by kernel_rfl)
theorem e63_ok : Ent Go.Proofs.Tryz.prog 63 e63 := ent_of_fact (np := 1) (ks := [0, 13, 21, 2, 3, 5, 6, 4]) (sch := []) (by kernel_rfl)
theorem e79_ok : Ent Go.Proofs.Tryz.prog 79 e79 := ent_of_fact (np := 2) (ks := [0, 1, 26, 35, 4, 5, 6, 8]) (sch := []) (by kernel_rfl)
theorem e91_ok : Ent Go.Proofs.Tryz.prog 91 e91 := ent_of_fact (np := 2) (ks := [0, 1, 4, 2, 5]) (sch := []) (by kernel_rfl)
theorem e108_ok : Ent Go.Proofs.Tryz.prog 108 e108 := ent_of_fact (np := 1) (ks := [0, 25, 71, 2, 3, 4]) (sch := [(1, [.N 0, .N 1, .N 2, .N 3, .N 4, .N 5, .N 6, .N 7, .N 8, .N 9, .N 10, .N 11, .N 12, .N 13, .N 14, .N 15, .N 16, .N 17, .N 18, .N 19, .N 20]), (2, [.N 0, .N 1, .N 2, .N 3, .N 4, .N 5, .N 6, .N 7, .N 8, .N 9, .N 10, .E 11 [] []]), (3, [.N 0, .N 1, .N 2, .N 3, .N 4, .N 5, .N 6, .N 7, .N 8, .N 9, .N 10, .E 11 [] []]), (10, [.N 0, .N 1, .N 2, .N 3, .N 4, .N 5, .N 6, .N 7, .N 8, .N 9, .N 10, .N 12, .N 13, .N 14, .N 15, .E 11 [] [15], .E 16 [] [], .E 17 [] [], .N 18, .N 19, .N 20, .N 21, .E 22 [] []])]) (by kernel_rfl)
theorem e121_ok : Ent Go.Proofs.Tryz.prog 121 e121 := ent_of_fact (np := 1) (ks := [0, 32, 39, 47, 58, 69, 92, 100, 119, 133, 141, 158, 182, 2, 31, 30, 29, 4, 5, 3, 46, 45, 44, 7, 9, 6, 91, 90, 89, 11, 99, 98, 97, 13, 15, 10, 132, 131, 130, 17, 140, 139, 138, 19, 16, 21, 20]) (sch := [(12, [.N 0, .N 1, .N 2, .N 3, .N 4, .N 5, .N 6, .N 7, .N 8, .N 9, .B 10, .E 11 [10] [], .N 12]), (15, [.N 0, .N 1, .N 2, .N 3, .N 4, .N 5, .N 6, .N 7, .N 8, .E 9 [] []]), (24, [.N 0, .N 1, .N 2, .N 3, .N 4, .N 5, .N 6, .N 7, .N 8, .N 9, .B 10, .E 11 [10] [], .N 12])]) (by kernel_rfl)
theorem e136_ok : Ent Go.Proofs.Tryz.prog 136 e136 := ent_of_fact (np := 1) (ks := [0, 4, 2]) (sch := []) (by kernel_rfl)
theorem e149_ok : Ent Go.Proofs.Tryz.prog 149 e149 := ent_of_fact (np := 3) (ks := [0, 1, 2, 14, 24, 33, 37, 3, 13, 6, 7, 23, 4, 8, 10, 11, 9]) (sch := []) (by kernel_rfl)
theorem e165_ok : Ent Go.Proofs.Tryz.prog 165 e165 := ent_of_fact (np := 0) (ks := []) (sch := []) (by kernel_rfl)
theorem e178_ok : Ent Go.Proofs.Tryz.prog 178 e178 := ent_of_fact (np := 1) (ks := [0, 31, 2, 3, 4, 5, 6]) (sch := [(2, [.N 1, .N 2, .E 0 [] [2], .E 3 [] [], .N 4])]) (by kernel_rfl)
theorem e193_ok : Ent Go.Proofs.Tryz.prog 193 e193 := ent_of_fact (np := 2) (ks := [0, 1, 35, 43, 50, 55, 60, 72, 115, 4, 2, 5, 6, 7]) (sch := []) (by kernel_rfl)
theorem e209_ok : Ent Go.Proofs.Tryz.prog 209 e209 := ent_of_fact (np := 1) (ks := [0, 2]) (sch := []) (by kernel_rfl)
theorem e223_ok : Ent Go.Proofs.Tryz.prog 223 e223 := ent_of_fact (np := 2) (ks := [0, 1, 4, 5, 6, 7, 8, 9]) (sch := []) (by kernel_rfl)
theorem e240_ok : Ent Go.Proofs.Tryz.prog 240 e240 := ent_of_fact (np := 1) (ks := [0, 2, 1]) (sch := []) (by kernel_rfl)
theorem e253_ok : Ent Go.Proofs.Tryz.prog 253 e253 := ent_of_fact (np := 1) (ks := [0, 2, 1]) (sch := []) (by kernel_rfl)
theorem e273_ok : Ent Go.Proofs.Tryz.prog 273 e273 := ent_of_fact (np := 2) (ks := [0, 1, 36, 4, 2, 5]) (sch := []) (by kernel_rfl)
theorem e303_ok : Ent Go.Proofs.Tryz.prog 303 e303 := ent_of_fact (np := 1) (ks := [0, 8, 28, 2, 3, 4, 5, 6]) (sch := []) (by kernel_rfl)
end Go.Ev

