/-
  Parts of one proof, one behind the other.
-/
import Derived.Test.YtbigilbbbmanjaaGreatDoorMgbf9aad01db
import Derived.Test.YtbigilbbbmanjaaGreatDoorMg892d52ebca
import Derived.Test.YtbigilbbbmanjaaGreatDoorProg
/-
  The evaluator of closed calls: a part.
-/
set_option linter.unusedVariables false
set_option linter.unusedSimpArgs false
set_option maxRecDepth 100000
namespace Go.Ev
theorem e12_ok : Ent Go.Proofs.Tryz.prog 12 e12 := ent_of_fact (np := 3) (ks := [0, 1, 2, 16, 24, 6, 8, 9, 7]) (sch := []) (by kernel_rfl)
theorem e32_ok : Ent Go.Proofs.Tryz.prog 32 e32 := ent_of_fact (np := 2) (ks := [0, 1, 4]) (sch := []) (by kernel_rfl)
theorem e46_ok : Ent Go.Proofs.Tryz.prog 46 e46 := ent_of_fact (np := 1) (ks := [0, 2]) (sch := []) (by kernel_rfl)
theorem e70_ok : Ent Go.Proofs.Tryz.prog 70 e70 := ent_of_fact (np := 3) (ks := [0, 1, 2, 15, 26, 6, 7, 9, 8]) (sch := []) (by kernel_rfl)
theorem e85_ok : Ent Go.Proofs.Tryz.prog 85 e85 := ent_of_fact (np := 1) (ks := [0, 43, 63, 2, 3, 1, 4, 5, 7, 8, 6]) (sch := []) (by kernel_rfl)
theorem e97_ok : Ent Go.Proofs.Tryz.prog 97 e97 := ent_of_fact (np := 1) (ks := [0, 9, 25, 27, 36, 57, 63, 68, 2, 1, 3, 5, 50, 4]) (sch := [(4, [.N 0, .N 1, .N 2, .N 3, .N 4, .N 5, .N 6, .N 7, .N 8, .N 9, .N 10, .N 11, .E 12 [] [], .N 13]), (10, [.N 0, .N 1, .N 2, .N 3, .N 4, .N 5, .N 6, .N 7, .B 12, .B 13, .E 8 [] [], .N 9, .N 10, .N 11, .E 14 [12, 13] [], .E 15 [] []])]) (by kernel_rfl)
theorem e115_ok : Ent Go.Proofs.Tryz.prog 115 e115 := ent_of_fact (np := 4) (ks := [0, 1, 2, 3, 24, 33, 38, 43, 46, 52, 8, 9, 6, 11, 12, 10, 32]) (sch := [(3, [.N 0, .N 1, .E 2 [] [1], .E 3 [] []]), (8, [.N 0, .N 1, .E 2 [] [1], .E 3 [] []]), (11, [.N 0, .N 1, .E 2 [] [1], .E 3 [] []]), (15, [.N 0, .N 1, .E 2 [] [1], .E 3 [] []]), (19, [.N 0, .N 1, .E 2 [] [1], .E 3 [] []])]) (by kernel_rfl)
theorem e128_ok : Ent Go.Proofs.Tryz.prog 128 e128 := ent_of_fact (np := 1) (ks := [0, 13, 23, 65, 87, 108, 2, 3, 4, 5, 6, 7, 8, 9]) (sch := [(9, [.N 0, .N 1, .N 2, .N 3, .N 4, .N 5, .N 6, .N 7, .N 8, .N 9, .N 10, .N 11, .N 12]), (11, [.N 0, .N 1, .N 2, .N 3, .N 4, .N 5, .N 6, .N 7, .N 8, .N 9, .N 10, .N 11, .N 12, .N 13, .N 14]), (12, [.N 0, .N 1, .N 2, .N 3, .N 4, .N 5, .N 6, .N 7, .N 8, .N 9, .N 10, .N 11, .N 12]), (16, [.N 0, .N 1, .N 2, .N 3, .N 4, .N 5, .N 6, .N 7, .N 8, .N 9, .N 10, .N 11, .N 12, .N 13, .N 14, .N 15, .N 16])]) (by kernel_rfl)
theorem e143_ok : Ent Go.Proofs.Tryz.prog 143 e143 := ent_of_fact (np := 3) (ks := [0, 1, 2, 28, 36, 43, 50, 71, 76, 91, 95, 99, 122, 6, 7, 27, 10, 8, 42, 41, 40, 12, 9, 70, 69, 68, 13, 14, 15, 90, 89, 88, 17, 19]) (sch := []) (by kernel_rfl)
theorem e157_ok : Ent Go.Proofs.Tryz.prog 157 e157 := ent_of_fact (np := 2) (ks := [0, 1, 23, 44, 47, 53, 58, 59, 62, 63, 70, 4, 3, 22, 6, 5]) (sch := [(1, [.N 0, .N 1, .N 2, .N 3, .N 4, .N 5, .N 6, .N 7, .N 8, .N 9, .N 10, .N 11, .N 12, .N 13, .N 14, .N 15]), (14, [.N 0, .N 1, .N 2, .N 3, .N 4, .N 5, .N 6, .N 7, .N 8, .N 9, .N 10])]) (by kernel_rfl)
theorem e172_ok : Ent Go.Proofs.Tryz.prog 172 e172 := ent_of_fact (np := 3) (ks := [0, 1, 2, 10, 6, 7, 3]) (sch := []) (by kernel_rfl)
theorem e187_ok : Ent Go.Proofs.Tryz.prog 187 e187 := ent_of_fact (np := 2) (ks := [0, 1, 30, 37, 4, 5, 2, 6]) (sch := []) (by kernel_rfl)
theorem e201_ok : Ent Go.Proofs.Tryz.prog 201 e201 := ent_of_fact (np := 1) (ks := [0, 14, 20, 38, 2, 3, 1, 4, 19, 18, 17, 7, 8, 10, 5]) (sch := [(9, [.N 1, .N 2, .E 0 [] [2], .E 3 [] [], .N 4])]) (by kernel_rfl)
theorem e215_ok : Ent Go.Proofs.Tryz.prog 215 e215 := ent_of_fact (np := 4) (ks := [0, 1, 2, 3, 16, 26, 8, 9, 10]) (sch := [(8, [.N 0, .N 1, .N 2, .N 3, .N 4, .N 5, .N 6, .N 7, .N 8, .N 9, .N 10, .N 11, .N 12, .N 13, .N 14, .N 15, .N 16, .N 17, .E 18 [] []])]) (by kernel_rfl)
theorem e230_ok : Ent Go.Proofs.Tryz.prog 230 e230 := ent_of_fact (np := 3) (ks := [0, 1, 2, 13, 25, 33, 38, 49, 66, 76, 82, 89, 101, 105, 6, 5, 12, 8, 7, 10, 9]) (sch := [(6, [.N 0, .N 1, .N 2, .N 3, .N 4, .E 5 [] [], .N 6]), (13, [.N 0, .N 1, .N 2, .N 3, .N 4, .N 5, .N 7, .N 8, .N 9, .N 11, .N 12, .N 13, .E 6 [] [3, 9, 12], .E 10 [] [3, 12], .E 14 [] [], .N 15]), (15, [.N 0, .N 1, .N 2, .N 3, .N 4, .N 5, .E 6 [] [3], .E 7 [] [], .N 8]), (21, [.N 0, .N 1, .N 2, .N 3, .N 4, .N 5, .N 6, .N 7, .N 8, .N 9, .E 10 [] []]), (25, [.N 0, .N 1, .N 2, .N 3, .N 4, .N 5, .N 7, .N 8, .N 9, .N 10, .E 6 [] [3, 10], .E 11 [] [], .N 12])]) (by kernel_rfl)
theorem e247_ok : Ent Go.Proofs.Tryz.prog 247 e247 := ent_of_fact (np := 1) (ks := [0, 12, 29, 36, 47, 50, 68, 90, 104, 106, 2, 3, 1, 4, 6, 5, 49, 7]) (sch := [(11, [.N 0, .N 1, .N 2, .N 3, .N 4, .N 5, .N 6, .N 7, .N 8])]) (by kernel_rfl)
theorem e263_ok : Ent Go.Proofs.Tryz.prog 263 e263 := ent_of_fact (np := 2) (ks := [0, 1, 4, 6, 5]) (sch := []) (by kernel_rfl)
theorem e295_ok : Ent Go.Proofs.Tryz.prog 295 e295 := ent_of_fact (np := 2) (ks := [0, 1, 4, 2, 6, 5]) (sch := [(2, [.N 0, .N 1, .N 3, .N 4, .E 2 [] [4], .E 5 [] [], .N 6, .N 7])]) (by kernel_rfl)
theorem e329_ok : Ent Go.Proofs.Tryz.prog 329 e329 := ent_of_fact (np := 3) (ks := [0, 1, 2, 24, 6]) (sch := []) (by kernel_rfl)
end Go.Ev

