/-
  Parts of one proof, one behind the other.
-/
import Derived.Test.YtbigilbbbmanjaaGreatDoorMgbf9aad01db
import Derived.Test.YtbigilbbbmanjaaGreatDoorMg892d52ebca
import Derived.Test.YtbigilbbbmanjaaGreatDoorProg
/-
  The evaluator of closed calls: a part.
-/
set_option linter.unusedVariables false
set_option linter.unusedSimpArgs false
set_option maxRecDepth 100000
namespace Go.Ev
theorem e5_ok : Ent Go.Proofs.Tryz.prog 5 e5 := ent_of_fact (np := 2) (ks := [0, 1, 26, 30, 93, 97, 103, 126, 139, 4, 6, 5, 7, 8, 9, 10, 11, 13, 12, 14, 15, 16, 17, 18, 20, 22, 24]) (sch := [(10, [.N 1, .N 4, .N 5, .N 9, .N 11, .E 0 [] [4, 5, 11], .E 2 [] [4, 5, 11], .E 3 [] [4, 5, 11], .E 6 [] [4, 5, 11], .E 7 [] [4, 5, 11], .E 8 [] [4, 5, 11], .E 10 [] [4, 5, 11], .E 12 [] [4, 5, 11], .B 13, .N 14, .F [13]])]) (by kernel_rfl)
theorem e30_ok : Ent Go.Proofs.Tryz.prog 30 e30 := ent_of_fact (np := 1) (ks := [0, 2]) (sch := []) (by kernel_rfl)
theorem e44_ok : Ent Go.Proofs.Tryz.prog 44 e44 := ent_of_fact (np := 2) (ks := [0, 1, 22, 58, 70, 85, 99, 4, 5, 2, 7, 6, 69, 68, 67, 8, 10, 84, 83, 82, 12, 98, 97, 96, 14]) (sch := [(5, [.N 0, .N 1, .N 2])]) (by kernel_rfl)
theorem e67_ok : Ent Go.Proofs.Tryz.prog 67 e67 := ent_of_fact (np := 2) (ks := [0, 1, 10, 4, 5]) (sch := []) (by kernel_rfl)
theorem e83_ok : Ent Go.Proofs.Tryz.prog 83 e83 := ent_of_fact (np := 1) (ks := [0, 11, 2, 4, 3]) (sch := []) (by kernel_rfl)
theorem e95_ok : Ent Go.Proofs.Tryz.prog 95 e95 := ent_of_fact (np := 2) (ks := [0, 1, 4]) (sch := []) (by kernel_rfl)
theorem e112_ok : Ent Go.Proofs.Tryz.prog 112 e112 := ent_of_fact (np := 4) (ks := [0, 1, 2, 3, 9, 13, 17, 21, 8, 4]) (sch := []) (by kernel_rfl)
theorem e126_ok : Ent Go.Proofs.Tryz.prog 126 e126 := ent_of_fact (np := 4) (ks := [0, 1, 2, 3, 39, 62, 72, 111, 8, 9, 71, 70, 10, 11, 13, 14, 16]) (sch := [(1, [.N 0, .N 1, .N 2, .N 3, .N 4, .N 5, .N 6, .N 7, .B 8, .E 9 [8] []]), (3, [.N 0, .N 1, .N 2, .N 3, .N 4, .N 5, .N 6, .N 7, .N 8, .N 9, .B 10, .E 11 [10] [], .N 12, .N 13, .E 14 [] []]), (11, [.N 0, .N 1, .N 2, .N 3, .N 4, .N 5, .N 6, .N 7, .N 8, .N 9, .N 10, .N 11, .B 13, .E 12 [] [], .E 14 [13] []]), (16, [.N 0, .N 1, .N 2, .N 3, .N 4, .N 5, .N 6, .N 7, .N 8, .N 9, .N 10, .B 11, .E 12 [11] [], .N 13, .N 14, .E 15 [] []]), (17, [.N 0, .N 1, .N 2, .N 3, .N 4, .N 5, .N 6, .N 7, .B 8, .E 9 [8] [], .N 10, .N 11, .E 12 [] []]), (18, [.N 0, .N 1, .N 2, .N 3, .N 4, .N 5, .N 6, .N 7, .N 8, .N 9, .N 10, .N 11, .N 12, .N 13, .N 14, .N 15, .N 16, .N 17, .N 18, .N 19, .N 20, .N 21, .N 22, .N 23, .N 24, .E 25 [] []])]) (by kernel_rfl)
theorem e140_ok : Ent Go.Proofs.Tryz.prog 140 e140 := ent_of_fact (np := 1) (ks := [0, 22, 31, 47, 67, 104, 125, 135, 2, 3, 4, 1, 6, 5, 9, 46, 45, 44, 10, 11, 7, 12, 103, 102, 13, 124, 123, 14, 15]) (sch := [(5, [.N 0, .N 1, .E 2 [] [1], .N 3, .N 4]), (16, [.N 0, .N 1, .N 2, .N 3, .N 4, .B 5, .N 7, .N 8, .B 9, .E 6 [5] [8], .N 11, .E 10 [9] [], .E 12 [] [], .N 13, .E 14 [] []]), (17, [.N 0, .N 1, .N 2, .B 3, .N 5, .N 6, .N 7, .N 8, .N 9, .N 10, .N 11, .B 12, .E 4 [3] [6, 8, 11], .N 14, .E 13 [12] [], .E 15 [] [], .N 16, .E 17 [] []]), (22, [.N 0, .N 1, .N 2, .N 3, .N 4, .N 5, .N 6, .N 7, .N 8, .N 9, .N 10, .N 11, .N 12, .N 13, .E 14 [] []]), (31, [.N 0, .N 1, .N 2, .N 3, .N 4, .B 5, .E 6 [5] [0], .E 7 [] [], .N 8, .N 9])]) (by kernel_rfl)
theorem e153_ok : Ent Go.Proofs.Tryz.prog 153 e153 := ent_of_fact (np := 1) (ks := [0]) (sch := []) (by kernel_rfl)
theorem e170_ok : Ent Go.Proofs.Tryz.prog 170 e170 := ent_of_fact (np := 2) (ks := [0, 1, 4]) (sch := []) (by kernel_rfl)
theorem e184_ok : Ent Go.Proofs.Tryz.prog 184 e184 := ent_of_fact (np := 2) (ks := [0, 1, 11, 41, 54, 61, 73, 82, 4, 2, 53, 52, 5, 6, 72, 71, 70, 9, 7, 10, 8]) (sch := []) (by kernel_rfl)
theorem e199_ok : Ent Go.Proofs.Tryz.prog 199 e199 := ent_of_fact (np := 1) (ks := [0, 23, 47, 52, 2, 3, 4, 9, 6, 7, 8, 5]) (sch := []) (by kernel_rfl)
theorem e213_ok : Ent Go.Proofs.Tryz.prog 213 e213 := ent_of_fact (np := 1) (ks := [0, 2]) (sch := []) (by kernel_rfl)
theorem e227_ok : Ent Go.Proofs.Tryz.prog 227 e227 := ent_of_fact (np := 2) (ks := [0, 1, 9, 18, 4, 5, 7, 6, 3]) (sch := []) (by kernel_rfl)
theorem e245_ok : Ent Go.Proofs.Tryz.prog 245 e245 := ent_of_fact (np := 2) (ks := [0, 1, 4, 5]) (sch := []) (by kernel_rfl)
theorem e257_ok : Ent Go.Proofs.Tryz.prog 257 e257 := ent_of_fact (np := 1) (ks := [0, 4, 2]) (sch := []) (by kernel_rfl)
theorem e287_ok : Ent Go.Proofs.Tryz.prog 287 e287 := ent_of_fact (np := 3) (ks := [0, 1, 2, 11, 26, 35, 42, 62, 76, 93, 6, 5, 10, 8, 7]) (sch := [(3, [.N 0, .N 1, .N 2, .N 3, .N 4, .N 5, .N 6, .N 7, .E 8 [] [], .N 9, .N 10, .N 11, .N 12, .N 13]), (10, [.N 0, .N 1, .N 2, .N 3, .N 4, .N 5, .N 6, .N 7, .N 8, .N 9, .N 11, .N 12, .N 14, .N 15, .E 10 [] [3, 7, 12, 15], .E 13 [] [3, 7, 15], .E 16 [] [3, 7], .E 17 [] [], .N 18]), (12, [.N 0, .N 1, .N 2, .N 3, .N 4, .N 5, .N 6, .N 7, .N 8, .N 9, .E 10 [] [3, 7], .E 11 [] [], .N 12]), (14, [.N 0, .N 1, .N 2, .N 3, .N 4, .N 5, .N 6, .N 7, .N 8, .N 9, .N 11, .N 12, .N 13, .E 10 [] [3, 7, 12], .E 14 [] [], .N 15]), (16, [.N 0, .N 1, .N 2, .N 3, .N 4, .N 5, .N 6, .N 7, .N 8, .N 10, .N 11, .N 12, .E 9 [] [], .N 13, .E 14 [] []])]) (by kernel_rfl)
theorem e326_ok : Ent Go.Proofs.Tryz.prog 326 e326 := ent_of_fact (np := 3) (ks := [0, 1, 2, 10, 24, 6, 7]) (sch := [(6, [.N 0, .N 1, .N 2, .N 3, .N 4, .N 5, .N 6, .N 7, .N 8, .N 9, .N 10, .N 11, .N 12, .N 13, .E 14 [] []])]) (by kernel_rfl)
end Go.Ev

