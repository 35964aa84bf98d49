/-
  Parts of one proof, one behind the other.
-/
import Derived.Test.YtbigilbbbmanjaaGreatDoorMgbf9aad01db
import Derived.Test.YtbigilbbbmanjaaGreatDoorMg892d52ebca
import Derived.Test.YtbigilbbbmanjaaGreatDoorProg
/-
  The evaluator of closed calls: a part.
-/
set_option linter.unusedVariables false
set_option linter.unusedSimpArgs false
set_option maxRecDepth 100000
namespace Go.Ev
theorem e23_ok : Ent Go.Proofs.Tryz.prog 23 e23 := ent_of_fact (np := 1) (ks := [0, 12, 2, 3, 5, 4]) (sch := []) (by kernel_rfl)
theorem e40_ok : Ent Go.Proofs.Tryz.prog 40 e40 := ent_of_fact (np := 2) (ks := [0, 1, 19, 83, 100, 105, 34, 41, 69, 4, 6, 7, 5, 8, 11, 12, 9]) (sch := [(24, [.N 0, .N 1, .N 2, .N 3, .N 4, .N 5, .N 6, .E 7 [] [1, 3], .N 8, .B 9, .E 10 [9] [], .N 11, .E 12 [] []]), (13, [.N 0, .N 1, .N 2, .N 3, .N 4, .N 5, .E 6 [] [1], .N 7, .B 8, .E 9 [8] [], .N 10, .E 11 [] []])]) (by kernel_rfl)
theorem e64_ok : Ent Go.Proofs.Tryz.prog 64 e64 := ent_of_fact (np := 2) (ks := [0, 1, 15, 4]) (sch := []) (by kernel_rfl)
theorem e80_ok : Ent Go.Proofs.Tryz.prog 80 e80 := ent_of_fact (np := 1) (ks := [0, 2, 3]) (sch := []) (by kernel_rfl)
theorem e92_ok : Ent Go.Proofs.Tryz.prog 92 e92 := ent_of_fact (np := 4) (ks := [0, 1, 2, 3, 39, 44, 54, 69, 81, 90, 95, 129, 8, 9, 43, 42, 11, 80, 6, 12, 14, 15, 16, 13, 18]) (sch := [(2, [.N 0, .N 1, .N 2, .N 3, .N 4, .N 5, .N 6, .N 7, .N 8, .N 9, .N 10, .N 11, .N 12, .E 13 [] [], .N 14, .N 15, .N 16, .N 17, .N 18, .E 19 [] [], .N 20]), (14, [.N 0, .N 1, .N 2, .N 3, .N 4, .N 5, .N 6, .N 7, .E 8 [] []]), (23, [.N 0, .N 1, .N 2, .N 3, .N 4, .N 5, .E 6 [] [], .N 7, .N 8, .N 9, .N 10, .N 11]), (25, [.N 0, .N 1, .N 2, .N 3, .N 4, .N 5, .E 6 [] [], .N 7])]) (by kernel_rfl)
theorem e109_ok : Ent Go.Proofs.Tryz.prog 109 e109 := ent_of_fact (np := 1) (ks := [0, 2]) (sch := [(1, [.N 0, .N 1, .N 2, .N 3, .N 4, .N 5, .N 6, .N 8, .N 9, .N 10, .N 11, .N 13, .N 14, .N 15, .N 16, .E 7 [] [11, 16], .E 12 [] [16], .E 17 [] [], .N 18, .N 19, .N 20, .E 21 [] [], .N 22, .N 23, .N 24, .E 25 [] [], .N 26, .N 27, .N 28, .E 29 [] []])]) (by kernel_rfl)
theorem e122_ok : Ent Go.Proofs.Tryz.prog 122 e122 := ent_of_fact (np := 1) (ks := [0, 27, 51, 56, 70, 119, 127, 132, 180, 193, 230, 2, 26, 25, 24, 3, 5, 50, 49, 48, 8, 7, 11, 10, 9, 6, 4, 118, 117, 116, 13, 126, 125, 124, 15, 12, 17, 16, 179, 178, 177, 18, 20]) (sch := [(14, [.N 0, .N 1, .N 3, .N 4, .E 2 [] [4], .E 5 [] [], .N 6]), (17, [.N 0, .N 1, .N 2, .N 3, .N 4, .N 5, .N 6, .B 7, .N 9, .N 10, .N 11, .N 12, .N 13, .N 14, .N 15, .B 16, .E 8 [7] [12], .E 17 [16] [], .N 18, .N 19, .E 20 [] [], .N 21, .N 22, .E 23 [] []]), (29, [.N 0, .N 1, .N 2, .N 3, .N 4, .N 5, .N 6, .N 7, .N 8, .N 9, .N 10, .N 11, .N 12, .N 13, .N 14, .N 15]), (30, [.N 0, .N 1, .N 2, .N 3, .N 4, .N 5, .N 6, .N 7, .N 8, .N 9, .N 10, .N 11, .E 12 [] [5, 7, 9], .N 13, .N 14, .N 15, .N 16, .E 17 [] [], .N 18, .N 19, .E 20 [] []]), (42, [.N 0, .N 1, .N 2, .N 3, .N 4, .N 5, .N 6, .N 7, .N 8, .E 9 [] [], .N 10, .N 11, .E 12 [] []]), (43, [.N 0, .N 1, .N 2, .N 3, .N 4, .N 5, .N 6, .N 7, .N 8, .N 9, .N 10, .N 11])]) (by kernel_rfl)
theorem e137_ok : Ent Go.Proofs.Tryz.prog 137 e137 := ent_of_fact (np := 1) (ks := [0, 7, 16, 21, 24, 26, 29, 2, 3, 4, 5, 6]) (sch := []) (by kernel_rfl)
theorem e150_ok : Ent Go.Proofs.Tryz.prog 150 e150 := ent_of_fact (np := 3) (ks := [0, 1, 2, 13, 6, 7, 4]) (sch := [(2, [.N 0, .N 1, .N 2]), (3, [.N 0, .N 2, .N 3, .B 4, .N 5, .E 1 [] [2], .N 6, .B 7, .N 8, .N 9, .F [4, 7]])]) (by kernel_rfl)
theorem e167_ok : Ent Go.Proofs.Tryz.prog 167 e167 := ent_of_fact (np := 2) (ks := [0, 1, 10, 14, 24, 4, 13, 12, 5]) (sch := [(6, [.N 0, .N 1, .N 2, .N 3, .N 4, .N 5, .N 6, .N 7, .N 8])]) (by kernel_rfl)
theorem e181_ok : Ent Go.Proofs.Tryz.prog 181 e181 := ent_of_fact (np := 5) (ks := [0, 1, 2, 3, 4, 19, 29, 33, 41, 44, 47, 57, 64, 73, 81, 10, 11, 5, 13, 7]) (sch := []) (by kernel_rfl)
theorem e196_ok : Ent Go.Proofs.Tryz.prog 196 e196 := ent_of_fact (np := 3) (ks := [0, 1, 2, 18, 6, 7]) (sch := []) (by kernel_rfl)
theorem e210_ok : Ent Go.Proofs.Tryz.prog 210 e210 := ent_of_fact (np := 2) (ks := [0, 1, 9, 16, 4, 8, 7, 5]) (sch := []) (by kernel_rfl)
theorem e224_ok : Ent Go.Proofs.Tryz.prog 224 e224 := ent_of_fact (np := 2) (ks := [0, 1, 24, 27, 35, 4, 5, 2, 8, 6, 26, 3]) (sch := []) (by kernel_rfl)
theorem e241_ok : Ent Go.Proofs.Tryz.prog 241 e241 := ent_of_fact (np := 2) (ks := [0, 1, 4]) (sch := []) (by kernel_rfl)
theorem e254_ok : Ent Go.Proofs.Tryz.prog 254 e254 := ent_of_fact (np := 1) (ks := [0, 10, 22, 2, 1, 9, 8, 7, 5, 4, 3]) (sch := []) (by kernel_rfl)
theorem e274_ok : Ent Go.Proofs.Tryz.prog 274 e274 := ent_of_fact (np := 1) (ks := [0, 9, 2, 3]) (sch := []) (by kernel_rfl)
theorem e304_ok : Ent Go.Proofs.Tryz.prog 304 e304 := ent_of_fact (np := 1) (ks := [0, 2]) (sch := []) (by kernel_rfl)
end Go.Ev

