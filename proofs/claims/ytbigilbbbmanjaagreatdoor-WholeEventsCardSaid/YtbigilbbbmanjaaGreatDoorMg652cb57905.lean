/-
  Parts of one proof, one behind the other.
-/
import Derived.Test.YtbigilbbbmanjaaGreatDoorMgbf9aad01db
import Derived.Test.YtbigilbbbmanjaaGreatDoorMg892d52ebca
import Derived.Test.YtbigilbbbmanjaaGreatDoorProg
/-
  The evaluator of closed calls: a part.
-/
set_option linter.unusedVariables false
set_option linter.unusedSimpArgs false
set_option maxRecDepth 100000
namespace Go.Ev
theorem e19_ok : Ent Go.Proofs.Tryz.prog 19 e19 := ent_of_fact (np := 2) (ks := [0, 1, 16, 4, 5]) (sch := []) (by kernel_rfl)
theorem e37_ok : Ent Go.Proofs.Tryz.prog 37 e37 := ent_of_fact (np := 2) (ks := [0, 1, 10, 4, 5]) (sch := []) (by kernel_rfl)
theorem e61_ok : Ent Go.Proofs.Tryz.prog 61 e61 := ent_of_fact (np := 1) (ks := [0, 10, 2, 4, 3]) (sch := []) (by kernel_rfl)
theorem e78_ok : Ent Go.Proofs.Tryz.prog 78 e78 := ent_of_fact (np := 1) (ks := [0, 27, 34, 40, 52, 68, 101, 120, 155, 175, 209, 217, 243, 266, 273, 2, 3, 4, 6, 5, 9, 7, 10, 12, 11, 13, 14, 8, 15, 16, 17, 19, 20, 21, 22, 18]) (sch := [(3, [.N 0, .N 1, .E 2 [] [1], .E 3 [] []]), (6, [.N 0, .N 1, .E 2 [] [1], .E 3 [] []]), (19, [.N 0, .N 1, .N 2, .N 3, .N 4, .N 5, .N 6, .N 7, .N 8, .N 9, .N 10, .N 11, .N 12, .N 13, .N 14, .N 15, .N 16, .N 17, .N 18, .N 19, .N 20, .N 21, .N 22, .B 23, .N 24, .B 25, .E 26 [23, 25] []]), (23, [.N 0, .N 1, .N 2, .N 3, .N 4, .N 5, .N 6, .E 7 [] [], .N 8, .E 9 [] []]), (29, [.N 0, .N 1, .N 2, .N 3, .N 4, .N 5, .N 6, .N 7, .N 8, .N 9, .N 10, .N 11, .N 12, .N 13, .N 14, .E 15 [] []]), (31, [.N 0, .N 1, .N 2, .N 3, .N 4, .N 5, .N 6, .N 7, .N 8, .B 9, .E 10 [9] [], .N 11, .E 12 [] []]), (41, [.N 0, .N 1, .N 2, .N 3, .N 4, .N 5, .N 6, .N 7, .N 8, .N 9, .N 10, .N 11, .E 12 [] [], .N 13, .N 14, .N 15, .N 16, .N 17]), (52, [.N 0, .N 1, .E 2 [] [1], .E 3 [] []])]) (by kernel_rfl)
theorem e90_ok : Ent Go.Proofs.Tryz.prog 90 e90 := ent_of_fact (np := 1) (ks := [0, 2, 1]) (sch := []) (by kernel_rfl)
theorem e107_ok : Ent Go.Proofs.Tryz.prog 107 e107 := ent_of_fact (np := 4) (ks := [0, 1, 2, 3, 25, 33, 42, 45, 61, 71, 8, 9, 11, 10, 12, 15, 16, 18, 13]) (sch := []) (by kernel_rfl)
theorem e120_ok : Ent Go.Proofs.Tryz.prog 120 e120 := ent_of_fact (np := 3) (ks := [0, 1, 2, 19, 41, 6, 7, 8, 11, 10]) (sch := []) (by kernel_rfl)
theorem e134_ok : Ent Go.Proofs.Tryz.prog 134 e134 := ent_of_fact (np := 2) (ks := [0, 1, 9, 18, 4, 5]) (sch := []) (by kernel_rfl)
theorem e148_ok : Ent Go.Proofs.Tryz.prog 148 e148 := ent_of_fact (np := 3) (ks := [0, 1, 2, 13, 17, 20, 36, 53, 6, 5, 8, 7, 9]) (sch := [(7, [.N 0, .N 1, .N 2, .N 3, .N 4, .N 5, .E 6 [] [], .N 7, .N 8, .N 9, .N 10, .N 11]), (11, [.N 0, .N 1, .N 2, .N 3, .N 4, .N 5, .N 6])]) (by kernel_rfl)
theorem e164_ok : Ent Go.Proofs.Tryz.prog 164 e164 := ent_of_fact (np := 2) (ks := [0, 1]) (sch := [(0, [.N 0, .N 1, .N 2, .N 3, .N 4, .N 5, .N 6, .N 7, .N 8, .N 9, .E 10 [] []])]) (by kernel_rfl)
theorem e177_ok : Ent Go.Proofs.Tryz.prog 177 e177 := ent_of_fact (np := 3) (ks := [0, 1, 2, 28, 38, 7, 6]) (sch := [(3, [.N 0, .N 1, .N 3, .N 4, .N 5, .E 2 [] [], .N 6, .E 7 [] []]), (1, [.N 0, .N 1, .N 2, .N 3, .N 6, .N 7, .N 8, .E 4 [] [], .E 5 [] [], .N 9, .E 10 [] []])]) (by kernel_rfl)
theorem e192_ok : Ent Go.Proofs.Tryz.prog 192 e192 := ent_of_fact (np := 1) (ks := [0, 53, 2, 3, 1, 4, 5, 6, 7]) (sch := [(3, [.N 1, .N 2, .E 0 [] [2], .E 3 [] [], .N 4, .N 5, .N 6, .N 7, .N 8, .E 9 [] [], .N 10, .N 11, .N 12, .N 13, .N 14, .N 15, .E 16 [] [], .N 17, .N 18, .N 19, .N 20, .N 21, .N 22, .E 23 [] [], .N 24, .N 25, .N 26, .N 27, .N 28, .N 29, .N 30, .N 31, .N 33, .N 34, .E 32 [] [34], .E 35 [] [], .N 36, .N 37, .N 38])]) (by kernel_rfl)
theorem e208_ok : Ent Go.Proofs.Tryz.prog 208 e208 := ent_of_fact (np := 2) (ks := [0, 1, 6, 11, 19, 4, 5]) (sch := [(2, [.N 0, .N 1, .N 2]), (4, [.N 0, .N 1, .N 2]), (6, [.N 0, .N 1, .N 2])]) (by kernel_rfl)
theorem e222_ok : Ent Go.Proofs.Tryz.prog 222 e222 := ent_of_fact (np := 2) (ks := [0, 1, 29, 38, 4, 5, 7, 6, 9]) (sch := [(3, [.N 0, .N 2, .N 3, .E 1 [] [3], .E 4 [] []])]) (by kernel_rfl)
theorem e239_ok : Ent Go.Proofs.Tryz.prog 239 e239 := ent_of_fact (np := 2) (ks := [0, 1, 6, 4, 5]) (sch := []) (by kernel_rfl)
theorem e252_ok : Ent Go.Proofs.Tryz.prog 252 e252 := ent_of_fact (np := 3) (ks := [0, 1, 2, 6, 3, 7]) (sch := [(1, [.N 0, .N 1, .N 2, .N 3, .N 4, .N 5, .N 6, .N 7, .N 8, .N 9, .N 10])]) (by kernel_rfl)
theorem e272_ok : Ent Go.Proofs.Tryz.prog 272 e272 := ent_of_fact (np := 1) (ks := [0, 2]) (sch := []) (by kernel_rfl)
theorem e302_ok : Ent Go.Proofs.Tryz.prog 302 e302 := ent_of_fact (np := 2) (ks := [0, 1, 10, 4, 2]) (sch := []) (by kernel_rfl)
end Go.Ev

