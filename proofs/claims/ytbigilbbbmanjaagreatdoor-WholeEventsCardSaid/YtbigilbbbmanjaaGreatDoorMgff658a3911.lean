/-
  Parts of one proof, one behind the other.
-/
import Derived.Test.YtbigilbbbmanjaaGreatDoorMgbf9aad01db
import Derived.Test.YtbigilbbbmanjaaGreatDoorMg892d52ebca
import Derived.Test.YtbigilbbbmanjaaGreatDoorProg
/-
  The evaluator of closed calls: a part.
-/
set_option linter.unusedVariables false
set_option linter.unusedSimpArgs false
set_option maxRecDepth 100000
namespace Go.Ev
theorem e13_ok : Ent Go.Proofs.Tryz.prog 13 e13 := ent_of_fact (np := 2) (ks := [0, 1, 16, 4, 5]) (sch := []) (by kernel_rfl)
theorem e33_ok : Ent Go.Proofs.Tryz.prog 33 e33 := ent_of_fact (np := 1) (ks := [0, 20, 38, 60, 66, 96, 2, 3, 6, 4, 5, 8, 10, 7, 11, 12, 9]) (sch := [(20, [.N 0, .N 1, .N 2, .N 3, .N 4, .N 5, .N 6, .N 7, .N 8, .E 9 [] []])]) (by kernel_rfl)
theorem e55_ok : Ent Go.Proofs.Tryz.prog 55 e55 := ent_of_fact (np := 1) (ks := [0, 2]) (sch := []) (by kernel_rfl)
theorem e71_ok : Ent Go.Proofs.Tryz.prog 71 e71 := ent_of_fact (np := 1) (ks := [0, 2]) (sch := []) (by kernel_rfl)
theorem e86_ok : Ent Go.Proofs.Tryz.prog 86 e86 := ent_of_fact (np := 1) (ks := [0, 2]) (sch := []) (by kernel_rfl)
theorem e98_ok : Ent Go.Proofs.Tryz.prog 98 e98 := ent_of_fact (np := 2) (ks := [0, 1, 14, 30, 39, 46, 55, 56, 72, 4, 6, 5, 38, 7]) (sch := [(12, [.N 0, .N 1, .N 2, .N 3, .N 4, .N 5, .N 6, .N 7]), (15, [.N 0, .N 1, .N 2, .N 3, .N 4, .N 5, .N 6, .N 7, .N 8, .N 9, .N 10, .N 11, .N 12, .N 13, .N 14])]) (by kernel_rfl)
theorem e116_ok : Ent Go.Proofs.Tryz.prog 116 e116 := ent_of_fact (np := 3) (ks := [0, 1, 2, 12, 62, 67, 101, 5, 7, 6]) (sch := [(3, [.N 0, .N 1, .N 2, .N 3, .N 4, .N 5, .N 6, .N 7, .N 8, .N 9, .N 10, .E 11 [] []]), (9, [.N 0, .N 1, .N 2, .N 3, .N 4, .N 5, .N 6, .N 7, .N 8, .N 9, .N 10, .N 11, .N 12, .N 13, .N 14, .N 15, .N 16, .N 17, .E 18 [] []]), (10, [.N 0, .N 1, .N 2, .N 3, .N 4, .N 5, .N 6, .N 7, .N 8, .N 9, .N 10, .E 11 [] []]), (13, [.N 0, .N 1, .N 2, .N 3, .N 4, .N 5, .N 6, .N 7, .N 8, .N 9, .N 10, .E 11 [] []]), (5, [.N 0, .N 1, .N 2, .N 3, .N 4, .N 5, .N 6, .N 7, .N 8, .N 9, .N 10, .N 11, .N 12, .N 13, .N 14, .N 15, .N 16, .E 17 [] [], .N 18, .N 19, .N 20, .N 21, .N 22, .E 23 [] [], .N 24, .N 25, .E 26 [] []])]) (by kernel_rfl)
theorem e130_ok : Ent Go.Proofs.Tryz.prog 130 e130 := ent_of_fact (np := 1) (ks := [0, 26, 36, 47, 80, 93, 103, 116, 145, 185, 195, 216, 2, 5, 7, 6, 3, 8, 4, 9, 10, 11, 13, 12, 14, 16, 18, 21, 22, 19, 20, 17]) (sch := [(27, [.N 0, .N 1, .N 2, .N 3, .N 4, .N 5, .N 6, .N 7, .N 8]), (29, [.N 0, .N 1, .N 2, .N 3, .N 4, .N 5, .N 6, .N 7, .N 8, .N 9, .N 10, .N 11]), (30, [.N 0, .N 1, .N 2, .N 3, .N 4, .N 5, .N 6, .N 7, .N 8, .N 9, .N 10, .N 11, .N 12, .N 13, .N 14, .N 15, .N 16, .N 17, .N 18, .N 19, .N 20, .N 21, .E 22 [] []])]) (by kernel_rfl)
theorem e144_ok : Ent Go.Proofs.Tryz.prog 144 e144 := ent_of_fact (np := 1) (ks := [0, 10, 25, 2, 3, 5, 4]) (sch := [(2, [.N 0, .N 1, .N 2]), (3, [.N 0, .N 1, .N 2, .N 3, .N 4, .N 5, .N 6, .N 7, .E 8 [] [], .N 9, .N 10, .N 11, .N 12, .N 13])]) (by kernel_rfl)
theorem e158_ok : Ent Go.Proofs.Tryz.prog 158 e158 := ent_of_fact (np := 4) (ks := [0, 1, 2, 3, 22, 32, 39, 54, 8, 9, 11, 10, 12]) (sch := [(7, [.N 1, .N 2, .E 0 [] [2], .E 3 [] [], .N 4]), (8, [.N 0, .N 1, .N 2, .E 3 [] [1], .E 4 [] []]), (12, [.N 0, .N 1, .N 2, .E 3 [] [1], .E 4 [] []])]) (by kernel_rfl)
theorem e173_ok : Ent Go.Proofs.Tryz.prog 173 e173 := ent_of_fact (np := 3) (ks := [0, 1, 2, 7, 21, 6]) (sch := []) (by kernel_rfl)
theorem e188_ok : Ent Go.Proofs.Tryz.prog 188 e188 := ent_of_fact (np := 2) (ks := [0, 1, 6, 4, 5]) (sch := []) (by kernel_rfl)
theorem e202_ok : Ent Go.Proofs.Tryz.prog 202 e202 := ent_of_fact (np := 1) (ks := [0, 2, 1]) (sch := [(1, [.N 0, .N 1, .N 3, .N 4, .N 6, .N 7, .N 9, .N 10, .N 12, .N 13, .N 15, .N 16, .E 2 [] [4, 7, 10, 13, 16], .E 5 [] [7, 10, 13, 16], .E 8 [] [10, 13, 16], .E 11 [] [13, 16], .E 14 [] [16], .E 17 [] [], .N 18, .E 19 [] []])]) (by kernel_rfl)
theorem e216_ok : Ent Go.Proofs.Tryz.prog 216 e216 := ent_of_fact (np := 4) (ks := [0, 1, 2, 3, 6, 7]) (sch := []) (by kernel_rfl)
theorem e235_ok : Ent Go.Proofs.Tryz.prog 235 e235 := ent_of_fact (np := 4) (ks := [0, 1, 2, 3, 11, 20, 28, 42, 55, 65, 8, 4, 10, 5]) (sch := [(5, [.N 0, .N 1, .N 2, .N 4, .E 3 [] [1], .N 5, .E 6 [] []]), (7, [.N 0, .N 1, .N 2, .N 3, .N 4, .N 5, .N 6, .N 7, .N 8, .N 9, .N 10, .E 11 [] []]), (9, [.N 0, .N 1, .N 2, .N 3, .N 4, .N 5, .N 6, .N 7, .N 9, .E 8 [] [1], .N 10, .E 11 [] []])]) (by kernel_rfl)
theorem e248_ok : Ent Go.Proofs.Tryz.prog 248 e248 := ent_of_fact (np := 1) (ks := [0, 10, 57, 72, 2, 4, 1, 5, 3]) (sch := []) (by kernel_rfl)
theorem e264_ok : Ent Go.Proofs.Tryz.prog 264 e264 := ent_of_fact (np := 1) (ks := [0, 2]) (sch := []) (by kernel_rfl)
theorem e298_ok : Ent Go.Proofs.Tryz.prog 298 e298 := ent_of_fact (np := 1) (ks := [0, 2]) (sch := []) (by kernel_rfl)
theorem e368_ok : Ent Go.Proofs.Tryz.prog 368 e368 := ent_of_fact (np := 1) (ks := [0, 2]) (sch := []) (by kernel_rfl)
end Go.Ev

