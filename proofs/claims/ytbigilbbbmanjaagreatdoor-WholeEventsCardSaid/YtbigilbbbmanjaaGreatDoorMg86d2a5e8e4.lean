/-
  Parts of one proof, one behind the other.
-/
import Derived.Test.YtbigilbbbmanjaaGreatDoorMgbf9aad01db
import Derived.Test.YtbigilbbbmanjaaGreatDoorMg892d52ebca
import Derived.Test.YtbigilbbbmanjaaGreatDoorProg
/-
  The evaluator of closed calls: a part.
-/
set_option linter.unusedVariables false
set_option linter.unusedSimpArgs false
set_option maxRecDepth 100000
namespace Go.Ev
theorem e29_ok : Ent Go.Proofs.Tryz.prog 29 e29 := ent_of_fact (np := 2) (ks := [0, 1, 11, 19, 27, 4, 5]) (sch := []) (by kernel_rfl)
theorem e43_ok : Ent Go.Proofs.Tryz.prog 43 e43 := ent_of_fact (np := 3) (ks := [0, 1, 2, 16, 23, 33, 41, 81, 6, 7, 4, 8, 10, 11, 12]) (sch := [(6, [.N 0, .N 1, .N 2]), (8, [.N 0, .N 1, .N 2]), (10, [.N 0, .N 1, .N 2]), (11, [.N 0, .N 1, .N 2, .N 3, .N 4, .N 5, .N 6, .N 8, .N 9, .N 11, .B 12, .N 13, .B 14, .N 15, .B 16, .E 7 [] [3, 8], .E 10 [] [3], .N 17, .B 18, .N 19, .F [12, 14, 16, 18]])]) (by kernel_rfl)
theorem e66_ok : Ent Go.Proofs.Tryz.prog 66 e66 := ent_of_fact (np := 2) (ks := [0, 1, 4, 5]) (sch := [(0, [.N 0, .N 1, .N 2, .N 3, .N 4, .N 5, .N 6, .N 7, .E 8 [] [], .N 9, .N 10, .N 11, .N 12, .N 13]), (1, [.N 0, .N 1, .N 2, .N 3, .N 4, .N 5, .N 6, .N 7, .N 8, .N 9, .N 10, .N 11, .N 12, .N 13, .N 14, .N 15, .N 16, .N 17, .N 18, .N 19, .N 20, .N 21, .N 22, .N 23, .N 24, .N 25, .N 26, .N 27, .E 28 [] [3, 7], .E 29 [] []])]) (by kernel_rfl)
theorem e82_ok : Ent Go.Proofs.Tryz.prog 82 e82 := ent_of_fact (np := 1) (ks := [0, 2]) (sch := []) (by kernel_rfl)
theorem e94_ok : Ent Go.Proofs.Tryz.prog 94 e94 := ent_of_fact (np := 2) (ks := [0, 1, 11, 21, 4, 10, 9, 8, 7, 5]) (sch := []) (by kernel_rfl)
theorem e111_ok : Ent Go.Proofs.Tryz.prog 111 e111 := ent_of_fact (np := 1) (ks := [0, 9, 2, 3]) (sch := [(2, [.N 0, .N 1, .N 2])]) (by kernel_rfl)
theorem e125_ok : Ent Go.Proofs.Tryz.prog 125 e125 := ent_of_fact (np := 2) (ks := [0, 1, 4, 3]) (sch := [(1, [.N 0, .N 1, .N 2, .N 3, .N 4, .N 5, .N 6, .N 7, .N 8, .N 9, .N 10, .N 11, .N 12, .E 13 [] []])]) (by kernel_rfl)
theorem e139_ok : Ent Go.Proofs.Tryz.prog 139 e139 := ent_of_fact (np := 2) (ks := [0, 1, 4]) (sch := []) (by kernel_rfl)
theorem e152_ok : Ent Go.Proofs.Tryz.prog 152 e152 := ent_of_fact (np := 1) (ks := [0, 2]) (sch := [(1, [.N 0, .N 1, .N 2, .N 3, .N 4, .N 5, .N 6, .N 7, .N 8, .N 9, .N 10, .N 11, .E 12 [] [], .N 13])]) (by kernel_rfl)
theorem e169_ok : Ent Go.Proofs.Tryz.prog 169 e169 := ent_of_fact (np := 2) (ks := [0, 1, 10, 26, 37, 4, 5, 6, 7, 8]) (sch := [(9, [.N 0, .N 1, .N 2, .N 3, .N 4, .N 5, .N 6, .E 7 [] [], .N 8, .N 9])]) (by kernel_rfl)
theorem e183_ok : Ent Go.Proofs.Tryz.prog 183 e183 := ent_of_fact (np := 1) (ks := [0, 31, 2, 3, 4, 6, 5]) (sch := []) (by kernel_rfl)
theorem e198_ok : Ent Go.Proofs.Tryz.prog 198 e198 := ent_of_fact (np := 1) (ks := [0, 2]) (sch := []) (by kernel_rfl)
theorem e212_ok : Ent Go.Proofs.Tryz.prog 212 e212 := ent_of_fact (np := 2) (ks := [0, 1, 16, 4, 5]) (sch := []) (by kernel_rfl)
theorem e226_ok : Ent Go.Proofs.Tryz.prog 226 e226 := ent_of_fact (np := 2) (ks := [0, 1, 15, 30, 44, 52, 4, 5, 2, 7, 3, 8]) (sch := [(4, [.N 0, .N 1, .N 2, .N 3, .N 4, .N 5, .N 6, .N 7, .N 8, .N 9, .N 10, .N 11, .E 12 [] [], .N 13]), (8, [.N 0, .N 1, .N 2, .E 3 [] [1], .N 4, .E 5 [] []])]) (by kernel_rfl)
theorem e244_ok : Ent Go.Proofs.Tryz.prog 244 e244 := ent_of_fact (np := 1) (ks := [0, 6, 22, 27, 38, 41, 43, 2, 3, 4, 5]) (sch := []) (by kernel_rfl)
theorem e256_ok : Ent Go.Proofs.Tryz.prog 256 e256 := ent_of_fact (np := 1) (ks := [0, 4, 2]) (sch := []) (by kernel_rfl)
theorem e282_ok : Ent Go.Proofs.Tryz.prog 282 e282 := ent_of_fact (np := 1) (ks := [0, 2]) (sch := []) (by kernel_rfl)
theorem e325_ok : Ent Go.Proofs.Tryz.prog 325 e325 := ent_of_fact (np := 5) (ks := [0, 1, 2, 3, 4, 20, 30, 38, 10, 11, 12]) (sch := []) (by kernel_rfl)
end Go.Ev

