/-
  Parts of one proof, one behind the other.
-/
import Derived.Test.YtbigilbbbmanjaaGreatDoorMgbf9aad01db
import Derived.Test.YtbigilbbbmanjaaGreatDoorMg892d52ebca
import Derived.Test.YtbigilbbbmanjaaGreatDoorProg
/-
  The evaluator of closed calls: a part.
-/
set_option linter.unusedVariables false
set_option linter.unusedSimpArgs false
set_option maxRecDepth 100000
namespace Go.Ev
theorem e17_ok : Ent Go.Proofs.Tryz.prog 17 e17 := ent_of_fact (np := 1) (ks := [0, 2]) (sch := []) (by kernel_rfl)
theorem e35_ok : Ent Go.Proofs.Tryz.prog 35 e35 := ent_of_fact (np := 1) (ks := [0, 2]) (sch := []) (by kernel_rfl)
theorem e58_ok : Ent Go.Proofs.Tryz.prog 58 e58 := ent_of_fact (np := 1) (ks := [0, 2]) (sch := []) (by kernel_rfl)
theorem e74_ok : Ent Go.Proofs.Tryz.prog 74 e74 := ent_of_fact (np := 1) (ks := [0, 9, 17, 22, 2, 3, 4, 5, 6]) (sch := [(2, [.N 0, .N 1, .N 2])]) (by kernel_rfl)
theorem e88_ok : Ent Go.Proofs.Tryz.prog 88 e88 := ent_of_fact (np := 1) (ks := [0, 3, 15, 2, 1]) (sch := []) (by kernel_rfl)
theorem e100_ok : Ent Go.Proofs.Tryz.prog 100 e100 := ent_of_fact (np := 3) (ks := [0, 1, 2, 22, 35, 53, 65, 83, 85, 100, 104, 107, 6, 3, 4, 21, 8, 7, 10, 9, 12, 11]) (sch := [(5, [.N 0, .N 1, .N 2, .N 3, .N 4, .N 5, .N 6, .N 7, .N 8, .N 9, .E 10 [] [], .N 11]), (7, [.N 0, .N 1, .N 2, .N 3, .N 4, .N 5, .N 6, .N 7, .N 8, .N 9, .N 10, .N 11, .E 12 [] [], .N 13, .N 14, .N 15, .N 16, .N 17]), (9, [.N 0, .N 1, .N 2, .N 3, .N 4, .N 5, .N 6, .N 7, .N 8, .N 9, .E 10 [] [], .N 11]), (11, [.N 0, .N 1, .N 2, .N 3, .N 4, .N 5, .N 6, .N 7, .N 8, .N 9, .N 10, .N 11, .B 16, .E 12 [] [], .N 13, .N 14, .N 15, .E 17 [16] [], .N 18]), (16, [.N 0, .N 1, .N 2, .N 3, .N 4, .N 5, .N 6, .N 7, .N 8, .N 9, .N 10, .E 11 [] [], .N 12])]) (by kernel_rfl)
theorem e118_ok : Ent Go.Proofs.Tryz.prog 118 e118 := ent_of_fact (np := 1) (ks := [0, 6, 2, 1, 3, 4]) (sch := []) (by kernel_rfl)
theorem e132_ok : Ent Go.Proofs.Tryz.prog 132 e132 := ent_of_fact (np := 2) (ks := [0, 1, 11, 21, 44, 4, 5, 6, 7]) (sch := []) (by kernel_rfl)
theorem e146_ok : Ent Go.Proofs.Tryz.prog 146 e146 := ent_of_fact (np := 2) (ks := [0, 1, 13, 25, 4, 5, 2, 7, 6, 8]) (sch := []) (by kernel_rfl)
theorem e160_ok : Ent Go.Proofs.Tryz.prog 160 e160 := ent_of_fact (np := 3) (ks := [0, 1, 2]) (sch := [(0, [.N 0, .N 1, .N 2, .N 3, .N 4, .N 5, .E 6 [] []])]) (by kernel_rfl)
theorem e175_ok : Ent Go.Proofs.Tryz.prog 175 e175 := ent_of_fact (np := 2) (ks := [0, 1, 5, 12, 19, 26, 4]) (sch := []) (by kernel_rfl)
theorem e190_ok : Ent Go.Proofs.Tryz.prog 190 e190 := ent_of_fact (np := 2) (ks := [0, 1, 13, 17, 32, 4, 16, 15, 14, 6, 5, 8, 7]) (sch := []) (by kernel_rfl)
theorem e206_ok : Ent Go.Proofs.Tryz.prog 206 e206 := ent_of_fact (np := 2) (ks := [0, 1, 8, 4]) (sch := []) (by kernel_rfl)
theorem e218_ok : Ent Go.Proofs.Tryz.prog 218 e218 := ent_of_fact (np := 3) (ks := [0, 1, 2, 17, 6]) (sch := []) (by kernel_rfl)
theorem e237_ok : Ent Go.Proofs.Tryz.prog 237 e237 := ent_of_fact (np := 3) (ks := [0, 1, 2, 16, 27, 31, 49, 71, 81, 6, 4, 30, 3, 7]) (sch := []) (by kernel_rfl)
theorem e250_ok : Ent Go.Proofs.Tryz.prog 250 e250 := ent_of_fact (np := 2) (ks := [0, 1, 4, 2, 5]) (sch := []) (by kernel_rfl)
theorem e270_ok : Ent Go.Proofs.Tryz.prog 270 e270 := ent_of_fact (np := 2) (ks := [0, 1, 4, 5, 6]) (sch := []) (by kernel_rfl)
theorem e300_ok : Ent Go.Proofs.Tryz.prog 300 e300 := ent_of_fact (np := 2) (ks := [0, 1, 3, 2]) (sch := []) (by kernel_rfl)
end Go.Ev

