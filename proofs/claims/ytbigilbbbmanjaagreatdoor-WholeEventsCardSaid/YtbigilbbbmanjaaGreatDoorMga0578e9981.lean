/-
  Parts of one proof, one behind the other.
-/
import Derived.Test.YtbigilbbbmanjaaGreatDoorMgbf9aad01db
import Derived.Test.YtbigilbbbmanjaaGreatDoorMg892d52ebca
import Derived.Test.YtbigilbbbmanjaaGreatDoorProg
/-
  The evaluator of closed calls: a part.
-/
set_option linter.unusedVariables false
set_option linter.unusedSimpArgs false
set_option maxRecDepth 100000
namespace Go.Ev
theorem e18_ok : Ent Go.Proofs.Tryz.prog 18 e18 := ent_of_fact (np := 2) (ks := [0, 1, 14, 21, 4, 13, 12, 11, 7, 5, 6]) (sch := []) (by kernel_rfl)
theorem e36_ok : Ent Go.Proofs.Tryz.prog 36 e36 := ent_of_fact (np := 2) (ks := [0, 1, 12, 20, 24, 30, 4, 5, 19, 18, 9, 6, 8, 7]) (sch := []) (by kernel_rfl)
theorem e60_ok : Ent Go.Proofs.Tryz.prog 60 e60 := ent_of_fact (np := 4) (ks := [0, 1, 2, 3, 17, 28, 41, 8, 9, 11, 10]) (sch := [(2, [.N 0, .N 1, .E 2 [] [1], .N 3])]) (by kernel_rfl)
theorem e75_ok : Ent Go.Proofs.Tryz.prog 75 e75 := ent_of_fact (np := 1) (ks := [0, 30, 44, 77, 98, 110, 128, 2, 29, 28, 27, 3, 5, 43, 42, 41, 4, 7, 9, 8, 97, 96, 95, 10, 11, 12, 109, 108, 107, 14, 127, 126, 15]) (sch := [(10, [.N 0, .N 1, .N 2, .N 3, .N 4, .N 5, .N 6, .N 7, .N 8, .N 9, .N 10]), (11, [.N 0, .N 1, .N 2, .N 3, .N 4, .N 6, .N 7, .N 8, .E 5 [] [1, 7], .N 9, .N 10, .E 11 [] []]), (24, [.N 0, .N 1, .N 2, .N 3, .N 4, .N 5, .N 6, .E 7 [] []])]) (by kernel_rfl)
theorem e89_ok : Ent Go.Proofs.Tryz.prog 89 e89 := ent_of_fact (np := 1) (ks := [0, 2, 3, 1]) (sch := [(1, [.N 0, .N 1, .N 3, .N 4, .E 2 [] [4], .E 5 [] [], .N 6, .N 7])]) (by kernel_rfl)
theorem e103_ok : Ent Go.Proofs.Tryz.prog 103 e103 := ent_of_fact (np := 1) (ks := [0, 4, 2]) (sch := []) (by kernel_rfl)
theorem e119_ok : Ent Go.Proofs.Tryz.prog 119 e119 := ent_of_fact (np := 1) (ks := [0, 4, 2]) (sch := []) (by kernel_rfl)
theorem e133_ok : Ent Go.Proofs.Tryz.prog 133 e133 := ent_of_fact (np := 4) (ks := [0, 1, 2, 3, 30, 8, 9, 10, 11, 12, 5]) (sch := [(2, [.N 0, .N 1, .N 2, .N 3, .N 4, .N 5, .N 6, .N 7, .N 8, .N 9, .B 10, .E 11 [10] []]), (5, [.N 0, .N 1, .N 2, .N 3, .N 4, .N 5, .N 6, .N 7, .N 8, .N 9]), (6, [.N 0, .N 1, .N 2, .N 3, .N 4, .N 5, .N 6, .N 7, .N 8, .N 9, .N 10, .N 11, .N 12])]) (by kernel_rfl)
theorem e147_ok : Ent Go.Proofs.Tryz.prog 147 e147 := ent_of_fact (np := 2) (ks := [0, 1, 4, 5]) (sch := []) (by kernel_rfl)
theorem e162_ok : Ent Go.Proofs.Tryz.prog 162 e162 := ent_of_fact (np := 3) (ks := [0, 1, 2]) (sch := [(0, [.N 0, .N 1, .N 2, .N 3, .N 4, .N 5, .N 6, .N 7, .N 8, .E 9 [] []])]) (by kernel_rfl)
theorem e176_ok : Ent Go.Proofs.Tryz.prog 176 e176 := ent_of_fact (np := 5) (ks := [0, 1, 2, 3, 4, 27, 49, 57, 91, 10, 11, 9, 12, 7, 13, 15, 14, 17, 16]) (sch := [(3, [.N 0, .N 1, .N 2, .N 3, .N 4, .N 5, .N 6, .N 7, .N 8, .N 9]), (7, [.N 0, .N 1, .E 2 [] [1], .E 3 [] []]), (10, [.N 0, .N 1, .N 2, .N 3, .N 8, .E 4 [] [1], .N 5, .N 6, .N 7, .N 9, .E 10 [] []]), (12, [.N 0, .N 1, .E 2 [] [1], .E 3 [] []]), (15, [.N 0, .N 1, .N 2, .N 4, .E 3 [] [4], .E 5 [] [4], .E 6 [] []]), (18, [.N 0, .N 1, .E 2 [] [1], .E 3 [] []])]) (by kernel_rfl)
theorem e191_ok : Ent Go.Proofs.Tryz.prog 191 e191 := ent_of_fact (np := 5) (ks := [0, 1, 2, 3, 4, 39, 56, 12, 11, 13, 10]) (sch := [(4, [.N 0, .N 1, .N 3, .N 4, .N 5, .E 2 [] [4], .N 6, .N 7]), (6, [.N 0, .N 1, .N 2, .N 3, .N 4, .N 5, .N 6, .N 7, .N 8, .N 9, .B 10, .E 11 [10] [], .N 12, .N 13, .E 14 [] []])]) (by kernel_rfl)
theorem e207_ok : Ent Go.Proofs.Tryz.prog 207 e207 := ent_of_fact (np := 4) (ks := [0, 1, 2, 3, 15, 7, 9, 8]) (sch := []) (by kernel_rfl)
theorem e221_ok : Ent Go.Proofs.Tryz.prog 221 e221 := ent_of_fact (np := 4) (ks := [0, 1, 2, 3, 21, 8, 9, 11, 10]) (sch := []) (by kernel_rfl)
theorem e238_ok : Ent Go.Proofs.Tryz.prog 238 e238 := ent_of_fact (np := 1) (ks := [0, 18, 45, 48, 62, 80, 83, 101, 137, 2, 1, 17, 16, 15, 5, 3, 6, 4, 61, 60, 59, 9, 10, 8, 7, 100, 99, 11, 13, 12]) (sch := []) (by kernel_rfl)
theorem e251_ok : Ent Go.Proofs.Tryz.prog 251 e251 := ent_of_fact (np := 1) (ks := [0, 11, 2, 4, 3]) (sch := []) (by kernel_rfl)
theorem e271_ok : Ent Go.Proofs.Tryz.prog 271 e271 := ent_of_fact (np := 2) (ks := [0, 1, 4, 5, 6, 8, 7, 10, 11, 12, 9, 13]) (sch := []) (by kernel_rfl)
theorem e301_ok : Ent Go.Proofs.Tryz.prog 301 e301 := ent_of_fact (np := 2) (ks := [0, 1, 9, 16, 4, 8, 7, 5]) (sch := []) (by kernel_rfl)
end Go.Ev

