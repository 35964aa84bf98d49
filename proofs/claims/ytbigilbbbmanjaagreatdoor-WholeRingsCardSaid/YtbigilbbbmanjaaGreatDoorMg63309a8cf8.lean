/-
  Parts of one proof, one behind the other.
-/
import Derived.Test.YtbigilbbbmanjaaGreatDoorMg715f5b26a1
import Derived.Test.YtbigilbbbmanjaaGreatDoorMg9c841c0d32
import Derived.Test.YtbigilbbbmanjaaGreatDoorProg
/-
  The evaluator of closed calls: a part.
-/
set_option linter.unusedVariables false
set_option linter.unusedSimpArgs false
set_option maxRecDepth 100000
namespace Go.Ev
theorem r20_ok : Ent Go.Proofs.Tryz.prog 20 r20 := ent_of_fact (np := 5) (ks := [0, 1, 2, 3, 4, 15, 49, 10, 11, 13, 12]) (sch := [(4, [.N 0, .N 1, .N 2, .N 3, .N 4, .N 5, .N 6, .N 7, .N 8, .N 9, .N 10, .N 11, .N 12, .N 13, .N 14, .N 15, .N 16, .N 17, .N 18, .N 19, .N 20, .N 21, .E 22 [] [20], .N 23, .N 24])]) (by kernel_rfl)
theorem r37_ok : Ent Go.Proofs.Tryz.prog 37 r37 := ent_of_fact (np := 2) (ks := [0, 1, 10, 4, 5]) (sch := []) (by kernel_rfl)
theorem r56_ok : Ent Go.Proofs.Tryz.prog 56 r56 := ent_of_fact (np := 1) (ks := [0, 2]) (sch := []) (by kernel_rfl)
theorem r72_ok : Ent Go.Proofs.Tryz.prog 72 r72 := ent_of_fact (np := 1) (ks := [0, 2]) (sch := []) (by kernel_rfl)
theorem r87_ok : Ent Go.Proofs.Tryz.prog 87 r87 := ent_of_fact (np := 1) (ks := [0, 15, 26, 2, 3, 4, 14, 13, 12, 8, 11, 7, 5, 9, 6, 10]) (sch := []) (by kernel_rfl)
theorem r99_ok : Ent Go.Proofs.Tryz.prog 99 r99 := ent_of_fact (np := 2) (ks := [0, 1, 4, 5, 6, 7]) (sch := [(2, [.N 0, .N 1, .N 2, .N 3, .E 4 [] [2], .N 5])]) (by kernel_rfl)
theorem r116_ok : Ent Go.Proofs.Tryz.prog 116 r116 := ent_of_fact (np := 3) (ks := [0, 1, 2, 12, 62, 67, 101, 5, 7, 6]) (sch := [(3, [.N 0, .N 1, .N 2, .N 3, .N 4, .N 5, .N 6, .N 7, .N 8, .N 9, .N 10, .E 11 [] []]), (9, [.N 0, .N 1, .N 2, .N 3, .N 4, .N 5, .N 6, .N 7, .N 8, .N 9, .N 10, .N 11, .N 12, .N 13, .N 14, .N 15, .N 16, .N 17, .E 18 [] []]), (10, [.N 0, .N 1, .N 2, .N 3, .N 4, .N 5, .N 6, .N 7, .N 8, .N 9, .N 10, .E 11 [] []]), (13, [.N 0, .N 1, .N 2, .N 3, .N 4, .N 5, .N 6, .N 7, .N 8, .N 9, .N 10, .E 11 [] []]), (5, [.N 0, .N 1, .N 2, .N 3, .N 4, .N 5, .N 6, .N 7, .N 8, .N 9, .N 10, .N 11, .N 12, .N 13, .N 14, .N 15, .N 16, .E 17 [] [], .N 18, .N 19, .N 20, .N 21, .N 22, .E 23 [] [], .N 24, .N 25, .E 26 [] []])]) (by kernel_rfl)
theorem r130_ok : Ent Go.Proofs.Tryz.prog 130 r130 := ent_of_fact (np := 1) (ks := [0, 26, 36, 47, 80, 93, 103, 116, 145, 185, 195, 216, 2, 5, 7, 6, 3, 8, 4, 9, 10, 11, 13, 12, 14, 16, 18, 21, 22, 19, 20, 17]) (sch := [(27, [.N 0, .N 1, .N 2, .N 3, .N 4, .N 5, .N 6, .N 7, .N 8]), (29, [.N 0, .N 1, .N 2, .N 3, .N 4, .N 5, .N 6, .N 7, .N 8, .N 9, .N 10, .N 11]), (30, [.N 0, .N 1, .N 2, .N 3, .N 4, .N 5, .N 6, .N 7, .N 8, .N 9, .N 10, .N 11, .N 12, .N 13, .N 14, .N 15, .N 16, .N 17, .N 18, .N 19, .N 20, .N 21, .E 22 [] []])]) (by kernel_rfl)
theorem r144_ok : Ent Go.Proofs.Tryz.prog 144 r144 := ent_of_fact (np := 1) (ks := [0, 10, 25, 2, 3, 5, 4]) (sch := [(2, [.N 0, .N 1, .N 2]), (3, [.N 0, .N 1, .N 2, .N 3, .N 4, .N 5, .N 6, .N 7, .E 8 [] [], .N 9, .N 10, .N 11, .N 12, .N 13])]) (by kernel_rfl)
theorem r158_ok : Ent Go.Proofs.Tryz.prog 158 r158 := ent_of_fact (np := 4) (ks := [0, 1, 2, 3, 22, 32, 39, 54, 8, 9, 11, 10, 12]) (sch := [(7, [.N 1, .N 2, .E 0 [] [2], .E 3 [] [], .N 4]), (8, [.N 0, .N 1, .N 2, .E 3 [] [1], .E 4 [] []]), (12, [.N 0, .N 1, .N 2, .E 3 [] [1], .E 4 [] []])]) (by kernel_rfl)
theorem r173_ok : Ent Go.Proofs.Tryz.prog 173 r173 := ent_of_fact (np := 3) (ks := [0, 1, 2, 7, 21, 6]) (sch := []) (by kernel_rfl)
theorem r188_ok : Ent Go.Proofs.Tryz.prog 188 r188 := ent_of_fact (np := 2) (ks := [0, 1, 6, 4, 5]) (sch := []) (by kernel_rfl)
theorem r202_ok : Ent Go.Proofs.Tryz.prog 202 r202 := ent_of_fact (np := 1) (ks := [0, 2, 1]) (sch := [(1, [.N 0, .N 1, .N 3, .N 4, .N 6, .N 7, .N 9, .N 10, .N 12, .N 13, .N 15, .N 16, .E 2 [] [4, 7, 10, 13, 16], .E 5 [] [7, 10, 13, 16], .E 8 [] [10, 13, 16], .E 11 [] [13, 16], .E 14 [] [16], .E 17 [] [], .N 18, .E 19 [] []])]) (by kernel_rfl)
theorem r216_ok : Ent Go.Proofs.Tryz.prog 216 r216 := ent_of_fact (np := 4) (ks := [0, 1, 2, 3, 6, 7]) (sch := []) (by kernel_rfl)
theorem r235_ok : Ent Go.Proofs.Tryz.prog 235 r235 := ent_of_fact (np := 4) (ks := [0, 1, 2, 3, 11, 20, 28, 42, 55, 65, 8, 4, 10, 5]) (sch := [(5, [.N 0, .N 1, .N 2, .N 4, .E 3 [] [1], .N 5, .E 6 [] []]), (7, [.N 0, .N 1, .N 2, .N 3, .N 4, .N 5, .N 6, .N 7, .N 8, .N 9, .N 10, .E 11 [] []]), (9, [.N 0, .N 1, .N 2, .N 3, .N 4, .N 5, .N 6, .N 7, .N 9, .E 8 [] [1], .N 10, .E 11 [] []])]) (by kernel_rfl)
theorem r248_ok : Ent Go.Proofs.Tryz.prog 248 r248 := ent_of_fact (np := 1) (ks := [0, 10, 57, 72, 2, 4, 1, 5, 3]) (sch := []) (by kernel_rfl)
theorem r264_ok : Ent Go.Proofs.Tryz.prog 264 r264 := ent_of_fact (np := 1) (ks := [0, 2]) (sch := []) (by kernel_rfl)
theorem r285_ok : Ent Go.Proofs.Tryz.prog 285 r285 := ent_of_fact (np := 3) (ks := [0, 1, 2, 23, 41, 46, 6, 8, 7, 9, 12, 45, 44, 43, 14, 11]) (sch := []) (by kernel_rfl)
theorem r324_ok : Ent Go.Proofs.Tryz.prog 324 r324 := ent_of_fact (np := 2) (ks := [0, 1, 9, 12, 23, 4, 5, 11, 6]) (sch := [(2, [.N 0, .N 1, .N 2]), (10, [.N 0, .N 1, .N 2])]) (by kernel_rfl)
end Go.Ev

/-
  The evaluator of closed calls: a part.
-/
set_option linter.unusedVariables false
set_option linter.unusedSimpArgs false
set_option maxRecDepth 100000
namespace Go.Ev
theorem r21_ok : Ent Go.Proofs.Tryz.prog 21 r21 := ent_of_fact (np := 3) (ks := [0, 1, 2, 16, 6, 7, 8, 9, 10, 11]) (sch := [(4, [.N 0, .N 1, .N 2, .N 3, .N 4, .N 5, .N 6, .N 7, .N 9, .B 14, .E 8 [] [3], .E 10 [] [], .N 11, .N 12, .N 13, .E 15 [14] [], .N 16]), (5, [.N 0, .N 1, .N 2, .N 3, .N 4, .E 5 [] [], .N 6])]) (by kernel_rfl)
theorem r38_ok : Ent Go.Proofs.Tryz.prog 38 r38 := ent_of_fact (np := 2) (ks := [0, 1, 4, 5, 6]) (sch := []) (by kernel_rfl)
theorem r58_ok : Ent Go.Proofs.Tryz.prog 58 r58 := ent_of_fact (np := 1) (ks := [0, 2]) (sch := []) (by kernel_rfl)
theorem r74_ok : Ent Go.Proofs.Tryz.prog 74 r74 := ent_of_fact (np := 1) (ks := [0, 9, 17, 22, 2, 3, 4, 5, 6]) (sch := [(2, [.N 0, .N 1, .N 2])]) (by kernel_rfl)
theorem r88_ok : Ent Go.Proofs.Tryz.prog 88 r88 := ent_of_fact (np := 1) (ks := [0, 3, 15, 2, 1]) (sch := []) (by kernel_rfl)
theorem r100_ok : Ent Go.Proofs.Tryz.prog 100 r100 := ent_of_fact (np := 3) (ks := [0, 1, 2, 22, 35, 53, 65, 83, 85, 100, 104, 107, 6, 3, 4, 21, 8, 7, 10, 9, 12, 11]) (sch := [(5, [.N 0, .N 1, .N 2, .N 3, .N 4, .N 5, .N 6, .N 7, .N 8, .N 9, .E 10 [] [], .N 11]), (7, [.N 0, .N 1, .N 2, .N 3, .N 4, .N 5, .N 6, .N 7, .N 8, .N 9, .N 10, .N 11, .E 12 [] [], .N 13, .N 14, .N 15, .N 16, .N 17]), (9, [.N 0, .N 1, .N 2, .N 3, .N 4, .N 5, .N 6, .N 7, .N 8, .N 9, .E 10 [] [], .N 11]), (11, [.N 0, .N 1, .N 2, .N 3, .N 4, .N 5, .N 6, .N 7, .N 8, .N 9, .N 10, .N 11, .B 16, .E 12 [] [], .N 13, .N 14, .N 15, .E 17 [16] [], .N 18]), (16, [.N 0, .N 1, .N 2, .N 3, .N 4, .N 5, .N 6, .N 7, .N 8, .N 9, .N 10, .E 11 [] [], .N 12])]) (by kernel_rfl)
theorem r117_ok : Ent Go.Proofs.Tryz.prog 117 r117 := ent_of_fact (np := 3) (ks := [0, 1, 2, 20, 6, 7]) (sch := []) (by kernel_rfl)
theorem r131_ok : Ent Go.Proofs.Tryz.prog 131 r131 := ent_of_fact (np := 1) (ks := [0, 10, 2, 3, 6, 4, 5]) (sch := []) (by kernel_rfl)
theorem r145_ok : Ent Go.Proofs.Tryz.prog 145 r145 := ent_of_fact (np := 2) (ks := [0, 1, 16, 24, 4, 5, 6]) (sch := [(2, [.N 0, .N 1, .N 2]), (5, [.N 0, .N 1, .N 2])]) (by kernel_rfl)
theorem r159_ok : Ent Go.Proofs.Tryz.prog 159 r159 := ent_of_fact (np := 3) (ks := [0, 1, 2, 5, 4, 3]) (sch := []) (by kernel_rfl)
theorem r174_ok : Ent Go.Proofs.Tryz.prog 174 r174 := ent_of_fact (np := 0) (ks := [0]) (sch := []) (by kernel_rfl)
theorem r189_ok : Ent Go.Proofs.Tryz.prog 189 r189 := ent_of_fact (np := 1) (ks := [0, 22, 34, 53, 59, 2, 3, 4, 5, 33, 32, 31, 10, 9, 7, 8, 6]) (sch := []) (by kernel_rfl)
theorem r205_ok : Ent Go.Proofs.Tryz.prog 205 r205 := ent_of_fact (np := 4) (ks := [0, 1, 2, 3, 16, 23, 32, 37, 8, 9, 10]) (sch := []) (by kernel_rfl)
theorem r217_ok : Ent Go.Proofs.Tryz.prog 217 r217 := ent_of_fact (np := 1) (ks := [0, 24, 38, 42, 2, 3, 1, 37, 36, 35, 6, 4, 5]) (sch := []) (by kernel_rfl)
theorem r236_ok : Ent Go.Proofs.Tryz.prog 236 r236 := ent_of_fact (np := 3) (ks := [0, 1, 2, 16, 29, 59, 82, 92, 94, 6, 3, 14, 7, 8, 9]) (sch := [(5, [.N 1, .N 2, .E 0 [] [2], .E 3 [] [], .N 4, .N 5]), (8, [.N 1, .N 2, .E 0 [] [2], .E 3 [] [], .N 4, .N 5, .N 6, .N 7, .N 8, .N 9, .N 10, .N 11, .N 12, .N 13, .N 14, .N 15, .N 16, .N 17, .N 18, .N 19, .N 20, .N 21])]) (by kernel_rfl)
theorem r249_ok : Ent Go.Proofs.Tryz.prog 249 r249 := ent_of_fact (np := 1) (ks := [0, 13, 65, 86, 105, 149, 2, 4, 1, 5, 3, 6, 8, 7]) (sch := []) (by kernel_rfl)
theorem r265_ok : Ent Go.Proofs.Tryz.prog 265 r265 := ent_of_fact (np := 2) (ks := [0, 1, 4, 5]) (sch := [(1, [.N 0, .N 1, .N 2, .N 3, .N 4, .N 5, .N 6, .N 7, .N 8, .N 9, .N 10, .E 11 [] [], .N 12, .N 13, .E 14 [] [], .N 15])]) (by kernel_rfl)
theorem r287_ok : Ent Go.Proofs.Tryz.prog 287 r287 := ent_of_fact (np := 3) (ks := [0, 1, 2, 11, 26, 35, 42, 62, 76, 93, 6, 5, 10, 8, 7]) (sch := [(3, [.N 0, .N 1, .N 2, .N 3, .N 4, .N 5, .N 6, .N 7, .E 8 [] [], .N 9, .N 10, .N 11, .N 12, .N 13]), (10, [.N 0, .N 1, .N 2, .N 3, .N 4, .N 5, .N 6, .N 7, .N 8, .N 9, .N 11, .N 12, .N 14, .N 15, .E 10 [] [3, 7, 12, 15], .E 13 [] [3, 7, 15], .E 16 [] [3, 7], .E 17 [] [], .N 18]), (12, [.N 0, .N 1, .N 2, .N 3, .N 4, .N 5, .N 6, .N 7, .N 8, .N 9, .E 10 [] [3, 7], .E 11 [] [], .N 12]), (14, [.N 0, .N 1, .N 2, .N 3, .N 4, .N 5, .N 6, .N 7, .N 8, .N 9, .N 11, .N 12, .N 13, .E 10 [] [3, 7, 12], .E 14 [] [], .N 15]), (16, [.N 0, .N 1, .N 2, .N 3, .N 4, .N 5, .N 6, .N 7, .N 8, .N 10, .N 11, .N 12, .E 9 [] [], .N 13, .E 14 [] []])]) (by kernel_rfl)
theorem r325_ok : Ent Go.Proofs.Tryz.prog 325 r325 := ent_of_fact (np := 5) (ks := [0, 1, 2, 3, 4, 20, 30, 38, 10, 11, 12]) (sch := []) (by kernel_rfl)
end Go.Ev

/-
  The evaluator of closed calls: a part.
-/
set_option linter.unusedVariables false
set_option linter.unusedSimpArgs false
set_option maxRecDepth 100000
namespace Go.Ev
theorem r23_ok : Ent Go.Proofs.Tryz.prog 23 r23 := ent_of_fact (np := 1) (ks := [0, 12, 2, 3, 5, 4]) (sch := []) (by kernel_rfl)
theorem r40_ok : Ent Go.Proofs.Tryz.prog 40 r40 := ent_of_fact (np := 2) (ks := [0, 1, 19, 83, 100, 105, 34, 41, 69, 4, 6, 7, 5, 8, 11, 12, 9]) (sch := [(24, [.N 0, .N 1, .N 2, .N 3, .N 4, .N 5, .N 6, .E 7 [] [1, 3], .N 8, .B 9, .E 10 [9] [], .N 11, .E 12 [] []]), (13, [.N 0, .N 1, .N 2, .N 3, .N 4, .N 5, .E 6 [] [1], .N 7, .B 8, .E 9 [8] [], .N 10, .E 11 [] []])]) (by kernel_rfl)
theorem r60_ok : Ent Go.Proofs.Tryz.prog 60 r60 := ent_of_fact (np := 4) (ks := [0, 1, 2, 3, 17, 28, 41, 8, 9, 11, 10]) (sch := [(2, [.N 0, .N 1, .E 2 [] [1], .N 3])]) (by kernel_rfl)
theorem r75_ok : Ent Go.Proofs.Tryz.prog 75 r75 := ent_of_fact (np := 1) (ks := [0, 30, 44, 77, 98, 110, 128, 2, 29, 28, 27, 3, 5, 43, 42, 41, 4, 7, 9, 8, 97, 96, 95, 10, 11, 12, 109, 108, 107, 14, 127, 126, 15]) (sch := [(10, [.N 0, .N 1, .N 2, .N 3, .N 4, .N 5, .N 6, .N 7, .N 8, .N 9, .N 10]), (11, [.N 0, .N 1, .N 2, .N 3, .N 4, .N 6, .N 7, .N 8, .E 5 [] [1, 7], .N 9, .N 10, .E 11 [] []]), (24, [.N 0, .N 1, .N 2, .N 3, .N 4, .N 5, .N 6, .E 7 [] []])]) (by kernel_rfl)
theorem r89_ok : Ent Go.Proofs.Tryz.prog 89 r89 := ent_of_fact (np := 1) (ks := [0, 2, 3, 1]) (sch := [(1, [.N 0, .N 1, .N 3, .N 4, .E 2 [] [4], .E 5 [] [], .N 6, .N 7])]) (by kernel_rfl)
theorem r102_ok : Ent Go.Proofs.Tryz.prog 102 r102 := ent_of_fact (np := 1) (ks := [0, 16, 2, 3]) (sch := [(1, [.N 0, .N 1, .N 2, .N 3, .N 4, .N 5, .N 6, .N 7, .N 8, .N 9, .N 10, .N 11, .N 12]), (2, [.N 0, .N 1, .N 2]), (3, [.N 0, .N 1, .N 2, .N 3, .N 4, .N 5, .N 6, .N 7, .N 8, .N 9])]) (by kernel_rfl)
theorem r118_ok : Ent Go.Proofs.Tryz.prog 118 r118 := ent_of_fact (np := 1) (ks := [0, 6, 2, 1, 3, 4]) (sch := []) (by kernel_rfl)
theorem r132_ok : Ent Go.Proofs.Tryz.prog 132 r132 := ent_of_fact (np := 2) (ks := [0, 1, 11, 21, 44, 4, 5, 6, 7]) (sch := []) (by kernel_rfl)
theorem r146_ok : Ent Go.Proofs.Tryz.prog 146 r146 := ent_of_fact (np := 2) (ks := [0, 1, 13, 25, 4, 5, 2, 7, 6, 8]) (sch := []) (by kernel_rfl)
theorem r160_ok : Ent Go.Proofs.Tryz.prog 160 r160 := ent_of_fact (np := 3) (ks := [0, 1, 2]) (sch := [(0, [.N 0, .N 1, .N 2, .N 3, .N 4, .N 5, .E 6 [] []])]) (by kernel_rfl)
theorem r175_ok : Ent Go.Proofs.Tryz.prog 175 r175 := ent_of_fact (np := 2) (ks := [0, 1, 5, 12, 19, 26, 4]) (sch := []) (by kernel_rfl)
theorem r190_ok : Ent Go.Proofs.Tryz.prog 190 r190 := ent_of_fact (np := 2) (ks := [0, 1, 13, 17, 32, 4, 16, 15, 14, 6, 5, 8, 7]) (sch := []) (by kernel_rfl)
theorem r206_ok : Ent Go.Proofs.Tryz.prog 206 r206 := ent_of_fact (np := 2) (ks := [0, 1, 8, 4]) (sch := []) (by kernel_rfl)
theorem r218_ok : Ent Go.Proofs.Tryz.prog 218 r218 := ent_of_fact (np := 3) (ks := [0, 1, 2, 17, 6]) (sch := []) (by kernel_rfl)
theorem r237_ok : Ent Go.Proofs.Tryz.prog 237 r237 := ent_of_fact (np := 3) (ks := [0, 1, 2, 16, 27, 31, 49, 71, 81, 6, 4, 30, 3, 7]) (sch := []) (by kernel_rfl)
theorem r250_ok : Ent Go.Proofs.Tryz.prog 250 r250 := ent_of_fact (np := 2) (ks := [0, 1, 4, 2, 5]) (sch := []) (by kernel_rfl)
theorem r268_ok : Ent Go.Proofs.Tryz.prog 268 r268 := ent_of_fact (np := 2) (ks := [0, 1, 5, 11, 4]) (sch := []) (by kernel_rfl)
theorem r290_ok : Ent Go.Proofs.Tryz.prog 290 r290 := ent_of_fact (np := 2) (ks := [0, 1]) (sch := []) (by kernel_rfl)
theorem r326_ok : Ent Go.Proofs.Tryz.prog 326 r326 := ent_of_fact (np := 3) (ks := [0, 1, 2, 10, 24, 6, 7]) (sch := [(6, [.N 0, .N 1, .N 2, .N 3, .N 4, .N 5, .N 6, .N 7, .N 8, .N 9, .N 10, .N 11, .N 12, .N 13, .E 14 [] []])]) (by kernel_rfl)
end Go.Ev

