/-
  Parts of one proof, one behind the other.
-/
import Derived.Test.YtbigilbbbmanjaaGreatDoorMg715f5b26a1
import Derived.Test.YtbigilbbbmanjaaGreatDoorMg9c841c0d32
import Derived.Test.YtbigilbbbmanjaaGreatDoorProg
/-
  The evaluator of closed calls: a part.
-/
set_option linter.unusedVariables false
set_option linter.unusedSimpArgs false
set_option maxRecDepth 100000
namespace Go.Ev
theorem r8_ok : Ent Go.Proofs.Tryz.prog 8 r8 := ent_of_fact (np := 3) (ks := [0, 1, 2, 23, 26, 37, 50, 52, 71, 100, 153, 157, 177, 6, 7, 8, 10, 9, 11, 12, 16, 18, 13, 15, 19, 21]) (sch := [(29, [.N 0, .N 1, .N 2, .N 3, .N 4, .N 5, .N 6, .N 7, .N 8, .N 9, .N 10, .N 11, .N 12, .N 13, .N 14, .N 15, .N 16, .N 17, .N 18, .N 19, .N 20, .N 21, .N 22, .N 23, .N 24, .N 25, .N 26, .N 27, .N 28, .N 29, .N 30, .N 31, .N 32, .N 33, .N 34, .N 35]), (34, [.N 0, .N 1, .N 2, .N 3, .N 4, .N 5, .N 6, .N 7, .N 8, .N 9, .N 10, .N 11, .N 12, .N 13, .N 14, .N 15, .N 16, .N 17])]) (by kernel_rfl)
theorem r28_ok : Ent Go.Proofs.Tryz.prog 28 r28 := ent_of_fact (np := 1) (ks := [0, 2]) (sch := []) (by kernel_rfl)
theorem r41_ok : Ent Go.Proofs.Tryz.prog 41 r41 := ent_of_fact (np := 1) (ks := [0, 14, 2, 3, 6, 4]) (sch := []) (by kernel_rfl)
theorem r61_ok : Ent Go.Proofs.Tryz.prog 61 r61 := ent_of_fact (np := 1) (ks := [0, 10, 2, 4, 3]) (sch := []) (by kernel_rfl)
theorem r78_ok : Ent Go.Proofs.Tryz.prog 78 r78 := ent_of_fact (np := 1) (ks := [0, 27, 34, 40, 52, 68, 101, 120, 155, 175, 209, 217, 243, 266, 273, 2, 3, 4, 6, 5, 9, 7, 10, 12, 11, 13, 14, 8, 15, 16, 17, 19, 20, 21, 22, 18]) (sch := [(3, [.N 0, .N 1, .E 2 [] [1], .E 3 [] []]), (6, [.N 0, .N 1, .E 2 [] [1], .E 3 [] []]), (19, [.N 0, .N 1, .N 2, .N 3, .N 4, .N 5, .N 6, .N 7, .N 8, .N 9, .N 10, .N 11, .N 12, .N 13, .N 14, .N 15, .N 16, .N 17, .N 18, .N 19, .N 20, .N 21, .N 22, .B 23, .N 24, .B 25, .E 26 [23, 25] []]), (23, [.N 0, .N 1, .N 2, .N 3, .N 4, .N 5, .N 6, .E 7 [] [], .N 8, .E 9 [] []]), (29, [.N 0, .N 1, .N 2, .N 3, .N 4, .N 5, .N 6, .N 7, .N 8, .N 9, .N 10, .N 11, .N 12, .N 13, .N 14, .E 15 [] []]), (31, [.N 0, .N 1, .N 2, .N 3, .N 4, .N 5, .N 6, .N 7, .N 8, .B 9, .E 10 [9] [], .N 11, .E 12 [] []]), (41, [.N 0, .N 1, .N 2, .N 3, .N 4, .N 5, .N 6, .N 7, .N 8, .N 9, .N 10, .N 11, .E 12 [] [], .N 13, .N 14, .N 15, .N 16, .N 17]), (52, [.N 0, .N 1, .E 2 [] [1], .E 3 [] []])]) (by kernel_rfl)
theorem r90_ok : Ent Go.Proofs.Tryz.prog 90 r90 := ent_of_fact (np := 1) (ks := [0, 2, 1]) (sch := []) (by kernel_rfl)
theorem r103_ok : Ent Go.Proofs.Tryz.prog 103 r103 := ent_of_fact (np := 1) (ks := [0, 4, 2]) (sch := []) (by kernel_rfl)
theorem r119_ok : Ent Go.Proofs.Tryz.prog 119 r119 := ent_of_fact (np := 1) (ks := [0, 4, 2]) (sch := []) (by kernel_rfl)
theorem r133_ok : Ent Go.Proofs.Tryz.prog 133 r133 := ent_of_fact (np := 4) (ks := [0, 1, 2, 3, 30, 8, 9, 10, 11, 12, 5]) (sch := [(2, [.N 0, .N 1, .N 2, .N 3, .N 4, .N 5, .N 6, .N 7, .N 8, .N 9, .B 10, .E 11 [10] []]), (5, [.N 0, .N 1, .N 2, .N 3, .N 4, .N 5, .N 6, .N 7, .N 8, .N 9]), (6, [.N 0, .N 1, .N 2, .N 3, .N 4, .N 5, .N 6, .N 7, .N 8, .N 9, .N 10, .N 11, .N 12])]) (by kernel_rfl)
theorem r147_ok : Ent Go.Proofs.Tryz.prog 147 r147 := ent_of_fact (np := 2) (ks := [0, 1, 4, 5]) (sch := []) (by kernel_rfl)
theorem r162_ok : Ent Go.Proofs.Tryz.prog 162 r162 := ent_of_fact (np := 3) (ks := [0, 1, 2]) (sch := [(0, [.N 0, .N 1, .N 2, .N 3, .N 4, .N 5, .N 6, .N 7, .N 8, .E 9 [] []])]) (by kernel_rfl)
theorem r176_ok : Ent Go.Proofs.Tryz.prog 176 r176 := ent_of_fact (np := 5) (ks := [0, 1, 2, 3, 4, 27, 49, 57, 91, 10, 11, 9, 12, 7, 13, 15, 14, 17, 16]) (sch := [(3, [.N 0, .N 1, .N 2, .N 3, .N 4, .N 5, .N 6, .N 7, .N 8, .N 9]), (7, [.N 0, .N 1, .E 2 [] [1], .E 3 [] []]), (10, [.N 0, .N 1, .N 2, .N 3, .N 8, .E 4 [] [1], .N 5, .N 6, .N 7, .N 9, .E 10 [] []]), (12, [.N 0, .N 1, .E 2 [] [1], .E 3 [] []]), (15, [.N 0, .N 1, .N 2, .N 4, .E 3 [] [4], .E 5 [] [4], .E 6 [] []]), (18, [.N 0, .N 1, .E 2 [] [1], .E 3 [] []])]) (by kernel_rfl)
theorem r191_ok : Ent Go.Proofs.Tryz.prog 191 r191 := ent_of_fact (np := 5) (ks := [0, 1, 2, 3, 4, 39, 56, 12, 11, 13, 10]) (sch := [(4, [.N 0, .N 1, .N 3, .N 4, .N 5, .E 2 [] [4], .N 6, .N 7]), (6, [.N 0, .N 1, .N 2, .N 3, .N 4, .N 5, .N 6, .N 7, .N 8, .N 9, .B 10, .E 11 [10] [], .N 12, .N 13, .E 14 [] []])]) (by kernel_rfl)
theorem r207_ok : Ent Go.Proofs.Tryz.prog 207 r207 := ent_of_fact (np := 4) (ks := [0, 1, 2, 3, 15, 7, 9, 8]) (sch := []) (by kernel_rfl)
theorem r221_ok : Ent Go.Proofs.Tryz.prog 221 r221 := ent_of_fact (np := 4) (ks := [0, 1, 2, 3, 21, 8, 9, 11, 10]) (sch := []) (by kernel_rfl)
theorem r238_ok : Ent Go.Proofs.Tryz.prog 238 r238 := ent_of_fact (np := 1) (ks := [0, 18, 45, 48, 62, 80, 83, 101, 137, 2, 1, 17, 16, 15, 5, 3, 6, 4, 61, 60, 59, 9, 10, 8, 7, 100, 99, 11, 13, 12]) (sch := []) (by kernel_rfl)
theorem r251_ok : Ent Go.Proofs.Tryz.prog 251 r251 := ent_of_fact (np := 1) (ks := [0, 11, 2, 4, 3]) (sch := []) (by kernel_rfl)
theorem r270_ok : Ent Go.Proofs.Tryz.prog 270 r270 := ent_of_fact (np := 2) (ks := [0, 1, 4, 5, 6]) (sch := []) (by kernel_rfl)
theorem r295_ok : Ent Go.Proofs.Tryz.prog 295 r295 := ent_of_fact (np := 2) (ks := [0, 1, 4, 2, 6, 5]) (sch := [(2, [.N 0, .N 1, .N 3, .N 4, .E 2 [] [4], .E 5 [] [], .N 6, .N 7])]) (by kernel_rfl)
theorem r328_ok : Ent Go.Proofs.Tryz.prog 328 r328 := ent_of_fact (np := 2) (ks := [0, 1, 10, 12, 31, 4, 11, 6, 7, 5]) (sch := []) (by kernel_rfl)
end Go.Ev

/-
  The evaluator of closed calls: a part.
-/
set_option linter.unusedVariables false
set_option linter.unusedSimpArgs false
set_option maxRecDepth 100000
namespace Go.Ev
theorem r10_ok : Ent Go.Proofs.Tryz.prog 10 r10 := ent_of_fact (np := 0) (ks := [0, 2, 1]) (sch := []) (by kernel_rfl)
theorem r29_ok : Ent Go.Proofs.Tryz.prog 29 r29 := ent_of_fact (np := 2) (ks := [0, 1, 11, 19, 27, 4, 5]) (sch := []) (by kernel_rfl)
theorem r43_ok : Ent Go.Proofs.Tryz.prog 43 r43 := ent_of_fact (np := 3) (ks := [0, 1, 2, 16, 23, 33, 41, 81, 6, 7, 4, 8, 10, 11, 12]) (sch := [(6, [.N 0, .N 1, .N 2]), (8, [.N 0, .N 1, .N 2]), (10, [.N 0, .N 1, .N 2]), (11, [.N 0, .N 1, .N 2, .N 3, .N 4, .N 5, .N 6, .N 8, .N 9, .N 11, .B 12, .N 13, .B 14, .N 15, .B 16, .E 7 [] [3, 8], .E 10 [] [3], .N 17, .B 18, .N 19, .F [12, 14, 16, 18]])]) (by kernel_rfl)
theorem r63_ok : Ent Go.Proofs.Tryz.prog 63 r63 := ent_of_fact (np := 1) (ks := [0, 13, 21, 2, 3, 5, 6, 4]) (sch := []) (by kernel_rfl)
theorem r79_ok : Ent Go.Proofs.Tryz.prog 79 r79 := ent_of_fact (np := 2) (ks := [0, 1, 26, 35, 4, 5, 6, 8]) (sch := []) (by kernel_rfl)
theorem r91_ok : Ent Go.Proofs.Tryz.prog 91 r91 := ent_of_fact (np := 2) (ks := [0, 1, 4, 2, 5]) (sch := []) (by kernel_rfl)
theorem r107_ok : Ent Go.Proofs.Tryz.prog 107 r107 := ent_of_fact (np := 4) (ks := [0, 1, 2, 3, 25, 33, 42, 45, 61, 71, 8, 9, 11, 10, 12, 15, 16, 18, 13]) (sch := []) (by kernel_rfl)
theorem r120_ok : Ent Go.Proofs.Tryz.prog 120 r120 := ent_of_fact (np := 3) (ks := [0, 1, 2, 19, 41, 6, 7, 8, 11, 10]) (sch := []) (by kernel_rfl)
theorem r134_ok : Ent Go.Proofs.Tryz.prog 134 r134 := ent_of_fact (np := 2) (ks := [0, 1, 9, 18, 4, 5]) (sch := []) (by kernel_rfl)
theorem r148_ok : Ent Go.Proofs.Tryz.prog 148 r148 := ent_of_fact (np := 3) (ks := [0, 1, 2, 13, 17, 20, 36, 53, 6, 5, 8, 7, 9]) (sch := [(7, [.N 0, .N 1, .N 2, .N 3, .N 4, .N 5, .E 6 [] [], .N 7, .N 8, .N 9, .N 10, .N 11]), (11, [.N 0, .N 1, .N 2, .N 3, .N 4, .N 5, .N 6])]) (by kernel_rfl)
theorem r164_ok : Ent Go.Proofs.Tryz.prog 164 r164 := ent_of_fact (np := 2) (ks := [0, 1]) (sch := [(0, [.N 0, .N 1, .N 2, .N 3, .N 4, .N 5, .N 6, .N 7, .N 8, .N 9, .E 10 [] []])]) (by kernel_rfl)
theorem r177_ok : Ent Go.Proofs.Tryz.prog 177 r177 := ent_of_fact (np := 3) (ks := [0, 1, 2, 28, 38, 7, 6]) (sch := [(3, [.N 0, .N 1, .N 3, .N 4, .N 5, .E 2 [] [], .N 6, .E 7 [] []]), (1, [.N 0, .N 1, .N 2, .N 3, .N 6, .N 7, .N 8, .E 4 [] [], .E 5 [] [], .N 9, .E 10 [] []])]) (by kernel_rfl)
theorem r192_ok : Ent Go.Proofs.Tryz.prog 192 r192 := ent_of_fact (np := 1) (ks := [0, 53, 2, 3, 1, 4, 5, 6, 7]) (sch := [(3, [.N 1, .N 2, .E 0 [] [2], .E 3 [] [], .N 4, .N 5, .N 6, .N 7, .N 8, .E 9 [] [], .N 10, .N 11, .N 12, .N 13, .N 14, .N 15, .E 16 [] [], .N 17, .N 18, .N 19, .N 20, .N 21, .N 22, .E 23 [] [], .N 24, .N 25, .N 26, .N 27, .N 28, .N 29, .N 30, .N 31, .N 33, .N 34, .E 32 [] [34], .E 35 [] [], .N 36, .N 37, .N 38])]) (by kernel_rfl)
theorem r208_ok : Ent Go.Proofs.Tryz.prog 208 r208 := ent_of_fact (np := 2) (ks := [0, 1, 6, 11, 19, 4, 5]) (sch := [(2, [.N 0, .N 1, .N 2]), (4, [.N 0, .N 1, .N 2]), (6, [.N 0, .N 1, .N 2])]) (by kernel_rfl)
theorem r222_ok : Ent Go.Proofs.Tryz.prog 222 r222 := ent_of_fact (np := 2) (ks := [0, 1, 29, 38, 4, 5, 7, 6, 9]) (sch := [(3, [.N 0, .N 2, .N 3, .E 1 [] [3], .E 4 [] []])]) (by kernel_rfl)
theorem r239_ok : Ent Go.Proofs.Tryz.prog 239 r239 := ent_of_fact (np := 2) (ks := [0, 1, 6, 4, 5]) (sch := []) (by kernel_rfl)
theorem r252_ok : Ent Go.Proofs.Tryz.prog 252 r252 := ent_of_fact (np := 3) (ks := [0, 1, 2, 6, 3, 7]) (sch := [(1, [.N 0, .N 1, .N 2, .N 3, .N 4, .N 5, .N 6, .N 7, .N 8, .N 9, .N 10])]) (by kernel_rfl)
theorem r271_ok : Ent Go.Proofs.Tryz.prog 271 r271 := ent_of_fact (np := 2) (ks := [0, 1, 4, 5, 6, 8, 7, 10, 11, 12, 9, 13]) (sch := []) (by kernel_rfl)
theorem r298_ok : Ent Go.Proofs.Tryz.prog 298 r298 := ent_of_fact (np := 1) (ks := [0, 2]) (sch := []) (by kernel_rfl)
theorem r329_ok : Ent Go.Proofs.Tryz.prog 329 r329 := ent_of_fact (np := 3) (ks := [0, 1, 2, 24, 6]) (sch := []) (by kernel_rfl)
end Go.Ev

/-
  The evaluator of closed calls: a part.
-/
set_option linter.unusedVariables false
set_option linter.unusedSimpArgs false
set_option maxRecDepth 100000
namespace Go.Ev
theorem r12_ok : Ent Go.Proofs.Tryz.prog 12 r12 := ent_of_fact (np := 3) (ks := [0, 1, 2, 16, 24, 6, 8, 9, 7]) (sch := []) (by kernel_rfl)
theorem r30_ok : Ent Go.Proofs.Tryz.prog 30 r30 := ent_of_fact (np := 1) (ks := [0, 2]) (sch := []) (by kernel_rfl)
theorem r44_ok : Ent Go.Proofs.Tryz.prog 44 r44 := ent_of_fact (np := 2) (ks := [0, 1, 22, 58, 70, 85, 99, 4, 5, 2, 7, 6, 69, 68, 67, 8, 10, 84, 83, 82, 12, 98, 97, 96, 14]) (sch := [(5, [.N 0, .N 1, .N 2])]) (by kernel_rfl)
theorem r64_ok : Ent Go.Proofs.Tryz.prog 64 r64 := ent_of_fact (np := 2) (ks := [0, 1, 15, 4]) (sch := []) (by kernel_rfl)
theorem r80_ok : Ent Go.Proofs.Tryz.prog 80 r80 := ent_of_fact (np := 1) (ks := [0, 2, 3]) (sch := []) (by kernel_rfl)
theorem r92_ok : Ent Go.Proofs.Tryz.prog 92 r92 := ent_of_fact (np := 4) (ks := [0, 1, 2, 3, 39, 44, 54, 69, 81, 90, 95, 129, 8, 9, 43, 42, 11, 80, 6, 12, 14, 15, 16, 13, 18]) (sch := [(2, [.N 0, .N 1, .N 2, .N 3, .N 4, .N 5, .N 6, .N 7, .N 8, .N 9, .N 10, .N 11, .N 12, .E 13 [] [], .N 14, .N 15, .N 16, .N 17, .N 18, .E 19 [] [], .N 20]), (14, [.N 0, .N 1, .N 2, .N 3, .N 4, .N 5, .N 6, .N 7, .E 8 [] []]), (23, [.N 0, .N 1, .N 2, .N 3, .N 4, .N 5, .E 6 [] [], .N 7, .N 8, .N 9, .N 10, .N 11]), (25, [.N 0, .N 1, .N 2, .N 3, .N 4, .N 5, .E 6 [] [], .N 7])]) (by kernel_rfl)
theorem r108_ok : Ent Go.Proofs.Tryz.prog 108 r108 := ent_of_fact (np := 1) (ks := [0, 25, 71, 2, 3, 4]) (sch := [(1, [.N 0, .N 1, .N 2, .N 3, .N 4, .N 5, .N 6, .N 7, .N 8, .N 9, .N 10, .N 11, .N 12, .N 13, .N 14, .N 15, .N 16, .N 17, .N 18, .N 19, .N 20]), (2, [.N 0, .N 1, .N 2, .N 3, .N 4, .N 5, .N 6, .N 7, .N 8, .N 9, .N 10, .E 11 [] []]), (3, [.N 0, .N 1, .N 2, .N 3, .N 4, .N 5, .N 6, .N 7, .N 8, .N 9, .N 10, .E 11 [] []]), (10, [.N 0, .N 1, .N 2, .N 3, .N 4, .N 5, .N 6, .N 7, .N 8, .N 9, .N 10, .N 12, .N 13, .N 14, .N 15, .E 11 [] [15], .E 16 [] [], .E 17 [] [], .N 18, .N 19, .N 20, .N 21, .E 22 [] []])]) (by kernel_rfl)
theorem r121_ok : Ent Go.Proofs.Tryz.prog 121 r121 := ent_of_fact (np := 1) (ks := [0, 32, 39, 47, 58, 69, 92, 100, 119, 133, 141, 158, 182, 2, 31, 30, 29, 4, 5, 3, 46, 45, 44, 7, 9, 6, 91, 90, 89, 11, 99, 98, 97, 13, 15, 10, 132, 131, 130, 17, 140, 139, 138, 19, 16, 21, 20]) (sch := [(12, [.N 0, .N 1, .N 2, .N 3, .N 4, .N 5, .N 6, .N 7, .N 8, .N 9, .B 10, .E 11 [10] [], .N 12]), (15, [.N 0, .N 1, .N 2, .N 3, .N 4, .N 5, .N 6, .N 7, .N 8, .E 9 [] []]), (24, [.N 0, .N 1, .N 2, .N 3, .N 4, .N 5, .N 6, .N 7, .N 8, .N 9, .B 10, .E 11 [10] [], .N 12])]) (by kernel_rfl)
theorem r136_ok : Ent Go.Proofs.Tryz.prog 136 r136 := ent_of_fact (np := 1) (ks := [0, 4, 2]) (sch := []) (by kernel_rfl)
theorem r149_ok : Ent Go.Proofs.Tryz.prog 149 r149 := ent_of_fact (np := 3) (ks := [0, 1, 2, 14, 24, 33, 37, 3, 13, 6, 7, 23, 4, 8, 10, 11, 9]) (sch := []) (by kernel_rfl)
theorem r165_ok : Ent Go.Proofs.Tryz.prog 165 r165 := ent_of_fact (np := 0) (ks := []) (sch := []) (by kernel_rfl)
theorem r178_ok : Ent Go.Proofs.Tryz.prog 178 r178 := ent_of_fact (np := 1) (ks := [0, 31, 2, 3, 4, 5, 6]) (sch := [(2, [.N 1, .N 2, .E 0 [] [2], .E 3 [] [], .N 4])]) (by kernel_rfl)
theorem r193_ok : Ent Go.Proofs.Tryz.prog 193 r193 := ent_of_fact (np := 2) (ks := [0, 1, 35, 43, 50, 55, 60, 72, 115, 4, 2, 5, 6, 7]) (sch := []) (by kernel_rfl)
theorem r209_ok : Ent Go.Proofs.Tryz.prog 209 r209 := ent_of_fact (np := 1) (ks := [0, 2]) (sch := []) (by kernel_rfl)
theorem r223_ok : Ent Go.Proofs.Tryz.prog 223 r223 := ent_of_fact (np := 2) (ks := [0, 1, 4, 5, 6, 7, 8, 9]) (sch := []) (by kernel_rfl)
theorem r240_ok : Ent Go.Proofs.Tryz.prog 240 r240 := ent_of_fact (np := 1) (ks := [0, 2, 1]) (sch := []) (by kernel_rfl)
theorem r253_ok : Ent Go.Proofs.Tryz.prog 253 r253 := ent_of_fact (np := 1) (ks := [0, 2, 1]) (sch := []) (by kernel_rfl)
theorem r272_ok : Ent Go.Proofs.Tryz.prog 272 r272 := ent_of_fact (np := 1) (ks := [0, 2]) (sch := []) (by kernel_rfl)
theorem r299_ok : Ent Go.Proofs.Tryz.prog 299 r299 := ent_of_fact (np := 1) (ks := [0, 2]) (sch := []) (by kernel_rfl)
theorem r368_ok : Ent Go.Proofs.Tryz.prog 368 r368 := ent_of_fact (np := 1) (ks := [0, 2]) (sch := []) (by kernel_rfl)
end Go.Ev

