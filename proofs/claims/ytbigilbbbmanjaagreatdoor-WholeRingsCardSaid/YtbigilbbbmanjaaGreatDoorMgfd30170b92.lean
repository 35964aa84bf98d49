/-
  Parts of one proof, one behind the other.
-/
import Derived.Test.YtbigilbbbmanjaaGreatDoorMg715f5b26a1
import Derived.Test.YtbigilbbbmanjaaGreatDoorMg9c841c0d32
import Derived.Test.YtbigilbbbmanjaaGreatDoorProg
/-
  The evaluator of closed calls: a part.
-/
set_option linter.unusedVariables false
set_option linter.unusedSimpArgs false
set_option maxRecDepth 100000
namespace Go.Ev
theorem r17_ok : Ent Go.Proofs.Tryz.prog 17 r17 := ent_of_fact (np := 1) (ks := [0, 2]) (sch := []) (by kernel_rfl)
theorem r34_ok : Ent Go.Proofs.Tryz.prog 34 r34 := ent_of_fact (np := 2) (ks := [0, 1, 11, 4, 5, 6]) (sch := []) (by kernel_rfl)
theorem r50_ok : Ent Go.Proofs.Tryz.prog 50 r50 := ent_of_fact (np := 2) (ks := [0, 1, 13, 4, 5]) (sch := []) (by kernel_rfl)
theorem r68_ok : Ent Go.Proofs.Tryz.prog 68 r68 := ent_of_fact (np := 1) (ks := [0, 2]) (sch := []) (by kernel_rfl)
theorem r84_ok : Ent Go.Proofs.Tryz.prog 84 r84 := ent_of_fact (np := 2) (ks := [0, 1, 12, 24, 4, 5]) (sch := []) (by kernel_rfl)
theorem r96_ok : Ent Go.Proofs.Tryz.prog 96 r96 := ent_of_fact (np := 1) (ks := [0, 16, 2, 3, 4, 5]) (sch := [(4, [.N 0, .N 1, .N 2, .N 3, .N 4, .N 5, .N 6, .N 7])]) (by kernel_rfl)
theorem r112_ok : Ent Go.Proofs.Tryz.prog 112 r112 := ent_of_fact (np := 4) (ks := [0, 1, 2, 3, 9, 13, 17, 21, 8, 4]) (sch := []) (by kernel_rfl)
theorem r126_ok : Ent Go.Proofs.Tryz.prog 126 r126 := ent_of_fact (np := 4) (ks := [0, 1, 2, 3, 39, 62, 72, 111, 8, 9, 71, 70, 10, 11, 13, 14, 16]) (sch := [(1, [.N 0, .N 1, .N 2, .N 3, .N 4, .N 5, .N 6, .N 7, .B 8, .E 9 [8] []]), (3, [.N 0, .N 1, .N 2, .N 3, .N 4, .N 5, .N 6, .N 7, .N 8, .N 9, .B 10, .E 11 [10] [], .N 12, .N 13, .E 14 [] []]), (11, [.N 0, .N 1, .N 2, .N 3, .N 4, .N 5, .N 6, .N 7, .N 8, .N 9, .N 10, .N 11, .B 13, .E 12 [] [], .E 14 [13] []]), (16, [.N 0, .N 1, .N 2, .N 3, .N 4, .N 5, .N 6, .N 7, .N 8, .N 9, .N 10, .B 11, .E 12 [11] [], .N 13, .N 14, .E 15 [] []]), (17, [.N 0, .N 1, .N 2, .N 3, .N 4, .N 5, .N 6, .N 7, .B 8, .E 9 [8] [], .N 10, .N 11, .E 12 [] []]), (18, [.N 0, .N 1, .N 2, .N 3, .N 4, .N 5, .N 6, .N 7, .N 8, .N 9, .N 10, .N 11, .N 12, .N 13, .N 14, .N 15, .N 16, .N 17, .N 18, .N 19, .N 20, .N 21, .N 22, .N 23, .N 24, .E 25 [] []])]) (by kernel_rfl)
theorem r140_ok : Ent Go.Proofs.Tryz.prog 140 r140 := ent_of_fact (np := 1) (ks := [0, 22, 31, 47, 67, 104, 125, 135, 2, 3, 4, 1, 6, 5, 9, 46, 45, 44, 10, 11, 7, 12, 103, 102, 13, 124, 123, 14, 15]) (sch := [(5, [.N 0, .N 1, .E 2 [] [1], .N 3, .N 4]), (16, [.N 0, .N 1, .N 2, .N 3, .N 4, .B 5, .N 7, .N 8, .B 9, .E 6 [5] [8], .N 11, .E 10 [9] [], .E 12 [] [], .N 13, .E 14 [] []]), (17, [.N 0, .N 1, .N 2, .B 3, .N 5, .N 6, .N 7, .N 8, .N 9, .N 10, .N 11, .B 12, .E 4 [3] [6, 8, 11], .N 14, .E 13 [12] [], .E 15 [] [], .N 16, .E 17 [] []]), (22, [.N 0, .N 1, .N 2, .N 3, .N 4, .N 5, .N 6, .N 7, .N 8, .N 9, .N 10, .N 11, .N 12, .N 13, .E 14 [] []]), (31, [.N 0, .N 1, .N 2, .N 3, .N 4, .B 5, .E 6 [5] [0], .E 7 [] [], .N 8, .N 9])]) (by kernel_rfl)
theorem r153_ok : Ent Go.Proofs.Tryz.prog 153 r153 := ent_of_fact (np := 1) (ks := [0]) (sch := []) (by kernel_rfl)
theorem r170_ok : Ent Go.Proofs.Tryz.prog 170 r170 := ent_of_fact (np := 2) (ks := [0, 1, 4]) (sch := []) (by kernel_rfl)
theorem r184_ok : Ent Go.Proofs.Tryz.prog 184 r184 := ent_of_fact (np := 2) (ks := [0, 1, 11, 41, 54, 61, 73, 82, 4, 2, 53, 52, 5, 6, 72, 71, 70, 9, 7, 10, 8]) (sch := []) (by kernel_rfl)
theorem r199_ok : Ent Go.Proofs.Tryz.prog 199 r199 := ent_of_fact (np := 1) (ks := [0, 23, 47, 52, 2, 3, 4, 9, 6, 7, 8, 5]) (sch := []) (by kernel_rfl)
theorem r213_ok : Ent Go.Proofs.Tryz.prog 213 r213 := ent_of_fact (np := 1) (ks := [0, 2]) (sch := []) (by kernel_rfl)
theorem r227_ok : Ent Go.Proofs.Tryz.prog 227 r227 := ent_of_fact (np := 2) (ks := [0, 1, 9, 18, 4, 5, 7, 6, 3]) (sch := []) (by kernel_rfl)
theorem r245_ok : Ent Go.Proofs.Tryz.prog 245 r245 := ent_of_fact (np := 2) (ks := [0, 1, 4, 5]) (sch := []) (by kernel_rfl)
theorem r257_ok : Ent Go.Proofs.Tryz.prog 257 r257 := ent_of_fact (np := 1) (ks := [0, 4, 2]) (sch := []) (by kernel_rfl)
theorem r276_ok : Ent Go.Proofs.Tryz.prog 276 r276 := ent_of_fact (np := 0) (ks := [0]) (sch := []) (by kernel_rfl)
theorem r303_ok : Ent Go.Proofs.Tryz.prog 303 r303 := ent_of_fact (np := 1) (ks := [0, 8, 28, 2, 3, 4, 5, 6]) (sch := []) (by kernel_rfl)
end Go.Ev

/-
  The evaluator of closed calls: a part.
-/
set_option linter.unusedVariables false
set_option linter.unusedSimpArgs false
set_option maxRecDepth 100000
namespace Go.Ev
theorem r18_ok : Ent Go.Proofs.Tryz.prog 18 r18 := ent_of_fact (np := 2) (ks := [0, 1, 14, 21, 4, 13, 12, 11, 7, 5, 6]) (sch := []) (by kernel_rfl)
theorem r35_ok : Ent Go.Proofs.Tryz.prog 35 r35 := ent_of_fact (np := 1) (ks := [0, 2]) (sch := []) (by kernel_rfl)
theorem r51_ok : Ent Go.Proofs.Tryz.prog 51 r51 := ent_of_fact (np := 2) (ks := [0, 1, 11, 15, 28, 4, 5, 6]) (sch := [(6, [.N 0, .N 1, .N 2, .N 3, .N 4, .N 5, .N 6, .N 7, .N 8, .N 9])]) (by kernel_rfl)
theorem r70_ok : Ent Go.Proofs.Tryz.prog 70 r70 := ent_of_fact (np := 3) (ks := [0, 1, 2, 15, 26, 6, 7, 9, 8]) (sch := []) (by kernel_rfl)
theorem r85_ok : Ent Go.Proofs.Tryz.prog 85 r85 := ent_of_fact (np := 1) (ks := [0, 43, 63, 2, 3, 1, 4, 5, 7, 8, 6]) (sch := []) (by kernel_rfl)
theorem r97_ok : Ent Go.Proofs.Tryz.prog 97 r97 := ent_of_fact (np := 1) (ks := [0, 9, 25, 27, 36, 57, 63, 68, 2, 1, 3, 5, 50, 4]) (sch := [(4, [.N 0, .N 1, .N 2, .N 3, .N 4, .N 5, .N 6, .N 7, .N 8, .N 9, .N 10, .N 11, .E 12 [] [], .N 13]), (10, [.N 0, .N 1, .N 2, .N 3, .N 4, .N 5, .N 6, .N 7, .B 12, .B 13, .E 8 [] [], .N 9, .N 10, .N 11, .E 14 [12, 13] [], .E 15 [] []])]) (by kernel_rfl)
theorem r114_ok : Ent Go.Proofs.Tryz.prog 114 r114 := ent_of_fact (np := 3) (ks := [0, 1, 2, 24, 6, 7, 8]) (sch := []) (by kernel_rfl)
theorem r127_ok : Ent Go.Proofs.Tryz.prog 127 r127 := ent_of_fact (np := 1) (ks := [0, 11, 16, 26, 37, 64, 70, 80, 88, 2, 3, 4, 5, 6, 7, 8]) (sch := [(13, [.N 0, .N 1, .N 2, .N 3, .N 4, .N 5, .N 6, .N 7, .N 8, .N 9, .N 10, .N 11, .N 12, .E 13 [] [], .N 14, .N 15, .N 16])]) (by kernel_rfl)
theorem r142_ok : Ent Go.Proofs.Tryz.prog 142 r142 := ent_of_fact (np := 1) (ks := [0, 2]) (sch := []) (by kernel_rfl)
theorem r155_ok : Ent Go.Proofs.Tryz.prog 155 r155 := ent_of_fact (np := 2) (ks := [0, 1, 9, 40, 3, 4, 8]) (sch := [(4, [.N 0, .N 1, .N 2, .N 3, .N 4, .N 5, .N 6, .N 7, .N 8, .N 9, .N 10, .N 11, .N 12, .N 13, .N 14, .N 15, .N 16, .E 17 [] []]), (5, [.N 0, .N 1, .N 2, .N 3, .N 4, .N 5, .N 6, .N 7, .N 8, .N 9, .N 10, .E 11 [] []]), (8, [.N 0, .N 1, .N 2, .N 3, .N 4, .N 5, .N 6, .N 7, .N 8, .N 9, .N 10, .E 11 [] []]), (9, [.N 0, .N 1, .N 2, .N 3, .N 4, .N 5, .N 6, .N 7, .N 8, .N 9, .N 10, .N 11, .N 12, .N 13, .N 14, .N 15, .N 16, .E 17 [] [], .N 18, .N 19, .N 20, .N 21, .N 22, .E 23 [] [], .N 24, .N 25, .E 26 [] []])]) (by kernel_rfl)
theorem r171_ok : Ent Go.Proofs.Tryz.prog 171 r171 := ent_of_fact (np := 1) (ks := [0, 2]) (sch := []) (by kernel_rfl)
theorem r185_ok : Ent Go.Proofs.Tryz.prog 185 r185 := ent_of_fact (np := 1) (ks := [0, 2, 4]) (sch := []) (by kernel_rfl)
theorem r200_ok : Ent Go.Proofs.Tryz.prog 200 r200 := ent_of_fact (np := 2) (ks := [0, 1, 12, 16, 33, 4, 7, 5, 6]) (sch := []) (by kernel_rfl)
theorem r214_ok : Ent Go.Proofs.Tryz.prog 214 r214 := ent_of_fact (np := 2) (ks := [0, 1, 9, 18, 20, 4, 6, 5]) (sch := [(7, [.N 0, .N 1, .N 2, .N 3, .N 4, .N 5, .E 6 [] []]), (8, [.N 0, .N 1, .N 2, .N 3, .N 4, .N 5, .E 6 [] []]), (9, [.N 0, .N 1, .N 2, .N 3, .N 4, .N 5, .N 6, .N 7, .N 8, .N 9, .N 10, .N 11, .N 12, .N 13, .N 14, .N 15, .N 16, .E 17 [] []])]) (by kernel_rfl)
theorem r228_ok : Ent Go.Proofs.Tryz.prog 228 r228 := ent_of_fact (np := 1) (ks := [0, 6, 10, 16, 2, 9, 8, 7, 4, 3]) (sch := []) (by kernel_rfl)
theorem r246_ok : Ent Go.Proofs.Tryz.prog 246 r246 := ent_of_fact (np := 2) (ks := [0, 1, 16, 24, 49, 50, 71, 86, 107, 110, 4, 5, 2, 23, 7, 9, 8, 11, 6]) (sch := [(12, [.N 0, .N 1, .N 2, .N 3, .N 4, .N 5, .N 6, .B 12, .E 7 [] [1, 4], .E 8 [] [], .N 9, .N 10, .N 11, .E 13 [12] [], .N 14])]) (by kernel_rfl)
theorem r262_ok : Ent Go.Proofs.Tryz.prog 262 r262 := ent_of_fact (np := 3) (ks := [0, 1, 2, 7, 13, 6]) (sch := []) (by kernel_rfl)
theorem r280_ok : Ent Go.Proofs.Tryz.prog 280 r280 := ent_of_fact (np := 3) (ks := [0, 1, 2, 23, 34, 39, 6, 7, 9, 8, 10]) (sch := [(1, [.N 0, .N 1, .N 2, .N 3, .N 4, .E 5 [] [3], .E 6 [] [], .N 7, .N 8, .N 9, .N 10, .N 11]), (3, [.N 0, .N 1, .N 2]), (6, [.N 0, .N 1, .N 2]), (7, [.N 0, .N 1, .N 2, .N 3, .N 5, .N 6, .N 7, .N 8, .E 4 [] [8], .N 9, .N 10, .N 11, .N 12, .N 13, .N 14, .N 15, .N 16]), (8, [.N 0, .N 1, .N 2])]) (by kernel_rfl)
theorem r304_ok : Ent Go.Proofs.Tryz.prog 304 r304 := ent_of_fact (np := 1) (ks := [0, 2]) (sch := []) (by kernel_rfl)
end Go.Ev

/-
  The evaluator of closed calls: a part.
-/
set_option linter.unusedVariables false
set_option linter.unusedSimpArgs false
set_option maxRecDepth 100000
namespace Go.Ev
theorem r19_ok : Ent Go.Proofs.Tryz.prog 19 r19 := ent_of_fact (np := 2) (ks := [0, 1, 16, 4, 5]) (sch := []) (by kernel_rfl)
theorem r36_ok : Ent Go.Proofs.Tryz.prog 36 r36 := ent_of_fact (np := 2) (ks := [0, 1, 12, 20, 24, 30, 4, 5, 19, 18, 9, 6, 8, 7]) (sch := []) (by kernel_rfl)
theorem r55_ok : Ent Go.Proofs.Tryz.prog 55 r55 := ent_of_fact (np := 1) (ks := [0, 2]) (sch := []) (by kernel_rfl)
theorem r71_ok : Ent Go.Proofs.Tryz.prog 71 r71 := ent_of_fact (np := 1) (ks := [0, 2]) (sch := []) (by kernel_rfl)
theorem r86_ok : Ent Go.Proofs.Tryz.prog 86 r86 := ent_of_fact (np := 1) (ks := [0, 2]) (sch := []) (by kernel_rfl)
theorem r98_ok : Ent Go.Proofs.Tryz.prog 98 r98 := ent_of_fact (np := 2) (ks := [0, 1, 14, 30, 39, 46, 55, 56, 72, 4, 6, 5, 38, 7]) (sch := [(12, [.N 0, .N 1, .N 2, .N 3, .N 4, .N 5, .N 6, .N 7]), (15, [.N 0, .N 1, .N 2, .N 3, .N 4, .N 5, .N 6, .N 7, .N 8, .N 9, .N 10, .N 11, .N 12, .N 13, .N 14])]) (by kernel_rfl)
theorem r115_ok : Ent Go.Proofs.Tryz.prog 115 r115 := ent_of_fact (np := 4) (ks := [0, 1, 2, 3, 24, 33, 38, 43, 46, 52, 8, 9, 6, 11, 12, 10, 32]) (sch := [(3, [.N 0, .N 1, .E 2 [] [1], .E 3 [] []]), (8, [.N 0, .N 1, .E 2 [] [1], .E 3 [] []]), (11, [.N 0, .N 1, .E 2 [] [1], .E 3 [] []]), (15, [.N 0, .N 1, .E 2 [] [1], .E 3 [] []]), (19, [.N 0, .N 1, .E 2 [] [1], .E 3 [] []])]) (by kernel_rfl)
theorem r128_ok : Ent Go.Proofs.Tryz.prog 128 r128 := ent_of_fact (np := 1) (ks := [0, 13, 23, 65, 87, 108, 2, 3, 4, 5, 6, 7, 8, 9]) (sch := [(9, [.N 0, .N 1, .N 2, .N 3, .N 4, .N 5, .N 6, .N 7, .N 8, .N 9, .N 10, .N 11, .N 12]), (11, [.N 0, .N 1, .N 2, .N 3, .N 4, .N 5, .N 6, .N 7, .N 8, .N 9, .N 10, .N 11, .N 12, .N 13, .N 14]), (12, [.N 0, .N 1, .N 2, .N 3, .N 4, .N 5, .N 6, .N 7, .N 8, .N 9, .N 10, .N 11, .N 12]), (16, [.N 0, .N 1, .N 2, .N 3, .N 4, .N 5, .N 6, .N 7, .N 8, .N 9, .N 10, .N 11, .N 12, .N 13, .N 14, .N 15, .N 16])]) (by kernel_rfl)
theorem r143_ok : Ent Go.Proofs.Tryz.prog 143 r143 := ent_of_fact (np := 3) (ks := [0, 1, 2, 28, 36, 43, 50, 71, 76, 91, 95, 99, 122, 6, 7, 27, 10, 8, 42, 41, 40, 12, 9, 70, 69, 68, 13, 14, 15, 90, 89, 88, 17, 19]) (sch := []) (by kernel_rfl)
theorem r157_ok : Ent Go.Proofs.Tryz.prog 157 r157 := ent_of_fact (np := 2) (ks := [0, 1, 23, 44, 47, 53, 58, 59, 62, 63, 70, 4, 3, 22, 6, 5]) (sch := [(1, [.N 0, .N 1, .N 2, .N 3, .N 4, .N 5, .N 6, .N 7, .N 8, .N 9, .N 10, .N 11, .N 12, .N 13, .N 14, .N 15]), (14, [.N 0, .N 1, .N 2, .N 3, .N 4, .N 5, .N 6, .N 7, .N 8, .N 9, .N 10])]) (by kernel_rfl)
theorem r172_ok : Ent Go.Proofs.Tryz.prog 172 r172 := ent_of_fact (np := 3) (ks := [0, 1, 2, 10, 6, 7, 3]) (sch := []) (by kernel_rfl)
theorem r187_ok : Ent Go.Proofs.Tryz.prog 187 r187 := ent_of_fact (np := 2) (ks := [0, 1, 30, 37, 4, 5, 2, 6]) (sch := []) (by kernel_rfl)
theorem r201_ok : Ent Go.Proofs.Tryz.prog 201 r201 := ent_of_fact (np := 1) (ks := [0, 14, 20, 38, 2, 3, 1, 4, 19, 18, 17, 7, 8, 10, 5]) (sch := [(9, [.N 1, .N 2, .E 0 [] [2], .E 3 [] [], .N 4])]) (by kernel_rfl)
theorem r215_ok : Ent Go.Proofs.Tryz.prog 215 r215 := ent_of_fact (np := 4) (ks := [0, 1, 2, 3, 16, 26, 8, 9, 10]) (sch := [(8, [.N 0, .N 1, .N 2, .N 3, .N 4, .N 5, .N 6, .N 7, .N 8, .N 9, .N 10, .N 11, .N 12, .N 13, .N 14, .N 15, .N 16, .N 17, .E 18 [] []])]) (by kernel_rfl)
theorem r230_ok : Ent Go.Proofs.Tryz.prog 230 r230 := ent_of_fact (np := 3) (ks := [0, 1, 2, 13, 25, 33, 38, 49, 66, 76, 82, 89, 101, 105, 6, 5, 12, 8, 7, 10, 9]) (sch := [(6, [.N 0, .N 1, .N 2, .N 3, .N 4, .E 5 [] [], .N 6]), (13, [.N 0, .N 1, .N 2, .N 3, .N 4, .N 5, .N 7, .N 8, .N 9, .N 11, .N 12, .N 13, .E 6 [] [3, 9, 12], .E 10 [] [3, 12], .E 14 [] [], .N 15]), (15, [.N 0, .N 1, .N 2, .N 3, .N 4, .N 5, .E 6 [] [3], .E 7 [] [], .N 8]), (21, [.N 0, .N 1, .N 2, .N 3, .N 4, .N 5, .N 6, .N 7, .N 8, .N 9, .E 10 [] []]), (25, [.N 0, .N 1, .N 2, .N 3, .N 4, .N 5, .N 7, .N 8, .N 9, .N 10, .E 6 [] [3, 10], .E 11 [] [], .N 12])]) (by kernel_rfl)
theorem r247_ok : Ent Go.Proofs.Tryz.prog 247 r247 := ent_of_fact (np := 1) (ks := [0, 12, 29, 36, 47, 50, 68, 90, 104, 106, 2, 3, 1, 4, 6, 5, 49, 7]) (sch := [(11, [.N 0, .N 1, .N 2, .N 3, .N 4, .N 5, .N 6, .N 7, .N 8])]) (by kernel_rfl)
theorem r263_ok : Ent Go.Proofs.Tryz.prog 263 r263 := ent_of_fact (np := 2) (ks := [0, 1, 4, 6, 5]) (sch := []) (by kernel_rfl)
theorem r282_ok : Ent Go.Proofs.Tryz.prog 282 r282 := ent_of_fact (np := 1) (ks := [0, 2]) (sch := []) (by kernel_rfl)
theorem r323_ok : Ent Go.Proofs.Tryz.prog 323 r323 := ent_of_fact (np := 1) (ks := [0, 15, 21, 2, 3, 4, 6, 5, 20, 19, 7, 8]) (sch := []) (by kernel_rfl)
end Go.Ev

