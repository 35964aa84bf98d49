/-
  Parts of one proof, one behind the other.
-/
import Derived.Test.YtbigilbbbmanjaaGreatDoorMg715f5b26a1
import Derived.Test.YtbigilbbbmanjaaGreatDoorMg9c841c0d32
import Derived.Test.YtbigilbbbmanjaaGreatDoorProg
/-
  The evaluator of closed calls: a part.
-/
set_option linter.unusedVariables false
set_option linter.unusedSimpArgs false
set_option maxRecDepth 100000
namespace Go.Ev
theorem r13_ok : Ent Go.Proofs.Tryz.prog 13 r13 := ent_of_fact (np := 2) (ks := [0, 1, 16, 4, 5]) (sch := []) (by kernel_rfl)
theorem r31_ok : Ent Go.Proofs.Tryz.prog 31 r31 := ent_of_fact (np := 3) (ks := [0, 1, 2, 6]) (sch := []) (by kernel_rfl)
theorem r45_ok : Ent Go.Proofs.Tryz.prog 45 r45 := ent_of_fact (np := 1) (ks := [0, 21, 34, 42, 58, 2, 3, 6, 5, 4, 7, 9]) (sch := [(10, [.N 0, .N 1, .N 2, .N 3, .N 4, .N 5])]) (by kernel_rfl)
theorem r65_ok : Ent Go.Proofs.Tryz.prog 65 r65 := ent_of_fact (np := 2) (ks := [0, 1, 30, 32, 41, 67, 73, 78, 4, 6, 60, 5]) (sch := [(0, [.N 0, .N 1, .N 2, .N 3, .N 4, .N 5, .N 6, .N 7, .N 8, .N 9, .N 10, .N 11, .N 12, .N 13, .N 14, .N 15, .N 16, .N 17, .N 18, .N 19, .E 20 [] [3, 7, 11], .E 21 [] [], .N 22]), (5, [.N 0, .N 1, .N 2, .N 3, .N 4, .N 5, .N 6, .N 7, .N 9, .N 10, .N 11, .N 12, .B 17, .B 18, .E 8 [] [3, 12], .E 13 [] [], .N 14, .N 15, .N 16, .E 19 [17, 18] [], .E 20 [] []])]) (by kernel_rfl)
theorem r81_ok : Ent Go.Proofs.Tryz.prog 81 r81 := ent_of_fact (np := 1) (ks := [0, 2]) (sch := []) (by kernel_rfl)
theorem r93_ok : Ent Go.Proofs.Tryz.prog 93 r93 := ent_of_fact (np := 2) (ks := [0, 1, 12, 21, 33, 4, 5, 2, 6, 8, 7]) (sch := [(5, [.N 0, .N 1, .N 2])]) (by kernel_rfl)
theorem r109_ok : Ent Go.Proofs.Tryz.prog 109 r109 := ent_of_fact (np := 1) (ks := [0, 2]) (sch := [(1, [.N 0, .N 1, .N 2, .N 3, .N 4, .N 5, .N 6, .N 8, .N 9, .N 10, .N 11, .N 13, .N 14, .N 15, .N 16, .E 7 [] [11, 16], .E 12 [] [16], .E 17 [] [], .N 18, .N 19, .N 20, .E 21 [] [], .N 22, .N 23, .N 24, .E 25 [] [], .N 26, .N 27, .N 28, .E 29 [] []])]) (by kernel_rfl)
theorem r122_ok : Ent Go.Proofs.Tryz.prog 122 r122 := ent_of_fact (np := 1) (ks := [0, 27, 51, 56, 70, 119, 127, 132, 180, 193, 230, 2, 26, 25, 24, 3, 5, 50, 49, 48, 8, 7, 11, 10, 9, 6, 4, 118, 117, 116, 13, 126, 125, 124, 15, 12, 17, 16, 179, 178, 177, 18, 20]) (sch := [(14, [.N 0, .N 1, .N 3, .N 4, .E 2 [] [4], .E 5 [] [], .N 6]), (17, [.N 0, .N 1, .N 2, .N 3, .N 4, .N 5, .N 6, .B 7, .N 9, .N 10, .N 11, .N 12, .N 13, .N 14, .N 15, .B 16, .E 8 [7] [12], .E 17 [16] [], .N 18, .N 19, .E 20 [] [], .N 21, .N 22, .E 23 [] []]), (29, [.N 0, .N 1, .N 2, .N 3, .N 4, .N 5, .N 6, .N 7, .N 8, .N 9, .N 10, .N 11, .N 12, .N 13, .N 14, .N 15]), (30, [.N 0, .N 1, .N 2, .N 3, .N 4, .N 5, .N 6, .N 7, .N 8, .N 9, .N 10, .N 11, .E 12 [] [5, 7, 9], .N 13, .N 14, .N 15, .N 16, .E 17 [] [], .N 18, .N 19, .E 20 [] []]), (42, [.N 0, .N 1, .N 2, .N 3, .N 4, .N 5, .N 6, .N 7, .N 8, .E 9 [] [], .N 10, .N 11, .E 12 [] []]), (43, [.N 0, .N 1, .N 2, .N 3, .N 4, .N 5, .N 6, .N 7, .N 8, .N 9, .N 10, .N 11])]) (by kernel_rfl)
theorem r137_ok : Ent Go.Proofs.Tryz.prog 137 r137 := ent_of_fact (np := 1) (ks := [0, 7, 16, 21, 24, 26, 29, 2, 3, 4, 5, 6]) (sch := []) (by kernel_rfl)
theorem r150_ok : Ent Go.Proofs.Tryz.prog 150 r150 := ent_of_fact (np := 3) (ks := [0, 1, 2, 13, 6, 7, 4]) (sch := [(2, [.N 0, .N 1, .N 2]), (3, [.N 0, .N 2, .N 3, .B 4, .N 5, .E 1 [] [2], .N 6, .B 7, .N 8, .N 9, .F [4, 7]])]) (by kernel_rfl)
theorem r167_ok : Ent Go.Proofs.Tryz.prog 167 r167 := ent_of_fact (np := 2) (ks := [0, 1, 10, 14, 24, 4, 13, 12, 5]) (sch := [(6, [.N 0, .N 1, .N 2, .N 3, .N 4, .N 5, .N 6, .N 7, .N 8])]) (by kernel_rfl)
theorem r181_ok : Ent Go.Proofs.Tryz.prog 181 r181 := ent_of_fact (np := 5) (ks := [0, 1, 2, 3, 4, 19, 29, 33, 41, 44, 47, 57, 64, 73, 81, 10, 11, 5, 13, 7]) (sch := []) (by kernel_rfl)
theorem r196_ok : Ent Go.Proofs.Tryz.prog 196 r196 := ent_of_fact (np := 3) (ks := [0, 1, 2, 18, 6, 7]) (sch := []) (by kernel_rfl)
theorem r210_ok : Ent Go.Proofs.Tryz.prog 210 r210 := ent_of_fact (np := 2) (ks := [0, 1, 9, 16, 4, 8, 7, 5]) (sch := []) (by kernel_rfl)
theorem r224_ok : Ent Go.Proofs.Tryz.prog 224 r224 := ent_of_fact (np := 2) (ks := [0, 1, 24, 27, 35, 4, 5, 2, 8, 6, 26, 3]) (sch := []) (by kernel_rfl)
theorem r241_ok : Ent Go.Proofs.Tryz.prog 241 r241 := ent_of_fact (np := 2) (ks := [0, 1, 4]) (sch := []) (by kernel_rfl)
theorem r254_ok : Ent Go.Proofs.Tryz.prog 254 r254 := ent_of_fact (np := 1) (ks := [0, 10, 22, 2, 1, 9, 8, 7, 5, 4, 3]) (sch := []) (by kernel_rfl)
theorem r273_ok : Ent Go.Proofs.Tryz.prog 273 r273 := ent_of_fact (np := 2) (ks := [0, 1, 36, 4, 2, 5]) (sch := []) (by kernel_rfl)
theorem r300_ok : Ent Go.Proofs.Tryz.prog 300 r300 := ent_of_fact (np := 2) (ks := [0, 1, 3, 2]) (sch := []) (by kernel_rfl)
end Go.Ev

/-
  The evaluator of closed calls: a part.
-/
set_option linter.unusedVariables false
set_option linter.unusedSimpArgs false
set_option maxRecDepth 100000
namespace Go.Ev
theorem r14_ok : Ent Go.Proofs.Tryz.prog 14 r14 := ent_of_fact (np := 2) (ks := [0, 1, 4]) (sch := []) (by kernel_rfl)
theorem r32_ok : Ent Go.Proofs.Tryz.prog 32 r32 := ent_of_fact (np := 2) (ks := [0, 1, 4]) (sch := []) (by kernel_rfl)
theorem r46_ok : Ent Go.Proofs.Tryz.prog 46 r46 := ent_of_fact (np := 1) (ks := [0, 2]) (sch := []) (by kernel_rfl)
theorem r66_ok : Ent Go.Proofs.Tryz.prog 66 r66 := ent_of_fact (np := 2) (ks := [0, 1, 4, 5]) (sch := [(0, [.N 0, .N 1, .N 2, .N 3, .N 4, .N 5, .N 6, .N 7, .E 8 [] [], .N 9, .N 10, .N 11, .N 12, .N 13]), (1, [.N 0, .N 1, .N 2, .N 3, .N 4, .N 5, .N 6, .N 7, .N 8, .N 9, .N 10, .N 11, .N 12, .N 13, .N 14, .N 15, .N 16, .N 17, .N 18, .N 19, .N 20, .N 21, .N 22, .N 23, .N 24, .N 25, .N 26, .N 27, .E 28 [] [3, 7], .E 29 [] []])]) (by kernel_rfl)
theorem r82_ok : Ent Go.Proofs.Tryz.prog 82 r82 := ent_of_fact (np := 1) (ks := [0, 2]) (sch := []) (by kernel_rfl)
theorem r94_ok : Ent Go.Proofs.Tryz.prog 94 r94 := ent_of_fact (np := 2) (ks := [0, 1, 11, 21, 4, 10, 9, 8, 7, 5]) (sch := []) (by kernel_rfl)
theorem r110_ok : Ent Go.Proofs.Tryz.prog 110 r110 := ent_of_fact (np := 1) (ks := [0, 9, 2, 3]) (sch := [(2, [.N 0, .N 1, .N 2])]) (by kernel_rfl)
theorem r123_ok : Ent Go.Proofs.Tryz.prog 123 r123 := ent_of_fact (np := 2) (ks := [0, 1, 11, 4, 3, 5]) (sch := [(3, [.N 0, .N 1, .N 2, .N 3, .N 4, .N 5, .N 6, .N 7, .N 8, .N 9, .N 10, .N 11, .N 12]), (4, [.N 0, .N 1, .N 2, .N 3, .N 4, .N 5, .N 6, .N 7, .N 8, .N 9, .N 10, .N 11, .N 12, .N 13, .N 14, .N 15, .N 16, .N 17, .N 18, .N 19])]) (by kernel_rfl)
theorem r138_ok : Ent Go.Proofs.Tryz.prog 138 r138 := ent_of_fact (np := 1) (ks := [0, 3, 10, 17, 24, 2]) (sch := []) (by kernel_rfl)
theorem r151_ok : Ent Go.Proofs.Tryz.prog 151 r151 := ent_of_fact (np := 2) (ks := [0, 1, 9, 16, 4, 8, 7, 5]) (sch := []) (by kernel_rfl)
theorem r168_ok : Ent Go.Proofs.Tryz.prog 168 r168 := ent_of_fact (np := 1) (ks := [0, 2]) (sch := []) (by kernel_rfl)
theorem r182_ok : Ent Go.Proofs.Tryz.prog 182 r182 := ent_of_fact (np := 2) (ks := [0, 1, 16, 4, 5]) (sch := []) (by kernel_rfl)
theorem r197_ok : Ent Go.Proofs.Tryz.prog 197 r197 := ent_of_fact (np := 0) (ks := [0]) (sch := []) (by kernel_rfl)
theorem r211_ok : Ent Go.Proofs.Tryz.prog 211 r211 := ent_of_fact (np := 1) (ks := [0, 2, 1]) (sch := []) (by kernel_rfl)
theorem r225_ok : Ent Go.Proofs.Tryz.prog 225 r225 := ent_of_fact (np := 3) (ks := [0, 1, 2, 19, 24, 34, 58, 6, 4, 3, 8, 7]) (sch := [(9, [.N 0, .N 1, .N 2, .N 3, .E 4 [] [1], .N 5, .N 6, .N 7, .E 8 [] []])]) (by kernel_rfl)
theorem r242_ok : Ent Go.Proofs.Tryz.prog 242 r242 := ent_of_fact (np := 1) (ks := [0, 2, 1]) (sch := []) (by kernel_rfl)
theorem r255_ok : Ent Go.Proofs.Tryz.prog 255 r255 := ent_of_fact (np := 1) (ks := [0, 4, 2]) (sch := []) (by kernel_rfl)
theorem r274_ok : Ent Go.Proofs.Tryz.prog 274 r274 := ent_of_fact (np := 1) (ks := [0, 9, 2, 3]) (sch := []) (by kernel_rfl)
theorem r301_ok : Ent Go.Proofs.Tryz.prog 301 r301 := ent_of_fact (np := 2) (ks := [0, 1, 9, 16, 4, 8, 7, 5]) (sch := []) (by kernel_rfl)
end Go.Ev

/-
  The evaluator of closed calls: a part.
-/
set_option linter.unusedVariables false
set_option linter.unusedSimpArgs false
set_option maxRecDepth 100000
namespace Go.Ev
theorem r15_ok : Ent Go.Proofs.Tryz.prog 15 r15 := ent_of_fact (np := 1) (ks := [0, 2]) (sch := []) (by kernel_rfl)
theorem r33_ok : Ent Go.Proofs.Tryz.prog 33 r33 := ent_of_fact (np := 1) (ks := [0, 20, 38, 60, 66, 96, 2, 3, 6, 4, 5, 8, 10, 7, 11, 12, 9]) (sch := [(20, [.N 0, .N 1, .N 2, .N 3, .N 4, .N 5, .N 6, .N 7, .N 8, .E 9 [] []])]) (by kernel_rfl)
theorem r49_ok : Ent Go.Proofs.Tryz.prog 49 r49 := ent_of_fact (np := 2) (ks := [0, 1, 14, 18, 4, 5, 7, 6, 8]) (sch := [(5, [.N 0, .N 1, .N 2])]) (by kernel_rfl)
theorem r67_ok : Ent Go.Proofs.Tryz.prog 67 r67 := ent_of_fact (np := 2) (ks := [0, 1, 10, 4, 5]) (sch := []) (by kernel_rfl)
theorem r83_ok : Ent Go.Proofs.Tryz.prog 83 r83 := ent_of_fact (np := 1) (ks := [0, 11, 2, 4, 3]) (sch := []) (by kernel_rfl)
theorem r95_ok : Ent Go.Proofs.Tryz.prog 95 r95 := ent_of_fact (np := 2) (ks := [0, 1, 4]) (sch := []) (by kernel_rfl)
theorem r111_ok : Ent Go.Proofs.Tryz.prog 111 r111 := ent_of_fact (np := 1) (ks := [0, 9, 2, 3]) (sch := [(2, [.N 0, .N 1, .N 2])]) (by kernel_rfl)
theorem r125_ok : Ent Go.Proofs.Tryz.prog 125 r125 := ent_of_fact (np := 2) (ks := [0, 1, 4, 3]) (sch := [(1, [.N 0, .N 1, .N 2, .N 3, .N 4, .N 5, .N 6, .N 7, .N 8, .N 9, .N 10, .N 11, .N 12, .E 13 [] []])]) (by kernel_rfl)
theorem r139_ok : Ent Go.Proofs.Tryz.prog 139 r139 := ent_of_fact (np := 2) (ks := [0, 1, 4]) (sch := []) (by kernel_rfl)
theorem r152_ok : Ent Go.Proofs.Tryz.prog 152 r152 := ent_of_fact (np := 1) (ks := [0, 2]) (sch := [(1, [.N 0, .N 1, .N 2, .N 3, .N 4, .N 5, .N 6, .N 7, .N 8, .N 9, .N 10, .N 11, .E 12 [] [], .N 13])]) (by kernel_rfl)
theorem r169_ok : Ent Go.Proofs.Tryz.prog 169 r169 := ent_of_fact (np := 2) (ks := [0, 1, 10, 26, 37, 4, 5, 6, 7, 8]) (sch := [(9, [.N 0, .N 1, .N 2, .N 3, .N 4, .N 5, .N 6, .E 7 [] [], .N 8, .N 9])]) (by kernel_rfl)
theorem r183_ok : Ent Go.Proofs.Tryz.prog 183 r183 := ent_of_fact (np := 1) (ks := [0, 31, 2, 3, 4, 6, 5]) (sch := []) (by kernel_rfl)
theorem r198_ok : Ent Go.Proofs.Tryz.prog 198 r198 := ent_of_fact (np := 1) (ks := [0, 2]) (sch := []) (by kernel_rfl)
theorem r212_ok : Ent Go.Proofs.Tryz.prog 212 r212 := ent_of_fact (np := 2) (ks := [0, 1, 16, 4, 5]) (sch := []) (by kernel_rfl)
theorem r226_ok : Ent Go.Proofs.Tryz.prog 226 r226 := ent_of_fact (np := 2) (ks := [0, 1, 15, 30, 44, 52, 4, 5, 2, 7, 3, 8]) (sch := [(4, [.N 0, .N 1, .N 2, .N 3, .N 4, .N 5, .N 6, .N 7, .N 8, .N 9, .N 10, .N 11, .E 12 [] [], .N 13]), (8, [.N 0, .N 1, .N 2, .E 3 [] [1], .N 4, .E 5 [] []])]) (by kernel_rfl)
theorem r244_ok : Ent Go.Proofs.Tryz.prog 244 r244 := ent_of_fact (np := 1) (ks := [0, 6, 22, 27, 38, 41, 43, 2, 3, 4, 5]) (sch := []) (by kernel_rfl)
theorem r256_ok : Ent Go.Proofs.Tryz.prog 256 r256 := ent_of_fact (np := 1) (ks := [0, 4, 2]) (sch := []) (by kernel_rfl)
theorem r275_ok : Ent Go.Proofs.Tryz.prog 275 r275 := ent_of_fact (np := 3) (ks := [0, 1, 2, 19, 25, 6, 7, 18, 17, 16, 8, 9]) (sch := []) (by kernel_rfl)
theorem r302_ok : Ent Go.Proofs.Tryz.prog 302 r302 := ent_of_fact (np := 2) (ks := [0, 1, 10, 4, 2]) (sch := []) (by kernel_rfl)
end Go.Ev

