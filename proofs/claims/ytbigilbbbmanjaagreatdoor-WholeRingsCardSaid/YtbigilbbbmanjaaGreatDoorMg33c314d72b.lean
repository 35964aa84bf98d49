/-
  Parts of one proof, one behind the other.
-/
import Derived.Test.YtbigilbbbmanjaaGreatDoorMg298f660452
import Derived.Test.YtbigilbbbmanjaaGreatDoorMgb67cc53e6b
import Derived.Test.YtbigilbbbmanjaaGreatDoorMgfd30170b92
import Derived.Test.YtbigilbbbmanjaaGreatDoorMg63309a8cf8
import Derived.Test.YtbigilbbbmanjaaGreatDoorMg715f5b26a1
import Derived.Test.YtbigilbbbmanjaaGreatDoorMg9c841c0d32
/-
  The evaluator of closed calls: a part.
-/
set_option linter.unusedVariables false
set_option linter.unusedSimpArgs false
set_option maxRecDepth 100000
namespace Go.Ev
theorem rtab_ok : TabOk Go.Proofs.Tryz.prog rtab := tabOk_of (okN ent_none (okN ent_none (okN ent_none (okN (ent_some r21_ok) (okN (ent_some r85_ok) okL okL okL okL) (okN (ent_some r149_ok) okL okL okL okL) (okN (ent_some r213_ok) okL okL okL okL) okL) (okN (ent_some r37_ok) okL (okN (ent_some r165_ok) okL okL okL okL) okL okL) (okN ent_none (okN (ent_some r117_ok) okL okL okL okL) (okN (ent_some r181_ok) okL okL okL okL) (okN (ent_some r245_ok) okL okL okL okL) okL) (okN ent_none (okN (ent_some r133_ok) okL okL okL okL) (okN (ent_some r197_ok) okL okL okL okL) okL (okN (ent_some r325_ok) okL okL okL okL))) (okN ent_none (okN ent_none (okN (ent_some r89_ok) okL okL okL okL) (okN (ent_some r153_ok) okL okL okL okL) (okN (ent_some r217_ok) okL okL okL okL) okL) (okN (ent_some r41_ok) okL (okN (ent_some r169_ok) okL okL okL okL) okL okL) (okN ent_none (okN (ent_some r121_ok) okL okL okL okL) (okN (ent_some r185_ok) okL okL okL okL) (okN (ent_some r249_ok) okL okL okL okL) okL) (okN ent_none (okN (ent_some r137_ok) okL okL okL okL) (okN (ent_some r201_ok) okL okL okL okL) (okN (ent_some r265_ok) okL okL okL okL) (okN (ent_some r329_ok) okL okL okL okL))) (okN (ent_some r13_ok) (okN (ent_some r29_ok) (okN (ent_some r93_ok) okL okL okL okL) (okN (ent_some r157_ok) okL okL okL okL) (okN (ent_some r221_ok) okL okL okL okL) (okN (ent_some r285_ok) okL okL okL okL)) (okN (ent_some r45_ok) (okN (ent_some r109_ok) okL okL okL okL) (okN (ent_some r173_ok) okL okL okL okL) (okN (ent_some r237_ok) okL okL okL okL) (okN (ent_some r301_ok) okL okL okL okL)) (okN (ent_some r61_ok) (okN (ent_some r125_ok) okL okL okL okL) (okN (ent_some r189_ok) okL okL okL okL) (okN (ent_some r253_ok) okL okL okL okL) okL) (okN ent_none okL (okN (ent_some r205_ok) okL okL okL okL) okL okL)) (okN (ent_some r17_ok) (okN (ent_some r33_ok) (okN (ent_some r97_ok) okL okL okL okL) okL (okN (ent_some r225_ok) okL okL okL okL) okL) (okN (ent_some r49_ok) okL (okN (ent_some r177_ok) okL okL okL okL) (okN (ent_some r241_ok) okL okL okL okL) okL) (okN (ent_some r65_ok) okL (okN (ent_some r193_ok) okL okL okL okL) (okN (ent_some r257_ok) okL okL okL okL) okL) (okN (ent_some r81_ok) (okN (ent_some r145_ok) okL okL okL okL) (okN (ent_some r209_ok) okL okL okL okL) (okN (ent_some r273_ok) okL okL okL okL) okL))) (okN ent_none (okN ent_none (okN ent_none (okN (ent_some r86_ok) okL okL okL okL) (okN (ent_some r150_ok) okL okL okL okL) (okN (ent_some r214_ok) okL okL okL okL) okL) (okN (ent_some r38_ok) (okN (ent_some r102_ok) okL okL okL okL) okL (okN (ent_some r230_ok) okL okL okL okL) okL) (okN ent_none (okN (ent_some r118_ok) okL okL okL okL) (okN (ent_some r182_ok) okL okL okL okL) (okN (ent_some r246_ok) okL okL okL okL) okL) (okN (ent_some r70_ok) (okN (ent_some r134_ok) okL okL okL okL) (okN (ent_some r198_ok) okL okL okL okL) (okN (ent_some r262_ok) okL okL okL okL) (okN (ent_some r326_ok) okL okL okL okL))) (okN (ent_some r10_ok) (okN ent_none (okN (ent_some r90_ok) okL okL okL okL) okL (okN (ent_some r218_ok) okL okL okL okL) (okN (ent_some r282_ok) okL okL okL okL)) (okN ent_none okL (okN (ent_some r170_ok) okL okL okL okL) okL (okN (ent_some r298_ok) okL okL okL okL)) (okN (ent_some r58_ok) (okN (ent_some r122_ok) okL okL okL okL) okL (okN (ent_some r250_ok) okL okL okL okL) okL) (okN (ent_some r74_ok) (okN (ent_some r138_ok) okL okL okL okL) (okN (ent_some r202_ok) okL okL okL okL) okL okL)) (okN (ent_some r14_ok) (okN (ent_some r30_ok) (okN (ent_some r94_ok) okL okL okL okL) (okN (ent_some r158_ok) okL okL okL okL) (okN (ent_some r222_ok) okL okL okL okL) okL) (okN (ent_some r46_ok) (okN (ent_some r110_ok) okL okL okL okL) (okN (ent_some r174_ok) okL okL okL okL) (okN (ent_some r238_ok) okL okL okL okL) (okN (ent_some r302_ok) okL okL okL okL)) (okN ent_none (okN (ent_some r126_ok) okL okL okL okL) (okN (ent_some r190_ok) okL okL okL okL) (okN (ent_some r254_ok) okL okL okL okL) okL) (okN (ent_some r78_ok) (okN (ent_some r142_ok) okL okL okL okL) (okN (ent_some r206_ok) okL okL okL okL) (okN (ent_some r270_ok) okL okL okL okL) okL)) (okN (ent_some r18_ok) (okN (ent_some r34_ok) (okN (ent_some r98_ok) okL okL okL okL) (okN (ent_some r162_ok) okL okL okL okL) (okN (ent_some r226_ok) okL okL okL okL) (okN (ent_some r290_ok) okL okL okL okL)) (okN (ent_some r50_ok) (okN (ent_some r114_ok) okL okL okL okL) (okN (ent_some r178_ok) okL okL okL okL) (okN (ent_some r242_ok) okL okL okL okL) okL) (okN (ent_some r66_ok) (okN (ent_some r130_ok) okL okL okL okL) okL okL okL) (okN (ent_some r82_ok) (okN (ent_some r146_ok) okL okL okL okL) (okN (ent_some r210_ok) okL okL okL okL) (okN (ent_some r274_ok) okL okL okL okL) okL))) (okN ent_none (okN ent_none (okN (ent_some r23_ok) (okN (ent_some r87_ok) okL okL okL okL) (okN (ent_some r151_ok) okL okL okL okL) (okN (ent_some r215_ok) okL okL okL okL) okL) (okN ent_none (okN (ent_some r103_ok) okL okL okL okL) (okN (ent_some r167_ok) okL okL okL okL) okL (okN (ent_some r295_ok) okL okL okL okL)) (okN (ent_some r55_ok) (okN (ent_some r119_ok) okL okL okL okL) (okN (ent_some r183_ok) okL okL okL okL) (okN (ent_some r247_ok) okL okL okL okL) okL) (okN (ent_some r71_ok) okL (okN (ent_some r199_ok) okL okL okL okL) (okN (ent_some r263_ok) okL okL okL okL) okL)) (okN ent_none (okN ent_none (okN (ent_some r91_ok) okL okL okL okL) (okN (ent_some r155_ok) okL okL okL okL) okL okL) (okN (ent_some r43_ok) (okN (ent_some r107_ok) okL okL okL okL) (okN (ent_some r171_ok) okL okL okL okL) (okN (ent_some r235_ok) okL okL okL okL) (okN (ent_some r299_ok) okL okL okL okL)) (okN ent_none (okN (ent_some r123_ok) okL okL okL okL) (okN (ent_some r187_ok) okL okL okL okL) (okN (ent_some r251_ok) okL okL okL okL) okL) (okN (ent_some r75_ok) (okN (ent_some r139_ok) okL okL okL okL) okL okL okL)) (okN (ent_some r15_ok) (okN (ent_some r31_ok) (okN (ent_some r95_ok) okL okL okL okL) (okN (ent_some r159_ok) okL okL okL okL) (okN (ent_some r223_ok) okL okL okL okL) (okN (ent_some r287_ok) okL okL okL okL)) (okN ent_none (okN (ent_some r111_ok) okL okL okL okL) (okN (ent_some r175_ok) okL okL okL okL) (okN (ent_some r239_ok) okL okL okL okL) (okN (ent_some r303_ok) okL okL okL okL)) (okN (ent_some r63_ok) (okN (ent_some r127_ok) okL okL okL okL) (okN (ent_some r191_ok) okL okL okL okL) (okN (ent_some r255_ok) okL okL okL okL) okL) (okN (ent_some r79_ok) (okN (ent_some r143_ok) okL okL okL okL) (okN (ent_some r207_ok) okL okL okL okL) (okN (ent_some r271_ok) okL okL okL okL) okL)) (okN (ent_some r19_ok) (okN (ent_some r35_ok) (okN (ent_some r99_ok) okL okL okL okL) okL (okN (ent_some r227_ok) okL okL okL okL) okL) (okN (ent_some r51_ok) (okN (ent_some r115_ok) okL okL okL okL) okL okL okL) (okN (ent_some r67_ok) (okN (ent_some r131_ok) okL okL okL okL) okL okL (okN (ent_some r323_ok) okL okL okL okL)) (okN (ent_some r83_ok) (okN (ent_some r147_ok) okL okL okL okL) (okN (ent_some r211_ok) okL okL okL okL) (okN (ent_some r275_ok) okL okL okL okL) okL))) (okN ent_none (okN (ent_some r8_ok) (okN ent_none (okN (ent_some r88_ok) okL okL okL okL) (okN (ent_some r152_ok) okL okL okL okL) (okN (ent_some r216_ok) okL okL okL okL) (okN (ent_some r280_ok) okL okL okL okL)) (okN (ent_some r40_ok) okL (okN (ent_some r168_ok) okL okL okL okL) okL okL) (okN (ent_some r56_ok) (okN (ent_some r120_ok) okL okL okL okL) (okN (ent_some r184_ok) okL okL okL okL) (okN (ent_some r248_ok) okL okL okL okL) okL) (okN (ent_some r72_ok) (okN (ent_some r136_ok) okL okL okL okL) (okN (ent_some r200_ok) okL okL okL okL) (okN (ent_some r264_ok) okL okL okL okL) (okN (ent_some r328_ok) okL okL okL okL))) (okN (ent_some r12_ok) (okN (ent_some r28_ok) (okN (ent_some r92_ok) okL okL okL okL) okL okL okL) (okN (ent_some r44_ok) (okN (ent_some r108_ok) okL okL okL okL) (okN (ent_some r172_ok) okL okL okL okL) (okN (ent_some r236_ok) okL okL okL okL) (okN (ent_some r300_ok) okL okL okL okL)) (okN (ent_some r60_ok) okL (okN (ent_some r188_ok) okL okL okL okL) (okN (ent_some r252_ok) okL okL okL okL) okL) (okN ent_none (okN (ent_some r140_ok) okL okL okL okL) okL (okN (ent_some r268_ok) okL okL okL okL) okL)) (okN ent_none (okN (ent_some r32_ok) (okN (ent_some r96_ok) okL okL okL okL) (okN (ent_some r160_ok) okL okL okL okL) (okN (ent_some r224_ok) okL okL okL okL) okL) (okN ent_none (okN (ent_some r112_ok) (okN (ent_some r368_ok) okL okL okL okL) okL okL okL) (okN (ent_some r176_ok) okL okL okL okL) (okN (ent_some r240_ok) okL okL okL okL) (okN (ent_some r304_ok) okL okL okL okL)) (okN (ent_some r64_ok) (okN (ent_some r128_ok) okL okL okL okL) (okN (ent_some r192_ok) okL okL okL okL) (okN (ent_some r256_ok) okL okL okL okL) okL) (okN (ent_some r80_ok) (okN (ent_some r144_ok) okL okL okL okL) (okN (ent_some r208_ok) okL okL okL okL) (okN (ent_some r272_ok) okL okL okL okL) okL)) (okN (ent_some r20_ok) (okN (ent_some r36_ok) (okN (ent_some r100_ok) okL okL okL okL) (okN (ent_some r164_ok) okL okL okL okL) (okN (ent_some r228_ok) okL okL okL okL) okL) (okN ent_none (okN (ent_some r116_ok) okL okL okL okL) okL (okN (ent_some r244_ok) okL okL okL okL) okL) (okN (ent_some r68_ok) (okN (ent_some r132_ok) okL okL okL okL) (okN (ent_some r196_ok) okL okL okL okL) okL (okN (ent_some r324_ok) okL okL okL okL)) (okN (ent_some r84_ok) (okN (ent_some r148_ok) okL okL okL okL) (okN (ent_some r212_ok) okL okL okL okL) (okN (ent_some r276_ok) okL okL okL okL) okL))))
end Go.Ev

/-
  The table and the heap in which WholeRings is evaluated: the sentinels' variables, the caller's words; works() and hcall.Code are known.
-/
set_option linter.unusedVariables false
set_option linter.unusedSimpArgs false
namespace Go.Ev
def gSent : List Nat := [12, 5, 0, 1, 11, 3, 4, 13, 7, 6, 10, 9, 2, 14, 15, 16]
def errTy : Nat := 471
def fWorksR : N := ofN 12 10
def fCode : N := ofN 12 228
def fRings : N := ofN 12 8
def argN : N := ofN 12 333
def sentN (k : Nat) : N := ofN 12 (400 + k)
def sentL : List N := (List.range 16).map sentN
/-- the letter of the caller's word k -/
def wordN (k : Nat) : N := ofN 12 (15 + 16 * (k + 2))
/-- the letter of a number whose rest by eight is r -/
def fromN (r : Nat) : N := ofN 12 (14 + 16 * (16 * (8 + r)))
def nR : N := ofN 12 4096
def wordsV (n : Nat) : List V := (List.range n).map fun k => .opq (wordN k)
def sentRow (k : Nat) : List (N × O) := [(ofN 12 (gSent.getD k 0), .arg [.ifc errTy (.ptr (sentN k) 0)] false []), (sentN k, .arg [] true sentL)]
def ringRows (n : Nat) : List (N × O) := match n with
  | 0 => (List.range 16).flatMap sentRow
  | n + 1 => (argN, .arg (wordsV (n + 1)) false []) :: (List.range 16).flatMap sentRow
def tblOf : List (N × O) → T O
  | [] => .l
  | (k, o) :: l => T.set k o (tblOf l)
def ringH (n : Nat) : H := .mk (tblOf (ringRows n)) nR
noncomputable def isRow (o : Option O) (k : Nat) : Bool := match o with
  | some (.arg [.ifc t (.ptr L 0)] _ _) => Nat.beq t errTy && N.beq L (sentN k)
  | _ => false
noncomputable def isSent (o : Option O) : Bool := match o with
  | some (.arg _ true ls) => (List.range 16).all fun j => match ls[j]? with | some L => N.beq L (sentN j) | none => false
  | _ => false
noncomputable def sentsOk (h : H) : Bool := (List.range 16).all fun k => isRow (T.get (ofN 12 (gSent.getD k 0)) h.t) k && isSent (T.get (sentN k) h.t)
noncomputable def sentIdx (L : N) : Option Nat := (List.range 16).find? fun j => N.beq L (sentN j)
noncomputable def codeK : List V → H → KH → Bool := fun xs h k => match xs with
  | [.nili] => k (.int .u32 0) h
  | [.ifc t (.ptr L 0)] => match Nat.beq t errTy, sentIdx L, sentsOk h with | true, some j, true => k (.int .u32 (j + 1)) h | _, _, _ => false
  | _ => false
noncomputable def tabR : T F := T.set fWorksR (.known trueK) (T.set fCode (.known codeK) rtab)
/-- the caller's slice: empty (nil, or not), or of n words -/
def sliceV (n : Nat) : V := match n with | 0 => .slz argN | n + 1 => .sl argN 0 (n + 1) (.v 0)
end Go.Ev

/-
  WholeRings: the letters of a call, and that its heap stands.
-/
set_option linter.unusedVariables false
set_option linter.unusedSimpArgs false
namespace Go.Ev
open Go.RowKit
structure RingIn where
  ws : List Int
  fr : Int
  ao : Addr
  cap : Nat
  S : Nat → Addr
def ringE (G : Nat) (I : RingIn) (r : Nat) : Nm := fun x =>
  if x.val < G then some ⟨x.val, 0, default, .bool false, 0⟩
  else if x.val = 333 then some ⟨I.ao.block, I.cap, I.ao, .bool false, I.ao.off⟩
  else if 400 ≤ x.val ∧ x.val < 416 then some ⟨(I.S (x.val - 400)).block, 0, default, .bool false, (I.S (x.val - 400)).off⟩
  else if x.val % 16 = 15 ∧ 2 ≤ x.val / 16 ∧ x.val / 16 < 2 + I.ws.length ∧ I.ws.length ≤ 8 then some ⟨0, 0, default, .int .u32 (I.ws.getD (x.val / 16 - 2) 0), 0⟩
  else if x.val % 16 = 14 ∧ x.val / 256 = 8 + r ∧ r < 8 then some ⟨0, 0, default, .int .u32 ((I.fr + ((x.val / 16 % 16 : Nat) : Int)) % 4294967296), 0⟩
  else none
theorem argN_val : argN.val = 333 := by decide +kernel
theorem sentN_val : ∀ k, k < 16 → (sentN k).val = 400 + k := by decide +kernel
theorem wordN_val : ∀ k, k < 8 → (wordN k).val = 15 + 16 * (k + 2) := by decide +kernel
theorem fromN_val : ∀ r, r < 8 → (fromN r).val = 14 + 16 * (0 + 16 * (8 + r)) := by decide +kernel
theorem nR_val : nR.val = 4096 := by decide +kernel
theorem gSent_val : ∀ k, k < 16 → (ofN 12 (gSent.getD k 0)).val = gSent.getD k 0 := by decide +kernel
section
variable {P : Program} {I : RingIn} {r : Nat}
theorem ringE_glob {G : Nat} {x : N} (h : x.val < G) : ringE G I r x = some ⟨x.val, 0, default, .bool false, 0⟩ := by
  unfold ringE; rw [if_pos h]
theorem ringE_arg {G : Nat} (hG : G ≤ 32) : ringE G I r argN = some ⟨I.ao.block, I.cap, I.ao, .bool false, I.ao.off⟩ := by
  unfold ringE; rw [argN_val, if_neg (by omega), if_pos rfl]
theorem ringE_sent {G : Nat} (hG : G ≤ 32) {k : Nat} (hk : k < 16) : ringE G I r (sentN k) = some ⟨(I.S k).block, 0, default, .bool false, (I.S k).off⟩ := by
  unfold ringE
  rw [sentN_val k hk, if_neg (by omega), if_neg (by omega), if_pos (by omega), show 400 + k - 400 = k by omega]
theorem ringE_word {G : Nat} (hG : G ≤ 32) {k : Nat} (hk : k < I.ws.length) (h8 : I.ws.length ≤ 8) : ringE G I r (wordN k) = some ⟨0, 0, default, .int .u32 (I.ws.getD k 0), 0⟩ := by
  unfold ringE
  rw [wordN_val k (by omega), if_neg (by omega), if_neg (by omega), if_neg (by omega), if_pos (by omega), show (15 + 16 * (k + 2)) / 16 - 2 = k by omega]
theorem ringE_lin {G : Nat} (hG : G ≤ 32) (hr : r < 8) {j : Nat} (hj : j < 16) {y : N} (hy : y.val = 14 + 16 * (j + 16 * (8 + r))) : ringE G I r y = some ⟨0, 0, default, .int .u32 ((I.fr + (j : Int)) % 4294967296), 0⟩ := by
  unfold ringE
  rw [hy, if_neg (by omega), if_neg (by omega), if_neg (by omega), if_neg (by omega), if_pos (by omega), show (14 + 16 * (j + 16 * (8 + r))) / 16 % 16 = j by omega]
theorem ringE_lt {G : Nat} (hG : G ≤ 32) {x : N} {l : Loc} (h : ringE G I r x = some l) : x.val < 4096 := by
  unfold ringE at h
  split at h
  · omega
  · split at h
    · omega
    · split at h
      · omega
      · split at h
        · omega
        · split at h
          · omega
          · cases h
/-! Tables of rows -/
theorem tblOf_mem : ∀ {l : List (N × O)} {k : N} {o : O}, T.get k (tblOf l) = some o → (k, o) ∈ l
  | [], k, o, h => by rw [show tblOf [] = (.l : T O) from rfl, T.get_l] at h; cases h
  | (i, p) :: l, k, o, h => by
    have h : T.get k (T.set i p (tblOf l)) = some o := h
    by_cases e : i = k
    · subst e
      rw [T.get_set] at h
      cases h
      exact List.mem_cons_self
    · rw [T.get_set_ne p i k _ e] at h
      exact List.mem_cons_of_mem _ (tblOf_mem h)
theorem ringRows_mem {n : Nat} {k : N} {o : O} (h : (k, o) ∈ ringRows n) :
    (0 < n ∧ k = argN ∧ o = .arg (wordsV n) false []) ∨ ∃ j, j < 16 ∧ ((k = ofN 12 (gSent.getD j 0) ∧ o = .arg [.ifc errTy (.ptr (sentN j) 0)] false []) ∨ (k = sentN j ∧ o = .arg [] true sentL)) := by
  have sents : (k, o) ∈ (List.range 16).flatMap sentRow → ∃ j, j < 16 ∧ ((k = ofN 12 (gSent.getD j 0) ∧ o = .arg [.ifc errTy (.ptr (sentN j) 0)] false []) ∨ (k = sentN j ∧ o = .arg [] true sentL)) := fun h => by
    obtain ⟨j, hj, hm⟩ := List.mem_flatMap.1 h
    refine ⟨j, List.mem_range.1 hj, ?_⟩
    unfold sentRow at hm
    rcases List.mem_cons.1 hm with e | hm
    · injection e with e1 e2; exact .inl ⟨e1, e2⟩
    · rcases List.mem_cons.1 hm with e | hm
      · injection e with e1 e2; exact .inr ⟨e1, e2⟩
      · cases hm
  cases n with
  | zero => exact .inr (sents h)
  | succ n =>
    rcases List.mem_cons.1 h with e | h
    · injection e with e1 e2; exact .inl ⟨Nat.succ_pos n, e1, e2⟩
    · exact .inr (sents h)
theorem words_den {G : Nat} (hG : G ≤ 32) (h8 : I.ws.length ≤ 8) : ∀ n m, n + m = I.ws.length → denL (ringE G I r) ((List.range' n m).map fun k => .opq (wordN k)) = some ((I.ws.drop n).map (Value.int .u32))
  | n, 0, h => by rw [List.drop_of_length_le (by omega)]; rfl
  | n, m + 1, h => by
    rw [List.range'_succ, List.map_cons, List.drop_eq_getElem_cons (by omega), List.map_cons]
    refine denL_cons.2 ⟨_, _, ?_, words_den hG h8 (n + 1) m (by omega), rfl⟩
    refine den_opq.2 ⟨_, ringE_word hG (k := n) (by omega) h8, ?_, rfl, fun e => ?_, fun e => ?_, fun _ => ⟨_, rfl⟩⟩
    · simp only [List.getD_eq_getElem?_getD, List.getElem?_eq_getElem (show n < I.ws.length by omega), Option.getD_some]
    · rw [wordN_val n (by omega)] at e; omega
    · rw [wordN_val n (by omega)] at e; omega
theorem wordsV_den {G : Nat} (hG : G ≤ 32) (h8 : I.ws.length ≤ 8) : denL (ringE G I r) (wordsV I.ws.length) = some (I.ws.map (Value.int .u32)) := by
  have := words_den (r := r) hG h8 0 I.ws.length (by omega)
  rw [← List.range_eq_range'] at this
  exact this
theorem from_den {G : Nat} (hG : G ≤ 32) (hr : r < 8) (h0 : 0 ≤ I.fr) (h1 : I.fr < 4294967296) (h2 : I.fr % 8 = (r : Int)) : den (ringE G I r) (.opq (fromN r)) = some (.int .u32 I.fr) := by
  have hv := fromN_val r hr
  have he := ringE_lin (I := I) hG hr (j := 0) (by omega) hv
  rw [Int.emod_eq_of_lt (by omega) (by omega), show I.fr + ((0 : Nat) : Int) = I.fr by omega] at he
  refine den_opq.2 ⟨_, he, rfl, rfl, fun e => by omega, fun _ => ?_, fun e => by omega⟩
  rw [show (fromN r).val / 256 = 8 + r by omega]
  exact ⟨I.fr, h0, h1, by omega, fun j hj y hy => ⟨_, ringE_lin hG hr hj hy, rfl⟩⟩
/-- what is asked of the world of a call -/
structure RingAt (w : World) (I : RingIn) : Prop where
  len : I.ws.length ≤ 8
  words : ∀ (k : Nat) (x : Int), I.ws[k]? = some x → w.cell? ⟨I.ao.block, I.ao.off + k, none⟩ = some (.int .u32 x)
  sent : ∀ k, k < 16 → w.cell? ⟨gSent.getD k 0, 0, none⟩ = some (.iface errTy (.pointer (some (I.S k)))) ∧ (∃ s, w.cell? (I.S k) = some (.string s)) ∧ ∃ c t, w.heap[(I.S k).block]? = some (.cells c t (0, 0))
  apart : ∀ i j, i < 16 → j < 16 → i ≠ j → I.S i ≠ I.S j
theorem cell_some {w : World} {a : Addr} {v : Value} (h : w.cell? a = some v) : ∃ c e fz, w.heap[a.block]? = some (.cells c e fz) ∧ a.spot = none ∧ c[a.off]? = some v := by
  unfold World.cell? at h
  split at h
  · rename_i c e fz hc
    split at h
    · cases h
    · rename_i hs
      refine ⟨c, e, fz, hc, ?_, h⟩
      cases hsp : a.spot with
      | none => rfl
      | some x => rw [hsp] at hs; exact absurd rfl hs
  · cases h
theorem noApart {E : Nm} : Apart E [] := fun i j a b ha => by simp at ha
theorem gSent_lt : ∀ k, k < 16 → gSent.getD k 0 < 17 := by decide +kernel
theorem ring_good {w : World} (hG : P.globals.size ≤ 32) (hG' : 17 ≤ P.globals.size) (h : RingAt w I) : Good P (ringE P.globals.size I r) (ringH I.ws.length) w where
  fresh := fun k l hk => by
    show k.val < nR.val
    rw [nR_val]; exact ringE_lt hG hk
  stand := fun k o hk _ => by
    have hk : T.get k (tblOf (ringRows I.ws.length)) = some o := hk
    rcases ringRows_mem (tblOf_mem hk) with ⟨hn, rfl, rfl⟩ | ⟨j, hj, ⟨rfl, rfl⟩ | ⟨rfl, rfl⟩⟩
    · refine ⟨_, ringE_arg hG, ?_⟩
      obtain ⟨x0, hx0⟩ : ∃ x0, I.ws[0]? = some x0 := ⟨_, List.getElem?_eq_getElem hn⟩
      obtain ⟨c, e, fz, hc, _, _⟩ := cell_some (h.words 0 x0 hx0)
      have hcell : ∀ k x, I.ws[k]? = some x → c[I.ao.off + k]? = some (.int .u32 x) := fun k x hx => by
        obtain ⟨c', e', fz', hc', _, hv⟩ := cell_some (h.words k x hx)
        have hc' : w.heap[I.ao.block]? = some (.cells c' e' fz') := hc'
        rw [hc] at hc'
        cases hc'
        exact hv
      have hlast := hcell (I.ws.length - 1) _ (List.getElem?_eq_getElem (by omega))
      have hsz := (Array.getElem?_eq_some_iff.1 hlast).1
      refine ⟨I.ws.map (Value.int .u32), c.toList.take I.ao.off, c.toList.drop (I.ao.off + I.ws.length), e, fz, wordsV_den hG h.len, ?_, ?_, (fun e => by cases e), noApart⟩
      · rw [List.length_take, Array.length_toList]; show min I.ao.off c.size = I.ao.off; omega
      · show w.heap[I.ao.block]? = _
        rw [hc]
        congr 2
        apply Array.toList_inj.1
        show c.toList = c.toList.take I.ao.off ++ (I.ws.map (Value.int .u32) ++ c.toList.drop (I.ao.off + I.ws.length))
        have hmid : I.ws.map (Value.int .u32) = (c.toList.drop I.ao.off).take I.ws.length := by
          apply List.ext_getElem?
          intro k
          rw [List.getElem?_map]
          by_cases hk : k < I.ws.length
          · rw [List.getElem?_take_of_lt hk, List.getElem?_drop, Array.getElem?_toList, hcell k _ (List.getElem?_eq_getElem hk), List.getElem?_eq_getElem hk]
            rfl
          · rw [List.getElem?_eq_none (by omega), List.getElem?_eq_none (by rw [List.length_take]; omega)]
            rfl
        rw [hmid, ← List.drop_drop, List.take_append_drop, List.take_append_drop]
    · have hlt := gSent_lt j hj
      have hv := gSent_val j hj
      refine ⟨_, ringE_glob (by rw [hv]; omega), ?_⟩
      obtain ⟨h1, ⟨s, h2⟩, _⟩ := h.sent j hj
      obtain ⟨c, e, fz, hc, _, hz⟩ := cell_some h1
      obtain ⟨_, _, _, _, hsp, _⟩ := cell_some h2
      have hd : denL (ringE P.globals.size I r) [.ifc errTy (.ptr (sentN j) 0)] = some [.iface errTy (.pointer (some (I.S j)))] := by
        refine denL_cons.2 ⟨_, [], ?_, rfl, rfl⟩
        simp only [den, ringE_sent hG hj, Nat.add_zero]
        rw [← hsp]
      refine ⟨_, [], c.toList.drop 1, e, fz, hd, rfl, ?_, (fun e => by cases e), noApart⟩
      show w.heap[(ofN 12 (gSent.getD j 0)).val]? = _
      rw [hv]
      rw [show w.heap[gSent.getD j 0]? = _ from hc]
      congr 2
      apply Array.toList_inj.1
      have hz : c.toList[0]? = some (.iface errTy (.pointer (some (I.S j)))) := by rw [Array.getElem?_toList]; exact hz
      cases hcl : c.toList with
      | nil => rw [hcl] at hz; cases hz
      | cons a l => rw [hcl] at hz; cases hz; rfl
    · refine ⟨_, ringE_sent hG hj, ?_⟩
      obtain ⟨_, ⟨s, h2⟩, c', t', h3⟩ := h.sent j hj
      obtain ⟨c, e, fz, hc, hsp, hz⟩ := cell_some h2
      rw [h3] at hc
      cases hc
      have hlt := (Array.getElem?_eq_some_iff.1 hz).1
      refine ⟨[], c'.toList.take (I.S j).off, c'.toList.drop (I.S j).off, t', (0, 0), rfl, ?_, ?_, fun _ => rfl, fun i k a b ha hb hne => ?_⟩
      · rw [List.length_take, Array.length_toList]; show min (I.S j).off c'.size = (I.S j).off; omega
      · show w.heap[(I.S j).block]? = _
        rw [h3]
        congr 2
        apply Array.toList_inj.1
        show c'.toList = c'.toList.take _ ++ ([] ++ c'.toList.drop _)
        rw [List.nil_append, List.take_append_drop]
      · have hi : i < 16 := by have := (List.getElem?_eq_some_iff.1 ha).1; simpa [sentL] using this
        have hk : k < 16 := by have := (List.getElem?_eq_some_iff.1 hb).1; simpa [sentL] using this
        have ea : a = sentN i := by
          simp only [sentL, List.getElem?_map, List.getElem?_range hi, Option.map_some, Option.some.injEq] at ha
          exact ha.symm
        have eb : b = sentN k := by
          simp only [sentL, List.getElem?_map, List.getElem?_range hk, Option.map_some, Option.some.injEq] at hb
          exact hb.symm
        subst ea; subst eb
        refine ⟨_, _, ringE_sent hG hi, ringE_sent hG hk, fun e => h.apart i k hi hk hne ?_⟩
        obtain ⟨e1, e2⟩ := e
        obtain ⟨_, ⟨s1, q1⟩, _⟩ := h.sent i hi
        obtain ⟨_, ⟨s2, q2⟩, _⟩ := h.sent k hk
        obtain ⟨_, _, _, _, sp1, _⟩ := cell_some q1
        obtain ⟨_, _, _, _, sp2, _⟩ := cell_some q2
        have e1 : (I.S i).block = (I.S k).block := e1
        have e2 : (I.S i).off = (I.S k).off := e2
        cases hi' : I.S i with
        | mk b1 o1 p1 =>
          cases hk' : I.S k with
          | mk b2 o2 p2 => simp_all
  inj := fun i j li lj h1 h2 hw => by
    have noW : ∀ {i : N}, Live (ringH I.ws.length) i → ¬ Wr (ringH I.ws.length) i := fun {i} hl hw => by
      obtain ⟨o, ho, _⟩ := hl
      have ho' : T.get i (tblOf (ringRows I.ws.length)) = some o := ho
      rcases ringRows_mem (tblOf_mem ho') with ⟨_, _, rfl⟩ | ⟨j, _, ⟨_, rfl⟩ | ⟨_, rfl⟩⟩
      · exact hw _ _ _ ho
      · exact hw _ _ _ ho
      · exact hw _ _ _ ho
    rcases hw with hw | hw
    · exact absurd hw (noW h1)
    · exact absurd hw (noW h2)
  glob := fun q hq => ⟨_, ringE_glob (by rw [toN_val]; exact hq), toN_val q, rfl⟩
theorem ring_noW {n : Nat} {i : N} (hl : Live (ringH n) i) : ¬ Wr (ringH n) i := fun hw => by
  obtain ⟨o, ho, _⟩ := hl
  have ho' : T.get i (tblOf (ringRows n)) = some o := ho
  rcases ringRows_mem (tblOf_mem ho') with ⟨_, _, rfl⟩ | ⟨j, _, ⟨_, rfl⟩ | ⟨_, rfl⟩⟩
  · exact hw _ _ _ ho
  · exact hw _ _ _ ho
  · exact hw _ _ _ ho
theorem ring_below {n : Nat} {E E' : Nm} {h' : H} {w w' : World} (s : Step P E (ringH n) w E' h' w') : Below w.heap.size w w' :=
  ⟨s.os, s.tape, s.output, s.size, fun b hb => s.frame b hb (fun k l hl hw => absurd hw (ring_noW hl))⟩
/-- a call that changed no block that was there -/
theorem step_below {E : Nm} {h : H} {w w' : World} (g : Good P E h w) (hb : Below w.heap.size w w') : Step P E h w E h w' :=
  ⟨Ext.refl E, ⟨g.fresh, fun k o h1 h2 => by
      obtain ⟨l, h3, h4⟩ := g.stand k o h1 h2
      exact ⟨l, h3, h4.ext (Ext.refl E) (hb.block _ (h4.lt h2))⟩, g.inj, g.glob⟩, Nat.le_refl _, fun _ _ h => .inl h, fun k l h1 h2 => .inl ⟨k, l, h1, h2, rfl⟩, fun k l h1 hw h2 => .inl ⟨k, l, h1, hw, h2, rfl⟩,
    fun b hb' _ => hb.block b hb', hb.size, hb.os, hb.tape, hb.output⟩
end
end Go.Ev

