/-
  Parts of one proof, one behind the other.
-/
import Derived.Test.YtbigilbbbmanjaaGreatDoorMgc1c9c5d636
import Derived.Test.YtbigilbbbmanjaaGreatDoorMg7d290d7844
import Derived.Test.YtbigilbbbmanjaaGreatDoorMg7696287f35
import Derived.Test.YtbigilbbbmanjaaGreatDoorMgff658a3911
import Derived.Test.YtbigilbbbmanjaaGreatDoorMg74d562841f
import Derived.Test.YtbigilbbbmanjaaGreatDoorMgae0f2795f5
import Derived.Test.YtbigilbbbmanjaaGreatDoorMga0578e9981
import Derived.Test.YtbigilbbbmanjaaGreatDoorMg652cb57905
import Derived.Test.YtbigilbbbmanjaaGreatDoorMgc07f990ef8
import Derived.Test.YtbigilbbbmanjaaGreatDoorMg977e02309a
import Derived.Test.YtbigilbbbmanjaaGreatDoorMg564a95180c
import Derived.Test.YtbigilbbbmanjaaGreatDoorMg86d2a5e8e4
import Derived.WalkKit
import Derived.WalkSpells
import Derived.WalkLawsBesides
import Derived.Lib.Hide
import Derived.WalkSmall
import Derived.Maps.AppendAt
import Derived.Test.YtbigilbbbmanjaaGreatDoorRows
import Derived.Test.YtbigilbbbmanjaaGreatDoorMg4cbe558fa1
import Derived.Test.YtbigilbbbmanjaaGreatDoorMgef0f4bd7e4
import Derived.Test.YtbigilbbbmanjaaGreatDoorMg7b77bc9633
import Derived.Test.YtbigilbbbmanjaaGreatDoorMgd1dc1c78e8
import Derived.Test.YtbigilbbbmanjaaGreatDoorMg2115cb04d3
import Derived.Test.YtbigilbbbmanjaaGreatDoorMg9b3e160c59
import Derived.Test.YtbigilbbbmanjaaGreatDoorMg892d52ebca
import Derived.ProofKit
import Derived.OpenShut
import Derived.Lib.SmallJoins
/-
  The evaluator of closed calls: a part.
-/
set_option linter.unusedVariables false
set_option linter.unusedSimpArgs false
set_option maxRecDepth 100000
namespace Go.Ev
theorem etab_ok : TabOk Go.Proofs.Tryz.prog etab := tabOk_of (okN ent_none (okN ent_none (okN (ent_some e5_ok) (okN ent_none (okN (ent_some e85_ok) okL okL okL okL) (okN (ent_some e149_ok) okL okL okL okL) (okN (ent_some e213_ok) okL okL okL okL) okL) (okN (ent_some e37_ok) okL (okN (ent_some e165_ok) okL okL okL okL) okL okL) (okN ent_none (okN (ent_some e117_ok) okL okL okL okL) (okN (ent_some e181_ok) okL okL okL okL) (okN (ent_some e245_ok) okL okL okL okL) okL) (okN ent_none (okN (ent_some e133_ok) okL okL okL okL) (okN (ent_some e197_ok) okL okL okL okL) okL (okN (ent_some e325_ok) okL okL okL okL))) (okN ent_none (okN ent_none (okN (ent_some e89_ok) okL okL okL okL) (okN (ent_some e153_ok) okL okL okL okL) (okN (ent_some e217_ok) okL okL okL okL) okL) (okN (ent_some e41_ok) okL (okN (ent_some e169_ok) okL okL okL okL) okL okL) (okN ent_none (okN (ent_some e121_ok) okL okL okL okL) (okN (ent_some e185_ok) okL okL okL okL) (okN (ent_some e249_ok) okL okL okL okL) okL) (okN ent_none (okN (ent_some e137_ok) okL okL okL okL) (okN (ent_some e201_ok) okL okL okL okL) (okN (ent_some e265_ok) okL okL okL okL) (okN (ent_some e329_ok) okL okL okL okL))) (okN (ent_some e13_ok) (okN (ent_some e29_ok) (okN (ent_some e93_ok) okL okL okL okL) (okN (ent_some e157_ok) okL okL okL okL) (okN (ent_some e221_ok) okL okL okL okL) okL) (okN (ent_some e45_ok) (okN (ent_some e109_ok) okL okL okL okL) (okN (ent_some e173_ok) okL okL okL okL) (okN (ent_some e237_ok) okL okL okL okL) (okN (ent_some e301_ok) okL okL okL okL)) (okN (ent_some e61_ok) (okN (ent_some e125_ok) okL okL okL okL) (okN (ent_some e189_ok) okL okL okL okL) (okN (ent_some e253_ok) okL okL okL okL) okL) (okN ent_none okL (okN (ent_some e205_ok) okL okL okL okL) okL okL)) (okN (ent_some e17_ok) (okN (ent_some e33_ok) (okN (ent_some e97_ok) okL okL okL okL) okL (okN (ent_some e225_ok) okL okL okL okL) okL) (okN ent_none okL (okN (ent_some e177_ok) okL okL okL okL) (okN (ent_some e241_ok) okL okL okL okL) okL) (okN (ent_some e65_ok) okL (okN (ent_some e193_ok) okL okL okL okL) (okN (ent_some e257_ok) okL okL okL okL) okL) (okN (ent_some e81_ok) (okN (ent_some e145_ok) okL okL okL okL) (okN (ent_some e209_ok) okL okL okL okL) (okN (ent_some e273_ok) okL okL okL okL) okL))) (okN ent_none (okN ent_none (okN ent_none (okN (ent_some e86_ok) okL okL okL okL) (okN (ent_some e150_ok) okL okL okL okL) (okN (ent_some e214_ok) okL okL okL okL) okL) (okN (ent_some e38_ok) okL okL (okN (ent_some e230_ok) okL okL okL okL) okL) (okN ent_none (okN (ent_some e118_ok) okL okL okL okL) (okN (ent_some e182_ok) okL okL okL okL) (okN (ent_some e246_ok) okL okL okL okL) okL) (okN (ent_some e70_ok) (okN (ent_some e134_ok) okL okL okL okL) (okN (ent_some e198_ok) okL okL okL okL) (okN (ent_some e262_ok) okL okL okL okL) (okN (ent_some e326_ok) okL okL okL okL))) (okN (ent_some e10_ok) (okN ent_none (okN (ent_some e90_ok) okL okL okL okL) okL (okN (ent_some e218_ok) okL okL okL okL) (okN (ent_some e282_ok) okL okL okL okL)) (okN ent_none okL (okN (ent_some e170_ok) okL okL okL okL) okL (okN (ent_some e298_ok) okL okL okL okL)) (okN (ent_some e58_ok) (okN (ent_some e122_ok) okL okL okL okL) okL (okN (ent_some e250_ok) okL okL okL okL) okL) (okN (ent_some e74_ok) (okN (ent_some e138_ok) okL okL okL okL) (okN (ent_some e202_ok) okL okL okL okL) okL okL)) (okN (ent_some e14_ok) (okN (ent_some e30_ok) (okN (ent_some e94_ok) okL okL okL okL) (okN (ent_some e158_ok) okL okL okL okL) (okN (ent_some e222_ok) okL okL okL okL) okL) (okN (ent_some e46_ok) (okN (ent_some e110_ok) okL okL okL okL) (okN (ent_some e174_ok) okL okL okL okL) (okN (ent_some e238_ok) okL okL okL okL) (okN (ent_some e302_ok) okL okL okL okL)) (okN ent_none (okN (ent_some e126_ok) okL okL okL okL) (okN (ent_some e190_ok) okL okL okL okL) (okN (ent_some e254_ok) okL okL okL okL) okL) (okN (ent_some e78_ok) (okN (ent_some e142_ok) okL okL okL okL) (okN (ent_some e206_ok) okL okL okL okL) (okN (ent_some e270_ok) okL okL okL okL) okL)) (okN (ent_some e18_ok) (okN (ent_some e34_ok) (okN (ent_some e98_ok) okL okL okL okL) (okN (ent_some e162_ok) okL okL okL okL) (okN (ent_some e226_ok) okL okL okL okL) (okN (ent_some e290_ok) okL okL okL okL)) (okN ent_none (okN (ent_some e114_ok) okL okL okL okL) (okN (ent_some e178_ok) okL okL okL okL) (okN (ent_some e242_ok) okL okL okL okL) okL) (okN (ent_some e66_ok) (okN (ent_some e130_ok) okL okL okL okL) okL okL okL) (okN (ent_some e82_ok) (okN (ent_some e146_ok) okL okL okL okL) (okN (ent_some e210_ok) okL okL okL okL) (okN (ent_some e274_ok) okL okL okL okL) okL))) (okN ent_none (okN ent_none (okN (ent_some e23_ok) (okN (ent_some e87_ok) okL okL okL okL) (okN (ent_some e151_ok) okL okL okL okL) (okN (ent_some e215_ok) okL okL okL okL) okL) (okN ent_none (okN (ent_some e103_ok) okL okL okL okL) (okN (ent_some e167_ok) okL okL okL okL) okL (okN (ent_some e295_ok) okL okL okL okL)) (okN (ent_some e55_ok) (okN (ent_some e119_ok) okL okL okL okL) (okN (ent_some e183_ok) okL okL okL okL) (okN (ent_some e247_ok) okL okL okL okL) okL) (okN (ent_some e71_ok) okL (okN (ent_some e199_ok) okL okL okL okL) (okN (ent_some e263_ok) okL okL okL okL) okL)) (okN ent_none (okN ent_none (okN (ent_some e91_ok) okL okL okL okL) (okN (ent_some e155_ok) okL okL okL okL) okL okL) (okN (ent_some e43_ok) (okN (ent_some e107_ok) okL okL okL okL) (okN (ent_some e171_ok) okL okL okL okL) (okN (ent_some e235_ok) okL okL okL okL) (okN (ent_some e299_ok) okL okL okL okL)) (okN ent_none (okN (ent_some e123_ok) okL okL okL okL) (okN (ent_some e187_ok) okL okL okL okL) (okN (ent_some e251_ok) okL okL okL okL) okL) (okN (ent_some e75_ok) (okN (ent_some e139_ok) okL okL okL okL) okL okL okL)) (okN ent_none (okN (ent_some e31_ok) (okN (ent_some e95_ok) okL okL okL okL) (okN (ent_some e159_ok) okL okL okL okL) (okN (ent_some e223_ok) okL okL okL okL) (okN (ent_some e287_ok) okL okL okL okL)) (okN ent_none (okN (ent_some e111_ok) okL okL okL okL) (okN (ent_some e175_ok) okL okL okL okL) (okN (ent_some e239_ok) okL okL okL okL) (okN (ent_some e303_ok) okL okL okL okL)) (okN (ent_some e63_ok) (okN (ent_some e127_ok) okL okL okL okL) (okN (ent_some e191_ok) okL okL okL okL) (okN (ent_some e255_ok) okL okL okL okL) okL) (okN (ent_some e79_ok) (okN (ent_some e143_ok) okL okL okL okL) (okN (ent_some e207_ok) okL okL okL okL) (okN (ent_some e271_ok) okL okL okL okL) okL)) (okN (ent_some e19_ok) (okN (ent_some e35_ok) (okN (ent_some e99_ok) okL okL okL okL) okL (okN (ent_some e227_ok) okL okL okL okL) okL) (okN ent_none (okN (ent_some e115_ok) okL okL okL okL) okL okL okL) (okN (ent_some e67_ok) (okN (ent_some e131_ok) okL okL okL okL) okL okL okL) (okN (ent_some e83_ok) (okN (ent_some e147_ok) okL okL okL okL) (okN (ent_some e211_ok) okL okL okL okL) (okN (ent_some e275_ok) okL okL okL okL) okL))) (okN ent_none (okN ent_none (okN ent_none (okN (ent_some e88_ok) okL okL okL okL) (okN (ent_some e152_ok) okL okL okL okL) (okN (ent_some e216_ok) okL okL okL okL) okL) (okN (ent_some e40_ok) okL (okN (ent_some e168_ok) okL okL okL okL) okL okL) (okN (ent_some e56_ok) (okN (ent_some e120_ok) okL okL okL okL) (okN (ent_some e184_ok) okL okL okL okL) (okN (ent_some e248_ok) okL okL okL okL) okL) (okN (ent_some e72_ok) (okN (ent_some e136_ok) okL okL okL okL) (okN (ent_some e200_ok) okL okL okL okL) (okN (ent_some e264_ok) okL okL okL okL) (okN (ent_some e328_ok) okL okL okL okL))) (okN (ent_some e12_ok) (okN (ent_some e28_ok) (okN (ent_some e92_ok) okL okL okL okL) okL okL okL) (okN (ent_some e44_ok) (okN (ent_some e108_ok) okL okL okL okL) (okN (ent_some e172_ok) okL okL okL okL) (okN (ent_some e236_ok) okL okL okL okL) (okN (ent_some e300_ok) okL okL okL okL)) (okN (ent_some e60_ok) okL (okN (ent_some e188_ok) okL okL okL okL) (okN (ent_some e252_ok) okL okL okL okL) okL) (okN ent_none (okN (ent_some e140_ok) okL okL okL okL) okL okL okL)) (okN ent_none (okN (ent_some e32_ok) (okN (ent_some e96_ok) okL okL okL okL) (okN (ent_some e160_ok) okL okL okL okL) (okN (ent_some e224_ok) okL okL okL okL) okL) (okN ent_none (okN (ent_some e112_ok) (okN (ent_some e368_ok) okL okL okL okL) okL okL okL) (okN (ent_some e176_ok) okL okL okL okL) (okN (ent_some e240_ok) okL okL okL okL) (okN (ent_some e304_ok) okL okL okL okL)) (okN (ent_some e64_ok) (okN (ent_some e128_ok) okL okL okL okL) (okN (ent_some e192_ok) okL okL okL okL) (okN (ent_some e256_ok) okL okL okL okL) okL) (okN (ent_some e80_ok) (okN (ent_some e144_ok) okL okL okL okL) (okN (ent_some e208_ok) okL okL okL okL) (okN (ent_some e272_ok) okL okL okL okL) okL)) (okN (ent_some e20_ok) (okN (ent_some e36_ok) (okN (ent_some e100_ok) okL okL okL okL) (okN (ent_some e164_ok) okL okL okL okL) (okN (ent_some e228_ok) okL okL okL okL) okL) (okN ent_none (okN (ent_some e116_ok) okL okL okL okL) okL (okN (ent_some e244_ok) okL okL okL okL) okL) (okN (ent_some e68_ok) (okN (ent_some e132_ok) okL okL okL okL) (okN (ent_some e196_ok) okL okL okL okL) okL (okN (ent_some e324_ok) okL okL okL okL)) (okN (ent_some e84_ok) (okN (ent_some e148_ok) okL okL okL okL) (okN (ent_some e212_ok) okL okL okL okL) okL okL))))
end Go.Ev

/-
  Plain facts on 32-bit words and on results: no program in sight.
-/
namespace Go.Proofs.YtbigilbbbmanjaaGreatDoor
open Go Go.RowKit

theorem ret_bool {a b : Bool} (h : a = b) : Ending.returned (.bool a) = .returned (.bool b) := by rw [h]

theorem bcell {W w1 : World} (hb : Below W.heap.size W w1) : (∀ b o, b < W.heap.size → w1.cell? ⟨b, o, none⟩ = W.cell? ⟨b, o, none⟩) ∧ (∀ b o, b < W.heap.size → w1.frozen? ⟨b, o, none⟩ = W.frozen? ⟨b, o, none⟩) :=
  ⟨fun b o h => hb.cell (p := ⟨b, o, none⟩) h, fun b o h => hb.frozen (p := ⟨b, o, none⟩) h⟩

/-! A block known whole: its cells, none of them frozen; how it is carried on. -/
theorem blk_cell {w : World} {b : Nat} {cs : Array Value} {t : TypeId} {fr : Nat × Nat} (h : w.heap[b]? = some (.cells cs t fr)) (o : Nat) : w.cell? ⟨b, o, none⟩ = cs[o]? := by
  simp [World.cell?, h]
theorem blk_free {w : World} {b : Nat} {cs : Array Value} {t : TypeId} (h : w.heap[b]? = some (.cells cs t (0, 0))) (o : Nat) : w.frozen? ⟨b, o, none⟩ = false := by
  simp [World.frozen?, h]
theorem blk_new (w : World) (o : Obj) : (w.alloc o).heap[w.heap.size]? = some o := by
  show (w.heap.push o)[w.heap.size]? = some o
  simp
theorem blk_lt {w : World} {b : Nat} {x : Obj} (h : w.heap[b]? = some x) : b < w.heap.size := by
  rcases Nat.lt_or_ge b w.heap.size with h1 | h1
  · exact h1
  · rw [Array.getElem?_eq_none h1] at h; cases h
theorem blk_old {w : World} {b : Nat} {x : Obj} (h : w.heap[b]? = some x) (o : Obj) : (w.alloc o).heap[b]? = some x := by
  rw [Below.heap_alloc _ _ _ (blk_lt h)]; exact h
theorem blk_set {w : World} {b : Nat} {x : Obj} (h : w.heap[b]? = some x) {a : Addr} (ha : b ≠ a.block) (v : Value) : (w.setCell a v).heap[b]? = some x := by
  rw [Below.heap_setCell _ _ _ _ ha]; exact h
theorem blk_drew {w : World} {b : Nat} {x : Obj} (h : w.heap[b]? = some x) : w.drew.heap[b]? = some x := h
theorem blk_below {B : Nat} {w w' : World} {b : Nat} {x : Obj} (h : w.heap[b]? = some x) (hb : Below B w w') (hlt : b < B) : w'.heap[b]? = some x := by
  rw [hb.block b hlt]; exact h
theorem blk_put {w : World} {b : Nat} {cs : Array Value} {t : TypeId} {fr : Nat × Nat} (h : w.heap[b]? = some (.cells cs t fr)) (o : Nat) (v : Value) :
    (w.setCell ⟨b, o, none⟩ v).heap[b]? = some (.cells (cs.setIfInBounds o v) t fr) := by
  simp [World.setCell, Array.getElem?_modify, h]

theorem wrap_u32 {n : Int} (h : 0 ≤ n) (h2 : n ≤ 4294967295) : IntKind.u32.wrap n = n := by
  simp [IntKind.wrap, IntKind.signed, IntKind.bits]
  omega
theorem ofInt_u32 (n : Nat) : (BitVec.ofInt 32 (n : Int)) = BitVec.ofNat 32 n := by
  simp
theorem or_nat (a b : Nat) (h : a < 4294967296) (h2 : b < 4294967296) : bits BinOp.or IntKind.u32 a b = ((a ||| b : Nat) : Int) := by
  have hlt : a ||| b < 2 ^ 32 := Nat.or_lt_two_pow (by simpa using h) (by simpa using h2)
  show IntKind.u32.wrap ((BitVec.ofInt 32 (a : Int) ||| BitVec.ofInt 32 (b : Int)).toNat : Int) = _
  rw [ofInt_u32, ofInt_u32, BitVec.toNat_or, BitVec.toNat_ofNat, BitVec.toNat_ofNat, Nat.mod_eq_of_lt (by simpa using h), Nat.mod_eq_of_lt (by simpa using h2)]
  exact wrap_u32 (by omega) (by omega)
theorem and_nat (a b : Nat) (h : a < 4294967296) (h2 : b < 4294967296) : bits BinOp.and IntKind.u32 a b = ((a &&& b : Nat) : Int) := by
  have hlt : a &&& b < 2 ^ 32 := Nat.and_lt_two_pow a (by simpa using h2)
  show IntKind.u32.wrap ((BitVec.ofInt 32 (a : Int) &&& BitVec.ofInt 32 (b : Int)).toNat : Int) = _
  rw [ofInt_u32, ofInt_u32, BitVec.toNat_and, BitVec.toNat_ofNat, BitVec.toNat_ofNat, Nat.mod_eq_of_lt (by simpa using h), Nat.mod_eq_of_lt (by simpa using h2)]
  exact wrap_u32 (by omega) (by omega)
end Go.Proofs.YtbigilbbbmanjaaGreatDoor

/-
  Rows of cells that a call owns, and what may change: plain facts on worlds, over any program.
-/
namespace Go.Proofs.YtbigilbbbmanjaaGreatDoor
open Go Go.RowKit

/-- words as values -/
def u32s (l : List Int) : List Value := l.map (Value.int .u32)
theorem u32s_one (l : List Int) : ∀ u ∈ u32s l, u.oneCell' = true := ints_oneCell _ _
theorem u32s_len (l : List Int) : (u32s l).length = l.length * 1 := by simp [u32s]

theorem u32s_take (xs : List Int) (k : Nat) (h : k < xs.length) : u32s (xs.take (k + 1)) = u32s (xs.take k) ++ [.int .u32 (xs.getD k 0)] := by
  rw [List.take_succ_eq_append_getElem h, List.getD_eq_getElem?_getD, List.getElem?_eq_getElem h]
  unfold u32s
  rw [List.map_append]
  rfl

/-- w' is w with new blocks, and with writes to blocks of F alone -/
structure Only (F : Nat → Prop) (w w' : World) : Prop where
  os : w'.os = w.os
  tape : w'.tape = w.tape
  output : w'.output = w.output
  size : w.heap.size ≤ w'.heap.size
  block : ∀ k, k < w.heap.size → ¬ F k → w'.heap[k]? = w.heap[k]?

theorem Only.refl (F : Nat → Prop) (w : World) : Only F w w := ⟨rfl, rfl, rfl, Nat.le_refl _, fun _ _ _ => rfl⟩
theorem Only.trans {F : Nat → Prop} {a b c : World} (h : Only F a b) (k : Only F b c) : Only F a c :=
  ⟨k.os.trans h.os, k.tape.trans h.tape, k.output.trans h.output, Nat.le_trans h.size k.size,
    fun i hi hf => (k.block i (Nat.lt_of_lt_of_le hi h.size) hf).trans (h.block i hi hf)⟩
/-- a second step may write to what is new -/
theorem Only.trans' {F G : Nat → Prop} {a b c : World} (h : Only F a b) (k : Only G b c) (hG : ∀ i, G i → F i ∨ a.heap.size ≤ i) : Only F a c :=
  ⟨k.os.trans h.os, k.tape.trans h.tape, k.output.trans h.output, Nat.le_trans h.size k.size,
    fun i hi hf => (k.block i (Nat.lt_of_lt_of_le hi h.size) (fun hg => by rcases hG i hg with h1 | h1; exact hf h1; omega)).trans (h.block i hi hf)⟩
theorem Only.mono {F G : Nat → Prop} {a b : World} (h : Only F a b) (hF : ∀ i, F i → G i ∨ a.heap.size ≤ i) : Only G a b :=
  ⟨h.os, h.tape, h.output, h.size, fun i hi hg => h.block i hi (fun hf => by rcases hF i hf with h1 | h1; exact hg h1; omega)⟩
theorem Only.alloc (F : Nat → Prop) (w : World) (o : Obj) : Only F w (w.alloc o) :=
  ⟨rfl, rfl, rfl, by simp, fun k hk _ => Below.heap_alloc _ _ _ hk⟩
theorem Only.setCell {F : Nat → Prop} {a w : World} (h : Only F a w) {p : Addr} (hp : F p.block ∨ a.heap.size ≤ p.block) (u : Value) : Only F a (w.setCell p u) :=
  ⟨h.os, h.tape, h.output, by simp [World.setCell]; exact h.size, fun k hk hf => by
    rw [Below.heap_setCell _ _ _ _ (fun e => by subst e; rcases hp with h1 | h1; exact hf h1; omega)]
    exact h.block k hk hf⟩
theorem Only.alloc' {F : Nat → Prop} {a w : World} (h : Only F a w) (o : Obj) : Only F a (w.alloc o) := h.trans (Only.alloc F w o)
theorem Only.drew {F : Nat → Prop} {a w : World} (h : Only F a w) : Only F a w.drew := ⟨h.os, h.tape, h.output, h.size, h.block⟩
theorem Only.of_below {F : Nat → Prop} {a w : World} (h : Below a.heap.size a w) : Only F a w := ⟨h.os, h.tape, h.output, h.size, fun k hk _ => h.block k hk⟩
theorem Only.below' {F : Nat → Prop} {a b c : World} (h : Only F a b) (k : Below b.heap.size b c) : Only F a c := h.trans (Only.of_below k)
theorem Only.grown {F : Nat → Prop} {a w w' : World} {row : Option Nat} (h : Only F a w) (hg : w.grownBy w' row) (hr : ∀ k, row = some k → F k ∨ a.heap.size ≤ k) : Only F a w' :=
  h.trans' (G := fun k => some k = row) ⟨hg.os, hg.tape, hg.output, hg.size, fun k hk hne => hg.block k hk hne⟩ (fun i hi => hr i hi.symm)
theorem Only.below {F : Nat → Prop} {a w : World} {B : Nat} (h : Only F a w) (hB : B ≤ a.heap.size) (hF : ∀ k, F k → B ≤ k) : Below B a w :=
  ⟨h.os, h.tape, h.output, h.size, fun k hk => h.block k (by omega) (fun hf => by have := hF k hf; omega)⟩
theorem Only.blk {F : Nat → Prop} {a w : World} {b : Nat} {x : Obj} (h : Only F a w) (hb : a.heap[b]? = some x) (hF : ¬ F b) : w.heap[b]? = some x := by
  rw [h.block b (blk_lt hb) hF]; exact hb

/-- the blocks of a slice value -/
def inRow (v : Value) (k : Nat) : Prop := v.ownBlock = some k

theorem own_frame {w w' : World} {e : TypeId} {size : Nat} {v : Value} {n : Nat} {xs : List Value} (h : w.ownsRow 0 e size v n xs) (hb : ∀ k, inRow v k → w'.heap[k]? = w.heap[k]?) : w'.ownsRow 0 e size v n xs := by
  obtain ⟨h1, h2⟩ := h
  refine ⟨h1, ?_⟩
  rcases h2 with h2 | ⟨g, cap, cur, rfl, hg, hh, r⟩
  · exact .inl h2
  · exact .inr ⟨g, cap, cur, rfl, hg, by rw [hb g rfl]; exact hh, r⟩
theorem own_only {F : Nat → Prop} {w w' : World} {e : TypeId} {size : Nat} {v : Value} {n : Nat} {xs : List Value} (h : w.ownsRow 0 e size v n xs) (ho : Only F w w') (hF : ∀ k, inRow v k → ¬ F k) : w'.ownsRow 0 e size v n xs :=
  own_frame h fun k hk => ho.block k (h.lt k hk).2 (hF k hk)
theorem own_lt {w : World} {e : TypeId} {size : Nat} {v : Value} {n : Nat} {xs : List Value} (h : w.ownsRow 0 e size v n xs) {k : Nat} (hk : inRow v k) : k < w.heap.size := (h.lt k hk).2
theorem own_nil (w : World) (e : TypeId) (size : Nat) : w.ownsRow 0 e size (.slice none 0 0) 0 [] := World.ownsRow_nil w 0 e size
/-- a row's block is of its elements' type -/
theorem own_type {w : World} {e : TypeId} {size : Nat} {v : Value} {n : Nat} {xs : List Value} (h : w.ownsRow 0 e size v n xs) {k : Nat} (hk : inRow v k) : ∃ cur, w.heap[k]? = some (.cells cur e (0, 0)) := by
  rcases h.2 with ⟨rfl, _⟩ | ⟨g, cap, cur, rfl, hg, hh, r⟩
  · simp [inRow, Value.ownBlock] at hk
  · simp [inRow, Value.ownBlock] at hk; subst hk; exact ⟨cur, hh⟩
/-- the shape of an owned value -/
theorem own_shape {w : World} {e : TypeId} {size : Nat} {v : Value} {n : Nat} {xs : List Value} (h : w.ownsRow 0 e size v n xs) : (v = .slice none 0 0 ∧ n = 0 ∧ xs = []) ∨ ∃ g cap, v = .slice (some ⟨g, 0, none⟩) n cap ∧ n ≤ cap ∧ cap ≤ maxLen := by
  rcases h.2 with ⟨rfl, rfl⟩ | ⟨g, cap, cur, rfl, hg, hh, h1, h2, _⟩
  · exact .inl ⟨rfl, rfl, List.eq_nil_of_length_eq_zero (by simpa using h.1)⟩
  · exact .inr ⟨g, cap, rfl, h1, h2⟩
theorem own_slice {w : World} {e : TypeId} {size : Nat} {v : Value} {n : Nat} {xs : List Value} (h : w.ownsRow 0 e size v n xs) : ∃ ao cap, v = .slice ao n cap := by
  rcases own_shape h with ⟨rfl, rfl, rfl⟩ | ⟨g, cap, rfl, -, -⟩
  · exact ⟨_, _, rfl⟩
  · exact ⟨_, _, rfl⟩
/-- rows of unlike types, a row and a block of another type, are apart -/
theorem own_apart {w : World} {e e' : TypeId} {size size' : Nat} {v v' : Value} {n n' : Nat} {xs xs' : List Value} (h : w.ownsRow 0 e size v n xs) (h' : w.ownsRow 0 e' size' v' n' xs') (he : e ≠ e') {k : Nat} (hk : inRow v k) : ¬ inRow v' k := by
  intro hk'
  obtain ⟨c, hc⟩ := own_type h hk
  obtain ⟨c', hc'⟩ := own_type h' hk'
  rw [hc] at hc'
  simp only [Option.some.injEq, Obj.cells.injEq] at hc'
  exact he hc'.2.1
theorem own_not {w : World} {e t : TypeId} {size : Nat} {v : Value} {n : Nat} {xs : List Value} {b : Nat} {cs : Array Value} {fr : Nat × Nat} (h : w.ownsRow 0 e size v n xs) (hb : w.heap[b]? = some (.cells cs t fr)) (he : t ≠ e) : ¬ inRow v b := by
  intro hk
  obtain ⟨c, hc⟩ := own_type h hk
  rw [hb] at hc
  simp only [Option.some.injEq, Obj.cells.injEq] at hc
  exact he hc.2.1
theorem own_set {w : World} {e t : TypeId} {size : Nat} {v : Value} {n : Nat} {xs : List Value} {b : Nat} {cs : Array Value} {fr : Nat × Nat} (h : w.ownsRow 0 e size v n xs) (hb : w.heap[b]? = some (.cells cs t fr)) (he : t ≠ e) (o : Nat) (u : Value) : (w.setCell ⟨b, o, none⟩ u).ownsRow 0 e size v n xs :=
  own_frame h fun k hk => Below.heap_setCell _ _ _ _ (fun hkb => own_not h hb he (by subst hkb; exact hk))
theorem own_grown {w w' : World} {e : TypeId} {size : Nat} {v u : Value} {n : Nat} {xs : List Value} (h : w.ownsRow 0 e size v n xs) (hg : w.grownBy w' u.ownBlock) (hne : ∀ k, inRow v k → ¬ inRow u k) : w'.ownsRow 0 e size v n xs :=
  own_frame h fun k hk => hg.block k (own_lt h hk) (fun e => hne k hk e.symm)
theorem blk_grown {w w' : World} {b : Nat} {x : Obj} {u : Value} (h : w.heap[b]? = some x) (hg : w.grownBy w' u.ownBlock) (hne : ¬ inRow u b) : w'.heap[b]? = some x := by
  rw [hg.block b (blk_lt h) (fun e => hne e.symm)]; exact h

/-- its cells, read -/
theorem own_cell {w : World} {e : TypeId} {size : Nat} {n g cap : Nat} {xs : List Value} (h : w.ownsRow 0 e size (.slice (some ⟨g, 0, none⟩) n cap) n xs) (j : Nat) (hj : j < n * size) : w.cell? ⟨g, j, none⟩ = xs[j]? := h.cellAt j hj
theorem own_free {w : World} {e : TypeId} {size : Nat} {n g cap : Nat} {xs : List Value} (h : w.ownsRow 0 e size (.slice (some ⟨g, 0, none⟩) n cap) n xs) (j : Nat) : w.frozen? ⟨g, j, none⟩ = false := h.frozenAt j

/-- a cell that is there is there behind a new block -/
theorem blk_cell_old {w : World} {a : Addr} {u : Value} (h : w.cell? a = some u) {o : Obj} : (w.alloc o).heap[a.block]? = w.heap[a.block]? :=
  Below.heap_alloc _ _ _ (World.block_lt_of_cell? w a h)

/-- a slice value of n elements that reads as the cells xs (nil, or at an address) -/
def Reads (w : World) (v : Value) (n : Nat) (xs : List Value) : Prop :=
  (v = .slice none 0 0 ∧ n = 0 ∧ xs = []) ∨ ∃ a cap, v = .slice (some a) n cap ∧ ∀ j u, xs[j]? = some u → w.cell? (a.add j) = some u
theorem own_reads {w : World} {e : TypeId} {size : Nat} {v : Value} {n : Nat} {xs : List Value} (h : w.ownsRow 0 e size v n xs) : Reads w v n xs := by
  rcases own_shape h with ⟨rfl, rfl, rfl⟩ | ⟨g, cap, rfl, -, -⟩
  · exact .inl ⟨rfl, rfl, rfl⟩
  · exact .inr ⟨_, cap, rfl, h.cells (g := g) rfl⟩

theorem reads_at {w : World} {v : Value} {n : Nat} {xs : List Value} (h : Reads w v n xs) (hn : xs ≠ []) : ∃ b off cap, v = .slice (some ⟨b, off, none⟩) n cap ∧ ∀ j u, xs[j]? = some u → w.cell? ⟨b, off + j, none⟩ = some u := by
  rcases h with ⟨-, -, rfl⟩ | ⟨a, cap, rfl, hc⟩
  · exact (hn rfl).elim
  · obtain ⟨b, off, spot⟩ := a
    cases xs with
    | nil => exact (hn rfl).elim
    | cons x xs =>
      have h0 := hc 0 x rfl
      have hspot : spot = none := by simpa [Addr.add] using World.cell?_spot h0
      subst hspot
      exact ⟨b, off, cap, rfl, fun j u hj => by have := hc j u hj; rwa [Addr.add_lit] at this⟩

/-- a slice's shape, and its cells -/
theorem reads_cells {w : World} {v : Value} {n : Nat} {xs : List Value} (h : Reads w v n xs) : ∃ ao cap, v = .slice ao n cap ∧ ∀ j u, xs[j]? = some u → ∃ b off, ao = some ⟨b, off, none⟩ ∧ w.cell? ⟨b, off + j, none⟩ = some u ∧ b < w.heap.size := by
  by_cases hx : xs = []
  · subst hx
    rcases h with ⟨rfl, rfl, -⟩ | ⟨a, cap, rfl, -⟩
    · exact ⟨none, 0, rfl, fun j u hj => by simp at hj⟩
    · exact ⟨some a, cap, rfl, fun j u hj => by simp at hj⟩
  · obtain ⟨b, off, cap, rfl, hc⟩ := reads_at h hx
    exact ⟨_, cap, rfl, fun j u hj => ⟨b, off, rfl, hc j u hj, World.block_lt_of_cell? w ⟨b, off + j, none⟩ (hc j u hj)⟩⟩

section
variable {P : Program}

/-- append to an owned row: in place, or into a new block -/
theorem run_append_sep (w : World) (t ty e : TypeId) (i : TypeInfo) (z : Value) (size bytes : Nat) (ht : P.underlying t = some (.slice e)) (hi : P.info? e = some i) (hz : i.zero = some z)
    (hsize : i.size = size) (hby : i.bytes = bytes) (hzs : z.cells.size = size) (hsz : 0 < size)
    (v : Value) (n : Nat) (xs : List Value) (hown : w.ownsRow 0 e size v n xs)
    (a : Addr) (m c : Nat) (news : List Value) (hl : news.length = m * size) (hnews : ∀ j u, news[j]? = some u → w.cell? (a.add j) = some u) (h1 : ∀ u ∈ news, u.oneCell' = true)
    (h63 : n + m ≤ maxLen) (hbytes : (n + m) * bytes ≤ 140737488355328) :
    ∃ v' w', (Builtin.append_ #[t, t] ty #[v, .slice (some a) m c]).run P w = .ok v' w' ∧ w'.ownsRow 0 e size v' (n + m) (xs ++ news) ∧ w.grownBy w' v.ownBlock ∧
      (∀ k, inRow v' k → inRow v k ∨ w.heap.size ≤ k) := by
  by_cases hroom : ∃ g cap, v = .slice (some ⟨g, 0, none⟩) n cap ∧ n + m ≤ cap
  · obtain ⟨g, cap, rfl, hr⟩ := hroom
    obtain ⟨w', hrun, ho, hg⟩ := run_append_fits (P := P) w 0 t ty e i size ht hi hsize g n cap xs hown a m c news hl hnews h1 hr
    exact ⟨_, _, hrun, ho, hg, fun k hk => .inl hk⟩
  · -- it grows: every block of the new value lies behind the heap's end
    have hsmall : ((n + m : Nat) : Int) ≤ 9223372036854775807 := by simp only [maxLen] at h63; omega
    obtain ⟨v', w', hrun, ho, hg, hnil⟩ := run_append_own (P := P) w 0 t ty e i z size bytes ht hi hz hsize hby hzs hsz v n xs hown a m c news hl hnews h1 h63 hbytes (Nat.zero_le _)
    refine ⟨v', w', hrun, ho, hg, ?_⟩
    subst hsize
    subst hby
    rcases hown.2 with ⟨rfl, rfl⟩ | ⟨g, cap, cur, rfl, hbg, hgg, hnc, hcm, hcs, htake⟩
    · have hx : xs = [] := List.eq_nil_of_length_eq_zero (by simpa using hown.1)
      subst hx
      by_cases hm : m = 0
      · have := hnil.2 ⟨rfl, hm⟩
        subst this
        intro k hk
        simp [inRow, Value.ownBlock] at hk
      · have hr := run_append_nil (P := P) w t ty e i z ht hi hz a m c news hl hnews (by omega) (by omega) (by simp only [Nat.zero_add] at hbytes; omega)
        rw [hr] at hrun
        cases hrun
        intro k hk
        simp [inRow, Value.ownBlock] at hk
        exact .inr (by omega)
    · have hroom' : ¬ n + m ≤ cap := fun h => hroom ⟨g, cap, rfl, h⟩
      have holds : ∀ j u, xs[j]? = some u → w.cell? ((⟨g, 0, none⟩ : Addr).add j) = some u := hown.cells (g := g) rfl
      have hr := run_append_grow (P := P) w t ty e i z ht hi hz ⟨g, 0, none⟩ n cap xs hown.1 holds a m c news hl hnews (by omega) hsmall (growslice_fits (by omega) hbytes)
      rw [hr] at hrun
      cases hrun
      intro k hk
      simp [inRow, Value.ownBlock] at hk
      exact .inr (by omega)

theorem wpList_append_sep (w : World) {ops : Array Oper} {rest : List Oper} {o : Oper} {a : Act} {Q : Exit → Act → World → Prop} (hgd : o.guard = none) (s x : Operand) (t : TypeId)
    (ho : o.op = .call { callee := .builtin .append, args := #[s, x], argTypes := #[t, t] })
    (e : TypeId) (i : TypeInfo) (z : Value) (size bytes : Nat) (ht : P.underlying t = some (.slice e)) (hi : P.info? e = some i) (hz : i.zero = some z)
    (hsize : i.size = size) (hby : i.bytes = bytes) (hzs : z.cells.size = size) (hsz : 0 < size)
    (v : Value) (n : Nat) (xs : List Value) (hs : a.eval s = v) (hown : w.ownsRow 0 e size v n xs)
    (ad : Addr) (m c : Nat) (news : List Value) (hx : a.eval x = .slice (some ad) m c) (hl : news.length = m * size) (hnews : ∀ j u, news[j]? = some u → w.cell? (ad.add j) = some u) (h1 : ∀ u ∈ news, u.oneCell' = true)
    (h63 : n + m ≤ maxLen) (hbytes : (n + m) * bytes ≤ 140737488355328)
    (h : ∀ v' w', w'.ownsRow 0 e size v' (n + m) (xs ++ news) → w.grownBy w' v.ownBlock → (∀ k, inRow v' k → inRow v k ∨ w.heap.size ≤ k) → wpList P ops Q rest (a.put o.dst v') w') : wpList P ops Q (o :: rest) a w := by
  refine wpList_plain hgd fun K hK => ?_
  obtain ⟨v', w', hr, h2, h3, h4⟩ := run_append_sep (P := P) w t o.type e i z size bytes ht hi hz hsize hby hzs hsz v n xs hown ad m c news hl hnews h1 h63 hbytes
  unfold Oper.wp execOp
  simp only [ho, resolve, invoke, builtin, Sem.run_bind, Sem.run_pure, Result.andThen_ok, List.map_toArray, List.map_cons, List.map_nil, hs, hx, hr]
  exact hK _ _ (h v' w' h2 h3 h4)
end
end Go.Proofs.YtbigilbbbmanjaaGreatDoor

/-
  Lists of numbers and of bools as values, and slices that read as them. Plain facts, over any program.
-/
namespace Go.Proofs.YtbigilbbbmanjaaGreatDoor
open Go Go.RowKit

def ints (l : List Int) : List Value := l.map (Value.int .i64)
def bls (l : List Bool) : List Value := l.map Value.bool
theorem ints_one (l : List Int) : ∀ u ∈ ints l, u.oneCell' = true := ints_oneCell _ _
theorem bls_one (l : List Bool) : ∀ u ∈ bls l, u.oneCell' = true := by
  intro u hu
  simp only [bls, List.mem_map] at hu
  obtain ⟨b, -, rfl⟩ := hu
  rfl
theorem ints_len (l : List Int) : (ints l).length = l.length * 1 := by simp [ints]
theorem bls_len (l : List Bool) : (bls l).length = l.length * 1 := by simp [bls]
theorem ints_get (l : List Int) (k : Nat) (h : k < l.length) : (ints l)[k]? = some (.int .i64 (l.getD k 0)) := by simp [ints, h]
theorem bls_get (l : List Bool) (k : Nat) (h : k < l.length) : (bls l)[k]? = some (.bool (l.getD k false)) := by simp [bls, h]
theorem u32s_get (l : List Int) (k : Nat) (h : k < l.length) : (u32s l)[k]? = some (.int .u32 (l.getD k 0)) := by simp [u32s, h]
theorem ints_take (xs : List Int) (k : Nat) (h : k < xs.length) : ints (xs.take (k + 1)) = ints (xs.take k) ++ [.int .i64 (xs.getD k 0)] := by
  rw [List.take_succ_eq_append_getElem h, List.getD_eq_getElem?_getD, List.getElem?_eq_getElem h]
  unfold ints
  rw [List.map_append]
  rfl
theorem bls_take (xs : List Bool) (k : Nat) (h : k < xs.length) : bls (xs.take (k + 1)) = bls (xs.take k) ++ [.bool (xs.getD k false)] := by
  rw [List.take_succ_eq_append_getElem h, List.getD_eq_getElem?_getD, List.getElem?_eq_getElem h]
  unfold bls
  rw [List.map_append]
  rfl

theorem cell_one_new2 (w : World) (o : Obj) (x : Value) (t : TypeId) : ∀ j u, [x][j]? = some u → ((w.alloc o).alloc (.cells #[x] t)).cell? ((⟨w.heap.size + 1, 0, none⟩ : Addr).add j) = some u := by
  have := cell_one_new (w.alloc o) x t
  rw [World.size_alloc] at this
  exact this

/-- a cell that is there is there behind a new block -/
theorem cell_past {w : World} {a : Addr} {u : Value} (h : w.cell? a = some u) (o : Obj) : (w.alloc o).cell? a = some u :=
  (((Below.refl _ _).alloc (Nat.le_refl _) o).cell (World.block_lt_of_cell? w a h)).trans h
theorem cell_under {w w' : World} {a : Addr} {u : Value} (h : w.cell? a = some u) (hb : Below w.heap.size w w') : w'.cell? a = some u :=
  (hb.cell (World.block_lt_of_cell? w a h)).trans h

theorem take_eq {α : Type} [Inhabited α] (d : α) {xs ys : List α} {k : Nat} (hx : k < xs.length) (hy : k < ys.length) (h : xs.take k = ys.take k) (e : xs.getD k d = ys.getD k d) : xs.take (k + 1) = ys.take (k + 1) := by
  rw [List.take_succ_eq_append_getElem hx, List.take_succ_eq_append_getElem hy, h]
  rw [List.getD_eq_getElem?_getD, List.getElem?_eq_getElem hx, List.getD_eq_getElem?_getD, List.getElem?_eq_getElem hy] at e
  simp only [Option.getD_some] at e
  rw [e]

/-- a slice's cells, at an address that may be none -/
def AtL (w : World) (ao : Option Addr) (vs : List Value) : Prop := ∀ k u, vs[k]? = some u → ∃ b off, ao = some ⟨b, off, none⟩ ∧ w.cell? ⟨b, off + k, none⟩ = some u ∧ b < w.heap.size
theorem AtL.mono {W w : World} {ao : Option Addr} {vs : List Value} (h : AtL W ao vs) (hb : Below W.heap.size W w) : AtL w ao vs := fun k u hk => by
  obtain ⟨b, off, e, hc, hl⟩ := h k u hk
  exact ⟨b, off, e, (hb.cell (p := ⟨b, off + k, none⟩) hl).trans hc, Nat.lt_of_lt_of_le hl hb.size⟩
theorem AtL.mono' {W w : World} {ao : Option Addr} {vs : List Value} (h : AtL W ao vs) {B : Nat} (hb : Below B W w) (hB : W.heap.size ≤ B) : AtL w ao vs := fun k u hk => by
  obtain ⟨b, off, e, hc, hl⟩ := h k u hk
  exact ⟨b, off, e, (hb.cell (p := ⟨b, off + k, none⟩) (by exact Nat.lt_of_lt_of_le hl hB)).trans hc, Nat.lt_of_lt_of_le hl hb.size⟩
theorem AtL.drewN {W : World} {ao : Option Addr} {vs : List Value} (h : AtL W ao vs) (n : Nat) : AtL (W.drewN n) ao vs := h.mono (below_drewN (Below.refl _ _) n)
theorem atL_of_reads {w : World} {v : Value} {n : Nat} {xs : List Value} (h : Reads w v n xs) : ∃ ao cap, v = .slice ao n cap ∧ AtL w ao xs := reads_cells h
theorem atL_of_own {w : World} {e : TypeId} {size : Nat} {v : Value} {n : Nat} {xs : List Value} (h : w.ownsRow 0 e size v n xs) : ∃ ao cap, v = .slice ao n cap ∧ AtL w ao xs := reads_cells (own_reads h)
theorem atL_nil (w : World) (ao : Option Addr) : AtL w ao [] := fun k u hk => by simp at hk
theorem AtL.take {w : World} {ao : Option Addr} {vs : List Value} (h : AtL w ao vs) (n : Nat) : AtL w ao (vs.take n) := fun k u hk => h k u (by
  rw [List.getElem?_take] at hk
  split at hk
  · exact hk
  · cases hk)
theorem AtL.reads {w : World} {ao : Option Addr} {vs : List Value} {n cap : Nat} (h : AtL w ao vs) (hn : vs = [] → n = 0 ∧ cap = 0) : Reads w (.slice ao n cap) n vs := by
  cases vs with
  | nil =>
    obtain ⟨rfl, rfl⟩ := hn rfl
    cases ao with
    | none => exact .inl ⟨rfl, rfl, rfl⟩
    | some a => exact .inr ⟨a, 0, rfl, fun j u hj => by simp at hj⟩
  | cons x xs =>
    obtain ⟨b, off, rfl, -, -⟩ := h 0 x rfl
    refine .inr ⟨⟨b, off, none⟩, cap, rfl, fun j u hj => ?_⟩
    obtain ⟨b', off', e, hc, -⟩ := h j u hj
    cases e
    rw [Addr.add_lit]
    exact hc

theorem emod_of_tmod {n m : Int} (hn : n < 0) (hm : 0 < m) : (n.tmod m < 0 → n.tmod m + m = n % m) ∧ (¬ n.tmod m < 0 → n.tmod m = n % m) ∧ -m < n.tmod m ∧ n.tmod m ≤ 0 := by
  have h1 := Int.emod_nonneg n (show m ≠ 0 by omega)
  have h2 := Int.emod_lt_of_pos n hm
  have h3 := @Int.tmod_eq_emod n m
  by_cases hd : m ∣ n
  · rw [if_pos (.inr hd)] at h3
    have h4 := Int.emod_eq_zero_of_dvd hd
    omega
  · have hno : ¬ (0 ≤ n ∨ m ∣ n) := fun h => h.elim (fun h => by omega) hd
    rw [if_neg hno] at h3
    have h4 : n % m ≠ 0 := fun h => hd (Int.dvd_of_emod_eq_zero h)
    omega
end Go.Proofs.YtbigilbbbmanjaaGreatDoor

/-
  facadeworld.Number: any number as one from 0 to below a bound.
-/
namespace Go.Proofs.YtbigilbbbmanjaaGreatDoor
open Go.RowKit

set_option maxHeartbeats 400000 in
theorem number_any (n m : Int) (w : World) (h1 : -9223372036854775808 ≤ n) (h2 : n ≤ 9223372036854775807) (hm : 0 < m) (hm2 : m ≤ 1000000000) :
    Calls Tryz.prog 67 #[.int .i64 n, .int .i64 m] w fun e w' => e = .returned (.int .i64 (n % m)) ∧ w = w' := by
  by_cases hn : 0 ≤ n
  · have h3 := Int.emod_nonneg n (show m ≠ 0 by omega)
    have h4 : ¬ n % m < 0 := by omega
    go_enter Tryz.func67, Tryz.ntmps67
    go_wp2
    go_ret
    exact ⟨rfl, rfl⟩
  · obtain ⟨h3, h4, h5, h6⟩ := emod_of_tmod (show n < 0 by omega) hm
    obtain ⟨t, ht⟩ : ∃ t, n.tmod m = t := ⟨_, rfl⟩
    rw [ht] at h3 h4 h5 h6
    have H3 := Lib.hid h3
    have H4 := Lib.hid h4
    have hw := IntWalk.i64_in (t + m) (by omega)
    clear h3 h4
    by_cases hlt : t < 0
    · go_enter Tryz.func67, Tryz.ntmps67
      go_wp2
      go_ret
      exact ⟨by rw [← H3.out hlt]; rfl, rfl⟩
    · go_enter Tryz.func67, Tryz.ntmps67
      go_wp2
      go_ret
      exact ⟨by rw [← H4.out hlt]; rfl, rfl⟩
end Go.Proofs.YtbigilbbbmanjaaGreatDoor

/-
  facadetop.number: any number as one from 0 to below a bound.
-/
namespace Go.Proofs.YtbigilbbbmanjaaGreatDoor
open Go.RowKit

theorem topNumber_any (n m : Int) (w : World) (h1 : -9223372036854775808 ≤ n) (h2 : n ≤ 9223372036854775807) (hm : 0 < m) (hm2 : m ≤ 1000000000) :
    Calls Tryz.prog 14 #[.int .i64 n, .int .i64 m] w fun e w' => e = .returned (.int .i64 (n % m)) ∧ w = w' := by
  have HN := Lib.hid (number_any n m w h1 h2 hm hm2)
  go_enter Tryz.func14, Tryz.ntmps14
  go_wp2_with (go_at_call 67; refine HN.out.mono ?_; rintro _ wx ⟨rfl, rfl⟩)
  go_ret
  exact ⟨rfl, rfl⟩
end Go.Proofs.YtbigilbbbmanjaaGreatDoor

/-
  WholeEvents: works() is known by its evaluation; then each of the twenty cases.
-/
set_option linter.unusedVariables false
set_option linter.unusedSimpArgs false
namespace Go.Proofs.YtbigilbbbmanjaaGreatDoor
open Go.Ev Go.RowKit

theorem val_works : fWorks.val = 10 := by decide +kernel
theorem val_number : fNumber.val = 14 := by decide +kernel
theorem val_events : fEvents.val = 5 := by decide +kernel
theorem globals_le : Tryz.prog.globals.size ≤ nStart.val := by decide +kernel
theorem globals_le' : Tryz.prog.globals.size ≤ 32 := by decide +kernel
theorem works_known : Callable Tryz.prog fWorks.val ∧ KnownOk Tryz.prog fWorks.val trueK := known_of_run etab_ok globals_le works_ev
theorem number_callable : Callable Tryz.prog fNumber.val := ⟨_, by rw [val_number]; exact Tryz.func14, by kernel_rfl, by kernel_rfl⟩
theorem number_known (r : Nat) : KnownOk Tryz.prog fNumber.val (restK r) := rest_known fun i w h1 h2 => by
  rw [val_number]
  exact topNumber_any i 10 w h1 h2 (by decide) (by decide)
theorem tabN_ok (r : Nat) : TabOk Tryz.prog (tabN r) := tabOk_set (tabOk_set etab_ok number_callable (number_known r)) works_known.1 works_known.2
theorem xNum_val : ∀ r, r < 10 → (xNum r).val = 32 + r := by decide +kernel
theorem events_case {r : Nat} {on : Bool} (hr : r < 10) (hev : evF (tabN r) 60 fEvents [.opq (xNum r), .bool on] (.mk .l nStart) (fun v _ => v.onBool true false) = true)
    (n : Int) (w : World) (h1 : -9223372036854775808 ≤ n) (h2 : n ≤ 9223372036854775807) (hn : n % 10 = (r : Int)) :
    Calls Tryz.prog 5 #[.int .i64 n, .bool on] w fun e w' => e = .returned (.bool true) ∧ Below w.heap.size w w' := by
  obtain ⟨_, v, h', hv, hrun⟩ := evF_ok (tabN_ok r) 60 _ _ _ _ hev
  have hx := xNum_val r hr
  have hx2 : (xNum r).val < nStart.val := by have : nStart.val = 64 := by decide +kernel
                                             omega
  have hg := globals_le'
  have hd : denL (numE Tryz.prog (xNum r) n) [.opq (xNum r), .bool on] = some [.int .i64 n, .bool on] :=
    denL_cons.2 ⟨_, _, numE_den (by omega) (by omega) (by rw [hn, hx]; congr 1; omega) h1 h2, denL_cons.2 ⟨_, _, den_bool _ _, rfl, rfl⟩, rfl⟩
  have hc := hrun (numE Tryz.prog (xNum r) n) w _ (numE_good w hx2 globals_le) hd
  rw [val_events] at hc
  refine Calls.mono hc fun e w' hb => ?_
  obtain ⟨x, E', rfl, st, d⟩ := hb
  rcases V.onBool_true hv with ⟨rfl, _⟩ | ⟨_, hf⟩
  · rw [den_bool] at d
    cases d
    exact ⟨rfl, below_of_step st⟩
  · cases hf
theorem wholeEvents_walk (n : Int) (on : Bool) (w : World) (h : -9223372036854775808 ≤ n ∧ n ≤ 9223372036854775807) :
    Calls Tryz.prog 5 #[.int .i64 n, .bool on] w fun e w' => e = .returned (.bool true) ∧ Below w.heap.size w w' := by
  obtain ⟨h1, h2⟩ := h
  have h0 := Int.emod_nonneg n (show (10 : Int) ≠ 0 by decide)
  have h10 := Int.emod_lt_of_pos n (show (0 : Int) < 10 by decide)
  have hc : n % 10 = ((0 : Nat) : Int) ∨ n % 10 = ((1 : Nat) : Int) ∨ n % 10 = ((2 : Nat) : Int) ∨ n % 10 = ((3 : Nat) : Int) ∨ n % 10 = ((4 : Nat) : Int) ∨ n % 10 = ((5 : Nat) : Int) ∨ n % 10 = ((6 : Nat) : Int) ∨ n % 10 = ((7 : Nat) : Int) ∨ n % 10 = ((8 : Nat) : Int) ∨ n % 10 = ((9 : Nat) : Int) := by omega
  rcases hc with e | e | e | e | e | e | e | e | e | e <;> cases on
  · exact events_case (by decide) events_0_false n w h1 h2 e
  · exact events_case (by decide) events_0_true n w h1 h2 e
  · exact events_case (by decide) events_1_false n w h1 h2 e
  · exact events_case (by decide) events_1_true n w h1 h2 e
  · exact events_case (by decide) events_2_false n w h1 h2 e
  · exact events_case (by decide) events_2_true n w h1 h2 e
  · exact events_case (by decide) events_3_false n w h1 h2 e
  · exact events_case (by decide) events_3_true n w h1 h2 e
  · exact events_case (by decide) events_4_false n w h1 h2 e
  · exact events_case (by decide) events_4_true n w h1 h2 e
  · exact events_case (by decide) events_5_false n w h1 h2 e
  · exact events_case (by decide) events_5_true n w h1 h2 e
  · exact events_case (by decide) events_6_false n w h1 h2 e
  · exact events_case (by decide) events_6_true n w h1 h2 e
  · exact events_case (by decide) events_7_false n w h1 h2 e
  · exact events_case (by decide) events_7_true n w h1 h2 e
  · exact events_case (by decide) events_8_false n w h1 h2 e
  · exact events_case (by decide) events_8_true n w h1 h2 e
  · exact events_case (by decide) events_9_false n w h1 h2 e
  · exact events_case (by decide) events_9_true n w h1 h2 e
end Go.Proofs.YtbigilbbbmanjaaGreatDoor

/-
  The step from a walk to a law's row: a call that answers true and turns nothing that was there leaves what the row says.
-/
namespace Go.Proofs.YtbigilbbbmanjaaGreatDoor
open Go.ChangeShapes Go.WideShapes Go.ChangeAt Go.RowKit

/-- every parameter type can be read, and is one of the program's -/
def parsOk (P : Program) (ts : List TypeId) : Bool := ts.all fun t => P.readableRec t && decide (t < P.types.size)

theorem trodAll_stays {H : Type} {enc : TypeId × Value → H} {P : Program} {W W' : World} (hl : laidOutB P = true) (hb : Below W.heap.size W W') :
    ∀ {ts : List TypeId} {vs : List Value} {ds : List (DataW H)} {ps : List MemPlace}, parsOk P ts = true →
      DataW.TrodAll enc P W 0 (fun _ => true) true ts vs ds ps → (∀ x ∈ ps, x.block < W.heap.size) →
      DataW.TrodAll enc P W' 0 (fun b => decide (b < W.heap.size)) true ts vs ds ps
  | [], _, _, _, _, h, _ => by
    obtain ⟨rfl, rfl, rfl⟩ := trodAll_nil h
    exact trodAll_mk0
  | t :: ts, _, _, _, hr, h, hlt => by
    obtain ⟨v, vs', d, ds', p, q, rfl, rfl, rfl, h0, h1⟩ := trodAll_cons h
    simp only [parsOk, List.all_cons, Bool.and_eq_true, decide_eq_true_eq] at hr
    exact trodAll_cons_mk (Below.trod hl hr.1.1 hr.1.2 h0 hb fun x hx => hlt x (by simp [hx])) (trodAll_stays hl hb hr.2 h1 fun x hx => hlt x (by simp [hx]))

theorem law_post {H : Type} {enc : TypeId × Value → H} {P : Program} {fn : Func} {s : ChangeSpec} {bt : TypeId} {W W' : World} {args : Array Value} {ds gs : List (DataW H)} {before : List MemPlace}
    (hl : laidOutB P = true) (hrec : parsOk P fn.params.toList = true) (hres : fn.resultTypes = #[bt]) (hbt : P.underlying bt = some .bool)
    (hvars : s.vars = []) (hW : DataW.Whole enc P fn.params.toList s.vars false W args.toList ds gs before)
    (hfn : s.fn H (ds ++ gs) = { results := [.lit (.bool true)], args := ds }) (hb : Below W.heap.size W W') :
    s.post enc P fn false true false false W args (.bool true) W' := by
  have hW' := hW
  obtain ⟨p, q, hA, hV, rfl, hfz, hnd⟩ := hW
  have hlt : ∀ x ∈ p, x.block < W.heap.size := fun x hx => hW'.lt x (by simp [hx])
  rw [hvars] at hV
  obtain ⟨rfl, rfl⟩ := trodVars_none hV
  refine ⟨ds, [], _, [], p, [], hW', ?_, ?_, ?_, hb.frame _, fun h => by cases h⟩
  · rw [hfn, hres]
    exact trodAll_mk1 (shut_bool hbt _)
  · rw [hfn]
    exact trodAll_stays hl hb hrec hA hlt
  · rw [hfn, hvars]; rfl

/-- a slice of integers that came in: the numbers zs -/
theorem open_reads {H : Type} {enc : TypeId × Value → H} {P : Program} {W : World} {t e : TypeId} {k : IntKind} {v : Value} {d : DataW H} {p : List MemPlace} {r : Reach} {b0 : Nat}
    (ht : P.underlying t = some (.slice e)) (he : P.underlying e = some (.int k)) (hc : P.cellsOf e = 1) (hv : Value.okWide P W r b0 t v) (h : DataW.Trod enc P W 0 (fun _ => true) true t v d p) :
    ∃ zs : List Int, Reads W v zs.length (zs.map (Value.int k)) ∧ zs.length ≤ maxLen ∧ ∀ z ∈ zs, (Lit.int k z).wf = true := by
  obtain ⟨a0, len, cap, rfl⟩ := okWide_slice ht hv
  obtain ⟨fuel, hf⟩ := h
  rcases open_ints ht he hc hf with ⟨hcs, _⟩ | ⟨x, l, c, zs, hcs, _, hl, hm, hz, _, hcell, hwz⟩
  · simp [Value.cells] at hcs
    obtain ⟨rfl, rfl, rfl⟩ := hcs
    exact ⟨[], .inl ⟨rfl, rfl, rfl⟩, by simp, by simp⟩
  · simp [Value.cells] at hcs
    obtain ⟨rfl, rfl, rfl⟩ := hcs
    have hzl : zs.length = cap := by simpa using hz
    have hlen : (zs.take len).length = len := by rw [List.length_take]; omega
    refine ⟨zs.take len, ?_, by omega, fun z hz => hwz z (List.mem_of_mem_take hz)⟩
    rw [hlen]
    refine .inr ⟨x, cap, rfl, fun j u hj => ?_⟩
    have hj' := (List.getElem?_eq_some_iff.1 hj).1
    simp only [List.length_map, hlen] at hj'
    rw [hcell j (by omega)]
    simp only [List.getElem?_map, List.getElem?_take_of_lt hj'] at hj
    rw [← hj, List.getD_eq_getElem?_getD, List.getElem?_eq_getElem (by omega)]
    simp
theorem own : ownKnob Tryz.prog.godebug = none := by kernel_rfl
theorem laidOut : laidOutB Tryz.prog = true := by kernel_rfl
end Go.Proofs.YtbigilbbbmanjaaGreatDoor

