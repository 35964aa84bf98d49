/-
  info.Of: what words are.
-/
import Derived.Test.YtmeljclaocgoaaaDoorInf2
import Derived.Test.YtmeljclaocgoaaaDoorSee
namespace Go.Proofs.YtmeljclaocgoaaaDoor
open Go.RowKit

set_option linter.unusedSimpArgs false

theorem u64_in (x : Int) (h : 0 ≤ x ∧ x < 18446744073709551616) : IntKind.u64.wrap x = x := by
  have h1 : IntKind.u64.wrap x = x % 18446744073709551616 := rfl
  rw [h1]
  omega
theorem or_u64 (a b : Nat) (h : a < 4294967296) (h2 : b < 4294967296) : bits BinOp.or IntKind.u64 (a : Int) ((b : Int) * 4294967296) = (a : Int) + (b : Int) * 4294967296 := by
  have e1 : (b : Int) * 4294967296 = ((2 ^ 32 * b : Nat) : Int) := by omega
  have e2 : a ||| 2 ^ 32 * b = 2 ^ 32 * b + a := by
    rw [Nat.or_comm]
    exact (Nat.two_pow_add_eq_or_of_lt (by omega) b).symm
  have o1 : ∀ x : Nat, BitVec.ofInt 64 (x : Int) = BitVec.ofNat 64 x := fun x => by apply BitVec.eq_of_toNat_eq; simp
  rw [e1]
  show IntKind.u64.wrap ((BitVec.ofInt 64 (a : Int) ||| BitVec.ofInt 64 ((2 ^ 32 * b : Nat) : Int)).toNat : Int) = _
  rw [o1, o1, BitVec.toNat_or, BitVec.toNat_ofNat, BitVec.toNat_ofNat, Nat.mod_eq_of_lt (by omega), Nat.mod_eq_of_lt (by omega), e2, u64_in _ (by omega)]
  omega
theorem or_u64' (a b : Nat) (h : a < 4294967296) (h2 : b < 4294967296) : bits BinOp.or IntKind.u64 ((b : Int) * 4294967296) (a : Int) = (a : Int) + (b : Int) * 4294967296 := by
  have e1 : (b : Int) * 4294967296 = ((2 ^ 32 * b : Nat) : Int) := by omega
  have e2 : 2 ^ 32 * b ||| a = 2 ^ 32 * b + a := (Nat.two_pow_add_eq_or_of_lt (by omega) b).symm
  have o1 : ∀ x : Nat, BitVec.ofInt 64 (x : Int) = BitVec.ofNat 64 x := fun x => by apply BitVec.eq_of_toNat_eq; simp
  rw [e1]
  show IntKind.u64.wrap ((BitVec.ofInt 64 ((2 ^ 32 * b : Nat) : Int) ||| BitVec.ofInt 64 (a : Int)).toNat : Int) = _
  rw [o1, o1, BitVec.toNat_or, BitVec.toNat_ofNat, BitVec.toNat_ofNat, Nat.mod_eq_of_lt (by omega), Nat.mod_eq_of_lt (by omega), e2, u64_in _ (by omega)]
  omega
/-- the time's two halves -/
theorem time_facts (x2 x3 : Int) (h2 : 0 ≤ x2 ∧ x2 ≤ 4294967295) (h3 : 0 ≤ x3 ∧ x3 ≤ 4294967295) : IntKind.u64.wrap x2 = x2 ∧ IntKind.u64.wrap x3 = x3 ∧ IntKind.u64.wrap (x3 * 4294967296) = x3 * 4294967296 ∧
    bits BinOp.or IntKind.u64 x2 (x3 * 4294967296) = x2 + x3 * 4294967296 ∧ bits BinOp.or IntKind.u64 (x3 * 4294967296) x2 = x2 + x3 * 4294967296 := by
  obtain ⟨a, rfl⟩ := Int.eq_ofNat_of_zero_le h2.1
  obtain ⟨b, rfl⟩ := Int.eq_ofNat_of_zero_le h3.1
  exact ⟨u64_in _ (by omega), u64_in _ (by omega), u64_in _ (by omega), or_u64 a b (by omega) (by omega), or_u64' a b (by omega) (by omega)⟩

/-- sixteen words -/
def Cells16 (w : World) (b off : Nat) (l : List Int) : Prop := ∀ k, k < 16 → w.cell? ⟨b, off + k, none⟩ = some (.int .u32 (l.getD k 0))
theorem cells16 {w : World} {ao : Option Addr} {l : List Int} (hx : AtL w ao (u32s l)) (h16 : l.length = 16) : ∃ b off, ao = some ⟨b, off, none⟩ ∧ Cells16 w b off l ∧ AtL w (some ⟨b, off + 7, none⟩) (u32s (l.drop 7)) := by
  obtain ⟨b, off, rfl, c0, hb⟩ := hx 0 _ (u32s_get l 0 (by omega))
  refine ⟨b, off, rfl, fun k hk => ?_, fun k u hk => ?_⟩
  · obtain ⟨b', off', e, h, -⟩ := hx k _ (u32s_get l k (by omega))
    cases e
    exact h
  · have hk' : (u32s l)[7 + k]? = some u := by
      rw [← hk]
      simp [u32s, List.getElem?_drop]
    obtain ⟨b', off', e, h, hl⟩ := hx _ _ hk'
    cases e
    exact ⟨b, off + 7, rfl, by rw [Nat.add_assoc]; exact h, hl⟩
theorem getD_in {l : List Int} (hr : ∀ z ∈ l, 0 ≤ z ∧ z ≤ 4294967295) (k : Nat) : 0 ≤ l.getD k 0 ∧ l.getD k 0 ≤ 4294967295 := by
  by_cases h : k < l.length
  · exact hr _ (by rw [List.getD_eq_getElem?_getD, List.getElem?_eq_getElem h]; exact List.getElem_mem _)
  · rw [List.getD_eq_getElem?_getD, List.getElem?_eq_none (by omega)]
    simp

def infOK (l : List Int) : Bool := decide (l.length = 16) && decide (l.getD 4 0 ≤ 1) && !nzIs (l.drop 7) && decide (l.getD 5 0 ≤ 256) && decide (l.getD 6 0 ≤ 256) && decide (l.getD 2 0 + l.getD 3 0 * 4294967296 ≤ 1099511627776)
theorem inf_blk (w : World) (n : Nat) : Below w.heap.size w ((w.alloc (.cells #[.int .u32 0, .int .u32 0, .int .i64 0, .bool false, .int .i64 0, .int .i64 0] 24)).drewN n) := below_drewN ((Below.refl _ _).alloc (Nat.le_refl _) _) n
theorem inf_put (w : World) (n : Nat) (v0 v1 v2 v3 v4 v5 : Value) : Below w.heap.size w (((((((w.alloc (.cells #[.int .u32 0, .int .u32 0, .int .i64 0, .bool false, .int .i64 0, .int .i64 0] 24)).drewN n).setCell ⟨w.heap.size, 0, none⟩ v0).setCell ⟨w.heap.size, 1, none⟩ v1).setCell ⟨w.heap.size, 2, none⟩ v2).setCell ⟨w.heap.size, 3, none⟩ v3).setCell ⟨w.heap.size, 4, none⟩ v4 |>.setCell ⟨w.heap.size, 5, none⟩ v5) :=
  ((((((inf_blk w n).setCell (p := ⟨w.heap.size, 0, none⟩) (Nat.le_refl _) v0).setCell (p := ⟨w.heap.size, 1, none⟩) (Nat.le_refl _) v1).setCell (p := ⟨w.heap.size, 2, none⟩) (Nat.le_refl _) v2).setCell (p := ⟨w.heap.size, 3, none⟩) (Nat.le_refl _) v3).setCell (p := ⟨w.heap.size, 4, none⟩) (Nat.le_refl _) v4).setCell (p := ⟨w.heap.size, 5, none⟩) (Nat.le_refl _) v5
theorem inf_put_blk (w : World) (n : Nat) (v0 v1 v2 v3 v4 v5 : Value) : (((((((w.alloc (.cells #[.int .u32 0, .int .u32 0, .int .i64 0, .bool false, .int .i64 0, .int .i64 0] 24)).drewN n).setCell ⟨w.heap.size, 0, none⟩ v0).setCell ⟨w.heap.size, 1, none⟩ v1).setCell ⟨w.heap.size, 2, none⟩ v2).setCell ⟨w.heap.size, 3, none⟩ v3).setCell ⟨w.heap.size, 4, none⟩ v4 |>.setCell ⟨w.heap.size, 5, none⟩ v5).heap[w.heap.size]? = some (.cells #[v0, v1, v2, v3, v4, v5] 24 (0, 0)) := by
  have h0 : ((w.alloc (.cells #[.int .u32 0, .int .u32 0, .int .i64 0, .bool false, .int .i64 0, .int .i64 0] 24)).drewN n).heap[w.heap.size]? = some (.cells #[.int .u32 0, .int .u32 0, .int .i64 0, .bool false, .int .i64 0, .int .i64 0] 24 (0, 0)) := by
    rw [(below_drewN (Below.refl (w.alloc (.cells #[.int .u32 0, .int .u32 0, .int .i64 0, .bool false, .int .i64 0, .int .i64 0] 24)).heap.size _) n).block _ (by simp)]
    exact blk_new w _
  exact blk_put (blk_put (blk_put (blk_put (blk_put (blk_put h0 0 v0) 1 v1) 2 v2) 3 v3) 4 v4) 5 v5
theorem inf_put_0 (w : World) (n : Nat) (v0 v1 v2 v3 v4 v5 : Value) : (((((((w.alloc (.cells #[.int .u32 0, .int .u32 0, .int .i64 0, .bool false, .int .i64 0, .int .i64 0] 24)).drewN n).setCell ⟨w.heap.size, 0, none⟩ v0).setCell ⟨w.heap.size, 1, none⟩ v1).setCell ⟨w.heap.size, 2, none⟩ v2).setCell ⟨w.heap.size, 3, none⟩ v3).setCell ⟨w.heap.size, 4, none⟩ v4 |>.setCell ⟨w.heap.size, 5, none⟩ v5).cell? ⟨w.heap.size, 0, none⟩ = some v0 := blk_cell (inf_put_blk w n v0 v1 v2 v3 v4 v5) 0
theorem inf_put_1 (w : World) (n : Nat) (v0 v1 v2 v3 v4 v5 : Value) : (((((((w.alloc (.cells #[.int .u32 0, .int .u32 0, .int .i64 0, .bool false, .int .i64 0, .int .i64 0] 24)).drewN n).setCell ⟨w.heap.size, 0, none⟩ v0).setCell ⟨w.heap.size, 1, none⟩ v1).setCell ⟨w.heap.size, 2, none⟩ v2).setCell ⟨w.heap.size, 3, none⟩ v3).setCell ⟨w.heap.size, 4, none⟩ v4 |>.setCell ⟨w.heap.size, 5, none⟩ v5).cell? ⟨w.heap.size, 1, none⟩ = some v1 := blk_cell (inf_put_blk w n v0 v1 v2 v3 v4 v5) 1
theorem inf_put_2 (w : World) (n : Nat) (v0 v1 v2 v3 v4 v5 : Value) : (((((((w.alloc (.cells #[.int .u32 0, .int .u32 0, .int .i64 0, .bool false, .int .i64 0, .int .i64 0] 24)).drewN n).setCell ⟨w.heap.size, 0, none⟩ v0).setCell ⟨w.heap.size, 1, none⟩ v1).setCell ⟨w.heap.size, 2, none⟩ v2).setCell ⟨w.heap.size, 3, none⟩ v3).setCell ⟨w.heap.size, 4, none⟩ v4 |>.setCell ⟨w.heap.size, 5, none⟩ v5).cell? ⟨w.heap.size, 2, none⟩ = some v2 := blk_cell (inf_put_blk w n v0 v1 v2 v3 v4 v5) 2
theorem inf_put_3 (w : World) (n : Nat) (v0 v1 v2 v3 v4 v5 : Value) : (((((((w.alloc (.cells #[.int .u32 0, .int .u32 0, .int .i64 0, .bool false, .int .i64 0, .int .i64 0] 24)).drewN n).setCell ⟨w.heap.size, 0, none⟩ v0).setCell ⟨w.heap.size, 1, none⟩ v1).setCell ⟨w.heap.size, 2, none⟩ v2).setCell ⟨w.heap.size, 3, none⟩ v3).setCell ⟨w.heap.size, 4, none⟩ v4 |>.setCell ⟨w.heap.size, 5, none⟩ v5).cell? ⟨w.heap.size, 3, none⟩ = some v3 := blk_cell (inf_put_blk w n v0 v1 v2 v3 v4 v5) 3
theorem inf_put_4 (w : World) (n : Nat) (v0 v1 v2 v3 v4 v5 : Value) : (((((((w.alloc (.cells #[.int .u32 0, .int .u32 0, .int .i64 0, .bool false, .int .i64 0, .int .i64 0] 24)).drewN n).setCell ⟨w.heap.size, 0, none⟩ v0).setCell ⟨w.heap.size, 1, none⟩ v1).setCell ⟨w.heap.size, 2, none⟩ v2).setCell ⟨w.heap.size, 3, none⟩ v3).setCell ⟨w.heap.size, 4, none⟩ v4 |>.setCell ⟨w.heap.size, 5, none⟩ v5).cell? ⟨w.heap.size, 4, none⟩ = some v4 := blk_cell (inf_put_blk w n v0 v1 v2 v3 v4 v5) 4
theorem inf_put_5 (w : World) (n : Nat) (v0 v1 v2 v3 v4 v5 : Value) : (((((((w.alloc (.cells #[.int .u32 0, .int .u32 0, .int .i64 0, .bool false, .int .i64 0, .int .i64 0] 24)).drewN n).setCell ⟨w.heap.size, 0, none⟩ v0).setCell ⟨w.heap.size, 1, none⟩ v1).setCell ⟨w.heap.size, 2, none⟩ v2).setCell ⟨w.heap.size, 3, none⟩ v3).setCell ⟨w.heap.size, 4, none⟩ v4 |>.setCell ⟨w.heap.size, 5, none⟩ v5).cell? ⟨w.heap.size, 5, none⟩ = some v5 := blk_cell (inf_put_blk w n v0 v1 v2 v3 v4 v5) 5
def infZ : InfS := ⟨0, 0, 0, false, 0, 0⟩
def infOf (l : List Int) : InfS := if infOK l = true then ⟨l.getD 0 0, l.getD 1 0, l.getD 2 0 + l.getD 3 0 * 4294967296, l.getD 4 0 == 1, l.getD 5 0, l.getD 6 0⟩ else infZ
theorem infOf_ok {l : List Int} (h : infOK l = true) : infOf l = ⟨l.getD 0 0, l.getD 1 0, l.getD 2 0 + l.getD 3 0 * 4294967296, l.getD 4 0 == 1, l.getD 5 0, l.getD 6 0⟩ := if_pos h
theorem infOf_no {l : List Int} (h : infOK l = false) : infOf l = infZ := if_neg (by rw [h]; decide)

set_option maxRecDepth 100000 in
set_option maxHeartbeats 1600000 in
theorem of_bad (a : Addr) (l : List Int) (n c : Nat) (ao : Option Addr) (w : World) (hE : w.cell? ⟨0, 0, none⟩ = some (errV a)) (hx : AtL w ao (u32s l)) (hcap : n ≤ c) (hr : ∀ z ∈ l, 0 ≤ z ∧ z ≤ 4294967295) (hn : l.length = n) (hbad : infOK l = false) :
    Calls Tryd.prog 16 #[.slice ao n c] w fun e w' => e = .returned (.tuple #[infV infZ, errV a]) ∧ Below w.heap.size w w' := by
  by_cases h16 : n = 16
  · obtain rfl := h16
    have h16 : l.length = 16 := hn
    obtain ⟨b, off, rfl, hc, hd⟩ := cells16 hx h16
    have c0 := hc 0 (by decide)
    have c2 := hc 2 (by decide)
    have c3 := hc 3 (by decide)
    have c4 := hc 4 (by decide)
    have c5 := hc 5 (by decide)
    have c6 := hc 6 (by decide)
    have hb : b < w.heap.size := World.block_lt_of_cell? w _ c0
    have HD := Lib.hid hd
    have r2 := getD_in hr 2
    have r3 := getD_in hr 3
    have HDL : Hid ((l.drop 7).length = 9) := Lib.hid (by rw [List.length_drop, h16])
    have hc7 : ¬ c = 7 := by omega
    have HBAD := Lib.hid hbad
    unfold infOK at HBAD
    obtain ⟨x2, e2⟩ : ∃ x, l.getD 2 0 = x := ⟨_, rfl⟩
    obtain ⟨x3, e3⟩ : ∃ x, l.getD 3 0 = x := ⟨_, rfl⟩
    obtain ⟨x4, e4⟩ : ∃ x, l.getD 4 0 = x := ⟨_, rfl⟩
    obtain ⟨x5, e5⟩ : ∃ x, l.getD 5 0 = x := ⟨_, rfl⟩
    obtain ⟨x6, e6⟩ : ∃ x, l.getD 6 0 = x := ⟨_, rfl⟩
    rw [e2] at c2 r2 HBAD
    rw [e3] at c3 r3 HBAD
    rw [e4] at c4 HBAD
    rw [e5] at c5 HBAD
    rw [e6] at c6 HBAD
    rw [decide_eq_true h16] at HBAD
    obtain ⟨t2, t3, t4, t5, -⟩ := time_facts x2 x3 r2 r3
    obtain ⟨T, hT⟩ : ∃ T, x2 + x3 * 4294967296 = T := ⟨_, rfl⟩
    rw [hT] at t5 HBAD
    have hglob : 0 < w.heap.size := Nat.lt_of_le_of_lt (Nat.zero_le _) hb
    have HGK : Hid (∀ wx, Below w.heap.size w wx → wx.cell? ⟨0, 0, none⟩ = some (errV a)) := Lib.hid fun wx h => (h.cell (p := ⟨0, 0, none⟩) (World.block_lt_of_cell? w _ hE)).trans hE
    clear hc hd hx h16 hn e2 e3 e4 e5 e6 hT r2 r3 hr hbad hE c0
    by_cases g4 : (1 : Int) < x4
    · go_enter Tryd.func16, Tryd.ntmps16
      go_wp2_with fail
      go_region_held3 (fun wx => wx.cell? ⟨0, 0, none⟩ = some (errV a)) (first | (refine HGK.out _ ?_; first | with_reducible exact inf_put _ _ _ _ _ _ _ _ | with_reducible exact inf_blk _ _ | with_reducible exact (inf_blk _ _).drew | exact inf_blk w 1)) (first | fail)
      go_wp2
      refine bodyPost_ret (v := .tuple #[infV infZ, errV a]) (by simp [results, Tryd.results16, go_sem, infZ, inf_put_0, inf_put_1, inf_put_2, inf_put_3, inf_put_4, inf_put_5]) rfl ⟨rfl, ?_⟩
      first | with_reducible exact inf_put _ _ _ _ _ _ _ _ | with_reducible exact inf_blk _ _ | with_reducible exact (inf_blk _ _).drew | exact inf_blk w 1
    · by_cases g7 : nzIs (l.drop 7) = true
      · go_enter Tryd.func16, Tryd.ntmps16
        go_wp2_with fail
        refine (containsFunc_nz (l.drop 7) 9 _ _ _ (HD.out.mono ((Below.refl _ _).alloc (Nat.le_refl _) _)) HDL.out (by decide)).mono ?_
        rintro e w1 ⟨rfl, rfl⟩
        rw [g7]
        go_wp2_with fail
        go_region_held3 (fun wx => wx.cell? ⟨0, 0, none⟩ = some (errV a)) (first | (refine HGK.out _ ?_; first | with_reducible exact inf_put _ _ _ _ _ _ _ _ | with_reducible exact inf_blk _ _ | with_reducible exact (inf_blk _ _).drew | exact inf_blk w 1)) (first | fail)
        go_wp2
        refine bodyPost_ret (v := .tuple #[infV infZ, errV a]) (by simp [results, Tryd.results16, go_sem, infZ, inf_put_0, inf_put_1, inf_put_2, inf_put_3, inf_put_4, inf_put_5]) rfl ⟨rfl, ?_⟩
        first | with_reducible exact inf_put _ _ _ _ _ _ _ _ | with_reducible exact inf_blk _ _ | with_reducible exact (inf_blk _ _).drew | exact inf_blk w 1
      · replace g7 : nzIs (l.drop 7) = false := by simpa using g7
        by_cases g5 : (256 : Int) < x5
        · go_enter Tryd.func16, Tryd.ntmps16
          go_wp2_with fail
          refine (containsFunc_nz (l.drop 7) 9 _ _ _ (HD.out.mono ((Below.refl _ _).alloc (Nat.le_refl _) _)) HDL.out (by decide)).mono ?_
          rintro e w1 ⟨rfl, rfl⟩
          rw [g7]
          go_wp2_with fail
          go_region_held3 (fun wx => wx.cell? ⟨0, 0, none⟩ = some (errV a)) (first | (refine HGK.out _ ?_; first | with_reducible exact inf_put _ _ _ _ _ _ _ _ | with_reducible exact inf_blk _ _ | with_reducible exact (inf_blk _ _).drew | exact inf_blk w 1)) (first | fail)
          go_wp2
          refine bodyPost_ret (v := .tuple #[infV infZ, errV a]) (by simp [results, Tryd.results16, go_sem, infZ, inf_put_0, inf_put_1, inf_put_2, inf_put_3, inf_put_4, inf_put_5]) rfl ⟨rfl, ?_⟩
          first | with_reducible exact inf_put _ _ _ _ _ _ _ _ | with_reducible exact inf_blk _ _ | with_reducible exact (inf_blk _ _).drew | exact inf_blk w 1
        · by_cases g6 : (256 : Int) < x6
          · go_enter Tryd.func16, Tryd.ntmps16
            go_wp2_with fail
            refine (containsFunc_nz (l.drop 7) 9 _ _ _ (HD.out.mono ((Below.refl _ _).alloc (Nat.le_refl _) _)) HDL.out (by decide)).mono ?_
            rintro e w1 ⟨rfl, rfl⟩
            rw [g7]
            go_wp2_with fail
            go_region_held3 (fun wx => wx.cell? ⟨0, 0, none⟩ = some (errV a)) (first | (refine HGK.out _ ?_; first | with_reducible exact inf_put _ _ _ _ _ _ _ _ | with_reducible exact inf_blk _ _ | with_reducible exact (inf_blk _ _).drew | exact inf_blk w 1)) (first | fail)
            go_wp2
            refine bodyPost_ret (v := .tuple #[infV infZ, errV a]) (by simp [results, Tryd.results16, go_sem, infZ, inf_put_0, inf_put_1, inf_put_2, inf_put_3, inf_put_4, inf_put_5]) rfl ⟨rfl, ?_⟩
            first | with_reducible exact inf_put _ _ _ _ _ _ _ _ | with_reducible exact inf_blk _ _ | with_reducible exact (inf_blk _ _).drew | exact inf_blk w 1
          · have gT : (1099511627776 : Int) < T := by
              have h := HBAD.out
              rw [g7, decide_eq_true (show x4 ≤ 1 by omega), decide_eq_true (show x5 ≤ 256 by omega), decide_eq_true (show x6 ≤ 256 by omega)] at h
              simp at h
              exact h
            go_enter Tryd.func16, Tryd.ntmps16
            go_wp2_with fail
            refine (containsFunc_nz (l.drop 7) 9 _ _ _ (HD.out.mono ((Below.refl _ _).alloc (Nat.le_refl _) _)) HDL.out (by decide)).mono ?_
            rintro e w1 ⟨rfl, rfl⟩
            rw [g7]
            go_wp2_with fail
            go_quiet (fail)
            go_wp2_with fail
            go_region_held3 (fun wx => wx.cell? ⟨0, 0, none⟩ = some (errV a)) (first | (refine HGK.out _ ?_; first | with_reducible exact inf_put _ _ _ _ _ _ _ _ | with_reducible exact inf_blk _ _ | with_reducible exact (inf_blk _ _).drew | exact inf_blk w 1)) (first | fail)
            go_wp2
            refine bodyPost_ret (v := .tuple #[infV infZ, errV a]) (by simp [results, Tryd.results16, go_sem, infZ, inf_put_0, inf_put_1, inf_put_2, inf_put_3, inf_put_4, inf_put_5]) rfl ⟨rfl, ?_⟩
            first | with_reducible exact inf_put _ _ _ _ _ _ _ _ | with_reducible exact inf_blk _ _ | with_reducible exact (inf_blk _ _).drew | exact inf_blk w 1
  · have hb : ((n : Int) != 16) = true := by rw [bne_iff_ne]; omega
    clear hbad hx h16 hr
    go_enter Tryd.func16, Tryd.ntmps16
    go_wp2_with fail
    go_region_held3 (fun wx => wx.cell? ⟨0, 0, none⟩ = some (errV a)) (go_keep) (first | fail)
    go_wp2
    refine bodyPost_ret (v := .tuple #[infV infZ, errV a]) (by simp [results, Tryd.results16, go_sem, infZ, inf_put_0, inf_put_1, inf_put_2, inf_put_3, inf_put_4, inf_put_5]) rfl ⟨rfl, ?_⟩
    exact inf_blk w 1

set_option maxRecDepth 100000 in
set_option maxHeartbeats 1600000 in
theorem of_good (l : List Int) (c : Nat) (ao : Option Addr) (w : World) (hx : AtL w ao (u32s l)) (hcap : 16 ≤ c) (hr : ∀ z ∈ l, 0 ≤ z ∧ z ≤ 4294967295) (hok : infOK l = true) :
    Calls Tryd.prog 16 #[.slice ao 16 c] w fun e w' => e = .returned (.tuple #[infV (infOf l), .nilIface]) ∧ Below w.heap.size w w' := by
  have HANS := Lib.hid (infOf_ok hok)
  simp only [infOK, Bool.and_eq_true, decide_eq_true_eq, Bool.not_eq_true'] at hok
  obtain ⟨⟨⟨⟨⟨h16, h4⟩, h7⟩, h5⟩, h6⟩, ht⟩ := hok
  obtain ⟨b, off, rfl, hc, hd⟩ := cells16 hx h16
  have c0 := hc 0 (by decide)
  have c1 := hc 1 (by decide)
  have c2 := hc 2 (by decide)
  have c3 := hc 3 (by decide)
  have c4 := hc 4 (by decide)
  have c5 := hc 5 (by decide)
  have c6 := hc 6 (by decide)
  rw [Nat.add_zero] at c0
  have hb : b < w.heap.size := World.block_lt_of_cell? w _ c0
  have HD := Lib.hid hd
  have r2 := getD_in hr 2
  have r3 := getD_in hr 3
  have HDL : Hid ((l.drop 7).length = 9) := Lib.hid (by rw [List.length_drop, h16])
  have hc7 : ¬ c = 7 := by omega
  obtain ⟨x0, e0⟩ : ∃ x, l.getD 0 0 = x := ⟨_, rfl⟩
  obtain ⟨x1, e1⟩ : ∃ x, l.getD 1 0 = x := ⟨_, rfl⟩
  obtain ⟨x2, e2⟩ : ∃ x, l.getD 2 0 = x := ⟨_, rfl⟩
  obtain ⟨x3, e3⟩ : ∃ x, l.getD 3 0 = x := ⟨_, rfl⟩
  obtain ⟨x4, e4⟩ : ∃ x, l.getD 4 0 = x := ⟨_, rfl⟩
  obtain ⟨x5, e5⟩ : ∃ x, l.getD 5 0 = x := ⟨_, rfl⟩
  obtain ⟨x6, e6⟩ : ∃ x, l.getD 6 0 = x := ⟨_, rfl⟩
  rw [e0] at c0 HANS
  rw [e1] at c1 HANS
  rw [e2] at c2 ht r2 HANS
  rw [e3] at c3 ht r3 HANS
  rw [e4] at c4 h4 HANS
  rw [e5] at c5 h5 HANS
  rw [e6] at c6 h6 HANS
  have q0 := getD_in hr 4
  have q5 := getD_in hr 5
  have q6 := getD_in hr 6
  rw [e4] at q0
  rw [e5] at q5
  rw [e6] at q6
  have H7 := Lib.hid h7
  obtain ⟨t2, t3, t4, t5, -⟩ := time_facts x2 x3 r2 r3
  obtain ⟨T, hT⟩ : ∃ T, x2 + x3 * 4294967296 = T := ⟨_, rfl⟩
  rw [hT] at t5 ht HANS
  have gT : ¬ (1099511627776 : Int) < T := by omega
  have t6 := IntWalk.i64_in T (by omega)
  have t7 := IntWalk.i64_in x5 (by omega)
  have t8 := IntWalk.i64_in x6 (by omega)
  have g4 : ¬ (1 : Int) < x4 := by omega
  have g5 : ¬ (256 : Int) < x5 := by omega
  have g6 : ¬ (256 : Int) < x6 := by omega
  have HK : Hid (∀ wx, Below w.heap.size w wx → wx.cell? ⟨b, off, none⟩ = some (.int .u32 x0) ∧ wx.cell? ⟨b, off + 1, none⟩ = some (.int .u32 x1) ∧ wx.cell? ⟨b, off + 4, none⟩ = some (.int .u32 x4) ∧ wx.cell? ⟨b, off + 5, none⟩ = some (.int .u32 x5) ∧ wx.cell? ⟨b, off + 6, none⟩ = some (.int .u32 x6)) := Lib.hid fun wx h =>
    ⟨(h.cell (p := ⟨b, off, none⟩) hb).trans c0, (h.cell (p := ⟨b, off + 1, none⟩) hb).trans c1, (h.cell (p := ⟨b, off + 4, none⟩) hb).trans c4, (h.cell (p := ⟨b, off + 5, none⟩) hb).trans c5, (h.cell (p := ⟨b, off + 6, none⟩) hb).trans c6⟩
  clear hc hd hx h7 h16 e0 e1 e2 e3 e4 e5 e6 hT h4 h5 h6 ht q0 q5 q6 r2 r3 hr
  go_enter Tryd.func16, Tryd.ntmps16
  go_wp2_with fail
  refine (containsFunc_nz (l.drop 7) 9 _ _ _ (HD.out.mono ((Below.refl _ _).alloc (Nat.le_refl _) _)) HDL.out (by decide)).mono ?_
  rintro e w1 ⟨rfl, rfl⟩
  rw [H7.out]
  go_wp2_with fail
  go_quiet (fail)
  go_wp2_with fail
  go_region_held3 (fun wx => wx.cell? ⟨b, off, none⟩ = some (.int .u32 x0) ∧ wx.cell? ⟨b, off + 1, none⟩ = some (.int .u32 x1) ∧ wx.cell? ⟨b, off + 4, none⟩ = some (.int .u32 x4) ∧ wx.cell? ⟨b, off + 5, none⟩ = some (.int .u32 x5) ∧ wx.cell? ⟨b, off + 6, none⟩ = some (.int .u32 x6)) (first | (refine HK.out _ ?_; first | with_reducible exact inf_put _ _ _ _ _ _ _ _ | with_reducible exact inf_blk _ _ | with_reducible exact (inf_blk _ _).drew)) (first | fail)
  go_wp2
  refine bodyPost_ret (v := .tuple #[.agg #[.int .u32 x0, .int .u32 x1, .int .i64 T, .bool (x4 == 1), .int .i64 x5, .int .i64 x6], .nilIface]) (by simp [results, Tryd.results16, go_sem, inf_put_0, inf_put_1, inf_put_2, inf_put_3, inf_put_4, inf_put_5]) rfl ⟨by rw [HANS.out], ?_⟩
  exact inf_put _ _ _ _ _ _ _ _
end Go.Proofs.YtmeljclaocgoaaaDoor
