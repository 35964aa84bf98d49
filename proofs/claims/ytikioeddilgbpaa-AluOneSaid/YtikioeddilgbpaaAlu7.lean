/-
  Chapter 4: what alu.Do makes of any instruction and any registers.
-/
import Derived.Test.YtikioeddilgbpaaAlu6
import Derived.Test.YtikioeddilgbpaaAlu6b
import Derived.Test.YtikioeddilgbpaaAlu6c
import Derived.Test.YtikioeddilgbpaaAlu6d
namespace Go.Proofs.Ytikioeddilgbpaa
open Go.RowKit

theorem getD_u32 {r : List Int} (hr : ∀ z ∈ r, U32 z) (k : Nat) : U32 (r.getD k 0) := by
  by_cases h : k < r.length
  · exact hr _ (by rw [List.getD_eq_getElem?_getD, List.getElem?_eq_getElem h]; exact List.getElem_mem _)
  · rw [List.getD_eq_getElem?_getD, List.getElem?_eq_none (by omega)]
    exact ⟨by simp, by simp⟩
theorem c16 (ic : Nat) : ((ic : Int) % 16).toNat = ic % 16 := by
  have : ((ic : Int) % 16) = ((ic % 16 : Nat) : Int) := (Int.natCast_emod ic 16).symm
  rw [this, Int.toNat_natCast]
theorem aluR_fn {op imm : Int} {ia ib ic : Nat} {r : List Int} (h : wok ⟨op, ia, ib, ic, imm⟩ = true) (hop : op ∈ lkR) : aluR ⟨op, ia, ib, ic, imm⟩ r = (r.set ia (rk op (r.getD ib 0) (r.getD (ic % 16) 0)), true) := by
  have g : ¬ (op = 14 ∨ op = 15) := fun e => by
    simp only [lkR, List.mem_cons, List.not_mem_nil, or_false] at hop
    omega
  unfold aluR
  rw [if_pos h, if_neg g, if_pos hop]
  dsimp only
  rw [Int.toNat_natCast, Int.toNat_natCast, c16]
theorem aluR_li {op imm : Int} {ia ib ic : Nat} {r : List Int} (h : wok ⟨op, ia, ib, ic, imm⟩ = true) (hop : op = 14 ∨ op = 15) : aluR ⟨op, ia, ib, ic, imm⟩ r = (r.set ia imm, true) := by
  unfold aluR
  rw [if_pos h, if_pos hop]
  dsimp only
  rw [Int.toNat_natCast]
theorem aluR_1 {imm : Int} {ia ib ic : Nat} {r : List Int} (h : wok ⟨1, ia, ib, ic, imm⟩ = true) : aluR ⟨1, ia, ib, ic, imm⟩ r = (r, true) := by
  unfold aluR
  rw [if_pos h, if_neg (show ¬ ((1 : Int) = 14 ∨ (1 : Int) = 15) by decide), if_neg (show ¬ (1 : Int) ∈ lkR by decide), if_pos rfl]
theorem aluR_other {op imm : Int} {ia ib ic : Nat} {r : List Int} (h : wok ⟨op, ia, ib, ic, imm⟩ = true) (g : ¬ op ∈ lkR) (g14 : op ≠ 14) (g15 : op ≠ 15) (g1 : op ≠ 1) : aluR ⟨op, ia, ib, ic, imm⟩ r = (zr, false) := by
  unfold aluR
  rw [if_pos h, if_neg (by dsimp only; omega), if_neg g, if_neg g1]
theorem aluR_bad {i : Ins} {r : List Int} (h : wok i = false) : aluR i r = (zr, false) := by
  unfold aluR
  rw [if_neg (by rw [h]; decide)]

def aluV (i : Ins) (r : List Int) : Value := .tuple #[.agg (regCells (aluR i r).1), .bool (aluR i r).2]
set_option maxRecDepth 100000 in
theorem do_any (i : Ins) (r : List Int) (hl : r.length = 16) (hr : ∀ z ∈ r, U32 z) (w : World) : Calls Try.prog 10 #[insV i, .agg (regCells r)] w fun e w' => e = .returned (aluV i r) ∧ Below w.heap.size w w' := by
  unfold aluV
  cases hok : wok i
  · rw [aluR_bad hok]
    exact do_bad i r hl w hok
  · obtain ⟨ha, hb, hc⟩ := wok_in hok
    obtain ⟨op, a, b, c, imm⟩ := i
    dsimp only at ha hb hc
    obtain ⟨ia, rfl⟩ := Int.eq_ofNat_of_zero_le ha.1
    obtain ⟨ib, rfl⟩ := Int.eq_ofNat_of_zero_le hb.1
    obtain ⟨ic, rfl⟩ := Int.eq_ofNat_of_zero_le hc.1
    have hia : ia < 16 := by omega
    have hib : ib < 16 := by omega
    clear ha hb hc
    by_cases g : op ∈ lkR
    · rw [aluR_fn hok g]
      have hu := getD_u32 hr (ic % 16)
      simp only [lkR, List.mem_cons, List.not_mem_nil, or_false] at g
      rcases g with rfl | rfl | rfl | rfl | rfl | rfl | rfl | rfl | rfl | rfl | rfl
      · exact do_2 imm ia ib ic r hl w hok hia hib _ _ rfl rfl
      · exact do_3 imm ia ib ic r hl w hok hia hib _ _ rfl rfl
      · exact do_4 imm ia ib ic r hl w hok hia hib _ _ rfl rfl
      · exact do_5 imm ia ib ic r hl w hok hia hib _ _ rfl rfl
      · exact do_6 imm ia ib ic r hl w hok hia hib _ _ rfl rfl
      · exact do_7 imm ia ib ic r hl w hok hia hib _ _ rfl rfl
      · exact do_8 imm ia ib ic r hl w hok hia hib _ _ rfl rfl hu
      · exact do_9 imm ia ib ic r hl w hok hia hib _ _ rfl rfl hu
      · exact do_10 imm ia ib ic r hl w hok hia hib _ _ rfl rfl
      · exact do_11 imm ia ib ic r hl w hok hia hib _ _ rfl rfl
      · exact do_24 imm ia ib ic r hl w hok hia hib _ _ rfl rfl
    · by_cases g14 : op = 14
      · subst g14
        rw [aluR_li hok (.inl rfl)]
        exact do_14 imm ia ib ic r hl w hok hia hib _ _ rfl rfl
      · by_cases g15 : op = 15
        · subst g15
          rw [aluR_li hok (.inr rfl)]
          exact do_15 imm ia ib ic r hl w hok hia hib _ _ rfl rfl
        · by_cases g1 : op = 1
          · subst g1
            rw [aluR_1 hok]
            exact do_1 imm ia ib ic r hl w hok hia hib _ _ rfl rfl
          · rw [aluR_other hok g g14 g15 g1]
            exact do_other op imm ia ib ic r hl w hok hia hib _ _ rfl rfl g g14 g15 g1
end Go.Proofs.Ytikioeddilgbpaa
