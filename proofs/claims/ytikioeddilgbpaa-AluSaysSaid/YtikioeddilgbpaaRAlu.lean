/-
  The document's Alu, of any instruction and any registers.
-/
import Derived.Test.YtikioeddilgbpaaRAlu1
import Derived.Test.YtikioeddilgbpaaRAlu2
import Derived.Test.YtikioeddilgbpaaRAlu3
namespace Go.Proofs.Ytikioeddilgbpaa
open Go.RowKit

set_option maxRecDepth 100000 in
theorem ralu_any (i : Ins) (r : List Int) (hl : r.length = 16) (hr : ∀ z ∈ r, U32 z) (w : World) : Calls Try.prog 13 #[insV i, .agg (regCells r)] w fun e w' => e = .returned (aluV i r) ∧ Below w.heap.size w w' := by
  unfold aluV
  cases hok : wok i
  · rw [aluR_bad hok]
    exact ralu_bad i r hl w hok
  · obtain ⟨ha, hb, hc⟩ := wok_in hok
    obtain ⟨op, a, b, c, imm⟩ := i
    dsimp only at ha hb hc
    obtain ⟨ia, rfl⟩ := Int.eq_ofNat_of_zero_le ha.1
    obtain ⟨ib, rfl⟩ := Int.eq_ofNat_of_zero_le hb.1
    obtain ⟨ic, rfl⟩ := Int.eq_ofNat_of_zero_le hc.1
    have hia : ia < 16 := by omega
    have hib : ib < 16 := by omega
    have hic : ic < 256 := by omega
    clear ha hb hc
    by_cases g : op ∈ lkR
    · rw [aluR_fn hok g]
      have hu := getD_u32 hr (ic % 16)
      simp only [lkR, List.mem_cons, List.not_mem_nil, or_false] at g
      rcases g with rfl | rfl | rfl | rfl | rfl | rfl | rfl | rfl | rfl | rfl | rfl
      · exact ralu_2 imm ia ib ic r hl w hok hia hib hic _ _ rfl rfl
      · exact ralu_3 imm ia ib ic r hl w hok hia hib hic _ _ rfl rfl
      · exact ralu_4 imm ia ib ic r hl w hok hia hib hic _ _ rfl rfl
      · exact ralu_5 imm ia ib ic r hl w hok hia hib hic _ _ rfl rfl
      · exact ralu_6 imm ia ib ic r hl w hok hia hib hic _ _ rfl rfl
      · exact ralu_7 imm ia ib ic r hl w hok hia hib hic _ _ rfl rfl
      · exact ralu_8 imm ia ib ic r hl w hok hia hib hic _ _ rfl rfl hu
      · exact ralu_9 imm ia ib ic r hl w hok hia hib hic _ _ rfl rfl hu
      · exact ralu_10 imm ia ib ic r hl w hok hia hib hic _ _ rfl rfl
      · exact ralu_11 imm ia ib ic r hl w hok hia hib hic _ _ rfl rfl
      · exact ralu_24 imm ia ib ic r hl w hok hia hib hic _ _ rfl rfl
    · by_cases g14 : op = 14
      · subst g14
        rw [aluR_li hok (.inl rfl)]
        exact ralu_14 imm ia ib ic r hl w hok hia hib hic _ _ rfl rfl
      · by_cases g15 : op = 15
        · subst g15
          rw [aluR_li hok (.inr rfl)]
          exact ralu_15 imm ia ib ic r hl w hok hia hib hic _ _ rfl rfl
        · by_cases g1 : op = 1
          · subst g1
            rw [aluR_1 hok]
            exact ralu_1 imm ia ib ic r hl w hok hia hib hic _ _ rfl rfl
          · rw [aluR_other hok g g14 g15 g1]
            exact ralu_other op imm ia ib ic r hl w hok hia hib hic _ _ rfl rfl g g14 g15 g1
end Go.Proofs.Ytikioeddilgbpaa
