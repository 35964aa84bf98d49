/-
  DevKeys: for every input the call returns true, and each argument reads afterwards as it read before. No conditions.
-/
import Derived.Test.YtljmdgoedmgikaaDevKeys
import Derived.Test.YtljmdgoedmgikaaLaw
namespace Go.Proofs.Ytljmdgoedmgikaa.devKeys
open Go.ChangeShapes Go.WideShapes Go.ChangeAt Go.RowKit Go.Joins

theorem parsOk_all : parsOk Try.prog Try.f3.params.toList = true := by kernel_rfl

set_option maxRecDepth 100000 in
theorem lifted (os : Os) (started : os.Started) (H : Type) (enc : TypeId × Value → H) :
    ReturnsInHanded {} Try.checked os 3 .any (Rows.devKeysSpec.pre6 enc Try.prog Try.f3 Rows.devKeysRow.domain false) (Rows.devKeysSpec.post enc Try.prog Try.f3 false true false false) := by
  refine returnsInHanded_of_change (C := Try.checked) own started (by kernel_rfl) Try.func3
    (ChangeSpec.witness6 (enc := enc) (C := Try.checked) false ⟨#[], #[.slice none 0 0], []⟩ 8 (by kernel_rfl) (by kernel_rfl) (by kernel_rfl) (by kernel_rfl)) ?_
  intro W base args ds gs before hval0 hW _ _
  have hval : ∀ (j : Nat) t v, Try.f3.params[j]? = some t → args[j]? = some v → Value.okWide Try.prog W .any base t v := hval0
  have hW' := hW
  obtain ⟨p, q, hA0, hV, rfl, hfz, hnd⟩ := hW
  have hA : DataW.TrodAll enc Try.prog W 0 (fun _ => true) true Try.f3.params.toList args.toList ds p := hA0
  rw [Try.params3] at hA hval
  obtain ⟨v0, vs0, d0, ds0, p0, q0, hargs, rfl, rfl, h0, r0⟩ := trodAll_cons hA
  obtain ⟨rfl, rfl, rfl⟩ := trodAll_nil r0
  obtain rfl : args = #[v0] := by cases args; simp_all
  obtain ⟨rfl, rfl⟩ := trodVars_none hV
  obtain ⟨x0, hr0, hm0, hz0⟩ := open_reads Try.underlying22 Try.underlying24 (by kernel_rfl) (hval 0 _ v0 rfl rfl) h0
  have hx0 : ∀ z ∈ x0, 0 ≤ z ∧ z ≤ 4294967295 := fun z hz => by simpa [Lit.wf, IntKind.min, IntKind.max, IntKind.signed, IntKind.bits] using hz0 z hz
  refine (keys_walk x0 _ W hr0 hm0).mono fun e W' ⟨he, hb⟩ => ?_
  subst he
  exact ⟨_, rfl, law_post laidOut parsOk_all rfl Try.underlying4 rfl hW' rfl hb⟩

theorem over : Rows.devKeysRow.holds Try.pinned (OpenSpec.ofChange Rows.devKeysSpec) :=
  OpenClaim.holds_of_wide 3 Try.f3 rfl rfl rfl rfl rfl rfl rfl ⟨rfl, rfl, rfl, rfl, rfl⟩ rfl rfl rfl rfl rfl (by kernel_rfl) Try.func3 (by kernel_rfl)
    (of_decide_eq_true (by kernel_rfl)) (by unfold Func.isWrapper; first | (rw [if_pos (by decide +kernel)]; kernel_rfl) | (rw [if_neg (by decide +kernel)]; exact ⟨rfl, rfl⟩))
    (fun os started H enc _ => lifted os started H enc)

theorem proved : Rows.DevKeysSaid := over
#print axioms proved
end Go.Proofs.Ytljmdgoedmgikaa.devKeys
