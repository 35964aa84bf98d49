/-
  RelaxSays: for every input the call returns true, and each argument reads afterwards as it read before. No conditions.
-/
import Derived.Test.YtakhpibolhijoaaRelaxSays
import Derived.Test.YtakhpibolhijoaaLaw
namespace Go.Proofs.Ytakhpibolhijoaa.relaxSays
open Go.ChangeShapes Go.WideShapes Go.ChangeAt Go.RowKit Go.Joins

theorem parsOk_all : parsOk Try.prog Try.f6.params.toList = true := by kernel_rfl

set_option maxRecDepth 100000 in
theorem lifted (os : Os) (started : os.Started) (H : Type) (enc : TypeId × Value → H) :
    ReturnsInHanded {} Try.checked os 6 .any (Rows.relaxSaysSpec.pre6 enc Try.prog Try.f6 Rows.relaxSaysRow.domain false) (Rows.relaxSaysSpec.post enc Try.prog Try.f6 false true false false) := by
  refine returnsInHanded_of_change (C := Try.checked) own started (by kernel_rfl) Try.func6
    (ChangeSpec.witness6 (enc := enc) (C := Try.checked) false ⟨#[], #[.slice none 0 0, .slice none 0 0], []⟩ 8 (by kernel_rfl) (by kernel_rfl) (by kernel_rfl) (by kernel_rfl)) ?_
  intro W base args ds gs before hval0 hW _ _
  have hval : ∀ (j : Nat) t v, Try.f6.params[j]? = some t → args[j]? = some v → Value.okWide Try.prog W .any base t v := hval0
  have hW' := hW
  obtain ⟨p, q, hA0, hV, rfl, hfz, hnd⟩ := hW
  have hA : DataW.TrodAll enc Try.prog W 0 (fun _ => true) true Try.f6.params.toList args.toList ds p := hA0
  rw [Try.params6] at hA hval
  obtain ⟨v0, vs0, d0, ds0, p0, q0, hargs, rfl, rfl, h0, r0⟩ := trodAll_cons hA
  obtain ⟨v1, vs1, d1, ds1, p1, q1, rfl, rfl, rfl, h1, r1⟩ := trodAll_cons r0
  obtain ⟨rfl, rfl, rfl⟩ := trodAll_nil r1
  obtain rfl : args = #[v0, v1] := by cases args; simp_all
  obtain ⟨rfl, rfl⟩ := trodVars_none hV
  obtain ⟨ao0, cap0, x0, rfl, hm0, hx0, hr0, hc0⟩ := open_its (hval 0 _ _ rfl rfl) h0
  obtain ⟨ao1, cap1, x1, rfl, hm1, hr1, hc1⟩ := open_bools Try.underlying24 Try.underlying4 (by kernel_rfl) (hval 1 _ _ rfl rfl) h1
  refine (says_walk x0 x1 ao0 ao1 cap0 cap1 W hr0 hr1).mono fun e W' ⟨he, hb⟩ => ?_
  subst he
  exact ⟨_, rfl, law_post laidOut parsOk_all rfl Try.underlying4 rfl hW' rfl hb⟩

theorem over : Rows.relaxSaysRow.holds Try.pinned (OpenSpec.ofChange Rows.relaxSaysSpec) :=
  OpenClaim.holds_of_wide 6 Try.f6 rfl rfl rfl rfl rfl rfl rfl ⟨rfl, rfl, rfl, rfl, rfl⟩ rfl rfl rfl rfl rfl (by kernel_rfl) Try.func6 (by kernel_rfl)
    (of_decide_eq_true (by kernel_rfl)) (by unfold Func.isWrapper; first | (rw [if_pos (by decide +kernel)]; kernel_rfl) | (rw [if_neg (by decide +kernel)]; exact ⟨rfl, rfl⟩))
    (fun os started H enc _ => lifted os started H enc)

theorem proved : Rows.RelaxSaysSaid := over
#print axioms proved
end Go.Proofs.Ytakhpibolhijoaa.relaxSays
