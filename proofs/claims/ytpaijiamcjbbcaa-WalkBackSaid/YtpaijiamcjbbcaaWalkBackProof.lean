/-
  WalkBack: for every two entries and every word the call returns true, and each argument reads afterwards as it read before. No conditions.
-/
import Derived.Test.YtpaijiamcjbbcaaWalkBack
namespace Go.Proofs.Ytpaijiamcjbbcaa.walkBack
open Go.ChangeShapes Go.WideShapes Go.ChangeAt Go.RowKit Go.Joins

theorem cellsE : Try.prog.cellsOf 23 = 4 := by kernel_rfl
theorem parsOk_all : parsOk Try.prog Try.f3.params.toList = true := by kernel_rfl

set_option maxRecDepth 100000 in
theorem lifted (os : Os) (started : os.Started) (H : Type) (enc : TypeId × Value → H) :
    ReturnsInHanded {} Try.checked os 3 .any (Rows.walkBackSpec.pre6 enc Try.prog Try.f3 Rows.walkBackRow.domain false) (Rows.walkBackSpec.post enc Try.prog Try.f3 false true false false) := by
  refine returnsInHanded_of_change (C := Try.checked) own started (by kernel_rfl) Try.func3
    (ChangeSpec.witness6 (enc := enc) (C := Try.checked) false ⟨#[], #[.agg #[.int .i64 0, .bool false, .bool false, .bool false], .agg #[.int .i64 0, .bool false, .bool false, .bool false], .int .u32 0], []⟩ 8 (by kernel_rfl) (by kernel_rfl) (by kernel_rfl) (by kernel_rfl)) ?_
  intro W base args ds gs before hval0 hW _ _
  have hval : ∀ (j : Nat) t v, Try.f3.params[j]? = some t → args[j]? = some v → Value.okWide Try.prog W .any base t v := hval0
  have hW' := hW
  obtain ⟨p, q, hA0, hV, rfl, hfz, hnd⟩ := hW
  have hA : DataW.TrodAll enc Try.prog W 0 (fun _ => true) true Try.f3.params.toList args.toList ds p := hA0
  rw [Try.params3] at hA hval
  obtain ⟨v0, v1, v2, d0, d1, d2, p0, p1, p2, rfl, rfl, rfl, h0, h1, h2⟩ := trodAll_three hA
  obtain ⟨rfl, rfl⟩ := trodVars_none hV
  obtain ⟨c0, c1, c2, c3, y0, y1, y2, y3, m, rfl, -, -, hy0, hy1, hy2, hy3⟩ := open_agg4 Try.underlying23 (by kernel_rfl) cellsE (hval 0 _ v0 rfl rfl) h0
  obtain ⟨f, e0, -, wf⟩ := DataW.trod_int Try.underlying3 hy0
  obtain ⟨t1, e1, -⟩ := DataW.trod_bool Try.underlying4 hy1
  obtain ⟨w1, e2, -⟩ := DataW.trod_bool Try.underlying4 hy2
  obtain ⟨u1, e3, -⟩ := DataW.trod_bool Try.underlying4 hy3
  obtain ⟨c4, c5, c6, c7, y4, y5, y6, y7, m', rfl, -, -, hy4, hy5, hy6, hy7⟩ := open_agg4 Try.underlying23 (by kernel_rfl) cellsE (hval 1 _ v1 rfl rfl) h1
  obtain ⟨g, e4, -, wg⟩ := DataW.trod_int Try.underlying3 hy4
  obtain ⟨t2, e5, -⟩ := DataW.trod_bool Try.underlying4 hy5
  obtain ⟨w2, e6, -⟩ := DataW.trod_bool Try.underlying4 hy6
  obtain ⟨u2, e7, -⟩ := DataW.trod_bool Try.underlying4 hy7
  obtain ⟨x, rfl, -, -, wx⟩ := open_int Try.underlying24 (hval 2 _ v2 rfl rfl) h2
  simp only [List.cons.injEq, and_true] at e0 e1 e2 e3 e4 e5 e6 e7
  subst e0 e1 e2 e3 e4 e5 e6 e7
  have hx : 0 ≤ x ∧ x ≤ 4294967295 := by simpa [Lit.wf, IntKind.min, IntKind.max, IntKind.signed, IntKind.bits] using wx
  refine (back_walk f g x t1 w1 u1 t2 w2 u2 W hx.1 hx.2).mono fun e W' ⟨he, hb⟩ => ?_
  subst he
  exact ⟨_, rfl, law_post laidOut parsOk_all rfl Try.underlying4 rfl hW' rfl hb⟩

theorem over : Rows.walkBackRow.holds Try.pinned (OpenSpec.ofChange Rows.walkBackSpec) :=
  OpenClaim.holds_of_wide 3 Try.f3 rfl rfl rfl rfl rfl rfl rfl ⟨rfl, rfl, rfl, rfl, rfl⟩ rfl rfl rfl rfl rfl (by kernel_rfl) Try.func3 (by kernel_rfl)
    (of_decide_eq_true (by kernel_rfl)) (by unfold Func.isWrapper; first | (rw [if_pos (by decide +kernel)]; kernel_rfl) | (rw [if_neg (by decide +kernel)]; exact ⟨rfl, rfl⟩))
    (fun os started H enc _ => lifted os started H enc)

theorem proved : Rows.WalkBackSaid := over
#print axioms proved
end Go.Proofs.Ytpaijiamcjbbcaa.walkBack
