/-
  WalkSays: for every input the call returns true, and each argument reads afterwards as it read before; what the row lists is tied to the program's text. No conditions.
-/
import Derived.Test.YtpaijiamcjbbcaaDoorWalkSays
import Derived.Test.YtpaijiamcjbbcaaDoorLaw
import Derived.Test.YtpaijiamcjbbcaaDoorLaw
import Derived.Test.YtpaijiamcjbbcaaDoorCards
import Derived.Test.YtpaijiamcjbbcaaDoorTie
import Derived.SevenTiedAt
import Derived.MakeChecks
import Derived.Lay
namespace Go.Proofs.YtpaijiamcjbbcaaDoor.walkSays
open Go.ChangeShapes Go.WideShapes Go.ChangeAt Go.RowKit Go.Joins

theorem parsOk_all : parsOk Tryd.prog Tryd.f4.params.toList = true := by kernel_rfl

set_option maxRecDepth 100000 in
theorem lifted (os : Os) (started : os.Started) (H : Type) (enc : TypeId × Value → H) :
    ReturnsInHanded {} Tryd.checked os 4 .any (fun w args => (Rows.walkSaysSpec.pre enc Tryd.prog Tryd.f4 [] false w args ∧ laidMetH Tryd.prog Rows.walkSaysRow.laid w) ∧ sizedMet enc Tryd.prog Tryd.f4 (OpenSpec.ofChange Rows.walkSaysSpec) false w args) (Rows.walkSaysSpec.post enc Tryd.prog Tryd.f4 false true false false) := by
  refine returnsInHanded_of_change_and (C := Tryd.checked) (X := fun w _ => laidMetH Tryd.prog Rows.walkSaysRow.laid w) (fun _ _ _ hh h => h.of_heap hh) own started (by kernel_rfl) Tryd.func4
    (ChangeSpec.witness_shaped (enc := enc) (C := Tryd.checked) (os := os) (X := fun w _ => laidMetH Tryd.prog Rows.walkSaysRow.laid w) false (World.laidAll Tryd.prog os Rows.walkSaysRow.laid) #[.slice none 0 0, .agg #[.int .i64 0, .bool false, .bool false, .bool false], .int .u32 0, .int .i64 0, .int .i64 0, .int .u32 0, .bool false, .bool false] 8 (World.laidAll_os _ _ _)
      (World.shaped_of_ZipB (by kernel_rfl) (by kernel_rfl)) (by kernel_rfl) (by kernel_rfl) (by kernel_rfl)
      (by rw [MakeChecks.laidMetH_plain _ _ _ (by kernel_rfl)]; exact laidMet_laidAll _ (by kernel_rfl) (by kernel_rfl))) ?_
  intro W base args ds gs before hval0 hW _ _ hL _
  have hval : ∀ (j : Nat) t v, Tryd.f4.params[j]? = some t → args[j]? = some v → Value.okWide Tryd.prog W .any base t v := hval0
  have hW' := hW
  obtain ⟨p, q, hA0, hV, rfl, hfz, hnd⟩ := hW
  have hA : DataW.TrodAll enc Tryd.prog W 0 (fun _ => true) true Tryd.f4.params.toList args.toList ds p := hA0
  rw [Tryd.params4] at hA hval
  obtain ⟨v0, vs0, d0, ds0, p0, q0, hargs, rfl, rfl, h0, r0⟩ := trodAll_cons hA
  obtain ⟨v1, vs1, d1, ds1, p1, q1, rfl, rfl, rfl, h1, r1⟩ := trodAll_cons r0
  obtain ⟨v2, vs2, d2, ds2, p2, q2, rfl, rfl, rfl, h2, r2⟩ := trodAll_cons r1
  obtain ⟨v3, vs3, d3, ds3, p3, q3, rfl, rfl, rfl, h3, r3⟩ := trodAll_cons r2
  obtain ⟨v4, vs4, d4, ds4, p4, q4, rfl, rfl, rfl, h4, r4⟩ := trodAll_cons r3
  obtain ⟨v5, vs5, d5, ds5, p5, q5, rfl, rfl, rfl, h5, r5⟩ := trodAll_cons r4
  obtain ⟨v6, vs6, d6, ds6, p6, q6, rfl, rfl, rfl, h6, r6⟩ := trodAll_cons r5
  obtain ⟨v7, vs7, d7, ds7, p7, q7, rfl, rfl, rfl, h7, r7⟩ := trodAll_cons r6
  obtain ⟨rfl, rfl, rfl⟩ := trodAll_nil r7
  obtain rfl : args = #[v0, v1, v2, v3, v4, v5, v6, v7] := by cases args; simp_all
  obtain ⟨rfl, rfl⟩ := trodVars_none hV
  obtain ⟨x0, hr0, hm0, hz0⟩ := open_reads Tryd.underlying39 Tryd.underlying28 (by kernel_rfl) (hval 0 _ v0 rfl rfl) h0
  have hx0 : ∀ z ∈ x0, 0 ≤ z ∧ z ≤ 4294967295 := fun z hz => by simpa [Lit.wf, IntKind.min, IntKind.max, IntKind.signed, IntKind.bits] using hz0 z hz
  obtain ⟨x1, rfl, hx1⟩ := open_entry (hval 1 _ _ rfl rfl) h1
  obtain ⟨x2, rfl, -, -, w2⟩ := open_int Tryd.underlying28 (hval 2 _ v2 rfl rfl) h2
  have hx2 : 0 ≤ x2 ∧ x2 ≤ 4294967295 := by simpa [Lit.wf, IntKind.min, IntKind.max, IntKind.signed, IntKind.bits] using w2
  obtain ⟨x3, rfl, -, -, w3⟩ := open_int Tryd.underlying3 (hval 3 _ v3 rfl rfl) h3
  have hx3 : -9223372036854775808 ≤ x3 ∧ x3 ≤ 9223372036854775807 := by simpa [Lit.wf, IntKind.min, IntKind.max, IntKind.signed, IntKind.bits] using w3
  obtain ⟨x4, rfl, -, -, w4⟩ := open_int Tryd.underlying3 (hval 4 _ v4 rfl rfl) h4
  have hx4 : -9223372036854775808 ≤ x4 ∧ x4 ≤ 9223372036854775807 := by simpa [Lit.wf, IntKind.min, IntKind.max, IntKind.signed, IntKind.bits] using w4
  obtain ⟨x5, rfl, -, -, w5⟩ := open_int Tryd.underlying28 (hval 5 _ v5 rfl rfl) h5
  have hx5 : 0 ≤ x5 ∧ x5 ≤ 4294967295 := by simpa [Lit.wf, IntKind.min, IntKind.max, IntKind.signed, IntKind.bits] using w5
  obtain ⟨x6, rfl, -, -⟩ := open_bool Tryd.underlying4 (hval 6 _ v6 rfl rfl) h6
  obtain ⟨x7, rfl, -, -⟩ := open_bool Tryd.underlying4 (hval 7 _ v7 rfl rfl) h7
  refine (walkSays_walk x0 v0 x1 x2 x3 x4 x5 x6 x7 W hr0 hx0 hx2 hx5).mono fun e W' ⟨he, hb⟩ => ?_
  subst he
  exact ⟨_, rfl, law_post laidOut parsOk_all rfl Tryd.underlying4 rfl hW' rfl hb⟩

theorem row_holds : Rows.WalkSaysSaid :=
  OpenClaim.holds_of_wide 4 Tryd.f4 rfl rfl rfl rfl rfl rfl rfl ⟨rfl, rfl, rfl, rfl, rfl⟩ rfl rfl rfl rfl rfl (by kernel_rfl) Tryd.func4 (by kernel_rfl)
    (of_decide_eq_true (by kernel_rfl)) (by unfold Func.isWrapper; first | (rw [if_pos (by decide +kernel)]; kernel_rfl) | (rw [if_neg (by decide +kernel)]; exact ⟨rfl, rfl⟩))
    (fun os started H enc _ => lifted os started H enc)

theorem proved : Rows.WalkSaysCardSaid :=
  Claim7.holds_tied_plain_at .later [] Rows.walkSaysCard.laidKinds true Rows.walkSaysCard.stood.harness Rows.walkSaysCard.stood.looks
    row_holds (fun _ h => by cases h) (by kernel_rfl) (fun _ h => by cases h) walkSays_row_tie rfl ⟨rfl, rfl⟩ (by kernel_rfl) rfl
    (fun f fn hf hfn => by
      obtain rfl : f = 4 := Option.some.inj ((show Tryd.prog.funcNamed "facade/facadelaw3.WalkSays" = some 4 by kernel_rfl).symm.trans hf) |>.symm
      obtain rfl : fn = Tryd.f4 := (Option.some.inj (Tryd.func4.symm.trans hfn)).symm
      exact ⟨by kernel_rfl, fun j t ht => by
        rw [Tryd.params4] at ht
        have hm : t ∈ [39, 32, 28, 3, 3, 28, 4, 4] := by simpa using Array.mem_of_getElem? ht
        have hall : ([39, 32, 28, 3, 3, 28, 4, 4].all fun u => !Tryd.prog.wantsStandIn u) = true := by kernel_rfl
        exact (show Tryd.prog.wantsStandIn t = false by simpa using List.all_eq_true.1 hall t hm)⟩)
    (by kernel_rfl)
#print axioms proved
end Go.Proofs.YtpaijiamcjbbcaaDoor.walkSays
