/-
  SchedCopies: for every input the call returns true, and each argument reads afterwards as it read before; what the row lists is tied to the program's text. No conditions.
-/
import Derived.Test.YtnhocmmgdkiepaaDoorMgbee3fcb35d
import Derived.Test.YtnhocmmgdkiepaaDoorMg891e6fd1b3
import Derived.Test.YtnhocmmgdkiepaaDoorCards
import Derived.Test.YtnhocmmgdkiepaaDoorTie
import Derived.SevenTiedAt
import Derived.MakeChecks
import Derived.Lay
namespace Go.Proofs.YtnhocmmgdkiepaaDoor.schedCopies
open Go.ChangeShapes Go.WideShapes Go.ChangeAt Go.RowKit Go.Joins

theorem parsOk_all : parsOk Tryd.prog Tryd.f10.params.toList = true := by kernel_rfl

theorem errs_laid {W : World} (h : laidMetH Tryd.prog Rows.schedCopiesRow.laid W) : ∃ E, ErrsAt errT gOf W E [2, 5, 6] := by
  rw [MakeChecks.laidMetH_plain _ _ _ (by kernel_rfl)] at h
  obtain ⟨ps, hv, hnd, hrows⟩ := h
  obtain ⟨B, h1, h2, -, h4⟩ := errs_sents _ ps hv hnd hrows (by
    intro x hx
    have hx' : x ∈ [("facade/api.ErrRange", Rows.laid_facade_api_ErrRange), ("facade/api.ErrTwice", Rows.laid_facade_api_ErrTwice), ("facade/api.ErrNone", Rows.laid_facade_api_ErrNone)] := hx
    simp only [List.mem_cons, List.not_mem_nil, or_false] at hx'
    rcases hx' with rfl | rfl | rfl
    · exact ⟨⟨_, rfl⟩, fun g hg => by obtain rfl := Option.some.inj ((show Tryd.prog.globalNamed "facade/api.ErrRange" = some 0 by kernel_rfl).symm.trans hg); kernel_rfl⟩
    · exact ⟨⟨_, rfl⟩, fun g hg => by obtain rfl := Option.some.inj ((show Tryd.prog.globalNamed "facade/api.ErrTwice" = some 1 by kernel_rfl).symm.trans hg); kernel_rfl⟩
    · exact ⟨⟨_, rfl⟩, fun g hg => by obtain rfl := Option.some.inj ((show Tryd.prog.globalNamed "facade/api.ErrNone" = some 2 by kernel_rfl).symm.trans hg); kernel_rfl⟩)
  exact errs_of (P := Tryd.prog) Rows.schedCopiesRow.laid [2, 5, 6] (by decide) rfl (by
    intro i x k hx hk
    have hi : i < 3 := (List.getElem?_eq_some_iff.1 hk).1
    match i, hi with
    | 0, _ => obtain rfl := Option.some.inj hx; obtain rfl := Option.some.inj hk; exact (show Tryd.prog.globalNamed "facade/api.ErrRange" = some (gOf 2) by kernel_rfl)
    | 1, _ => obtain rfl := Option.some.inj hx; obtain rfl := Option.some.inj hk; exact (show Tryd.prog.globalNamed "facade/api.ErrTwice" = some (gOf 5) by kernel_rfl)
    | 2, _ => obtain rfl := Option.some.inj hx; obtain rfl := Option.some.inj hk; exact (show Tryd.prog.globalNamed "facade/api.ErrNone" = some (gOf 6) by kernel_rfl)
    ) ⟨B, h1, h2, h4⟩

set_option maxRecDepth 100000 in
theorem lifted (os : Os) (started : os.Started) (H : Type) (enc : TypeId × Value → H) :
    ReturnsInHanded {} Tryd.checked os 10 .any (fun w args => (Rows.schedCopiesSpec.pre enc Tryd.prog Tryd.f10 [] false w args ∧ laidMetH Tryd.prog Rows.schedCopiesRow.laid w) ∧ sizedMet enc Tryd.prog Tryd.f10 (OpenSpec.ofChange Rows.schedCopiesSpec) false w args) (Rows.schedCopiesSpec.post enc Tryd.prog Tryd.f10 false true false false) := by
  refine returnsInHanded_of_change_and (C := Tryd.checked) (X := fun w _ => laidMetH Tryd.prog Rows.schedCopiesRow.laid w) (fun _ _ _ hh h => h.of_heap hh) own started (by kernel_rfl) Tryd.func10
    (ChangeSpec.witness_shaped (enc := enc) (C := Tryd.checked) (os := os) (X := fun w _ => laidMetH Tryd.prog Rows.schedCopiesRow.laid w) false (World.laidAll Tryd.prog os Rows.schedCopiesRow.laid) #[.slice none 0 0, .int .i64 0, .int .i64 0] 8 (World.laidAll_os _ _ _)
      (World.shaped_of_ZipB (by kernel_rfl) (by kernel_rfl)) (by kernel_rfl) (by kernel_rfl) (by kernel_rfl)
      (by rw [MakeChecks.laidMetH_plain _ _ _ (by kernel_rfl)]; exact laidMet_laidAll _ (by kernel_rfl) (by kernel_rfl))) ?_
  intro W base args ds gs before hval0 hW _ _ hL _
  have hval : ∀ (j : Nat) t v, Tryd.f10.params[j]? = some t → args[j]? = some v → Value.okWide Tryd.prog W .any base t v := hval0
  have hW' := hW
  obtain ⟨p, q, hA0, hV, rfl, hfz, hnd⟩ := hW
  have hA : DataW.TrodAll enc Tryd.prog W 0 (fun _ => true) true Tryd.f10.params.toList args.toList ds p := hA0
  rw [Tryd.params10] at hA hval
  obtain ⟨v0, vs0, d0, ds0, p0, q0, hargs, rfl, rfl, h0, r0⟩ := trodAll_cons hA
  obtain ⟨v1, vs1, d1, ds1, p1, q1, rfl, rfl, rfl, h1, r1⟩ := trodAll_cons r0
  obtain ⟨v2, vs2, d2, ds2, p2, q2, rfl, rfl, rfl, h2, r2⟩ := trodAll_cons r1
  obtain ⟨rfl, rfl, rfl⟩ := trodAll_nil r2
  obtain rfl : args = #[v0, v1, v2] := by cases args; simp_all
  obtain ⟨rfl, rfl⟩ := trodVars_none hV
  obtain ⟨x0, hr0, hm0, hz0⟩ := open_reads Tryd.underlying35 Tryd.underlying3 (by kernel_rfl) (hval 0 _ v0 rfl rfl) h0
  have hx0 : ∀ z ∈ x0, -9223372036854775808 ≤ z ∧ z ≤ 9223372036854775807 := fun z hz => by simpa [Lit.wf, IntKind.min, IntKind.max, IntKind.signed, IntKind.bits] using hz0 z hz
  obtain ⟨x1, rfl, -, -, w1⟩ := open_int Tryd.underlying3 (hval 1 _ v1 rfl rfl) h1
  have hx1 : -9223372036854775808 ≤ x1 ∧ x1 ≤ 9223372036854775807 := by simpa [Lit.wf, IntKind.min, IntKind.max, IntKind.signed, IntKind.bits] using w1
  obtain ⟨x2, rfl, -, -, w2⟩ := open_int Tryd.underlying3 (hval 2 _ v2 rfl rfl) h2
  have hx2 : -9223372036854775808 ≤ x2 ∧ x2 ≤ 9223372036854775807 := by simpa [Lit.wf, IntKind.min, IntKind.max, IntKind.signed, IntKind.bits] using w2
  obtain ⟨E, hE⟩ := errs_laid hL
  refine (schedCopies_walk E x0 v0 x1 x2 W (fun wx h => scErr_of (hE.mono h) (by decide) (by decide) (by decide)) (by exact hr0) hx0 hx1 hx2).mono fun e W' ⟨he, hb⟩ => ?_
  subst he
  exact ⟨_, rfl, law_post laidOut parsOk_all rfl Tryd.underlying4 rfl hW' rfl hb⟩

theorem row_holds : Rows.SchedCopiesSaid :=
  OpenClaim.holds_of_wide 10 Tryd.f10 rfl rfl rfl rfl rfl rfl rfl ⟨rfl, rfl, rfl, rfl, rfl⟩ rfl rfl rfl rfl rfl (by kernel_rfl) Tryd.func10 (by kernel_rfl)
    (of_decide_eq_true (by kernel_rfl)) (by unfold Func.isWrapper; first | (rw [if_pos (by decide +kernel)]; kernel_rfl) | (rw [if_neg (by decide +kernel)]; exact ⟨rfl, rfl⟩))
    (fun os started H enc _ => lifted os started H enc)

theorem proved : Rows.SchedCopiesCardSaid :=
  Claim7.holds_tied_plain_at .later [] Rows.schedCopiesCard.laidKinds true Rows.schedCopiesCard.stood.harness Rows.schedCopiesCard.stood.looks
    row_holds (fun _ h => by cases h) (by kernel_rfl) (fun _ h => by cases h) schedCopies_row_tie rfl ⟨rfl, rfl⟩ (by kernel_rfl) rfl
    (fun f fn hf hfn => by
      obtain rfl : f = 10 := Option.some.inj ((show Tryd.prog.funcNamed "facade/facadelaw24.SchedCopies" = some 10 by kernel_rfl).symm.trans hf) |>.symm
      obtain rfl : fn = Tryd.f10 := (Option.some.inj (Tryd.func10.symm.trans hfn)).symm
      exact ⟨by kernel_rfl, fun j t ht => by
        rw [Tryd.params10] at ht
        have hm : t ∈ [35, 3, 3] := by simpa using Array.mem_of_getElem? ht
        have hall : ([35, 3, 3].all fun u => !Tryd.prog.wantsStandIn u) = true := by kernel_rfl
        exact (show Tryd.prog.wantsStandIn t = false by simpa using List.all_eq_true.1 hall t hm)⟩)
    (by kernel_rfl)
#print axioms proved
end Go.Proofs.YtnhocmmgdkiepaaDoor.schedCopies
