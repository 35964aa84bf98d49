/-
  WholeRings: for every input the call returns true, and each argument reads afterwards as it read before; what the row lists is tied to the program's text. No conditions.
-/
import Derived.Test.YtbigilbbbmanjaaGreatDoorMg320c93c27d
import Derived.Test.YtbigilbbbmanjaaGreatDoorMgf94f2ecc3b
import Derived.Test.YtbigilbbbmanjaaGreatDoorMg717f80cd6d
import Derived.Test.YtbigilbbbmanjaaGreatDoorCards
import Derived.Test.YtbigilbbbmanjaaGreatDoorTie
import Derived.SevenTiedAt
import Derived.MakeChecks
import Derived.Lay
namespace Go.Proofs.YtbigilbbbmanjaaGreatDoor.wholeRings
open Go.ChangeShapes Go.WideShapes Go.ChangeAt Go.RowKit Go.Joins

theorem parsOk_all : parsOk Tryz.prog Tryz.f8.params.toList = true := by kernel_rfl

set_option maxRecDepth 100000 in
theorem lifted (os : Os) (started : os.Started) (H : Type) (enc : TypeId × Value → H) :
    ReturnsInHanded {} Tryz.checked os 8 .any (fun w args => (Rows.wholeRingsSpec.pre enc Tryz.prog Tryz.f8 [] false w args ∧ laidMetH Tryz.prog Rows.wholeRingsRow.laid w) ∧ sizedMet enc Tryz.prog Tryz.f8 (OpenSpec.ofChange Rows.wholeRingsSpec) false w args) (Rows.wholeRingsSpec.post enc Tryz.prog Tryz.f8 false true false false) := by
  refine returnsInHanded_of_change_and (C := Tryz.checked) (X := fun w _ => laidMetH Tryz.prog Rows.wholeRingsRow.laid w) (fun _ _ _ hh h => h.of_heap hh) own started f_inits Tryz.func8
    (ChangeSpec.witness_shaped (enc := enc) (C := Tryz.checked) (os := os) (X := fun w _ => laidMetH Tryz.prog Rows.wholeRingsRow.laid w) false (World.doorLaid Tryz.prog 2000 os) #[.slice none 0 0, .bool false, .int .u32 0] 8 rfl
      (f_shaped os) (f_wide os) (f_pre os H enc) (f_sized os H enc) (f_met os)) ?_
  intro W base args ds gs before hval0 hW _ _ hL _
  have hval : ∀ (j : Nat) t v, Tryz.f8.params[j]? = some t → args[j]? = some v → Value.okWide Tryz.prog W .any base t v := hval0
  have hW' := hW
  obtain ⟨p, q, hA0, hV, rfl, hfz, hnd⟩ := hW
  have hA : DataW.TrodAll enc Tryz.prog W 0 (fun _ => true) true Tryz.f8.params.toList args.toList ds p := hA0
  rw [Tryz.params8] at hA hval
  obtain ⟨v0, vs0, d0, ds0, p0, q0, hargs, rfl, rfl, h0, r0⟩ := trodAll_cons hA
  obtain ⟨v1, vs1, d1, ds1, p1, q1, rfl, rfl, rfl, h1, r1⟩ := trodAll_cons r0
  obtain ⟨v2, vs2, d2, ds2, p2, q2, rfl, rfl, rfl, h2, r2⟩ := trodAll_cons r1
  obtain ⟨rfl, rfl, rfl⟩ := trodAll_nil r2
  obtain rfl : args = #[v0, v1, v2] := by cases args; simp_all
  obtain ⟨rfl, rfl⟩ := trodVars_none hV
  obtain ⟨ao0, cap0, x0, rfl, hm0, hx0, hr0, hc0⟩ := open_words (hval 0 _ _ rfl rfl) h0
  obtain ⟨x1, rfl, -, -⟩ := open_bool Tryz.underlying4 (hval 1 _ v1 rfl rfl) h1
  obtain ⟨x2, rfl, -, -, w2⟩ := open_int Tryz.underlying24 (hval 2 _ v2 rfl rfl) h2
  have hx2 : 0 ≤ x2 ∧ x2 ≤ 4294967295 := by simpa [Lit.wf, IntKind.min, IntKind.max, IntKind.signed, IntKind.bits] using w2
  obtain ⟨S, hS1, hS2⟩ := sents_laid hL
  have hnil : ao0 = none → x0.length = 0 ∧ cap0 = 0 := fun e => by subst e; exact nil_room Tryz.underlying51 (hval 0 _ _ rfl rfl)
  refine (wholeRings_walk W S hS1 hS2 ao0 cap0 x0 x1 x2 hr0 hc0 hnil hx2.1 hx2.2).mono fun e W' ⟨he, hb⟩ => ?_
  subst he
  exact ⟨_, rfl, law_post laidOut parsOk_all rfl Tryz.underlying4 rfl hW' rfl hb⟩

theorem row_holds : Rows.WholeRingsSaid :=
  OpenClaim.holds_of_wide 8 Tryz.f8 rfl rfl rfl rfl rfl rfl rfl ⟨rfl, rfl, rfl, rfl, rfl⟩ rfl rfl rfl rfl rfl f_func Tryz.func8 closed
    (of_decide_eq_true (by kernel_rfl)) (by unfold Func.isWrapper; first | (rw [if_pos (by decide +kernel)]; kernel_rfl) | (rw [if_neg (by decide +kernel)]; exact ⟨rfl, rfl⟩))
    (fun os started H enc _ => lifted os started H enc)

theorem proved : Rows.WholeRingsCardSaid :=
  Claim7.holds_tied_plain_at .later [] Rows.wholeRingsCard.laidKinds true Rows.wholeRingsCard.stood.harness Rows.wholeRingsCard.stood.looks
    row_holds (fun _ h => by cases h) (by kernel_rfl) (fun _ h => by cases h) wholeRings_row_tie rfl ⟨rfl, rfl⟩ f_main rfl
    (fun f fn hf hfn => by
      obtain rfl : f = 8 := Option.some.inj (f_func.symm.trans hf) |>.symm
      obtain rfl : fn = Tryz.f8 := (Option.some.inj (Tryz.func8.symm.trans hfn)).symm
      exact ⟨by kernel_rfl, fun j t ht => by
        rw [Tryz.params8] at ht
        have hm : t ∈ [51, 4, 24] := by simpa using Array.mem_of_getElem? ht
        have hall : ([51, 4, 24].all fun u => !Tryz.prog.wantsStandIn u) = true := by kernel_rfl
        exact (show Tryz.prog.wantsStandIn t = false by simpa using List.all_eq_true.1 hall t hm)⟩)
    f_goesBy
#print axioms proved
end Go.Proofs.YtbigilbbbmanjaaGreatDoor.wholeRings
