/-
  SchedPlays: for every input the call returns true, and each argument reads afterwards as it read before; what the row lists is tied to the program's text. No conditions.
-/
import Derived.Test.YtnhocmmgdkiepaaDoorMgb978c96bb6
import Derived.Test.YtnhocmmgdkiepaaDoorMg093006b5f2
import Derived.Test.YtnhocmmgdkiepaaDoorMg891e6fd1b3
import Derived.Test.YtnhocmmgdkiepaaDoorCards
import Derived.Test.YtnhocmmgdkiepaaDoorTie
import Derived.SevenTiedAt
import Derived.MakeChecks
import Derived.Lay
namespace Go.Proofs.YtnhocmmgdkiepaaDoor.schedPlays
open Go.ChangeShapes Go.WideShapes Go.ChangeAt Go.RowKit Go.Joins

theorem parsOk_all : parsOk Tryd.prog Tryd.f11.params.toList = true := by kernel_rfl

theorem errs_laid {W : World} (h : laidMetH Tryd.prog Rows.schedPlaysRow.laid W) : ∃ E, ErrsAt errT gOf W E [0, 1, 2, 3, 4, 5, 6, 7, 8, 9, 10, 11, 12, 13, 14, 15] := by
  rw [MakeChecks.laidMetH_plain _ _ _ (by kernel_rfl)] at h
  obtain ⟨ps, hv, hnd, hrows⟩ := h
  obtain ⟨B, h1, h2, -, h4⟩ := errs_sents _ ps hv hnd hrows (by
    intro x hx
    have hx' : x ∈ [("facade/api.ErrEnd", Rows.laid_facade_api_ErrEnd), ("facade/api.ErrShape", Rows.laid_facade_api_ErrShape), ("facade/api.ErrRange", Rows.laid_facade_api_ErrRange), ("facade/api.ErrMany", Rows.laid_facade_api_ErrMany), ("facade/api.ErrOp", Rows.laid_facade_api_ErrOp), ("facade/api.ErrTwice", Rows.laid_facade_api_ErrTwice), ("facade/api.ErrNone", Rows.laid_facade_api_ErrNone), ("facade/api.ErrFar", Rows.laid_facade_api_ErrFar), ("facade/api.ErrMap", Rows.laid_facade_api_ErrMap), ("facade/api.ErrOwner", Rows.laid_facade_api_ErrOwner), ("facade/api.ErrType", Rows.laid_facade_api_ErrType), ("facade/api.ErrBusy", Rows.laid_facade_api_ErrBusy), ("facade/api.ErrFull", Rows.laid_facade_api_ErrFull), ("facade/api.ErrState", Rows.laid_facade_api_ErrState), ("facade/api.ErrWord", Rows.laid_facade_api_ErrWord), ("facade/api.ErrNumber", Rows.laid_facade_api_ErrNumber)] := hx
    simp only [List.mem_cons, List.not_mem_nil, or_false] at hx'
    rcases hx' with rfl | rfl | rfl | rfl | rfl | rfl | rfl | rfl | rfl | rfl | rfl | rfl | rfl | rfl | rfl | rfl
    · exact ⟨⟨_, rfl⟩, fun g hg => by obtain rfl := Option.some.inj ((show Tryd.prog.globalNamed "facade/api.ErrEnd" = some 9 by kernel_rfl).symm.trans hg); kernel_rfl⟩
    · exact ⟨⟨_, rfl⟩, fun g hg => by obtain rfl := Option.some.inj ((show Tryd.prog.globalNamed "facade/api.ErrShape" = some 5 by kernel_rfl).symm.trans hg); kernel_rfl⟩
    · exact ⟨⟨_, rfl⟩, fun g hg => by obtain rfl := Option.some.inj ((show Tryd.prog.globalNamed "facade/api.ErrRange" = some 0 by kernel_rfl).symm.trans hg); kernel_rfl⟩
    · exact ⟨⟨_, rfl⟩, fun g hg => by obtain rfl := Option.some.inj ((show Tryd.prog.globalNamed "facade/api.ErrMany" = some 4 by kernel_rfl).symm.trans hg); kernel_rfl⟩
    · exact ⟨⟨_, rfl⟩, fun g hg => by obtain rfl := Option.some.inj ((show Tryd.prog.globalNamed "facade/api.ErrOp" = some 10 by kernel_rfl).symm.trans hg); kernel_rfl⟩
    · exact ⟨⟨_, rfl⟩, fun g hg => by obtain rfl := Option.some.inj ((show Tryd.prog.globalNamed "facade/api.ErrTwice" = some 1 by kernel_rfl).symm.trans hg); kernel_rfl⟩
    · exact ⟨⟨_, rfl⟩, fun g hg => by obtain rfl := Option.some.inj ((show Tryd.prog.globalNamed "facade/api.ErrNone" = some 2 by kernel_rfl).symm.trans hg); kernel_rfl⟩
    · exact ⟨⟨_, rfl⟩, fun g hg => by obtain rfl := Option.some.inj ((show Tryd.prog.globalNamed "facade/api.ErrFar" = some 11 by kernel_rfl).symm.trans hg); kernel_rfl⟩
    · exact ⟨⟨_, rfl⟩, fun g hg => by obtain rfl := Option.some.inj ((show Tryd.prog.globalNamed "facade/api.ErrMap" = some 12 by kernel_rfl).symm.trans hg); kernel_rfl⟩
    · exact ⟨⟨_, rfl⟩, fun g hg => by obtain rfl := Option.some.inj ((show Tryd.prog.globalNamed "facade/api.ErrOwner" = some 8 by kernel_rfl).symm.trans hg); kernel_rfl⟩
    · exact ⟨⟨_, rfl⟩, fun g hg => by obtain rfl := Option.some.inj ((show Tryd.prog.globalNamed "facade/api.ErrType" = some 7 by kernel_rfl).symm.trans hg); kernel_rfl⟩
    · exact ⟨⟨_, rfl⟩, fun g hg => by obtain rfl := Option.some.inj ((show Tryd.prog.globalNamed "facade/api.ErrBusy" = some 6 by kernel_rfl).symm.trans hg); kernel_rfl⟩
    · exact ⟨⟨_, rfl⟩, fun g hg => by obtain rfl := Option.some.inj ((show Tryd.prog.globalNamed "facade/api.ErrFull" = some 3 by kernel_rfl).symm.trans hg); kernel_rfl⟩
    · exact ⟨⟨_, rfl⟩, fun g hg => by obtain rfl := Option.some.inj ((show Tryd.prog.globalNamed "facade/api.ErrState" = some 13 by kernel_rfl).symm.trans hg); kernel_rfl⟩
    · exact ⟨⟨_, rfl⟩, fun g hg => by obtain rfl := Option.some.inj ((show Tryd.prog.globalNamed "facade/api.ErrWord" = some 14 by kernel_rfl).symm.trans hg); kernel_rfl⟩
    · exact ⟨⟨_, rfl⟩, fun g hg => by obtain rfl := Option.some.inj ((show Tryd.prog.globalNamed "facade/api.ErrNumber" = some 15 by kernel_rfl).symm.trans hg); kernel_rfl⟩)
  exact errs_of (P := Tryd.prog) Rows.schedPlaysRow.laid [0, 1, 2, 3, 4, 5, 6, 7, 8, 9, 10, 11, 12, 13, 14, 15] (by decide) rfl (by
    intro i x k hx hk
    have hi : i < 16 := (List.getElem?_eq_some_iff.1 hk).1
    match i, hi with
    | 0, _ => obtain rfl := Option.some.inj hx; obtain rfl := Option.some.inj hk; exact (show Tryd.prog.globalNamed "facade/api.ErrEnd" = some (gOf 0) by kernel_rfl)
    | 1, _ => obtain rfl := Option.some.inj hx; obtain rfl := Option.some.inj hk; exact (show Tryd.prog.globalNamed "facade/api.ErrShape" = some (gOf 1) by kernel_rfl)
    | 2, _ => obtain rfl := Option.some.inj hx; obtain rfl := Option.some.inj hk; exact (show Tryd.prog.globalNamed "facade/api.ErrRange" = some (gOf 2) by kernel_rfl)
    | 3, _ => obtain rfl := Option.some.inj hx; obtain rfl := Option.some.inj hk; exact (show Tryd.prog.globalNamed "facade/api.ErrMany" = some (gOf 3) by kernel_rfl)
    | 4, _ => obtain rfl := Option.some.inj hx; obtain rfl := Option.some.inj hk; exact (show Tryd.prog.globalNamed "facade/api.ErrOp" = some (gOf 4) by kernel_rfl)
    | 5, _ => obtain rfl := Option.some.inj hx; obtain rfl := Option.some.inj hk; exact (show Tryd.prog.globalNamed "facade/api.ErrTwice" = some (gOf 5) by kernel_rfl)
    | 6, _ => obtain rfl := Option.some.inj hx; obtain rfl := Option.some.inj hk; exact (show Tryd.prog.globalNamed "facade/api.ErrNone" = some (gOf 6) by kernel_rfl)
    | 7, _ => obtain rfl := Option.some.inj hx; obtain rfl := Option.some.inj hk; exact (show Tryd.prog.globalNamed "facade/api.ErrFar" = some (gOf 7) by kernel_rfl)
    | 8, _ => obtain rfl := Option.some.inj hx; obtain rfl := Option.some.inj hk; exact (show Tryd.prog.globalNamed "facade/api.ErrMap" = some (gOf 8) by kernel_rfl)
    | 9, _ => obtain rfl := Option.some.inj hx; obtain rfl := Option.some.inj hk; exact (show Tryd.prog.globalNamed "facade/api.ErrOwner" = some (gOf 9) by kernel_rfl)
    | 10, _ => obtain rfl := Option.some.inj hx; obtain rfl := Option.some.inj hk; exact (show Tryd.prog.globalNamed "facade/api.ErrType" = some (gOf 10) by kernel_rfl)
    | 11, _ => obtain rfl := Option.some.inj hx; obtain rfl := Option.some.inj hk; exact (show Tryd.prog.globalNamed "facade/api.ErrBusy" = some (gOf 11) by kernel_rfl)
    | 12, _ => obtain rfl := Option.some.inj hx; obtain rfl := Option.some.inj hk; exact (show Tryd.prog.globalNamed "facade/api.ErrFull" = some (gOf 12) by kernel_rfl)
    | 13, _ => obtain rfl := Option.some.inj hx; obtain rfl := Option.some.inj hk; exact (show Tryd.prog.globalNamed "facade/api.ErrState" = some (gOf 13) by kernel_rfl)
    | 14, _ => obtain rfl := Option.some.inj hx; obtain rfl := Option.some.inj hk; exact (show Tryd.prog.globalNamed "facade/api.ErrWord" = some (gOf 14) by kernel_rfl)
    | 15, _ => obtain rfl := Option.some.inj hx; obtain rfl := Option.some.inj hk; exact (show Tryd.prog.globalNamed "facade/api.ErrNumber" = some (gOf 15) by kernel_rfl)
    ) ⟨B, h1, h2, h4⟩

set_option maxRecDepth 100000 in
theorem lifted (os : Os) (started : os.Started) (H : Type) (enc : TypeId × Value → H) :
    ReturnsInHanded {} Tryd.checked os 11 .any (fun w args => (Rows.schedPlaysSpec.pre enc Tryd.prog Tryd.f11 [] false w args ∧ laidMetH Tryd.prog Rows.schedPlaysRow.laid w) ∧ sizedMet enc Tryd.prog Tryd.f11 (OpenSpec.ofChange Rows.schedPlaysSpec) false w args) (Rows.schedPlaysSpec.post enc Tryd.prog Tryd.f11 false true false false) := by
  refine returnsInHanded_of_change_and (C := Tryd.checked) (X := fun w _ => laidMetH Tryd.prog Rows.schedPlaysRow.laid w) (fun _ _ _ hh h => h.of_heap hh) own started (by kernel_rfl) Tryd.func11
    (ChangeSpec.witness_shaped (enc := enc) (C := Tryd.checked) (os := os) (X := fun w _ => laidMetH Tryd.prog Rows.schedPlaysRow.laid w) false (World.laidAll Tryd.prog os Rows.schedPlaysRow.laid) #[.slice none 0 0] 8 (World.laidAll_os _ _ _)
      (World.shaped_of_ZipB (by kernel_rfl) (by kernel_rfl)) (by kernel_rfl) (by kernel_rfl) (by kernel_rfl)
      (by rw [MakeChecks.laidMetH_plain _ _ _ (by kernel_rfl)]; exact laidMet_laidAll _ (by kernel_rfl) (by kernel_rfl))) ?_
  intro W base args ds gs before hval0 hW _ _ hL _
  have hval : ∀ (j : Nat) t v, Tryd.f11.params[j]? = some t → args[j]? = some v → Value.okWide Tryd.prog W .any base t v := hval0
  have hW' := hW
  obtain ⟨p, q, hA0, hV, rfl, hfz, hnd⟩ := hW
  have hA : DataW.TrodAll enc Tryd.prog W 0 (fun _ => true) true Tryd.f11.params.toList args.toList ds p := hA0
  rw [Tryd.params11] at hA hval
  obtain ⟨v0, vs0, d0, ds0, p0, q0, hargs, rfl, rfl, h0, r0⟩ := trodAll_cons hA
  obtain ⟨rfl, rfl, rfl⟩ := trodAll_nil r0
  obtain rfl : args = #[v0] := by cases args; simp_all
  obtain ⟨rfl, rfl⟩ := trodVars_none hV
  obtain ⟨ao0, cap0, x0, rfl, hm0, hx0, hr0, hc0⟩ := open_scdo (hval 0 _ _ rfl rfl) h0
  obtain ⟨E, hE⟩ := errs_laid hL
  refine (schedPlays_walk E x0 ao0 cap0 W hE hr0 hx0).mono fun e W' ⟨he, hb⟩ => ?_
  subst he
  exact ⟨_, rfl, law_post laidOut parsOk_all rfl Tryd.underlying4 rfl hW' rfl hb⟩

theorem row_holds : Rows.SchedPlaysSaid :=
  OpenClaim.holds_of_wide 11 Tryd.f11 rfl rfl rfl rfl rfl rfl rfl ⟨rfl, rfl, rfl, rfl, rfl⟩ rfl rfl rfl rfl rfl (by kernel_rfl) Tryd.func11 (by kernel_rfl)
    (of_decide_eq_true (by kernel_rfl)) (by unfold Func.isWrapper; first | (rw [if_pos (by decide +kernel)]; kernel_rfl) | (rw [if_neg (by decide +kernel)]; exact ⟨rfl, rfl⟩))
    (fun os started H enc _ => lifted os started H enc)

theorem proved : Rows.SchedPlaysCardSaid :=
  Claim7.holds_tied_plain_at .later [] Rows.schedPlaysCard.laidKinds true Rows.schedPlaysCard.stood.harness Rows.schedPlaysCard.stood.looks
    row_holds (fun _ h => by cases h) (by kernel_rfl) (fun _ h => by cases h) schedPlays_row_tie rfl ⟨rfl, rfl⟩ (by kernel_rfl) rfl
    (fun f fn hf hfn => by
      obtain rfl : f = 11 := Option.some.inj ((show Tryd.prog.funcNamed "facade/facadelaw24.SchedPlays" = some 11 by kernel_rfl).symm.trans hf) |>.symm
      obtain rfl : fn = Tryd.f11 := (Option.some.inj (Tryd.func11.symm.trans hfn)).symm
      exact ⟨by kernel_rfl, fun j t ht => by
        rw [Tryd.params11] at ht
        have hm : t ∈ [88] := by simpa using Array.mem_of_getElem? ht
        have hall : ([88].all fun u => !Tryd.prog.wantsStandIn u) = true := by kernel_rfl
        exact (show Tryd.prog.wantsStandIn t = false by simpa using List.all_eq_true.1 hall t hm)⟩)
    (by kernel_rfl)
#print axioms proved
end Go.Proofs.YtnhocmmgdkiepaaDoor.schedPlays
