/-
  Parts of one proof, one behind the other.
-/
import Derived.Test.YtbigilbbbmanjaaGreatDoorMgf94f2ecc3b
import Derived.Test.YtbigilbbbmanjaaGreatDoorMg848997f6ad
import Derived.Test.YtbigilbbbmanjaaGreatDoorMg8b50976971
import Derived.Test.YtbigilbbbmanjaaGreatDoorMg52452941b8
import Derived.Test.YtbigilbbbmanjaaGreatDoorMg22ada5085b
import Derived.Test.YtbigilbbbmanjaaGreatDoorMg3cb30609cf
import Derived.Test.YtbigilbbbmanjaaGreatDoorMg6639cebff8
import Derived.Test.YtbigilbbbmanjaaGreatDoorMg693b809a3e
import Derived.Test.YtbigilbbbmanjaaGreatDoorMg8b0ba3ee95
import Derived.Test.YtbigilbbbmanjaaGreatDoorMg33c314d72b
import Derived.Deep.Slices
import Derived.Test.YtbigilbbbmanjaaGreatDoorRows
/-
  WholeRings: for any words, bent or not, from any number.
-/
set_option linter.unusedVariables false
set_option linter.unusedSimpArgs false
namespace Go.Proofs.YtbigilbbbmanjaaGreatDoor
open Go.Ev Go.RowKit

theorem slice_den {I : RingIn} {r : Nat} (hc : I.ws.length ≤ I.cap) (hsp : I.ws = [] ∨ I.ao.spot = none) :
    den (ringE Tryz.prog.globals.size I r) (sliceV I.ws.length) = some (.slice (some I.ao) I.ws.length I.cap) := by
  have ha := ringE_arg (I := I) (r := r) (show Tryz.prog.globals.size ≤ 32 by rw [globalsR]; omega)
  cases hw : I.ws with
  | nil =>
    show den _ (.slz argN) = _
    simp only [den, ha]
    rfl
  | cons x l =>
    have hsp : I.ao.spot = none := by
      rcases hsp with h | h
      · rw [hw] at h; cases h
      · exact h
    rw [hw] at hc
    show den _ (.sl argN 0 (l.length + 1) (.v 0)) = _
    simp only [den, ha, Nat.add_zero, Nat.sub_zero]
    rw [if_pos (by simpa using hc), ← hsp]
    rfl
theorem rings_all {b : Bool} (I : RingIn) (w : World) {r : Nat} (hr : r < 8) (hI : RingAt w I) (h0 : 0 ≤ I.fr) (h1 : I.fr < 4294967296) (h2 : I.fr % 8 = (r : Int)) (hc : I.ws.length ≤ I.cap) (hsp : I.ws = [] ∨ I.ao.spot = none) :
    Calls Tryz.prog 8 #[.slice (some I.ao) I.ws.length I.cap, .bool b, .int .u32 I.fr] w fun e w' => e = .returned (.bool true) ∧ Below w.heap.size w w' := by
  have key : ∀ n, I.ws.length = n → evF tabR 60 fRings [sliceV n, .bool b, .opq (fromN r)] (ringH n) (fun v _ => v.onBool true false) = true := by
    intro n hn
    have h8 : n ≤ 8 := hn ▸ hI.len
    have hn' : n < 9 := by omega
    clear hn h8
    match n, hn', r, hr, b with
    | 0, _, 0, _, false => exact rings_0_0_false
    | 0, _, 0, _, true => exact rings_0_0_true
    | 0, _, 1, _, false => exact rings_0_1_false
    | 0, _, 1, _, true => exact rings_0_1_true
    | 0, _, 2, _, false => exact rings_0_2_false
    | 0, _, 2, _, true => exact rings_0_2_true
    | 0, _, 3, _, false => exact rings_0_3_false
    | 0, _, 3, _, true => exact rings_0_3_true
    | 0, _, 4, _, false => exact rings_0_4_false
    | 0, _, 4, _, true => exact rings_0_4_true
    | 0, _, 5, _, false => exact rings_0_5_false
    | 0, _, 5, _, true => exact rings_0_5_true
    | 0, _, 6, _, false => exact rings_0_6_false
    | 0, _, 6, _, true => exact rings_0_6_true
    | 0, _, 7, _, false => exact rings_0_7_false
    | 0, _, 7, _, true => exact rings_0_7_true
    | 1, _, 0, _, false => exact rings_1_0_false
    | 1, _, 0, _, true => exact rings_1_0_true
    | 1, _, 1, _, false => exact rings_1_1_false
    | 1, _, 1, _, true => exact rings_1_1_true
    | 1, _, 2, _, false => exact rings_1_2_false
    | 1, _, 2, _, true => exact rings_1_2_true
    | 1, _, 3, _, false => exact rings_1_3_false
    | 1, _, 3, _, true => exact rings_1_3_true
    | 1, _, 4, _, false => exact rings_1_4_false
    | 1, _, 4, _, true => exact rings_1_4_true
    | 1, _, 5, _, false => exact rings_1_5_false
    | 1, _, 5, _, true => exact rings_1_5_true
    | 1, _, 6, _, false => exact rings_1_6_false
    | 1, _, 6, _, true => exact rings_1_6_true
    | 1, _, 7, _, false => exact rings_1_7_false
    | 1, _, 7, _, true => exact rings_1_7_true
    | 2, _, 0, _, false => exact rings_2_0_false
    | 2, _, 0, _, true => exact rings_2_0_true
    | 2, _, 1, _, false => exact rings_2_1_false
    | 2, _, 1, _, true => exact rings_2_1_true
    | 2, _, 2, _, false => exact rings_2_2_false
    | 2, _, 2, _, true => exact rings_2_2_true
    | 2, _, 3, _, false => exact rings_2_3_false
    | 2, _, 3, _, true => exact rings_2_3_true
    | 2, _, 4, _, false => exact rings_2_4_false
    | 2, _, 4, _, true => exact rings_2_4_true
    | 2, _, 5, _, false => exact rings_2_5_false
    | 2, _, 5, _, true => exact rings_2_5_true
    | 2, _, 6, _, false => exact rings_2_6_false
    | 2, _, 6, _, true => exact rings_2_6_true
    | 2, _, 7, _, false => exact rings_2_7_false
    | 2, _, 7, _, true => exact rings_2_7_true
    | 3, _, 0, _, false => exact rings_3_0_false
    | 3, _, 0, _, true => exact rings_3_0_true
    | 3, _, 1, _, false => exact rings_3_1_false
    | 3, _, 1, _, true => exact rings_3_1_true
    | 3, _, 2, _, false => exact rings_3_2_false
    | 3, _, 2, _, true => exact rings_3_2_true
    | 3, _, 3, _, false => exact rings_3_3_false
    | 3, _, 3, _, true => exact rings_3_3_true
    | 3, _, 4, _, false => exact rings_3_4_false
    | 3, _, 4, _, true => exact rings_3_4_true
    | 3, _, 5, _, false => exact rings_3_5_false
    | 3, _, 5, _, true => exact rings_3_5_true
    | 3, _, 6, _, false => exact rings_3_6_false
    | 3, _, 6, _, true => exact rings_3_6_true
    | 3, _, 7, _, false => exact rings_3_7_false
    | 3, _, 7, _, true => exact rings_3_7_true
    | 4, _, 0, _, false => exact rings_4_0_false
    | 4, _, 0, _, true => exact rings_4_0_true
    | 4, _, 1, _, false => exact rings_4_1_false
    | 4, _, 1, _, true => exact rings_4_1_true
    | 4, _, 2, _, false => exact rings_4_2_false
    | 4, _, 2, _, true => exact rings_4_2_true
    | 4, _, 3, _, false => exact rings_4_3_false
    | 4, _, 3, _, true => exact rings_4_3_true
    | 4, _, 4, _, false => exact rings_4_4_false
    | 4, _, 4, _, true => exact rings_4_4_true
    | 4, _, 5, _, false => exact rings_4_5_false
    | 4, _, 5, _, true => exact rings_4_5_true
    | 4, _, 6, _, false => exact rings_4_6_false
    | 4, _, 6, _, true => exact rings_4_6_true
    | 4, _, 7, _, false => exact rings_4_7_false
    | 4, _, 7, _, true => exact rings_4_7_true
    | 5, _, 0, _, false => exact rings_5_0_false
    | 5, _, 0, _, true => exact rings_5_0_true
    | 5, _, 1, _, false => exact rings_5_1_false
    | 5, _, 1, _, true => exact rings_5_1_true
    | 5, _, 2, _, false => exact rings_5_2_false
    | 5, _, 2, _, true => exact rings_5_2_true
    | 5, _, 3, _, false => exact rings_5_3_false
    | 5, _, 3, _, true => exact rings_5_3_true
    | 5, _, 4, _, false => exact rings_5_4_false
    | 5, _, 4, _, true => exact rings_5_4_true
    | 5, _, 5, _, false => exact rings_5_5_false
    | 5, _, 5, _, true => exact rings_5_5_true
    | 5, _, 6, _, false => exact rings_5_6_false
    | 5, _, 6, _, true => exact rings_5_6_true
    | 5, _, 7, _, false => exact rings_5_7_false
    | 5, _, 7, _, true => exact rings_5_7_true
    | 6, _, 0, _, false => exact rings_6_0_false
    | 6, _, 0, _, true => exact rings_6_0_true
    | 6, _, 1, _, false => exact rings_6_1_false
    | 6, _, 1, _, true => exact rings_6_1_true
    | 6, _, 2, _, false => exact rings_6_2_false
    | 6, _, 2, _, true => exact rings_6_2_true
    | 6, _, 3, _, false => exact rings_6_3_false
    | 6, _, 3, _, true => exact rings_6_3_true
    | 6, _, 4, _, false => exact rings_6_4_false
    | 6, _, 4, _, true => exact rings_6_4_true
    | 6, _, 5, _, false => exact rings_6_5_false
    | 6, _, 5, _, true => exact rings_6_5_true
    | 6, _, 6, _, false => exact rings_6_6_false
    | 6, _, 6, _, true => exact rings_6_6_true
    | 6, _, 7, _, false => exact rings_6_7_false
    | 6, _, 7, _, true => exact rings_6_7_true
    | 7, _, 0, _, false => exact rings_7_0_false
    | 7, _, 0, _, true => exact rings_7_0_true
    | 7, _, 1, _, false => exact rings_7_1_false
    | 7, _, 1, _, true => exact rings_7_1_true
    | 7, _, 2, _, false => exact rings_7_2_false
    | 7, _, 2, _, true => exact rings_7_2_true
    | 7, _, 3, _, false => exact rings_7_3_false
    | 7, _, 3, _, true => exact rings_7_3_true
    | 7, _, 4, _, false => exact rings_7_4_false
    | 7, _, 4, _, true => exact rings_7_4_true
    | 7, _, 5, _, false => exact rings_7_5_false
    | 7, _, 5, _, true => exact rings_7_5_true
    | 7, _, 6, _, false => exact rings_7_6_false
    | 7, _, 6, _, true => exact rings_7_6_true
    | 7, _, 7, _, false => exact rings_7_7_false
    | 7, _, 7, _, true => exact rings_7_7_true
    | 8, _, 0, _, false => exact rings_8_0_false
    | 8, _, 0, _, true => exact rings_8_0_true
    | 8, _, 1, _, false => exact rings_8_1_false
    | 8, _, 1, _, true => exact rings_8_1_true
    | 8, _, 2, _, false => exact rings_8_2_false
    | 8, _, 2, _, true => exact rings_8_2_true
    | 8, _, 3, _, false => exact rings_8_3_false
    | 8, _, 3, _, true => exact rings_8_3_true
    | 8, _, 4, _, false => exact rings_8_4_false
    | 8, _, 4, _, true => exact rings_8_4_true
    | 8, _, 5, _, false => exact rings_8_5_false
    | 8, _, 5, _, true => exact rings_8_5_true
    | 8, _, 6, _, false => exact rings_8_6_false
    | 8, _, 6, _, true => exact rings_8_6_true
    | 8, _, 7, _, false => exact rings_8_7_false
    | 8, _, 7, _, true => exact rings_8_7_true
  exact rings_run I w rfl hr hI h0 h1 h2 (slice_den hc hsp) (key _ rfl)
theorem rings_nil {b : Bool} (I : RingIn) (w : World) {r : Nat} (hr : r < 8) (hn : I.ws = []) (hI : RingAt w I) (h0 : 0 ≤ I.fr) (h1 : I.fr < 4294967296) (h2 : I.fr % 8 = (r : Int)) :
    Calls Tryz.prog 8 #[.slice none 0 0, .bool b, .int .u32 I.fr] w fun e w' => e = .returned (.bool true) ∧ Below w.heap.size w w' := by
  have key : evF tabR 60 fRings [.nils, .bool b, .opq (fromN r)] (ringH 0) (fun v _ => v.onBool true false) = true := by
    match r, hr, b with
    | 0, _, false => exact rings_z_0_false
    | 0, _, true => exact rings_z_0_true
    | 1, _, false => exact rings_z_1_false
    | 1, _, true => exact rings_z_1_true
    | 2, _, false => exact rings_z_2_false
    | 2, _, true => exact rings_z_2_true
    | 3, _, false => exact rings_z_3_false
    | 3, _, true => exact rings_z_3_true
    | 4, _, false => exact rings_z_4_false
    | 4, _, true => exact rings_z_4_true
    | 5, _, false => exact rings_z_5_false
    | 5, _, true => exact rings_z_5_true
    | 6, _, false => exact rings_z_6_false
    | 6, _, true => exact rings_z_6_true
    | 7, _, false => exact rings_z_7_false
    | 7, _, true => exact rings_z_7_true
  exact rings_run (n := 0) I w (by rw [hn]; rfl) hr hI h0 h1 h2 (by simp [den]) key
end Go.Proofs.YtbigilbbbmanjaaGreatDoor

/-
  The sentinels of facadetop's rows, which list a type's handle beside them: where each lies, what it holds, that no two are one.
-/
namespace Go.Proofs.YtbigilbbbmanjaaGreatDoor
open Go.ChangeShapes Go.WideShapes Go.ChangeAt Go.RowKit

theorem sents2 {P : Program} {nm : String} {ti tp te ts : TypeId} {ms : Array (String × TypeId)} {f : Field} {W : World}
    (hi : P.underlying ti = some (.interface ms)) (hrow : ∀ u, P.typeName? 3 u = some nm → u = tp) (hp : P.underlying tp = some (.pointer te)) (he : P.underlying te = some (.struct #[f])) (hft : f.type = ts) (hfo : f.offset = 0)
    (hs : P.underlying ts = some .string) (hc : P.cellsOf te = 1) (hcs : P.cellsOf ts = 1) :
    ∀ (L : List (String × DataW Unit)) (ps : List MemPlace), DataW.LaidVars P W L ps → ps.Nodup →
      (∀ b off, MemPlace.cell b off ∈ ps → (∃ c t, W.heap[b]? = some (.cells c t (0, 0))) ∧ ∀ u v, W.cell? ⟨b, off, none⟩ = some (.iface u v) → Value.okWide P W .any 0 u v) →
      (∀ x ∈ L, (∃ text, x.2 = .iface nm (.ptr (.agg [.lit (.string text)]))) ∧ ∀ g, P.globalNamed x.1 = some g → (P.globals[g]?).map (·.type) = some ti) →
      ∃ A : List Addr, A.length = L.length ∧ A.Nodup ∧ (∀ a ∈ A, MemPlace.cell a.block a.off ∈ ps) ∧ ∀ (i : Nat) x a, L[i]? = some x → A[i]? = some a → ∃ g, P.globalNamed x.1 = some g ∧ SentAt tp W g a ∧ ∃ s, W.cell? a = some (.string s)
  | [], ps, _, _, _, _ => ⟨[], rfl, by simp, by simp, by simp⟩
  | (n, d) :: L, ps, hv, hnd, hrows, hL => by
    obtain ⟨g, t, cs, fuel, p, q, hg, ht, hvar, hd, hq, rfl⟩ := hv
    obtain ⟨⟨text, hdt⟩, hty⟩ := hL (n, d) (by simp)
    have hdt' : d = .iface nm (.ptr (.agg [.lit (.string text)])) := hdt
    subst hdt'
    obtain rfl := Option.some.inj ((hty g hg).symm.trans ht)
    obtain ⟨l0⟩ := cs
    have hnd2 := List.nodup_append.1 hnd
    have ok0 : ∀ u v, l0 = [.iface u v] → Value.okWide P W .any 0 u v := fun u v e => by
      subst e
      exact (hrows g 0 (by simp [MemPlace.row])).2 u v (by simpa using World.var?_cell hg hvar 0)
    obtain ⟨a, s, rfl, hca, hsa, hza, rfl⟩ := errorString_of_trod hi hrow hp he hft hfo hs hc hcs hd ok0
    obtain ⟨A, h1, h2, h3, h4⟩ := sents2 hi hrow hp he hft hfo hs hc hcs L q hq hnd2.2.1 (fun b off hm => hrows b off (List.mem_append_right _ hm)) (fun x hx => hL x (by simp [hx]))
    have hin : MemPlace.cell a.block a.off ∈ MemPlace.row a 1 := by simp [MemPlace.row]
    refine ⟨a :: A, by simp [h1], ?_, ?_, ?_⟩
    · rw [List.nodup_cons]
      refine ⟨fun hm => ?_, h2⟩
      have hq' := h3 a hm
      exact hnd2.2.2 _ (List.mem_append_right _ hin) _ hq' rfl
    · intro b hb
      rcases List.mem_cons.1 hb with rfl | hb
      · exact List.mem_append_left _ (List.mem_append_right _ hin)
      · exact List.mem_append_right _ (h3 b hb)
    · intro i x b hx hb
      cases i with
      | zero =>
        simp only [List.getElem?_cons_zero, Option.some.injEq] at hx hb
        subst hx hb
        refine ⟨g, hg, ⟨by simpa using World.var?_cell hg hvar 0, ?_⟩, s, hca⟩
        exact (hrows a.block a.off (List.mem_append_left _ (List.mem_append_right _ hin))).1
      | succ i => exact h4 i x b (by simpa using hx) (by simpa using hb)

def plainLaid : List (String × DataW Unit) := [("facade/api.ErrEnd", Rows.laid_facade_api_ErrEnd), ("facade/api.ErrShape", Rows.laid_facade_api_ErrShape), ("facade/api.ErrRange", Rows.laid_facade_api_ErrRange), ("facade/api.ErrMany", Rows.laid_facade_api_ErrMany), ("facade/api.ErrOp", Rows.laid_facade_api_ErrOp), ("facade/api.ErrTwice", Rows.laid_facade_api_ErrTwice), ("facade/api.ErrNone", Rows.laid_facade_api_ErrNone), ("facade/api.ErrFar", Rows.laid_facade_api_ErrFar), ("facade/api.ErrMap", Rows.laid_facade_api_ErrMap), ("facade/api.ErrOwner", Rows.laid_facade_api_ErrOwner), ("facade/api.ErrType", Rows.laid_facade_api_ErrType), ("facade/api.ErrBusy", Rows.laid_facade_api_ErrBusy), ("facade/api.ErrFull", Rows.laid_facade_api_ErrFull), ("facade/api.ErrState", Rows.laid_facade_api_ErrState), ("facade/api.ErrWord", Rows.laid_facade_api_ErrWord), ("facade/api.ErrNumber", Rows.laid_facade_api_ErrNumber)]
theorem plain_met {W : World} (h : laidMetH Tryz.prog Rows.wholeRingsRow.laid W) : laidMet Tryz.prog plainLaid W := by
  unfold laidMetH at h
  rw [show (Rows.wholeRingsRow.laid.filter fun x => x.2.handleName?.isSome) = [("errors.errorType", Rows.laid_errors_errorType)] from rfl] at h
  exact h.1
theorem sents_laid {W : World} (h : laidMetH Tryz.prog Rows.wholeRingsRow.laid W) : ∃ S : Nat → Addr,
    (∀ k, k < 16 → W.cell? ⟨Go.Ev.gSent.getD k 0, 0, none⟩ = some (.iface Go.Ev.errTy (.pointer (some (S k)))) ∧ (∃ s, W.cell? (S k) = some (.string s)) ∧ ∃ c t, W.heap[(S k).block]? = some (.cells c t (0, 0))) ∧
    ∀ i j, i < 16 → j < 16 → i ≠ j → S i ≠ S j := by
  obtain ⟨ps, hv, hnd, hrows⟩ := plain_met h
  obtain ⟨B, h1, h2, -, h4⟩ := sents2 Tryz.underlying55 err_row Tryz.underlying471 Tryz.underlying492 rfl rfl Tryz.underlying9 err_cells str_cells _ ps hv hnd hrows (by
    intro x hx
    have hx' : x ∈ plainLaid := hx
    unfold plainLaid at hx'
    simp only [List.mem_cons, List.not_mem_nil, or_false] at hx'
    rcases hx' with rfl | rfl | rfl | rfl | rfl | rfl | rfl | rfl | rfl | rfl | rfl | rfl | rfl | rfl | rfl | rfl
    · exact ⟨⟨_, rfl⟩, fun g hg => by obtain rfl := Option.some.inj ((show Tryz.prog.globalNamed "facade/api.ErrEnd" = some 12 by kernel_rfl).symm.trans hg); kernel_rfl⟩
    · exact ⟨⟨_, rfl⟩, fun g hg => by obtain rfl := Option.some.inj ((show Tryz.prog.globalNamed "facade/api.ErrShape" = some 5 by kernel_rfl).symm.trans hg); kernel_rfl⟩
    · exact ⟨⟨_, rfl⟩, fun g hg => by obtain rfl := Option.some.inj ((show Tryz.prog.globalNamed "facade/api.ErrRange" = some 0 by kernel_rfl).symm.trans hg); kernel_rfl⟩
    · exact ⟨⟨_, rfl⟩, fun g hg => by obtain rfl := Option.some.inj ((show Tryz.prog.globalNamed "facade/api.ErrMany" = some 1 by kernel_rfl).symm.trans hg); kernel_rfl⟩
    · exact ⟨⟨_, rfl⟩, fun g hg => by obtain rfl := Option.some.inj ((show Tryz.prog.globalNamed "facade/api.ErrOp" = some 11 by kernel_rfl).symm.trans hg); kernel_rfl⟩
    · exact ⟨⟨_, rfl⟩, fun g hg => by obtain rfl := Option.some.inj ((show Tryz.prog.globalNamed "facade/api.ErrTwice" = some 3 by kernel_rfl).symm.trans hg); kernel_rfl⟩
    · exact ⟨⟨_, rfl⟩, fun g hg => by obtain rfl := Option.some.inj ((show Tryz.prog.globalNamed "facade/api.ErrNone" = some 4 by kernel_rfl).symm.trans hg); kernel_rfl⟩
    · exact ⟨⟨_, rfl⟩, fun g hg => by obtain rfl := Option.some.inj ((show Tryz.prog.globalNamed "facade/api.ErrFar" = some 13 by kernel_rfl).symm.trans hg); kernel_rfl⟩
    · exact ⟨⟨_, rfl⟩, fun g hg => by obtain rfl := Option.some.inj ((show Tryz.prog.globalNamed "facade/api.ErrMap" = some 7 by kernel_rfl).symm.trans hg); kernel_rfl⟩
    · exact ⟨⟨_, rfl⟩, fun g hg => by obtain rfl := Option.some.inj ((show Tryz.prog.globalNamed "facade/api.ErrOwner" = some 6 by kernel_rfl).symm.trans hg); kernel_rfl⟩
    · exact ⟨⟨_, rfl⟩, fun g hg => by obtain rfl := Option.some.inj ((show Tryz.prog.globalNamed "facade/api.ErrType" = some 10 by kernel_rfl).symm.trans hg); kernel_rfl⟩
    · exact ⟨⟨_, rfl⟩, fun g hg => by obtain rfl := Option.some.inj ((show Tryz.prog.globalNamed "facade/api.ErrBusy" = some 9 by kernel_rfl).symm.trans hg); kernel_rfl⟩
    · exact ⟨⟨_, rfl⟩, fun g hg => by obtain rfl := Option.some.inj ((show Tryz.prog.globalNamed "facade/api.ErrFull" = some 2 by kernel_rfl).symm.trans hg); kernel_rfl⟩
    · exact ⟨⟨_, rfl⟩, fun g hg => by obtain rfl := Option.some.inj ((show Tryz.prog.globalNamed "facade/api.ErrState" = some 14 by kernel_rfl).symm.trans hg); kernel_rfl⟩
    · exact ⟨⟨_, rfl⟩, fun g hg => by obtain rfl := Option.some.inj ((show Tryz.prog.globalNamed "facade/api.ErrWord" = some 15 by kernel_rfl).symm.trans hg); kernel_rfl⟩
    · exact ⟨⟨_, rfl⟩, fun g hg => by obtain rfl := Option.some.inj ((show Tryz.prog.globalNamed "facade/api.ErrNumber" = some 16 by kernel_rfl).symm.trans hg); kernel_rfl⟩)
  have hlen : B.length = 16 := h1
  have named : ∀ k, k < 16 → ∃ x, plainLaid[k]? = some x ∧ Tryz.prog.globalNamed x.1 = some (Go.Ev.gSent.getD k 0) := by
    intro k hk
    match k, hk with
    | 0, _ => exact ⟨_, rfl, (show Tryz.prog.globalNamed "facade/api.ErrEnd" = some 12 by kernel_rfl)⟩
    | 1, _ => exact ⟨_, rfl, (show Tryz.prog.globalNamed "facade/api.ErrShape" = some 5 by kernel_rfl)⟩
    | 2, _ => exact ⟨_, rfl, (show Tryz.prog.globalNamed "facade/api.ErrRange" = some 0 by kernel_rfl)⟩
    | 3, _ => exact ⟨_, rfl, (show Tryz.prog.globalNamed "facade/api.ErrMany" = some 1 by kernel_rfl)⟩
    | 4, _ => exact ⟨_, rfl, (show Tryz.prog.globalNamed "facade/api.ErrOp" = some 11 by kernel_rfl)⟩
    | 5, _ => exact ⟨_, rfl, (show Tryz.prog.globalNamed "facade/api.ErrTwice" = some 3 by kernel_rfl)⟩
    | 6, _ => exact ⟨_, rfl, (show Tryz.prog.globalNamed "facade/api.ErrNone" = some 4 by kernel_rfl)⟩
    | 7, _ => exact ⟨_, rfl, (show Tryz.prog.globalNamed "facade/api.ErrFar" = some 13 by kernel_rfl)⟩
    | 8, _ => exact ⟨_, rfl, (show Tryz.prog.globalNamed "facade/api.ErrMap" = some 7 by kernel_rfl)⟩
    | 9, _ => exact ⟨_, rfl, (show Tryz.prog.globalNamed "facade/api.ErrOwner" = some 6 by kernel_rfl)⟩
    | 10, _ => exact ⟨_, rfl, (show Tryz.prog.globalNamed "facade/api.ErrType" = some 10 by kernel_rfl)⟩
    | 11, _ => exact ⟨_, rfl, (show Tryz.prog.globalNamed "facade/api.ErrBusy" = some 9 by kernel_rfl)⟩
    | 12, _ => exact ⟨_, rfl, (show Tryz.prog.globalNamed "facade/api.ErrFull" = some 2 by kernel_rfl)⟩
    | 13, _ => exact ⟨_, rfl, (show Tryz.prog.globalNamed "facade/api.ErrState" = some 14 by kernel_rfl)⟩
    | 14, _ => exact ⟨_, rfl, (show Tryz.prog.globalNamed "facade/api.ErrWord" = some 15 by kernel_rfl)⟩
    | 15, _ => exact ⟨_, rfl, (show Tryz.prog.globalNamed "facade/api.ErrNumber" = some 16 by kernel_rfl)⟩
    | n + 16, h => exact absurd h (by omega)
  refine ⟨fun k => B.getD k default, fun k hk => ?_, fun i j hi hj hne he => ?_⟩
  · obtain ⟨x, hx, hn⟩ := named k hk
    have hB : B[k]? = some (B.getD k default) := by
      rw [List.getD_eq_getElem?_getD, List.getElem?_eq_getElem (by omega)]
      rfl
    obtain ⟨g, hg, ⟨q1, q2⟩, q3⟩ := h4 k x _ hx hB
    obtain rfl := Option.some.inj (hn.symm.trans hg)
    exact ⟨q1, q3, q2⟩
  · have gi : B.getD i default = B[i]'(by omega) := by rw [List.getD_eq_getElem?_getD, List.getElem?_eq_getElem (by omega)]; rfl
    have gj : B.getD j default = B[j]'(by omega) := by rw [List.getD_eq_getElem?_getD, List.getElem?_eq_getElem (by omega)]; rfl
    have he : B.getD i default = B.getD j default := he
    rw [gi, gj] at he
    exact hne ((List.getElem_inj h2).1 he)
end Go.Proofs.YtbigilbbbmanjaaGreatDoor

/-
  The fields of a struct that came in, read off its cells: numbers, bools, rows of numbers.
-/
namespace Go.Proofs.YtbigilbbbmanjaaGreatDoor
open Go.ChangeShapes Go.WideShapes Go.ChangeAt Go.RowKit Go.Joins
section
variable {H : Type} {enc : TypeId × Value → H} {P : Program} {w : World} {base : Nat} {spare : Nat → Bool} {held : Bool} {n : Nat}

theorem cut1 {cs : List Value} {o : Nat} {v : Value} (h : (cs.drop o).take 1 = [v]) : cs[o]? = some v := by
  have := congrArg (fun l => l[0]?) h
  simpa [List.getElem?_take, List.getElem?_drop] using this
theorem fld_int {cs : List Value} {o : Nat} {t : TypeId} {k : IntKind} {y : DataW H × List MemPlace} (ht : P.underlying t = some (.int k)) (hc : P.cellsOf t = 1)
    (h : DataW.trod enc P w base spare held n t ((cs.drop o).take (P.cellsOf t)) = some y) : ∃ z, cs[o]? = some (.int k z) ∧ (Lit.int k z).wf = true := by
  rw [hc] at h
  obtain ⟨z, e, -, wz⟩ := DataW.trod_int ht h
  exact ⟨z, cut1 e, wz⟩
theorem fld_bool {cs : List Value} {o : Nat} {t : TypeId} {y : DataW H × List MemPlace} (ht : P.underlying t = some .bool) (hc : P.cellsOf t = 1)
    (h : DataW.trod enc P w base spare held n t ((cs.drop o).take (P.cellsOf t)) = some y) : ∃ z, cs[o]? = some (.bool z) := by
  rw [hc] at h
  obtain ⟨z, e, -⟩ := DataW.trod_bool ht h
  exact ⟨z, cut1 e⟩
theorem ints_row {k : IntKind} : ∀ {m : Nat} {l : List Value}, l.length = m → (∀ i, i < m → ∃ z, l[i]? = some (.int k z) ∧ (Lit.int k z).wf = true) → ∃ zs : List Int, zs.length = m ∧ l = zs.map (Value.int k) ∧ ∀ z ∈ zs, (Lit.int k z).wf = true
  | 0, l, hl, _ => ⟨[], rfl, List.eq_nil_of_length_eq_zero hl, by simp⟩
  | m + 1, [], hl, _ => by simp at hl
  | m + 1, v :: l, hl, h => by
    obtain ⟨z, hz, wz⟩ := h 0 (by omega)
    simp at hz
    subst hz
    obtain ⟨zs, h1, h2, h3⟩ := ints_row (l := l) (m := m) (by simpa using hl) (fun i hi => by simpa using h (i + 1) (by omega))
    exact ⟨z :: zs, by simp [h1], by simp [h2], by simp [wz]; exact h3⟩
theorem fld_ints {cs : List Value} {o m : Nat} {t e : TypeId} {k : IntKind} {y : DataW H × List MemPlace} (ht : P.underlying t = some (.array m e)) (he : P.underlying e = some (.int k)) (hce : P.cellsOf e = 1) (hc : P.cellsOf t = m)
    (h : DataW.trod enc P w base spare held n t ((cs.drop o).take (P.cellsOf t)) = some y) : ∃ zs : List Int, zs.length = m ∧ (cs.drop o).take m = zs.map (Value.int k) ∧ ∀ z ∈ zs, (Lit.int k z).wf = true := by
  obtain ⟨xs, n', -, -, hl, hx, hi⟩ := DataW.trod_array ht h
  rw [hc] at hl hi
  refine ints_row hl fun i him => ?_
  have hsome : ∃ y, xs[i]? = some y := ⟨_, List.getElem?_eq_getElem (by omega)⟩
  obtain ⟨y', hy'⟩ := hsome
  have := (hi i him).trans hy'
  rw [hce] at this
  obtain ⟨z, e', -, wz⟩ := DataW.trod_int he this
  rw [Nat.mul_one] at e'
  exact ⟨z, cut1 e', wz⟩
end
end Go.Proofs.YtbigilbbbmanjaaGreatDoor

/-
  Slices of structs that came in: each element's cells. Over any program.
-/
namespace Go.Proofs.YtbigilbbbmanjaaGreatDoor
open Go.ChangeShapes Go.WideShapes Go.ChangeAt Go.RowKit Go.Joins Go.Deep

theorem flat_get {α : Type} (cells : α → List Value) (C : Nat) (h0 : 0 < C) : ∀ (l : List α) (k : Nat) (u : Value), (∀ x ∈ l, (cells x).length = C) → (l.flatMap cells)[k]? = some u → ∃ x, l[k / C]? = some x ∧ (cells x)[k % C]? = some u
  | [], k, u, _, h => by simp at h
  | x :: l, k, u, hl, h => by
    rw [List.flatMap_cons, List.getElem?_append, hl x (by simp)] at h
    by_cases hk : k < C
    · rw [if_pos hk] at h
      exact ⟨x, by rw [Nat.div_eq_of_lt hk]; rfl, by rw [Nat.mod_eq_of_lt hk]; exact h⟩
    · rw [if_neg hk] at h
      obtain ⟨y, h1, h2⟩ := flat_get cells C h0 l (k - C) u (fun x hx => hl x (by simp [hx])) h
      refine ⟨y, ?_, ?_⟩
      · rw [Nat.div_eq_sub_div h0 (by omega), List.getElem?_cons_succ]
        exact h1
      · rw [Nat.mod_eq_sub_mod (by omega)]
        exact h2

theorem open_structs {H : Type} {enc : TypeId × Value → H} {P : Program} {W : World} {t e : TypeId} {C : Nat} {v : Value} {d : DataW H} {p : List MemPlace} {r : Reach} {b0 : Nat}
    (ht : P.underlying t = some (.slice e)) (hC : P.cellsOf e = C) (h0 : 0 < C) {α : Type} [Inhabited α] (cells : α → List Value) (ok : α → Prop) (hv : Value.okWide P W r b0 t v) (h : DataW.Trod enc P W 0 (fun _ => true) true t v d p)
    (hK : ∀ n cs y, cs.length = C → DataW.trod enc P W 0 (fun _ => true) true n e cs = some y → ∃ x, cs = cells x ∧ ok x) :
    ∃ (ao : Option Addr) (cap : Nat) (l : List α), v = .slice ao l.length cap ∧ l.length ≤ maxLen ∧ (∀ x ∈ l, ok x) ∧ AtL W ao (l.flatMap cells) ∧ l.length ≤ cap := by
  obtain ⟨a0, len, cap, rfl⟩ := okWide_slice ht hv
  obtain ⟨fuel, hf⟩ := h
  rcases open_slice ht hf with ⟨hcs, _⟩ | ⟨a, l, c, m, n, D, Pl, hcs, _, hl, hm, hmm, _, hi⟩
  · simp [Value.cells] at hcs
    obtain ⟨rfl, rfl, rfl⟩ := hcs
    exact ⟨none, 0, [], rfl, by simp, by simp, atL_nil _ _, by simp⟩
  · simp [Value.cells] at hcs
    obtain ⟨rfl, rfl, rfl⟩ := hcs
    have hmc : m = cap := by simpa using hmm
    subst hmc
    have hx : ∀ i, i < m → ∃ x : α, ok x ∧ (cells x).length = C ∧ ∀ j u, (cells x)[j]? = some u → W.cell? (a.add (i * C + j)) = some u := fun i him => by
      obtain ⟨cs, hc, hd⟩ := hi i him
      rw [hC] at hc
      obtain ⟨_, hcl, hat⟩ := World.cells?_some hc
      obtain ⟨x, rfl, hok⟩ := hK _ _ _ hcl hd
      refine ⟨x, hok, hcl, fun j u hj => ?_⟩
      have hjl := (List.getElem?_eq_some_iff.1 hj).1
      rw [← Go.Deep.add_add, hat j (by omega)]
      exact hj
    obtain ⟨f, hfx⟩ := choose_lt (α := α) hx
    have hlen : ((List.range len).map f).length = len := by simp
    refine ⟨some a, m, (List.range len).map f, by rw [hlen], by rw [hlen]; omega, ?_, ?_, by rw [hlen]; exact hl⟩
    · intro x hx
      simp only [List.mem_map, List.mem_range] at hx
      obtain ⟨i, hil, rfl⟩ := hx
      exact (hfx i (by omega)).1
    · intro k u hk
      obtain ⟨x, h1, h2⟩ := flat_get cells C h0 _ k u (fun x hx => by
        simp only [List.mem_map, List.mem_range] at hx
        obtain ⟨i, hil, rfl⟩ := hx
        exact (hfx i (by omega)).2.1) hk
      have hkl := (List.getElem?_eq_some_iff.1 h1).1
      rw [hlen] at hkl
      simp only [List.getElem?_map, List.getElem?_range hkl, Option.map_some, Option.some.injEq] at h1
      subst h1
      have hcell := (hfx (k / C) (Nat.lt_of_lt_of_le hkl hl)).2.2 _ u h2
      have e : k / C * C + k % C = k := by rw [Nat.mul_comm]; exact Nat.div_add_mod k C
      rw [e] at hcell
      have hspot : a.spot = none := by
        have h2 := (hfx 0 (Nat.lt_of_lt_of_le (Nat.lt_of_le_of_lt (Nat.zero_le _) hkl) hl)).2
        obtain ⟨u0, hu0⟩ : ∃ u0, (cells (f 0))[0]? = some u0 := ⟨_, List.getElem?_eq_getElem (by rw [h2.1]; exact h0)⟩
        have hs := World.cell?_spot (h2.2 0 u0 hu0)
        simpa [Addr.add] using hs
      obtain ⟨b, off, spot⟩ := a
      have hspot' : spot = none := hspot
      subst hspot'
      rw [Addr.add_lit] at hcell
      exact ⟨b, off, rfl, hcell, World.block_lt_of_cell? W ⟨b, off + k, none⟩ hcell⟩

/-- one field of a struct's cells -/
theorem one_of {cs : List Value} {o : Nat} {v : Value} (h : cs[o]? = some v) (hl : o < cs.length) : cs[o] = v := by
  rw [List.getElem?_eq_getElem hl] at h
  exact Option.some.inj h

theorem bls_flat (l : List Bool) : (l.flatMap fun b : Bool => [Value.bool b]) = bls l := by
  induction l with
  | nil => rfl
  | cons x l ih =>
    rw [List.flatMap_cons, ih]
    rfl

theorem open_bools {H : Type} {enc : TypeId × Value → H} {P : Program} {W : World} {t e : TypeId} {v : Value} {d : DataW H} {p : List MemPlace} {r : Reach} {b0 : Nat}
    (ht : P.underlying t = some (.slice e)) (he : P.underlying e = some .bool) (hC : P.cellsOf e = 1) (hv : Value.okWide P W r b0 t v) (h : DataW.Trod enc P W 0 (fun _ => true) true t v d p) :
    ∃ (ao : Option Addr) (cap : Nat) (l : List Bool), v = .slice ao l.length cap ∧ l.length ≤ maxLen ∧ AtL W ao (bls l) ∧ l.length ≤ cap := by
  obtain ⟨ao, cap, l, e1, e2, -, e3, e4⟩ := open_structs ht hC (by decide) (fun b : Bool => [.bool b]) (fun _ => True) hv h (fun n cs y hl hd => by
    obtain ⟨b, e, -⟩ := DataW.trod_bool he hd
    exact ⟨b, e, trivial⟩)
  refine ⟨ao, cap, l, e1, e2, ?_, e4⟩
  rw [← bls_flat]
  exact e3
end Go.Proofs.YtbigilbbbmanjaaGreatDoor

/-
  append(s, make([]T, m)...), the row too short: a new row, zeros behind the old cells.
-/
namespace Go.Proofs.YtbigilbbbmanjaaGreatDoor
open Go.RowKit

theorem zeroCells_one (z : Value) (m : Nat) : (Builtin.zeroCells #[z] m).toList = List.replicate m z := by
  simp [Builtin.zeroCells]
  apply List.ext_getElem
  · simp
  · intro i h1 h2
    simp [Nat.mod_one]

theorem run_append_made {P : Program} (w : World) (t ty e x : TypeId) (i : TypeInfo) (z : Value) (bytes : Nat) (ht : P.underlying t = some (.slice e)) (hx : P.underlying x = some (.int .i64)) (hi : P.info? e = some i) (hz : i.zero = some z)
    (hsize : i.size = 1) (hby : i.bytes = bytes) (hzs : z.cells = #[z]) (g n cap : Nat) (xs : List Value) (hown : w.ownsRow 0 e 1 (.slice (some ⟨g, 0, none⟩) n cap) n xs)
    (m : Nat) (h0 : 0 < m) (hg : cap < n + m) (h63 : n + m ≤ maxLen) (hbytes : (n + m) * bytes ≤ 140737488355328) :
    ∃ c' w', (Builtin.append_ #[t, x] ty #[.slice (some ⟨g, 0, none⟩) n cap, .int .i64 (m : Int)]).run P w = .ok (.slice (some ⟨w.heap.size, 0, none⟩) (n + m) c') w' ∧
      w'.ownsRow 0 e 1 (.slice (some ⟨w.heap.size, 0, none⟩) (n + m) c') (n + m) (xs ++ List.replicate m z) ∧ Below w.heap.size w w' := by
  have hlo : xs.length = n * 1 := hown.1
  have hsmall : n + m ≤ 9223372036854775807 := by simp only [maxLen] at h63; omega
  have holds : ∀ j v, xs[j]? = some v → w.cell? ((⟨g, 0, none⟩ : Addr).add j) = some v := hown.cells (g := g) rfl
  have hge := grownCap_ge w (n + m) cap e
  have hcm : grownCap w (n + m) cap e ≤ maxLen := grownCap_le_maxLen w (n + m) cap e h63
  refine ⟨grownCap w (n + m) cap e, w.drew.alloc (.cells (xs.toArray ++ Builtin.zeroCells #[z] m ++ Builtin.zeroCells #[z] (grownCap w (n + m) cap e - (n + m))) e), ?_, ⟨?_, .inr ⟨w.heap.size, _, _, rfl, Nat.zero_le _, heap_alloc_new w.drew _, hge, hcm, ?_, ?_⟩⟩, ?_⟩
  · have hn : ¬ (n + m ≤ cap) := by omega
    have hwr := IntWalk.i64_in (m : Int) (by omega)
    have hneg : ¬ ((m : Int) < 0) := by omega
    have hm48 : (m : Nat) * bytes ≤ 140737488355328 := Nat.le_trans (Nat.mul_le_mul_right _ (by omega)) hbytes
    have hm48' : ¬ ((281474976710656 : Int) < (m : Int) * (i.bytes : Int)) := by
      rw [hby, ← Int.natCast_mul]
      omega
    have h63' : ¬ (9223372036854775807 < ((n : Int) + (m : Int))) := by omega
    have hfit := growslice_fits (need := n + m) (old := cap) (bytes := bytes) hg hbytes
    have h48' : ¬ (281474976710656 < Builtin.nextslicecap (n + m) cap * i.bytes) := by rw [hby]; omega
    have hm0 : ¬ (m = 0) := by omega
    have hfo := run_firstCells_some (P := P) w.drew i.size n ⟨g, 0, none⟩ n cap xs (by rw [hsize]; exact hlo) (by simpa using holds)
    rw [hsize] at hfo
    simp [Builtin.append_, run_underlying ht, run_underlying hx, sizeOf, typeInfo, zeroValue, hi, hz, Builtin.lenOf, hn, h63', h48', hm48', hwr, hneg, hm0, hsize, Question.forced, hfo, newRow, grownCap, asInt, asIntOf, hzs]
  · simp [hlo]
  · have e0 : (Builtin.zeroCells #[z] m).size = m := by rw [← Array.length_toList, zeroCells_one]; simp
    have e1 : (Builtin.zeroCells #[z] (grownCap w (n + m) cap e - (n + m))).size = grownCap w (n + m) cap e - (n + m) := by rw [← Array.length_toList, zeroCells_one]; simp
    rw [Array.size_append, Array.size_append, List.size_toArray, e0, e1, hlo]
    omega
  · simp only [Array.toList_append, zeroCells_one]
    rw [List.take_append_of_le_length (by simp [hlo])]
    exact List.take_of_length_le (by simp [hlo])
  · exact (Below.drew (Below.refl _ _)).alloc (Nat.le_refl _) _
theorem wpList_append_made {P : Program} (w : World) {ops : Array Oper} {rest : List Oper} {o : Oper} {a : Act} {Q : Exit → Act → World → Prop} (hgd : o.guard = none) (s x : Operand) (t tx : TypeId)
    (ho : o.op = .call { callee := .builtin .append, args := #[s, x], argTypes := #[t, tx] })
    (e : TypeId) (i : TypeInfo) (z : Value) (bytes : Nat) (ht : P.underlying t = some (.slice e)) (hx : P.underlying tx = some (.int .i64)) (hi : P.info? e = some i) (hz : i.zero = some z)
    (hsize : i.size = 1) (hby : i.bytes = bytes) (hzs : z.cells = #[z]) (g n cap : Nat) (hs : a.eval s = .slice (some ⟨g, 0, none⟩) n cap) (m : Nat) (hm : a.eval x = .int .i64 (m : Int))
    (xs : List Value) (hown : w.ownsRow 0 e 1 (.slice (some ⟨g, 0, none⟩) n cap) n xs)
    (h0 : 0 < m) (hg : cap < n + m) (h63 : n + m ≤ maxLen) (hbytes : (n + m) * bytes ≤ 140737488355328)
    (h : ∀ c' w', w'.ownsRow 0 e 1 (.slice (some ⟨w.heap.size, 0, none⟩) (n + m) c') (n + m) (xs ++ List.replicate m z) → Below w.heap.size w w' → wpList P ops Q rest (a.put o.dst (.slice (some ⟨w.heap.size, 0, none⟩) (n + m) c')) w') : wpList P ops Q (o :: rest) a w := by
  refine wpList_plain hgd fun K hK => ?_
  obtain ⟨c', w', hr, h2, h3⟩ := run_append_made (P := P) w t o.type e tx i z bytes ht hx hi hz hsize hby hzs g n cap xs hown m h0 hg h63 hbytes
  unfold Oper.wp execOp
  simp only [ho, resolve, invoke, builtin, Sem.run_bind, Sem.run_pure, Result.andThen_ok, List.map_toArray, List.map_cons, List.map_nil, hs, hm, hr]
  exact hK _ _ (h c' w' h2 h3)
theorem own_new (w : World) (e : TypeId) (xs : List Value) (n : Nat) (hn : xs.length = n) (hm : n ≤ maxLen) : (w.alloc (.cells xs.toArray e)).ownsRow 0 e 1 (.slice (some ⟨w.heap.size, 0, none⟩) n n) n xs :=
  ⟨by omega, .inr ⟨w.heap.size, n, xs.toArray, rfl, Nat.zero_le _, heap_alloc_new w _, Nat.le_refl _, hm, by simp [hn], by subst hn; simp⟩⟩
theorem own_new' (w : World) (e : TypeId) (xs : List Value) (n g : Nat) (hg : w.heap.size = g) (hn : xs.length = n) (hm : n ≤ maxLen) : (w.alloc (.cells xs.toArray e)).ownsRow 0 e 1 (.slice (some ⟨g, 0, none⟩) n n) n xs := by
  subst hg
  exact own_new w e xs n hn hm
end Go.Proofs.YtbigilbbbmanjaaGreatDoor

/-
  slices.Clone at uint32: the copy is in new memory and reads as what was copied; nothing that was there is turned.
-/
namespace Go.Proofs.YtbigilbbbmanjaaGreatDoor
open Go.RowKit
theorem infoU32 : (Tryz.prog.info? 24).map (fun i => (i.zero, i.size, i.bytes)) = some (some (.int .u32 0), 1, 4) := by kernel_rfl

set_option maxHeartbeats 400000 in
theorem cloneU32 (v : Value) (n : Nat) (xs : List Value) (w : World) (hr : Reads w v n xs) (hn : n * 4 ≤ 140737488355328) (hl : xs.length = n * 1) (h1 : ∀ u ∈ xs, u.oneCell' = true) :
    Calls Tryz.prog 103 #[v] w fun e w' => ∃ v', e = .returned v' ∧ w'.ownsRow 0 24 1 v' n xs ∧ (∀ k, inRow v' k → w.heap.size ≤ k) ∧ Below w.heap.size w w' := by
  obtain ⟨i0, hi, hz0, hz1, hz2⟩ := info_parts infoU32
  rcases hr with ⟨rfl, rfl, rfl⟩ | ⟨a, cap, rfl, hc⟩
  · have heq := fun wx => Lib.run_eql_slice_nil (P := Tryz.prog) wx 51 24 none 0 0 0 0 Tryz.underlying51
    clear hl h1 hn
    go_enter Tryz.func103, Tryz.ntmps103
    go_wp2
    go_ret
    exact ⟨_, rfl, own_nil _ _ _, fun k hk => by simp [inRow, Value.ownBlock] at hk, Below.refl _ _⟩
  · have heq := fun wx => Lib.run_eql_slice_nil (P := Tryz.prog) wx 51 24 (some a) n cap 0 0 Tryz.underlying51
    have HC := Lib.hid hc
    have HL := Lib.hid hl
    have H1 := Lib.hid h1
    clear hc hl h1
    go_enter Tryz.func103, Tryz.ntmps103
    go_wp2_with (at_builtin; refine wpList_append_sep _ rfl _ _ 51 rfl 24 i0 (.int .u32 0) 1 4 Tryz.underlying51 hi hz0 hz1 hz2 rfl (by decide) (.slice (some ⟨w.heap.size, 0, none⟩) 0 0) 0 [] rfl (World.ownsRow_made w #[] 0 (Nat.zero_le _) (Nat.zero_le _) rfl) a n cap xs rfl HL.out ?_ H1.out (by unfold maxLen; omega) (by omega) ?_)
    · intro j u hj
      have := HC.out j u hj
      exact (World.cell?_of_block (blk_cell_old this)).trans this
    · intro v' w' ho hg hs
      have hk' : ∀ k, inRow v' k → w.heap.size ≤ k := fun k hk => by
        rcases hs k hk with h | h
        · simp [inRow, Value.ownBlock] at h; omega
        · exact Nat.le_trans (by simp) h
      have hb : Below w.heap.size w w' := ((Below.refl _ _).alloc (Nat.le_refl _) _).grown hg (by simp) (fun k hk => by simp [Value.ownBlock] at hk; omega)
      have ho' : w'.ownsRow 0 24 1 v' n xs := by simpa using ho
      clear ho hg hs HC HL H1
      go_wp2
      go_ret
      exact ⟨_, rfl, ho', hk', hb⟩
end Go.Proofs.YtbigilbbbmanjaaGreatDoor

/-
  info: what its functions answer.
-/
namespace Go.Proofs.YtbigilbbbmanjaaGreatDoor
open Go.RowKit

structure InfS where
  p : Int
  m : Int
  t : Int
  on : Bool
  q : Int
  f : Int
abbrev infV (x : InfS) : Value := .agg #[.int .u32 x.p, .int .u32 x.m, .int .i64 x.t, .bool x.on, .int .i64 x.q, .int .i64 x.f]
theorem infoU32i : (Tryz.prog.info? 24).map (fun i => (i.zero, i.size, i.bytes)) = some (some (.int .u32 0), 1, 4) := by kernel_rfl

def bl (b : Bool) : Int := if b then 1 else 0
def infW (x : InfS) : List Int := [x.p, x.m, x.t % 4294967296, x.t / 4294967296 % 4294967296, bl x.on, x.q % 4294967296, x.f % 4294967296, 0, 0, 0, 0, 0, 0, 0, 0, 0]

set_option maxRecDepth 100000 in
set_option maxHeartbeats 800000 in
theorem inf_words (x : InfS) (w : World) :
    Calls Tryz.prog 118 #[infV x] w fun e w' => ∃ g c, e = .returned (.slice (some ⟨g, 0, none⟩) 16 c) ∧ w'.ownsRow 0 24 1 (.slice (some ⟨g, 0, none⟩) 16 c) 16 (u32s (infW x)) ∧ w.heap.size ≤ g ∧ Below w.heap.size w w' := by
  obtain ⟨i0, hi, hz0, hz1, hz2⟩ := info_parts infoU32i
  obtain ⟨p, m, t, on, q, f⟩ := x
  have HXB : Hid (u32s (infW ⟨p, m, t, on, q, f⟩) = [.int .u32 p, .int .u32 m, .int .u32 (t % 4294967296), .int .u32 (t / 4294967296 % 4294967296), .int .u32 (bl on), .int .u32 (q % 4294967296), .int .u32 (f % 4294967296)] ++ List.replicate 9 (.int .u32 0)) := Lib.hid rfl
  cases on
  all_goals
    go_enter Tryz.func118, Tryz.ntmps118
    go_wp2_with (at_builtin; refine wpList_append_made _ rfl _ _ 51 3 rfl 24 i0 (.int .u32 0) 4 Tryz.underlying51 Tryz.underlying3 hi hz0 hz1 hz2 rfl _ 7 7 rfl 9 rfl _ (own_new' _ _ [_, _, _, _, _, _, _] 7 _ (by simp) rfl (by unfold maxLen; omega)) (by omega) (by omega) (by unfold maxLen; omega) (by omega) ?_)
    intro c' w' ho hb
    have HO := Lib.hid ho
    have h2 : ∀ o1 o2, Below w.heap.size w ((w.alloc o1).alloc o2) := fun o1 o2 => ((Below.refl w.heap.size w).alloc (Nat.le_refl _) o1).alloc (by simp) o2
    have HB := Lib.hid ((h2 _ _).trans (hb.mono (by omega)))
    clear ho hb h2
    go_wp2
    go_ret
    exact ⟨_, _, rfl, by rw [HXB.out]; exact HO.out, by first | omega | (simp; omega), HB.out⟩
end Go.Proofs.YtbigilbbbmanjaaGreatDoor

/-
  info.Info that came in by value; a slice of words that came in, with its room.
-/
namespace Go.Proofs.YtbigilbbbmanjaaGreatDoor
open Go.ChangeShapes Go.WideShapes Go.ChangeAt Go.RowKit Go.Joins Go.Deep

theorem flat_one (l : List Int) : l.flatMap (fun x => [Value.int .u32 x]) = u32s l := by
  induction l with
  | nil => rfl
  | cons x l ih => exact congrArg (Value.int .u32 x :: ·) ih
set_option maxRecDepth 100000 in
theorem open_words {H : Type} {enc : TypeId × Value → H} {W : World} {v : Value} {d : DataW H} {p : List MemPlace} {r : Reach} {b0 : Nat}
    (hv : Value.okWide Tryz.prog W r b0 51 v) (h : DataW.Trod enc Tryz.prog W 0 (fun _ => true) true 51 v d p) :
    ∃ (ao : Option Addr) (cap : Nat) (l : List Int), v = .slice ao l.length cap ∧ l.length ≤ maxLen ∧ (∀ x ∈ l, 0 ≤ x ∧ x ≤ 4294967295) ∧ AtL W ao (u32s l) ∧ l.length ≤ cap := by
  obtain ⟨ao, cap, l, e, h1, h2, h3, h4⟩ := open_structs (C := 1) Tryz.underlying51 (by kernel_rfl) (by decide) (fun x : Int => [Value.int .u32 x]) (fun x => 0 ≤ x ∧ x ≤ 4294967295) hv h fun n cs y hl hd => by
    obtain ⟨z, e, -, wz⟩ := DataW.trod_int Tryz.underlying24 hd
    exact ⟨z, e, by simpa [Lit.wf, IntKind.min, IntKind.max, IntKind.signed, IntKind.bits] using wz⟩
  rw [flat_one] at h3
  exact ⟨ao, cap, l, e, h1, h2, h3, h4⟩

def infoOk (x : InfS) : Prop := (0 ≤ x.p ∧ x.p ≤ 4294967295) ∧ (0 ≤ x.m ∧ x.m ≤ 4294967295) ∧ (-9223372036854775808 ≤ x.t ∧ x.t ≤ 9223372036854775807) ∧ (-9223372036854775808 ≤ x.q ∧ x.q ≤ 9223372036854775807) ∧ (-9223372036854775808 ≤ x.f ∧ x.f ≤ 9223372036854775807)
set_option maxRecDepth 100000 in
theorem open_info {H : Type} {enc : TypeId × Value → H} {W : World} {r : Reach} {b0 : Nat} {v : Value} {d : DataW H} {p : List MemPlace}
    (hv : Value.okWide Tryz.prog W r b0 235 v) (h : DataW.Trod enc Tryz.prog W 0 (fun _ => true) true 235 v d p) :
    ∃ x : InfS, v = infV x ∧ infoOk x := by
  obtain ⟨cs, rfl, hsz⟩ := okWide_struct Tryz.underlying235 hv
  have h6 : cs.size = 6 := hsz.trans (by kernel_rfl)
  obtain ⟨fuel, hf⟩ := h
  obtain ⟨xs, n, -, -, hl, hx, hi⟩ := DataW.trod_struct Tryz.underlying235 hf
  have hx6 : xs.length = 6 := hx
  have get : ∀ i, i < 6 → ∃ y, xs[i]? = some y := fun i hi => ⟨_, List.getElem?_eq_getElem (by omega)⟩
  have hcells : (Value.agg cs).cells.toList = cs.toList := rfl
  rw [hcells] at hi
  obtain ⟨y0, g0⟩ := get 0 (by omega)
  obtain ⟨y1, g1⟩ := get 1 (by omega)
  obtain ⟨y2, g2⟩ := get 2 (by omega)
  obtain ⟨y3, g3⟩ := get 3 (by omega)
  obtain ⟨y4, g4⟩ := get 4 (by omega)
  obtain ⟨y5, g5⟩ := get 5 (by omega)
  obtain ⟨a, e0, w0⟩ := fld_int Tryz.underlying24 (by kernel_rfl) ((hi 0 _ rfl).trans g0)
  obtain ⟨b, e1, w1⟩ := fld_int Tryz.underlying24 (by kernel_rfl) ((hi 1 _ rfl).trans g1)
  obtain ⟨c, e2, w2⟩ := fld_int Tryz.underlying2 (by kernel_rfl) ((hi 2 _ rfl).trans g2)
  obtain ⟨o, e3⟩ := fld_bool Tryz.underlying4 (by kernel_rfl) ((hi 3 _ rfl).trans g3)
  obtain ⟨q, e4, w4⟩ := fld_int Tryz.underlying3 (by kernel_rfl) ((hi 4 _ rfl).trans g4)
  obtain ⟨f, e5, w5⟩ := fld_int Tryz.underlying3 (by kernel_rfl) ((hi 5 _ rfl).trans g5)
  refine ⟨⟨a, b, c, o, q, f⟩, ?_, ?_⟩
  · obtain ⟨L⟩ := cs
    have hL : L.length = 6 := h6
    match L, hL with
    | [b0, b1, b2, b3, b4, b5], _ =>
      have q0 : some b0 = some _ := e0
      have q1 : some b1 = some _ := e1
      have q2 : some b2 = some _ := e2
      have q3 : some b3 = some _ := e3
      have q4 : some b4 = some _ := e4
      have q5 : some b5 = some _ := e5
      cases q0
      cases q1
      cases q2
      cases q3
      cases q4
      cases q5
      rfl
  · refine ⟨?_, ?_, ?_, ?_, ?_⟩
    · simpa [Lit.wf, IntKind.min, IntKind.max, IntKind.signed, IntKind.bits] using w0
    · simpa [Lit.wf, IntKind.min, IntKind.max, IntKind.signed, IntKind.bits] using w1
    · simpa [Lit.wf, IntKind.min, IntKind.max, IntKind.signed, IntKind.bits] using w2
    · simpa [Lit.wf, IntKind.min, IntKind.max, IntKind.signed, IntKind.bits] using w4
    · simpa [Lit.wf, IntKind.min, IntKind.max, IntKind.signed, IntKind.bits] using w5
end Go.Proofs.YtbigilbbbmanjaaGreatDoor

/-
  WholeRings in any world: more than eight words; up to eight, each case evaluated.
-/
set_option maxRecDepth 100000
namespace Go.Proofs.YtbigilbbbmanjaaGreatDoor
open Go.Ev Go.RowKit Go.ChangeShapes Go.WideShapes Go.ChangeAt

/-- an empty slice of no place has no room -/
theorem nil_room {W : World} {r : Reach} {b n c : Nat} {t e : TypeId} (hu : Tryz.prog.underlying t = some (.slice e)) (h : Value.okWide Tryz.prog W r b t (.slice none n c)) : n = 0 ∧ c = 0 := by
  unfold Value.okWide at h
  rw [hu] at h
  unfold Cell.okWide at h
  simp only [hu] at h
  unfold Cell.ok at h
  simp only [hu] at h
  cases n <;> cases c <;> first | exact ⟨rfl, rfl⟩ | exact h.elim

theorem worksR_any (w : World) : Calls Tryz.prog 10 #[] w fun e w' => e = .returned (.bool true) ∧ Below w.heap.size w w' := by
  obtain ⟨v, h', hv, hrun⟩ := worksR_known.2 [] (.mk .l (ofN 12 64)) (fun v _ => v.onBool true false) rfl
  have hg : Go.Ev.Good Tryz.prog (numE Tryz.prog (ofN 12 63) 0) (.mk .l (ofN 12 64)) w := numE_good w (by decide +kernel) (by rw [globalsR]; decide +kernel)
  have hc := hrun _ w [] hg rfl
  rw [val_worksR] at hc
  refine Calls.mono hc fun e w' hb => ?_
  obtain ⟨x, E', rfl, st, d⟩ := hb
  rcases V.onBool_true hv with ⟨rfl, _⟩ | ⟨_, hf⟩
  · rw [den_bool] at d
    cases d
    exact ⟨rfl, below_of_step st⟩
  · cases hf

theorem rings_long (ao : Option Addr) (n cap : Nat) (b : Bool) (f : Int) (w : World) (hn : 8 < n) :
    Calls Tryz.prog 8 #[.slice ao n cap, .bool b, .int .u32 f] w fun e w' => e = .returned (.bool true) ∧ Below w.heap.size w w' := by
  have HW := Lib.hid (worksR_any w)
  have hlt : (8 : Int) < (n : Int) := by omega
  go_enter Tryz.func8, Tryz.ntmps8
  go_wp2_with (go_at_call 10; refine HW.out.mono ?_; rintro _ w1 ⟨rfl, hb1⟩; have HB := Lib.hid hb1; clear hb1)
  go_ret
  exact ⟨rfl, HB.out⟩

theorem wholeRings_walk (W : World) (S : Nat → Addr)
    (hS1 : ∀ k, k < 16 → W.cell? ⟨gSent.getD k 0, 0, none⟩ = some (.iface errTy (.pointer (some (S k)))) ∧ (∃ s, W.cell? (S k) = some (.string s)) ∧ ∃ c t, W.heap[(S k).block]? = some (.cells c t (0, 0)))
    (hS2 : ∀ i j, i < 16 → j < 16 → i ≠ j → S i ≠ S j) (ao : Option Addr) (cap : Nat) (x0 : List Int) (b : Bool) (x2 : Int) (hr : AtL W ao (u32s x0)) (hc : x0.length ≤ cap)
    (hnil : ao = none → x0.length = 0 ∧ cap = 0) (h0 : 0 ≤ x2) (h1 : x2 ≤ 4294967295) :
    Calls Tryz.prog 8 #[.slice ao x0.length cap, .bool b, .int .u32 x2] W fun e w' => e = .returned (.bool true) ∧ Below W.heap.size W w' := by
  rcases Nat.lt_or_ge 8 x0.length with h8 | h8
  · exact rings_long ao _ cap b x2 W h8
  · have hm : x2 % 8 = (((x2 % 8).toNat : Nat) : Int) := by have := Int.emod_nonneg x2 (show (8 : Int) ≠ 0 by decide); omega
    have hr8 : (x2 % 8).toNat < 8 := by have := Int.emod_lt_of_pos x2 (show (0 : Int) < 8 by decide); omega
    cases ao with
    | none =>
      obtain ⟨e1, e2⟩ := hnil rfl
      have e3 : x0 = [] := List.length_eq_zero_iff.1 e1
      subst e3
      subst e2
      exact rings_nil ⟨[], x2, default, 0, S⟩ W hr8 rfl ⟨Nat.zero_le _, fun k x hx => by simp at hx, hS1, hS2⟩ h0 (show x2 < 4294967296 by omega) hm
    | some a =>
      have hcell : ∀ (k : Nat) (x : Int), x0[k]? = some x → W.cell? ⟨a.block, a.off + k, none⟩ = some (.int .u32 x) ∧ a.spot = none := fun k x hx => by
        obtain ⟨bl, off, e, hcl, _⟩ := hr k (.int .u32 x) (by simp [u32s, hx])
        cases e
        exact ⟨hcl, rfl⟩
      refine rings_all ⟨x0, x2, a, cap, S⟩ W hr8 ⟨h8, fun k x hx => (hcell k x hx).1, hS1, hS2⟩ h0 (show x2 < 4294967296 by omega) hm hc ?_
      cases hx0 : x0 with
      | nil => exact .inl rfl
      | cons y l => exact .inr (hcell 0 y (by rw [hx0]; rfl)).2
end Go.Proofs.YtbigilbbbmanjaaGreatDoor

