/-
  facaderef16.Frames: Alloc, NewFrames, Of.
-/
import Derived.Test.YtaoaachgnnengaaDoorFrRef
import Derived.Test.YtaoaachgnnengaaDoorFrNew
import Derived.Test.YtaoaachgnnengaaDoorFrOf
namespace Go.Proofs.YtaoaachgnnengaaDoor
open Go.RowKit Go.Deep

def RaTo (l : List Fr) (w0 : World) (i : Value) (wr : World) : Prop :=
  ∃ j : Nat, j ≤ l.length ∧ i = .int .i64 (j : Int) ∧ (∀ k, k < j → (l.getD k default).owner ≠ -1) ∧ wr = w0
/-- what the document's Alloc does -/
def FrNA (TB TR : TypeId) (b g cap : Nat) (R : FrR) (w : World) (e : Ending) (w' : World) : Prop := e = .returned (.tuple #[.int .i64 R.n, .int .i64 R.c]) ∧ FrAt TB TR w' b g cap R.l ∧ Only (fun k => k = g) w w'
set_option maxRecDepth 100000 in
set_option maxHeartbeats 1600000 in
theorem ralloc_any (l : List Fr) (b g cap : Nat) (who : Int) (w : World) (hno : ∀ x ∈ l, x.owner = -1 → x = frNo) (h : FrAt 54 51 w b g cap l) :
    Calls Tryd.prog 53 #[.pointer (some ⟨b, 0, none⟩), .int .i64 who] w (FrNA 54 51 b g cap (frAlloc l who) w) := by
  have HF := Lib.hid h
  have HNO := Lib.hid hno
  have c := h.hdr
  have hlen : l.length ≤ 9223372036854775807 := Nat.le_trans h.2.2.2.1 h.2.2.2.2
  have HOW := Lib.hid (rowner_any who)
  unfold FrNA
  obtain ⟨R, hR⟩ : ∃ R, frAlloc l who = R := ⟨_, rfl⟩
  rw [hR]
  unfold frAlloc at hR
  by_cases hw : frOwns who
  · rw [if_pos hw] at hR
    rw [decide_eq_true hw] at HOW
    have HR := Lib.hid hR
    have HST : Hid (RaTo l w (.int .i64 0) w) := Lib.hid ⟨0, Nat.zero_le _, rfl, fun k hk => absurd hk (by omega), rfl⟩
    clear hw hR h hno
    go_enter Tryd.func53, Tryd.ntmps53
    go_wp2_with fail
    refine (HOW.out _).mono ?_
    rintro e w1 ⟨rfl, rfl⟩
    go_wp2_with fail
    go_loopw [6] (fun i wr => RaTo l w i wr) (fun i _ => l.length - (intOf i).toNat)
    case atStart => exact HST.out
    case round =>
      obtain ⟨j, hj, rfl, hmo, rfl⟩ := hrel
      have HMO := Lib.hid hmo
      clear hmo HST
      by_cases hlt : j < l.length
      · have hji : (j : Int) < (l.length : Int) := by omega
        obtain ⟨c0, c1, c2, c3⟩ := HF.out.cells j hlt
        have HFR : Hid ((l.getD j default).owner = -1 → frFree l = some j) := Lib.hid fun ho => frFree_is hlt ho HMO.out
        have f0 := HF.out.free (j * 4)
        have f1 := HF.out.free (j * 4 + 1)
        have f2 := HF.out.free (j * 4 + 2)
        have f3 := HF.out.free (j * 4 + 3)
        have HMEM : Hid (l.getD j default ∈ l) := Lib.hid (by
          rw [List.getD_eq_getElem?_getD, List.getElem?_eq_getElem hlt]
          exact List.getElem_mem _)
        obtain ⟨⟨x0, x1, x2, x3⟩, hx⟩ : ∃ x, l.getD j default = x := ⟨_, rfl⟩
        rw [hx] at c0 c1 c2 c3 HFR HMEM
        have HX := Lib.hid hx
        dsimp only at c0 c1 c2 c3 HFR
        clear hx
        by_cases ho : x0 = -1
        · subst ho
          have HFE := Lib.hid (HFR.out rfl)
          have hz := HNO.out _ HMEM.out rfl
          simp only [frNo, Fr.mk.injEq, true_and] at hz
          obtain ⟨rfl, rfl, rfl⟩ := hz
          have HRE : Hid (R = ⟨l.set j ⟨who, 0, 0, 0⟩, (j : Int), 0⟩) := Lib.hid (by
            have := HR.out
            rw [HFE.out] at this
            dsimp only at this
            rw [HX.out] at this
            exact this.symm)
          go_wp2
          go_ret2
          rw [HRE.out]
          exact ⟨rfl, HF.out.putAll hlt ⟨who, 0, 0, 0⟩, only_set (only_set (only_set (only_set (Only.refl _ _) _ _) _ _) _ _) _ _⟩
        · have HO := Lib.hid ho
          have ho' : (x0 == -1) = false := by simp [ho]
          clear ho
          go_wp2
          go_roundw
          case rel => exact ⟨j + 1, by omega, by go_num, fun k hk => by
            by_cases e : k = j
            · subst e; rw [HX.out]; exact HO.out
            · exact HMO.out k (by omega), rfl⟩
          case measure => simp [intOf]; omega
      · obtain rfl : j = l.length := by omega
        have HFE := Lib.hid (frFree_no HMO.out)
        have HRE : Hid (R = ⟨l, 0, 113⟩) := Lib.hid (by
          have := HR.out
          rw [HFE.out] at this
          exact this.symm)
        go_wp2
        go_ret2
        rw [HRE.out]
        exact ⟨rfl, HF.out, Only.refl _ _⟩
  · rw [if_neg hw] at hR
    rw [decide_eq_false hw] at HOW
    subst hR
    dsimp only
    clear hw h hno
    go_enter Tryd.func53, Tryd.ntmps53
    go_wp2_with fail
    refine (HOW.out _).mono ?_
    rintro e w1 ⟨rfl, rfl⟩
    go_wp2
    go_ret2
    exact ⟨rfl, HF.out, Only.refl _ _⟩

theorem infoRFr : (Tryd.prog.info? 51).map (fun i => (i.zero, i.size, i.bytes)) = some (some (.agg #[.int .i64 0, .int .i64 0, .int .i64 0, .int .i64 0]), 4, 32) := by kernel_rfl
theorem frZ_cells (m : Nat) : frCells (List.replicate m frZ) = List.replicate (m * 4) (.int .i64 0) := by
  induction m with
  | zero => rfl
  | succ m ih =>
    unfold frCells at ih ⊢
    rw [List.replicate_succ, List.flatMap_cons, ih, Nat.succ_mul, Nat.add_comm, ← List.replicate_append_replicate]
    rfl
theorem made_rfr (w : World) (n : Nat) (h : n ≤ 1024) : (Instr.makeSlice 52 (.int .i64 (n : Int)) (.int .i64 (n : Int))).run Tryd.prog w = .ok (.slice (some ⟨w.heap.size, 0, none⟩) n n) (w.alloc (.cells (frCells (List.replicate n frZ)).toArray 51)) := by
  obtain ⟨i, hi, hz0, hz1, hz2⟩ := info_parts infoRFr
  have e := run_make (P := Tryd.prog) w 52 51 i (.agg #[.int .i64 0, .int .i64 0, .int .i64 0, .int .i64 0]) Tryd.underlying52 hi hz0 .i64 .i64 n n (by omega) (by omega) (by rw [hz2]; omega) (by omega)
  rw [e, hz1, Int.toNat_natCast]
  have : madeCells (Value.agg #[.int .i64 0, .int .i64 0, .int .i64 0, .int .i64 0]).cells (n * 4) = (frCells (List.replicate n frZ)).toArray := by
    rw [show (Value.agg #[.int .i64 0, .int .i64 0, .int .i64 0, .int .i64 0]).cells = #[Value.int IntKind.i64 0, .int .i64 0, .int .i64 0, .int .i64 0] from rfl]
    apply Array.toList_inj.1
    apply List.ext_getElem?
    intro j
    have hz : ∀ k, k < 4 → (#[Value.int IntKind.i64 0, .int .i64 0, .int .i64 0, .int .i64 0] : Array Value)[k]? = some (.int .i64 0) := fun k hk => by
      match k, hk with
      | 0, _ => rfl
      | 1, _ => rfl
      | 2, _ => rfl
      | 3, _ => rfl
    rw [frZ_cells]
    by_cases hj : j < n * 4
    · simp [madeCells, hj]
      have := hz (j % 4) (Nat.mod_lt _ (by decide))
      rw [List.getElem?_toArray] at this
      rw [this]
      rfl
    · simp [madeCells, hj]
  rw [this]
theorem repL_set (n k : Nat) (h : k < n) : (repL n k).set k frNo = repL n (k + 1) := by
  unfold repL
  rw [List.set_append_right _ _ (by rw [List.length_replicate]; exact Nat.le_refl _), List.length_replicate, Nat.sub_self, show n - k = (n - (k + 1)) + 1 by omega, List.replicate_succ, List.set_cons_zero, List.replicate_succ', List.append_assoc]
  rfl
theorem repL_at (n k : Nat) (h : k < n) : (repL n k).getD k default = frZ := by
  unfold repL
  rw [List.getD_eq_getElem?_getD, List.getElem?_append_right (by rw [List.length_replicate]; exact Nat.le_refl _), List.length_replicate, Nat.sub_self, List.getElem?_replicate, if_pos (by omega)]
  rfl
def RnTo (n b g : Nat) (s : Nat) (w0 : World) (i : Value) (wr : World) : Prop :=
  ∃ k : Nat, k ≤ n ∧ i = .int .i64 (k : Int) ∧ FrAt 54 51 wr b g n (repL n k) ∧ Below s w0 wr
set_option maxRecDepth 100000 in
set_option maxHeartbeats 1600000 in
theorem rnew_ok (n : Nat) (w : World) (hn : n ≤ 1024) :
    Calls Tryd.prog 19 #[.int .i64 (n : Int)] w fun e w' => ∃ b g, e = .returned (.pointer (some ⟨b, 0, none⟩)) ∧ FrAt 54 51 w' b g n (List.replicate n frNo) ∧ w.heap.size ≤ b ∧ w.heap.size ≤ g ∧ Below w.heap.size w w' := by
  have hmk := made_rfr w n hn
  have HST : Hid (RnTo n (w.heap.size + 1) w.heap.size w.heap.size w (.int .i64 0) ((w.alloc (.cells (frCells (List.replicate n frZ)).toArray 51)).alloc (.cells #[.slice (some ⟨w.heap.size, 0, none⟩) n n] 54))) := Lib.hid ⟨0, Nat.zero_le _, rfl, by
    have hr : repL n 0 = List.replicate n frZ := by simp [repL]
    rw [hr]
    refine ⟨?_, blk_old (blk_new _ _) _, by omega, by rw [List.length_replicate]; exact Nat.le_refl _, by omega⟩
    have := blk_new (w.alloc (.cells (frCells (List.replicate n frZ)).toArray 51)) (.cells #[.slice (some ⟨w.heap.size, 0, none⟩) n n] 54)
    rw [List.length_replicate]
    simpa using this, ((Below.refl _ _).alloc (Nat.le_refl _) _).alloc (by simp) _⟩
  go_enter Tryd.func19, Tryd.ntmps19
  go_wp2_with fail
  generalize (w.alloc (.cells (frCells (List.replicate n frZ)).toArray 51)).alloc (.cells #[.slice (some ⟨w.heap.size, 0, none⟩) n n] 54) = w2 at HST ⊢
  clear hmk
  go_loopw [4] (fun i wr => RnTo n (w.heap.size + 1) w.heap.size w.heap.size w i wr) (fun i _ => n - (intOf i).toNat)
  case atStart => exact HST.out
  case round =>
    obtain ⟨k, hk, rfl, hf, hb⟩ := hrel
    have HF := Lib.hid hf
    have HB := Lib.hid hb
    have c := hf.hdr
    rw [repL_len n k hk] at c
    clear hf hb HST
    by_cases hlt : k < n
    · have hki : (k : Int) < (n : Int) := by omega
      obtain ⟨c0, -, -, -⟩ := HF.out.cells k (by rw [repL_len n k hk]; exact hlt)
      have f0 := HF.out.free (k * 4)
      rw [repL_at n k hlt] at c0
      have HN : Hid (FrAt 54 51 (wr.setCell ⟨w.heap.size, k * 4, none⟩ (.int .i64 (-1))) (w.heap.size + 1) w.heap.size n (repL n (k + 1))) := Lib.hid (by
        have := HF.out.put0x (repL_at n k hlt) (by rw [repL_len n k hk]; exact hlt) (-1)
        rw [← repL_set n k hlt]
        exact this)
      have HB2 : Hid (Below w.heap.size w (wr.setCell ⟨w.heap.size, k * 4, none⟩ (.int .i64 (-1)))) := Lib.hid (HB.out.setCell (p := ⟨w.heap.size, k * 4, none⟩) (Nat.le_refl _) _)
      go_wp2
      go_roundw
      case rel => exact ⟨k + 1, by omega, by go_num, HN.out, HB2.out⟩
      case measure => simp [intOf]; omega
    · obtain rfl : k = n := by omega
      go_wp2
      go_ret
      refine ⟨w.heap.size + 1, w.heap.size, rfl, ?_, by omega, Nat.le_refl _, HB.out⟩
      have := HF.out
      rw [show repL k k = List.replicate k frNo from by simp [repL]] at this
      exact this

set_option maxRecDepth 100000 in
set_option maxHeartbeats 4000000 in
theorem rof_any (l : List Fr) (b cap : Nat) (ao : Option Addr) (who : Int) (w : World) (hm : l.length ≤ 1024) (h : FrRd 54 w b ao cap l) :
    Calls Tryd.prog 29 #[.pointer (some ⟨b, 0, none⟩), .int .i64 who] w (OfPost l who w) := by
  obtain ⟨i0, hi, hz0, hz1, hz2⟩ := info_parts infoI64o
  have HF : Hid (∀ wx, Below w.heap.size w wx → FrRd 54 wx b ao cap l) := Lib.hid fun wx hx => h.below hx
  have HST : Hid (OfTo l who w.heap.size w (.slice none 0 0) (.int .i64 0) w) := Lib.hid ⟨0, Nat.zero_le _, rfl, own_nil _ _ _, fun k hk => by simp [inRow, Value.ownBlock] at hk, Below.refl _ _, none, 0, rfl⟩
  clear h
  go_enter Tryd.func29, Tryd.ntmps29
  go_wp2_with fail
  go_loopw [5, 6] (fun v i wr => OfTo l who w.heap.size w v i wr) (fun _ i _ => l.length - (intOf i).toNat)
  case atStart => exact HST.out
  case round =>
    obtain ⟨j, hj, rfl, hown, hfr, hb, ao', cap', rfl⟩ := hrel
    have HOWN := Lib.hid hown
    have HFR := Lib.hid hfr
    have HB := Lib.hid hb
    have c : wr.cell? ⟨b, 0, none⟩ = some (.slice ao l.length cap) := blk_cell (HF.out _ hb).1 0
    clear hown hfr hb HST
    by_cases hlt : j < l.length
    · have hji : (j : Int) < (l.length : Int) := by omega
      have hl := (HF.out _ HB.out).2.1
      obtain ⟨g, off, rfl, c0', hg⟩ := hl (j * 4 + 0) _ ((rec_get frOne 4 frOne_len l j 0 hlt (by decide)).trans rfl)
      have c0 : wr.cell? ⟨g, off + j * 4, none⟩ = some (.int .i64 (l.getD j default).owner) := c0'
      have HS := Lib.hid (frOf_succ l who j)
      have HLN := Lib.hid (frOf_len l who j)
      obtain ⟨x0, hx⟩ : ∃ x, (l.getD j default).owner = x := ⟨_, rfl⟩
      rw [hx] at c0 HS
      clear hl hx c0'
      by_cases ho : x0 = who
      · subst ho
        rw [if_pos rfl] at HS
        have HE1 : Hid (ints (frOf l x0 (j + 1)) = ints (frOf l x0 j) ++ [.int .i64 (j : Int)]) := Lib.hid (by rw [HS.out]; simp [ints])
        have HE2 : Hid ((frOf l x0 (j + 1)).length = (frOf l x0 j).length + 1) := Lib.hid (by rw [HS.out]; simp)
        have hdl := HLN.out
        go_wp2_with (at_builtin; refine wpList_append_sep _ rfl _ _ 37 rfl 3 i0 (.int .i64 0) 1 8 Tryd.underlying37 hi hz0 hz1 hz2 rfl (by decide) _ _ _ rfl (HOWN.out.alloc _) ⟨wr.heap.size, 0, none⟩ 1 1 [.int .i64 (j : Int)] rfl rfl ?_ (by simp [Value.oneCell']) (by unfold maxLen; omega) (by omega) ?_)
        · intro k u hk
          rw [Addr.add_lit]
          refine (blk_cell (blk_new wr (.cells #[.int .i64 (j : Int)] 3)) (0 + k)).trans ?_
          rw [Nat.zero_add, List.getElem?_toArray]
          exact hk
        · intro v' w10 ho4 hg4 hs4
          obtain ⟨ao4, cap4, rfl⟩ := own_slice ho4
          rw [← HE1.out] at ho4
          have hw4 : Below w.heap.size w w10 := (HB.out.alloc HB.out.size _).grown hg4 (Nat.le_trans HB.out.size (by simp)) (fun j hj => HFR.out j hj)
          have HF4 := Lib.hid (show ∀ k, inRow (.slice ao4 ((frOf l x0 j).length + 1) cap4) k → w.heap.size ≤ k from fun k hk => by
            rcases hs4 k hk with h | h
            · exact HFR.out k h
            · have := HB.out.size; omega)
          have HO4 := Lib.hid ho4
          have HW4 := Lib.hid hw4
          clear ho4 hg4 hs4 hw4
          go_wp2
          go_roundw
          case rel => exact ⟨j + 1, by omega, by go_num, by rw [HE2.out]; exact HO4.out, HF4.out, HW4.out, ao4, cap4, by rw [HE2.out]⟩
          case measure => simp [intOf]; omega
      · rw [if_neg ho] at HS
        have ho' : (x0 == who) = false := by simp [ho]
        clear ho
        go_wp2
        go_roundw
        case rel => exact ⟨j + 1, by omega, by go_num, by rw [HS.out]; exact HOWN.out, HFR.out, HB.out, ao', cap', by rw [HS.out]⟩
        case measure => simp [intOf]; omega
    · obtain rfl : j = l.length := by omega
      go_wp2
      go_ret
      exact ⟨_, rfl, HOWN.out, HFR.out, HB.out, _, _, rfl⟩
end Go.Proofs.YtaoaachgnnengaaDoor
