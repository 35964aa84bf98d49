/-
  Parts of one proof, one behind the other.
-/
import Derived.Test.YtaoaachgnnengaaDoorMge61629bba3
import Derived.Test.YtaoaachgnnengaaDoorMg8cf07c6ba3
import Derived.Test.YtaoaachgnnengaaDoorMg14c76af940
import Derived.Test.YtaoaachgnnengaaDoorMg51024abdd4
import Derived.Deep.DeepCutAuto
import Derived.BigQuiet
/-
  facaderef16.Frames: Alloc, NewFrames, Of.
-/
namespace Go.Proofs.YtaoaachgnnengaaDoor
open Go.RowKit Go.Deep

def RaTo (l : List Fr) (w0 : World) (i : Value) (wr : World) : Prop :=
  ∃ j : Nat, j ≤ l.length ∧ i = .int .i64 (j : Int) ∧ (∀ k, k < j → (l.getD k default).owner ≠ -1) ∧ wr = w0
/-- what the document's Alloc does -/
def FrNA (TB TR : TypeId) (b g cap : Nat) (R : FrR) (w : World) (e : Ending) (w' : World) : Prop := e = .returned (.tuple #[.int .i64 R.n, .int .i64 R.c]) ∧ FrAt TB TR w' b g cap R.l ∧ Only (fun k => k = g) w w'
set_option maxRecDepth 100000 in
set_option maxHeartbeats 1600000 in
theorem ralloc_any (l : List Fr) (b g cap : Nat) (who : Int) (w : World) (hno : ∀ x ∈ l, x.owner = -1 → x = frNo) (h : FrAt 54 51 w b g cap l) :
    Calls Tryd.prog 53 #[.pointer (some ⟨b, 0, none⟩), .int .i64 who] w (FrNA 54 51 b g cap (frAlloc l who) w) := by
  have HF := Lib.hid h
  have HNO := Lib.hid hno
  have c := h.hdr
  have hlen : l.length ≤ 9223372036854775807 := Nat.le_trans h.2.2.2.1 h.2.2.2.2
  have HOW := Lib.hid (rowner_any who)
  unfold FrNA
  obtain ⟨R, hR⟩ : ∃ R, frAlloc l who = R := ⟨_, rfl⟩
  rw [hR]
  unfold frAlloc at hR
  by_cases hw : frOwns who
  · rw [if_pos hw] at hR
    rw [decide_eq_true hw] at HOW
    have HR := Lib.hid hR
    have HST : Hid (RaTo l w (.int .i64 0) w) := Lib.hid ⟨0, Nat.zero_le _, rfl, fun k hk => absurd hk (by omega), rfl⟩
    clear hw hR h hno
    go_enter Tryd.func53, Tryd.ntmps53
    go_wp2_with fail
    refine (HOW.out _).mono ?_
    rintro e w1 ⟨rfl, rfl⟩
    go_wp2_with fail
    go_loopw [6] (fun i wr => RaTo l w i wr) (fun i _ => l.length - (intOf i).toNat)
    case atStart => exact HST.out
    case round =>
      obtain ⟨j, hj, rfl, hmo, rfl⟩ := hrel
      have HMO := Lib.hid hmo
      clear hmo HST
      by_cases hlt : j < l.length
      · have hji : (j : Int) < (l.length : Int) := by omega
        obtain ⟨c0, c1, c2, c3⟩ := HF.out.cells j hlt
        have HFR : Hid ((l.getD j default).owner = -1 → frFree l = some j) := Lib.hid fun ho => frFree_is hlt ho HMO.out
        have f0 := HF.out.free (j * 4)
        have f1 := HF.out.free (j * 4 + 1)
        have f2 := HF.out.free (j * 4 + 2)
        have f3 := HF.out.free (j * 4 + 3)
        have HMEM : Hid (l.getD j default ∈ l) := Lib.hid (by
          rw [List.getD_eq_getElem?_getD, List.getElem?_eq_getElem hlt]
          exact List.getElem_mem _)
        obtain ⟨⟨x0, x1, x2, x3⟩, hx⟩ : ∃ x, l.getD j default = x := ⟨_, rfl⟩
        rw [hx] at c0 c1 c2 c3 HFR HMEM
        have HX := Lib.hid hx
        dsimp only at c0 c1 c2 c3 HFR
        clear hx
        by_cases ho : x0 = -1
        · subst ho
          have HFE := Lib.hid (HFR.out rfl)
          have hz := HNO.out _ HMEM.out rfl
          simp only [frNo, Fr.mk.injEq, true_and] at hz
          obtain ⟨rfl, rfl, rfl⟩ := hz
          have HRE : Hid (R = ⟨l.set j ⟨who, 0, 0, 0⟩, (j : Int), 0⟩) := Lib.hid (by
            have := HR.out
            rw [HFE.out] at this
            dsimp only at this
            rw [HX.out] at this
            exact this.symm)
          go_wp2
          go_ret2
          rw [HRE.out]
          exact ⟨rfl, HF.out.putAll hlt ⟨who, 0, 0, 0⟩, only_set (only_set (only_set (only_set (Only.refl _ _) _ _) _ _) _ _) _ _⟩
        · have HO := Lib.hid ho
          have ho' : (x0 == -1) = false := by simp [ho]
          clear ho
          go_wp2
          go_roundw
          case rel => exact ⟨j + 1, by omega, by go_num, fun k hk => by
            by_cases e : k = j
            · subst e; rw [HX.out]; exact HO.out
            · exact HMO.out k (by omega), rfl⟩
          case measure => simp [intOf]; omega
      · obtain rfl : j = l.length := by omega
        have HFE := Lib.hid (frFree_no HMO.out)
        have HRE : Hid (R = ⟨l, 0, 113⟩) := Lib.hid (by
          have := HR.out
          rw [HFE.out] at this
          exact this.symm)
        go_wp2
        go_ret2
        rw [HRE.out]
        exact ⟨rfl, HF.out, Only.refl _ _⟩
  · rw [if_neg hw] at hR
    rw [decide_eq_false hw] at HOW
    subst hR
    dsimp only
    clear hw h hno
    go_enter Tryd.func53, Tryd.ntmps53
    go_wp2_with fail
    refine (HOW.out _).mono ?_
    rintro e w1 ⟨rfl, rfl⟩
    go_wp2
    go_ret2
    exact ⟨rfl, HF.out, Only.refl _ _⟩

theorem infoRFr : (Tryd.prog.info? 51).map (fun i => (i.zero, i.size, i.bytes)) = some (some (.agg #[.int .i64 0, .int .i64 0, .int .i64 0, .int .i64 0]), 4, 32) := by kernel_rfl
theorem frZ_cells (m : Nat) : frCells (List.replicate m frZ) = List.replicate (m * 4) (.int .i64 0) := by
  induction m with
  | zero => rfl
  | succ m ih =>
    unfold frCells at ih ⊢
    rw [List.replicate_succ, List.flatMap_cons, ih, Nat.succ_mul, Nat.add_comm, ← List.replicate_append_replicate]
    rfl
theorem made_rfr (w : World) (n : Nat) (h : n ≤ 1024) : (Instr.makeSlice 52 (.int .i64 (n : Int)) (.int .i64 (n : Int))).run Tryd.prog w = .ok (.slice (some ⟨w.heap.size, 0, none⟩) n n) (w.alloc (.cells (frCells (List.replicate n frZ)).toArray 51)) := by
  obtain ⟨i, hi, hz0, hz1, hz2⟩ := info_parts infoRFr
  have e := run_make (P := Tryd.prog) w 52 51 i (.agg #[.int .i64 0, .int .i64 0, .int .i64 0, .int .i64 0]) Tryd.underlying52 hi hz0 .i64 .i64 n n (by omega) (by omega) (by rw [hz2]; omega) (by omega)
  rw [e, hz1, Int.toNat_natCast]
  have : madeCells (Value.agg #[.int .i64 0, .int .i64 0, .int .i64 0, .int .i64 0]).cells (n * 4) = (frCells (List.replicate n frZ)).toArray := by
    rw [show (Value.agg #[.int .i64 0, .int .i64 0, .int .i64 0, .int .i64 0]).cells = #[Value.int IntKind.i64 0, .int .i64 0, .int .i64 0, .int .i64 0] from rfl]
    apply Array.toList_inj.1
    apply List.ext_getElem?
    intro j
    have hz : ∀ k, k < 4 → (#[Value.int IntKind.i64 0, .int .i64 0, .int .i64 0, .int .i64 0] : Array Value)[k]? = some (.int .i64 0) := fun k hk => by
      match k, hk with
      | 0, _ => rfl
      | 1, _ => rfl
      | 2, _ => rfl
      | 3, _ => rfl
    rw [frZ_cells]
    by_cases hj : j < n * 4
    · simp [madeCells, hj]
      have := hz (j % 4) (Nat.mod_lt _ (by decide))
      rw [List.getElem?_toArray] at this
      rw [this]
      rfl
    · simp [madeCells, hj]
  rw [this]
theorem repL_set (n k : Nat) (h : k < n) : (repL n k).set k frNo = repL n (k + 1) := by
  unfold repL
  rw [List.set_append_right _ _ (by rw [List.length_replicate]; exact Nat.le_refl _), List.length_replicate, Nat.sub_self, show n - k = (n - (k + 1)) + 1 by omega, List.replicate_succ, List.set_cons_zero, List.replicate_succ', List.append_assoc]
  rfl
theorem repL_at (n k : Nat) (h : k < n) : (repL n k).getD k default = frZ := by
  unfold repL
  rw [List.getD_eq_getElem?_getD, List.getElem?_append_right (by rw [List.length_replicate]; exact Nat.le_refl _), List.length_replicate, Nat.sub_self, List.getElem?_replicate, if_pos (by omega)]
  rfl
def RnTo (n b g : Nat) (s : Nat) (w0 : World) (i : Value) (wr : World) : Prop :=
  ∃ k : Nat, k ≤ n ∧ i = .int .i64 (k : Int) ∧ FrAt 54 51 wr b g n (repL n k) ∧ Below s w0 wr
set_option maxRecDepth 100000 in
set_option maxHeartbeats 1600000 in
theorem rnew_ok (n : Nat) (w : World) (hn : n ≤ 1024) :
    Calls Tryd.prog 19 #[.int .i64 (n : Int)] w fun e w' => ∃ b g, e = .returned (.pointer (some ⟨b, 0, none⟩)) ∧ FrAt 54 51 w' b g n (List.replicate n frNo) ∧ w.heap.size ≤ b ∧ w.heap.size ≤ g ∧ Below w.heap.size w w' := by
  have hmk := made_rfr w n hn
  have HST : Hid (RnTo n (w.heap.size + 1) w.heap.size w.heap.size w (.int .i64 0) ((w.alloc (.cells (frCells (List.replicate n frZ)).toArray 51)).alloc (.cells #[.slice (some ⟨w.heap.size, 0, none⟩) n n] 54))) := Lib.hid ⟨0, Nat.zero_le _, rfl, by
    have hr : repL n 0 = List.replicate n frZ := by simp [repL]
    rw [hr]
    refine ⟨?_, blk_old (blk_new _ _) _, by omega, by rw [List.length_replicate]; exact Nat.le_refl _, by omega⟩
    have := blk_new (w.alloc (.cells (frCells (List.replicate n frZ)).toArray 51)) (.cells #[.slice (some ⟨w.heap.size, 0, none⟩) n n] 54)
    rw [List.length_replicate]
    simpa using this, ((Below.refl _ _).alloc (Nat.le_refl _) _).alloc (by simp) _⟩
  go_enter Tryd.func19, Tryd.ntmps19
  go_wp2_with fail
  generalize (w.alloc (.cells (frCells (List.replicate n frZ)).toArray 51)).alloc (.cells #[.slice (some ⟨w.heap.size, 0, none⟩) n n] 54) = w2 at HST ⊢
  clear hmk
  go_loopw [4] (fun i wr => RnTo n (w.heap.size + 1) w.heap.size w.heap.size w i wr) (fun i _ => n - (intOf i).toNat)
  case atStart => exact HST.out
  case round =>
    obtain ⟨k, hk, rfl, hf, hb⟩ := hrel
    have HF := Lib.hid hf
    have HB := Lib.hid hb
    have c := hf.hdr
    rw [repL_len n k hk] at c
    clear hf hb HST
    by_cases hlt : k < n
    · have hki : (k : Int) < (n : Int) := by omega
      obtain ⟨c0, -, -, -⟩ := HF.out.cells k (by rw [repL_len n k hk]; exact hlt)
      have f0 := HF.out.free (k * 4)
      rw [repL_at n k hlt] at c0
      have HN : Hid (FrAt 54 51 (wr.setCell ⟨w.heap.size, k * 4, none⟩ (.int .i64 (-1))) (w.heap.size + 1) w.heap.size n (repL n (k + 1))) := Lib.hid (by
        have := HF.out.put0x (repL_at n k hlt) (by rw [repL_len n k hk]; exact hlt) (-1)
        rw [← repL_set n k hlt]
        exact this)
      have HB2 : Hid (Below w.heap.size w (wr.setCell ⟨w.heap.size, k * 4, none⟩ (.int .i64 (-1)))) := Lib.hid (HB.out.setCell (p := ⟨w.heap.size, k * 4, none⟩) (Nat.le_refl _) _)
      go_wp2
      go_roundw
      case rel => exact ⟨k + 1, by omega, by go_num, HN.out, HB2.out⟩
      case measure => simp [intOf]; omega
    · obtain rfl : k = n := by omega
      go_wp2
      go_ret
      refine ⟨w.heap.size + 1, w.heap.size, rfl, ?_, by omega, Nat.le_refl _, HB.out⟩
      have := HF.out
      rw [show repL k k = List.replicate k frNo from by simp [repL]] at this
      exact this

set_option maxRecDepth 100000 in
set_option maxHeartbeats 4000000 in
theorem rofs_any (l : List Fr) (b cap : Nat) (ao : Option Addr) (who : Int) (w : World) (hm : l.length ≤ 1024) (h : FrRd 54 w b ao cap l) :
    Calls Tryd.prog 29 #[.pointer (some ⟨b, 0, none⟩), .int .i64 who] w (OfPost l who w) := by
  obtain ⟨i0, hi, hz0, hz1, hz2⟩ := info_parts infoI64o
  have HF : Hid (∀ wx, Below w.heap.size w wx → FrRd 54 wx b ao cap l) := Lib.hid fun wx hx => h.below hx
  have HST : Hid (OfTo l who w.heap.size w (.slice none 0 0) (.int .i64 0) w) := Lib.hid ⟨0, Nat.zero_le _, rfl, own_nil _ _ _, fun k hk => by simp [inRow, Value.ownBlock] at hk, Below.refl _ _, none, 0, rfl⟩
  clear h
  go_enter Tryd.func29, Tryd.ntmps29
  go_wp2_with fail
  go_loopw [5, 6] (fun v i wr => OfTo l who w.heap.size w v i wr) (fun _ i _ => l.length - (intOf i).toNat)
  case atStart => exact HST.out
  case round =>
    obtain ⟨j, hj, rfl, hown, hfr, hb, ao', cap', rfl⟩ := hrel
    have HOWN := Lib.hid hown
    have HFR := Lib.hid hfr
    have HB := Lib.hid hb
    have c : wr.cell? ⟨b, 0, none⟩ = some (.slice ao l.length cap) := blk_cell (HF.out _ hb).1 0
    clear hown hfr hb HST
    by_cases hlt : j < l.length
    · have hji : (j : Int) < (l.length : Int) := by omega
      have hl := (HF.out _ HB.out).2.1
      obtain ⟨g, off, rfl, c0', hg⟩ := hl (j * 4 + 0) _ ((rec_get frOne 4 frOne_len l j 0 hlt (by decide)).trans rfl)
      have c0 : wr.cell? ⟨g, off + j * 4, none⟩ = some (.int .i64 (l.getD j default).owner) := c0'
      have HS := Lib.hid (frOf_succ l who j)
      have HLN := Lib.hid (frOf_len l who j)
      obtain ⟨x0, hx⟩ : ∃ x, (l.getD j default).owner = x := ⟨_, rfl⟩
      rw [hx] at c0 HS
      clear hl hx c0'
      by_cases ho : x0 = who
      · subst ho
        rw [if_pos rfl] at HS
        have HE1 : Hid (ints (frOf l x0 (j + 1)) = ints (frOf l x0 j) ++ [.int .i64 (j : Int)]) := Lib.hid (by rw [HS.out]; simp [ints])
        have HE2 : Hid ((frOf l x0 (j + 1)).length = (frOf l x0 j).length + 1) := Lib.hid (by rw [HS.out]; simp)
        have hdl := HLN.out
        go_wp2_with (at_builtin; refine wpList_append_sep _ rfl _ _ 37 rfl 3 i0 (.int .i64 0) 1 8 Tryd.underlying37 hi hz0 hz1 hz2 rfl (by decide) _ _ _ rfl (HOWN.out.alloc _) ⟨wr.heap.size, 0, none⟩ 1 1 [.int .i64 (j : Int)] rfl rfl ?_ (by simp [Value.oneCell']) (by unfold maxLen; omega) (by omega) ?_)
        · intro k u hk
          rw [Addr.add_lit]
          refine (blk_cell (blk_new wr (.cells #[.int .i64 (j : Int)] 3)) (0 + k)).trans ?_
          rw [Nat.zero_add, List.getElem?_toArray]
          exact hk
        · intro v' w10 ho4 hg4 hs4
          obtain ⟨ao4, cap4, rfl⟩ := own_slice ho4
          rw [← HE1.out] at ho4
          have hw4 : Below w.heap.size w w10 := (HB.out.alloc HB.out.size _).grown hg4 (Nat.le_trans HB.out.size (by simp)) (fun j hj => HFR.out j hj)
          have HF4 := Lib.hid (show ∀ k, inRow (.slice ao4 ((frOf l x0 j).length + 1) cap4) k → w.heap.size ≤ k from fun k hk => by
            rcases hs4 k hk with h | h
            · exact HFR.out k h
            · have := HB.out.size; omega)
          have HO4 := Lib.hid ho4
          have HW4 := Lib.hid hw4
          clear ho4 hg4 hs4 hw4
          go_wp2
          go_roundw
          case rel => exact ⟨j + 1, by omega, by go_num, by rw [HE2.out]; exact HO4.out, HF4.out, HW4.out, ao4, cap4, by rw [HE2.out]⟩
          case measure => simp [intOf]; omega
      · rw [if_neg ho] at HS
        have ho' : (x0 == who) = false := by simp [ho]
        clear ho
        go_wp2
        go_roundw
        case rel => exact ⟨j + 1, by omega, by go_num, by rw [HS.out]; exact HOWN.out, HFR.out, HB.out, ao', cap', by rw [HS.out]⟩
        case measure => simp [intOf]; omega
    · obtain rfl : j = l.length := by omega
      go_wp2
      go_ret
      exact ⟨_, rfl, HOWN.out, HFR.out, HB.out, _, _, rfl⟩
end Go.Proofs.YtaoaachgnnengaaDoor

/-
  The document's tables: where their parts lie.
-/
namespace Go.Proofs.YtaoaachgnnengaaDoor
open Go.RowKit

/-- where the document's tables lie -/
structure Zl where
  zb : Nat
  mb : Nat
  fb : Nat
  fg : Nat
  mv : Value
  gv : Value
/-- what is never written; memory's words; frames; the list of the guest's frames -/
def Zl.z0 (z : Zl) (k : Nat) : Prop := k = z.mb ∨ k = z.fb
def Zl.z1 (z : Zl) (k : Nat) : Prop := inRow z.mv k
def Zl.z2 (z : Zl) (k : Nat) : Prop := k = z.fg
def Zl.z3 (z : Zl) (k : Nat) : Prop := k = z.zb ∨ inRow z.gv k
structure Zl.Apart (p : Zl) : Prop where
  a01 : ∀ k, p.z0 k → ¬ p.z1 k
  a02 : ∀ k, p.z0 k → ¬ p.z2 k
  a03 : ∀ k, p.z0 k → ¬ p.z3 k
  a12 : ∀ k, p.z1 k → ¬ p.z2 k
  a13 : ∀ k, p.z1 k → ¬ p.z3 k
  a23 : ∀ k, p.z2 k → ¬ p.z3 k
def Zl.zw (p : Zl) (k : Nat) : Prop := p.z1 k ∨ p.z2 k ∨ p.z3 k
def ztCells (z : Zl) (who : Int) : Array Value := #[.pointer (some ⟨z.mb, 0, none⟩), .pointer (some ⟨z.fb, 0, none⟩), .int .i64 who, z.gv]
structure ZAt (w : World) (z : Zl) (n : Nat) (M : List Int) (F : List Fr) (P : List Int) (who : Int) : Prop where
  row : w.heap[z.zb]? = some (.cells (ztCells z who) 137 (0, 0))
  mem : MAr w z.mb z.mv n M
  fr : FrAt 54 51 w z.fb z.fg n F
  gl : w.ownsRow 0 3 1 z.gv P.length (ints P)
  apart : z.Apart
def ZtAt (w : World) (z : Zl) (s : Ts) : Prop := ZAt w z s.n s.M s.F s.P s.who
theorem MAr.only' {F : Nat → Prop} {w w' : World} {b n : Nat} {v : Value} {l : List Int} (h : MAr w b v n l) (ho : Only F w w') (hb : ¬ F b) (hv : ∀ k, inRow v k → ¬ F k) : MAr w' b v n l := ⟨ho.blk h.1 hb, own_only h.2.1 ho hv, h.2.2⟩
theorem ZAt.keep {G : Nat → Prop} {w w' : World} {z : Zl} {n : Nat} {M : List Int} {F : List Fr} {P : List Int} {who : Int} (h : ZAt w z n M F P who) (ho : Only G w w') (h0 : ∀ k, z.z0 k → ¬ G k) (h1 : ∀ k, z.z1 k → ¬ G k) (h2 : ∀ k, z.z2 k → ¬ G k) (h3 : ∀ k, z.z3 k → ¬ G k) : ZAt w' z n M F P who :=
  ⟨ho.blk h.row (h3 _ (.inl rfl)), h.mem.only' ho (h0 _ (.inl rfl)) h1, h.fr.only ho (h0 _ (.inr rfl)) (h2 _ rfl), own_only h.gl ho (fun k hk => h3 k (.inr hk)), h.apart⟩
theorem ZAt.below {w w' : World} {z : Zl} {n : Nat} {M : List Int} {F : List Fr} {P : List Int} {who : Int} (h : ZAt w z n M F P who) (hb : Below w.heap.size w w') : ZAt w' z n M F P who :=
  h.keep (G := fun _ => False) (Only.of_below hb) (fun _ _ h => h) (fun _ _ h => h) (fun _ _ h => h) (fun _ _ h => h)
theorem ZAt.mem' {w w' : World} {z : Zl} {n : Nat} {M M' : List Int} {F : List Fr} {P : List Int} {who : Int} (h : ZAt w z n M F P who) (ho : Only (fun k => inRow z.mv k) w w') (hm : MAr w' z.mb z.mv n M') : ZAt w' z n M' F P who :=
  ⟨ho.blk h.row (fun h' => h.apart.a13 _ h' (.inl rfl)), hm, h.fr.only ho (h.apart.a01 _ (.inr rfl)) (fun h' => h.apart.a12 _ h' rfl), own_only h.gl ho (fun k hk h' => h.apart.a13 k h' (.inr hk)), h.apart⟩
theorem ZAt.fr' {w w' : World} {z : Zl} {n : Nat} {M : List Int} {F F' : List Fr} {P : List Int} {who : Int} (h : ZAt w z n M F P who) (ho : Only (fun k => k = z.fg) w w') (hm : FrAt 54 51 w' z.fb z.fg n F') : ZAt w' z n M F' P who :=
  ⟨ho.blk h.row (fun h' => h.apart.a23 _ h' (.inl rfl)), h.mem.only' ho (h.apart.a02 _ (.inl rfl)) (fun k hk h' => h.apart.a12 _ hk h'), hm, own_only h.gl ho (fun k hk h' => h.apart.a23 k h' (.inr hk)), h.apart⟩
theorem ZAt.lt {w : World} {z : Zl} {n : Nat} {M : List Int} {F : List Fr} {P : List Int} {who : Int} (h : ZAt w z n M F P who) : ∀ k, (z.z0 k ∨ z.z1 k ∨ z.z2 k ∨ z.z3 k) → k < w.heap.size := fun k hk => by
  rcases hk with (rfl | rfl) | hk | hk | (rfl | hk)
  · exact blk_lt h.mem.1
  · exact h.fr.lt.1
  · exact own_lt h.mem.2.1 hk
  · rw [show k = z.fg from hk]; exact h.fr.lt.2
  · exact blk_lt h.row
  · exact own_lt h.gl hk
theorem ZAt.cells {w : World} {z : Zl} {n : Nat} {M : List Int} {F : List Fr} {P : List Int} {who : Int} (h : ZAt w z n M F P who) : w.cell? ⟨z.zb, 0, none⟩ = some (.pointer (some ⟨z.mb, 0, none⟩)) ∧ w.cell? ⟨z.zb, 1, none⟩ = some (.pointer (some ⟨z.fb, 0, none⟩)) ∧ w.cell? ⟨z.zb, 2, none⟩ = some (.int .i64 who) ∧ w.cell? ⟨z.zb, 3, none⟩ = some z.gv ∧ w.frozen? ⟨z.zb, 3, none⟩ = false ∧ z.zb < w.heap.size :=
  ⟨blk_cell h.row 0, blk_cell h.row 1, blk_cell h.row 2, blk_cell h.row 3, blk_free h.row 3, blk_lt h.row⟩
theorem ZAt.not {w : World} {z : Zl} {n : Nat} {M : List Int} {F : List Fr} {P : List Int} {who : Int} (h : ZAt w z n M F P who) : ¬ inRow z.gv z.zb := fun h' => own_not h.gl h.row (by decide) h'
/-- the list has another one -/
theorem ZAt.list' {w w' : World} {z : Zl} {n : Nat} {M : List Int} {F : List Fr} {P P' : List Int} {who : Int} {gv' : Value} (h : ZAt w z n M F P who) (ho : Only (fun k => k = z.zb ∨ inRow z.gv k) w w') (hrow : w'.heap[z.zb]? = some (.cells (ztCells { z with gv := gv' } who) 137 (0, 0))) (ht : w'.ownsRow 0 3 1 gv' P'.length (ints P')) (hr : ∀ k, inRow gv' k → inRow z.gv k ∨ w.heap.size ≤ k) : ZAt w' { z with gv := gv' } n M F P' who := by
  have hz3 : ∀ k, Zl.z3 { z with gv := gv' } k → z.z3 k ∨ w.heap.size ≤ k := fun k hk => by
    rcases hk with hk | hk
    · exact .inl (.inl hk)
    · rcases hr k hk with h | h
      · exact .inl (.inr h)
      · exact .inr h
  exact ⟨hrow, h.mem.only' ho (h.apart.a03 _ (.inl rfl)) (fun k hk h' => h.apart.a13 k hk h'), h.fr.only ho (h.apart.a03 _ (.inr rfl)) (h.apart.a23 _ rfl), ht,
    ⟨h.apart.a01, h.apart.a02, fun k h0 h3 => by
      rcases hz3 k h3 with h' | h'
      · exact h.apart.a03 k h0 h'
      · have := h.lt k (.inl h0); omega, h.apart.a12, fun k h1 h3 => by
      rcases hz3 k h3 with h' | h'
      · exact h.apart.a13 k h1 h'
      · have := h.lt k (.inr (.inl h1)); omega, fun k h2 h3 => by
      rcases hz3 k h3 with h' | h'
      · exact h.apart.a23 k h2 h'
      · have := h.lt k (.inr (.inr (.inl h2))); omega⟩⟩
end Go.Proofs.YtaoaachgnnengaaDoor

/-
  Which pages are live: plain laws; pt.Tables.Live.
-/
namespace Go.Proofs.YtaoaachgnnengaaDoor
open Go.RowKit

theorem tWord_inj {m : Int} {s : Ts} (h : TInv m s) {a b : Nat} (ha : a < 256) (hb : b < 256) (e : tWord s a = tWord s b) : a = b := by
  have h1 := h.pin (1 + a / 16) (by have := h.p17; omega)
  have h2 := h.pin (1 + b / 16) (by have := h.p17; omega)
  unfold tWord at e
  have e1 : s.P.getD (1 + a / 16) 0 = s.P.getD (1 + b / 16) 0 := by omega
  have := h.pne _ _ (by have := h.p17; omega) (by have := h.p17; omega) e1
  omega
theorem tWord_lt {m : Int} {s : Ts} (h : TInv m s) {a : Nat} (ha : a < 256) : tWord s a < s.M.length := by
  have h1 := h.pin (1 + a / 16) (by have := h.p17; omega)
  rw [h.lm]
  unfold tWord
  omega
/-- a page's entry, where its word is known -/
theorem tEnt_word (s : Ts) (page : Int) (hp : isPage page = true) (x : Int) (hx : s.M.getD (tWord s page.toNat) 0 = x) : tEnt s page = if (ofA x).1.t = true then (ofA x).1 else Ent.z := by
  have hpg : 0 ≤ page ∧ page < 256 := by simpa [isPage] using hp
  unfold tEnt
  rw [hx]
  by_cases h : (ofA x).1.t = true
  · rw [if_pos ⟨hpg.1, hpg.2, h⟩, if_pos h]
  · rw [if_neg (fun hh => h hh.2.2), if_neg h]
theorem tEnt_none (s : Ts) (page : Int) (hp : isPage page = false) : tEnt s page = Ent.z := by
  have hpg : ¬ (0 ≤ page ∧ page < 256) := by simpa [isPage] using hp
  unfold tEnt
  rw [if_neg (fun hh => hpg ⟨hh.1, hh.2.1⟩)]
/-- one word put: each page's entry then -/
theorem tEnt_put {m : Int} {s : Ts} (h : TInv m s) (page : Int) (hp : isPage page = true) (x : Int) (F : List Fr) (p : Int) : tEnt { s with F := F, M := writeL s.M (tWord s page.toNat : Int) x } p = if p = page then (if (ofA x).1.t = true then (ofA x).1 else Ent.z) else tEnt s p := by
  have hpg : 0 ≤ page ∧ page < 256 := by simpa [isPage] using hp
  have hlt := tWord_lt h (a := page.toNat) (by omega)
  have hg : ∀ t, (writeL s.M (tWord s page.toNat : Int) x).getD t 0 = if t = tWord s page.toNat then x else s.M.getD t 0 := fun t => by
    unfold writeL
    rw [if_pos (by omega), Int.toNat_natCast, setD_get _ _ _ _ hlt]
  have hw : ∀ q, tWord { s with F := F, M := writeL s.M (tWord s page.toNat : Int) x } q = tWord s q := fun q => rfl
  by_cases e : p = page
  · subst e
    rw [if_pos rfl]
    exact tEnt_word _ p hp x (by show (writeL s.M _ x).getD (tWord s p.toNat) 0 = x; rw [hg, if_pos rfl])
  · rw [if_neg e]
    cases hq : isPage p with
    | false => rw [tEnt_none _ p hq, tEnt_none _ p hq]
    | true =>
      have hpq : 0 ≤ p ∧ p < 256 := by simpa [isPage] using hq
      have hne : tWord s p.toNat ≠ tWord s page.toNat := fun e2 => by
        have := tWord_inj h (by omega) (by omega) e2
        omega
      rw [tEnt_word _ p hq (s.M.getD (tWord s p.toNat) 0) (by show (writeL s.M _ x).getD (tWord s p.toNat) 0 = _; rw [hg, if_neg hne]), tEnt_word s p hq _ rfl]
theorem ofA_zero'' : ofA 0 = (Ent.z, true) := ofA_ent'' (f := 0) (t := false) (wr := false) (u := false) ⟨by decide, by decide, fun _ => ⟨rfl, rfl, rfl⟩⟩
theorem tEnt_zt : Ent.z.t = false := rfl
theorem tEnt_there (s : Ts) (page : Int) (h : ¬ (tEnt s page).t = true) : tEnt s page = Ent.z := by
  unfold tEnt at h ⊢
  split
  · rename_i hh
    rw [if_pos hh] at h
    exact absurd hh.2.2 h
  · rfl
theorem tEnt_F (s : Ts) (F : List Fr) (p : Int) : tEnt { s with F := F } p = tEnt s p := rfl
/-- behind Drop -/
theorem tEnt_drop {m : Int} {s : Ts} (h : TInv m s) (page : Int) (hp : isPage page = true) (p : Int) : tEnt (tDrop s page).1 p = if p = page then Ent.z else tEnt s p := by
  unfold tDrop
  rw [if_pos hp]
  by_cases ht : (tEnt s page).t = true
  · rw [if_pos ht]
    have := tEnt_put h page hp 0 (tDropF s page) p
    rw [ofA_zero'', show (if ((Ent.z, true) : Ent × Bool).1.t = true then ((Ent.z, true) : Ent × Bool).1 else Ent.z) = Ent.z from rfl] at this
    exact this
  · rw [if_neg ht]
    by_cases e : p = page
    · rw [if_pos e, e]
      exact tEnt_there s page ht
    · rw [if_neg e]
/-- behind set -/
theorem tEnt_set {m : Int} {s : Ts} (h : TInv m s) (page frame : Int) (w : Bool) (hp : isPage page = true) (hc : (tSetR s frame w).c = 0) (hf : 0 ≤ frame ∧ frame < 1024) (p : Int) : tEnt (tSet s page frame w).1 p = if p = page then ⟨frame, true, w, true⟩ else tEnt s p := by
  have hok : entOk frame true w true := ⟨hf.1, hf.2, fun h => by cases h⟩
  have hpg : 0 ≤ page ∧ page < 256 := by simpa [isPage] using hp
  unfold tSet
  rw [if_pos hc]
  have hI := tDrop_inv (tSetR_inv h frame w) page
  have hD := tEnt_drop (tSetR_inv h frame w) page hp
  have hP := (tDrop_P { s with F := (tSetR s frame w).l } page).1
  obtain ⟨S, hS⟩ : ∃ S, (tDrop { s with F := (tSetR s frame w).l } page).1 = S := ⟨_, rfl⟩
  rw [hS] at hI hD hP ⊢
  have h1 := hI.pin (1 + page.toNat / 16) (by have := hI.p17; omega)
  have hput : putE S.M (s.P.getD (1 + page.toNat / 16) 0) ((page.toNat % 16 : Nat) : Int) ⟨frame, true, w, true⟩ = writeL S.M (tWord S page.toNat : Int) (entW frame true w true) := by
    unfold putE bitsA
    rw [if_pos ((entOkB_iff _ _ _ _).2 hok)]
    show writeL S.M _ (entW frame true w true) = _
    rw [show s.P = S.P from hP.symm, show S.P.getD (1 + page.toNat / 16) 0 * 16 + ((page.toNat % 16 : Nat) : Int) = ((tWord S page.toNat : Nat) : Int) by unfold tWord; omega]
  show tEnt { S with M := putE S.M (s.P.getD (1 + page.toNat / 16) 0) ((page.toNat % 16 : Nat) : Int) ⟨frame, true, w, true⟩ } p = _
  rw [hput]
  have := tEnt_put hI page hp (entW frame true w true) S.F p
  rw [ofA_ent'' hok, if_pos rfl] at this
  refine Eq.trans this ?_
  rw [hD p]
  by_cases e : p = page
  · rw [if_pos e, if_pos e]
  · rw [if_neg e, if_neg e, if_neg e]
    rfl

/-- the live pages below n -/
def tLiveN (s : Ts) : Nat → List Int
  | 0 => []
  | n + 1 => if (tEnt s (n : Int)).t = true then tLiveN s n ++ [(n : Int)] else tLiveN s n
def tLive (s : Ts) : List Int := tLiveN s 256
theorem tLiveN_len (s : Ts) : ∀ n, (tLiveN s n).length ≤ n
  | 0 => Nat.le_refl _
  | n + 1 => by
    have := tLiveN_len s n
    unfold tLiveN
    split
    · rw [List.length_append]; simp; omega
    · omega
theorem infoLive : (Tryd.prog.info? 3).map (fun i => (i.zero, i.size, i.bytes)) = some (some (.int .i64 0), 1, 8) := by kernel_rfl
def LvTo (s : Ts) (w : World) (v i : Value) (wr : World) : Prop := ∃ k : Nat, k ≤ 256 ∧ i = .int .i64 (k : Int) ∧ wr.ownsRow 0 3 1 v (tLiveN s k).length (ints (tLiveN s k)) ∧ (∀ j, inRow v j → w.heap.size ≤ j) ∧ Below w.heap.size w wr

set_option maxRecDepth 100000 in
set_option maxHeartbeats 6400000 in
theorem tlive_any (p : Pl) (s : Ts) (m : Int) (w : World) (h : PtAt w p s) (hi : TInv m s) :
    Calls Tryd.prog 35 #[.pointer (some ⟨p.tb, 0, none⟩)] w fun y w' => ∃ v', y = .returned v' ∧ w'.ownsRow 0 3 1 v' (tLive s).length (ints (tLive s)) ∧ (∀ j, inRow v' j → w.heap.size ≤ j) ∧ Below w.heap.size w w' := by
  obtain ⟨i0, hi0, hz0, hz1, hz2⟩ := info_parts infoLive
  have HEN : Hid (∀ wx, Below w.heap.size w wx → ∀ page : Int, Calls Tryd.prog 73 #[.pointer (some ⟨p.tb, 0, none⟩), .int .i64 page] wx fun y w' => y = .returned (.tuple #[(tEnt s page).v, .bool (tEnt s page).t]) ∧ Below wx.heap.size wx w') := Lib.hid fun wx hb page => tentry_any p s m page wx (h.below hb) hi
  clear h hi
  go_enter Tryd.func35, Tryd.ntmps35
  go_wp2_with fail
  go_loopw [3, 7] (fun v i wr => LvTo s w v i wr) (fun _ i _ => 256 - (intOf i).toNat)
  case atStart => exact ⟨0, Nat.zero_le _, rfl, own_nil _ _ _, fun j h => (by cases h), Below.refl _ _⟩
  case round =>
    obtain ⟨k, hk, rfl, ho, hf, hb⟩ := hrel
    have HO := Lib.hid ho
    have HF := Lib.hid hf
    have HB := Lib.hid hb
    by_cases hlt : k < 256
    · have hki : (k : Int) < 256 := by omega
      have HE := Lib.hid (HEN.out _ HB.out (k : Int))
      have HL1 : Hid (tLiveN s (k + 1) = if (tEnt s (k : Int)).t = true then tLiveN s k ++ [(k : Int)] else tLiveN s k) := Lib.hid rfl
      have hlen := tLiveN_len s k
      obtain ⟨L, hL⟩ : ∃ L, tLiveN s k = L := ⟨_, rfl⟩
      rw [hL] at HO HL1 hlen ho
      obtain ⟨ao, cap, rfl⟩ := own_slice ho
      clear ho hf hb
      obtain ⟨⟨ef, et, ew, eu⟩, he⟩ : ∃ e, tEnt s (k : Int) = e := ⟨_, rfl⟩
      rw [he] at HE HL1
      unfold Ent.v at HE
      dsimp only at HE HL1
      go_wp2_with fail
      refine HE.out.mono ?_
      rintro y w1 ⟨rfl, hb1⟩
      have HB1 : Hid (Below w.heap.size w w1) := Lib.hid (HB.out.trans (hb1.mono HB.out.size))
      have HO1 : Hid (w1.ownsRow 0 3 1 (.slice ao L.length cap) L.length (ints L)) := Lib.hid (own_frame HO.out fun j hj => hb1.block j (own_lt HO.out hj))
      have HLL := Lib.hid hL
      clear hb1 hL he
      cases et with
      | false =>
        have HB2 : Hid (∀ X, Below w.heap.size w (w1.alloc X)) := Lib.hid fun X => HB1.out.alloc HB1.out.size X
        go_wp2_with fail
        go_roundw
        case rel => exact ⟨k + 1, by omega, by go_num, by rw [HL1.out, if_neg (by decide)]; exact HO1.out.alloc _, HF.out, HB2.out _⟩
        case measure => simp [intOf]; omega
      | true =>
        go_wp2_with (at_builtin; refine wpList_append_sep _ rfl _ _ 37 rfl 3 i0 (.int .i64 0) 1 8 Tryd.underlying37 hi0 hz0 hz1 hz2 rfl (by decide) _ _ _ rfl ((HO1.out.alloc (.cells #[.int .i64 ef, .bool true, .bool ew, .bool eu] 68)).alloc _) ⟨w1.heap.size + 1, 0, none⟩ 1 1 [.int .i64 (k : Int)] rfl rfl (by have := cell_one_new (w1.alloc (.cells #[.int .i64 ef, .bool true, .bool ew, .bool eu] 68)) (.int .i64 (k : Int)) 3; simpa using this) (by simp [Value.oneCell']) (by unfold maxLen; omega) (by omega) ?_)
        intro v' wx ho3 hg3 hs3
        obtain ⟨ao2, cap2, rfl⟩ := own_slice ho3
        have HO3 : Hid (wx.ownsRow 0 3 1 (.slice ao2 (L.length + 1) cap2) (L ++ [(k : Int)]).length (ints (L ++ [(k : Int)]))) := Lib.hid (by
          have e1 : ints L ++ [Value.int .i64 (k : Int)] = ints (L ++ [(k : Int)]) := by simp [ints]
          rw [e1] at ho3
          rw [List.length_append]
          exact ho3)
        have HF3 : Hid (∀ j, inRow (.slice ao2 (L.length + 1) cap2) j → w.heap.size ≤ j) := Lib.hid fun j hj => by
          rcases hs3 j hj with h | h
          · exact HF.out j h
          · have h' := h
            try simp at h'
            have := HB1.out.size
            omega
        have HB3 : Hid (Below w.heap.size w wx) := Lib.hid (Below.grown ((HB1.out.alloc HB1.out.size _).alloc (by have := HB1.out.size; simp; omega) _) hg3 (by have := HB1.out.size; simp; omega) (fun j hj => HF.out j hj))
        clear ho3 hg3 hs3
        go_wp2_with fail
        go_roundw
        case rel => exact ⟨k + 1, by omega, by go_num, by rw [HL1.out]; simp only [if_true]; exact HO3.out, HF3.out, HB3.out⟩
        case measure => simp [intOf]; omega
    · obtain rfl : k = 256 := by omega
      obtain ⟨ao, cap, rfl⟩ := own_slice ho
      clear ho hf hb
      go_wp2
      go_ret
      exact ⟨_, rfl, HO.out, HF.out, HB.out⟩
end Go.Proofs.YtaoaachgnnengaaDoor

/-
  The document's tables: word, Entry.
-/
namespace Go.Proofs.YtaoaachgnnengaaDoor
open Go.RowKit

theorem ZAt.list {w : World} {z : Zl} {n : Nat} {M : List Int} {F : List Fr} {P : List Int} {who : Int} (h : ZAt w z n M F P who) (hP : 17 ≤ P.length) : ∃ g cap, z.gv = .slice (some ⟨g, 0, none⟩) P.length cap ∧ g < w.heap.size ∧ ∀ k, k < P.length → w.cell? ⟨g, k, none⟩ = some (.int .i64 (P.getD k 0)) := by
  rcases own_shape h.gl with ⟨-, hz, -⟩ | hs
  · omega
  · obtain ⟨g, cap, e1, -⟩ := hs
    have ht := h.gl
    rw [e1] at ht
    exact ⟨g, cap, e1, own_lt ht (show inRow _ g from rfl), fun k hk => by rw [own_cell ht k (by omega), ints_get' _ k hk]⟩
theorem nat_lt17 {k : Nat} (h : (k : Int) < 17) : k < 17 := by omega
theorem nat_ltL {k L : Nat} (h : k < 17) (hL : 17 ≤ L) : k < L ∧ (k : Int) < (L : Int) := by omega
theorem tw_sum {x : Int} {w r : Nat} (h0 : 0 ≤ x) (hw : w = 16 * x.toNat + r) : x * 16 + (r : Int) = (w : Int) := by omega
theorem tw_range {t : Int} {n r : Nat} (h : 0 ≤ t ∧ t < (n : Int)) (hn : n ≤ 1024) (hr : r < 16) : (-9223372036854775808 ≤ t * 16 ∧ t * 16 ≤ 9223372036854775807) ∧ (-9223372036854775808 ≤ t * 16 + (r : Int) ∧ t * 16 + (r : Int) ≤ 9223372036854775807) := by omega
theorem ofA_not (x : Int) (h : (ofA x).1.t = false) : (ofA x).1 = Ent.z := by
  unfold ofA at h ⊢
  by_cases hx : isEntB x = true
  · rw [if_pos hx] at h ⊢
    have hok := ((isEntB_iff x).1 hx).1
    dsimp only at h ⊢
    rw [h] at hok ⊢
    obtain ⟨h1, h2, h3⟩ := hok.2.2 rfl
    rw [h1, h2, h3]
    rfl
  · rw [if_neg hx]
theorem tEnt_is (s : Ts) (page : Int) (hp : isPage page = true) : tEnt s page = (ofA (s.M.getD (tWord s page.toNat) 0)).1 := by
  have hpg : 0 ≤ page ∧ page < 256 := by simpa [isPage] using hp
  unfold tEnt
  cases ht : (ofA (s.M.getD (tWord s page.toNat) 0)).1.t with
  | true => rw [if_pos ⟨hpg.1, hpg.2, rfl⟩]
  | false => rw [if_neg (fun hh => by cases hh.2.2), ofA_not _ ht]
theorem tEnt_out (s : Ts) (page : Int) (hp : isPage page = false) : tEnt s page = Ent.z := by
  unfold tEnt
  rw [if_neg]
  intro hh
  have : isPage page = true := by simp [isPage]; omega
  rw [hp] at this
  cases this

set_option maxRecDepth 100000 in
set_option maxHeartbeats 1600000 in
theorem zword_gen (z : Zl) (s : Ts) (m : Int) (j : Nat) (w : World) {g cap : Nat} (hc : w.cell? ⟨z.zb, 3, none⟩ = some z.gv ∧ z.zb < w.heap.size) (hl : z.gv = .slice (some ⟨g, 0, none⟩) s.P.length cap) (hg : g < w.heap.size) (hcell : ∀ k, k < s.P.length → w.cell? ⟨g, k, none⟩ = some (.int .i64 (s.P.getD k 0))) (hi : TInv m s) (hj : j < 256) :
    Calls Tryd.prog 97 #[.pointer (some ⟨z.zb, 0, none⟩), .int .i64 (j : Int)] w fun y w' => y = .returned (.int .i64 ((tWord s j : Nat) : Int)) ∧ w = w' := by
  obtain ⟨c3, ltb⟩ := hc
  rw [hl] at c3
  have hp17 := hi.p17
  have h1 := hi.pin (1 + j / 16) (by omega)
  have hn := hi.n1
  obtain ⟨a, k, r, ha, hk, hr, wq, wq', wq1, wr, wi0, wi1, hr16⟩ := page_parts j hj
  rw [ha, hk] at h1
  have hk17 := nat_lt17 wi1
  have ct := hcell k (nat_ltL hk17 hp17).1
  have HTW : Hid (s.P.getD k 0 * 16 + (r : Int) = ((tWord s j : Nat) : Int)) := Lib.hid (tw_sum h1.1 (by unfold tWord; rw [ha, hk, hr]))
  have hrg := tw_range (r := r) ⟨h1.1, h1.2.1⟩ hn hr16
  obtain ⟨t1, ht1⟩ : ∃ x, s.P.getD k 0 = x := ⟨_, rfl⟩
  rw [ht1] at HTW ct hrg
  have wi2 := (nat_ltL hk17 hp17).2
  obtain ⟨L, hL⟩ : ∃ x, s.P.length = x := ⟨_, rfl⟩
  rw [hL] at c3 wi2
  have wm := IntWalk.i64_in (t1 * 16) hrg.1
  have ws : IntKind.i64.wrap (t1 * 16 + (r : Int)) = ((tWord s j : Nat) : Int) := (IntWalk.i64_in _ hrg.2).trans HTW.out
  clear hi hl hcell ht1 hL ha hk hr hj h1 hrg hp17 hk17 hn
  go_enter Tryd.func97, Tryd.ntmps97
  go_wp2
  go_ret
  exact ⟨rfl, rfl⟩

theorem zword_any (z : Zl) (s : Ts) (m : Int) (j : Nat) (w : World) (h : ZtAt w z s) (hi : TInv m s) (hj : j < 256) :
    Calls Tryd.prog 97 #[.pointer (some ⟨z.zb, 0, none⟩), .int .i64 (j : Int)] w fun y w' => y = .returned (.int .i64 ((tWord s j : Nat) : Int)) ∧ w = w' := by
  obtain ⟨g, cap, hl, hg, hcell⟩ := ZAt.list h hi.p17
  exact zword_gen z s m j w ⟨(ZAt.cells h).2.2.2.1, (ZAt.cells h).2.2.2.2.2⟩ hl hg hcell hi hj

set_option maxRecDepth 100000 in
set_option maxHeartbeats 3200000 in
theorem zentry_out (z : Zl) (s : Ts) (page : Int) (w : World) (hp : isPage page = false) :
    Calls Tryd.prog 96 #[.pointer (some ⟨z.zb, 0, none⟩), .int .i64 page] w fun y w' => y = .returned (tEnt s page).v ∧ Below w.heap.size w w' := by
  rw [tEnt_out s page hp]
  have hc : page < 0 ∨ (¬ page < 0 ∧ 256 ≤ page) := by
    by_cases h0 : page < 0
    · exact .inl h0
    · refine .inr ⟨h0, ?_⟩
      by_cases h1 : page < 256
      · have : isPage page = true := by simp [isPage]; omega
        rw [hp] at this
        cases this
      · omega
  obtain ⟨zb, hz⟩ : ∃ x, z.zb = x := ⟨_, rfl⟩
  rw [hz]
  have hn := blk_new w (.cells #[.int .i64 0, .bool false, .bool false, .bool false] 68)
  have f0 := blk_free hn 0
  have f1 := blk_free hn 1
  have f2 := blk_free hn 2
  have f3 := blk_free hn 3
  have z0 := blk_cell hn 0
  have z1 := blk_cell hn 1
  have z2 := blk_cell hn 2
  have z3 := blk_cell hn 3
  clear hp hz hn
  rcases hc with h0 | ⟨h0, h1⟩
  all_goals
    go_enter Tryd.func96, Tryd.ntmps96
    go_wp2
    refine bodyPost_ret (v := .agg #[.int .i64 0, .bool false, .bool false, .bool false]) (by simp [results, Tryd.results96, go_sem, z0, z1, z2, z3]) rfl ⟨rfl, ?_⟩
    first | exact (Below.refl _ _).alloc (Nat.le_refl _) _ | exact ((((((Below.refl _ _).alloc (Nat.le_refl _) (.cells #[.int .i64 0, .bool false, .bool false, .bool false] 68))).setCell (p := ⟨w.heap.size, 0, none⟩) (Nat.le_refl _) _).setCell (p := ⟨w.heap.size, 1, none⟩) (Nat.le_refl _) _).setCell (p := ⟨w.heap.size, 2, none⟩) (Nat.le_refl _) _).setCell (p := ⟨w.heap.size, 3, none⟩) (Nat.le_refl _) _

set_option maxRecDepth 100000 in
set_option maxHeartbeats 3200000 in
theorem zentry_in (z : Zl) (s : Ts) (m : Int) (j : Nat) (w : World) (h : ZtAt w z s) (hi : TInv m s) (hj : j < 256) :
    Calls Tryd.prog 96 #[.pointer (some ⟨z.zb, 0, none⟩), .int .i64 (j : Int)] w fun y w' => y = .returned (tEnt s (j : Int)).v ∧ Below w.heap.size w w' := by
  have hp : isPage (j : Int) = true := by simp [isPage]; omega
  have hpn : ¬ (j : Int) < 0 := by omega
  have hp2 : ¬ (256 : Int) ≤ (j : Int) := by omega
  rw [tEnt_is s _ hp, Int.toNat_natCast]
  have hb0 : Below w.heap.size w (w.alloc (.cells #[.int .i64 0, .bool false, .bool false, .bool false] 68)) := (Below.refl _ _).alloc (Nat.le_refl _) _
  have HB0 := Lib.hid hb0
  have HWD : Hid (∀ wx, Below w.heap.size w wx → Calls Tryd.prog 97 #[.pointer (some ⟨z.zb, 0, none⟩), .int .i64 (j : Int)] wx fun y w' => y = .returned (.int .i64 ((tWord s j : Nat) : Int)) ∧ wx = w') := Lib.hid fun wx hb => zword_any z s m j wx (ZAt.below h hb) hi hj
  have hlt := tWord_lt hi hj
  have HRD : Hid (∀ wx, Below w.heap.size w wx → Calls Tryd.prog 107 #[.pointer (some ⟨z.mb, 0, none⟩), .int .i64 ((tWord s j : Nat) : Int)] wx fun y w' => y = .returned (.tuple #[.int .u32 (s.M.getD (tWord s j) 0), .bool true]) ∧ wx = w') := Lib.hid fun wx hb => mr_read_at s.M z.mb s.n (tWord s j) z.mv wx (ZAt.below h hb).mem (by rw [← hi.lm]; exact hlt)
  have hw32 := hi.w32 (tWord s j)
  obtain ⟨x, hx⟩ : ∃ x, s.M.getD (tWord s j) 0 = x := ⟨_, rfl⟩
  rw [hx] at HRD hw32 ⊢
  have HOF := Lib.hid (fun wx => rof_any x wx hw32)
  obtain ⟨⟨⟨ef, et, ew, eu⟩, ok⟩, he⟩ : ∃ r, ofA x = r := ⟨_, rfl⟩
  rw [he] at HOF ⊢
  unfold Ent.v at HOF ⊢
  dsimp only at HOF ⊢
  obtain ⟨tw, htw⟩ : ∃ t, ((tWord s j : Nat) : Int) = t := ⟨_, rfl⟩
  rw [htw] at HWD HRD
  obtain ⟨c0, -, -, -, -, -⟩ := ZAt.cells (ZAt.below h hb0)
  have ltb : z.zb < w.heap.size := h.cells.2.2.2.2.2
  have HBN := Lib.hid (blk_new w (.cells #[.int .i64 0, .bool false, .bool false, .bool false] 68))
  clear h hi hx he hlt hp hw32 hj hb0 htw
  go_enter Tryd.func96, Tryd.ntmps96
  go_wp2_with fail
  go_quiet ((first | (go_at_call 97; exact Calls.quiet_of_same ((HWD.out _ (below_drewN HB0.out _)).mono fun e w' h => ⟨h.1, h.2.symm⟩)) | (go_at_call 107; exact Calls.quiet_of_same ((HRD.out _ (below_drewN HB0.out _)).mono fun e w' h => ⟨h.1, h.2.symm⟩))))
  obtain ⟨wd, hwd⟩ : ∃ wd, (w.alloc (.cells #[.int .i64 0, .bool false, .bool false, .bool false] 68)).drewN nq = wd := ⟨_, rfl⟩
  have HBD : Hid (Below w.heap.size w wd) := Lib.hid (hwd ▸ below_drewN HB0.out nq)
  have HND : Hid (wd.heap[w.heap.size]? = some (.cells #[.int .i64 0, .bool false, .bool false, .bool false] 68 (0, 0))) := Lib.hid (hwd ▸ blk_below HBN.out (below_drewN (Below.refl _ _) nq) (blk_lt HBN.out))
  rw [hwd]
  clear hwd HBN HB0 c0
  go_wp2_with fail
  refine (HOF.out _).mono ?_
  rintro y w3 ⟨rfl, hb3⟩
  have HB3 := Lib.hid (HBD.out.trans (hb3.mono HBD.out.size))
  have hk3 := blk_below HND.out hb3 (blk_lt HND.out)
  obtain ⟨b, hb⟩ : ∃ b, w3.heap.size = b := ⟨_, rfl⟩
  have lb : w.heap.size < b := hb ▸ blk_lt hk3
  have hn4 := blk_new w3 (.cells #[.int .i64 ef, .bool et, .bool ew, .bool eu] 68)
  have hk4 := blk_below hk3 ((Below.refl _ _).alloc (Nat.le_refl _) (.cells #[.int .i64 ef, .bool et, .bool ew, .bool eu] 68)) (blk_lt hk3)
  obtain ⟨w4, hw4⟩ : ∃ w4, w3.alloc (.cells #[.int .i64 ef, .bool et, .bool ew, .bool eu] 68) = w4 := ⟨_, rfl⟩
  have HB4 : Hid (Below w.heap.size w w4) := Lib.hid (hw4 ▸ HB3.out.alloc HB3.out.size _)
  rw [hw4] at hn4 hk4
  rw [hb] at hn4
  have f0 := blk_free hk4 0
  have f1 := blk_free hk4 1
  have f2 := blk_free hk4 2
  have f3 := blk_free hk4 3
  have z0 := blk_cell hk4 0
  have z1 := blk_cell hk4 1
  have z2 := blk_cell hk4 2
  have z3 := blk_cell hk4 3
  have y0 := blk_cell hn4 0
  have y1 := blk_cell hn4 1
  have y2 := blk_cell hn4 2
  have y3 := blk_cell hn4 3
  clear hb3 hk3 hn4 hk4 HWD HRD HOF HND HBD
  go_upto_region 2 with fail
  try rw [hb, hw4]
  clear hb hw4
  go_wp2
  refine bodyPost_ret (v := .agg #[.int .i64 ef, .bool et, .bool ew, .bool eu]) (by simp [results, Tryd.results96, go_sem, z0, z1, z2, z3]) rfl ⟨rfl, ?_⟩
  exact (((HB4.out.setCell (p := ⟨w.heap.size, 0, none⟩) (Nat.le_refl _) _).setCell (p := ⟨w.heap.size, 1, none⟩) (Nat.le_refl _) _).setCell (p := ⟨w.heap.size, 2, none⟩) (Nat.le_refl _) _).setCell (p := ⟨w.heap.size, 3, none⟩) (Nat.le_refl _) _
theorem zentry_any (z : Zl) (s : Ts) (m : Int) (page : Int) (w : World) (h : ZtAt w z s) (hi : TInv m s) :
    Calls Tryd.prog 96 #[.pointer (some ⟨z.zb, 0, none⟩), .int .i64 page] w fun y w' => y = .returned (tEnt s page).v ∧ Below w.heap.size w w' := by
  cases hp : isPage page with
  | false => exact zentry_out z s page w hp
  | true =>
    have hpg : 0 ≤ page ∧ page < 256 := by simpa [isPage] using hp
    obtain ⟨j, rfl⟩ : ∃ j : Nat, page = (j : Int) := ⟨page.toNat, by omega⟩
    exact zentry_in z s m j w h hi (by omega)
end Go.Proofs.YtaoaachgnnengaaDoor

/-
  The document's tables: Drop.
-/
namespace Go.Proofs.YtaoaachgnnengaaDoor
open Go.RowKit

def ZtQ (z : Zl) (R : Ts × Int) (w : World) (e : Ending) (w' : World) : Prop := e = .returned (.int .i64 R.2) ∧ ZtAt w' z R.1 ∧ Only z.zw w w'
theorem ztw_m {z : Zl} {w w' : World} (h : Only (fun k => inRow z.mv k) w w') : Only z.zw w w' := h.mono fun _ hi => .inl (.inl hi)
theorem ztw_f {z : Zl} {w w' : World} (h : Only (fun k => k = z.fg) w w') : Only z.zw w w' := h.mono fun _ hi => .inl (.inr (.inl hi))
theorem noPage_ways {page : Int} (hp : isPage page = false) : page < 0 ∨ (¬ page < 0 ∧ 256 ≤ page) := by
  by_cases h0 : page < 0
  · exact .inl h0
  · refine .inr ⟨h0, ?_⟩
    by_cases h1 : page < 256
    · have : isPage page = true := by simp [isPage]; omega
      rw [hp] at this
      cases this
    · omega
theorem page_nat {page : Int} (hp : isPage page = true) : ∃ j : Nat, page = (j : Int) ∧ j < 256 ∧ ¬ (j : Int) < 0 ∧ ¬ (256 : Int) ≤ (j : Int) := by
  have hpg : 0 ≤ page ∧ page < 256 := by simpa [isPage] using hp
  exact ⟨page.toNat, by omega, by omega, by omega, by omega⟩

set_option maxRecDepth 100000 in
set_option maxHeartbeats 3200000 in
theorem zdrop_out (z : Zl) (s : Ts) (page : Int) (w : World) (h : ZtAt w z s) (hp : isPage page = false) :
    Calls Tryd.prog 72 #[.pointer (some ⟨z.zb, 0, none⟩), .int .i64 page] w (ZtQ z (tDrop s page) w) := by
  have HR : Hid (tDrop s page = (s, 103)) := Lib.hid (by unfold tDrop; rw [hp, if_neg (by decide)])
  rw [HR.out]
  have HH := Lib.hid h
  have hc := noPage_ways hp
  clear h hp HR
  rcases hc with h0 | ⟨h0, h1⟩
  all_goals
    go_enter Tryd.func72, Tryd.ntmps72
    go_wp2
    go_ret
    exact ⟨rfl, HH.out, Only.refl _ _⟩

set_option maxRecDepth 100000 in
set_option maxHeartbeats 6400000 in
theorem zdrop_in (z : Zl) (s : Ts) (m : Int) (j : Nat) (w : World) (h : ZtAt w z s) (hi : TInv m s) (hm : m ≤ 1000000) (hp : isPage (j : Int) = true) (hj : j < 256) (hp0 : ¬ (j : Int) < 0) (hp1 : ¬ (256 : Int) ≤ (j : Int)) :
    Calls Tryd.prog 72 #[.pointer (some ⟨z.zb, 0, none⟩), .int .i64 (j : Int)] w (ZtQ z (tDrop s (j : Int)) w) := by
  have HEN := Lib.hid (zentry_any z s m (j : Int) w h hi)
  by_cases ht : (tEnt s (j : Int)).t = true
  · have HR : Hid (tDrop s (j : Int) = ({ s with F := tDropF s (j : Int), M := writeL s.M (tWord s j : Int) 0 }, 0)) := Lib.hid (by unfold tDrop; rw [if_pos hp, if_pos ht, Int.toNat_natCast])
    rw [HR.out]
    have HH := Lib.hid h
    have HFB := Lib.hid (frOk_b hi.fok hm)
    have HWD : Hid (∀ wx (F : List Fr), ZtAt wx z { s with F := F } → Calls Tryd.prog 97 #[.pointer (some ⟨z.zb, 0, none⟩), .int .i64 (j : Int)] wx fun y w' => y = .returned (.int .i64 ((tWord s j : Nat) : Int)) ∧ wx = w') := Lib.hid fun wx F hx => by
      obtain ⟨g, cap, hl, hg, hcell⟩ := ZAt.list hx hi.p17
      exact zword_gen z s m j wx ⟨(ZAt.cells hx).2.2.2.1, (ZAt.cells hx).2.2.2.2.2⟩ hl hg hcell hi hj
    obtain ⟨tw, htw⟩ : ∃ t, ((tWord s j : Nat) : Int) = t := ⟨_, rfl⟩
    rw [htw] at HWD ⊢
    obtain ⟨F1, hF1⟩ : ∃ F1, tDropF s (j : Int) = F1 := ⟨_, rfl⟩
    rw [hF1]
    unfold tDropF at hF1
    obtain ⟨⟨ef, et, ew, eu⟩, he⟩ : ∃ e, tEnt s (j : Int) = e := ⟨_, rfl⟩
    rw [he] at HEN ht hF1
    unfold Ent.v at HEN
    dsimp only at HEN ht hF1
    have HF1 := Lib.hid hF1
    subst ht
    clear h hi hp he hm HR hF1 htw hj
    go_enter Tryd.func72, Tryd.ntmps72
    go_wp2_with fail
    refine HEN.out.mono ?_
    rintro y w2 ⟨rfl, hb2⟩
    have HB2 := Lib.hid (hb2.alloc hb2.size (.cells #[.int .i64 ef, .bool true, .bool ew, .bool eu] 68))
    have HB2d := Lib.hid HB2.out.drew
    have HH2 := Lib.hid (ZAt.below HH.out HB2.out)
    obtain ⟨-, c1, -, -, -, ltb⟩ := HH2.out.cells
    have hnew := blk_new w2 (.cells #[.int .i64 ef, .bool true, .bool ew, .bool eu] 68)
    have ce0 := blk_cell hnew 0
    cases ew
    · have HU := Lib.hid (runuse_any s.F z.fb z.fg s.n ef _ HFB.out (ZAt.below HH.out HB2d.out).fr)
      clear hb2 hnew
      go_wp2_with fail
      go_region_with (first | (go_at_call 60; refine HU.out.mono ?_; rintro e w3 ⟨rfl, hf3, ho3⟩))
      all_goals
        have HO3 := Lib.hid ((Only.of_below HB2d.out).trans (ztw_f ho3))
        have HH3 : Hid (ZtAt w3 z { s with F := F1 }) := Lib.hid ((ZAt.below HH.out HB2d.out).fr' ho3 (by rw [← HF1.out]; exact hf3))
        obtain ⟨c0, -, -, -, -, ltb3⟩ := HH3.out.cells
        have HW := Lib.hid (fun wx (hx : Below w3.heap.size w3 wx) => mr_write s.M z.mb s.n z.mv tw 0 wx (ZAt.below HH3.out hx).mem)
        have HWX : Hid (∀ wx, Below w3.heap.size w3 wx → Calls Tryd.prog 97 #[.pointer (some ⟨z.zb, 0, none⟩), .int .i64 (j : Int)] wx fun y w' => y = .returned (.int .i64 tw) ∧ wx = w') := Lib.hid fun wx hx => HWD.out wx F1 (ZAt.below HH3.out hx)
        clear hf3 ho3 c1 ce0
        go_wp2_with fail
        go_region_with (first | (go_at_call 97; refine (HWX.out _ (by first | exact (Below.refl _ _).drew | exact Below.refl _ _)).mono ?_; rintro e wz ⟨rfl, rfl⟩) | (go_at_call 93; refine (HW.out _ (by first | exact (Below.refl _ _).drew | exact Below.refl _ _)).mono ?_; rintro e w4 ⟨rfl, hm4, ho4⟩))
        all_goals
          have HO4 : Hid (Only z.zw w w4) := Lib.hid (by first | exact HO3.out.trans ((Only.refl _ _).drew.trans (ztw_m ho4)) | exact HO3.out.trans (ztw_m ho4))
          have HH4 : Hid (ZtAt w4 z { s with F := F1, M := writeL s.M tw 0 }) := Lib.hid (by first | exact (ZAt.below HH3.out (Below.refl _ _).drew).mem' ho4 hm4 | exact ZAt.mem' HH3.out ho4 hm4)
          clear hm4 ho4
          go_wp2
          go_ret
          exact ⟨rfl, HH4.out, HO4.out⟩
    · have HU := Lib.hid (runwrite_any s.F z.fb z.fg s.n ef _ HFB.out (ZAt.below HH.out HB2d.out).fr)
      clear hb2 hnew
      go_wp2_with fail
      go_region_with (first | (go_at_call 58; refine HU.out.mono ?_; rintro e w3 ⟨rfl, hf3, ho3⟩))
      all_goals
        have HO3 := Lib.hid ((Only.of_below HB2d.out).trans (ztw_f ho3))
        have HH3 : Hid (ZtAt w3 z { s with F := F1 }) := Lib.hid ((ZAt.below HH.out HB2d.out).fr' ho3 (by rw [← HF1.out]; exact hf3))
        obtain ⟨c0, -, -, -, -, ltb3⟩ := HH3.out.cells
        have HW := Lib.hid (fun wx (hx : Below w3.heap.size w3 wx) => mr_write s.M z.mb s.n z.mv tw 0 wx (ZAt.below HH3.out hx).mem)
        have HWX : Hid (∀ wx, Below w3.heap.size w3 wx → Calls Tryd.prog 97 #[.pointer (some ⟨z.zb, 0, none⟩), .int .i64 (j : Int)] wx fun y w' => y = .returned (.int .i64 tw) ∧ wx = w') := Lib.hid fun wx hx => HWD.out wx F1 (ZAt.below HH3.out hx)
        clear hf3 ho3 c1 ce0
        go_wp2_with fail
        go_region_with (first | (go_at_call 97; refine (HWX.out _ (by first | exact (Below.refl _ _).drew | exact Below.refl _ _)).mono ?_; rintro e wz ⟨rfl, rfl⟩) | (go_at_call 93; refine (HW.out _ (by first | exact (Below.refl _ _).drew | exact Below.refl _ _)).mono ?_; rintro e w4 ⟨rfl, hm4, ho4⟩))
        all_goals
          have HO4 : Hid (Only z.zw w w4) := Lib.hid (by first | exact HO3.out.trans ((Only.refl _ _).drew.trans (ztw_m ho4)) | exact HO3.out.trans (ztw_m ho4))
          have HH4 : Hid (ZtAt w4 z { s with F := F1, M := writeL s.M tw 0 }) := Lib.hid (by first | exact (ZAt.below HH3.out (Below.refl _ _).drew).mem' ho4 hm4 | exact ZAt.mem' HH3.out ho4 hm4)
          clear hm4 ho4
          go_wp2
          go_ret
          exact ⟨rfl, HH4.out, HO4.out⟩
  · have HR : Hid (tDrop s (j : Int) = (s, 0)) := Lib.hid (by unfold tDrop; rw [if_pos hp, if_neg ht])
    rw [HR.out]
    have HH := Lib.hid h
    obtain ⟨⟨ef, et, ew, eu⟩, he⟩ : ∃ e, tEnt s (j : Int) = e := ⟨_, rfl⟩
    rw [he] at HEN ht
    unfold Ent.v at HEN
    dsimp only at HEN ht
    obtain rfl : et = false := by simpa using ht
    clear h hi hp he ht HR hj hm
    go_enter Tryd.func72, Tryd.ntmps72
    go_wp2_with fail
    refine HEN.out.mono ?_
    rintro y w2 ⟨rfl, hb2⟩
    have HB2 := Lib.hid (hb2.alloc hb2.size (.cells #[.int .i64 ef, .bool false, .bool ew, .bool eu] 68))
    clear hb2
    go_wp2
    go_ret
    exact ⟨rfl, ZAt.below HH.out HB2.out, Only.of_below HB2.out⟩
theorem zdrop_any (z : Zl) (s : Ts) (m : Int) (page : Int) (w : World) (h : ZtAt w z s) (hi : TInv m s) (hm : m ≤ 1000000) :
    Calls Tryd.prog 72 #[.pointer (some ⟨z.zb, 0, none⟩), .int .i64 page] w (ZtQ z (tDrop s page) w) := by
  cases hp : isPage page with
  | false => exact zdrop_out z s page w h hp
  | true =>
    obtain ⟨j, rfl, h1, h2, h3⟩ := page_nat hp
    exact zdrop_in z s m j w h hi hm hp h1 h2 h3
end Go.Proofs.YtaoaachgnnengaaDoor

/-
  Tables: frames of which none is taken; where all that tables hold lies.
-/
namespace Go.Proofs.YtaoaachgnnengaaDoor
open Go.RowKit

theorem frU_new (n : Nat) (who : Int) : frU n 0 0 who = List.replicate n frNo := by
  apply fr_ext
  · rw [frU_len, List.length_replicate]
  · intro i hi
    rw [frU_len] at hi
    rw [frU_get n 0 0 i who hi, if_neg (by omega), if_neg (by omega), List.getD_eq_getElem?_getD, List.getElem?_replicate, if_pos hi]
    rfl
theorem PtAt.lt {w : World} {p : Pl} {s : Ts} (h : PtAt w p s) : ∀ k, (p.z0 k ∨ p.z1 k ∨ p.z2 k ∨ p.z3 k) → k < w.heap.size := fun k hk => by
  rcases hk with (rfl | rfl | rfl | hk) | hk | hk | (rfl | hk)
  · exact blk_lt h.row
  · exact blk_lt h.mem.1
  · exact h.fr.lt.1
  · exact own_lt h.tl hk
  · exact own_lt h.mem.2.1 hk
  · rw [show k = p.fg from hk]; exact h.fr.lt.2
  · exact blk_lt h.pm.1
  · exact own_lt h.pm.2 hk
end Go.Proofs.YtaoaachgnnengaaDoor

