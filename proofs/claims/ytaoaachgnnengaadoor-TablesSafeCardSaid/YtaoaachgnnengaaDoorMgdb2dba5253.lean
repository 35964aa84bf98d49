/-
  Parts of one proof, one behind the other.
-/
import Derived.Test.YtaoaachgnnengaaDoorMg028761efda
import Derived.Test.YtaoaachgnnengaaDoorMg171693961a
import Derived.Laws.CopyRow
import Derived.Laws.CopyOwn
import Derived.Test.YtaoaachgnnengaaDoorMg0dbf8be0e0
/-
  slices.Repeat at frames.Frame, of one frame; frames.New.
-/
namespace Go.Proofs.YtaoaachgnnengaaDoor
open Go.RowKit

theorem infoFr : (Tryd.prog.info? 33).map (fun i => (i.zero, i.size, i.bytes)) = some (some (.agg #[.int .i64 0, .int .i64 0, .int .i64 0, .int .i64 0]), 4, 32) := by kernel_rfl
theorem infoFrS : (Tryd.prog.info? 33).map (·.size) = some 4 := by kernel_rfl
/-- copy of elements of so many cells -/
theorem run_copy_rows {P : Program} (w : World) (dT sT ty elem : TypeId) (g o dLen dCap sz : Nat) (a : Addr) (sLen sCap : Nat) (cur : Array Value) (t : TypeId) (cs : List Value)
    (hu : P.underlying dT = some (.slice elem)) (hs : (P.info? elem).map (·.size) = some sz)
    (hg : w.heap[g]? = some (.cells cur t (0, 0))) (hn : cs.length = Nat.min sLen dLen * sz)
    (hsrc : ∀ j v, cs[j]? = some v → w.cell? (a.add j) = some v) (hfit : o + cs.length ≤ cur.size) (h1 : ∀ v ∈ cs, v.oneCell' = true) :
    (Builtin.copy_ #[dT, sT] ty #[.slice (some ⟨g, o, none⟩) dLen dCap, .slice (some a) sLen sCap]).run P w =
      .ok (goInt (Nat.min sLen dLen)) (w.setRow g (cur.toList.take o ++ cs ++ cur.toList.drop (o + cs.length)).toArray) := by
  have hl := run_loadCells_list (P := P) w a cs hsrc
  have hst := run_storeCells_at P g o t cs 0 cur w hg (by simpa using hfit) h1
  cases hq : P.info? elem with
  | none => simp [hq] at hs
  | some i =>
    have hi : i.size = sz := by simpa [hq] using hs
    simp [Builtin.copy_, run_underlying hu, Builtin.lenOf, Builtin.firstCells, sizeOf, typeInfo, hq, hi, ← hn, hl, hst]
def frZ : Fr := ⟨0, 0, 0, 0⟩
theorem frOne_cell (x : Fr) : ∀ u ∈ frOne x, u.oneCell' = true := by
  intro u hu
  simp only [frOne, List.mem_cons, List.not_mem_nil, or_false] at hu
  rcases hu with rfl | rfl | rfl | rfl <;> rfl
theorem frCells_cell (l : List Fr) : ∀ u ∈ frCells l, u.oneCell' = true := by
  intro u hu
  unfold frCells at hu
  rw [List.mem_flatMap] at hu
  obtain ⟨x, -, hx⟩ := hu
  exact frOne_cell x u hx
theorem frCells_len (l : List Fr) : (frCells l).length = l.length * 4 := rec_len frOne 4 frOne_len l
theorem made_fr (w : World) (n : Nat) (h : n ≤ 1024) : (Instr.makeSlice 92 (.int .i64 (n : Int)) (.int .i64 (n : Int))).run Tryd.prog w = .ok (.slice (some ⟨w.heap.size, 0, none⟩) n n) (w.alloc (.cells (frCells (List.replicate n frZ)).toArray 33)) := by
  obtain ⟨i, hi, hz0, hz1, hz2⟩ := info_parts infoFr
  have e := run_make (P := Tryd.prog) w 92 33 i (.agg #[.int .i64 0, .int .i64 0, .int .i64 0, .int .i64 0]) Tryd.underlying92 hi hz0 .i64 .i64 n n (by omega) (by omega) (by rw [hz2]; omega) (by omega)
  rw [e, hz1, Int.toNat_natCast]
  have : madeCells (Value.agg #[.int .i64 0, .int .i64 0, .int .i64 0, .int .i64 0]).cells (n * 4) = (frCells (List.replicate n frZ)).toArray := by
    rw [show (Value.agg #[.int .i64 0, .int .i64 0, .int .i64 0, .int .i64 0]).cells = #[Value.int IntKind.i64 0, .int .i64 0, .int .i64 0, .int .i64 0] from rfl]
    apply Array.toList_inj.1
    apply List.ext_getElem?
    intro j
    have hz : ∀ k, k < 4 → (#[Value.int IntKind.i64 0, .int .i64 0, .int .i64 0, .int .i64 0] : Array Value)[k]? = some (.int .i64 0) := fun k hk => by
      match k, hk with
      | 0, _ => rfl
      | 1, _ => rfl
      | 2, _ => rfl
      | 3, _ => rfl
    have hc : ∀ m, frCells (List.replicate m frZ) = List.replicate (m * 4) (.int .i64 0) := fun m => by
      induction m with
      | zero => rfl
      | succ m ih =>
        unfold frCells at ih ⊢
        rw [List.replicate_succ, List.flatMap_cons, ih, Nat.succ_mul, Nat.add_comm, ← List.replicate_append_replicate]
        rfl
    rw [hc]
    by_cases hj : j < n * 4
    · simp [madeCells, hj]
      have := hz (j % 4) (Nat.mod_lt _ (by decide))
      rw [List.getElem?_toArray] at this
      rw [this]
      rfl
    · simp [madeCells, hj]
  rw [this]

/-- the first k frames are nobody's, the others nothing -/
def repL (n k : Nat) : List Fr := List.replicate k frNo ++ List.replicate (n - k) frZ
theorem repL_len (n k : Nat) (h : k ≤ n) : (repL n k).length = n := by simp [repL]; omega
theorem repL_splice (n k m : Nat) (h : k + m ≤ n) : (frCells (repL n k)).toArray.toList.take (k * 4) ++ frCells (List.replicate m frNo) ++ (frCells (repL n k)).toArray.toList.drop (k * 4 + (frCells (List.replicate m frNo)).length) = frCells (repL n (k + m)) := by
  rw [frCells_len, List.length_replicate]
  have h1 : (frCells (repL n k)).take (k * 4) = frCells (List.replicate k frNo) := by
    unfold repL frCells
    rw [List.flatMap_append, List.take_append_of_le_length (by rw [rec_len frOne 4 frOne_len, List.length_replicate]; exact Nat.le_refl _), List.take_of_length_le (by rw [rec_len frOne 4 frOne_len, List.length_replicate]; exact Nat.le_refl _)]
  have hd : ∀ (L : List Fr) (q : Nat), (frCells L).drop (q * 4) = frCells (L.drop q) := fun L q => by
    have := rec_part frOne 4 frOne_len L q L.length
    unfold frCells
    rw [List.take_of_length_le (by rw [List.length_drop, rec_len frOne 4 frOne_len]; omega), List.take_of_length_le (by rw [List.length_drop]; omega)] at this
    exact this
  have h2 : (frCells (repL n k)).drop (k * 4 + m * 4) = frCells (List.replicate (n - (k + m)) frZ) := by
    rw [show k * 4 + m * 4 = (k + m) * 4 by omega, hd]
    unfold repL
    rw [List.drop_append, List.drop_of_length_le (by rw [List.length_replicate]; omega), List.length_replicate, List.nil_append, List.drop_replicate]
    congr 2
    omega
  show (frCells (repL n k)).take (k * 4) ++ _ ++ (frCells (repL n k)).drop (k * 4 + m * 4) = _
  rw [h1, h2]
  unfold repL frCells
  rw [← List.flatMap_append, ← List.flatMap_append, ← List.replicate_append_replicate, List.append_assoc]
theorem repL_get (n k : Nat) (j : Nat) (u : Value) (h : (frCells (List.replicate k frNo))[j]? = some u) : (frCells (repL n k))[j]? = some u := by
  unfold repL frCells at *
  rw [List.flatMap_append, List.getElem?_append_left (List.getElem?_eq_some_iff.1 h).1]
  exact h
def RepTo (n g : Nat) (w0 : World) (i : Value) (wr : World) : Prop :=
  ∃ k : Nat, 1 ≤ k ∧ k ≤ n ∧ i = .int .i64 (k : Int) ∧ RecAt frOne 33 wr g (repL n k) ∧ Below g w0 wr

set_option maxRecDepth 100000 in
set_option maxHeartbeats 4000000 in
theorem repeat_one (xb n : Nat) (w : World) (hn1 : 1 ≤ n) (hn : n ≤ 1024) (hx : RecAt frOne 33 w xb [frNo]) :
    Calls Tryd.prog 47 #[.slice (some ⟨xb, 0, none⟩) 1 1, .int .i64 (n : Int)] w fun e w' => ∃ g, e = .returned (.slice (some ⟨g, 0, none⟩) n n) ∧ RecAt frOne 33 w' g (List.replicate n frNo) ∧ w.heap.size ≤ g ∧ Below w.heap.size w w' := by
  have HMUL := Lib.hid (mul_any 1 n (by omega) (by omega))
  have e1 : 1 * n / 18446744073709551616 = 0 := by omega
  have e2 : 1 * n % 18446744073709551616 = n := by omega
  rw [e1, e2] at HMUL
  have hmk := made_fr w n hn
  have hw1 := IntWalk.u64_in (n : Int) (by omega)
  have hw2 := IntWalk.i64_in (n : Int) (by omega)
  have hn0 : ¬ (n : Int) < 0 := by omega
  have hnb : ¬ (9223372036854775807 : Int) < (n : Int) := by omega
  clear e1 e2
  go_enter Tryd.func47, Tryd.ntmps47
  go_wp2_with fail
  refine (HMUL.out _).mono ?_
  rintro e w1 ⟨rfl, rfl⟩
  go_wp2_with fail
  have HCP : Hid ((Builtin.copy_ #[92, 92] 3 #[.slice (some ⟨w1.heap.size, 0, none⟩) n n, .slice (some ⟨xb, 0, none⟩) 1 1]).run Tryd.prog (w1.alloc (.cells (frCells (List.replicate n frZ)).toArray 33)) =
      .ok (.int .i64 1) ((w1.alloc (.cells (frCells (List.replicate n frZ)).toArray 33)).setRow w1.heap.size (frCells (repL n 1)).toArray)) := Lib.hid (by
    have hmin : Nat.min 1 n = 1 := Nat.min_eq_left hn1
    have hxa := blk_old hx (.cells (frCells (List.replicate n frZ)).toArray 33)
    have e := run_copy_rows (P := Tryd.prog) (w1.alloc (.cells (frCells (List.replicate n frZ)).toArray 33)) 92 92 3 33 w1.heap.size 0 n n 4 ⟨xb, 0, none⟩ 1 1 (frCells (List.replicate n frZ)).toArray 33 (frCells (List.replicate 1 frNo))
      Tryd.underlying92 infoFrS (blk_new _ _) (by rw [frCells_len, hmin]; rfl) (fun j v hj => by rw [Addr.add_lit, blk_cell hxa, Nat.zero_add, List.getElem?_toArray]; exact hj)
      (by rw [frCells_len, List.size_toArray, frCells_len, List.length_replicate, List.length_replicate]; omega) (frCells_cell _)
    have hs := repL_splice n 0 1 (by omega)
    rw [show repL n 0 = List.replicate n frZ from by simp [repL]] at hs
    rw [Nat.zero_mul, Nat.zero_add] at hs
    rw [Nat.zero_add] at e
    rw [hs, hmin] at e
    exact e)
  have HROW : Hid (RecAt frOne 33 ((w1.alloc (.cells (frCells (List.replicate n frZ)).toArray 33)).setRow w1.heap.size (frCells (repL n 1)).toArray) w1.heap.size (repL n 1)) := Lib.hid (setRow_heap _ _ _ _ _ _ (blk_new _ _))
  have HBEL : Hid (Below w1.heap.size w1 ((w1.alloc (.cells (frCells (List.replicate n frZ)).toArray 33)).setRow w1.heap.size (frCells (repL n 1)).toArray)) := Lib.hid (below_setRow ((Below.refl _ _).alloc (Nat.le_refl _) _) (Nat.le_refl _) _)
  rw [HCP.out]
  generalize (w1.alloc (.cells (frCells (List.replicate n frZ)).toArray 33)).setRow w1.heap.size (frCells (repL n 1)).toArray = w2 at HROW HBEL ⊢
  have HLT : Hid (w1.heap.size < w2.heap.size) := Lib.hid (blk_lt HROW.out)
  obtain ⟨g, hg⟩ : ∃ g, w1.heap.size = g := ⟨_, rfl⟩
  have HG := Lib.hid hg
  rw [hg] at HROW HBEL HLT ⊢
  have HST : Hid (RepTo n g w2 (.int .i64 1) w2) := Lib.hid ⟨1, Nat.le_refl _, hn1, rfl, HROW.out, Below.refl _ _⟩
  clear hmk HMUL HCP hg
  go_wp2_with fail
  go_loopw [8] (fun i wr => RepTo n g w2 i wr) (fun i _ => n - (intOf i).toNat)
  case atStart => exact HST.out
  case round =>
    obtain ⟨k, hk1, hkn, rfl, hrow, hb⟩ := hrel
    have HR := Lib.hid hrow
    have HB := Lib.hid hb
    clear hrow hb HST
    by_cases hlt : k < n
    · have hki : (k : Int) < (n : Int) := by omega
      have hk0 : (0 : Int) ≤ (k : Int) := by omega
      obtain ⟨m, hm⟩ : ∃ m, Nat.min k (n - k) = m := ⟨_, rfl⟩
      have hmk : k + m ≤ n ∧ 1 ≤ m ∧ m ≤ k ∧ m ≤ n - k := by
        have h1 := Nat.min_le_left k (n - k)
        have h2 := Nat.min_le_right k (n - k)
        have h3 : 1 ≤ Nat.min k (n - k) := Nat.le_min.2 ⟨hk1, by omega⟩
        have hm' : min k (n - k) = m := hm
        have h3' : 1 ≤ min k (n - k) := h3
        omega
      have HCPY : Hid (∀ W, W.heap[g]? = wr.heap[g]? → (Builtin.copy_ #[92, 92] 3 #[.slice (some ⟨g, k * 4, none⟩) (n - k) (n - k), .slice (some ⟨g, 0, none⟩) k n]).run Tryd.prog W = .ok (.int .i64 (m : Int)) (W.setRow g (frCells (repL n (k + m))).toArray)) := Lib.hid fun W hW => by
        have hx' : W.heap[g]? = some (.cells (frCells (repL n k)).toArray 33 (0, 0)) := hW.trans HR.out
        have e := run_copy_rows (P := Tryd.prog) W 92 92 3 33 g (k * 4) (n - k) (n - k) 4 ⟨g, 0, none⟩ k n (frCells (repL n k)).toArray 33 (frCells (List.replicate m frNo))
          Tryd.underlying92 infoFrS hx' (by rw [frCells_len, List.length_replicate, hm]) (fun j v hj => by
            rw [Addr.add_lit, blk_cell hx', Nat.zero_add, List.getElem?_toArray]
            refine repL_get n k j v ?_
            have hjl := (List.getElem?_eq_some_iff.1 hj).1
            rw [show k = m + (k - m) by omega, ← List.replicate_append_replicate]
            rw [show frCells (List.replicate m frNo ++ List.replicate (k - m) frNo) = frCells (List.replicate m frNo) ++ frCells (List.replicate (k - m) frNo) from List.flatMap_append, List.getElem?_append_left hjl]
            exact hj)
          (by rw [frCells_len, List.size_toArray, frCells_len, repL_len n k hkn, List.length_replicate]; omega) (frCells_cell _)
        rw [repL_splice n k m hmk.1, hm] at e
        exact e
      have hcp1 := HCPY.out wr rfl
      have hcp2 := HCPY.out wr.drew rfl
      have HN : Hid (∀ W : World, W.heap[g]? = wr.heap[g]? → RecAt frOne 33 (W.setRow g (frCells (repL n (k + m))).toArray) g (repL n (k + m))) := Lib.hid fun W hW => setRow_heap _ _ _ _ _ _ (hW.trans HR.out)
      have hadd := IntWalk.i64_in ((k : Int) + (m : Int)) (by omega)
      go_wp2_with fail
      go_region
      all_goals
        go_wp2
        go_roundw
        case rel => exact ⟨k + m, by omega, hmk.1, by go_num, HN.out _ rfl, below_setRow HB.out.drew (Nat.le_refl _) _⟩
        case measure => simp [intOf]; omega
    · obtain rfl : k = n := by omega
      go_wp2
      go_ret
      refine ⟨g, rfl, ?_, by rw [HG.out]; exact Nat.le_refl _, by rw [HG.out]; exact HBEL.out.trans HB.out⟩
      have := HR.out
      rw [show repL k k = List.replicate k frNo from by simp [repL]] at this
      exact this

set_option maxRecDepth 100000 in
set_option maxHeartbeats 1600000 in
theorem fnew_bad (E : Nat → Addr) (n : Int) (w : World) (hE : ErrsAt errT gOf w E all16) (h : n < 1 ∨ 1024 < n) :
    Calls Tryd.prog 13 #[.int .i64 n] w fun e w' => e = .returned (.tuple #[.pointer none, errV (E 2)]) ∧ Below w.heap.size w w' := by
  have e2 : w.cell? ⟨0, 0, none⟩ = some (errV (E 2)) := (hE.1 2 (by decide)).1
  have hc : n < 1 ∨ (¬ n < 1 ∧ 1024 < n) := by omega
  clear hE h
  rcases hc with hc | ⟨hc, hd⟩
  all_goals
    go_enter Tryd.func13, Tryd.ntmps13
    go_wp2_with fail
    go_quiet (fail)
    go_wp2
    go_ret2
    exact ⟨rfl, below_drewN (Below.refl _ _) _⟩
set_option maxRecDepth 100000 in
set_option maxHeartbeats 1600000 in
theorem fnew_ok (n : Nat) (w : World) (hn1 : 1 ≤ n) (hn : n ≤ 1024) :
    Calls Tryd.prog 13 #[.int .i64 (n : Int)] w fun e w' => ∃ b g, e = .returned (.tuple #[.pointer (some ⟨b, 0, none⟩), .nilIface]) ∧ FrAt 95 33 w' b g n (List.replicate n frNo) ∧ w.heap.size ≤ b ∧ w.heap.size ≤ g ∧ Below w.heap.size w w' := by
  have HB1 : Hid (Below w.heap.size w (w.alloc (.cells #[.int .i64 (-1), .int .i64 0, .int .i64 0, .int .i64 0] 33))) := Lib.hid ((Below.refl _ _).alloc (Nat.le_refl _) _)
  have HR := Lib.hid (repeat_one w.heap.size n (w.alloc (.cells #[.int .i64 (-1), .int .i64 0, .int .i64 0, .int .i64 0] 33)) hn1 hn (blk_new w _))
  have h1 : ¬ (n : Int) < 1 := by omega
  have h2 : ¬ (1024 : Int) < (n : Int) := by omega
  have HN := Lib.hid (And.intro hn1 hn)
  clear hn1 hn
  go_enter Tryd.func13, Tryd.ntmps13
  go_wp2_with fail
  refine HR.out.mono ?_
  rintro e w1 ⟨g, rfl, hrow, hg, hb1⟩
  have HB := Lib.hid (HB1.out.trans (hb1.mono HB1.out.size))
  have HROW := Lib.hid hrow
  have HG : Hid (w.heap.size ≤ g) := Lib.hid (by simp at hg; omega)
  have HGL := Lib.hid (blk_lt hrow)
  clear hrow hg hb1
  go_wp2
  go_ret2
  refine ⟨w1.heap.size, g, rfl, ⟨?_, blk_old HROW.out _, by have := HGL.out; omega, by rw [List.length_replicate]; exact Nat.le_refl _, by have := HN.out; omega⟩, HB.out.size, HG.out, HB.out.alloc HB.out.size _⟩
  rw [List.length_replicate]
  exact blk_new _ _
end Go.Proofs.YtaoaachgnnengaaDoor

/-
  Tables of nothing, while they are made: plain laws.
-/
namespace Go.Proofs.YtaoaachgnnengaaDoor
open Go.RowKit

/-- frames: o of another one's, k of whose tables are made -/
def frU (n o k : Nat) (who : Int) : List Fr := (List.range n).map fun i => if i < o then ⟨3, 0, 0, 0⟩ else if i < o + k then ⟨who, 0, 0, 0⟩ else frNo
/-- the same, k of 17 tables made -/
def frM (n o k : Nat) (who : Int) : List Fr := (List.range n).map fun i => if i < o then ⟨3, 0, 0, 0⟩ else if i < o + 17 then (if i < o + k then ⟨who, if i = o then 1 else 2, 0, 1⟩ else ⟨who, 0, 0, 0⟩) else frNo
def rngF (o k : Nat) : List Int := (List.range k).map fun i => ((o + i : Nat) : Int)
theorem frU_len (n o k : Nat) (who : Int) : (frU n o k who).length = n := by simp [frU]
theorem frM_len (n o k : Nat) (who : Int) : (frM n o k who).length = n := by simp [frM]
theorem frU_get (n o k i : Nat) (who : Int) (h : i < n) : (frU n o k who).getD i default = if i < o then ⟨3, 0, 0, 0⟩ else if i < o + k then ⟨who, 0, 0, 0⟩ else frNo := by simp [frU, h]
theorem frM_get (n o k i : Nat) (who : Int) (h : i < n) : (frM n o k who).getD i default = if i < o then ⟨3, 0, 0, 0⟩ else if i < o + 17 then (if i < o + k then ⟨who, if i = o then 1 else 2, 0, 1⟩ else ⟨who, 0, 0, 0⟩) else frNo := by simp [frM, h]
theorem fr_ext {xs ys : List Fr} (hl : xs.length = ys.length) (h : ∀ i, i < xs.length → xs.getD i default = ys.getD i default) : xs = ys := by
  apply List.ext_getElem hl
  intro i h1 h2
  have := h i h1
  rw [List.getD_eq_getElem?_getD, List.getD_eq_getElem?_getD, List.getElem?_eq_getElem h1, List.getElem?_eq_getElem h2] at this
  exact this
theorem fr_setD (l : List Fr) (a i : Nat) (x : Fr) (ha : a < l.length) : (l.set a x).getD i default = if i = a then x else l.getD i default := by
  rw [List.getD_eq_getElem?_getD, List.getElem?_set]
  by_cases h : a = i
  · subst h
    simp [ha]
  · rw [if_neg h, if_neg (fun e => h e.symm), ← List.getD_eq_getElem?_getD]
theorem rngF_len (o k : Nat) : (rngF o k).length = k := by simp [rngF]
theorem rngF_get (o k i : Nat) (h : i < k) : (rngF o k).getD i 0 = ((o + i : Nat) : Int) := by simp [rngF, h]
theorem rngF_succ (o k : Nat) : rngF o (k + 1) = rngF o k ++ [((o + k : Nat) : Int)] := by simp [rngF, List.range_succ]
theorem rngF_mem (o k : Nat) (x : Int) (h : x ∈ rngF o k) : ∃ i, i < k ∧ x = ((o + i : Nat) : Int) := by
  unfold rngF at h
  obtain ⟨i, hi, rfl⟩ := List.mem_map.1 h
  exact ⟨i, List.mem_range.1 hi, rfl⟩
theorem frOwns_ne {who : Int} (h : frOwns who) : who ≠ -1 := by unfold frOwns at h; omega
theorem frU_alloc (n o k : Nat) (who : Int) (hw : frOwns who) (hk : o + k < n) : frAlloc (frU n o k who) who = ⟨frU n o (k + 1) who, ((o + k : Nat) : Int), 0⟩ := by
  have hf : frFree (frU n o k who) = some (o + k) := frFree_is (by rw [frU_len]; exact hk) (by rw [frU_get n o k _ who hk, if_neg (by omega), if_neg (by omega)]; rfl) fun i hi => by
    rw [frU_get n o k i who (by omega)]
    split
    · decide
    · first | exact frOwns_ne hw | (rw [if_pos (by omega)]; exact frOwns_ne hw)
  unfold frAlloc
  rw [if_pos hw, hf]
  dsimp only
  congr 1
  apply fr_ext
  · rw [List.length_set, frU_len, frU_len]
  · intro i hi
    rw [List.length_set, frU_len] at hi
    rw [fr_setD _ _ _ _ (by rw [frU_len]; exact hk), frU_get n o (k + 1) i who hi]
    by_cases h : i = o + k
    · subst h
      rw [if_pos rfl, if_neg (by omega), if_pos (by omega), frU_get n o k _ who hk, if_neg (by omega), if_neg (by omega)]
      rfl
    · rw [if_neg h, frU_get n o k i who hi]
      by_cases h1 : i < o
      · rw [if_pos h1, if_pos h1]
      · rw [if_neg h1, if_neg h1]
        by_cases h2 : i < o + k
        · rw [if_pos h2, if_pos (by omega)]
        · rw [if_neg h2, if_neg (by omega)]
theorem frM_zero (n o : Nat) (who : Int) : frM n o 0 who = frU n o 17 who := by
  apply fr_ext
  · rw [frM_len, frU_len]
  · intro i hi
    rw [frM_len] at hi
    rw [frM_get n o 0 i who hi, frU_get n o 17 i who hi]
    split
    · rfl
    · split
      · rw [if_neg (by omega)]
      · rfl
theorem frM_at (n o k : Nat) (who : Int) (hw : frOwns who) (hn : o + 17 ≤ n) (hk : k < 17) : frAt (frM n o k who) ((o + k : Nat) : Int) = some (o + k) := by
  unfold frAt
  rw [if_pos ⟨by omega, by rw [frM_len]; omega, by
    rw [Int.toNat_natCast, frM_get n o k _ who (by omega), if_neg (by omega), if_pos (by omega), if_neg (by omega)]
    exact frOwns_ne hw⟩, Int.toNat_natCast]
/-- a table's frame is made one -/
theorem frM_make (n o k : Nat) (who : Int) (hw : frOwns who) (hn : o + 17 ≤ n) (hk : k < 17) : frMine (frM n o k who) ((o + k : Nat) : Int) who (kMake (if k = 0 then 1 else 2)) = ⟨(frM n o k who).set (o + k) ⟨who, if k = 0 then 1 else 2, 0, 0⟩, 0, 0⟩ := by
  unfold frMine
  rw [frM_at n o k who hw hn hk]
  dsimp only
  have hg : (frM n o k who).getD (o + k) default = ⟨who, 0, 0, 0⟩ := by rw [frM_get n o k _ who (by omega), if_neg (by omega), if_pos (by omega), if_neg (by omega)]
  rw [hg, if_pos rfl]
  rfl
/-- it is used -/
theorem frM_use (n o k : Nat) (who : Int) (hw : frOwns who) (hn : o + 17 ≤ n) (hk : k < 17) : frThere ((frM n o k who).set (o + k) ⟨who, if k = 0 then 1 else 2, 0, 0⟩) ((o + k : Nat) : Int) kUse = ⟨frM n o (k + 1) who, 0, 0⟩ := by
  obtain ⟨kd, hkd⟩ : ∃ kd : Int, (if k = 0 then 1 else 2) = kd := ⟨_, rfl⟩
  have hk2 : (if o + k = o then (1 : Int) else 2) = kd := by
    rw [← hkd]
    by_cases h0 : k = 0
    · rw [if_pos (show o + k = o by omega), if_pos h0]
    · rw [if_neg (show ¬ o + k = o by omega), if_neg h0]
  rw [hkd]
  have hl : o + k < (frM n o k who).length := by rw [frM_len]; omega
  have hg : ((frM n o k who).set (o + k) ⟨who, kd, 0, 0⟩).getD (o + k) default = ⟨who, kd, 0, 0⟩ := by rw [fr_setD _ _ _ _ hl, if_pos rfl]
  have hat : frAt ((frM n o k who).set (o + k) ⟨who, kd, 0, 0⟩) ((o + k : Nat) : Int) = some (o + k) := by
    unfold frAt
    rw [if_pos ⟨by omega, by rw [List.length_set]; omega, by rw [Int.toNat_natCast, hg]; exact frOwns_ne hw⟩, Int.toNat_natCast]
  unfold frThere
  rw [hat]
  dsimp only
  rw [hg]
  unfold kUse
  dsimp only
  congr 1
  rw [List.set_set]
  apply fr_ext
  · rw [List.length_set, frM_len, frM_len]
  · intro i hi
    rw [List.length_set, frM_len] at hi
    rw [fr_setD _ _ _ _ hl, frM_get n o (k + 1) i who hi]
    by_cases h : i = o + k
    · subst h
      rw [if_pos rfl, if_neg (show ¬ o + k < o by omega), if_pos (show o + k < o + 17 by omega), if_pos (show o + k < o + (k + 1) by omega), hk2]
      rfl
    · rw [if_neg h, frM_get n o k i who hi]
      by_cases h1 : i < o
      · rw [if_pos h1, if_pos h1]
      · rw [if_neg h1, if_neg h1]
        by_cases h2 : i < o + 17
        · rw [if_pos h2, if_pos h2]
          by_cases h3 : i < o + k
          · rw [if_pos h3, if_pos (show i < o + (k + 1) by omega)]
          · rw [if_neg h3, if_neg (show ¬ i < o + (k + 1) by omega)]
        · rw [if_neg h2, if_neg h2]
/-- memory, as many tables made -/
def tM (M : List Int) (o : Nat) : Nat → List Int
  | 0 => M
  | k + 1 => if k = 0 then fillL (tM M o k) (o + k) [] else putE (fillL (tM M o k) (o + k) []) (o : Int) ((k : Int) - 1) ⟨((o + k : Nat) : Int), true, true, true⟩
theorem putE_ok (l : List Int) (f i : Int) (g : Nat) (h : g < 1024) : putE l f i ⟨(g : Int), true, true, true⟩ = writeL l (f * 16 + i) (entW (g : Int) true true true) := by
  unfold putE bitsA
  have hok : entOkB (g : Int) true true true = true := (entOkB_iff _ _ _ _).2 ⟨by omega, by omega, fun h => by cases h⟩
  rw [if_pos hok]
  rfl
theorem wlen (l : List Int) (i x : Int) : (writeL l i x).length = l.length := by
  unfold writeL
  split
  · simp
  · rfl
theorem tM_len (M : List Int) (o : Nat) : ∀ k, k ≤ 17 → o + k ≤ 1024 → (tM M o k).length = M.length
  | 0, _, _ => rfl
  | k + 1, hk, ho => by
    unfold tM
    split
    · rw [fillL_len, tM_len M o k (by omega) (by omega)]
    · rw [putE_ok _ _ _ _ (by omega), wlen, fillL_len, tM_len M o k (by omega) (by omega)]
theorem tM_get (M : List Int) (n o j : Nat) (hM : M.length = 16 * n) (hn : n ≤ 1024) : ∀ k, k ≤ 17 → o + k ≤ n → (tM M o k).getD j 0 = if 16 * o ≤ j ∧ j + 1 < 16 * o + k then entW ((o + 1 + (j - 16 * o) : Nat) : Int) true true true else if 16 * o ≤ j ∧ j < 16 * (o + k) then 0 else M.getD j 0
  | 0, _, _ => by
    rw [if_neg (by omega), if_neg (by omega)]
    rfl
  | k + 1, hk, hok => by
    have ih := tM_get M n o j hM hn k (by omega) (by omega)
    have hlen := tM_len M o k (by omega) (by omega)
    have hf : (fillL (tM M o k) (o + k) []).getD j 0 = if 16 * (o + k) ≤ j ∧ j < 16 * (o + k) + 16 then 0 else (tM M o k).getD j 0 := by
      rw [fillL_get _ n (o + k) [] j (by rw [hlen, hM]) (by omega) (by decide)]
      split
      · simp
      · rfl
    unfold tM
    by_cases h0 : k = 0
    · rw [if_pos h0, hf]
      subst h0
      rw [ih]
      by_cases h1 : 16 * o ≤ j ∧ j < 16 * o + 16
      · rw [if_pos (by omega), if_neg (by omega), if_pos (by omega)]
      · rw [if_neg (by omega), if_neg (by omega), if_neg (by omega), if_neg (by omega), if_neg (by omega)]
    · rw [if_neg h0, putE_ok _ _ _ _ (by omega), show (o : Int) * 16 + ((k : Int) - 1) = ((16 * o + (k - 1) : Nat) : Int) by omega]
      unfold writeL
      rw [if_pos (by rw [fillL_len, hlen, hM]; omega), Int.toNat_natCast, setD_get _ _ _ _ (by rw [fillL_len, hlen, hM]; omega), hf]
      by_cases h1 : j = 16 * o + (k - 1)
      · rw [if_pos h1, if_pos (by omega), show o + 1 + (j - 16 * o) = o + k by omega]
      · rw [if_neg h1, ih]
        by_cases h2 : 16 * (o + k) ≤ j ∧ j < 16 * (o + k) + 16
        · rw [if_pos h2, if_neg (by omega), if_pos (by omega)]
        · rw [if_neg h2]
          by_cases h3 : 16 * o ≤ j ∧ j + 1 < 16 * o + k
          · rw [if_pos h3, if_pos (show 16 * o ≤ j ∧ j + 1 < 16 * o + (k + 1) by omega)]
          · rw [if_neg h3, if_neg (show ¬ (16 * o ≤ j ∧ j + 1 < 16 * o + (k + 1)) by omega)]
            by_cases h4 : 16 * o ≤ j ∧ j < 16 * (o + k)
            · rw [if_pos h4, if_pos (show 16 * o ≤ j ∧ j < 16 * (o + (k + 1)) by omega)]
            · rw [if_neg h4, if_neg (show ¬ (16 * o ≤ j ∧ j < 16 * (o + (k + 1))) by omega)]
/-- tables of nothing -/
def tNew (n o : Nat) (who : Int) : Ts := ⟨n, tM (List.replicate (16 * n) 0) o 17, frM n o 17 who, rngF o 17, who⟩
set_option maxRecDepth 100000 in
theorem tNew_inv (n o : Nat) (who : Int) (hw : frOwns who) (hn : o + 17 ≤ n) (hn2 : n ≤ 1024) : TInv 1 (tNew n o who) := by
  have hM : (List.replicate (16 * n) (0 : Int)).length = 16 * n := List.length_replicate
  refine ⟨hn2, ?_, frM_len _ _ _ _, fun j => ?_, fun x hx => ?_, by show 17 ≤ (rngF o 17).length; rw [rngF_len]; exact Nat.le_refl _, by show (rngF o 17).length ≤ 512; rw [rngF_len]; decide, fun i hi => ?_, fun i j hi hj e => ?_, fun k hk => ?_⟩
  · exact (tM_len _ o 17 (by omega) (by omega)).trans hM
  · show W32 ((tM (List.replicate (16 * n) 0) o 17).getD j 0)
    rw [tM_get _ n o j hM hn2 17 (by omega) hn]
    split
    · have hok : entOk ((o + 1 + (j - 16 * o) : Nat) : Int) true true true := ⟨by omega, by omega, fun h => by cases h⟩
      exact ⟨(entW_range hok).1, by have := (entW_range hok).2; omega⟩
    · split
      · exact w32_zero
      · rw [repD_get]; exact w32_zero
  · have hx' : x ∈ frM n o 17 who := hx
    obtain ⟨i, hi, rfl⟩ := List.mem_map.1 hx'
    have hne := frOwns_ne hw
    unfold frIn
    split
    · exact ⟨fun h => (by cases h), by decide, by decide, by decide, by decide, fun _ => rfl⟩
    · split
      · split
        all_goals
          first
          | exact ⟨fun h => absurd h hne, by show (0 : Int) ≤ 0; decide, by show (0 : Int) ≤ 1; decide, by show (0 : Int) ≤ 1; decide, by show (1 : Int) ≤ 1; decide, fun _ => rfl⟩
          | exact ⟨fun h => absurd h hne, by show (0 : Int) ≤ 0; decide, by show (0 : Int) ≤ 1; decide, by show (0 : Int) ≤ 0; decide, by show (0 : Int) ≤ 1; decide, fun _ => rfl⟩
      · exact ⟨fun _ => rfl, by decide, by decide, by decide, by decide, fun _ => rfl⟩
  · have hi' : i < 17 := by have := hi; rw [show (tNew n o who).P = rngF o 17 from rfl, rngF_len] at this; exact this
    rw [show (tNew n o who).P = rngF o 17 from rfl, rngF_get o 17 i hi']
    refine ⟨by omega, by show ((o + i : Nat) : Int) < (n : Int); omega, ?_⟩
    show ((frM n o 17 who).getD (((o + i : Nat) : Int)).toNat default).owner ≠ -1
    rw [Int.toNat_natCast, frM_get n o 17 _ who (by omega), if_neg (by omega), if_pos (by omega), if_pos (by omega)]
    exact frOwns_ne hw
  · rw [show (tNew n o who).P = rngF o 17 from rfl, rngF_len] at hi hj
    rw [show (tNew n o who).P = rngF o 17 from rfl, rngF_get o 17 i hi, rngF_get o 17 j hj] at e
    omega
  · rw [show (tNew n o who).P = rngF o 17 from rfl, rngF_get o 17 0 (by decide), rngF_get o 17 (k + 1) (by omega)]
    show (tM (List.replicate (16 * n) 0) o 17).getD _ 0 = _
    rw [tM_get _ n o _ hM hn2 17 (by omega) hn, Int.toNat_natCast, if_pos (by omega), show o + 1 + (16 * (o + 0) + k - 16 * o) = o + (k + 1) by omega]
end Go.Proofs.YtaoaachgnnengaaDoor

/-
  Tables of which it is known who has each frame, and each page's entry: plain laws.
-/
namespace Go.Proofs.YtaoaachgnnengaaDoor
open Go.RowKit

/-- whose a frame is, and what -/
def okF (F : List Fr) (j : Nat) : Int × Int := ((F.getD j default).owner, (F.getD j default).kind)
theorem frThere_ok (l : List Fr) (i : Int) (k : Fr → Fr × Int) (hk : ∀ x, ((k x).1.owner, (k x).1.kind) = (x.owner, x.kind)) (j : Nat) : okF (frThere l i k).l j = okF l j := by
  unfold frThere
  cases hN : frAt l i with
  | none => rfl
  | some n =>
    obtain ⟨-, hn, -⟩ := frAt_some hN
    show okF (l.set n (k (l.getD n default)).1) j = _
    unfold okF
    rw [fr_setD _ _ _ _ hn]
    by_cases h : j = n
    · rw [if_pos h, h]
      exact hk _
    · rw [if_neg h]
theorem kUnwrite_ok (x : Fr) : ((kUnwrite x).1.owner, (kUnwrite x).1.kind) = (x.owner, x.kind) := by unfold kUnwrite; split <;> rfl
theorem kUnuse_ok (x : Fr) : ((kUnuse x).1.owner, (kUnuse x).1.kind) = (x.owner, x.kind) := by unfold kUnuse; split <;> rfl
theorem kWrite_ok (x : Fr) : ((kWrite x).1.owner, (kWrite x).1.kind) = (x.owner, x.kind) := by unfold kWrite; split <;> rfl
theorem kUse_ok (x : Fr) : ((kUse x).1.owner, (kUse x).1.kind) = (x.owner, x.kind) := rfl
theorem tDropF_ok (s : Ts) (page : Int) (j : Nat) : okF (tDropF s page) j = okF s.F j := by
  unfold tDropF
  split
  · exact frThere_ok _ _ _ kUnwrite_ok j
  · exact frThere_ok _ _ _ kUnuse_ok j
theorem tDrop_ok (s : Ts) (page : Int) (j : Nat) : okF (tDrop s page).1.F j = okF s.F j := by
  unfold tDrop
  split
  · split
    · exact tDropF_ok s page j
    · rfl
  · rfl
theorem tSetR_ok (s : Ts) (frame : Int) (w : Bool) (j : Nat) : okF (tSetR s frame w).l j = okF s.F j := by
  unfold tSetR
  split
  · exact frThere_ok _ _ _ kWrite_ok j
  · exact frThere_ok _ _ _ kUse_ok j
theorem tSet_ok (s : Ts) (page frame : Int) (w : Bool) (j : Nat) : okF (tSet s page frame w).1.F j = okF s.F j := by
  unfold tSet
  split
  · exact (tDrop_ok { s with F := (tSetR s frame w).l } page j).trans (tSetR_ok s frame w j)
  · rfl
theorem tSet_P (s : Ts) (page frame : Int) (w : Bool) : (tSet s page frame w).1.P = s.P ∧ (tSet s page frame w).1.n = s.n ∧ (tSet s page frame w).1.who = s.who := by
  unfold tSet
  split
  · exact tDrop_P { s with F := (tSetR s frame w).l } page
  · exact ⟨rfl, rfl, rfl⟩
/-- another frame changes no entry -/
theorem tEnt_add {m : Int} {s : Ts} (h : TInv m s) (p : Int) : tEnt (tAdd s).1 p = tEnt s p := by
  unfold tAdd
  split
  · rfl
  · split
    · rename_i hc
      obtain ⟨i, hi, ho, hR⟩ := frAlloc_ok hc
      have hRR : tAddR s = _ := hR
      rw [hRR]
      cases hq : isPage p with
      | false => rw [tEnt_none _ p hq, tEnt_none _ p hq]
      | true =>
        have hpq : 0 ≤ p ∧ p < 256 := by simpa [isPage] using hq
        have h1 := h.pin (1 + p.toNat / 16) (by have := h.p17; omega)
        have hne : (s.P.getD (1 + p.toNat / 16) 0).toNat ≠ i := fun e => h1.2.2 (by rw [e]; exact ho)
        have hg : (s.P ++ [(i : Int)]).getD (1 + p.toNat / 16) 0 = s.P.getD (1 + p.toNat / 16) 0 := by
          rw [List.getD_eq_getElem?_getD, List.getElem?_append_left (by have := h.p17; omega), ← List.getD_eq_getElem?_getD]
        have hlf := h.lf
        rw [tEnt_word _ p hq (s.M.getD (tWord s p.toNat) 0) (by
          show (fillL s.M ((i : Nat) : Int).toNat []).getD (16 * ((s.P ++ [(i : Int)]).getD (1 + p.toNat / 16) 0).toNat + p.toNat % 16) 0 = _
          rw [hg, Int.toNat_natCast, fillL_get s.M s.n i [] _ h.lm (by omega) (by decide), if_neg (by omega)]
          rfl), tEnt_word s p hq _ rfl]
    · rfl
theorem tAdd_P (s : Ts) (h : (tAdd s).2.2 = 0) : (tAdd s).1.n = s.n ∧ (tAdd s).1.who = s.who := by
  unfold tAdd
  split
  · exact ⟨rfl, rfl⟩
  · split
    · exact ⟨rfl, rfl⟩
    · exact ⟨rfl, rfl⟩

/-- tables, n frames, of which o another one's; a more are the guest's -/
structure TbAt (m : Int) (S : Ts) (n o a : Nat) (who : Int) (f : Int → Ent) : Prop where
  inv : TInv m S
  sn : S.n = n
  sP : S.P = rngF o (17 + a)
  sw : S.who = who
  own : frOwns who
  sF : ∀ j, j < n → okF S.F j = if j < o then (3, 0) else if j = o then (who, 1) else if j < o + 17 then (who, 2) else if j < o + 17 + a then (who, 0) else (-1, 0)
  ent : ∀ p, tEnt S p = f p
  room : o + 17 + a ≤ n ∧ n ≤ 1024 ∧ 17 + a ≤ 512
set_option maxRecDepth 100000 in
theorem tb_new (n o : Nat) (who : Int) (hw : frOwns who) (hn : o + 17 ≤ n) (hn2 : n ≤ 1024) : TbAt 1 (tNew n o who) n o 0 who fun _ => Ent.z := by
  refine ⟨tNew_inv n o who hw hn hn2, rfl, rfl, rfl, hw, fun j hj => ?_, fun p => ?_, hn, hn2, by decide⟩
  · show okF (frM n o 17 who) j = _
    unfold okF
    rw [frM_get n o 17 j who hj]
    by_cases h1 : j < o
    · rw [if_pos h1, if_pos h1]
    · rw [if_neg h1, if_neg h1]
      by_cases h2 : j < o + 17
      · rw [if_pos h2, if_pos h2]
        by_cases h3 : j = o
        · rw [if_pos h3, if_pos h3]
        · rw [if_neg h3, if_neg h3, if_pos h2]
      · rw [if_neg h2, if_neg (by omega), if_neg h2, if_neg (by omega)]
        rfl
  · cases hq : isPage p with
    | false => exact tEnt_none _ p hq
    | true =>
      have hpq : 0 ≤ p ∧ p < 256 := by simpa [isPage] using hq
      rw [tEnt_word _ p hq 0 (by
        show (tM (List.replicate (16 * n) 0) o 17).getD (16 * ((rngF o 17).getD (1 + p.toNat / 16) 0).toNat + p.toNat % 16) 0 = 0
        rw [rngF_get o 17 _ (by omega), Int.toNat_natCast, tM_get _ n o _ List.length_replicate hn2 17 (by omega) hn, if_neg (by omega), if_pos (by omega)]), ofA_zero'']
      rfl
theorem TbAt.get {m : Int} {S : Ts} {n o a : Nat} {who : Int} {f : Int → Ent} (h : TbAt m S n o a who f) (i : Nat) (hi : i < 17 + a) : S.P.getD i 0 = ((o + i : Nat) : Int) ∧ S.P.length = 17 + a := by
  rw [h.sP]
  exact ⟨rngF_get _ _ _ hi, rngF_len _ _⟩
theorem tb_alloc {m : Int} {S : Ts} {n o a : Nat} {who : Int} {f : Int → Ent} (h : TbAt m S n o a who f) (hn : o + 17 + a < n) : ∃ w u, frAlloc S.F who = ⟨S.F.set (o + 17 + a) ⟨who, 0, w, u⟩, ((o + 17 + a : Nat) : Int), 0⟩ := by
  have hl : S.F.length = n := h.inv.lf.trans h.sn
  have hne := frOwns_ne h.own
  have hx : okF S.F (o + 17 + a) = (-1, 0) := by rw [h.sF _ hn, if_neg (by omega), if_neg (by omega), if_neg (by omega), if_neg (by omega)]
  have hx1 : (S.F.getD (o + 17 + a) default).owner = -1 := (Prod.mk.inj hx).1
  have hx2 : (S.F.getD (o + 17 + a) default).kind = 0 := (Prod.mk.inj hx).2
  have hf : frFree S.F = some (o + 17 + a) := frFree_is (by omega) hx1 fun i hi => by
    have hi' := congrArg Prod.fst (h.sF i (by omega))
    show (okF S.F i).1 ≠ -1
    rw [hi']
    by_cases h1 : i < o
    · rw [if_pos h1]; decide
    · rw [if_neg h1]
      by_cases h2 : i = o
      · rw [if_pos h2]; exact hne
      · rw [if_neg h2]
        by_cases h3 : i < o + 17
        · rw [if_pos h3]; exact hne
        · rw [if_neg h3, if_pos hi]; exact hne
  refine ⟨(S.F.getD (o + 17 + a) default).wr, (S.F.getD (o + 17 + a) default).us, ?_⟩
  unfold frAlloc
  rw [if_pos h.own, hf]
  dsimp only
  rw [hx2]
theorem tb_add {m : Int} {S : Ts} {n o a : Nat} {who : Int} {f : Int → Ent} (h : TbAt m S n o a who f) (hn : o + 17 + a < n) (ha : 17 + a < 512) : (tAdd S).2.1 = ((17 + a : Nat) : Int) ∧ (tAdd S).2.2 = 0 ∧ TbAt (m + 1) (tAdd S).1 n o (a + 1) who f := by
  obtain ⟨w, u, hA⟩ := tb_alloc h hn
  have hR : tAddR S = ⟨S.F.set (o + 17 + a) ⟨who, 0, w, u⟩, ((o + 17 + a : Nat) : Int), 0⟩ := by unfold tAddR; rw [h.sw]; exact hA
  have hl : S.F.length = n := h.inv.lf.trans h.sn
  have hlen : S.P.length = 17 + a := by rw [h.sP]; exact rngF_len _ _
  have hT : tAdd S = ({ S with F := S.F.set (o + 17 + a) ⟨who, 0, w, u⟩, M := fillL S.M ((o + 17 + a : Nat) : Int).toNat [], P := S.P ++ [((o + 17 + a : Nat) : Int)] }, ((17 + a : Nat) : Int), 0) := by
    unfold tAdd
    rw [if_neg (by omega), hR, if_pos rfl, hlen]
  refine ⟨by rw [hT], by rw [hT], tAdd_inv h.inv (by rw [h.sw]; exact frOwns_ne h.own), by rw [hT]; exact h.sn, ?_, by rw [hT]; exact h.sw, h.own, fun j hj => ?_, fun p => by rw [tEnt_add h.inv]; exact h.ent p, by have := h.room; omega, h.room.2.1, by omega⟩
  · rw [hT]
    show S.P ++ [((o + 17 + a : Nat) : Int)] = rngF o (17 + (a + 1))
    rw [h.sP, show 17 + (a + 1) = (17 + a) + 1 by omega, rngF_succ, Nat.add_assoc]
  · rw [hT]
    show okF (S.F.set (o + 17 + a) ⟨who, 0, w, u⟩) j = _
    have hj' := h.sF j hj
    unfold okF at hj' ⊢
    rw [fr_setD _ _ _ _ (by omega)]
    by_cases e : j = o + 17 + a
    · rw [if_pos e, if_neg (by omega), if_neg (by omega), if_neg (by omega), if_pos (by omega)]
    · rw [if_neg e, hj']
      by_cases h1 : j < o
      · rw [if_pos h1, if_pos h1]
      · rw [if_neg h1, if_neg h1]
        by_cases h2 : j = o
        · rw [if_pos h2, if_pos h2]
        · rw [if_neg h2, if_neg h2]
          by_cases h3 : j < o + 17
          · rw [if_pos h3, if_pos h3]
          · rw [if_neg h3, if_neg h3]
            by_cases h4 : j < o + 17 + a
            · rw [if_pos h4, if_pos (by omega)]
            · rw [if_neg h4, if_neg (by omega)]
theorem TbAt.frame {m : Int} {S : Ts} {n o a : Nat} {who : Int} {f : Int → Ent} (h : TbAt m S n o a who f) (i : Nat) (h1 : 17 ≤ i) (h2 : i < 17 + a) : (S.F.getD (o + i) default).owner = who ∧ (S.F.getD (o + i) default).kind = 0 ∧ frAt S.F ((o + i : Nat) : Int) = some (o + i) := by
  have hr := h.room
  have hj := h.sF (o + i) (by omega)
  rw [if_neg (by omega), if_neg (by omega), if_neg (by omega), if_pos (by omega)] at hj
  have ho : (S.F.getD (o + i) default).owner = who := (Prod.mk.inj hj).1
  refine ⟨ho, (Prod.mk.inj hj).2, ?_⟩
  unfold frAt
  rw [if_pos ⟨by omega, by have := h.inv.lf; have := h.sn; omega, by rw [Int.toNat_natCast, ho]; exact frOwns_ne h.own⟩, Int.toNat_natCast]
theorem tb_setR {m : Int} {S : Ts} {n o a : Nat} {who : Int} {f : Int → Ent} (h : TbAt m S n o a who f) (i : Nat) (h1 : 17 ≤ i) (h2 : i < 17 + a) (w : Bool) : (tSetR S ((o + i : Nat) : Int) w).c = 0 := by
  obtain ⟨e1, e2, e3⟩ := h.frame i h1 h2
  unfold tSetR frThere
  rw [e3]
  cases w
  · rfl
  · show (kWrite (S.F.getD (o + i) default)).2 = 0
    unfold kWrite
    rw [if_neg (by rw [e2]; decide)]
theorem tb_put {m : Int} {S : Ts} {n o a : Nat} {who : Int} {f : Int → Ent} (h : TbAt m S n o a who f) (page : Int) (hp : isPage page = true) (i : Nat) (h1 : 17 ≤ i) (h2 : i < 17 + a) (w u : Bool) : tPut S page ⟨(i : Int), true, w, u⟩ = tSet S page ((o + i : Nat) : Int) w ∧ (tPut S page ⟨(i : Int), true, w, u⟩).2 = 0 ∧ TbAt (m + 1 + 1) (tPut S page ⟨(i : Int), true, w, u⟩).1 n o a who fun p => if p = page then ⟨((o + i : Nat) : Int), true, w, true⟩ else f p := by
  obtain ⟨e1, e2, e3⟩ := h.frame i h1 h2
  have hg := h.get i h2
  have hr := h.room
  have hc := tb_setR h i h1 h2 w
  have hput : tPut S page ⟨(i : Int), true, w, u⟩ = tSet S page ((o + i : Nat) : Int) w := by
    unfold tPut
    rw [if_pos hp, if_pos rfl, if_pos (show (0 : Int) ≤ (i : Int) ∧ (i : Int) < (S.P.length : Int) by omega)]
    show (if (S.F.getD (S.P.getD ((i : Nat) : Int).toNat 0).toNat default).owner = S.who then tSet S page (S.P.getD ((i : Nat) : Int).toNat 0) w else (S, 110)) = _
    rw [Int.toNat_natCast, hg.1, Int.toNat_natCast, if_pos (by rw [h.sw]; exact e1)]
  have hinv := tPut_inv h.inv page ⟨(i : Int), true, w, u⟩
  refine ⟨hput, ?_, ?_⟩
  · rw [hput]
    unfold tSet
    rw [if_pos hc]
  · rw [hput] at hinv ⊢
    obtain ⟨p1, p2, p3⟩ := tSet_P S page ((o + i : Nat) : Int) w
    refine ⟨hinv, p2.trans h.sn, p1.trans h.sP, p3.trans h.sw, h.own, fun j hj => (tSet_ok _ _ _ _ j).trans (h.sF j hj), fun p => ?_, h.room⟩
    rw [tEnt_set h.inv page _ w hp hc (by omega), h.ent p]
theorem tb_drop {m : Int} {S : Ts} {n o a : Nat} {who : Int} {f : Int → Ent} (h : TbAt m S n o a who f) (page : Int) (hp : isPage page = true) : (tDrop S page).2 = 0 ∧ TbAt (m + 1) (tDrop S page).1 n o a who fun p => if p = page then Ent.z else f p := by
  refine ⟨?_, ?_⟩
  · unfold tDrop
    rw [if_pos hp]
    split <;> rfl
  · obtain ⟨p1, p2, p3⟩ := tDrop_P S page
    exact ⟨tDrop_inv h.inv page, p2.trans h.sn, p1.trans h.sP, p3.trans h.sw, h.own, fun j hj => (tDrop_ok _ _ j).trans (h.sF j hj), fun p => by rw [tEnt_drop h.inv page hp p, h.ent p], h.room⟩
theorem tb_put0 (S : Ts) (page : Int) (hp : isPage page = true) : tPut S page Ent.z = tDrop S page := by
  unfold tPut
  rw [if_pos hp, if_neg (by decide), if_pos ⟨rfl, rfl, rfl⟩]
end Go.Proofs.YtaoaachgnnengaaDoor

/-
  TablesSafe: plain laws: each frame's writers and uses are as many as the entries that name it.
-/
namespace Go.Proofs.YtaoaachgnnengaaDoor
open Go.RowKit

/-- an entry that names frame k so -/
def entIs (e : Ent) (b : Bool) (k : Int) : Nat := if e.t = true ∧ e.w = b ∧ e.f = k then 1 else 0
/-- how many of the first n pages name frame k so -/
def cntN (f : Int → Ent) (b : Bool) (k : Int) : Nat → Nat
  | 0 => 0
  | n + 1 => cntN f b k n + entIs (f (n : Int)) b k
theorem cntN_out (f g : Int → Ent) (b : Bool) (k page : Int) (e : Ent) (hg : ∀ p, g p = if p = page then e else f p) : ∀ n : Nat, (n : Int) ≤ page → cntN g b k n = cntN f b k n
  | 0, _ => rfl
  | n + 1, h => by
    unfold cntN
    rw [cntN_out f g b k page e hg n (by omega), hg, if_neg (by omega)]
theorem cntN_set (f g : Int → Ent) (b : Bool) (k page : Int) (e : Ent) (hg : ∀ p, g p = if p = page then e else f p) (h0 : 0 ≤ page) : ∀ n : Nat, page < (n : Int) → cntN g b k n + entIs (f page) b k = cntN f b k n + entIs e b k
  | 0, h => absurd h (by omega)
  | n + 1, h => by
    unfold cntN
    by_cases hp : (n : Int) = page
    · rw [cntN_out f g b k page e hg n (by omega), hg, if_pos hp, hp]
      omega
    · have := cntN_set f g b k page e hg h0 n (by omega)
      rw [hg, if_neg hp]
      omega
theorem cntN_pos (f : Int → Ent) (b : Bool) (k page : Int) (h0 : 0 ≤ page) : ∀ n : Nat, page < (n : Int) → entIs (f page) b k ≤ cntN f b k n
  | 0, h => absurd h (by omega)
  | n + 1, h => by
    unfold cntN
    by_cases hp : (n : Int) = page
    · rw [hp]; omega
    · have := cntN_pos f b k page h0 n (by omega)
      omega
theorem cntN_ext (f g : Int → Ent) (b : Bool) (k : Int) (h : ∀ p, f p = g p) : ∀ n, cntN f b k n = cntN g b k n
  | 0 => rfl
  | n + 1 => by unfold cntN; rw [cntN_ext f g b k h n, h]
theorem cntN_zero (f : Int → Ent) (b : Bool) (k : Int) (h : ∀ p : Nat, p < 256 → entIs (f (p : Int)) b k = 0) : ∀ n, n ≤ 256 → cntN f b k n = 0
  | 0, _ => rfl
  | n + 1, hn => by unfold cntN; rw [cntN_zero f b k h n (by omega), h n (by omega)]
theorem entIs_z (b : Bool) (k : Int) : entIs Ent.z b k = 0 := rfl
theorem entIs_le (e : Ent) (b : Bool) (k : Int) : entIs e b k ≤ 1 := by unfold entIs; split <;> omega

/-- how a frame is counted, and how much more -/
def TCnt (S : Ts) (off : Bool → Int → Int) : Prop := ∀ k : Nat, k < S.n → (S.F.getD k default).wr = (cntN (tEnt S) true (k : Int) 256 : Int) + off true (k : Int) ∧ (S.F.getD k default).us = (cntN (tEnt S) false (k : Int) 256 : Int) + off false (k : Int) + (if (S.F.getD k default).kind ≠ 0 then 1 else 0)
structure TSafe (m : Int) (S : Ts) : Prop where
  inv : TInv m S
  own : frOwns S.who
  ent : ∀ p, (tEnt S p).t = true → (tEnt S p).u = true ∧ 0 ≤ (tEnt S p).f ∧ (tEnt S p).f < (S.n : Int) ∧ (S.F.getD (tEnt S p).f.toNat default).owner = S.who ∧ ((tEnt S p).w = true → (S.F.getD (tEnt S p).f.toNat default).kind = 0)
  cnt : TCnt S fun _ _ => 0

theorem frThere_get (l : List Fr) (i : Int) (k : Fr → Fr × Int) (n : Nat) (h : frAt l i = some n) (j : Nat) : (frThere l i k).l.getD j default = if j = n then (k (l.getD n default)).1 else l.getD j default := by
  obtain ⟨-, hn, -⟩ := frAt_some h
  unfold frThere
  rw [h]
  exact fr_setD _ _ _ _ hn
theorem frAt_is (l : List Fr) (n : Nat) (hn : n < l.length) (ho : (l.getD n default).owner ≠ -1) : frAt l (n : Int) = some n := by
  unfold frAt
  rw [if_pos ⟨by omega, by omega, by rw [Int.toNat_natCast]; exact ho⟩, Int.toNat_natCast]
theorem kUnwrite_us (x : Fr) : (kUnwrite x).1.us = x.us ∧ (kUnwrite x).1.kind = x.kind := by unfold kUnwrite; split <;> exact ⟨rfl, rfl⟩
theorem kUnuse_wr (x : Fr) : (kUnuse x).1.wr = x.wr ∧ (kUnuse x).1.kind = x.kind := by unfold kUnuse; split <;> exact ⟨rfl, rfl⟩
theorem tDrop_cnt {m : Int} {S : Ts} (h : TInv m S) (page : Int) (hp : isPage page = true) (off : Bool → Int → Int) (hoff : ∀ b k, 0 ≤ off b k)
    (he : (tEnt S page).t = true → 0 ≤ (tEnt S page).f ∧ (tEnt S page).f < (S.n : Int) ∧ (S.F.getD (tEnt S page).f.toNat default).owner ≠ -1) (hc : TCnt S off) : TCnt (tDrop S page).1 off := by
  have hpg : 0 ≤ page ∧ page < 256 := by simpa [isPage] using hp
  intro k hk
  have hk' : k < S.n := by rw [(tDrop_P S page).2.1] at hk; exact hk
  have hset := fun b => cntN_set (tEnt S) (tEnt (tDrop S page).1) b (k : Int) page Ent.z (fun p => tEnt_drop h page hp p) hpg.1 256 hpg.2
  have h1 := hset true
  have h2 := hset false
  rw [entIs_z] at h1 h2
  obtain ⟨c1, c2⟩ := hc k hk'
  by_cases ht : (tEnt S page).t = true
  · obtain ⟨f0, f1, fo⟩ := he ht
    obtain ⟨n, hn⟩ : ∃ n : Nat, (tEnt S page).f = (n : Int) := ⟨(tEnt S page).f.toNat, by omega⟩
    rw [hn, Int.toNat_natCast] at fo
    have hat := frAt_is S.F n (by rw [h.lf]; omega) fo
    have hF : (tDrop S page).1.F = tDropF S page := by unfold tDrop; rw [if_pos hp, if_pos ht]
    rw [hF]
    unfold tDropF
    rw [hn]
    cases hw : (tEnt S page).w with
    | true =>
      rw [if_pos rfl, frThere_get _ _ _ n hat]
      have e2 : entIs (tEnt S page) false (k : Int) = 0 := by unfold entIs; rw [if_neg (by rw [hw]; simp)]
      by_cases hkn : k = n
      · subst hkn
        have e1 : entIs (tEnt S page) true (k : Int) = 1 := by unfold entIs; rw [if_pos ⟨ht, hw, hn⟩]
        rw [if_pos rfl]
        obtain ⟨q1, q2⟩ := kUnwrite_us (S.F.getD k default)
        have hpos := cntN_pos (tEnt S) true (k : Int) page hpg.1 256 hpg.2
        have ho := hoff true (k : Int)
        have q3 : (kUnwrite (S.F.getD k default)).1.wr = (S.F.getD k default).wr - 1 := by
          unfold kUnwrite
          rw [if_neg (by omega)]
        rw [q1, q2, q3]
        exact ⟨by omega, by omega⟩
      · have e1 : entIs (tEnt S page) true (k : Int) = 0 := by unfold entIs; rw [if_neg (by rw [hn]; omega)]
        rw [if_neg hkn]
        exact ⟨by omega, by omega⟩
    | false =>
      rw [if_neg (by simp), frThere_get _ _ _ n hat]
      have e2 : entIs (tEnt S page) true (k : Int) = 0 := by unfold entIs; rw [if_neg (by rw [hw]; simp)]
      by_cases hkn : k = n
      · subst hkn
        have e1 : entIs (tEnt S page) false (k : Int) = 1 := by unfold entIs; rw [if_pos ⟨ht, hw, hn⟩]
        rw [if_pos rfl]
        obtain ⟨q1, q2⟩ := kUnuse_wr (S.F.getD k default)
        have hpos := cntN_pos (tEnt S) false (k : Int) page hpg.1 256 hpg.2
        have ho := hoff false (k : Int)
        have hkd : (0 : Int) ≤ (if (S.F.getD k default).kind ≠ 0 then 1 else 0) := by split <;> omega
        have q3 : (kUnuse (S.F.getD k default)).1.us = (S.F.getD k default).us - 1 := by
          unfold kUnuse
          rw [if_neg (by omega)]
        rw [q1, q2, q3]
        exact ⟨by omega, by omega⟩
      · have e1 : entIs (tEnt S page) false (k : Int) = 0 := by unfold entIs; rw [if_neg (by rw [hn]; omega)]
        rw [if_neg hkn]
        exact ⟨by omega, by omega⟩
  · have hS : (tDrop S page).1 = S := by unfold tDrop; rw [if_pos hp, if_neg ht]
    rw [hS]
    exact ⟨c1, c2⟩
theorem okF_parts {F F' : List Fr} {j : Nat} (h : okF F' j = okF F j) : (F'.getD j default).owner = (F.getD j default).owner ∧ (F'.getD j default).kind = (F.getD j default).kind := Prod.mk.inj h
theorem tDrop_safe {m : Int} {S : Ts} (h : TSafe m S) (page : Int) : TSafe (m + 1) (tDrop S page).1 := by
  by_cases hp : isPage page = true
  · obtain ⟨p1, p2, p3⟩ := tDrop_P S page
    refine ⟨tDrop_inv h.inv page, by rw [p3]; exact h.own, fun p ht => ?_, tDrop_cnt h.inv page hp _ (fun _ _ => Int.le_refl 0) (fun ht => ?_) h.cnt⟩
    · rw [tEnt_drop h.inv page hp p] at ht ⊢
      by_cases e : p = page
      · rw [if_pos e] at ht
        cases ht
      · rw [if_neg e] at ht ⊢
        obtain ⟨a1, a2, a3, a4, a5⟩ := h.ent p ht
        obtain ⟨o1, o2⟩ := okF_parts (tDrop_ok S page (tEnt S p).f.toNat)
        rw [p2, p3, o1, o2]
        exact ⟨a1, a2, a3, a4, a5⟩
    · obtain ⟨a1, a2, a3, a4, a5⟩ := h.ent page ht
      exact ⟨a2, a3, by rw [a4]; exact frOwns_ne h.own⟩
  · have hS : (tDrop S page).1 = S := by unfold tDrop; rw [if_neg hp]
    rw [hS]
    exact ⟨h.inv.mono, h.own, h.ent, h.cnt⟩
theorem tSet_safe {m : Int} {S : Ts} (h : TSafe m S) (page : Int) (hp : isPage page = true) (g : Nat) (hg : g < S.n) (ho : (S.F.getD g default).owner = S.who) (w : Bool) : TSafe (m + 1 + 1) (tSet S page (g : Int) w).1 := by
  by_cases hc : (tSetR S (g : Int) w).c = 0
  · have hpg : 0 ≤ page ∧ page < 256 := by simpa [isPage] using hp
    have hn1 := h.inv.n1
    have hlf := h.inv.lf
    have hon : (S.F.getD g default).owner ≠ -1 := by rw [ho]; exact frOwns_ne h.own
    have hat := frAt_is S.F g (by omega) hon
    obtain ⟨p1, p2, p3⟩ := tSet_P S page (g : Int) w
    have hE := tEnt_set h.inv page (g : Int) w hp hc (by omega)
    have hkd : w = true → (S.F.getD g default).kind = 0 := fun hw => by
      subst hw
      unfold tSetR frThere at hc
      rw [hat] at hc
      dsimp only at hc
      rw [if_pos rfl] at hc
      unfold kWrite at hc
      by_cases hk : (S.F.getD g default).kind ≠ 0
      · rw [if_pos hk] at hc
        exact absurd hc (show ¬ ((111 : Int) = 0) by decide)
      · exact Classical.not_not.1 hk
    have hI1 := tSetR_inv h.inv (g : Int) w
    have hget : ∀ j, (tSetR S (g : Int) w).l.getD j default = if j = g then ⟨(S.F.getD g default).owner, (S.F.getD g default).kind, (S.F.getD g default).wr + (if w = true then 1 else 0), (S.F.getD g default).us + (if w = true then 0 else 1)⟩ else S.F.getD j default := fun j => by
      unfold tSetR
      rw [frThere_get _ _ _ g hat]
      by_cases hj : j = g
      · rw [if_pos hj, if_pos hj]
        cases w
        · show (⟨_, _, (S.F.getD g default).wr, (S.F.getD g default).us + 1⟩ : Fr) = ⟨_, _, (S.F.getD g default).wr + 0, (S.F.getD g default).us + 1⟩
          rw [Int.add_zero]
        · show (kWrite (S.F.getD g default)).1 = ⟨_, _, (S.F.getD g default).wr + 1, (S.F.getD g default).us + 0⟩
          unfold kWrite
          rw [if_neg (fun hk => hk (hkd rfl)), Int.add_zero]
      · rw [if_neg hj, if_neg hj]
    have hc1 : TCnt { S with F := (tSetR S (g : Int) w).l } fun b k => if b = w ∧ k = (g : Int) then 1 else 0 := fun k hk => by
      obtain ⟨c1, c2⟩ := h.cnt k hk
      dsimp only at c1 c2
      show ((tSetR S (g : Int) w).l.getD k default).wr = (cntN (tEnt S) true (k : Int) 256 : Int) + (if true = w ∧ (k : Int) = (g : Int) then 1 else 0) ∧ ((tSetR S (g : Int) w).l.getD k default).us = (cntN (tEnt S) false (k : Int) 256 : Int) + (if false = w ∧ (k : Int) = (g : Int) then 1 else 0) + (if ((tSetR S (g : Int) w).l.getD k default).kind ≠ 0 then 1 else 0)
      rw [hget k]
      by_cases hk : k = g
      · subst hk
        rw [if_pos (show k = k from rfl)]
        have e1 : (if true = w ∧ (k : Int) = (k : Int) then (1 : Int) else 0) = if w = true then 1 else 0 := by cases w <;> simp
        have e2 : (if false = w ∧ (k : Int) = (k : Int) then (1 : Int) else 0) = if w = true then 0 else 1 := by cases w <;> simp
        rw [e1, e2]
        dsimp only
        exact ⟨by omega, by omega⟩
      · have hkg : ¬ ((k : Int) = (g : Int)) := by omega
        rw [if_neg hk, if_neg (fun h => hkg h.2), if_neg (fun h => hkg h.2)]
        exact ⟨by omega, by omega⟩
    have hc2 := tDrop_cnt hI1 page hp _ (fun b k => by split <;> omega) (fun ht => by
      obtain ⟨a1, a2, a3, a4, a5⟩ := h.ent page ht
      refine ⟨a2, a3, ?_⟩
      show ((tSetR S (g : Int) w).l.getD (tEnt S page).f.toNat default).owner ≠ -1
      rw [(okF_parts (tSetR_ok S (g : Int) w _)).1, a4]
      exact frOwns_ne h.own) hc1
    refine ⟨tSet_inv h.inv page _ w hp, by rw [p3]; exact h.own, fun p ht => ?_, fun k hk => ?_⟩
    · rw [hE p] at ht ⊢
      by_cases e : p = page
      · rw [if_pos e]
        obtain ⟨o1, o2⟩ := okF_parts (tSet_ok S page (g : Int) w g)
        rw [p2, p3]
        dsimp only
        rw [Int.toNat_natCast, o1, o2]
        exact ⟨rfl, by omega, by omega, ho, hkd⟩
      · rw [if_neg e] at ht ⊢
        obtain ⟨a1, a2, a3, a4, a5⟩ := h.ent p ht
        obtain ⟨o1, o2⟩ := okF_parts (tSet_ok S page (g : Int) w (tEnt S p).f.toNat)
        rw [p2, p3, o1, o2]
        exact ⟨a1, a2, a3, a4, a5⟩
    · have hk' : k < S.n := by rw [p2] at hk; exact hk
      have hF : (tSet S page (g : Int) w).1.F = (tDrop { S with F := (tSetR S (g : Int) w).l } page).1.F := by unfold tSet; rw [if_pos hc]
      rw [hF]
      obtain ⟨c1, c2⟩ := hc2 k (by rw [(tDrop_P { S with F := (tSetR S (g : Int) w).l } page).2.1]; exact hk')
      have s1 := fun b => cntN_set (tEnt S) (tEnt (tDrop { S with F := (tSetR S (g : Int) w).l } page).1) b (k : Int) page Ent.z (fun p => tEnt_drop hI1 page hp p) hpg.1 256 hpg.2
      have s2 := fun b => cntN_set (tEnt S) (tEnt (tSet S page (g : Int) w).1) b (k : Int) page ⟨(g : Int), true, w, true⟩ hE hpg.1 256 hpg.2
      have t1 := s1 true
      have t2 := s1 false
      have u1 := s2 true
      have u2 := s2 false
      rw [entIs_z] at t1 t2
      have v : ∀ b, (entIs ⟨(g : Int), true, w, true⟩ b (k : Int) : Int) = if b = w ∧ (k : Int) = (g : Int) then 1 else 0 := fun b => by
        unfold entIs
        by_cases hb : b = w ∧ (k : Int) = (g : Int)
        · rw [if_pos hb, if_pos ⟨rfl, hb.1.symm, hb.2.symm⟩]; rfl
        · rw [if_neg hb, if_neg (fun hh => hb ⟨hh.2.1.symm, hh.2.2.symm⟩)]; rfl
      dsimp only at c1 c2
      dsimp only
      rw [← v true] at c1
      rw [← v false] at c2
      exact ⟨by omega, by omega⟩
  · have hS : (tSet S page (g : Int) w).1 = S := by unfold tSet; rw [if_neg hc]
    rw [hS]
    exact ⟨h.inv.mono.mono, h.own, h.ent, h.cnt⟩
theorem TSafe.mono {m : Int} {S : Ts} (h : TSafe m S) : TSafe (m + 1) S := ⟨h.inv.mono, h.own, h.ent, h.cnt⟩
theorem tPut_safe {m : Int} {S : Ts} (h : TSafe m S) (page : Int) (e : Ent) : TSafe (m + 1 + 1) (tPut S page e).1 := by
  unfold tPut
  by_cases hp : isPage page = true
  · rw [if_pos hp]
    by_cases ht : e.t = true
    · rw [if_pos ht]
      by_cases hf : 0 ≤ e.f ∧ e.f < (S.P.length : Int)
      · rw [if_pos hf]
        by_cases ho : (S.F.getD (S.P.getD e.f.toNat 0).toNat default).owner = S.who
        · rw [if_pos ho]
          have hpin := h.inv.pin e.f.toNat (by omega)
          obtain ⟨g, hg⟩ : ∃ g : Nat, S.P.getD e.f.toNat 0 = (g : Int) := ⟨(S.P.getD e.f.toNat 0).toNat, by omega⟩
          rw [hg] at ho hpin ⊢
          rw [Int.toNat_natCast] at ho
          exact tSet_safe h page hp g (by omega) ho e.w
        · rw [if_neg ho]; exact h.mono.mono
      · rw [if_neg hf]; exact h.mono.mono
    · rw [if_neg ht]
      by_cases hz : e.f = 0 ∧ e.w = false ∧ e.u = false
      · rw [if_pos hz]; exact (tDrop_safe h page).mono
      · rw [if_neg hz]; exact h.mono.mono
  · rw [if_neg hp]; exact h.mono.mono
theorem tAdd_safe {m : Int} {S : Ts} (h : TSafe m S) : TSafe (m + 1) (tAdd S).1 := by
  have hinv := tAdd_inv h.inv (frOwns_ne h.own)
  have hE := tEnt_add h.inv
  unfold tAdd at hinv hE ⊢
  by_cases hl : 512 ≤ S.P.length
  · rw [if_pos hl]; exact h.mono
  · rw [if_neg hl] at hinv hE ⊢
    by_cases hc : (tAddR S).c = 0
    · rw [if_pos hc] at hinv hE ⊢
      obtain ⟨i, hi, hoi, hR0⟩ := frAlloc_ok hc
      have hR : tAddR S = _ := hR0
      have hz : S.F.getD i default = frNo := (frOk_get h.inv.fok i hi).1 hoi
      have hlf := h.inv.lf
      have hget : ∀ j, (tAddR S).l.getD j default = if j = i then ⟨S.who, 0, 0, 0⟩ else S.F.getD j default := fun j => by
        rw [hR, fr_setD _ _ _ _ hi, hz]
        rfl
      have hne : ∀ p, (tEnt S p).t = true → (tEnt S p).f.toNat ≠ i := fun p ht e => by
        have := (h.ent p ht).2.2.2.1
        rw [e, hoi] at this
        exact frOwns_ne h.own this.symm
      refine ⟨hinv, h.own, fun p ht => ?_, fun k hk => ?_⟩
      · dsimp only at hE
        rw [hE p] at ht ⊢
        show _ ∧ _ ∧ _ ∧ ((tAddR S).l.getD (tEnt S p).f.toNat default).owner = S.who ∧ (_ → ((tAddR S).l.getD (tEnt S p).f.toNat default).kind = 0)
        rw [hget, if_neg (hne p ht)]
        exact h.ent p ht
      · obtain ⟨c1, c2⟩ := h.cnt k hk
        have e1 := fun b => cntN_ext _ _ b (k : Int) hE 256
        show ((tAddR S).l.getD k default).wr = (cntN _ true (k : Int) 256 : Int) + 0 ∧ ((tAddR S).l.getD k default).us = (cntN _ false (k : Int) 256 : Int) + 0 + (if ((tAddR S).l.getD k default).kind ≠ 0 then 1 else 0)
        rw [e1 true, e1 false, hget]
        by_cases hki : k = i
        · subst hki
          have hz0 : ∀ b, cntN (tEnt S) b (k : Int) 256 = 0 := fun b => cntN_zero _ b _ (fun p hp => by
            unfold entIs
            rw [if_neg]
            rintro ⟨ht, -, hf⟩
            exact hne _ ht (by rw [hf, Int.toNat_natCast])) 256 (Nat.le_refl _)
          rw [if_pos rfl, hz0, hz0]
          exact ⟨rfl, rfl⟩
        · rw [if_neg hki]
          exact ⟨c1, c2⟩
    · rw [if_neg hc]; exact h.mono
theorem ts_new (n o : Nat) (who : Int) (hw : frOwns who) (hn : o + 17 ≤ n) (hn2 : n ≤ 1024) : TSafe 1 (tNew n o who) := by
  have h := tb_new n o who hw hn hn2
  refine ⟨h.inv, hw, fun p ht => ?_, fun k hk => ?_⟩
  · rw [h.ent p] at ht
    cases ht
  · have hz : ∀ b, cntN (tEnt (tNew n o who)) b (k : Int) 256 = 0 := fun b => cntN_zero _ b _ (fun p _ => by rw [h.ent]; rfl) 256 (Nat.le_refl _)
    rw [hz, hz]
    show ((frM n o 17 who).getD k default).wr = _ ∧ ((frM n o 17 who).getD k default).us = _ + (if ((frM n o 17 who).getD k default).kind ≠ 0 then 1 else 0)
    rw [frM_get n o 17 k who hk]
    by_cases h1 : k < o
    · rw [if_pos h1]; exact ⟨rfl, rfl⟩
    · rw [if_neg h1]
      by_cases h2 : k < o + 17
      · rw [if_pos h2, if_pos h2]
        refine ⟨rfl, ?_⟩
        show (1 : Int) = _
        rw [if_pos (by dsimp only; split <;> decide)]
        rfl
      · rw [if_neg h2]; exact ⟨rfl, rfl⟩
end Go.Proofs.YtaoaachgnnengaaDoor

