/-
  slices.Repeat at frames.Frame, of one frame; frames.New.
-/
import Derived.Test.YtnhocmmgdkiepaaDoorFrDo
import Derived.Test.YtnhocmmgdkiepaaDoorMul
import Derived.Laws.CopyRow
import Derived.Laws.CopyOwn
namespace Go.Proofs.YtnhocmmgdkiepaaDoor
open Go.RowKit

theorem infoFr : (Tryd.prog.info? 126).map (fun i => (i.zero, i.size, i.bytes)) = some (some (.agg #[.int .i64 0, .int .i64 0, .int .i64 0, .int .i64 0]), 4, 32) := by kernel_rfl
theorem infoFrS : (Tryd.prog.info? 126).map (·.size) = some 4 := by kernel_rfl
/-- copy of elements of so many cells -/
theorem run_copy_rows {P : Program} (w : World) (dT sT ty elem : TypeId) (g o dLen dCap sz : Nat) (a : Addr) (sLen sCap : Nat) (cur : Array Value) (t : TypeId) (cs : List Value)
    (hu : P.underlying dT = some (.slice elem)) (hs : (P.info? elem).map (·.size) = some sz)
    (hg : w.heap[g]? = some (.cells cur t (0, 0))) (hn : cs.length = Nat.min sLen dLen * sz)
    (hsrc : ∀ j v, cs[j]? = some v → w.cell? (a.add j) = some v) (hfit : o + cs.length ≤ cur.size) (h1 : ∀ v ∈ cs, v.oneCell' = true) :
    (Builtin.copy_ #[dT, sT] ty #[.slice (some ⟨g, o, none⟩) dLen dCap, .slice (some a) sLen sCap]).run P w =
      .ok (goInt (Nat.min sLen dLen)) (w.setRow g (cur.toList.take o ++ cs ++ cur.toList.drop (o + cs.length)).toArray) := by
  have hl := run_loadCells_list (P := P) w a cs hsrc
  have hst := run_storeCells_at P g o t cs 0 cur w hg (by simpa using hfit) h1
  cases hq : P.info? elem with
  | none => simp [hq] at hs
  | some i =>
    have hi : i.size = sz := by simpa [hq] using hs
    simp [Builtin.copy_, run_underlying hu, Builtin.lenOf, Builtin.firstCells, sizeOf, typeInfo, hq, hi, ← hn, hl, hst]
def frZ : Fr := ⟨0, 0, 0, 0⟩
theorem frOne_cell (x : Fr) : ∀ u ∈ frOne x, u.oneCell' = true := by
  intro u hu
  simp only [frOne, List.mem_cons, List.not_mem_nil, or_false] at hu
  rcases hu with rfl | rfl | rfl | rfl <;> rfl
theorem frCells_cell (l : List Fr) : ∀ u ∈ frCells l, u.oneCell' = true := by
  intro u hu
  unfold frCells at hu
  rw [List.mem_flatMap] at hu
  obtain ⟨x, -, hx⟩ := hu
  exact frOne_cell x u hx
theorem frCells_len (l : List Fr) : (frCells l).length = l.length * 4 := rec_len frOne 4 frOne_len l
theorem made_fr (w : World) (n : Nat) (h : n ≤ 1024) : (Instr.makeSlice 123 (.int .i64 (n : Int)) (.int .i64 (n : Int))).run Tryd.prog w = .ok (.slice (some ⟨w.heap.size, 0, none⟩) n n) (w.alloc (.cells (frCells (List.replicate n frZ)).toArray 126)) := by
  obtain ⟨i, hi, hz0, hz1, hz2⟩ := info_parts infoFr
  have e := run_make (P := Tryd.prog) w 123 126 i (.agg #[.int .i64 0, .int .i64 0, .int .i64 0, .int .i64 0]) Tryd.underlying123 hi hz0 .i64 .i64 n n (by omega) (by omega) (by rw [hz2]; omega) (by omega)
  rw [e, hz1, Int.toNat_natCast]
  have : madeCells (Value.agg #[.int .i64 0, .int .i64 0, .int .i64 0, .int .i64 0]).cells (n * 4) = (frCells (List.replicate n frZ)).toArray := by
    rw [show (Value.agg #[.int .i64 0, .int .i64 0, .int .i64 0, .int .i64 0]).cells = #[Value.int IntKind.i64 0, .int .i64 0, .int .i64 0, .int .i64 0] from rfl]
    apply Array.toList_inj.1
    apply List.ext_getElem?
    intro j
    have hz : ∀ k, k < 4 → (#[Value.int IntKind.i64 0, .int .i64 0, .int .i64 0, .int .i64 0] : Array Value)[k]? = some (.int .i64 0) := fun k hk => by
      match k, hk with
      | 0, _ => rfl
      | 1, _ => rfl
      | 2, _ => rfl
      | 3, _ => rfl
    have hc : ∀ m, frCells (List.replicate m frZ) = List.replicate (m * 4) (.int .i64 0) := fun m => by
      induction m with
      | zero => rfl
      | succ m ih =>
        unfold frCells at ih ⊢
        rw [List.replicate_succ, List.flatMap_cons, ih, Nat.succ_mul, Nat.add_comm, ← List.replicate_append_replicate]
        rfl
    rw [hc]
    by_cases hj : j < n * 4
    · simp [madeCells, hj]
      have := hz (j % 4) (Nat.mod_lt _ (by decide))
      rw [List.getElem?_toArray] at this
      rw [this]
      rfl
    · simp [madeCells, hj]
  rw [this]

/-- the first k frames are nobody's, the others nothing -/
def repL (n k : Nat) : List Fr := List.replicate k frNo ++ List.replicate (n - k) frZ
theorem repL_len (n k : Nat) (h : k ≤ n) : (repL n k).length = n := by simp [repL]; omega
theorem repL_splice (n k m : Nat) (h : k + m ≤ n) : (frCells (repL n k)).toArray.toList.take (k * 4) ++ frCells (List.replicate m frNo) ++ (frCells (repL n k)).toArray.toList.drop (k * 4 + (frCells (List.replicate m frNo)).length) = frCells (repL n (k + m)) := by
  rw [frCells_len, List.length_replicate]
  have h1 : (frCells (repL n k)).take (k * 4) = frCells (List.replicate k frNo) := by
    unfold repL frCells
    rw [List.flatMap_append, List.take_append_of_le_length (by rw [rec_len frOne 4 frOne_len, List.length_replicate]; exact Nat.le_refl _), List.take_of_length_le (by rw [rec_len frOne 4 frOne_len, List.length_replicate]; exact Nat.le_refl _)]
  have hd : ∀ (L : List Fr) (q : Nat), (frCells L).drop (q * 4) = frCells (L.drop q) := fun L q => by
    have := rec_part frOne 4 frOne_len L q L.length
    unfold frCells
    rw [List.take_of_length_le (by rw [List.length_drop, rec_len frOne 4 frOne_len]; omega), List.take_of_length_le (by rw [List.length_drop]; omega)] at this
    exact this
  have h2 : (frCells (repL n k)).drop (k * 4 + m * 4) = frCells (List.replicate (n - (k + m)) frZ) := by
    rw [show k * 4 + m * 4 = (k + m) * 4 by omega, hd]
    unfold repL
    rw [List.drop_append, List.drop_of_length_le (by rw [List.length_replicate]; omega), List.length_replicate, List.nil_append, List.drop_replicate]
    congr 2
    omega
  show (frCells (repL n k)).take (k * 4) ++ _ ++ (frCells (repL n k)).drop (k * 4 + m * 4) = _
  rw [h1, h2]
  unfold repL frCells
  rw [← List.flatMap_append, ← List.flatMap_append, ← List.replicate_append_replicate, List.append_assoc]
theorem repL_get (n k : Nat) (j : Nat) (u : Value) (h : (frCells (List.replicate k frNo))[j]? = some u) : (frCells (repL n k))[j]? = some u := by
  unfold repL frCells at *
  rw [List.flatMap_append, List.getElem?_append_left (List.getElem?_eq_some_iff.1 h).1]
  exact h
def RepTo (n g : Nat) (w0 : World) (i : Value) (wr : World) : Prop :=
  ∃ k : Nat, 1 ≤ k ∧ k ≤ n ∧ i = .int .i64 (k : Int) ∧ RecAt frOne 126 wr g (repL n k) ∧ Below g w0 wr

set_option maxRecDepth 100000 in
set_option maxHeartbeats 4000000 in
theorem repeat_one (xb n : Nat) (w : World) (hn1 : 1 ≤ n) (hn : n ≤ 1024) (hx : RecAt frOne 126 w xb [frNo]) :
    Calls Tryd.prog 65 #[.slice (some ⟨xb, 0, none⟩) 1 1, .int .i64 (n : Int)] w fun e w' => ∃ g, e = .returned (.slice (some ⟨g, 0, none⟩) n n) ∧ RecAt frOne 126 w' g (List.replicate n frNo) ∧ w.heap.size ≤ g ∧ Below w.heap.size w w' := by
  have HMUL := Lib.hid (mul_any 1 n (by omega) (by omega))
  have e1 : 1 * n / 18446744073709551616 = 0 := by omega
  have e2 : 1 * n % 18446744073709551616 = n := by omega
  rw [e1, e2] at HMUL
  have hmk := made_fr w n hn
  have hw1 := IntWalk.u64_in (n : Int) (by omega)
  have hw2 := IntWalk.i64_in (n : Int) (by omega)
  have hn0 : ¬ (n : Int) < 0 := by omega
  have hnb : ¬ (9223372036854775807 : Int) < (n : Int) := by omega
  clear e1 e2
  go_enter Tryd.func65, Tryd.ntmps65
  go_wp2_with fail
  refine (HMUL.out _).mono ?_
  rintro e w1 ⟨rfl, rfl⟩
  go_wp2_with fail
  have HCP : Hid ((Builtin.copy_ #[123, 123] 3 #[.slice (some ⟨w1.heap.size, 0, none⟩) n n, .slice (some ⟨xb, 0, none⟩) 1 1]).run Tryd.prog (w1.alloc (.cells (frCells (List.replicate n frZ)).toArray 126)) =
      .ok (.int .i64 1) ((w1.alloc (.cells (frCells (List.replicate n frZ)).toArray 126)).setRow w1.heap.size (frCells (repL n 1)).toArray)) := Lib.hid (by
    have hmin : Nat.min 1 n = 1 := Nat.min_eq_left hn1
    have hxa := blk_old hx (.cells (frCells (List.replicate n frZ)).toArray 126)
    have e := run_copy_rows (P := Tryd.prog) (w1.alloc (.cells (frCells (List.replicate n frZ)).toArray 126)) 123 123 3 126 w1.heap.size 0 n n 4 ⟨xb, 0, none⟩ 1 1 (frCells (List.replicate n frZ)).toArray 126 (frCells (List.replicate 1 frNo))
      Tryd.underlying123 infoFrS (blk_new _ _) (by rw [frCells_len, hmin]; rfl) (fun j v hj => by rw [Addr.add_lit, blk_cell hxa, Nat.zero_add, List.getElem?_toArray]; exact hj)
      (by rw [frCells_len, List.size_toArray, frCells_len, List.length_replicate, List.length_replicate]; omega) (frCells_cell _)
    have hs := repL_splice n 0 1 (by omega)
    rw [show repL n 0 = List.replicate n frZ from by simp [repL]] at hs
    rw [Nat.zero_mul, Nat.zero_add] at hs
    rw [Nat.zero_add] at e
    rw [hs, hmin] at e
    exact e)
  have HROW : Hid (RecAt frOne 126 ((w1.alloc (.cells (frCells (List.replicate n frZ)).toArray 126)).setRow w1.heap.size (frCells (repL n 1)).toArray) w1.heap.size (repL n 1)) := Lib.hid (setRow_heap _ _ _ _ _ _ (blk_new _ _))
  have HBEL : Hid (Below w1.heap.size w1 ((w1.alloc (.cells (frCells (List.replicate n frZ)).toArray 126)).setRow w1.heap.size (frCells (repL n 1)).toArray)) := Lib.hid (below_setRow ((Below.refl _ _).alloc (Nat.le_refl _) _) (Nat.le_refl _) _)
  rw [HCP.out]
  generalize (w1.alloc (.cells (frCells (List.replicate n frZ)).toArray 126)).setRow w1.heap.size (frCells (repL n 1)).toArray = w2 at HROW HBEL ⊢
  have HLT : Hid (w1.heap.size < w2.heap.size) := Lib.hid (blk_lt HROW.out)
  obtain ⟨g, hg⟩ : ∃ g, w1.heap.size = g := ⟨_, rfl⟩
  have HG := Lib.hid hg
  rw [hg] at HROW HBEL HLT ⊢
  have HST : Hid (RepTo n g w2 (.int .i64 1) w2) := Lib.hid ⟨1, Nat.le_refl _, hn1, rfl, HROW.out, Below.refl _ _⟩
  clear hmk HMUL HCP hg
  go_wp2_with fail
  go_loopw [8] (fun i wr => RepTo n g w2 i wr) (fun i _ => n - (intOf i).toNat)
  case atStart => exact HST.out
  case round =>
    obtain ⟨k, hk1, hkn, rfl, hrow, hb⟩ := hrel
    have HR := Lib.hid hrow
    have HB := Lib.hid hb
    clear hrow hb HST
    by_cases hlt : k < n
    · have hki : (k : Int) < (n : Int) := by omega
      have hk0 : (0 : Int) ≤ (k : Int) := by omega
      obtain ⟨m, hm⟩ : ∃ m, Nat.min k (n - k) = m := ⟨_, rfl⟩
      have hmk : k + m ≤ n ∧ 1 ≤ m ∧ m ≤ k ∧ m ≤ n - k := by
        have h1 := Nat.min_le_left k (n - k)
        have h2 := Nat.min_le_right k (n - k)
        have h3 : 1 ≤ Nat.min k (n - k) := Nat.le_min.2 ⟨hk1, by omega⟩
        have hm' : min k (n - k) = m := hm
        have h3' : 1 ≤ min k (n - k) := h3
        omega
      have HCPY : Hid (∀ W, W.heap[g]? = wr.heap[g]? → (Builtin.copy_ #[123, 123] 3 #[.slice (some ⟨g, k * 4, none⟩) (n - k) (n - k), .slice (some ⟨g, 0, none⟩) k n]).run Tryd.prog W = .ok (.int .i64 (m : Int)) (W.setRow g (frCells (repL n (k + m))).toArray)) := Lib.hid fun W hW => by
        have hx' : W.heap[g]? = some (.cells (frCells (repL n k)).toArray 126 (0, 0)) := hW.trans HR.out
        have e := run_copy_rows (P := Tryd.prog) W 123 123 3 126 g (k * 4) (n - k) (n - k) 4 ⟨g, 0, none⟩ k n (frCells (repL n k)).toArray 126 (frCells (List.replicate m frNo))
          Tryd.underlying123 infoFrS hx' (by rw [frCells_len, List.length_replicate, hm]) (fun j v hj => by
            rw [Addr.add_lit, blk_cell hx', Nat.zero_add, List.getElem?_toArray]
            refine repL_get n k j v ?_
            have hjl := (List.getElem?_eq_some_iff.1 hj).1
            rw [show k = m + (k - m) by omega, ← List.replicate_append_replicate]
            rw [show frCells (List.replicate m frNo ++ List.replicate (k - m) frNo) = frCells (List.replicate m frNo) ++ frCells (List.replicate (k - m) frNo) from List.flatMap_append, List.getElem?_append_left hjl]
            exact hj)
          (by rw [frCells_len, List.size_toArray, frCells_len, repL_len n k hkn, List.length_replicate]; omega) (frCells_cell _)
        rw [repL_splice n k m hmk.1, hm] at e
        exact e
      have hcp1 := HCPY.out wr rfl
      have hcp2 := HCPY.out wr.drew rfl
      have HN : Hid (∀ W : World, W.heap[g]? = wr.heap[g]? → RecAt frOne 126 (W.setRow g (frCells (repL n (k + m))).toArray) g (repL n (k + m))) := Lib.hid fun W hW => setRow_heap _ _ _ _ _ _ (hW.trans HR.out)
      have hadd := IntWalk.i64_in ((k : Int) + (m : Int)) (by omega)
      go_wp2_with fail
      go_region
      all_goals
        go_wp2
        go_roundw
        case rel => exact ⟨k + m, by omega, hmk.1, by go_num, HN.out _ rfl, below_setRow HB.out.drew (Nat.le_refl _) _⟩
        case measure => simp [intOf]; omega
    · obtain rfl : k = n := by omega
      go_wp2
      go_ret
      refine ⟨g, rfl, ?_, by rw [HG.out]; exact Nat.le_refl _, by rw [HG.out]; exact HBEL.out.trans HB.out⟩
      have := HR.out
      rw [show repL k k = List.replicate k frNo from by simp [repL]] at this
      exact this

set_option maxRecDepth 100000 in
set_option maxHeartbeats 1600000 in
theorem fnew_bad (E : Nat → Addr) (n : Int) (w : World) (hE : ErrsAt errT gOf w E all16) (h : n < 1 ∨ 1024 < n) :
    Calls Tryd.prog 33 #[.int .i64 n] w fun e w' => e = .returned (.tuple #[.pointer none, errV (E 2)]) ∧ Below w.heap.size w w' := by
  have e2 : w.cell? ⟨0, 0, none⟩ = some (errV (E 2)) := (hE.1 2 (by decide)).1
  have hc : n < 1 ∨ (¬ n < 1 ∧ 1024 < n) := by omega
  clear hE h
  rcases hc with hc | ⟨hc, hd⟩
  all_goals
    go_enter Tryd.func33, Tryd.ntmps33
    go_wp2_with fail
    go_quiet (fail)
    go_wp2
    go_ret2
    exact ⟨rfl, below_drewN (Below.refl _ _) _⟩
set_option maxRecDepth 100000 in
set_option maxHeartbeats 1600000 in
theorem fnew_ok (n : Nat) (w : World) (hn1 : 1 ≤ n) (hn : n ≤ 1024) :
    Calls Tryd.prog 33 #[.int .i64 (n : Int)] w fun e w' => ∃ b g, e = .returned (.tuple #[.pointer (some ⟨b, 0, none⟩), .nilIface]) ∧ FrAt 128 126 w' b g n (List.replicate n frNo) ∧ w.heap.size ≤ b ∧ w.heap.size ≤ g ∧ Below w.heap.size w w' := by
  have HB1 : Hid (Below w.heap.size w (w.alloc (.cells #[.int .i64 (-1), .int .i64 0, .int .i64 0, .int .i64 0] 126))) := Lib.hid ((Below.refl _ _).alloc (Nat.le_refl _) _)
  have HR := Lib.hid (repeat_one w.heap.size n (w.alloc (.cells #[.int .i64 (-1), .int .i64 0, .int .i64 0, .int .i64 0] 126)) hn1 hn (blk_new w _))
  have h1 : ¬ (n : Int) < 1 := by omega
  have h2 : ¬ (1024 : Int) < (n : Int) := by omega
  have HN := Lib.hid (And.intro hn1 hn)
  clear hn1 hn
  go_enter Tryd.func33, Tryd.ntmps33
  go_wp2_with fail
  refine HR.out.mono ?_
  rintro e w1 ⟨g, rfl, hrow, hg, hb1⟩
  have HB := Lib.hid (HB1.out.trans (hb1.mono HB1.out.size))
  have HROW := Lib.hid hrow
  have HG : Hid (w.heap.size ≤ g) := Lib.hid (by simp at hg; omega)
  have HGL := Lib.hid (blk_lt hrow)
  clear hrow hg hb1
  go_wp2
  go_ret2
  refine ⟨w1.heap.size, g, rfl, ⟨?_, blk_old HROW.out _, by have := HGL.out; omega, by rw [List.length_replicate]; exact Nat.le_refl _, by have := HN.out; omega⟩, HB.out.size, HG.out, HB.out.alloc HB.out.size _⟩
  rw [List.length_replicate]
  exact blk_new _ _
end Go.Proofs.YtnhocmmgdkiepaaDoor
