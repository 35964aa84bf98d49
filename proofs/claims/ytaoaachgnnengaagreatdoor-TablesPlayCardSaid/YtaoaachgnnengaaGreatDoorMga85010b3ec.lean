/-
  Parts of one proof, one behind the other.
-/
import Derived.Test.YtaoaachgnnengaaGreatDoorMg67c367e12d
import Derived.Test.YtaoaachgnnengaaGreatDoorMg76f95e7ea6
import Derived.Laws.CopyRow
import Derived.Laws.CopyOwn
import Derived.Deep.RegionWith
import Derived.Deep.RegionHeld3
/-
  slices.Repeat at frames.Frame, of one frame; frames.New.
-/
namespace Go.Proofs.YtaoaachgnnengaaGreatDoor
open Go.RowKit

theorem infoFr : (Tryz.prog.info? 69).map (fun i => (i.zero, i.size, i.bytes)) = some (some (.agg #[.int .i64 0, .int .i64 0, .int .i64 0, .int .i64 0]), 4, 32) := by kernel_rfl
theorem infoFrS : (Tryz.prog.info? 69).map (·.size) = some 4 := by kernel_rfl
/-- copy of elements of so many cells -/
theorem run_copy_rows {P : Program} (w : World) (dT sT ty elem : TypeId) (g o dLen dCap sz : Nat) (a : Addr) (sLen sCap : Nat) (cur : Array Value) (t : TypeId) (cs : List Value)
    (hu : P.underlying dT = some (.slice elem)) (hs : (P.info? elem).map (·.size) = some sz)
    (hg : w.heap[g]? = some (.cells cur t (0, 0))) (hn : cs.length = Nat.min sLen dLen * sz)
    (hsrc : ∀ j v, cs[j]? = some v → w.cell? (a.add j) = some v) (hfit : o + cs.length ≤ cur.size) (h1 : ∀ v ∈ cs, v.oneCell' = true) :
    (Builtin.copy_ #[dT, sT] ty #[.slice (some ⟨g, o, none⟩) dLen dCap, .slice (some a) sLen sCap]).run P w =
      .ok (goInt (Nat.min sLen dLen)) (w.setRow g (cur.toList.take o ++ cs ++ cur.toList.drop (o + cs.length)).toArray) := by
  have hl := run_loadCells_list (P := P) w a cs hsrc
  have hst := run_storeCells_at P g o t cs 0 cur w hg (by simpa using hfit) h1
  cases hq : P.info? elem with
  | none => simp [hq] at hs
  | some i =>
    have hi : i.size = sz := by simpa [hq] using hs
    simp [Builtin.copy_, run_underlying hu, Builtin.lenOf, Builtin.firstCells, sizeOf, typeInfo, hq, hi, ← hn, hl, hst]
def frZ : Fr := ⟨0, 0, 0, 0⟩
theorem frOne_cell (x : Fr) : ∀ u ∈ frOne x, u.oneCell' = true := by
  intro u hu
  simp only [frOne, List.mem_cons, List.not_mem_nil, or_false] at hu
  rcases hu with rfl | rfl | rfl | rfl <;> rfl
theorem frCells_cell (l : List Fr) : ∀ u ∈ frCells l, u.oneCell' = true := by
  intro u hu
  unfold frCells at hu
  rw [List.mem_flatMap] at hu
  obtain ⟨x, -, hx⟩ := hu
  exact frOne_cell x u hx
theorem frCells_len (l : List Fr) : (frCells l).length = l.length * 4 := rec_len frOne 4 frOne_len l
theorem made_fr (w : World) (n : Nat) (h : n ≤ 1024) : (Instr.makeSlice 96 (.int .i64 (n : Int)) (.int .i64 (n : Int))).run Tryz.prog w = .ok (.slice (some ⟨w.heap.size, 0, none⟩) n n) (w.alloc (.cells (frCells (List.replicate n frZ)).toArray 69)) := by
  obtain ⟨i, hi, hz0, hz1, hz2⟩ := info_parts infoFr
  have e := run_make (P := Tryz.prog) w 96 69 i (.agg #[.int .i64 0, .int .i64 0, .int .i64 0, .int .i64 0]) Tryz.underlying96 hi hz0 .i64 .i64 n n (by omega) (by omega) (by rw [hz2]; omega) (by omega)
  rw [e, hz1, Int.toNat_natCast]
  have : madeCells (Value.agg #[.int .i64 0, .int .i64 0, .int .i64 0, .int .i64 0]).cells (n * 4) = (frCells (List.replicate n frZ)).toArray := by
    rw [show (Value.agg #[.int .i64 0, .int .i64 0, .int .i64 0, .int .i64 0]).cells = #[Value.int IntKind.i64 0, .int .i64 0, .int .i64 0, .int .i64 0] from rfl]
    apply Array.toList_inj.1
    apply List.ext_getElem?
    intro j
    have hz : ∀ k, k < 4 → (#[Value.int IntKind.i64 0, .int .i64 0, .int .i64 0, .int .i64 0] : Array Value)[k]? = some (.int .i64 0) := fun k hk => by
      match k, hk with
      | 0, _ => rfl
      | 1, _ => rfl
      | 2, _ => rfl
      | 3, _ => rfl
    have hc : ∀ m, frCells (List.replicate m frZ) = List.replicate (m * 4) (.int .i64 0) := fun m => by
      induction m with
      | zero => rfl
      | succ m ih =>
        unfold frCells at ih ⊢
        rw [List.replicate_succ, List.flatMap_cons, ih, Nat.succ_mul, Nat.add_comm, ← List.replicate_append_replicate]
        rfl
    rw [hc]
    by_cases hj : j < n * 4
    · simp [madeCells, hj]
      have := hz (j % 4) (Nat.mod_lt _ (by decide))
      rw [List.getElem?_toArray] at this
      rw [this]
      rfl
    · simp [madeCells, hj]
  rw [this]

/-- the first k frames are nobody's, the others nothing -/
def repL (n k : Nat) : List Fr := List.replicate k frNo ++ List.replicate (n - k) frZ
theorem repL_len (n k : Nat) (h : k ≤ n) : (repL n k).length = n := by simp [repL]; omega
theorem repL_splice (n k m : Nat) (h : k + m ≤ n) : (frCells (repL n k)).toArray.toList.take (k * 4) ++ frCells (List.replicate m frNo) ++ (frCells (repL n k)).toArray.toList.drop (k * 4 + (frCells (List.replicate m frNo)).length) = frCells (repL n (k + m)) := by
  rw [frCells_len, List.length_replicate]
  have h1 : (frCells (repL n k)).take (k * 4) = frCells (List.replicate k frNo) := by
    unfold repL frCells
    rw [List.flatMap_append, List.take_append_of_le_length (by rw [rec_len frOne 4 frOne_len, List.length_replicate]; exact Nat.le_refl _), List.take_of_length_le (by rw [rec_len frOne 4 frOne_len, List.length_replicate]; exact Nat.le_refl _)]
  have hd : ∀ (L : List Fr) (q : Nat), (frCells L).drop (q * 4) = frCells (L.drop q) := fun L q => by
    have := rec_part frOne 4 frOne_len L q L.length
    unfold frCells
    rw [List.take_of_length_le (by rw [List.length_drop, rec_len frOne 4 frOne_len]; omega), List.take_of_length_le (by rw [List.length_drop]; omega)] at this
    exact this
  have h2 : (frCells (repL n k)).drop (k * 4 + m * 4) = frCells (List.replicate (n - (k + m)) frZ) := by
    rw [show k * 4 + m * 4 = (k + m) * 4 by omega, hd]
    unfold repL
    rw [List.drop_append, List.drop_of_length_le (by rw [List.length_replicate]; omega), List.length_replicate, List.nil_append, List.drop_replicate]
    congr 2
    omega
  show (frCells (repL n k)).take (k * 4) ++ _ ++ (frCells (repL n k)).drop (k * 4 + m * 4) = _
  rw [h1, h2]
  unfold repL frCells
  rw [← List.flatMap_append, ← List.flatMap_append, ← List.replicate_append_replicate, List.append_assoc]
theorem repL_get (n k : Nat) (j : Nat) (u : Value) (h : (frCells (List.replicate k frNo))[j]? = some u) : (frCells (repL n k))[j]? = some u := by
  unfold repL frCells at *
  rw [List.flatMap_append, List.getElem?_append_left (List.getElem?_eq_some_iff.1 h).1]
  exact h
def RepTo (n g : Nat) (w0 : World) (i : Value) (wr : World) : Prop :=
  ∃ k : Nat, 1 ≤ k ∧ k ≤ n ∧ i = .int .i64 (k : Int) ∧ RecAt frOne 69 wr g (repL n k) ∧ Below g w0 wr

set_option maxRecDepth 100000 in
set_option maxHeartbeats 4000000 in
theorem repeat_one (xb n : Nat) (w : World) (hn1 : 1 ≤ n) (hn : n ≤ 1024) (hx : RecAt frOne 69 w xb [frNo]) :
    Calls Tryz.prog 45 #[.slice (some ⟨xb, 0, none⟩) 1 1, .int .i64 (n : Int)] w fun e w' => ∃ g, e = .returned (.slice (some ⟨g, 0, none⟩) n n) ∧ RecAt frOne 69 w' g (List.replicate n frNo) ∧ w.heap.size ≤ g ∧ Below w.heap.size w w' := by
  have HMUL := Lib.hid (mul_any 1 n (by omega) (by omega))
  have e1 : 1 * n / 18446744073709551616 = 0 := by omega
  have e2 : 1 * n % 18446744073709551616 = n := by omega
  rw [e1, e2] at HMUL
  have hmk := made_fr w n hn
  have hw1 := IntWalk.u64_in (n : Int) (by omega)
  have hw2 := IntWalk.i64_in (n : Int) (by omega)
  have hn0 : ¬ (n : Int) < 0 := by omega
  have hnb : ¬ (9223372036854775807 : Int) < (n : Int) := by omega
  clear e1 e2
  go_enter Tryz.func45, Tryz.ntmps45
  go_wp2_with fail
  refine (HMUL.out _).mono ?_
  rintro e w1 ⟨rfl, rfl⟩
  go_wp2_with fail
  have HCP : Hid ((Builtin.copy_ #[96, 96] 3 #[.slice (some ⟨w1.heap.size, 0, none⟩) n n, .slice (some ⟨xb, 0, none⟩) 1 1]).run Tryz.prog (w1.alloc (.cells (frCells (List.replicate n frZ)).toArray 69)) =
      .ok (.int .i64 1) ((w1.alloc (.cells (frCells (List.replicate n frZ)).toArray 69)).setRow w1.heap.size (frCells (repL n 1)).toArray)) := Lib.hid (by
    have hmin : Nat.min 1 n = 1 := Nat.min_eq_left hn1
    have hxa := blk_old hx (.cells (frCells (List.replicate n frZ)).toArray 69)
    have e := run_copy_rows (P := Tryz.prog) (w1.alloc (.cells (frCells (List.replicate n frZ)).toArray 69)) 96 96 3 69 w1.heap.size 0 n n 4 ⟨xb, 0, none⟩ 1 1 (frCells (List.replicate n frZ)).toArray 69 (frCells (List.replicate 1 frNo))
      Tryz.underlying96 infoFrS (blk_new _ _) (by rw [frCells_len, hmin]; rfl) (fun j v hj => by rw [Addr.add_lit, blk_cell hxa, Nat.zero_add, List.getElem?_toArray]; exact hj)
      (by rw [frCells_len, List.size_toArray, frCells_len, List.length_replicate, List.length_replicate]; omega) (frCells_cell _)
    have hs := repL_splice n 0 1 (by omega)
    rw [show repL n 0 = List.replicate n frZ from by simp [repL]] at hs
    rw [Nat.zero_mul, Nat.zero_add] at hs
    rw [Nat.zero_add] at e
    rw [hs, hmin] at e
    exact e)
  have HROW : Hid (RecAt frOne 69 ((w1.alloc (.cells (frCells (List.replicate n frZ)).toArray 69)).setRow w1.heap.size (frCells (repL n 1)).toArray) w1.heap.size (repL n 1)) := Lib.hid (setRow_heap _ _ _ _ _ _ (blk_new _ _))
  have HBEL : Hid (Below w1.heap.size w1 ((w1.alloc (.cells (frCells (List.replicate n frZ)).toArray 69)).setRow w1.heap.size (frCells (repL n 1)).toArray)) := Lib.hid (below_setRow ((Below.refl _ _).alloc (Nat.le_refl _) _) (Nat.le_refl _) _)
  rw [HCP.out]
  generalize (w1.alloc (.cells (frCells (List.replicate n frZ)).toArray 69)).setRow w1.heap.size (frCells (repL n 1)).toArray = w2 at HROW HBEL ⊢
  have HLT : Hid (w1.heap.size < w2.heap.size) := Lib.hid (blk_lt HROW.out)
  obtain ⟨g, hg⟩ : ∃ g, w1.heap.size = g := ⟨_, rfl⟩
  have HG := Lib.hid hg
  rw [hg] at HROW HBEL HLT ⊢
  have HST : Hid (RepTo n g w2 (.int .i64 1) w2) := Lib.hid ⟨1, Nat.le_refl _, hn1, rfl, HROW.out, Below.refl _ _⟩
  clear hmk HMUL HCP hg
  go_wp2_with fail
  go_loopw [8] (fun i wr => RepTo n g w2 i wr) (fun i _ => n - (intOf i).toNat)
  case atStart => exact HST.out
  case round =>
    obtain ⟨k, hk1, hkn, rfl, hrow, hb⟩ := hrel
    have HR := Lib.hid hrow
    have HB := Lib.hid hb
    clear hrow hb HST
    by_cases hlt : k < n
    · have hki : (k : Int) < (n : Int) := by omega
      have hk0 : (0 : Int) ≤ (k : Int) := by omega
      obtain ⟨m, hm⟩ : ∃ m, Nat.min k (n - k) = m := ⟨_, rfl⟩
      have hmk : k + m ≤ n ∧ 1 ≤ m ∧ m ≤ k ∧ m ≤ n - k := by
        have h1 := Nat.min_le_left k (n - k)
        have h2 := Nat.min_le_right k (n - k)
        have h3 : 1 ≤ Nat.min k (n - k) := Nat.le_min.2 ⟨hk1, by omega⟩
        have hm' : min k (n - k) = m := hm
        have h3' : 1 ≤ min k (n - k) := h3
        omega
      have HCPY : Hid (∀ W, W.heap[g]? = wr.heap[g]? → (Builtin.copy_ #[96, 96] 3 #[.slice (some ⟨g, k * 4, none⟩) (n - k) (n - k), .slice (some ⟨g, 0, none⟩) k n]).run Tryz.prog W = .ok (.int .i64 (m : Int)) (W.setRow g (frCells (repL n (k + m))).toArray)) := Lib.hid fun W hW => by
        have hx' : W.heap[g]? = some (.cells (frCells (repL n k)).toArray 69 (0, 0)) := hW.trans HR.out
        have e := run_copy_rows (P := Tryz.prog) W 96 96 3 69 g (k * 4) (n - k) (n - k) 4 ⟨g, 0, none⟩ k n (frCells (repL n k)).toArray 69 (frCells (List.replicate m frNo))
          Tryz.underlying96 infoFrS hx' (by rw [frCells_len, List.length_replicate, hm]) (fun j v hj => by
            rw [Addr.add_lit, blk_cell hx', Nat.zero_add, List.getElem?_toArray]
            refine repL_get n k j v ?_
            have hjl := (List.getElem?_eq_some_iff.1 hj).1
            rw [show k = m + (k - m) by omega, ← List.replicate_append_replicate]
            rw [show frCells (List.replicate m frNo ++ List.replicate (k - m) frNo) = frCells (List.replicate m frNo) ++ frCells (List.replicate (k - m) frNo) from List.flatMap_append, List.getElem?_append_left hjl]
            exact hj)
          (by rw [frCells_len, List.size_toArray, frCells_len, repL_len n k hkn, List.length_replicate]; omega) (frCells_cell _)
        rw [repL_splice n k m hmk.1, hm] at e
        exact e
      have hcp1 := HCPY.out wr rfl
      have hcp2 := HCPY.out wr.drew rfl
      have HN : Hid (∀ W : World, W.heap[g]? = wr.heap[g]? → RecAt frOne 69 (W.setRow g (frCells (repL n (k + m))).toArray) g (repL n (k + m))) := Lib.hid fun W hW => setRow_heap _ _ _ _ _ _ (hW.trans HR.out)
      have hadd := IntWalk.i64_in ((k : Int) + (m : Int)) (by omega)
      go_wp2_with fail
      go_region
      all_goals
        go_wp2
        go_roundw
        case rel => exact ⟨k + m, by omega, hmk.1, by go_num, HN.out _ rfl, below_setRow HB.out.drew (Nat.le_refl _) _⟩
        case measure => simp [intOf]; omega
    · obtain rfl : k = n := by omega
      go_wp2
      go_ret
      refine ⟨g, rfl, ?_, by rw [HG.out]; exact Nat.le_refl _, by rw [HG.out]; exact HBEL.out.trans HB.out⟩
      have := HR.out
      rw [show repL k k = List.replicate k frNo from by simp [repL]] at this
      exact this

set_option maxRecDepth 100000 in
set_option maxHeartbeats 1600000 in
theorem fnew_bad (E : Nat → Addr) (n : Int) (w : World) (hE : ErrsAt errT gOf w E all16) (h : n < 1 ∨ 1024 < n) :
    Calls Tryz.prog 16 #[.int .i64 n] w fun e w' => e = .returned (.tuple #[.pointer none, errV (E 2)]) ∧ Below w.heap.size w w' := by
  have e2 : w.cell? ⟨0, 0, none⟩ = some (errV (E 2)) := (hE.1 2 (by decide)).1
  have hc : n < 1 ∨ (¬ n < 1 ∧ 1024 < n) := by omega
  clear hE h
  rcases hc with hc | ⟨hc, hd⟩
  all_goals
    go_enter Tryz.func16, Tryz.ntmps16
    go_wp2_with fail
    go_quiet (fail)
    go_wp2
    go_ret2
    exact ⟨rfl, below_drewN (Below.refl _ _) _⟩
set_option maxRecDepth 100000 in
set_option maxHeartbeats 1600000 in
theorem fnew_ok (n : Nat) (w : World) (hn1 : 1 ≤ n) (hn : n ≤ 1024) :
    Calls Tryz.prog 16 #[.int .i64 (n : Int)] w fun e w' => ∃ b g, e = .returned (.tuple #[.pointer (some ⟨b, 0, none⟩), .nilIface]) ∧ FrAt 99 69 w' b g n (List.replicate n frNo) ∧ w.heap.size ≤ b ∧ w.heap.size ≤ g ∧ Below w.heap.size w w' := by
  have HB1 : Hid (Below w.heap.size w (w.alloc (.cells #[.int .i64 (-1), .int .i64 0, .int .i64 0, .int .i64 0] 69))) := Lib.hid ((Below.refl _ _).alloc (Nat.le_refl _) _)
  have HR := Lib.hid (repeat_one w.heap.size n (w.alloc (.cells #[.int .i64 (-1), .int .i64 0, .int .i64 0, .int .i64 0] 69)) hn1 hn (blk_new w _))
  have h1 : ¬ (n : Int) < 1 := by omega
  have h2 : ¬ (1024 : Int) < (n : Int) := by omega
  have HN := Lib.hid (And.intro hn1 hn)
  clear hn1 hn
  go_enter Tryz.func16, Tryz.ntmps16
  go_wp2_with fail
  refine HR.out.mono ?_
  rintro e w1 ⟨g, rfl, hrow, hg, hb1⟩
  have HB := Lib.hid (HB1.out.trans (hb1.mono HB1.out.size))
  have HROW := Lib.hid hrow
  have HG : Hid (w.heap.size ≤ g) := Lib.hid (by simp at hg; omega)
  have HGL := Lib.hid (blk_lt hrow)
  clear hrow hg hb1
  go_wp2
  go_ret2
  refine ⟨w1.heap.size, g, rfl, ⟨?_, blk_old HROW.out _, by have := HGL.out; omega, by rw [List.length_replicate]; exact Nat.le_refl _, by have := HN.out; omega⟩, HB.out.size, HG.out, HB.out.alloc HB.out.size _⟩
  rw [List.length_replicate]
  exact blk_new _ _
end Go.Proofs.YtaoaachgnnengaaGreatDoor

/-
  Tables of nothing, while they are made: plain laws.
-/
namespace Go.Proofs.YtaoaachgnnengaaGreatDoor
open Go.RowKit

/-- frames: o of another one's, k of whose tables are made -/
def frU (n o k : Nat) (who : Int) : List Fr := (List.range n).map fun i => if i < o then ⟨3, 0, 0, 0⟩ else if i < o + k then ⟨who, 0, 0, 0⟩ else frNo
/-- the same, k of 17 tables made -/
def frM (n o k : Nat) (who : Int) : List Fr := (List.range n).map fun i => if i < o then ⟨3, 0, 0, 0⟩ else if i < o + 17 then (if i < o + k then ⟨who, if i = o then 1 else 2, 0, 1⟩ else ⟨who, 0, 0, 0⟩) else frNo
def rngF (o k : Nat) : List Int := (List.range k).map fun i => ((o + i : Nat) : Int)
theorem frU_len (n o k : Nat) (who : Int) : (frU n o k who).length = n := by simp [frU]
theorem frM_len (n o k : Nat) (who : Int) : (frM n o k who).length = n := by simp [frM]
theorem frU_get (n o k i : Nat) (who : Int) (h : i < n) : (frU n o k who).getD i default = if i < o then ⟨3, 0, 0, 0⟩ else if i < o + k then ⟨who, 0, 0, 0⟩ else frNo := by simp [frU, h]
theorem frM_get (n o k i : Nat) (who : Int) (h : i < n) : (frM n o k who).getD i default = if i < o then ⟨3, 0, 0, 0⟩ else if i < o + 17 then (if i < o + k then ⟨who, if i = o then 1 else 2, 0, 1⟩ else ⟨who, 0, 0, 0⟩) else frNo := by simp [frM, h]
theorem fr_ext {xs ys : List Fr} (hl : xs.length = ys.length) (h : ∀ i, i < xs.length → xs.getD i default = ys.getD i default) : xs = ys := by
  apply List.ext_getElem hl
  intro i h1 h2
  have := h i h1
  rw [List.getD_eq_getElem?_getD, List.getD_eq_getElem?_getD, List.getElem?_eq_getElem h1, List.getElem?_eq_getElem h2] at this
  exact this
theorem fr_setD (l : List Fr) (a i : Nat) (x : Fr) (ha : a < l.length) : (l.set a x).getD i default = if i = a then x else l.getD i default := by
  rw [List.getD_eq_getElem?_getD, List.getElem?_set]
  by_cases h : a = i
  · subst h
    simp [ha]
  · rw [if_neg h, if_neg (fun e => h e.symm), ← List.getD_eq_getElem?_getD]
theorem rngF_len (o k : Nat) : (rngF o k).length = k := by simp [rngF]
theorem rngF_get (o k i : Nat) (h : i < k) : (rngF o k).getD i 0 = ((o + i : Nat) : Int) := by simp [rngF, h]
theorem rngF_succ (o k : Nat) : rngF o (k + 1) = rngF o k ++ [((o + k : Nat) : Int)] := by simp [rngF, List.range_succ]
theorem rngF_mem (o k : Nat) (x : Int) (h : x ∈ rngF o k) : ∃ i, i < k ∧ x = ((o + i : Nat) : Int) := by
  unfold rngF at h
  obtain ⟨i, hi, rfl⟩ := List.mem_map.1 h
  exact ⟨i, List.mem_range.1 hi, rfl⟩
theorem frOwns_ne {who : Int} (h : frOwns who) : who ≠ -1 := by unfold frOwns at h; omega
theorem frU_alloc (n o k : Nat) (who : Int) (hw : frOwns who) (hk : o + k < n) : frAlloc (frU n o k who) who = ⟨frU n o (k + 1) who, ((o + k : Nat) : Int), 0⟩ := by
  have hf : frFree (frU n o k who) = some (o + k) := frFree_is (by rw [frU_len]; exact hk) (by rw [frU_get n o k _ who hk, if_neg (by omega), if_neg (by omega)]; rfl) fun i hi => by
    rw [frU_get n o k i who (by omega)]
    split
    · decide
    · first | exact frOwns_ne hw | (rw [if_pos (by omega)]; exact frOwns_ne hw)
  unfold frAlloc
  rw [if_pos hw, hf]
  dsimp only
  congr 1
  apply fr_ext
  · rw [List.length_set, frU_len, frU_len]
  · intro i hi
    rw [List.length_set, frU_len] at hi
    rw [fr_setD _ _ _ _ (by rw [frU_len]; exact hk), frU_get n o (k + 1) i who hi]
    by_cases h : i = o + k
    · subst h
      rw [if_pos rfl, if_neg (by omega), if_pos (by omega), frU_get n o k _ who hk, if_neg (by omega), if_neg (by omega)]
      rfl
    · rw [if_neg h, frU_get n o k i who hi]
      by_cases h1 : i < o
      · rw [if_pos h1, if_pos h1]
      · rw [if_neg h1, if_neg h1]
        by_cases h2 : i < o + k
        · rw [if_pos h2, if_pos (by omega)]
        · rw [if_neg h2, if_neg (by omega)]
theorem frM_zero (n o : Nat) (who : Int) : frM n o 0 who = frU n o 17 who := by
  apply fr_ext
  · rw [frM_len, frU_len]
  · intro i hi
    rw [frM_len] at hi
    rw [frM_get n o 0 i who hi, frU_get n o 17 i who hi]
    split
    · rfl
    · split
      · rw [if_neg (by omega)]
      · rfl
theorem frM_at (n o k : Nat) (who : Int) (hw : frOwns who) (hn : o + 17 ≤ n) (hk : k < 17) : frAt (frM n o k who) ((o + k : Nat) : Int) = some (o + k) := by
  unfold frAt
  rw [if_pos ⟨by omega, by rw [frM_len]; omega, by
    rw [Int.toNat_natCast, frM_get n o k _ who (by omega), if_neg (by omega), if_pos (by omega), if_neg (by omega)]
    exact frOwns_ne hw⟩, Int.toNat_natCast]
/-- a table's frame is made one -/
theorem frM_make (n o k : Nat) (who : Int) (hw : frOwns who) (hn : o + 17 ≤ n) (hk : k < 17) : frMine (frM n o k who) ((o + k : Nat) : Int) who (kMake (if k = 0 then 1 else 2)) = ⟨(frM n o k who).set (o + k) ⟨who, if k = 0 then 1 else 2, 0, 0⟩, 0, 0⟩ := by
  unfold frMine
  rw [frM_at n o k who hw hn hk]
  dsimp only
  have hg : (frM n o k who).getD (o + k) default = ⟨who, 0, 0, 0⟩ := by rw [frM_get n o k _ who (by omega), if_neg (by omega), if_pos (by omega), if_neg (by omega)]
  rw [hg, if_pos rfl]
  rfl
/-- it is used -/
theorem frM_use (n o k : Nat) (who : Int) (hw : frOwns who) (hn : o + 17 ≤ n) (hk : k < 17) : frThere ((frM n o k who).set (o + k) ⟨who, if k = 0 then 1 else 2, 0, 0⟩) ((o + k : Nat) : Int) kUse = ⟨frM n o (k + 1) who, 0, 0⟩ := by
  obtain ⟨kd, hkd⟩ : ∃ kd : Int, (if k = 0 then 1 else 2) = kd := ⟨_, rfl⟩
  have hk2 : (if o + k = o then (1 : Int) else 2) = kd := by
    rw [← hkd]
    by_cases h0 : k = 0
    · rw [if_pos (show o + k = o by omega), if_pos h0]
    · rw [if_neg (show ¬ o + k = o by omega), if_neg h0]
  rw [hkd]
  have hl : o + k < (frM n o k who).length := by rw [frM_len]; omega
  have hg : ((frM n o k who).set (o + k) ⟨who, kd, 0, 0⟩).getD (o + k) default = ⟨who, kd, 0, 0⟩ := by rw [fr_setD _ _ _ _ hl, if_pos rfl]
  have hat : frAt ((frM n o k who).set (o + k) ⟨who, kd, 0, 0⟩) ((o + k : Nat) : Int) = some (o + k) := by
    unfold frAt
    rw [if_pos ⟨by omega, by rw [List.length_set]; omega, by rw [Int.toNat_natCast, hg]; exact frOwns_ne hw⟩, Int.toNat_natCast]
  unfold frThere
  rw [hat]
  dsimp only
  rw [hg]
  unfold kUse
  dsimp only
  congr 1
  rw [List.set_set]
  apply fr_ext
  · rw [List.length_set, frM_len, frM_len]
  · intro i hi
    rw [List.length_set, frM_len] at hi
    rw [fr_setD _ _ _ _ hl, frM_get n o (k + 1) i who hi]
    by_cases h : i = o + k
    · subst h
      rw [if_pos rfl, if_neg (show ¬ o + k < o by omega), if_pos (show o + k < o + 17 by omega), if_pos (show o + k < o + (k + 1) by omega), hk2]
      rfl
    · rw [if_neg h, frM_get n o k i who hi]
      by_cases h1 : i < o
      · rw [if_pos h1, if_pos h1]
      · rw [if_neg h1, if_neg h1]
        by_cases h2 : i < o + 17
        · rw [if_pos h2, if_pos h2]
          by_cases h3 : i < o + k
          · rw [if_pos h3, if_pos (show i < o + (k + 1) by omega)]
          · rw [if_neg h3, if_neg (show ¬ i < o + (k + 1) by omega)]
        · rw [if_neg h2, if_neg h2]
/-- memory, as many tables made -/
def tM (M : List Int) (o : Nat) : Nat → List Int
  | 0 => M
  | k + 1 => if k = 0 then fillL (tM M o k) (o + k) [] else putE (fillL (tM M o k) (o + k) []) (o : Int) ((k : Int) - 1) ⟨((o + k : Nat) : Int), true, true, true⟩
theorem putE_ok (l : List Int) (f i : Int) (g : Nat) (h : g < 1024) : putE l f i ⟨(g : Int), true, true, true⟩ = writeL l (f * 16 + i) (entW (g : Int) true true true) := by
  unfold putE bitsA
  have hok : entOkB (g : Int) true true true = true := (entOkB_iff _ _ _ _).2 ⟨by omega, by omega, fun h => by cases h⟩
  rw [if_pos hok]
  rfl
theorem wlen (l : List Int) (i x : Int) : (writeL l i x).length = l.length := by
  unfold writeL
  split
  · simp
  · rfl
theorem tM_len (M : List Int) (o : Nat) : ∀ k, k ≤ 17 → o + k ≤ 1024 → (tM M o k).length = M.length
  | 0, _, _ => rfl
  | k + 1, hk, ho => by
    unfold tM
    split
    · rw [fillL_len, tM_len M o k (by omega) (by omega)]
    · rw [putE_ok _ _ _ _ (by omega), wlen, fillL_len, tM_len M o k (by omega) (by omega)]
theorem tM_get (M : List Int) (n o j : Nat) (hM : M.length = 16 * n) (hn : n ≤ 1024) : ∀ k, k ≤ 17 → o + k ≤ n → (tM M o k).getD j 0 = if 16 * o ≤ j ∧ j + 1 < 16 * o + k then entW ((o + 1 + (j - 16 * o) : Nat) : Int) true true true else if 16 * o ≤ j ∧ j < 16 * (o + k) then 0 else M.getD j 0
  | 0, _, _ => by
    rw [if_neg (by omega), if_neg (by omega)]
    rfl
  | k + 1, hk, hok => by
    have ih := tM_get M n o j hM hn k (by omega) (by omega)
    have hlen := tM_len M o k (by omega) (by omega)
    have hf : (fillL (tM M o k) (o + k) []).getD j 0 = if 16 * (o + k) ≤ j ∧ j < 16 * (o + k) + 16 then 0 else (tM M o k).getD j 0 := by
      rw [fillL_get _ n (o + k) [] j (by rw [hlen, hM]) (by omega) (by decide)]
      split
      · simp
      · rfl
    unfold tM
    by_cases h0 : k = 0
    · rw [if_pos h0, hf]
      subst h0
      rw [ih]
      by_cases h1 : 16 * o ≤ j ∧ j < 16 * o + 16
      · rw [if_pos (by omega), if_neg (by omega), if_pos (by omega)]
      · rw [if_neg (by omega), if_neg (by omega), if_neg (by omega), if_neg (by omega), if_neg (by omega)]
    · rw [if_neg h0, putE_ok _ _ _ _ (by omega), show (o : Int) * 16 + ((k : Int) - 1) = ((16 * o + (k - 1) : Nat) : Int) by omega]
      unfold writeL
      rw [if_pos (by rw [fillL_len, hlen, hM]; omega), Int.toNat_natCast, setD_get _ _ _ _ (by rw [fillL_len, hlen, hM]; omega), hf]
      by_cases h1 : j = 16 * o + (k - 1)
      · rw [if_pos h1, if_pos (by omega), show o + 1 + (j - 16 * o) = o + k by omega]
      · rw [if_neg h1, ih]
        by_cases h2 : 16 * (o + k) ≤ j ∧ j < 16 * (o + k) + 16
        · rw [if_pos h2, if_neg (by omega), if_pos (by omega)]
        · rw [if_neg h2]
          by_cases h3 : 16 * o ≤ j ∧ j + 1 < 16 * o + k
          · rw [if_pos h3, if_pos (show 16 * o ≤ j ∧ j + 1 < 16 * o + (k + 1) by omega)]
          · rw [if_neg h3, if_neg (show ¬ (16 * o ≤ j ∧ j + 1 < 16 * o + (k + 1)) by omega)]
            by_cases h4 : 16 * o ≤ j ∧ j < 16 * (o + k)
            · rw [if_pos h4, if_pos (show 16 * o ≤ j ∧ j < 16 * (o + (k + 1)) by omega)]
            · rw [if_neg h4, if_neg (show ¬ (16 * o ≤ j ∧ j < 16 * (o + (k + 1))) by omega)]
/-- tables of nothing -/
def tNew (n o : Nat) (who : Int) : Ts := ⟨n, tM (List.replicate (16 * n) 0) o 17, frM n o 17 who, rngF o 17, who⟩
set_option maxRecDepth 100000 in
theorem tNew_inv (n o : Nat) (who : Int) (hw : frOwns who) (hn : o + 17 ≤ n) (hn2 : n ≤ 1024) : TInv 1 (tNew n o who) := by
  have hM : (List.replicate (16 * n) (0 : Int)).length = 16 * n := List.length_replicate
  refine ⟨hn2, ?_, frM_len _ _ _ _, fun j => ?_, fun x hx => ?_, by show 17 ≤ (rngF o 17).length; rw [rngF_len]; exact Nat.le_refl _, by show (rngF o 17).length ≤ 512; rw [rngF_len]; decide, fun i hi => ?_, fun i j hi hj e => ?_, fun k hk => ?_⟩
  · exact (tM_len _ o 17 (by omega) (by omega)).trans hM
  · show W32 ((tM (List.replicate (16 * n) 0) o 17).getD j 0)
    rw [tM_get _ n o j hM hn2 17 (by omega) hn]
    split
    · have hok : entOk ((o + 1 + (j - 16 * o) : Nat) : Int) true true true := ⟨by omega, by omega, fun h => by cases h⟩
      exact ⟨(entW_range hok).1, by have := (entW_range hok).2; omega⟩
    · split
      · exact w32_zero
      · rw [repD_get]; exact w32_zero
  · have hx' : x ∈ frM n o 17 who := hx
    obtain ⟨i, hi, rfl⟩ := List.mem_map.1 hx'
    have hne := frOwns_ne hw
    unfold frIn
    split
    · exact ⟨fun h => (by cases h), by decide, by decide, by decide, by decide, fun _ => rfl⟩
    · split
      · split
        all_goals
          first
          | exact ⟨fun h => absurd h hne, by show (0 : Int) ≤ 0; decide, by show (0 : Int) ≤ 1; decide, by show (0 : Int) ≤ 1; decide, by show (1 : Int) ≤ 1; decide, fun _ => rfl⟩
          | exact ⟨fun h => absurd h hne, by show (0 : Int) ≤ 0; decide, by show (0 : Int) ≤ 1; decide, by show (0 : Int) ≤ 0; decide, by show (0 : Int) ≤ 1; decide, fun _ => rfl⟩
      · exact ⟨fun _ => rfl, by decide, by decide, by decide, by decide, fun _ => rfl⟩
  · have hi' : i < 17 := by have := hi; rw [show (tNew n o who).P = rngF o 17 from rfl, rngF_len] at this; exact this
    rw [show (tNew n o who).P = rngF o 17 from rfl, rngF_get o 17 i hi']
    refine ⟨by omega, by show ((o + i : Nat) : Int) < (n : Int); omega, ?_⟩
    show ((frM n o 17 who).getD (((o + i : Nat) : Int)).toNat default).owner ≠ -1
    rw [Int.toNat_natCast, frM_get n o 17 _ who (by omega), if_neg (by omega), if_pos (by omega), if_pos (by omega)]
    exact frOwns_ne hw
  · rw [show (tNew n o who).P = rngF o 17 from rfl, rngF_len] at hi hj
    rw [show (tNew n o who).P = rngF o 17 from rfl, rngF_get o 17 i hi, rngF_get o 17 j hj] at e
    omega
  · rw [show (tNew n o who).P = rngF o 17 from rfl, rngF_get o 17 0 (by decide), rngF_get o 17 (k + 1) (by omega)]
    show (tM (List.replicate (16 * n) 0) o 17).getD _ 0 = _
    rw [tM_get _ n o _ hM hn2 17 (by omega) hn, Int.toNat_natCast, if_pos (by omega), show o + 1 + (16 * (o + 0) + k - 16 * o) = o + (k + 1) by omega]
end Go.Proofs.YtaoaachgnnengaaGreatDoor

/-
  pt.Tables.entry.
-/
namespace Go.Proofs.YtaoaachgnnengaaGreatDoor
open Go.RowKit

theorem ent_kept {w wx w3 : World} {o : Obj} (h : wx.heap[w.heap.size]? = some o) (hb : Below wx.heap.size wx w3) : w3.heap[w.heap.size]? = some o := blk_below h hb (blk_lt h)
set_option maxRecDepth 100000 in
set_option maxHeartbeats 3200000 in
theorem tentry_any (p : Pl) (s : Ts) (m : Int) (page : Int) (w : World) (h : PtAt w p s) (hi : TInv m s) :
    Calls Tryz.prog 41 #[.pointer (some ⟨p.tb, 0, none⟩), .int .i64 page] w fun y w' => y = .returned (.tuple #[(tEnt s page).v, .bool (tEnt s page).t]) ∧ Below w.heap.size w w' := by
  have hb0 : Below w.heap.size w (w.alloc (.cells #[.int .i64 0, .bool false, .bool false, .bool false] 34)) := (Below.refl _ _).alloc (Nat.le_refl _) _
  have HPG : Hid (∀ wx, Below w.heap.size w wx → Calls Tryz.prog 80 #[.pointer (some ⟨p.mb, 0, none⟩), .int .i64 (s.P.getD 0 0), .int .i64 page] wx fun y w' => y = .returned (.tuple #[(tEnt s page).v, .bool (tEnt s page).t]) ∧ Below wx.heap.size wx w') := Lib.hid fun wx hb => by
    have := page_any s.M p.mb s.n p.mv (s.P.getD 0 0) page wx (h.mem.below hb) hi.n1 hi.w32
    rw [tEnt_page hi page] at this
    exact this
  have h1 := h.below hb0
  obtain ⟨c0, -, -, -, c4⟩ := h1.cells
  obtain ⟨g, cap, hl, hg, hcell⟩ := h1.list hi.p17
  rw [hl] at c4
  have ct := hcell 0 (by decide)
  obtain ⟨t0, ht0⟩ : ∃ x, s.P.getD 0 0 = x := ⟨_, rfl⟩
  rw [ht0] at ct HPG
  obtain ⟨⟨ef, et, ew, eu⟩, he⟩ : ∃ e, tEnt s page = e := ⟨_, rfl⟩
  rw [he] at HPG ⊢
  unfold Ent.v at HPG ⊢
  dsimp only at HPG ⊢
  have HB0 := Lib.hid hb0
  have HBN : Hid ((w.alloc (.cells #[.int .i64 0, .bool false, .bool false, .bool false] 34)).drew.heap[w.heap.size]? = some (.cells #[.int .i64 0, .bool false, .bool false, .bool false] 34 (0, 0))) := Lib.hid (blk_new w (.cells #[.int .i64 0, .bool false, .bool false, .bool false] 34))
  have ltb := blk_lt h1.row
  have HTB : Hid (p.tb < w.heap.size) := Lib.hid (blk_lt h.row)
  clear h hi h1 hl hcell ht0 he hb0
  go_enter Tryz.func41, Tryz.ntmps41
  go_wp2_with fail
  go_region_with (first | (go_at_call 80; refine (HPG.out _ (by first | exact HB0.out | exact HB0.out.drew)).mono ?_; rintro e w3 ⟨rfl, hb3⟩; have hk := ent_kept HBN.out hb3; have f0 := blk_free hk 0; have f1 := blk_free hk 1; have f2 := blk_free hk 2; have f3 := blk_free hk 3; have z0 := blk_cell hk 0; have z1 := blk_cell hk 1; have z2 := blk_cell hk 2; have z3 := blk_cell hk 3))
  all_goals
    go_wp2
    refine bodyPost_ret (v := .tuple #[.agg #[.int .i64 ef, .bool et, .bool ew, .bool eu], .bool et]) (by simp [results, Tryz.results41, go_sem, z0, z1, z2, z3]) rfl ⟨rfl, ?_⟩
    exact (((((HB0.out.drew.trans (hb3.mono HB0.out.drew.size))).setCell (p := ⟨w.heap.size, 0, none⟩) (Nat.le_refl _) _).setCell (p := ⟨w.heap.size, 1, none⟩) (Nat.le_refl _) _).setCell (p := ⟨w.heap.size, 2, none⟩) (Nat.le_refl _) _).setCell (p := ⟨w.heap.size, 3, none⟩) (Nat.le_refl _) _
end Go.Proofs.YtaoaachgnnengaaGreatDoor

/-
  pt.Tables.Drop.
-/
namespace Go.Proofs.YtaoaachgnnengaaGreatDoor
open Go.RowKit

/-- what tables write -/
def Pl.zw (p : Pl) (k : Nat) : Prop := inRow p.mv k ∨ k = p.fg ∨ k = p.pb ∨ inRow p.pv k
def PtQ (E : Nat → Addr) (p : Pl) (R : Ts × Int) (w : World) (e : Ending) (w' : World) : Prop := e = .returned (errC E R.2) ∧ PtAt w' p R.1 ∧ Only p.zw w w'
def ErrsK (E : Nat → Addr) (p : Pl) (w : World) : Prop := ∀ wx, Only p.zw w wx → ErrsAt errT gOf wx E nine
theorem ErrsK.next {E : Nat → Addr} {p : Pl} {w w' : World} (h : ErrsK E p w) (ho : Only p.zw w w') : ErrsK E p w' := fun wx hx => h wx (ho.trans hx)
theorem zw_m {p : Pl} {w w' : World} (h : Only (fun k => inRow p.mv k) w w') : Only p.zw w w' := h.mono fun _ hi => .inl (.inl hi)
theorem zw_f {p : Pl} {w w' : World} (h : Only (fun k => k = p.fg) w w') : Only p.zw w w' := h.mono fun _ hi => .inl (.inr (.inl hi))
theorem PtAt.free {w w' : World} {p : Pl} {s : Ts} (h : PtAt w p s) (k : Nat) (hk : w.heap.size ≤ k) : ¬ p.zw k := by
  intro hz
  rcases hz with hz | hz | hz | hz
  · have := own_lt h.mem.2.1 hz; omega
  · have := h.fr.lt.2; omega
  · have := blk_lt h.pm.1; omega
  · have := own_lt h.pm.2 hz; omega

set_option maxRecDepth 100000 in
set_option maxHeartbeats 3200000 in
theorem tdrop_any (E : Nat → Addr) (p : Pl) (s : Ts) (m : Int) (page : Int) (w : World) (hE : ErrsK E p w) (h : PtAt w p s) (hi : TInv m s) (hm : m ≤ 1000000) :
    Calls Tryz.prog 39 #[.pointer (some ⟨p.tb, 0, none⟩), .int .i64 page] w (PtQ E p (tDrop s page) w) := by
  have HPA := Lib.hid (fun wx => tpage_any page wx)
  by_cases hp : isPage page = true
  · have HEN := Lib.hid (tentry_any p s m page w h hi)
    rw [hp] at HPA
    by_cases ht : (tEnt s page).t = true
    · have HR : Hid (tDrop s page = ({ s with F := tDropF s page, M := writeL s.M (tWord s page.toNat : Int) 0 }, 0)) := Lib.hid (by unfold tDrop; rw [if_pos hp, if_pos ht])
      rw [HR.out]
      have HH := Lib.hid h
      have HFB := Lib.hid (frOk_b hi.fok hm)
      have HEE := Lib.hid hE
      have hpg : 0 ≤ page ∧ page < 256 := by simpa [isPage] using hp
      obtain ⟨j, rfl⟩ : ∃ j : Nat, page = (j : Int) := ⟨page.toNat, by omega⟩
      have hP := hi.p17
      have h1 := hi.pin (1 + j / 16) (by omega)
      have hn := hi.n1
      have HLI : Hid (∀ wx, Below w.heap.size w wx → ∃ g cap, p.lv = .slice (some ⟨g, 0, none⟩) 17 cap ∧ g < wx.heap.size ∧ ∀ k, k < 17 → wx.cell? ⟨g, k, none⟩ = some (.int .i64 (s.P.getD k 0))) := Lib.hid fun wx hb => (h.below hb).list hP
      have HP17 := Lib.hid hP
      have hj : j < 256 := by omega
      obtain ⟨a, ha⟩ : ∃ a, j / 16 = a := ⟨_, rfl⟩
      obtain ⟨k, hk⟩ : ∃ k, 1 + a = k := ⟨_, rfl⟩
      obtain ⟨r, hr⟩ : ∃ r, j % 16 = r := ⟨_, rfl⟩
      have wq : wrap64 ((j : Int).tdiv 16) = (a : Int) := by rw [Int.tdiv_eq_ediv_of_nonneg (by omega)]; exact (IntWalk.wrap64_in _ (by omega)).trans (by omega)
      have wq' : IntKind.i64.wrap ((j : Int) / 16) = (a : Int) := (IntWalk.i64_in _ (by omega)).trans (by omega)
      have wq1 : IntKind.i64.wrap (1 + (a : Int)) = (k : Int) := (IntWalk.i64_in _ (by omega)).trans (by omega)
      have wr : (j : Int).tmod 16 = (r : Int) := by rw [Int.tmod_eq_emod_of_nonneg (by omega)]; omega
      have wi0 : (0 : Int) ≤ (k : Int) := by omega
      have wi1 : (k : Int) < 17 := by omega
      rw [ha, hk] at h1
      have HTW : Hid (s.P.getD k 0 * 16 + (r : Int) = ((tWord s j : Nat) : Int)) := Lib.hid (by unfold tWord; rw [ha, hk, hr]; omega)
      have hb16 : 0 ≤ s.P.getD k 0 ∧ s.P.getD k 0 < 1024 := by omega
      obtain ⟨t1, ht1⟩ : ∃ x, s.P.getD k 0 = x := ⟨_, rfl⟩
      rw [ht1] at HTW hb16
      have HT1 := Lib.hid ht1
      have wm := IntWalk.i64_in (t1 * 16) (by omega)
      have ws : IntKind.i64.wrap (t1 * 16 + (r : Int)) = ((tWord s j : Nat) : Int) := (IntWalk.i64_in _ (by omega)).trans HTW.out
      rw [Int.toNat_natCast]
      obtain ⟨F1, hF1⟩ : ∃ F1, tDropF s (j : Int) = F1 := ⟨_, rfl⟩
      rw [hF1]
      unfold tDropF at hF1
      obtain ⟨⟨ef, et, ew, eu⟩, he⟩ : ∃ e, tEnt s (j : Int) = e := ⟨_, rfl⟩
      rw [he] at HEN ht hF1
      unfold Ent.v at HEN
      dsimp only at HEN ht hF1
      have HF1 := Lib.hid hF1
      subst ht
      clear hE h hi hp he hpg h1 hP hn HR hF1 ht1 ha hk hr hj
      go_enter Tryz.func39, Tryz.ntmps39
      go_wp2_with fail
      refine (HPA.out _).mono ?_
      rintro y w1 ⟨rfl, rfl⟩
      go_wp2_with fail
      refine HEN.out.mono ?_
      rintro y w2 ⟨rfl, hb2⟩
      have HB2 := Lib.hid (hb2.alloc hb2.size (.cells #[.int .i64 ef, .bool true, .bool ew, .bool eu] 34))
      have HB2d := Lib.hid HB2.out.drew
      have HH2 := Lib.hid (HH.out.below HB2.out)
      obtain ⟨-, c1, -, -, -⟩ := HH2.out.cells
      have hnew := blk_new w2 (.cells #[.int .i64 ef, .bool true, .bool ew, .bool eu] 34)
      have ce0 := blk_cell hnew 0
      have ltb := blk_lt HH2.out.row
      cases ew
      · have HU := Lib.hid (funuse_any E s.F p.fb p.fg s.n ef _ HFB.out ((HEE.out _ (Only.of_below HB2d.out))) (HH.out.below HB2d.out).fr)
        clear hb2 hnew
        go_wp2_with fail
        go_region_with (first | (go_at_call 75; refine HU.out.mono ?_; rintro e w3 ⟨rfl, hf3, ho3⟩))
        all_goals
          have HO3 := Lib.hid ((Only.of_below HB2d.out).trans (zw_f ho3))
          have HH3 : Hid (PtAt w3 p { s with F := F1 }) := Lib.hid ((HH.out.below HB2d.out).fr' ho3 (by rw [← HF1.out]; exact hf3))
          obtain ⟨c0, -, -, -, c4⟩ := HH3.out.cells
          obtain ⟨g, cap, hl, hg, hcell⟩ := HH3.out.list HP17.out
          rw [hl] at c4
          have ct := hcell k (by omega)
          have ct1 : w3.cell? ⟨g, k, none⟩ = some (.int .i64 t1) := ct.trans (by rw [HT1.out])
          have ltb := blk_lt HH3.out.row
          have HW := Lib.hid (fun wx (hx : Below w3.heap.size w3 wx) => mm_write s.M p.mb s.n p.mv ((tWord s j : Nat) : Int) 0 wx (HH3.out.below hx).mem)
          clear hf3 ho3 hl hcell c1 ce0 ct
          go_wp2_with fail
          go_region_with (first | (go_at_call 76; refine (HW.out _ (by first | exact (Below.refl _ _).drew | exact Below.refl _ _)).mono ?_; rintro e w4 ⟨rfl, hm4, ho4⟩))
          all_goals
            have HO4 := Lib.hid (HO3.out.trans ((Only.refl _ _).drew.trans (zw_m ho4)))
            have HH4 := Lib.hid ((HH3.out.below (Below.refl _ _).drew).mem' ho4 hm4)
            clear hm4 ho4
            go_wp2
            go_ret
            exact ⟨rfl, HH4.out, HO4.out⟩
      · have HU := Lib.hid (funwrite_any E s.F p.fb p.fg s.n ef _ HFB.out ((HEE.out _ (Only.of_below HB2d.out))) (HH.out.below HB2d.out).fr)
        clear hb2 hnew
        go_wp2_with fail
        go_region_with (first | (go_at_call 74; refine HU.out.mono ?_; rintro e w3 ⟨rfl, hf3, ho3⟩))
        all_goals
          have HO3 := Lib.hid ((Only.of_below HB2d.out).trans (zw_f ho3))
          have HH3 : Hid (PtAt w3 p { s with F := F1 }) := Lib.hid ((HH.out.below HB2d.out).fr' ho3 (by rw [← HF1.out]; exact hf3))
          obtain ⟨c0, -, -, -, c4⟩ := HH3.out.cells
          obtain ⟨g, cap, hl, hg, hcell⟩ := HH3.out.list HP17.out
          rw [hl] at c4
          have ct := hcell k (by omega)
          have ct1 : w3.cell? ⟨g, k, none⟩ = some (.int .i64 t1) := ct.trans (by rw [HT1.out])
          have ltb := blk_lt HH3.out.row
          have HW := Lib.hid (fun wx (hx : Below w3.heap.size w3 wx) => mm_write s.M p.mb s.n p.mv ((tWord s j : Nat) : Int) 0 wx (HH3.out.below hx).mem)
          clear hf3 ho3 hl hcell c1 ce0 ct
          go_wp2_with fail
          go_region_with (first | (go_at_call 76; refine (HW.out _ (by first | exact (Below.refl _ _).drew | exact Below.refl _ _)).mono ?_; rintro e w4 ⟨rfl, hm4, ho4⟩))
          all_goals
            have HO4 := Lib.hid (HO3.out.trans ((Only.refl _ _).drew.trans (zw_m ho4)))
            have HH4 := Lib.hid ((HH3.out.below (Below.refl _ _).drew).mem' ho4 hm4)
            clear hm4 ho4
            go_wp2
            go_ret
            exact ⟨rfl, HH4.out, HO4.out⟩
    · have HR : Hid (tDrop s page = (s, 0)) := Lib.hid (by unfold tDrop; rw [if_pos hp, if_neg ht])
      rw [HR.out]
      have HH := Lib.hid h
      obtain ⟨⟨ef, et, ew, eu⟩, he⟩ : ∃ e, tEnt s page = e := ⟨_, rfl⟩
      rw [he] at HEN ht
      unfold Ent.v at HEN
      dsimp only at HEN ht
      obtain rfl : et = false := by simpa using ht
      clear hE h hi hp he ht HR
      go_enter Tryz.func39, Tryz.ntmps39
      go_wp2_with fail
      refine (HPA.out _).mono ?_
      rintro y w1 ⟨rfl, rfl⟩
      go_wp2_with fail
      refine HEN.out.mono ?_
      rintro y w2 ⟨rfl, hb2⟩
      have HB2 := Lib.hid (hb2.alloc hb2.size (.cells #[.int .i64 ef, .bool false, .bool ew, .bool eu] 34))
      clear hb2
      go_wp2
      go_ret
      exact ⟨rfl, HH.out.below HB2.out, Only.of_below HB2.out⟩
  · have HR : Hid (tDrop s page = (s, 103)) := Lib.hid (by unfold tDrop; rw [if_neg hp])
    rw [HR.out]
    rw [show isPage page = false by simpa using hp] at HPA
    have HH := Lib.hid h
    have e2 : w.cell? ⟨0, 0, none⟩ = some (errV (E 2)) := ((hE w (Only.refl _ _)).1 2 (by decide)).1
    clear hE h hi hp HR
    go_enter Tryz.func39, Tryz.ntmps39
    go_wp2_with fail
    refine (HPA.out _).mono ?_
    rintro y w1 ⟨rfl, rfl⟩
    go_wp2
    go_ret
    exact ⟨rfl, HH.out, Only.refl _ _⟩
end Go.Proofs.YtaoaachgnnengaaGreatDoor

/-
  Tables while they are made: where their parts lie.
-/
namespace Go.Proofs.YtaoaachgnnengaaGreatDoor
open Go.RowKit

structure NAt (w : World) (p : Pl) (n : Nat) (M : List Int) (F : List Fr) (P T : List Int) (who : Int) : Prop where
  row : w.heap[p.tb]? = some (.cells (ptCells p who) 90 (0, 0))
  mem : MAt w p.mb p.mv n M
  fr : FrAt 99 69 w p.fb p.fg n F
  pm : PAt w p.pb p.pv P
  tl : w.ownsRow 0 3 1 p.lv T.length (ints T)
  apart : p.Apart
theorem NAt.keep {G : Nat → Prop} {w w' : World} {p : Pl} {n : Nat} {M : List Int} {F : List Fr} {P T : List Int} {who : Int} (h : NAt w p n M F P T who) (ho : Only G w w') (h0 : ∀ k, p.z0 k → ¬ G k) (h1 : ∀ k, p.z1 k → ¬ G k) (h2 : ∀ k, p.z2 k → ¬ G k) (h3 : ∀ k, p.z3 k → ¬ G k) : NAt w' p n M F P T who :=
  ⟨ho.blk h.row (h0 _ (.inl rfl)), h.mem.only ho (h0 _ (.inr (.inl rfl))) h1, h.fr.only ho (h0 _ (.inr (.inr (.inl rfl)))) (h2 _ rfl), h.pm.only ho (h3 _ (.inl rfl)) (fun k hk => h3 k (.inr hk)), own_only h.tl ho (fun k hk => h0 k (.inr (.inr (.inr hk)))), h.apart⟩
theorem NAt.below {w w' : World} {p : Pl} {n : Nat} {M : List Int} {F : List Fr} {P T : List Int} {who : Int} (h : NAt w p n M F P T who) (hb : Below w.heap.size w w') : NAt w' p n M F P T who :=
  h.keep (G := fun _ => False) (Only.of_below hb) (fun _ _ h => h) (fun _ _ h => h) (fun _ _ h => h) (fun _ _ h => h)
theorem NAt.mem' {w w' : World} {p : Pl} {n : Nat} {M M' : List Int} {F : List Fr} {P T : List Int} {who : Int} (h : NAt w p n M F P T who) (ho : Only (fun k => inRow p.mv k) w w') (hm : MAt w' p.mb p.mv n M') : NAt w' p n M' F P T who :=
  ⟨ho.blk h.row (h.apart.a01 _ (.inl rfl)), hm, h.fr.only ho (h.apart.a01 _ (.inr (.inr (.inl rfl)))) (fun h' => h.apart.a12 _ h' rfl), h.pm.only ho (fun h' => h.apart.a13 _ h' (.inl rfl)) (fun k hk h' => h.apart.a13 _ h' (.inr hk)), own_only h.tl ho (fun k hk => h.apart.a01 k (.inr (.inr (.inr hk)))), h.apart⟩
theorem NAt.fr' {w w' : World} {p : Pl} {n : Nat} {M : List Int} {F F' : List Fr} {P T : List Int} {who : Int} (h : NAt w p n M F P T who) (ho : Only (fun k => k = p.fg) w w') (hm : FrAt 99 69 w' p.fb p.fg n F') : NAt w' p n M F' P T who :=
  ⟨ho.blk h.row (h.apart.a02 _ (.inl rfl)), h.mem.only ho (h.apart.a02 _ (.inr (.inl rfl))) (fun k hk h' => h.apart.a12 _ hk h'), hm, h.pm.only ho (fun h' => h.apart.a23 _ h' (.inl rfl)) (fun k hk h' => h.apart.a23 _ h' (.inr hk)), own_only h.tl ho (fun k hk => h.apart.a02 k (.inr (.inr (.inr hk)))), h.apart⟩
theorem NAt.lt {w : World} {p : Pl} {n : Nat} {M : List Int} {F : List Fr} {P T : List Int} {who : Int} (h : NAt w p n M F P T who) : ∀ k, (p.z0 k ∨ p.z1 k ∨ p.z2 k ∨ p.z3 k) → k < w.heap.size := fun k hk => by
  rcases hk with (rfl | rfl | rfl | hk) | hk | hk | (rfl | hk)
  · exact blk_lt h.row
  · exact blk_lt h.mem.1
  · exact h.fr.lt.1
  · exact own_lt h.tl hk
  · exact own_lt h.mem.2.1 hk
  · rw [show k = p.fg from hk]; exact h.fr.lt.2
  · exact blk_lt h.pm.1
  · exact own_lt h.pm.2 hk
/-- the map has another one -/
theorem NAt.pm' {w w' : World} {p : Pl} {n : Nat} {M : List Int} {F : List Fr} {P P' T : List Int} {who : Int} {pv' : Value} (h : NAt w p n M F P T who) (ho : Only (fun k => k = p.pb ∨ inRow p.pv k) w w') (hm : PAt w' p.pb pv' P') (hr : ∀ k, inRow pv' k → inRow p.pv k ∨ w.heap.size ≤ k) : NAt w' { p with pv := pv' } n M F P' T who := by
  have hz3 : ∀ k, Pl.z3 { p with pv := pv' } k → p.z3 k ∨ w.heap.size ≤ k := fun k hk => by
    rcases hk with hk | hk
    · exact .inl (.inl hk)
    · rcases hr k hk with h | h
      · exact .inl (.inr h)
      · exact .inr h
  exact ⟨ho.blk h.row (fun h' => h.apart.a03 p.tb (.inl rfl) h'), h.mem.only ho (fun h' => h.apart.a03 p.mb (.inr (.inl rfl)) h') (fun k hk h' => h.apart.a13 _ hk h'), h.fr.only ho (fun h' => h.apart.a03 p.fb (.inr (.inr (.inl rfl))) h') (fun h' => h.apart.a23 p.fg rfl h'), hm, own_only h.tl ho (fun k hk h' => h.apart.a03 k (.inr (.inr (.inr hk))) h'),
    ⟨h.apart.a01, h.apart.a02, fun k h0 h3 => by
      rcases hz3 k h3 with h' | h'
      · exact h.apart.a03 k h0 h'
      · have := h.lt k (.inl h0); omega, h.apart.a12, fun k h0 h3 => by
      rcases hz3 k h3 with h' | h'
      · exact h.apart.a13 k h0 h'
      · have := h.lt k (.inr (.inl h0)); omega, fun k h0 h3 => by
      rcases hz3 k h3 with h' | h'
      · exact h.apart.a23 k h0 h'
      · have := h.lt k (.inr (.inr (.inl h0))); omega⟩⟩
/-- the list has another one -/
theorem NAt.list' {w w' : World} {p : Pl} {n : Nat} {M : List Int} {F : List Fr} {P T T' : List Int} {who : Int} {lv' : Value} (h : NAt w p n M F P T who) (ho : Only (fun k => k = p.tb ∨ inRow p.lv k) w w') (hrow : w'.heap[p.tb]? = some (.cells (ptCells { p with lv := lv' } who) 90 (0, 0))) (ht : w'.ownsRow 0 3 1 lv' T'.length (ints T')) (hmb : p.mb ≠ p.tb ∧ ¬ inRow p.lv p.mb) (hfb : p.fb ≠ p.tb ∧ ¬ inRow p.lv p.fb) (hr : ∀ k, inRow lv' k → inRow p.lv k ∨ w.heap.size ≤ k) : NAt w' { p with lv := lv' } n M F P T' who := by
  have hG : ∀ k, (k = p.tb ∨ inRow p.lv k) → p.z0 k := fun k hk => by
    rcases hk with hk | hk
    · exact .inl hk
    · exact .inr (.inr (.inr hk))
  have hz0 : ∀ k, Pl.z0 { p with lv := lv' } k → p.z0 k ∨ w.heap.size ≤ k := fun k hk => by
    rcases hk with hk | hk | hk | hk
    · exact .inl (.inl hk)
    · exact .inl (.inr (.inl hk))
    · exact .inl (.inr (.inr (.inl hk)))
    · rcases hr k hk with h | h
      · exact .inl (.inr (.inr (.inr h)))
      · exact .inr h
  exact ⟨hrow, h.mem.only ho (fun h' => by rcases h' with h' | h'; exact hmb.1 h'; exact hmb.2 h') (fun k hk h' => h.apart.a01 k (hG k h') hk), h.fr.only ho (fun h' => by rcases h' with h' | h'; exact hfb.1 h'; exact hfb.2 h') (fun h' => h.apart.a02 _ (hG _ h') rfl), h.pm.only ho (fun h' => h.apart.a03 _ (hG _ h') (.inl rfl)) (fun k hk h' => h.apart.a03 _ (hG _ h') (.inr hk)), ht,
    ⟨fun k h0 h1 => by
      rcases hz0 k h0 with h' | h'
      · exact h.apart.a01 k h' h1
      · have := h.lt k (.inr (.inl h1)); omega, fun k h0 h1 => by
      rcases hz0 k h0 with h' | h'
      · exact h.apart.a02 k h' h1
      · have := h.lt k (.inr (.inr (.inl h1))); omega, fun k h0 h1 => by
      rcases hz0 k h0 with h' | h'
      · exact h.apart.a03 k h' h1
      · have := h.lt k (.inr (.inr (.inr h1))); omega, h.apart.a12, h.apart.a13, h.apart.a23⟩⟩
theorem NAt.done {w : World} {p : Pl} {n : Nat} {M : List Int} {F : List Fr} {P T : List Int} {who : Int} (h : NAt w p n M F P T who) (hT : T = P.take 17) (hl : T.length = 17) : PtAt w p ⟨n, M, F, P, who⟩ :=
  ⟨h.row, h.mem, h.fr, h.pm, by rw [← hT, ← hl]; exact h.tl, h.apart⟩
theorem NAt.cells {w : World} {p : Pl} {n : Nat} {M : List Int} {F : List Fr} {P T : List Int} {who : Int} (h : NAt w p n M F P T who) : w.cell? ⟨p.tb, 3, none⟩ = some (.pointer (some ⟨p.pb, 0, none⟩)) ∧ w.cell? ⟨p.tb, 4, none⟩ = some p.lv ∧ w.frozen? ⟨p.tb, 4, none⟩ = false :=
  ⟨blk_cell h.row 3, blk_cell h.row 4, blk_free h.row 4⟩
end Go.Proofs.YtaoaachgnnengaaGreatDoor

/-
  pt.Tables: Map.
-/
namespace Go.Proofs.YtaoaachgnnengaaGreatDoor
open Go.RowKit

set_option maxRecDepth 100000 in
set_option maxHeartbeats 1600000 in
theorem tmap_any (p : Pl) (s : Ts) (m : Int) (w : World) (h : PtAt w p s) (hi : TInv m s) :
    Calls Tryz.prog 31 #[.pointer (some ⟨p.tb, 0, none⟩)] w fun y w' => ∃ cb cv, y = .returned (.pointer (some ⟨cb, 0, none⟩)) ∧ PAt w' cb cv s.P ∧ Below w.heap.size w w' := by
  have HC := Lib.hid (pm_clone s.P p.pb p.pv w h.pm (by have := hi.p512; omega))
  obtain ⟨-, -, -, c3, -⟩ := h.cells
  have ltb := blk_lt h.row
  clear h hi
  go_enter Tryz.func31, Tryz.ntmps31
  go_wp2_with fail
  refine HC.out.mono ?_
  rintro y w1 ⟨cb, cv, rfl, hp, -, -, hb⟩
  have HP := Lib.hid hp
  have HB := Lib.hid hb
  clear hp hb c3
  go_wp2
  go_ret
  exact ⟨_, _, rfl, HP.out, HB.out⟩
end Go.Proofs.YtaoaachgnnengaaGreatDoor

/-
  Tables stay as they are behind set, Put, Lend.
-/
namespace Go.Proofs.YtaoaachgnnengaaGreatDoor
open Go.RowKit

theorem page_parts (j : Nat) (hj : j < 256) : ∃ a k r : Nat, j / 16 = a ∧ 1 + a = k ∧ j % 16 = r ∧ wrap64 ((j : Int).tdiv 16) = (a : Int) ∧ IntKind.i64.wrap ((j : Int) / 16) = (a : Int) ∧ IntKind.i64.wrap (1 + (a : Int)) = (k : Int) ∧ (j : Int).tmod 16 = (r : Int) ∧ (0 : Int) ≤ (k : Int) ∧ (k : Int) < 17 ∧ r < 16 :=
  ⟨j / 16, 1 + j / 16, j % 16, rfl, rfl, rfl, by rw [Int.tdiv_eq_ediv_of_nonneg (by omega)]; exact (IntWalk.wrap64_in _ (by omega)).trans (by omega), (IntWalk.i64_in _ (by omega)).trans (by omega), (IntWalk.i64_in _ (by omega)).trans (by omega), by rw [Int.tmod_eq_emod_of_nonneg (by omega)]; omega, by omega, by omega, by omega⟩
theorem tDrop_P (s : Ts) (page : Int) : (tDrop s page).1.P = s.P ∧ (tDrop s page).1.n = s.n ∧ (tDrop s page).1.who = s.who := by
  unfold tDrop
  split
  · split
    · exact ⟨rfl, rfl, rfl⟩
    · exact ⟨rfl, rfl, rfl⟩
  · exact ⟨rfl, rfl, rfl⟩
theorem bitsA_w32 (e : Ent) : W32 (bitsA e).1 := by
  unfold bitsA
  split
  · rename_i h
    have hok := (entOkB_iff _ _ _ _).1 h
    exact ⟨(entW_range hok).1, by have := (entW_range hok).2; omega⟩
  · exact w32_zero
theorem TInv.putE {m : Int} {s : Ts} (h : TInv m s) (page : Int) (hp : isPage page = true) (e : Ent) : TInv m { s with M := putE s.M (s.P.getD (1 + page.toNat / 16) 0) ((page.toNat % 16 : Nat) : Int) e } := by
  unfold Go.Proofs.YtaoaachgnnengaaGreatDoor.putE
  split
  · have hpg : 0 ≤ page ∧ page < 256 := by simpa [isPage] using hp
    have h1 := h.pin (1 + page.toNat / 16) (by have := h.p17; omega)
    have hw : s.P.getD (1 + page.toNat / 16) 0 * 16 + ((page.toNat % 16 : Nat) : Int) = ((tWord s page.toNat : Nat) : Int) := by unfold tWord; omega
    rw [hw]
    exact h.word page hp _ (bitsA_w32 e)
  · exact h
theorem TInv.putE' {m : Int} {S : Ts} {P : List Int} (h : TInv m S) (hP : S.P = P) (page : Int) (hp : isPage page = true) (e : Ent) : TInv m { S with M := Go.Proofs.YtaoaachgnnengaaGreatDoor.putE S.M (P.getD (1 + page.toNat / 16) 0) ((page.toNat % 16 : Nat) : Int) e } := by
  subst hP
  exact h.putE page hp e
theorem tSetR_inv {m : Int} {s : Ts} (h : TInv m s) (frame : Int) (w : Bool) : TInv (m + 1) { s with F := (tSetR s frame w).l } := by
  unfold tSetR
  by_cases hw : w = true
  · rw [if_pos hw]; exact h.there _ _ kWrite_owner (fun x h1 h2 => kWrite_in h1 h2)
  · rw [if_neg hw]; exact h.there _ _ kUse_owner (fun x h1 h2 => kUse_in h1 h2)
theorem tSetR_same (s : Ts) (frame : Int) (w : Bool) (hc : (tSetR s frame w).c ≠ 0) : (tSetR s frame w).l = s.F := by
  unfold tSetR frThere at hc ⊢
  cases hN : frAt s.F frame with
  | none => rfl
  | some n =>
    obtain ⟨-, hn, -⟩ := frAt_some hN
    rw [hN] at hc
    dsimp only at hc ⊢
    cases w
    · exact absurd rfl hc
    · rw [if_pos rfl] at hc ⊢
      unfold kWrite at hc ⊢
      split
      · exact fr_set_same s.F n hn
      · rename_i hk
        rw [if_neg hk] at hc
        exact absurd rfl hc
theorem tSet_inv {m : Int} {s : Ts} (h : TInv m s) (page frame : Int) (w : Bool) (hp : isPage page = true) : TInv (m + 1 + 1) (tSet s page frame w).1 := by
  unfold tSet
  split
  · have h2 := tDrop_inv (tSetR_inv h frame w) page
    have hP := (tDrop_P { s with F := (tSetR s frame w).l } page).1
    exact h2.putE' hP page hp ⟨frame, true, w, true⟩
  · exact h.mono.mono
theorem tPut_inv {m : Int} {s : Ts} (h : TInv m s) (page : Int) (e : Ent) : TInv (m + 1 + 1) (tPut s page e).1 := by
  unfold tPut
  by_cases hp : isPage page = true
  · rw [if_pos hp]
    split
    · split
      · split
        · exact tSet_inv h page _ _ hp
        · exact h.mono.mono
      · exact h.mono.mono
    · split
      · exact (tDrop_inv h page).mono
      · exact h.mono.mono
  · rw [if_neg hp]; exact h.mono.mono
theorem tLend_inv {m : Int} {s : Ts} (h : TInv m s) (page frame : Int) (w : Bool) : TInv (m + 1 + 1) (tLend s page frame w).1 := by
  unfold tLend
  by_cases hp : isPage page = true
  · rw [if_pos hp]
    split
    · exact tSet_inv h page _ _ hp
    · exact h.mono.mono
  · rw [if_neg hp]; exact h.mono.mono
end Go.Proofs.YtaoaachgnnengaaGreatDoor

