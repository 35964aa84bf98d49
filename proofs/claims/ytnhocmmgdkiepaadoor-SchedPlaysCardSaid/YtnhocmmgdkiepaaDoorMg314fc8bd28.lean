/-
  Parts of one proof, one behind the other.
-/
import Derived.Test.YtnhocmmgdkiepaaDoorMg96796b0608
import Derived.Shelf.Lay
import Derived.Ground.NamesProg
import Derived.Shelf.Sort.Plain
import Derived.Shelf.Slices.In.SortNone
import Derived.Shelf.Slices.In.SortAlone
import Derived.Sort.OwnSortedInts
import Derived.Test.YtnhocmmgdkiepaaDoorMg891e6fd1b3
/-
  slices.Sort at []int (the shelf's contract, laid at this program); sched.Sched: Ready.
-/
namespace Go.Proofs
open Go.Shelf
shelf_lay Lays.n189 Nm 189 at Tryd as Tryd.laysSort
end Go.Proofs
namespace Go.Proofs.YtnhocmmgdkiepaaDoor
open Go.RowKit Go.Shelf Go.Sort

theorem og_get {l : List On} {i : Nat} (h : i < l.length) : og l i = l[i] := by
  unfold og
  rw [List.getD_eq_getElem?_getD, List.getElem?_eq_getElem h]
  rfl
def sortI (l : List Int) : List Int := l.mergeSort fun x y => decide (x ≤ y)
theorem sortI_perm (l : List Int) : (sortI l).Perm l := List.mergeSort_perm l _
theorem sortI_le (l : List Int) : (sortI l).Pairwise (· ≤ ·) := by
  have h := List.pairwise_mergeSort (le := fun x y : Int => decide (x ≤ y)) (fun a b c h1 h2 => by
    have h1 := of_decide_eq_true h1
    have h2 := of_decide_eq_true h2
    exact decide_eq_true (Int.le_trans h1 h2)) (fun a b => by
    rcases Int.le_total a b with h | h
    · simp [h]
    · simp [h]) l
  exact h.imp fun h => of_decide_eq_true h
theorem sorted_uniq {α : Type} (lt : α → α → Prop) (asym : ∀ a b, lt a b → ¬ lt b a) : ∀ a b : List α, a.Pairwise lt → b.Pairwise lt → (∀ x, x ∈ a ↔ x ∈ b) → a = b := by
  intro a
  induction a with
  | nil =>
    intro b _ _ h
    cases b with
    | nil => rfl
    | cons y b => exact absurd ((h y).2 List.mem_cons_self) (by simp)
  | cons x a ih =>
    intro b ha hb h
    cases b with
    | nil => exact absurd ((h x).1 List.mem_cons_self) (by simp)
    | cons y b =>
      obtain ⟨h1, h2⟩ := List.pairwise_cons.1 ha
      obtain ⟨h3, h4⟩ := List.pairwise_cons.1 hb
      have exy : x = y := by
        rcases List.mem_cons.1 ((h x).1 List.mem_cons_self) with e | e
        · exact e
        · rcases List.mem_cons.1 ((h y).2 List.mem_cons_self) with e2 | e2
          · exact e2.symm
          · exact absurd (h1 y e2) (asym _ _ (h3 x e))
      subst exy
      congr 1
      refine ih b h2 h4 fun z => ⟨fun hz => ?_, fun hz => ?_⟩
      · rcases List.mem_cons.1 ((h z).1 (List.mem_cons_of_mem _ hz)) with e | e
        · subst e
          exact absurd (h1 z hz) (asym _ _ (h1 z hz))
        · exact e
      · rcases List.mem_cons.1 ((h z).2 (List.mem_cons_of_mem _ hz)) with e | e
        · subst e
          exact absurd (h3 z hz) (asym _ _ (h3 z hz))
        · exact e
theorem int_asym : ∀ a b : Int, a < b → ¬ b < a := fun a b h h2 => by omega
def awk (st : Int → Option Gu) (x : Int) : Bool := match st x with
  | some g => !g.sl
  | none => false
def ids8 : List Int := [0, 1, 2, 3, 4, 5, 6, 7]
/-- those that are ready, in order -/
def rdL (st : Int → Option Gu) : List Int := ids8.filter (awk st)
theorem rdL_sorted (st : Int → Option Gu) : (rdL st).Pairwise (· < ·) := List.Pairwise.filter _ (by unfold ids8; decide)
theorem mem_ids8 (x : Int) : x ∈ ids8 ↔ (0 ≤ x ∧ x < 8) := by
  unfold ids8
  simp only [List.mem_cons, List.not_mem_nil, or_false]
  omega
theorem awk_iff (st : Int → Option Gu) (x : Int) : awk st x = true ↔ ∃ g, st x = some g ∧ g.sl = false := by
  unfold awk
  cases h : st x with
  | none => simp
  | some g => simp
theorem mem_rdL (st : Int → Option Gu) (x : Int) : x ∈ rdL st ↔ (0 ≤ x ∧ x < 8) ∧ ∃ g, st x = some g ∧ g.sl = false := by
  unfold rdL
  rw [List.mem_filter, mem_ids8, awk_iff]
theorem rd_ids {w : World} {p : Sl} {m : Nat} {F : Int → Option Nat} {R A : List On} {st : Int → Option Gu} (hm : ScMem w p m F R A) (hp : ScP m F R A) (hs : ScS R A st) : sortI (R.map On.id) = rdL st := by
  refine sorted_uniq (· < ·) int_asym _ _ ?_ (rdL_sorted st) fun x => ?_
  · have h1 := sortI_le (R.map On.id)
    have h2 : (sortI (R.map On.id)).Pairwise (· ≠ ·) := by
      refine ((sortI_perm _).pairwise_iff (fun h => Ne.symm h)).2 ?_
      rw [List.pairwise_map, List.pairwise_iff_getElem]
      intro i j hi hj hij e
      have e2 := sc_inj hm hp (.r hi) (.r hj) (by rw [og_get hi, og_get hj]; exact e)
      have := hm.rd.nd i j hi hj (by rw [e2])
      omega
    exact (h1.and h2).imp fun h => by omega
  · rw [(sortI_perm _).mem_iff, mem_rdL, List.mem_map]
    constructor
    · rintro ⟨o, ho, rfl⟩
      obtain ⟨i, hi, e⟩ := List.mem_iff_getElem.1 ho
      have hin : InS R A o := .inl ⟨i, hi, by rw [og_get hi]; exact e⟩
      refine ⟨(hp.ids o hin).1, _, hs.s1 o hin, ?_⟩
      have := hp.sr i hi
      rw [og_get hi, e] at this
      exact this
    · rintro ⟨-, g, hg, hsl⟩
      obtain ⟨o, ho, rfl⟩ := hs.s2 x g hg
      have h2 := hs.s1 o ho
      rw [hg] at h2
      obtain rfl := Option.some.inj h2
      rcases ho with ⟨i, hi, rfl⟩ | ⟨i, hi, rfl⟩
      · exact ⟨_, by rw [og_get hi]; exact List.getElem_mem hi, rfl⟩
      · have := hp.sa i hi
        rw [show (og A i).gu.sl = (og A i).sl from rfl, this] at hsl
        cases hsl
/-- slices.Sort at a row of the call's own -/
theorem isort_any (w : World) (v : Value) (l : List Int) (h : w.ownsRow 0 3 1 v l.length (ints l)) (hl : l.length ≤ 1000) :
    Calls Tryd.prog 87 #[v] w fun e w' => e = .returned (.tuple #[]) ∧ w'.ownsRow 0 3 1 v (sortI l).length (ints (sortI l)) ∧ Only (fun b => inRow v b) w w' := by
  have hlen : (sortI l).length = l.length := (sortI_perm l).length_eq
  have h0 := h
  rcases h.2 with ⟨rfl, hn⟩ | ⟨g, cap, cur, rfl, hg, hb, h1, h2, h3, ht⟩
  · have hl : l = [] := List.eq_nil_of_length_eq_zero hn
    subst hl
    exact (calls_of_every_depth fun D => AnyS.slices_Sort_int_none_alone Tryd.laysSort D none 0 w).mono fun e w' ⟨h1, h2⟩ => by
      subst h2
      exact ⟨h1, by
        have : sortI [] = [] := by simp [sortI]
        rw [this]
        exact h0, Only.refl _ _⟩
  · have hH := holds_of_blockI (ss := l) hb (by rw [Nat.mul_one] at ht; exact ht)
    have gl : g < w.heap.size := by
      rw [Array.getElem?_eq_some_iff] at hb
      exact hb.1
    refine (Any.slices_Sort_int Tryd.laysSort g 0 cap l w hH gl (by omega)).mono fun e w' ⟨e1, n, os, e2⟩ => ⟨e1, ?_, ?_⟩
    · subst e2
      rw [hlen]
      exact ownsRow_sortedI (ss := l) (ts := sortI l) hlen hg hb h1 h2 h3
    · subst e2
      exact only_grown (grownBy_sortedI _) (by simp [inRow, Value.ownBlock])
def RdQ (st : Int → Option Gu) (w : World) (e : Ending) (w' : World) : Prop := ∃ v, e = .returned v ∧ w'.ownsRow 0 3 1 v (rdL st).length (ints (rdL st)) ∧ Below w.heap.size w w' ∧ ∀ b, inRow v b → w.heap.size ≤ b
def RdTo (w : World) (R : List On) (v i : Value) (wr : World) : Prop := ∃ (k : Nat) (vo : Option Addr) (vc : Nat), k ≤ R.length ∧ i = .int .i64 (k : Int) ∧ v = .slice vo k vc ∧ Below w.heap.size w wr ∧ wr.ownsRow 0 3 1 v k (ints ((R.map On.id).take k)) ∧ ∀ b, inRow v b → w.heap.size ≤ b
theorem ids_take (R : List On) (k : Nat) (h : k < R.length) : ints ((R.map On.id).take (k + 1)) = ints ((R.map On.id).take k) ++ [.int .i64 (og R k).id] := by
  rw [List.take_add_one, List.getElem?_map, List.getElem?_eq_getElem h, og_get h]
  simp [ints]
set_option maxRecDepth 100000 in
set_option maxHeartbeats 12800000 in
theorem sready_any (w : World) (Z : Nat → Prop) (sb m : Nat) (st : Int → Option Gu) (h : ScAt w Z sb m st) :
    Calls Tryd.prog 47 #[.pointer (some ⟨sb, 0, none⟩)] w (RdQ st w) := by
  obtain ⟨i0, hi, hz0, hz1, hz2⟩ := info_parts infoIntW
  obtain ⟨p, F, R, A, rfl, hm, hp, hs, -⟩ := h
  have HM := Lib.hid hm
  have hr100 : R.length ≤ 100 := hm.rd.max
  have HR100 := Lib.hid hr100
  obtain ⟨rv, hrv⟩ : ∃ v, p.rv = v := ⟨_, rfl⟩
  have hrow := hm.rd
  obtain ⟨ao, cap, hv⟩ := hm.rd.slice
  have c1 : w.cell? ⟨p.sb, 1, none⟩ = some (.pointer (some ⟨p.rb, 0, none⟩)) := blk_cell hm.row 1
  have lt := blk_lt hm.row
  have c2 : w.cell? ⟨p.rb, 0, none⟩ = some (.slice ao R.length cap) := by
    rw [← hv]
    exact blk_cell hm.rd.hdr 0
  have lt2 := blk_lt hm.rd.hdr
  have HREAD : Hid (∀ (wr : World) (k : Nat), Below w.heap.size w wr → k < R.length → ∃ g, ao = some ⟨g, 0, none⟩ ∧ wr.cell? ⟨g, k, none⟩ = some (.pointer (some ⟨(og R k).blk, 0, none⟩)) ∧ g < wr.heap.size ∧ wr.cell? ⟨(og R k).blk, 0, none⟩ = some (.int .i64 (og R k).id) ∧ (og R k).blk < wr.heap.size) := Lib.hid fun wr k hb hk => by
    have hmr := hm.below hb
    obtain ⟨g, cap2, hv2⟩ := hmr.rd.row (by omega)
    have e := hv.symm.trans hv2
    obtain ⟨e1, -, -⟩ := Value.slice.inj e
    have hx := hmr.rd
    rw [hv2] at hx
    exact ⟨g, e1, hx.ptr k hk, hmr.rd.lt.2 g (by rw [hv2]; exact .inl rfl), blk_cell (hmr.rd.ones k hk) 0, blk_lt (hmr.rd.ones k hk)⟩
  have HFINQ : Hid (∀ (v : Value) (w1 w2 : World), Below w.heap.size w w1 → (∀ b, inRow v b → w.heap.size ≤ b) → w2.ownsRow 0 3 1 v (sortI (R.map On.id)).length (ints (sortI (R.map On.id))) → Only (fun b => inRow v b) w1 w2 → RdQ st w (.returned v) w2) := Lib.hid fun v w1 w2 hb hf ho hO => by
    rw [rd_ids hm hp hs] at ho
    exact ⟨v, rfl, ho, hb.trans (hO.below (B := w.heap.size) hb.size hf), hf⟩
  have HST : Hid (RdTo w R (.slice none 0 0) (.int .i64 0) w) := Lib.hid ⟨0, none, 0, Nat.zero_le _, rfl, rfl, Below.refl _ _, own_nil _ _ _, fun b hb => by simp [inRow, Value.ownBlock] at hb⟩
  have hn62 : (R.length : Int) ≤ 100 := by omega
  clear hm hp hs hrow hrv hv hr100
  go_enter Tryd.func47, Tryd.ntmps47
  go_wp2_with fail
  go_loopw [3, 14] (fun v i wr => RdTo w R v i wr) (fun _ i _ => R.length - (intOf i).toNat)
  case atStart => exact HST.out
  case round =>
    obtain ⟨k, vo, vc, hk, rfl, rfl, hb, hown, hf⟩ := hrel
    have HB := Lib.hid hb
    have HOWN := Lib.hid hown
    have HF := Lib.hid hf
    clear hb hown hf HST
    by_cases hlt : k < R.length
    · have hki : (k : Int) < (R.length : Int) := by omega
      have wk := IntWalk.i64_in ((k : Int) + 1) (by omega)
      obtain ⟨g, rfl, d1, d2, d3, d4⟩ := HREAD.out wr k HB.out hlt
      have HTK := Lib.hid (ids_take R k hlt)
      obtain ⟨oi, hoi⟩ : ∃ x, (og R k).id = x := ⟨_, rfl⟩
      rw [hoi] at d3 HTK
      obtain ⟨ob, hob⟩ : ∃ x, (og R k).blk = x := ⟨_, rfl⟩
      rw [hob] at d1 d3 d4
      clear hoi hob
      go_wp2_with (at_builtin; refine wpList_append_sep _ rfl _ _ 35 rfl 3 i0 (.int .i64 0) 1 8 Tryd.underlying35 hi hz0 hz1 hz2 rfl (by decide) _ _ _ rfl (HOWN.out.alloc _) ⟨wr.heap.size, 0, none⟩ 1 1 [.int .i64 oi] rfl rfl (cell_one_new _ _ _) (by simp [Value.oneCell']) (by unfold maxLen; have := HR100.out; omega) (by have := HR100.out; omega) ?_)
      intro v' wx ho6 hg6 hs6
      obtain ⟨ao6, cap6, rfl⟩ := own_slice ho6
      have HFIN : Hid (RdTo w R (.slice ao6 (k + 1) cap6) (.int .i64 ((k : Int) + 1)) wx) := Lib.hid (by
        have hsz := HB.out.size
        have ha : Below w.heap.size w (wr.alloc (.cells #[.int .i64 oi] 3)) := HB.out.alloc hsz _
        have hg := Only.grown (Only.refl (fun b => inRow (.slice vo k vc) b) (wr.alloc (.cells #[.int .i64 oi] 3))) hg6 (fun k hk => .inl hk)
        refine ⟨k + 1, ao6, cap6, hlt, by go_num, rfl, ha.trans (hg.below (B := w.heap.size) ha.size fun b hb => HF.out b hb), ?_, fun b hb => ?_⟩
        · rw [HTK.out]
          exact ho6
        · rcases hs6 b hb with h | h
          · exact HF.out b h
          · have h' := h
            try simp only [World.size_alloc] at h'
            omega)
      clear ho6 hg6 hs6 d1 d2 d3 d4
      go_wp2_with fail
      go_roundw
      case rel => exact HFIN.out
      case measure => simp [intOf]; omega
    · have hkn : k = R.length := by omega
      have hki : ¬ (k : Int) < (R.length : Int) := by omega
      have hown2 := HOWN.out
      rw [hkn, show (R.map On.id).take R.length = R.map On.id from List.take_of_length_le (by simp)] at hown2
      have HSO := Lib.hid (isort_any wr (.slice vo R.length vc) (R.map On.id) (by rw [List.length_map]; exact hown2) (by rw [List.length_map]; have := HR100.out; omega))
      have HF2 := Lib.hid (fun w2 ho hO => HFINQ.out (.slice vo R.length vc) wr w2 HB.out (by rw [← hkn]; exact HF.out) ho hO)
      rw [← hkn] at HSO HF2
      clear hkn hown2
      go_wp2_with fail
      refine HSO.out.mono ?_
      rintro y w2 ⟨rfl, ho2, hO2⟩
      have HQ := Lib.hid (HF2.out w2 ho2 hO2)
      clear ho2 hO2
      go_wp2_with fail
      go_ret
      exact HQ.out
end Go.Proofs.YtnhocmmgdkiepaaDoor

/-
  Who is woken: sorted by their times, then by their numbers; plain.
-/
namespace Go.Proofs.YtnhocmmgdkiepaaDoor
open Go.RowKit

theorem upd_upd (st : Int → Option Gu) (x : Int) (a b : Option Gu) : upd (upd st x a) x b = upd st x b := by
  funext y
  unfold upd
  by_cases h : y = x
  · rw [if_pos h, if_pos h]
  · rw [if_neg h, if_neg h, if_neg h]
theorem updSame (st : Int → Option Gu) (x : Int) (g : Option Gu) : upd st x g x = g := if_pos rfl
theorem updElse (st : Int → Option Gu) (x y : Int) (g : Option Gu) (h : y ≠ x) : upd st x g y = st y := if_neg h
def unO (st : Int → Option Gu) (x : Int) : Int := match st x with
  | some g => g.un
  | none => 0
/-- earlier, or as early and of a lesser number -/
def wkLt (st : Int → Option Gu) (x y : Int) : Prop := unO st x < unO st y ∨ (unO st x = unO st y ∧ x < y)
theorem wkLt_asym (st : Int → Option Gu) (x y : Int) (h : wkLt st x y) : ¬ wkLt st y x := by
  unfold wkLt at *
  omega
structure WokeSpec (st : Int → Option Gu) (now : Int) (l : List Int) (st' : Int → Option Gu) : Prop where
  mem : ∀ x, x ∈ l ↔ ∃ g, st x = some g ∧ g.sl = true ∧ g.un ≤ now
  sorted : l.Pairwise (wkLt st)
  same : ∀ x, x ∉ l → st' x = st x
  woken : ∀ x ∈ l, ∃ g, st x = some g ∧ st' x = some ⟨g.wt, g.us, false, 0⟩
theorem woke_spec {st st' : Int → Option Gu} {now : Int} {l : List Int} (h : Woke st now l st') : WokeSpec st now l st' := by
  induction h with
  | done st now h =>
    refine ⟨fun x => ⟨fun hx => absurd hx (by simp), ?_⟩, List.Pairwise.nil, fun _ _ => rfl, fun x hx => absurd hx (by simp)⟩
    rintro ⟨g, h1, h2, h3⟩
    have := h x g h1 h2
    omega
  | step st st' now x g l hg hs hu hf _ ih =>
    have hx1 : x ∉ l := fun hx => by
      obtain ⟨g', h1, h2, -⟩ := (ih.mem x).1 hx
      rw [updSame] at h1
      rw [← Option.some.inj h1] at h2
      cases h2
    have hne : ∀ y ∈ l, y ≠ x := fun y hy e => hx1 (e ▸ hy)
    have hun : ∀ y ∈ l, unO (upd st x (some ⟨g.wt, g.us, false, 0⟩)) y = unO st y := fun y hy => by
      unfold unO
      rw [updElse _ _ _ _ (hne y hy)]
    refine ⟨fun y => ?_, List.pairwise_cons.2 ⟨fun y hy => ?_, ?_⟩, fun y hy => ?_, fun y hy => ?_⟩
    · rw [List.mem_cons]
      constructor
      · rintro (rfl | hy)
        · exact ⟨g, hg, hs, hu⟩
        · obtain ⟨g', h1, h2⟩ := (ih.mem y).1 hy
          rw [updElse _ _ _ _ (hne y hy)] at h1
          exact ⟨g', h1, h2⟩
      · rintro ⟨g', h1, h2⟩
        by_cases e : y = x
        · exact .inl e
        · exact .inr ((ih.mem y).2 ⟨g', by rw [updElse _ _ _ _ e]; exact h1, h2⟩)
    · obtain ⟨g', h1, h2, h3⟩ := (ih.mem y).1 hy
      rw [updElse _ _ _ _ (hne y hy)] at h1
      have h4 := hf y g' h1 h2
      have h5 := hne y hy
      unfold wkLt unO
      rw [hg, h1]
      dsimp only
      omega
    · refine ih.sorted.imp_of_mem fun {a b} ha hb h => ?_
      unfold wkLt at *
      rw [hun a ha, hun b hb] at h
      exact h
    · have hy2 : y ≠ x := fun e => hy (e ▸ List.mem_cons_self)
      rw [ih.same y (fun h => hy (List.mem_cons_of_mem _ h)), updElse _ _ _ _ hy2]
    · by_cases e : y = x
      · subst e
        exact ⟨g, hg, by rw [ih.same y hx1]; exact updSame _ _ _⟩
      · rcases List.mem_cons.1 hy with h | h
        · exact absurd h e
        · obtain ⟨g', h1, h2⟩ := ih.woken y h
          rw [updElse _ _ _ _ e] at h1
          exact ⟨g', h1, h2⟩
end Go.Proofs.YtnhocmmgdkiepaaDoor

/-
  sched.Sched: Add.
-/
namespace Go.Proofs.YtnhocmmgdkiepaaDoor
open Go.RowKit Go.Maps

/-- the least that anybody has used -/
def MinU (st : Int → Option Gu) (u : Int) : Prop := ((∀ x, kw x → st x = none) ∧ u = 0) ∨ ((∃ x g, kw x ∧ st x = some g ∧ g.us = u) ∧ ∀ x g, kw x → st x = some g → u ≤ g.us)
def addBad (x wt : Int) : Prop := x < 0 ∨ 8 ≤ x ∨ wt < 1 ∨ 100 < wt
def AddR (st : Int → Option Gu) (x wt c : Int) (st' : Int → Option Gu) : Prop := (addBad x wt ∧ c = 103 ∧ st' = st) ∨ (¬ addBad x wt ∧ (st x).isSome = true ∧ c = 106 ∧ st' = st) ∨ (¬ addBad x wt ∧ st x = none ∧ c = 0 ∧ ∃ u, MinU st u ∧ st' = upd st x (some ⟨wt, u, false, 0⟩))
def ScAddQ (E : Nat → Addr) (Z : Nat → Prop) (sb m : Nat) (st : Int → Option Gu) (x wt : Int) (w : World) (e : Ending) (w' : World) : Prop := ∃ c st', e = .returned (errD E c) ∧ AddR st x wt c st' ∧ ScAt w' (fun b => Z b ∨ w.heap.size ≤ b) sb (m + 1) st' ∧ Only Z w w'
theorem MpAt.up {w : World} {mb n n' : Nat} {F : Int → Option Nat} (h : MpAt w mb n F) (hn : n ≤ n') : MpAt w mb n' F := by
  obtain ⟨D, h1, h2⟩ := h
  exact ⟨D, h1.mono hn, h2⟩
theorem ScAt.up {Z : Nat → Prop} {w : World} {sb m m' : Nat} {st : Int → Option Gu} (h : ScAt w Z sb m st) (h1 : m ≤ m') (h2 : m' ≤ 100) : ScAt w Z sb m' st := by
  obtain ⟨p, F, R, A, rfl, hm, hp, hs, hz⟩ := h
  exact ⟨p, F, R, A, rfl, ⟨hm.row, hm.map.up h1, hm.rd, hm.sd, hm.rne, hm.rows, hm.ones⟩, ⟨hp.ids, hp.f1, hp.f2, hp.sr, hp.sa, hp.hr, hp.ha, Nat.le_trans hp.cnt h1, h2⟩, hs, hz⟩
set_option maxRecDepth 100000 in
set_option maxHeartbeats 12800000 in
theorem sadd_bad (E : Nat → Addr) (w : World) (Z : Nat → Prop) (sb m : Nat) (st : Int → Option Gu) (h : ScAt w Z sb m st) (hE : ScErr E w) (x wt : Int) (hm : m < 100) (hb : addBad x wt) :
    Calls Tryd.prog 15 #[.pointer (some ⟨sb, 0, none⟩), .int .i64 x, .int .i64 wt] w (ScAddQ E Z sb m st x wt w) := by
  have HQ : Hid (ScAddQ E Z sb m st x wt w (.returned (errD E 103)) w) := Lib.hid ⟨103, st, rfl, .inl ⟨hb, rfl, rfl⟩, (h.up (Nat.le_succ m) (by omega)).mono fun b _ hb => .inl hb, Only.refl _ _⟩
  obtain ⟨⟨e2, l2⟩, -⟩ := hE
  have hc : x < 0 ∨ (¬ x < 0 ∧ 8 ≤ x) ∨ (¬ x < 0 ∧ ¬ 8 ≤ x ∧ wt < 1) ∨ (¬ x < 0 ∧ ¬ 8 ≤ x ∧ ¬ wt < 1 ∧ 100 < wt) := by unfold addBad at hb; omega
  clear h hm hb
  rcases hc with h1 | ⟨h1, h2⟩ | ⟨h1, h2, h3⟩ | ⟨h1, h2, h3, h4⟩
  all_goals
    go_enter Tryd.func15, Tryd.ntmps15
    go_wp2
    go_ret
    exact HQ.out
set_option maxRecDepth 100000 in
set_option maxHeartbeats 12800000 in
theorem sadd_twice (E : Nat → Addr) (w : World) (Z : Nat → Prop) (sb m : Nat) (st : Int → Option Gu) (h : ScAt w Z sb m st) (hE : ScErr E w) (x wt : Int) (hm : m < 100) (hb : ¬ addBad x wt) (hx : kw x) (g : Gu) (hg : st x = some g) :
    Calls Tryd.prog 15 #[.pointer (some ⟨sb, 0, none⟩), .int .i64 x, .int .i64 wt] w (ScAddQ E Z sb m st x wt w) := by
  have HQ : Hid (ScAddQ E Z sb m st x wt w (.returned (errD E 106)) w) := Lib.hid ⟨106, st, rfl, .inr (.inl ⟨hb, by rw [hg]; rfl, rfl, rfl⟩), (h.up (Nat.le_succ m) (by omega)).mono fun b _ hb => .inl hb, Only.refl _ _⟩
  obtain ⟨p, F, R, A, rfl, hmm, hp, hs, -⟩ := h
  have c0 : w.cell? ⟨p.sb, 0, none⟩ = some (.map (some p.mb)) := blk_cell hmm.row 0
  have lt := blk_lt hmm.row
  have hl := mp_look hmm.map x hx
  obtain ⟨-, ⟨e2, l2⟩, -⟩ := hE
  unfold addBad at hb
  have k1 : ¬ x < 0 := by omega
  have k2 : ¬ 8 ≤ x := by omega
  have k3 : ¬ wt < 1 := by omega
  have k4 : ¬ 100 < wt := by omega
  rcases sc_look (w := w) (p := p) hp hs x hx with ⟨-, h2⟩ | ⟨o, ho, -, h1, -⟩
  · rw [hg] at h2
    cases h2
  · rw [h1] at hl
    unfold optPtr at hl
    clear hmm hp hs h1 hg hb ho hx hm
    go_enter Tryd.func15, Tryd.ntmps15
    go_wp2
    go_ret
    exact HQ.out
/-- the least so far -/
def AddTo (F : Int → Option Nat) (R A : List On) (mb r m ob : Nat) (x wt : Int) (W0 : World) (f : Value) (wr : World) : Prop := ∃ (left : Int → Bool) (cnt : Nat) (u : Int) (b : Bool), f = .bool b ∧ MpR wr mb r m F left cnt ∧ wr.heap[ob]? = some (.cells (onCells ⟨x, wt, u, false, 0, ob⟩ 0) 109 (0, 0)) ∧ Only (fun k => k = ob ∨ k = r) W0 wr ∧ (0 ≤ u ∧ u ≤ 1152921504606846976) ∧ ((b = true ∧ u = 0 ∧ ∀ z, kw z → left z = (F z).isSome) ∨ (b = false ∧ (∃ o, InS R A o ∧ o.us = u) ∧ ∀ o, InS R A o → left o.id = false → u ≤ o.us)) ∧ ∀ z, kw z → left z = true → (F z).isSome = true
set_option maxRecDepth 100000 in
set_option maxHeartbeats 12800000 in
theorem sadd_ok (E : Nat → Addr) (w : World) (Z : Nat → Prop) (p : Sl) (m : Nat) (F : Int → Option Nat) (R A : List On) (st : Int → Option Gu) (hmm : ScMem w p m F R A) (hp : ScP m F R A) (hs : ScS R A st) (hZ : ∀ b, scz p R A b → Z b) (x wt : Int) (hm : m < 100) (hb : ¬ addBad x wt) (hx : kw x) (hg : st x = none) :
    Calls Tryd.prog 15 #[.pointer (some ⟨p.sb, 0, none⟩), .int .i64 x, .int .i64 wt] w (ScAddQ E Z p.sb m st x wt w) := by
  have hF : F x = none := by
    rcases sc_look (w := w) (p := p) hp hs x hx with ⟨h1, -⟩ | ⟨o, -, -, -, h2⟩
    · exact h1
    · rw [hg] at h2; cases h2
  have hl := mp_look hmm.map x hx
  rw [hF] at hl
  unfold optPtr at hl
  have c0 : w.cell? ⟨p.sb, 0, none⟩ = some (.map (some p.mb)) := blk_cell hmm.row 0
  have lt := blk_lt hmm.row
  have HBAD := Lib.hid hb
  unfold addBad at hb
  have k1 : ¬ x < 0 := by omega
  have k2 : ¬ 8 ≤ x := by omega
  have k3 : ¬ wt < 1 := by omega
  have k4 : ¬ 100 < wt := by omega
  obtain ⟨w1, hw1⟩ : ∃ w1, w.alloc (.cells (onCells ⟨x, wt, 0, false, 0, w.heap.size⟩ 0) 109) = w1 := ⟨_, rfl⟩
  have hb1 : Below w.heap.size w w1 := hw1 ▸ (Below.refl _ _).alloc (Nat.le_refl _) _
  have hk1 : w1.heap[w.heap.size]? = some (.cells (onCells ⟨x, wt, 0, false, 0, w.heap.size⟩ 0) 109 (0, 0)) := hw1 ▸ blk_new w _
  have hmm1 := hmm.below hb1
  have HMP1 := Lib.hid hmm1.map
  have hsz1 : w1.heap.size = w.heap.size + 1 := by rw [← hw1]; simp
  have HB1 := Lib.hid hb1
  have HK1 := Lib.hid hk1
  have HSZ1 := Lib.hid hsz1
  have HMM := Lib.hid hmm
  have HP := Lib.hid hp
  have HS := Lib.hid hs
  have HZ := Lib.hid hZ
  have HM := Lib.hid hm
  have HX := Lib.hid hx
  have HG := Lib.hid hg
  have d0 : w1.cell? ⟨p.sb, 0, none⟩ = some (.map (some p.mb)) := blk_cell hmm1.row 0
  have dl := blk_lt hmm1.row
  have HD := Lib.hid (And.intro d0 dl)
  unfold onCells at hw1
  dsimp only at hw1
  have HW1 := Lib.hid hw1
  clear hmm hp hs hZ hm hb hx hg hF hb1 hk1 hmm1 hsz1 d0 dl hw1
  go_enter Tryd.func15, Tryd.ntmps15
  go_wp2_with (first | (at_range; rw [HW1.out]; refine wp_range_mp _ rfl _ rfl p.mb m F rfl HMP1.out ?_; intro w2 cnt hr2 ho2 hs2) | go_in)
  have hb2 : Below w.heap.size w w2 := HB1.out.trans (ho2.below (B := w.heap.size) HB1.out.size (fun k hk => hk.elim))
  have HB2 := Lib.hid hb2
  have hk2 := ho2.blk HK1.out (fun h => h)
  have HST : Hid (AddTo F R A p.mb w1.heap.size m w.heap.size x wt w2 (.bool true) w2) := Lib.hid ⟨_, cnt, 0, true, rfl, hr2, hk2, Only.refl _ _, ⟨by omega, by omega⟩, .inl ⟨rfl, rfl, fun _ _ => rfl⟩, fun _ _ h => h⟩
  have HRB : Hid (∀ wr, Only (fun k => k = w.heap.size ∨ k = w1.heap.size) w2 wr → ScMem wr p m F R A ∧ Below w.heap.size w wr ∧ Only Z w wr) := Lib.hid fun wr ho => by
    have hbr : Below w.heap.size w wr := HB2.out.trans (ho.below (B := w.heap.size) HB2.out.size (fun k hk => by have := HSZ1.out; omega))
    exact ⟨HMM.out.below hbr, hbr, Only.of_below hbr⟩
  clear hr2 ho2 hs2 hb2 hk2
  go_loopw [8] (fun f wr => AddTo F R A p.mb w1.heap.size m w.heap.size x wt w2 f wr) (fun _ wr => wr.rangeLeft p.mb w1.heap.size)
  case atStart => exact HST.out
  case round =>
    obtain ⟨left, cnt2, u, b, rfl, hr, hk, ho, hu, hcase, hleft⟩ := hrel
    have HR := Lib.hid hr
    have HK := Lib.hid hk
    have HO := Lib.hid ho
    have HU := Lib.hid hu
    have HC := Lib.hid hcase
    have HL := Lib.hid hleft
    have HW := Lib.hid (HRB.out _ ho)
    have hcnt := hr.cnt_eq
    have HCNT := Lib.hid hcnt
    have lob := blk_lt hk
    have q2 : wr.cell? ⟨w.heap.size, 2, none⟩ = some (.int .i64 u) := blk_cell hk 2
    clear hr hk ho hu hcase hleft hcnt HST
    go_wp2_with (first | (at_next; refine wp_next_mp _ rfl _ rfl p.mb w1.heap.size m F left cnt2 rfl HR.out ?_ ?_) | go_in)
    · intro hdone
      have HMIN : Hid (MinU st u) := Lib.hid (by
        rcases HC.out with ⟨-, h2, h3⟩ | ⟨-, ⟨o, ho, h2⟩, h3⟩
        · refine .inl ⟨fun z hz => ?_, h2⟩
          have h4 := h3 z hz
          rw [hdone z hz] at h4
          rcases sc_look (w := w) (p := p) HP.out HS.out z hz with ⟨-, h5⟩ | ⟨o, -, -, h5, -⟩
          · exact h5
          · rw [h5] at h4; cases h4
        · refine .inr ⟨⟨o.id, o.gu, kw_of (by have := (HP.out.ids o ho).1; omega), HS.out.s1 o ho, h2⟩, fun z g hz hg => ?_⟩
          obtain ⟨o2, ho2, rfl⟩ := HS.out.s2 z g hg
          have h6 := HS.out.s1 o2 ho2
          rw [hg] at h6
          obtain rfl := Option.some.inj h6
          exact h3 o2 ho2 (hdone _ hz))
      obtain ⟨o', ho'⟩ : ∃ o' : On, o' = ⟨x, wt, u, false, 0, w.heap.size⟩ := ⟨_, rfl⟩
      have hok : onOk o' := by
        rw [ho']
        exact ⟨⟨by show (0 : Int) ≤ x; omega, by show x < 8; omega⟩, ⟨by show (1 : Int) ≤ wt; omega, by show wt ≤ 100; omega⟩, HU.out, by show (-9223372036854775808 : Int) ≤ 0; decide, by show (0 : Int) ≤ 9223372036854775807; decide⟩
      have HFIN : Hid (∀ w4, MpAt w4 p.mb (m + 1) (updF F x (some w.heap.size)) → Only (fun k => k = p.mb) wr w4 → (w4.cell? ⟨p.sb, 1, none⟩ = some (.pointer (some ⟨p.rb, 0, none⟩)) ∧ p.sb < w4.heap.size) ∧
          Calls Tryd.prog 56 #[.iface 101 (.pointer (some ⟨p.rb, 0, none⟩)), .iface 107 (.pointer (some ⟨w.heap.size, 0, none⟩))] w4 fun e w5 => e = .returned (.tuple #[]) ∧ ScAt w5 (fun b => Z b ∨ w.heap.size ≤ b) p.sb (m + 1) (upd st x (some ⟨wt, u, false, 0⟩)) ∧ Only Z w w5) := Lib.hid fun w4 h4 ho4 => by
        have hm4 := HW.out.1.mapOp h4 ho4
        have hb4 : w4.heap[w.heap.size]? = some (.cells (onCells o' 0) 109 (0, 0)) := by
          obtain ⟨es, c, hh⟩ := HW.out.1.map.ty
          rw [ho']
          exact ho4.blk HK.out (map_ne hh HK.out).symm
        have hbk : o'.blk = w.heap.size := by rw [ho']
        have hnb : ∀ z, InS R A z → z.blk ≠ o'.blk := fun z hz e => by
          obtain ⟨i, hh, -⟩ := HMM.out.one hz
          have := blk_lt hh
          rw [e, hbk] at this
          omega
        refine ⟨⟨blk_cell hm4.row 1, blk_lt hm4.row⟩, ?_⟩
        have hc := HP.out.cnt
        have hmx := HM.out
        have hpu := hpush_any p.rb p.rv R o' 0 w4 hm4.rd (by rw [hbk]; exact hb4) (fun j hj => hnb _ (.r hj)) (by omega)
        rw [hbk] at hpu
        refine hpu.mono ?_
        rintro e w5 ⟨rfl, v', h5, ho5, hv5⟩
        obtain ⟨p5, R5, A5, h6⟩ := in_R hm4 ⟨HP.out.sr, HP.out.sa, HP.out.hr, HP.out.ha⟩ (o := o') (by rw [ho']) (by rw [hbk]; exact hb4) hnb h5 (by rw [hbk]; exact ho5) hv5
        obtain ⟨g1, g2⟩ := scP_add HP.out HS.out (o' := o') hmx hok (by rw [ho']; exact HG.out) h6.ins h6.ls (by have := h6.len; omega)
        rw [show o'.id = x by rw [ho'], hbk] at g1
        rw [show o'.id = x by rw [ho'], show o'.gu = ⟨wt, u, false, 0⟩ by rw [ho']; rfl] at g2
        have hsz : w.heap.size ≤ w4.heap.size := Nat.le_trans HW.out.2.1.size ho4.size
        refine ⟨rfl, ⟨p5, _, R5, A5, h6.sb, h6.mem, g1, g2, fun b hb => ?_⟩, (HW.out.2.2.trans (ho4.mono fun b hb => .inl (HZ.out b (.inl hb)))).trans' h6.only fun b hb => ?_⟩
        · rcases h6.zn b hb with h7 | h7 | h7
          · exact .inl (HZ.out b h7)
          · rw [h7, hbk]; exact .inr (Nat.le_refl _)
          · exact .inr (Nat.le_trans hsz h7)
        · rcases hb with hb | hb
          · exact .inl (HZ.out b hb)
          · rw [hb, hbk]; exact .inr (Nat.le_refl _)
      have HRET : Hid (∀ w5, ScAt w5 (fun b => Z b ∨ w.heap.size ≤ b) p.sb (m + 1) (upd st x (some ⟨wt, u, false, 0⟩)) ∧ Only Z w w5 → ScAddQ E Z p.sb m st x wt w (.returned .nilIface) w5) := Lib.hid fun w5 h => ⟨0, _, rfl, .inr (.inr ⟨HBAD.out, HG.out, rfl, u, HMIN.out, rfl⟩), h.1, h.2⟩
      have e0 : wr.cell? ⟨p.sb, 0, none⟩ = some (.map (some p.mb)) := blk_cell HW.out.1.row 0
      have el := blk_lt HW.out.1.row
      clear hdone ho' hok q2
      go_wp2_with (at_mapUpdate; refine wp_update_mp _ rfl _ _ _ rfl p.mb m (by unfold maxLen; have := HM.out; omega) F rfl HR.out.map x rfl HX.out w.heap.size rfl ?_)
      intro w4 h4 ho4
      obtain ⟨⟨e1, el2⟩, hpu⟩ := HFIN.out w4 h4 ho4
      have HPU := Lib.hid hpu
      clear h4 ho4 hpu e0 el
      go_wp2_with fail
      refine HPU.out.mono ?_
      rintro y w5 ⟨rfl, hf⟩
      have HF := Lib.hid (HRET.out w5 hf)
      clear hf
      go_wp2_with fail
      go_ret
      exact HF.out
    · intro z bz w3 cnt3 hz hlz hFz hr3 hlt3 ho3 hs3 hen
      obtain ⟨oz, hoz, hzid, hzb⟩ := HP.out.f2 z bz hz hFz
      subst hzid
      subst hzb
      obtain ⟨i, hbl, -⟩ := HMM.out.one hoz
      have hlz2 := blk_lt hbl
      have hbw : wr.heap[oz.blk]? = some (.cells (onCells oz (i : Int)) 109 (0, 0)) := blk_below hbl HW.out.2.1 hlz2
      have hb3 := ho3.blk hbw (fun e => by have := HSZ1.out; omega)
      have hk3 := ho3.blk HK.out (fun e => by have := HSZ1.out; omega)
      have x2 : w3.cell? ⟨oz.blk, 2, none⟩ = some (.int .i64 oz.us) := blk_cell hb3 2
      have y2 : w3.cell? ⟨w.heap.size, 2, none⟩ = some (.int .i64 u) := blk_cell hk3 2
      have yf := blk_free hk3 2
      have lx := blk_lt hb3
      have ly := blk_lt hk3
      have HK3 := Lib.hid hk3
      have HR3 := Lib.hid hr3
      have HO3 := Lib.hid (HO.out.trans (ho3.mono fun k hk => .inl (.inr hk)))
      have HOK := Lib.hid (HP.out.ids oz hoz).2.2.1
      have HOZ := Lib.hid hoz
      have HLT := Lib.hid hlt3
      have HLZ := Lib.hid hlz
      have HKZ := Lib.hid hz
      have HNEB : Hid (oz.blk ≠ w.heap.size) := Lib.hid (by omega)
      have HNR : Hid (w.heap.size ≠ p.mb ∧ w.heap.size ≠ w1.heap.size) := Lib.hid ⟨by have := HMM.out.lt.2 _ (.inl rfl); omega, by have := HSZ1.out; omega⟩
      have HREL : Hid (∀ w4 (v : Int), (Only (fun k => k = w.heap.size) w3 w4) → w4.heap[w.heap.size]? = some (.cells (onCells ⟨x, wt, v, false, 0, w.heap.size⟩ 0) 109 (0, 0)) → (v = oz.us ∧ (b = false → oz.us < u)) ∨ (v = u ∧ b = false ∧ u ≤ oz.us) → AddTo F R A p.mb w1.heap.size m w.heap.size x wt w2 (.bool false) w4 ∧ w4.rangeLeft p.mb w1.heap.size < cnt2) := Lib.hid fun w4 v ho4 hk4 hv => by
        have hr4 := HR3.out.keep ho4 (fun e => HNR.out.1 e.symm) (fun e => HNR.out.2 e.symm)
        refine ⟨⟨_, cnt3, v, false, rfl, hr4, hk4, HO3.out.trans (ho4.mono fun k hk => .inl (.inl hk)), ?_, .inr ⟨rfl, ?_, fun o ho hl => ?_⟩, fun y hy hl => ?_⟩, by rw [hr4.cnt_eq]; exact HLT.out⟩
        · rcases hv with ⟨e, -⟩ | ⟨e, -, -⟩
          · rw [e]; exact HOK.out
          · rw [e]; exact HU.out
        · rcases hv with ⟨e, -⟩ | ⟨e, eb, -⟩
          · exact ⟨oz, HOZ.out, e.symm⟩
          · rcases HC.out with ⟨h1, -, -⟩ | ⟨-, ⟨o, ho, h2⟩, -⟩
            · rw [eb] at h1; cases h1
            · exact ⟨o, ho, by rw [e]; exact h2⟩
        · have hmem : o = oz ∨ left o.id = false := by
            by_cases e : o.id = oz.id
            · exact .inl (sc_inj HMM.out HP.out ho HOZ.out e)
            · right
              cases hh : left o.id with
              | false => rfl
              | true =>
                rw [hh] at hl
                have : (o.id == oz.id) = false := by rw [beq_eq_false_iff_ne]; exact e
                rw [this] at hl
                cases hl
          rcases hmem with e | e
          · subst e
            rcases hv with ⟨e2, -⟩ | ⟨e2, -, h3⟩
            · rw [e2]; exact Int.le_refl _
            · rw [e2]; exact h3
          · have hold : b = false ∧ u ≤ o.us := by
              rcases HC.out with ⟨-, -, h3⟩ | ⟨h1, -, h3⟩
              · have hko : kw o.id := kw_of (by have := (HP.out.ids o ho).1; omega)
                rw [h3 _ hko, HP.out.f1 o ho] at e
                cases e
              · exact ⟨h1, h3 o ho e⟩
            rcases hv with ⟨e2, h3⟩ | ⟨e2, -, -⟩
            · rw [e2]
              have := h3 hold.1
              have := hold.2
              omega
            · rw [e2]; exact hold.2
        · refine HL.out y hy ?_
          cases hh : left y with
          | true => rfl
          | false => rw [hh] at hl; cases hl
      have HSELF : Hid (b = false → u ≤ oz.us → AddTo F R A p.mb w1.heap.size m w.heap.size x wt w2 (.bool false) w3 ∧ w3.rangeLeft p.mb w1.heap.size < cnt2) := Lib.hid fun h1 h2 => HREL.out w3 u (Only.refl _ _) HK3.out (.inr ⟨rfl, h1, h2⟩)
      have HPUT : Hid (∀ k, (b = false → oz.us < u) → AddTo F R A p.mb w1.heap.size m w.heap.size x wt w2 (.bool false) ((w3.drewN k).setCell ⟨w.heap.size, 2, none⟩ (.int .i64 oz.us)) ∧ ((w3.drewN k).setCell ⟨w.heap.size, 2, none⟩ (.int .i64 oz.us)).rangeLeft p.mb w1.heap.size < cnt2) := Lib.hid fun k h1 => by
        have hbd : Below w3.heap.size w3 (w3.drewN k) := below_drewN (Below.refl _ _) _
        have hkd := blk_below HK3.out hbd (blk_lt HK3.out)
        exact HREL.out _ oz.us ((Only.of_below (F := fun k => k = w.heap.size) hbd).setCell (p := ⟨w.heap.size, 2, none⟩) (.inl rfl) _) (blk_put hkd 2 _) (.inl ⟨rfl, h1⟩)
      have HSELFD : Hid (∀ k, b = false → u ≤ oz.us → AddTo F R A p.mb w1.heap.size m w.heap.size x wt w2 (.bool false) (w3.drewN k) ∧ (w3.drewN k).rangeLeft p.mb w1.heap.size < cnt2) := Lib.hid fun k h1 h2 => by
        have hbd : Below w3.heap.size w3 (w3.drewN k) := below_drewN (Below.refl _ _) _
        exact HREL.out _ u (Only.of_below hbd) (blk_below HK3.out hbd (blk_lt HK3.out)) (.inr ⟨rfl, h1, h2⟩)
      obtain ⟨zi, hzi⟩ : ∃ q, oz.id = q := ⟨_, rfl⟩
      obtain ⟨zb, hzb2⟩ : ∃ q, oz.blk = q := ⟨_, rfl⟩
      obtain ⟨zu, hzu⟩ : ∃ q, oz.us = q := ⟨_, rfl⟩
      rw [hzi, hzb2] at hen
      rw [hzb2] at x2 lx
      rw [hzu] at x2 HSELF HPUT HSELFD
      rw [hzi, hzb2]
      clear hz hlz hFz hr3 hlt3 ho3 hs3 hoz hbl hlz2 hbw hb3 hk3 q2 hzi hzb2 hzu
      cases b with
      | true =>
        have HP2 := Lib.hid (fun k => HPUT.out k (fun h => by cases h))
        clear HPUT HSELF HSELFD
        go_wp2_with fail
        go_quiet (fail)
        go_wp2_with fail
        go_roundw
        case rel => exact (HP2.out _).1
        case measure => rw [HCNT.out]; exact (HP2.out _).2
      | false =>
        by_cases hlu : zu < u
        · have HP2 := Lib.hid (fun k => HPUT.out k (fun _ => hlu))
          have hld : decide (zu < u) = true := decide_eq_true hlu
          clear HPUT HSELF HSELFD
          go_wp2_with fail
          go_quiet (fail)
          go_wp2_with fail
          go_roundw
          case rel => exact (HP2.out _).1
          case measure => rw [HCNT.out]; exact (HP2.out _).2
        · have HP2 := Lib.hid (fun k => HSELFD.out k rfl (by omega))
          have hld : decide (zu < u) = false := decide_eq_false hlu
          clear HPUT HSELF HSELFD
          go_wp2_with fail
          go_quiet (fail)
          go_wp2_with fail
          go_roundw
          case rel => exact (HP2.out _).1
          case measure => rw [HCNT.out]; exact (HP2.out _).2
theorem sadd_any (E : Nat → Addr) (w : World) (Z : Nat → Prop) (sb m : Nat) (st : Int → Option Gu) (h : ScAt w Z sb m st) (hE : ScErr E w) (x wt : Int) (hm : m < 100) :
    Calls Tryd.prog 15 #[.pointer (some ⟨sb, 0, none⟩), .int .i64 x, .int .i64 wt] w (ScAddQ E Z sb m st x wt w) := by
  by_cases hb : addBad x wt
  · exact sadd_bad E w Z sb m st h hE x wt hm hb
  · have hx : kw x := kw_of (by unfold addBad at hb; omega)
    cases hg : st x with
    | some g => exact sadd_twice E w Z sb m st h hE x wt hm hb hx g hg
    | none =>
      obtain ⟨p, F, R, A, rfl, hmm, hp, hs, hZ⟩ := h
      exact sadd_ok E w Z p m F R A st hmm hp hs hZ x wt hm hb hx hg
end Go.Proofs.YtnhocmmgdkiepaaDoor

/-
  Rows of records: a list of records laid out cell by cell; plain facts.
-/
namespace Go.Proofs.YtnhocmmgdkiepaaDoor
open Go.RowKit

theorem rec_len {α V : Type} (f : α → List V) (n : Nat) (hf : ∀ x, (f x).length = n) (l : List α) : (l.flatMap f).length = l.length * n := by
  induction l with
  | nil => simp
  | cons x l ih => rw [List.flatMap_cons, List.length_append, ih, hf, List.length_cons, Nat.succ_mul, Nat.add_comm]
theorem rec_get {α V : Type} [Inhabited α] (f : α → List V) (n : Nat) (hf : ∀ x, (f x).length = n) (l : List α) (i j : Nat) (hi : i < l.length) (hj : j < n) : (l.flatMap f)[i * n + j]? = (f (l.getD i default))[j]? := by
  induction l generalizing i with
  | nil => simp at hi
  | cons x l ih =>
    cases i with
    | zero => rw [List.flatMap_cons, List.getElem?_append_left (by rw [hf]; omega)]; simp
    | succ i =>
      rw [List.flatMap_cons, List.getElem?_append_right (by rw [hf, Nat.succ_mul]; omega), hf, List.getD_cons_succ, ← ih i (by simpa using hi)]
      congr 1
      rw [Nat.succ_mul]
      omega
theorem rec_set {α V : Type} [Inhabited α] (f : α → List V) (n : Nat) (hf : ∀ x, (f x).length = n) (l : List α) (i j : Nat) (hi : i < l.length) (hj : j < n) (y : α) (v : V) (h : f y = (f (l.getD i default)).set j v) : (l.flatMap f).set (i * n + j) v = (l.set i y).flatMap f := by
  induction l generalizing i with
  | nil => simp at hi
  | cons x l ih =>
    cases i with
    | zero =>
      simp only [List.getD_cons_zero] at h
      rw [List.flatMap_cons, List.set_append_left _ _ (by rw [hf]; omega), List.set_cons_zero, List.flatMap_cons, h]
      simp
    | succ i =>
      rw [List.flatMap_cons, List.set_append_right _ _ (by rw [hf, Nat.succ_mul]; omega), List.set_cons_succ, List.flatMap_cons, ← ih i (by simpa using hi) h]
      congr 2
      rw [hf, Nat.succ_mul]
      omega
theorem rec_ext {α V : Type} [Inhabited α] (f : α → List V) (n : Nat) (hf : ∀ x, (f x).length = n) (l : List α) (i : Nat) (hi : i < l.length) : ((l.flatMap f).drop (i * n)).take n = f (l.getD i default) := by
  induction l generalizing i with
  | nil => simp at hi
  | cons x l ih =>
    cases i with
    | zero =>
      rw [List.flatMap_cons, Nat.zero_mul, List.drop_zero]
      rw [show n = (f x).length from (hf x).symm, List.take_left]
      simp
    | succ i =>
      rw [List.flatMap_cons, Nat.succ_mul, Nat.add_comm, ← List.drop_drop, show n = (f x).length from (hf x).symm, List.drop_left, hf, List.getD_cons_succ, ih i (by simpa using hi)]
/-- a part of the whole, of m records from record i on -/
theorem rec_part {α V : Type} (f : α → List V) (n : Nat) (hf : ∀ x, (f x).length = n) (l : List α) (i m : Nat) : ((l.flatMap f).drop (i * n)).take (m * n) = ((l.drop i).take m).flatMap f := by
  induction l generalizing i m with
  | nil => simp
  | cons x l ih =>
    cases i with
    | zero =>
      cases m with
      | zero => simp
      | succ m =>
        have := ih 0 m
        rw [Nat.zero_mul, List.drop_zero, List.drop_zero] at this
        rw [Nat.zero_mul, List.drop_zero, List.drop_zero, List.take_succ_cons, List.flatMap_cons, List.flatMap_cons, ← this, Nat.succ_mul, Nat.add_comm, List.take_append, hf, List.take_of_length_le (by rw [hf]; omega)]
        congr 2
        omega
    | succ i =>
      rw [List.flatMap_cons, Nat.succ_mul, Nat.add_comm, ← List.drop_drop, show n = (f x).length from (hf x).symm, List.drop_left, hf, List.drop_succ_cons, ih i m]

/-- block b holds the records l, each of n cells -/
def RecAt {α : Type} (f : α → List Value) (T : TypeId) (w : World) (b : Nat) (l : List α) : Prop := w.heap[b]? = some (.cells (l.flatMap f).toArray T (0, 0))
theorem RecAt.below {α : Type} {f : α → List Value} {T : TypeId} {w w' : World} {b : Nat} {l : List α} (h : RecAt f T w b l) (hb : Below w.heap.size w w') : RecAt f T w' b l := by
  unfold RecAt at h ⊢
  rw [hb.block b (blk_lt h)]
  exact h
theorem RecAt.only {α : Type} {F : Nat → Prop} {f : α → List Value} {T : TypeId} {w w' : World} {b : Nat} {l : List α} (h : RecAt f T w b l) (hb : Only F w w') (hF : ¬ F b) : RecAt f T w' b l := hb.blk h hF
theorem RecAt.cell {α : Type} [Inhabited α] {f : α → List Value} {n : Nat} (hf : ∀ x, (f x).length = n) {T : TypeId} {w : World} {b : Nat} {l : List α} (h : RecAt f T w b l) (i j : Nat) (hi : i < l.length) (hj : j < n) : w.cell? ⟨b, i * n + j, none⟩ = (f (l.getD i default))[j]? := by
  rw [blk_cell h, List.getElem?_toArray, rec_get f n hf l i j hi hj]
theorem RecAt.free {α : Type} {f : α → List Value} {T : TypeId} {w : World} {b : Nat} {l : List α} (h : RecAt f T w b l) (o : Nat) : w.frozen? ⟨b, o, none⟩ = false := blk_free h o
theorem RecAt.put {α : Type} [Inhabited α] {f : α → List Value} {n : Nat} (hf : ∀ x, (f x).length = n) {T : TypeId} {w : World} {b : Nat} {l : List α} (h : RecAt f T w b l) (i j : Nat) (hi : i < l.length) (hj : j < n) (y : α) (v : Value) (hy : f y = (f (l.getD i default)).set j v) :
    RecAt f T (w.setCell ⟨b, i * n + j, none⟩ v) b (l.set i y) := by
  have := blk_put h (i * n + j) v
  unfold RecAt
  rw [this, ← rec_set f n hf l i j hi hj y v hy]
  simp
end Go.Proofs.YtnhocmmgdkiepaaDoor

