/-
  Parts of one proof, one behind the other.
-/
import Derived.Test.YtnhocmmgdkiepaaDoorMg8edb4dfe2c
import Derived.Carry
/-
  sched.New.
-/
namespace Go.Proofs.YtnhocmmgdkiepaaDoor
open Go.RowKit

def noOne : Int → Option Gu := fun _ => none
def scW (w : World) : World := (((w.alloc (.map #[] 0)).alloc (.cells #[.slice none 0 0] 104)).alloc (.cells #[.slice none 0 0] 104)).alloc (.cells #[.map (some w.heap.size), .pointer (some ⟨w.heap.size + 1, 0, none⟩), .pointer (some ⟨w.heap.size + 1 + 1, 0, none⟩)] 106)
theorem scW_below (w : World) : Below w.heap.size w (scW w) :=
  ((((Below.refl _ _).alloc (Nat.le_refl _) _).alloc (by simp <;> omega) _).alloc (by simp <;> omega) _).alloc (by simp <;> omega) _
theorem hp_nil {w : World} {tb : Nat} (h : w.heap[tb]? = some (.cells #[.slice none 0 0] 104 (0, 0))) : HpAt w tb (.slice none 0 0) [] :=
  ⟨h, own_nil _ _ _, fun i hi => absurd hi (Nat.not_lt_zero i), fun i j hi => absurd hi (Nat.not_lt_zero i), Nat.zero_le _⟩
theorem scW_at (w : World) : ScAt (scW w) (fun b => w.heap.size ≤ b) (w.heap.size + 1 + 1 + 1) 0 noOne := by
  have h1 : (scW w).heap[w.heap.size + 1]? = some (.cells #[.slice none 0 0] 104 (0, 0)) := by
    have := blk_new (w.alloc (.map #[] 0)) (.cells #[.slice none 0 0] 104)
    rw [World.size_alloc] at this
    exact blk_old (blk_old this _) _
  have h2 : (scW w).heap[w.heap.size + 1 + 1]? = some (.cells #[.slice none 0 0] 104 (0, 0)) := by
    have := blk_new ((w.alloc (.map #[] 0)).alloc (.cells #[.slice none 0 0] 104)) (.cells #[.slice none 0 0] 104)
    rw [World.size_alloc, World.size_alloc] at this
    exact blk_old this _
  have h3 : (scW w).heap[w.heap.size + 1 + 1 + 1]? = some (.cells #[.map (some w.heap.size), .pointer (some ⟨w.heap.size + 1, 0, none⟩), .pointer (some ⟨w.heap.size + 1 + 1, 0, none⟩)] 106 (0, 0)) := by
    have := blk_new (((w.alloc (.map #[] 0)).alloc (.cells #[.slice none 0 0] 104)).alloc (.cells #[.slice none 0 0] 104)) (.cells #[.map (some w.heap.size), .pointer (some ⟨w.heap.size + 1, 0, none⟩), .pointer (some ⟨w.heap.size + 1 + 1, 0, none⟩)] 106)
    rw [World.size_alloc, World.size_alloc, World.size_alloc] at this
    exact this
  have h0 : MpAt (scW w) w.heap.size 0 (fun _ => none) := by
    have hb : Below (w.heap.size + 1) (w.alloc (.map #[] 0)) (scW w) := (((Below.refl _ _).alloc (by simp <;> omega) _).alloc (by simp <;> omega) _).alloc (by simp <;> omega) _
    obtain ⟨D, ⟨es, clock, hh, r⟩, hd⟩ := mp_new w
    exact ⟨D, ⟨es, clock, blk_below hh hb (by omega), r⟩, hd⟩
  have no : ∀ o, ¬ InS [] [] o := fun o h => by
    rcases h with ⟨i, hi, -⟩ | ⟨i, hi, -⟩
    · exact absurd hi (Nat.not_lt_zero i)
    · exact absurd hi (Nat.not_lt_zero i)
  refine ⟨⟨w.heap.size + 1 + 1 + 1, w.heap.size, w.heap.size + 1, w.heap.size + 1 + 1, .slice none 0 0, .slice none 0 0⟩, fun _ => none, [], [], rfl, ⟨h3, h0, hp_nil h1, hp_nil h2, (by show w.heap.size + 1 ≠ w.heap.size + 1 + 1; omega), (fun b h => by cases h), fun i j hi => absurd hi (Nat.not_lt_zero i)⟩, ⟨fun o h => absurd h (no o), fun o h => absurd h (no o), (fun x b _ h => by cases h), fun i hi => absurd hi (Nat.not_lt_zero i), fun i hi => absurd hi (Nat.not_lt_zero i), fun c _ hc => absurd hc (Nat.not_lt_zero c), fun c _ hc => absurd hc (Nat.not_lt_zero c), Nat.zero_le _, by omega⟩, ⟨fun o h => absurd h (no o), (fun x g h => by cases h)⟩, fun b hb => ?_⟩
  rcases hb with hb | hb | hb | hb | hb
  · exact Nat.le_of_eq hb.symm
  · rw [show b = w.heap.size + 1 from hb]; show w.heap.size ≤ _; omega
  · rw [show b = w.heap.size + 1 + 1 from hb]; show w.heap.size ≤ _; omega
  · rcases hb with hb | ⟨j, hj, -⟩
    · cases hb
    · exact absurd hj (Nat.not_lt_zero j)
  · rcases hb with hb | ⟨j, hj, -⟩
    · cases hb
    · exact absurd hj (Nat.not_lt_zero j)
theorem run_mkMap (w : World) : (Instr.makeMap 100 none).run Tryd.prog w = .ok (.map (some w.heap.size)) (w.alloc (.map #[] 0)) := by kernel_rfl
set_option maxHeartbeats 1600000 in
theorem snew_any (w : World) :
    Calls Tryd.prog 14 #[] w fun e w' => ∃ sb, e = .returned (.pointer (some ⟨sb, 0, none⟩)) ∧ ScAt w' (fun b => w.heap.size ≤ b) sb 0 noOne ∧ w.heap.size ≤ sb ∧ Below w.heap.size w w' := by
  have hmk := run_mkMap
  have HA := Lib.hid (scW_at w)
  have HB := Lib.hid (scW_below w)
  go_enter Tryd.func14, Tryd.ntmps14
  go_wp2_with fail
  go_ret
  exact ⟨w.heap.size + 1 + 1 + 1, rfl, HA.out, by omega, HB.out⟩
end Go.Proofs.YtnhocmmgdkiepaaDoor

/-
  sched.Sched: what its steps make of what it says. Plain laws.
-/
namespace Go.Proofs.YtnhocmmgdkiepaaDoor
open Go.RowKit

def upd (st : Int → Option Gu) (x : Int) (g : Option Gu) : Int → Option Gu := fun z => if z = x then g else st z
def updF (F : Int → Option Nat) (x : Int) (g : Option Nat) : Int → Option Nat := fun z => if z = x then g else F z
structure Lists (R A : List On) : Prop where
  sr : AllSl false R
  sa : AllSl true A
  hr : Hp R R.length
  ha : Hp A A.length
theorem scP_upd {m : Nat} {F : Int → Option Nat} {R A R2 A2 : List On} {st : Int → Option Gu} {o o' : On} (h : ScP m F R A) (hs : ScS R A st) (inj : ∀ a b, InS R A a → InS R A b → a.id = b.id → a = b) (ho : InS R A o) (hid : o'.id = o.id) (hbl : o'.blk = o.blk) (hok : onOk o')
    (hin : ∀ z, InS R2 A2 z ↔ (z = o' ∨ (InS R A z ∧ z.id ≠ o.id))) (hl : Lists R2 A2) (hc : R2.length + A2.length = R.length + A.length) : ScP m F R2 A2 ∧ ScS R2 A2 (upd st o.id (some o'.gu)) := by
  refine ⟨⟨fun z hz => ?_, fun z hz => ?_, fun x b hx hF => ?_, hl.sr, hl.sa, hl.hr, hl.ha, by rw [hc]; exact h.cnt, h.m100⟩, ⟨fun z hz => ?_, fun x g hg => ?_⟩⟩
  · rcases (hin z).1 hz with rfl | ⟨h1, -⟩
    · exact hok
    · exact h.ids z h1
  · rcases (hin z).1 hz with rfl | ⟨h1, -⟩
    · rw [hid, hbl]; exact h.f1 o ho
    · exact h.f1 z h1
  · obtain ⟨z, hz, rfl, rfl⟩ := h.f2 x b hx hF
    by_cases e : z.id = o.id
    · have := inj z o hz ho e
      subst this
      exact ⟨o', (hin o').2 (.inl rfl), hid, hbl⟩
    · exact ⟨z, (hin z).2 (.inr ⟨hz, e⟩), rfl, rfl⟩
  · unfold upd
    rcases (hin z).1 hz with rfl | ⟨h1, h2⟩
    · rw [if_pos hid]
    · rw [if_neg h2]; exact hs.s1 z h1
  · unfold upd at hg
    by_cases e : x = o.id
    · exact ⟨o', (hin o').2 (.inl rfl), by rw [hid, e]⟩
    · rw [if_neg e] at hg
      obtain ⟨z, hz, rfl⟩ := hs.s2 x g hg
      exact ⟨z, (hin z).2 (.inr ⟨hz, e⟩), rfl⟩
theorem scP_del {m : Nat} {F : Int → Option Nat} {R A R2 A2 : List On} {st : Int → Option Gu} {o : On} (h : ScP m F R A) (hs : ScS R A st) (ho : InS R A o)
    (hin : ∀ z, InS R2 A2 z ↔ (InS R A z ∧ z.id ≠ o.id)) (hl : Lists R2 A2) (hc : R2.length + A2.length ≤ R.length + A.length) : ScP m (updF F o.id none) R2 A2 ∧ ScS R2 A2 (upd st o.id none) := by
  refine ⟨⟨fun z hz => h.ids z ((hin z).1 hz).1, fun z hz => ?_, fun x b hx hF => ?_, hl.sr, hl.sa, hl.hr, hl.ha, Nat.le_trans hc h.cnt, h.m100⟩, ⟨fun z hz => ?_, fun x g hg => ?_⟩⟩
  · obtain ⟨h1, h2⟩ := (hin z).1 hz
    unfold updF
    rw [if_neg h2]
    exact h.f1 z h1
  · unfold updF at hF
    by_cases e : x = o.id
    · rw [if_pos e] at hF; cases hF
    · rw [if_neg e] at hF
      obtain ⟨z, hz, rfl, rfl⟩ := h.f2 x b hx hF
      exact ⟨z, (hin z).2 ⟨hz, e⟩, rfl, rfl⟩
  · obtain ⟨h1, h2⟩ := (hin z).1 hz
    unfold upd
    rw [if_neg h2]
    exact hs.s1 z h1
  · unfold upd at hg
    by_cases e : x = o.id
    · rw [if_pos e] at hg; cases hg
    · rw [if_neg e] at hg
      obtain ⟨z, hz, rfl⟩ := hs.s2 x g hg
      exact ⟨z, (hin z).2 ⟨hz, e⟩, rfl⟩
theorem scP_add {m : Nat} {F : Int → Option Nat} {R A R2 A2 : List On} {st : Int → Option Gu} {o' : On} (h : ScP m F R A) (hs : ScS R A st) (hm : m < 100) (hok : onOk o') (hno : st o'.id = none)
    (hin : ∀ z, InS R2 A2 z ↔ (z = o' ∨ InS R A z)) (hl : Lists R2 A2) (hc : R2.length + A2.length ≤ R.length + A.length + 1) : ScP (m + 1) (updF F o'.id (some o'.blk)) R2 A2 ∧ ScS R2 A2 (upd st o'.id (some o'.gu)) := by
  have hne : ∀ z, InS R A z → z.id ≠ o'.id := fun z hz e => by
    have := hs.s1 z hz
    rw [e, hno] at this
    cases this
  refine ⟨⟨fun z hz => ?_, fun z hz => ?_, fun x b hx hF => ?_, hl.sr, hl.sa, hl.hr, hl.ha, by have := h.cnt; omega, by omega⟩, ⟨fun z hz => ?_, fun x g hg => ?_⟩⟩
  · rcases (hin z).1 hz with rfl | h1
    · exact hok
    · exact h.ids z h1
  · unfold updF
    rcases (hin z).1 hz with rfl | h1
    · rw [if_pos rfl]
    · rw [if_neg (hne z h1)]; exact h.f1 z h1
  · unfold updF at hF
    by_cases e : x = o'.id
    · rw [if_pos e] at hF
      exact ⟨o', (hin o').2 (.inl rfl), e.symm, Option.some.inj hF⟩
    · rw [if_neg e] at hF
      obtain ⟨z, hz, rfl, rfl⟩ := h.f2 x b hx hF
      exact ⟨z, (hin z).2 (.inr hz), rfl, rfl⟩
  · unfold upd
    rcases (hin z).1 hz with rfl | h1
    · rw [if_pos rfl]
    · rw [if_neg (hne z h1)]; exact hs.s1 z h1
  · unfold upd at hg
    by_cases e : x = o'.id
    · exact ⟨o', (hin o').2 (.inl rfl), e.symm⟩
    · rw [if_neg e] at hg
      obtain ⟨z, hz, rfl⟩ := hs.s2 x g hg
      exact ⟨z, (hin z).2 (.inr hz), rfl⟩
/-- one list, by its members -/
def InL (l : List On) (o : On) : Prop := ∃ i, i < l.length ∧ og l i = o
theorem Same.inL {l l' : List On} (h : Same l l') (o : On) : InL l' o ↔ InL l o :=
  ⟨fun ⟨i, hi, e⟩ => by
    obtain ⟨j, hj, e2⟩ := h.fro i hi
    exact ⟨j, hj, e2.symm.trans e⟩, fun ⟨j, hj, e⟩ => by
    obtain ⟨i, hi, e2⟩ := h.to j hj
    exact ⟨i, hi, e2.trans e⟩⟩
/-- one turned for another one -/
theorem inL_set (l : List On) (i : Nat) (hi : i < l.length) (o' : On) (nd : ∀ a b, a < l.length → b < l.length → (og l a).blk = (og l b).blk → a = b) (hb : o'.blk = (og l i).blk) (z : On) : InL (l.set i o') z ↔ (z = o' ∨ (InL l z ∧ z ≠ og l i)) := by
  constructor
  · rintro ⟨j, hj, rfl⟩
    rw [List.length_set] at hj
    rw [on_setD _ _ _ _ hi]
    by_cases e : j = i
    · rw [if_pos e]; exact .inl rfl
    · rw [if_neg e]
      exact .inr ⟨⟨j, hj, rfl⟩, fun h => e (nd j i hj hi (by rw [h]))⟩
  · rintro (rfl | ⟨⟨j, hj, rfl⟩, hne⟩)
    · exact ⟨i, by rw [List.length_set]; exact hi, by rw [on_setD _ _ _ _ hi, if_pos rfl]⟩
    · have e : j ≠ i := fun e => hne (by rw [e])
      exact ⟨j, by rw [List.length_set]; exact hj, by rw [on_setD _ _ _ _ hi, if_neg e]⟩
theorem inL_app (l : List On) (o z : On) : InL (l ++ [o]) z ↔ (z = o ∨ InL l z) := by
  constructor
  · rintro ⟨j, hj, rfl⟩
    rw [List.length_append] at hj
    by_cases e : j < l.length
    · rw [og_app _ _ _ e]; exact .inr ⟨j, e, rfl⟩
    · have : j = l.length := by simp at hj; omega
      subst this
      rw [og_last]; exact .inl rfl
  · rintro (rfl | ⟨j, hj, rfl⟩)
    · exact ⟨l.length, by simp, og_last _ _⟩
    · exact ⟨j, by rw [List.length_append]; omega, og_app _ _ _ hj⟩
theorem inL_rem (l : List On) (i : Nat) (hi : i < l.length) (nd : ∀ a b, a < l.length → b < l.length → (og l a).blk = (og l b).blk → a = b) (z : On) : InL ((hRem l i).take (l.length - 1)) z ↔ (InL l z ∧ z ≠ og l i) := by
  have hs := hRem_same l i hi
  have hla := hRem_last l i hi
  have nd2 := hs.nd nd
  have hlen := hs.len
  have hg : ∀ j, j < l.length - 1 → og ((hRem l i).take (l.length - 1)) j = og (hRem l i) j := fun j hj => by
    unfold og
    rw [List.getD_eq_getElem?_getD, List.getElem?_take, if_pos hj, ← List.getD_eq_getElem?_getD]
  have hlt : ((hRem l i).take (l.length - 1)).length = l.length - 1 := by rw [List.length_take, hlen]; omega
  constructor
  · rintro ⟨j, hj, rfl⟩
    rw [hlt] at hj
    rw [hg j hj]
    refine ⟨(hs.inL _).1 ⟨j, by omega, rfl⟩, fun e => ?_⟩
    rw [← hla] at e
    have := nd2 j (l.length - 1) (by omega) (by omega) (by rw [e])
    omega
  · rintro ⟨h1, h2⟩
    obtain ⟨j, hj, rfl⟩ := (hs.inL z).2 h1
    have : j ≠ l.length - 1 := fun e => h2 (by rw [e, hla])
    exact ⟨j, by rw [hlt]; omega, hg j (by omega)⟩
theorem rem_lists (s : Bool) (l : List On) (i : Nat) (hi : i < l.length) (hs : AllSl s l) (h : Hp l l.length) : AllSl s ((hRem l i).take (l.length - 1)) ∧ Hp ((hRem l i).take (l.length - 1)) ((hRem l i).take (l.length - 1)).length ∧ ((hRem l i).take (l.length - 1)).length = l.length - 1 := by
  have hsm := hRem_same l i hi
  have hlen := hsm.len
  have hlt : ((hRem l i).take (l.length - 1)).length = l.length - 1 := by rw [List.length_take, hlen]; omega
  have hg : ∀ j, j < l.length - 1 → og ((hRem l i).take (l.length - 1)) j = og (hRem l i) j := fun j hj => by
    unfold og
    rw [List.getD_eq_getElem?_getD, List.getElem?_take, if_pos hj, ← List.getD_eq_getElem?_getD]
  refine ⟨fun j hj => ?_, fun c h0 hc => ?_, hlt⟩
  · rw [hlt] at hj
    rw [hg j hj]
    exact hsm.sl hs j (by omega)
  · rw [hlt] at hc
    rw [hg c hc, hg ((c - 1) / 2) (by omega)]
    exact hRem_heap s l i hi hs h c h0 hc
theorem fix_set (s : Bool) (l : List On) (i : Nat) (o' : On) (hi : i < l.length) (hs : AllSl s l) (h : Hp l l.length) : FixI (l.set i o') i l.length := by
  have hg := fun c => on_setD l i c o' hi
  refine ⟨fun c h0 hc h1 h2 => ?_, fun c h0 hc hp hi0 => ?_⟩
  · rw [hg, hg, if_neg h1, if_neg h2]
    exact h c h0 hc
  · rw [hg, hg, if_neg (by omega), if_neg (by omega)]
    have h1 := h c h0 hc
    rw [hp] at h1
    exact nlt_trans s (hs _ (by omega)) (hs _ (by omega)) h1 (h i hi0 (by omega))
theorem set_sl (s : Bool) (l : List On) (i : Nat) (o' : On) (hi : i < l.length) (hs : AllSl s l) (ho : o'.sl = s) : AllSl s (l.set i o') := fun j hj => by
  rw [List.length_set] at hj
  rw [on_setD _ _ _ _ hi]
  by_cases e : j = i
  · rw [if_pos e]; exact ho
  · rw [if_neg e]; exact hs j hj
/-- a turned one, and the heap set right -/
theorem fix_lists (s : Bool) (l : List On) (i : Nat) (o' : On) (hi : i < l.length) (hs : AllSl s l) (ho : o'.sl = s) (h : Hp l l.length) : AllSl s (hFix (l.set i o') i l.length) ∧ Hp (hFix (l.set i o') i l.length) (hFix (l.set i o') i l.length).length ∧ (hFix (l.set i o') i l.length).length = l.length := by
  have hl : (l.set i o').length = l.length := List.length_set
  have hsl := set_sl s l i o' hi hs ho
  have hsm := hFix_same (l.set i o') i l.length (by omega) (by omega)
  refine ⟨hsm.sl hsl, ?_, hsm.len.trans hl⟩
  rw [hsm.len, hl]
  exact hFix_heap s _ _ _ hi (by omega) hsl (fix_set s l i o' hi hs h)
/-- a cell of one's is turned, its place not -/
theorem HpAt.turn {w : World} {tb : Nat} {v : Value} {l : List On} (h : HpAt w tb v l) (i : Nat) (hi : i < l.length) (k : Nat) (u : Value) (o' : On) (hb : o'.blk = (og l i).blk) (hc : onCells o' (i : Int) = (onCells (og l i) (i : Int)).setIfInBounds k u) : HpAt (w.setCell ⟨o'.blk, k, none⟩ u) tb v (l.set i o') := by
  rw [hb]
  have hg := fun c => on_setD l i c o' hi
  refine ⟨?_, ?_, fun j hj => ?_, fun a b ha hb' e => ?_, by rw [List.length_set]; exact h.max⟩
  · rw [Below.heap_setCell _ _ _ _ (fun e => one_ne_hdr h i hi e.symm)]
    exact h.hdr
  · rw [List.length_set]
    have : ptrs (l.set i o') = ptrs l := by
      rw [← ptrs_set]
      have h1 := ptrs_get l i hi
      have h2 : onPtr o' = onPtr (og l i) := by unfold onPtr; rw [hb]
      rw [h2]
      exact List.ext_getElem? (fun n => by
        rw [List.getElem?_set]
        by_cases e : i = n
        · subst e
          rw [if_pos rfl, h1, ptrs_len, if_pos hi]
        · rw [if_neg e])
    rw [this]
    exact own_set h.own (h.ones i hi) (by decide) k u
  · rw [List.length_set] at hj
    rw [hg]
    by_cases e : j = i
    · subst e
      rw [if_pos rfl, hb, hc]
      exact blk_put (h.ones j hj) k u
    · rw [if_neg e, Below.heap_setCell _ _ _ _ (fun e2 => e (h.nd j i hj hi e2))]
      exact h.ones j hj
  · rw [List.length_set] at ha hb'
    have hx : ∀ c, (og (l.set i o') c).blk = (og l c).blk := fun c => by
      rw [hg]
      by_cases e : c = i
      · rw [if_pos e, hb, e]
      · rw [if_neg e]
    rw [hx, hx] at e
    exact h.nd a b ha hb' e
end Go.Proofs.YtnhocmmgdkiepaaDoor

/-
  sched.Sched: Ran.
-/
namespace Go.Proofs.YtnhocmmgdkiepaaDoor
open Go.RowKit

/-- where the errors lie that it tells -/
def ScErr (E : Nat → Addr) (w : World) : Prop := (w.cell? ⟨0, 0, none⟩ = some (errV (E 2)) ∧ 0 < w.heap.size) ∧ (w.cell? ⟨1, 0, none⟩ = some (errV (E 5)) ∧ 1 < w.heap.size) ∧ w.cell? ⟨2, 0, none⟩ = some (errV (E 6)) ∧ 2 < w.heap.size
def errD (E : Nat → Addr) (c : Int) : Value := if c = 0 then .nilIface else errV (E (c - 101).toNat)
def ScQ (E : Nat → Addr) (Z : Nat → Prop) (sb m : Nat) (R : (Int → Option Gu) × Int) (w : World) (e : Ending) (w' : World) : Prop := e = .returned (errD E R.2) ∧ ScAt w' (fun b => Z b ∨ w.heap.size ≤ b) sb m R.1 ∧ Only Z w w'
/-- what he has used then -/
def ranU (us n wt : Int) : Int := if us + 100 * n / wt ≤ 1152921504606846976 then us + 100 * n / wt else 1152921504606846976
def scRan (st : Int → Option Gu) (x n : Int) : (Int → Option Gu) × Int := match st x with
  | none => (st, 107)
  | some g => if n < 0 ∨ 1073741824 < n then (st, 103) else (upd st x (some ⟨g.wt, ranU g.us n g.wt, g.sl, g.un⟩), 0)
theorem ran_range {us n wt : Int} (h1 : 1 ≤ wt ∧ wt ≤ 100) (h2 : 0 ≤ us ∧ us ≤ 1152921504606846976) (h3 : 0 ≤ n ∧ n ≤ 1073741824) : (0 ≤ 100 * n / wt ∧ 100 * n / wt ≤ 107374182400) ∧ 0 ≤ ranU us n wt ∧ ranU us n wt ≤ 1152921504606846976 := by
  have a : 0 ≤ 100 * n / wt := Int.ediv_nonneg (by omega) (by omega)
  have b : 100 * n / wt ≤ 100 * n := Int.ediv_le_self _ (by omega)
  refine ⟨⟨a, by omega⟩, ?_⟩
  unfold ranU
  split <;> omega
theorem hz_set {v : Value} {l : List On} {i : Nat} (hi : i < l.length) {o' : On} (hb : o'.blk = (og l i).blk) (b : Nat) (h : hz v (l.set i o') b) : hz v l b := by
  rcases h with h | ⟨j, hj, rfl⟩
  · exact .inl h
  · rw [List.length_set] at hj
    rw [on_setD _ _ _ _ hi]
    by_cases e : j = i
    · rw [if_pos e, hb]; exact .inr ⟨i, hi, rfl⟩
    · rw [if_neg e]; exact .inr ⟨j, hj, rfl⟩
theorem ran_doneR {w W1 w2 : World} {p : Sl} {m : Nat} {F : Int → Option Nat} {R A : List On} {st : Int → Option Gu} (h : ScMem w p m F R A) (hp : ScP m F R A) (hs : ScS R A st) {Z : Nat → Prop} (hZ : ∀ b, scz p R A b → Z b) {i : Nat} (hi : i < R.length) {o' : On} (hid : o'.id = (og R i).id) (hbl : o'.blk = (og R i).blk) (hsl : o'.sl = false) (hok : onOk o')
    (h1 : Only (fun b => b = (og R i).blk) w W1) (h2 : HpAt w2 p.rb p.rv (hFix (R.set i o') i (R.set i o').length)) (h3 : Only (hz p.rv (R.set i o')) W1 w2) : ScAt w2 (fun b => Z b ∨ w.heap.size ≤ b) p.sb m (upd st (og R i).id (some o'.gu)) ∧ Only Z w w2 := by
  rw [List.length_set] at h2
  obtain ⟨f1, f2, f3⟩ := fix_lists false R i o' hi hp.sr hsl hp.hr
  have hsm := hFix_same (R.set i o') i R.length (by rw [List.length_set]; exact hi) (by rw [List.length_set]; exact Nat.le_refl _)
  have ho : Only (fun b => b = p.rb ∨ hz p.rv R b ∨ False) w w2 := (h1.mono fun b e => .inl (.inr (.inl (.inr ⟨i, hi, e⟩)))).trans (h3.mono fun b e => .inl (.inr (.inl (hz_set hi hbl b e))))
  have hon : ∀ c q, c < (R.set i o').length → q < A.length → (og (R.set i o') c).blk ≠ (og A q).blk := fun c q hc hq => by
    have := h.ones c q (by rw [List.length_set] at hc; exact hc) hq
    rw [on_setD _ _ _ _ hi]
    by_cases e : c = i
    · rw [if_pos e, hbl, ← e]; exact this
    · rw [if_neg e]; exact this
  have hm2 := h.opR h2 ho (fun b e => e.elim) (fun b hb => .inl hb) (fun j q hj hq => by
    obtain ⟨c, hc, e⟩ := hsm.fro j hj
    rw [e]
    exact hon c q hc hq)
  have hL : ∀ z, InL (hFix (R.set i o') i R.length) z ↔ (z = o' ∨ (InL R z ∧ z ≠ og R i)) := fun z => (hsm.inL z).trans (inL_set R i hi o' h.rd.nd hbl z)
  obtain ⟨q1, q2⟩ := scP_upd hp hs (fun a b ha hb e => sc_inj h hp ha hb e) (InS.r hi) hid hbl hok (fun z => by
    constructor
    · rintro (h1 | h1)
      · rcases (hL z).1 h1 with e | ⟨h2, h3⟩
        · exact .inl e
        · exact .inr ⟨.inl h2, fun e => h3 (sc_inj h hp (.inl h2) (.r hi) e)⟩
      · exact .inr ⟨.inr h1, fun e => by
          have := sc_inj h hp (.inr h1) (.r hi) e
          subst this
          obtain ⟨j, hj, e2⟩ := h1
          exact h.ones i j hi hj (by rw [e2])⟩
    · rintro (e | ⟨h1 | h1, h2⟩)
      · exact .inl ((hL z).2 (.inl e))
      · exact .inl ((hL z).2 (.inr ⟨h1, fun e => h2 (by rw [e])⟩))
      · exact .inr h1) ⟨f1, hp.sa, f2, hp.ha⟩ (by rw [f3])
  refine ⟨⟨_, F, _, _, rfl, hm2, q1, q2, fun b hb => ?_⟩, ho.mono fun b hb => .inl (hZ b (by
    rcases hb with hb | hb | hb
    · rw [hb]; exact .inr (.inl rfl)
    · exact .inr (.inr (.inr (.inl hb)))
    · exact hb.elim))⟩
  refine .inl (hZ b ?_)
  rcases hb with hb | hb | hb | hb | hb
  · exact .inl hb
  · exact .inr (.inl hb)
  · exact .inr (.inr (.inl hb))
  · exact .inr (.inr (.inr (.inl (hz_set hi hbl b (hsm.hz b hb)))))
  · exact .inr (.inr (.inr (.inr hb)))
theorem ran_doneA {w W1 w2 : World} {p : Sl} {m : Nat} {F : Int → Option Nat} {R A : List On} {st : Int → Option Gu} (h : ScMem w p m F R A) (hp : ScP m F R A) (hs : ScS R A st) {Z : Nat → Prop} (hZ : ∀ b, scz p R A b → Z b) {i : Nat} (hi : i < A.length) {o' : On} (hid : o'.id = (og A i).id) (hbl : o'.blk = (og A i).blk) (hsl : o'.sl = true) (hok : onOk o')
    (h1 : Only (fun b => b = (og A i).blk) w W1) (h2 : HpAt w2 p.ab p.av (hFix (A.set i o') i (A.set i o').length)) (h3 : Only (hz p.av (A.set i o')) W1 w2) : ScAt w2 (fun b => Z b ∨ w.heap.size ≤ b) p.sb m (upd st (og A i).id (some o'.gu)) ∧ Only Z w w2 := by
  rw [List.length_set] at h2
  obtain ⟨f1, f2, f3⟩ := fix_lists true A i o' hi hp.sa hsl hp.ha
  have hsm := hFix_same (A.set i o') i A.length (by rw [List.length_set]; exact hi) (by rw [List.length_set]; exact Nat.le_refl _)
  have ho : Only (fun b => b = p.ab ∨ hz p.av A b ∨ False) w w2 := (h1.mono fun b e => .inl (.inr (.inl (.inr ⟨i, hi, e⟩)))).trans (h3.mono fun b e => .inl (.inr (.inl (hz_set hi hbl b e))))
  have hon : ∀ c q, c < (A.set i o').length → q < R.length → (og (A.set i o') c).blk ≠ (og R q).blk := fun c q hc hq => by
    have := (h.ones q c hq (by rw [List.length_set] at hc; exact hc)).symm
    rw [on_setD _ _ _ _ hi]
    by_cases e : c = i
    · rw [if_pos e, hbl, ← e]; exact this
    · rw [if_neg e]; exact this
  have hm2 := h.opA h2 ho (fun b e => e.elim) (fun b hb => .inl hb) (fun j q hj hq => by
    obtain ⟨c, hc, e⟩ := hsm.fro j hj
    rw [e]
    exact hon c q hc hq)
  have hL : ∀ z, InL (hFix (A.set i o') i A.length) z ↔ (z = o' ∨ (InL A z ∧ z ≠ og A i)) := fun z => (hsm.inL z).trans (inL_set A i hi o' h.sd.nd hbl z)
  obtain ⟨q1, q2⟩ := scP_upd hp hs (fun a b ha hb e => sc_inj h hp ha hb e) (InS.a hi) hid hbl hok (fun z => by
    constructor
    · rintro (h1 | h1)
      · exact .inr ⟨.inl h1, fun e => by
          have := sc_inj h hp (.inl h1) (.a hi) e
          subst this
          obtain ⟨j, hj, e2⟩ := h1
          exact h.ones j i hj hi (by rw [e2])⟩
      · rcases (hL z).1 h1 with e | ⟨h2, h3⟩
        · exact .inl e
        · exact .inr ⟨.inr h2, fun e => h3 (sc_inj h hp (.inr h2) (.a hi) e)⟩
    · rintro (e | ⟨h1 | h1, h2⟩)
      · exact .inr ((hL z).2 (.inl e))
      · exact .inl h1
      · exact .inr ((hL z).2 (.inr ⟨h1, fun e => h2 (by rw [e])⟩))) ⟨hp.sr, f1, hp.hr, f2⟩ (by rw [f3])
  refine ⟨⟨_, F, _, _, rfl, hm2, q1, q2, fun b hb => ?_⟩, ho.mono fun b hb => .inl (hZ b (by
    rcases hb with hb | hb | hb
    · rw [hb]; exact .inr (.inr (.inl rfl))
    · exact .inr (.inr (.inr (.inr hb)))
    · exact hb.elim))⟩
  refine .inl (hZ b ?_)
  rcases hb with hb | hb | hb | hb | hb
  · exact .inl hb
  · exact .inr (.inl hb)
  · exact .inr (.inr (.inl hb))
  · exact .inr (.inr (.inr (.inl hb)))
  · exact .inr (.inr (.inr (.inr (hz_set hi hbl b (hsm.hz b hb)))))
set_option maxRecDepth 100000 in
set_option maxHeartbeats 6400000 in
theorem sran_none (E : Nat → Addr) (w : World) (Z : Nat → Prop) (sb m : Nat) (st : Int → Option Gu) (h : ScAt w Z sb m st) (hE : ScErr E w) (x n : Int) (hx : kw x) (hno : st x = none) :
    Calls Tryd.prog 16 #[.pointer (some ⟨sb, 0, none⟩), .int .i64 x, .int .i64 n] w (ScQ E Z sb m (scRan st x n) w) := by
  have HR : Hid (scRan st x n = (st, 107)) := Lib.hid (by unfold scRan; rw [hno])
  rw [HR.out]
  have HQ : Hid (ScQ E Z sb m (st, 107) w (.returned (errD E 107)) w) := Lib.hid ⟨rfl, h.mono fun b _ hb => .inl hb, Only.refl _ _⟩
  obtain ⟨p, F, R, A, rfl, hm, hp, hs, -⟩ := h
  have c0 : w.cell? ⟨p.sb, 0, none⟩ = some (.map (some p.mb)) := blk_cell hm.row 0
  have lt := blk_lt hm.row
  have hl := mp_look hm.map x hx
  rcases sc_look (w := w) (p := p) hp hs x hx with ⟨h1, h2⟩ | ⟨o, ho, -, -, h2⟩
  · rw [h1] at hl
    unfold optPtr at hl
    obtain ⟨-, -, e6, l6⟩ := hE
    clear hm hp hs h1 h2 hno HR
    go_enter Tryd.func16, Tryd.ntmps16
    go_wp2
    go_ret
    exact HQ.out
  · rw [hno] at h2
    cases h2
set_option maxRecDepth 100000 in
set_option maxHeartbeats 6400000 in
theorem sran_range (E : Nat → Addr) (w : World) (Z : Nat → Prop) (sb m : Nat) (st : Int → Option Gu) (h : ScAt w Z sb m st) (hE : ScErr E w) (x n : Int) (hx : kw x) (g : Gu) (hg : st x = some g) (hn : n < 0 ∨ 1073741824 < n) :
    Calls Tryd.prog 16 #[.pointer (some ⟨sb, 0, none⟩), .int .i64 x, .int .i64 n] w (ScQ E Z sb m (scRan st x n) w) := by
  have HR : Hid (scRan st x n = (st, 103)) := Lib.hid (by unfold scRan; rw [hg]; dsimp only; rw [if_pos hn])
  rw [HR.out]
  have HQ : Hid (ScQ E Z sb m (st, 103) w (.returned (errD E 103)) w) := Lib.hid ⟨rfl, h.mono fun b _ hb => .inl hb, Only.refl _ _⟩
  obtain ⟨p, F, R, A, rfl, hm, hp, hs, -⟩ := h
  have c0 : w.cell? ⟨p.sb, 0, none⟩ = some (.map (some p.mb)) := blk_cell hm.row 0
  have lt := blk_lt hm.row
  have hl := mp_look hm.map x hx
  rcases sc_look (w := w) (p := p) hp hs x hx with ⟨h1, h2⟩ | ⟨o, ho, -, h1, -⟩
  · rw [hg] at h2
    cases h2
  · rw [h1] at hl
    unfold optPtr at hl
    obtain ⟨⟨e2, l2⟩, -⟩ := hE
    have hcc : n < 0 ∨ (¬ n < 0 ∧ 1073741824 < n) := by omega
    clear hm hp hs h1 hg HR ho hn
    rcases hcc with hn | ⟨hn, hn2⟩
    all_goals
      go_enter Tryd.func16, Tryd.ntmps16
      go_wp2
      go_ret
      exact HQ.out
set_option maxRecDepth 100000 in
set_option maxHeartbeats 6400000 in
theorem sran_R (E : Nat → Addr) (w : World) (Z : Nat → Prop) (p : Sl) (m : Nat) (F : Int → Option Nat) (R A : List On) (st : Int → Option Gu) (hm : ScMem w p m F R A) (hp : ScP m F R A) (hs : ScS R A st) (hZ : ∀ b, scz p R A b → Z b) (i : Nat) (hi : i < R.length) (n : Int) (hn : 0 ≤ n ∧ n ≤ 1073741824) (hx : kw (og R i).id) :
    Calls Tryd.prog 16 #[.pointer (some ⟨p.sb, 0, none⟩), .int .i64 (og R i).id, .int .i64 n] w (ScQ E Z p.sb m (scRan st (og R i).id n) w) := by
  have hg := hs.s1 _ (InS.r (R := R) (A := A) hi)
  have hok := hp.ids _ (InS.r (R := R) (A := A) hi)
  have hos := hp.sr i hi
  have HR : Hid (scRan st (og R i).id n = (upd st (og R i).id (some ⟨(og R i).wt, ranU (og R i).us n (og R i).wt, (og R i).sl, (og R i).un⟩), 0)) := Lib.hid (by unfold scRan; rw [hg]; dsimp only; rw [if_neg (by omega)]; rfl)
  rw [HR.out]
  obtain ⟨⟨a0, a1⟩, b0, b1⟩ := ran_range hok.2.1 hok.2.2.1 hn
  have hbl := hm.rd.ones i hi
  obtain ⟨o', ho'⟩ : ∃ o' : On, o' = ⟨(og R i).id, (og R i).wt, ranU (og R i).us n (og R i).wt, (og R i).sl, (og R i).un, (og R i).blk⟩ := ⟨_, rfl⟩
  have HDONE := Lib.hid (fun (W1 w2 : World) h1 h2 h3 => ran_doneR (w := w) (W1 := W1) (w2 := w2) hm hp hs hZ hi (o' := o') (by rw [ho']) (by rw [ho']) (by rw [ho']; exact hos) (by rw [ho']; exact ⟨hok.1, hok.2.1, ⟨b0, b1⟩, hok.2.2.2⟩) h1 h2 h3)
  have hgu : o'.gu = ⟨(og R i).wt, ranU (og R i).us n (og R i).wt, (og R i).sl, (og R i).un⟩ := by rw [ho']; rfl
  rw [hgu] at HDONE
  have hcl := mp_look hm.map _ hx
  rw [hp.f1 _ (InS.r (R := R) (A := A) hi)] at hcl
  unfold optPtr at hcl
  have c0 : w.cell? ⟨p.sb, 0, none⟩ = some (.map (some p.mb)) := blk_cell hm.row 0
  have lt := blk_lt hm.row
  have c1 : w.cell? ⟨(og R i).blk, 1, none⟩ = some (.int .i64 (og R i).wt) := blk_cell hbl 1
  have c2 : w.cell? ⟨(og R i).blk, 2, none⟩ = some (.int .i64 (og R i).us) := blk_cell hbl 2
  have f2 := blk_free hbl 2
  have lo := blk_lt hbl
  have HT : Hid (∀ u k, (∃ t : World, t = (w.drewN k).setCell ⟨(og R i).blk, 2, none⟩ (.int .i64 u)) → u = ranU (og R i).us n (og R i).wt → True) := Lib.hid fun _ _ _ _ => trivial
  have HTURN : Hid (∀ W : World, HpAt W p.rb p.rv R → HpAt (W.setCell ⟨(og R i).blk, 2, none⟩ (.int .i64 (ranU (og R i).us n (og R i).wt))) p.rb p.rv (R.set i o')) := Lib.hid fun W hW => by
    have := hW.turn i hi 2 (.int .i64 (ranU (og R i).us n (og R i).wt)) o' (by rw [ho']) (by rw [ho']; rfl)
    rw [show o'.blk = (og R i).blk by rw [ho']] at this
    exact this
  have HMM := Lib.hid hm
  have HLI : Hid (i < R.length) := Lib.hid hi
  have HOB : Hid (∀ W1 : World, HpAt W1 p.rb p.rv (R.set i o') → W1.heap[(og R i).blk]? = some (.cells (onCells o' (i : Int)) 109 (0, 0))) := Lib.hid fun W1 h1 => by
    have := h1.ones i (by rw [List.length_set]; exact hi)
    rw [on_setD _ _ _ _ hi, if_pos rfl, show o'.blk = (og R i).blk by rw [ho']] at this
    exact this
  have HROW := Lib.hid (fun (W1 : World) (ho : Only (fun b => b = (og R i).blk) w W1) => ho.blk hm.row (fun e => hz_ne hm.rd (.inr ⟨i, hi, rfl⟩) hm.row (by decide) (by decide) e.symm))
  have HFX := Lib.hid (fun (W1 : World) (h1 : HpAt W1 p.rb p.rv (R.set i o')) => hfix_any p.rb p.rv (R.set i o') i W1 h1 (by rw [List.length_set]; exact hi))
  have HOF : Hid (∀ W1 : World, Only (fun b => b = (og R i).blk) w W1 → HpAt W1 p.rb p.rv (R.set i o') → Calls Tryd.prog 58 #[.pointer (some ⟨p.sb, 0, none⟩), .pointer (some ⟨(og R i).blk, 0, none⟩)] W1 fun e w' => e = .returned (.pointer (some ⟨p.rb, 0, none⟩)) ∧ W1 = w') := Lib.hid fun W1 ho h1 => by
    have hb := HOB.out W1 h1
    have h4 := sof_row W1 p.sb p.mb p.rb p.ab (HROW.out W1 ho) o' i (by rw [show o'.blk = (og R i).blk by rw [ho']]; exact hb)
    rw [show o'.blk = (og R i).blk by rw [ho'], show o'.sl = false by rw [ho']; exact hos] at h4
    exact h4
  obtain ⟨⟨oi, ow, ou, os, on, ob⟩, ho⟩ : ∃ o, og R i = o := ⟨_, rfl⟩
  rw [ho] at hok hcl c1 c2 f2 lo a0 a1 b0 b1 HTURN HOB HROW HOF HDONE HR hos ⊢
  dsimp only at hok hcl c1 c2 f2 lo a0 a1 b0 b1 HTURN HOB HROW HOF HDONE HR hos ⊢
  unfold onOk at hok
  dsimp only at hok
  obtain ⟨w1, w2⟩ := hok.2.1
  obtain ⟨u1, u2⟩ := hok.2.2.1
  obtain ⟨n1, n2⟩ := hn
  have k1 : ¬ n < 0 := by omega
  have k2 : ¬ 1073741824 < n := by omega
  have wa := IntWalk.i64_in (100 * n) (by omega)
  have k3 : ¬ ow = 0 := by omega
  have k4 : (ow == 0) = false := by rw [beq_eq_false_iff_ne]; exact k3
  have wb : wrap64 ((100 * n).tdiv ow) = 100 * n / ow := by
    rw [Int.tdiv_eq_ediv_of_nonneg (by omega)]
    exact IntWalk.wrap64_in _ (by omega)
  have wb2 := IntWalk.i64_in (100 * n / ow) (by omega)
  have wc := IntWalk.i64_in (ou + 100 * n / ow) (by omega)
  have hu : (if 1152921504606846976 < ou + 100 * n / ow then 1152921504606846976 else ou + 100 * n / ow) = ranU ou n ow := by unfold ranU; split <;> split <;> omega
  have HU := Lib.hid hu
  clear hm hp hs hZ hg hos hbl ho' hgu HR hi hok hx ho hu HT
  go_enter Tryd.func16, Tryd.ntmps16
  go_wp2_with fail
  go_region
  rw [HU.out]
  obtain ⟨W1, hW1⟩ : ∃ W1, (w.setCell ⟨ob, 2, none⟩ (.int .i64 (ranU ou n ow))).drew = W1 := ⟨_, rfl⟩
  have ho1 : Only (fun b => b = ob) w W1 := hW1 ▸ ((Only.refl (fun b => b = ob) w).setCell (p := ⟨ob, 2, none⟩) (.inl rfl) _).drew
  have hp1 : HpAt W1 p.rb p.rv (R.set i o') := hW1 ▸ (HTURN.out w HMM.out.rd).below (Below.refl _ _).drew
  have hb1 := HOB.out W1 hp1
  have d5 : W1.cell? ⟨ob, 5, none⟩ = some (.int .i64 (i : Int)) := blk_cell hb1 5
  have ld := blk_lt hb1
  have HP1 := Lib.hid hp1
  have HO1 := Lib.hid ho1
  have HPD := Lib.hid (hp1.below (Below.refl _ _).drew)
  have HOD : Hid (Only (fun b => b = ob) w W1.drew) := Lib.hid ho1.drew
  rw [hW1]
  clear c0 lt c1 c2 f2 lo hcl wa wb wb2 wc k1 k2 k3 k4 hW1 ho1 hp1 hb1 a0 a1 b0 b1
  go_wp2_with fail
  go_region_with (first
    | (go_at_call 58; refine (HOF.out _ (by first | exact HO1.out | exact HOD.out) (by first | exact HP1.out | exact HPD.out)).mono ?_; rintro y wx ⟨rfl, rfl⟩)
    | (go_at_call 57; refine (HFX.out _ (by first | exact HP1.out | exact HPD.out)).mono ?_; rintro y w2 ⟨rfl, h2, h3⟩; have hfin := (by first | exact HDONE.out _ _ HO1.out h2 h3 | exact HDONE.out _ _ HOD.out h2 h3)))
  all_goals
    have HFIN := Lib.hid hfin
    clear h2 h3 hfin d5 ld
    go_wp2
    go_ret
    exact ⟨rfl, HFIN.out⟩
set_option maxRecDepth 100000 in
set_option maxHeartbeats 6400000 in
theorem sran_A (E : Nat → Addr) (w : World) (Z : Nat → Prop) (p : Sl) (m : Nat) (F : Int → Option Nat) (R A : List On) (st : Int → Option Gu) (hm : ScMem w p m F R A) (hp : ScP m F R A) (hs : ScS R A st) (hZ : ∀ b, scz p R A b → Z b) (i : Nat) (hi : i < A.length) (n : Int) (hn : 0 ≤ n ∧ n ≤ 1073741824) (hx : kw (og A i).id) :
    Calls Tryd.prog 16 #[.pointer (some ⟨p.sb, 0, none⟩), .int .i64 (og A i).id, .int .i64 n] w (ScQ E Z p.sb m (scRan st (og A i).id n) w) := by
  have hg := hs.s1 _ (InS.a (R := R) (A := A) hi)
  have hok := hp.ids _ (InS.a (R := R) (A := A) hi)
  have hos := hp.sa i hi
  have HR : Hid (scRan st (og A i).id n = (upd st (og A i).id (some ⟨(og A i).wt, ranU (og A i).us n (og A i).wt, (og A i).sl, (og A i).un⟩), 0)) := Lib.hid (by unfold scRan; rw [hg]; dsimp only; rw [if_neg (by omega)]; rfl)
  rw [HR.out]
  obtain ⟨⟨a0, a1⟩, b0, b1⟩ := ran_range hok.2.1 hok.2.2.1 hn
  have hbl := hm.sd.ones i hi
  obtain ⟨o', ho'⟩ : ∃ o' : On, o' = ⟨(og A i).id, (og A i).wt, ranU (og A i).us n (og A i).wt, (og A i).sl, (og A i).un, (og A i).blk⟩ := ⟨_, rfl⟩
  have HDONE := Lib.hid (fun (W1 w2 : World) h1 h2 h3 => ran_doneA (w := w) (W1 := W1) (w2 := w2) hm hp hs hZ hi (o' := o') (by rw [ho']) (by rw [ho']) (by rw [ho']; exact hos) (by rw [ho']; exact ⟨hok.1, hok.2.1, ⟨b0, b1⟩, hok.2.2.2⟩) h1 h2 h3)
  have hgu : o'.gu = ⟨(og A i).wt, ranU (og A i).us n (og A i).wt, (og A i).sl, (og A i).un⟩ := by rw [ho']; rfl
  rw [hgu] at HDONE
  have hcl := mp_look hm.map _ hx
  rw [hp.f1 _ (InS.a (R := R) (A := A) hi)] at hcl
  unfold optPtr at hcl
  have c0 : w.cell? ⟨p.sb, 0, none⟩ = some (.map (some p.mb)) := blk_cell hm.row 0
  have lt := blk_lt hm.row
  have c1 : w.cell? ⟨(og A i).blk, 1, none⟩ = some (.int .i64 (og A i).wt) := blk_cell hbl 1
  have c2 : w.cell? ⟨(og A i).blk, 2, none⟩ = some (.int .i64 (og A i).us) := blk_cell hbl 2
  have f2 := blk_free hbl 2
  have lo := blk_lt hbl
  have HT : Hid (∀ u k, (∃ t : World, t = (w.drewN k).setCell ⟨(og A i).blk, 2, none⟩ (.int .i64 u)) → u = ranU (og A i).us n (og A i).wt → True) := Lib.hid fun _ _ _ _ => trivial
  have HTURN : Hid (∀ W : World, HpAt W p.ab p.av A → HpAt (W.setCell ⟨(og A i).blk, 2, none⟩ (.int .i64 (ranU (og A i).us n (og A i).wt))) p.ab p.av (A.set i o')) := Lib.hid fun W hW => by
    have := hW.turn i hi 2 (.int .i64 (ranU (og A i).us n (og A i).wt)) o' (by rw [ho']) (by rw [ho']; rfl)
    rw [show o'.blk = (og A i).blk by rw [ho']] at this
    exact this
  have HMM := Lib.hid hm
  have HLI : Hid (i < A.length) := Lib.hid hi
  have HOB : Hid (∀ W1 : World, HpAt W1 p.ab p.av (A.set i o') → W1.heap[(og A i).blk]? = some (.cells (onCells o' (i : Int)) 109 (0, 0))) := Lib.hid fun W1 h1 => by
    have := h1.ones i (by rw [List.length_set]; exact hi)
    rw [on_setD _ _ _ _ hi, if_pos rfl, show o'.blk = (og A i).blk by rw [ho']] at this
    exact this
  have HROW := Lib.hid (fun (W1 : World) (ho : Only (fun b => b = (og A i).blk) w W1) => ho.blk hm.row (fun e => hz_ne hm.sd (.inr ⟨i, hi, rfl⟩) hm.row (by decide) (by decide) e.symm))
  have HFX := Lib.hid (fun (W1 : World) (h1 : HpAt W1 p.ab p.av (A.set i o')) => hfix_any p.ab p.av (A.set i o') i W1 h1 (by rw [List.length_set]; exact hi))
  have HOF : Hid (∀ W1 : World, Only (fun b => b = (og A i).blk) w W1 → HpAt W1 p.ab p.av (A.set i o') → Calls Tryd.prog 58 #[.pointer (some ⟨p.sb, 0, none⟩), .pointer (some ⟨(og A i).blk, 0, none⟩)] W1 fun e w' => e = .returned (.pointer (some ⟨p.ab, 0, none⟩)) ∧ W1 = w') := Lib.hid fun W1 ho h1 => by
    have hb := HOB.out W1 h1
    have h4 := sof_row W1 p.sb p.mb p.rb p.ab (HROW.out W1 ho) o' i (by rw [show o'.blk = (og A i).blk by rw [ho']]; exact hb)
    rw [show o'.blk = (og A i).blk by rw [ho'], show o'.sl = true by rw [ho']; exact hos] at h4
    exact h4
  obtain ⟨⟨oi, ow, ou, os, on, ob⟩, ho⟩ : ∃ o, og A i = o := ⟨_, rfl⟩
  rw [ho] at hok hcl c1 c2 f2 lo a0 a1 b0 b1 HTURN HOB HROW HOF HDONE HR hos ⊢
  dsimp only at hok hcl c1 c2 f2 lo a0 a1 b0 b1 HTURN HOB HROW HOF HDONE HR hos ⊢
  unfold onOk at hok
  dsimp only at hok
  obtain ⟨w1, w2⟩ := hok.2.1
  obtain ⟨u1, u2⟩ := hok.2.2.1
  obtain ⟨n1, n2⟩ := hn
  have k1 : ¬ n < 0 := by omega
  have k2 : ¬ 1073741824 < n := by omega
  have wa := IntWalk.i64_in (100 * n) (by omega)
  have k3 : ¬ ow = 0 := by omega
  have k4 : (ow == 0) = false := by rw [beq_eq_false_iff_ne]; exact k3
  have wb : wrap64 ((100 * n).tdiv ow) = 100 * n / ow := by
    rw [Int.tdiv_eq_ediv_of_nonneg (by omega)]
    exact IntWalk.wrap64_in _ (by omega)
  have wb2 := IntWalk.i64_in (100 * n / ow) (by omega)
  have wc := IntWalk.i64_in (ou + 100 * n / ow) (by omega)
  have hu : (if 1152921504606846976 < ou + 100 * n / ow then 1152921504606846976 else ou + 100 * n / ow) = ranU ou n ow := by unfold ranU; split <;> split <;> omega
  have HU := Lib.hid hu
  clear hm hp hs hZ hg hos hbl ho' hgu HR hi hok hx ho hu HT
  go_enter Tryd.func16, Tryd.ntmps16
  go_wp2_with fail
  go_region
  rw [HU.out]
  obtain ⟨W1, hW1⟩ : ∃ W1, (w.setCell ⟨ob, 2, none⟩ (.int .i64 (ranU ou n ow))).drew = W1 := ⟨_, rfl⟩
  have ho1 : Only (fun b => b = ob) w W1 := hW1 ▸ ((Only.refl (fun b => b = ob) w).setCell (p := ⟨ob, 2, none⟩) (.inl rfl) _).drew
  have hp1 : HpAt W1 p.ab p.av (A.set i o') := hW1 ▸ (HTURN.out w HMM.out.sd).below (Below.refl _ _).drew
  have hb1 := HOB.out W1 hp1
  have d5 : W1.cell? ⟨ob, 5, none⟩ = some (.int .i64 (i : Int)) := blk_cell hb1 5
  have ld := blk_lt hb1
  have HP1 := Lib.hid hp1
  have HO1 := Lib.hid ho1
  have HPD := Lib.hid (hp1.below (Below.refl _ _).drew)
  have HOD : Hid (Only (fun b => b = ob) w W1.drew) := Lib.hid ho1.drew
  rw [hW1]
  clear c0 lt c1 c2 f2 lo hcl wa wb wb2 wc k1 k2 k3 k4 hW1 ho1 hp1 hb1 a0 a1 b0 b1
  go_wp2_with fail
  go_region_with (first
    | (go_at_call 58; refine (HOF.out _ (by first | exact HO1.out | exact HOD.out) (by first | exact HP1.out | exact HPD.out)).mono ?_; rintro y wx ⟨rfl, rfl⟩)
    | (go_at_call 57; refine (HFX.out _ (by first | exact HP1.out | exact HPD.out)).mono ?_; rintro y w2 ⟨rfl, h2, h3⟩; have hfin := (by first | exact HDONE.out _ _ HO1.out h2 h3 | exact HDONE.out _ _ HOD.out h2 h3)))
  all_goals
    have HFIN := Lib.hid hfin
    clear h2 h3 hfin d5 ld
    go_wp2
    go_ret
    exact ⟨rfl, HFIN.out⟩
theorem sran_any (E : Nat → Addr) (w : World) (Z : Nat → Prop) (sb m : Nat) (st : Int → Option Gu) (h : ScAt w Z sb m st) (hE : ScErr E w) (x n : Int) (hx : kw x) :
    Calls Tryd.prog 16 #[.pointer (some ⟨sb, 0, none⟩), .int .i64 x, .int .i64 n] w (ScQ E Z sb m (scRan st x n) w) := by
  cases hg : st x with
  | none => exact sran_none E w Z sb m st h hE x n hx hg
  | some g =>
    by_cases hn : n < 0 ∨ 1073741824 < n
    · exact sran_range E w Z sb m st h hE x n hx g hg hn
    · obtain ⟨p, F, R, A, rfl, hm, hp, hs, hZ⟩ := h
      obtain ⟨o, ho, rfl⟩ := hs.s2 x g hg
      rcases ho with ⟨i, hi, rfl⟩ | ⟨i, hi, rfl⟩
      · exact sran_R E w Z p m F R A st hm hp hs hZ i hi n (by omega) hx
      · exact sran_A E w Z p m F R A st hm hp hs hZ i hi n (by omega) hx
end Go.Proofs.YtnhocmmgdkiepaaDoor

