/-
  Parts of one proof, one behind the other.
-/
import Derived.Test.YtbigilbbbmanjaaGreatDoorMg349e98775e
import Derived.Below
import Derived.RowKit
import Derived.KernelRfl
/-
  The evaluator of closed calls: a part.
-/
set_option linter.unusedVariables false
set_option linter.unusedSimpArgs false
namespace Go.Ev
theorem filter_lt : ∀ (l : List Nat) (p q : Nat → Bool), (∀ x, q x = true → p x = true) → (∃ x ∈ l, p x = true ∧ q x = false) → (l.filter q).length < (l.filter p).length
  | [], p, q, _, h => by obtain ⟨x, hx, _⟩ := h; cases hx
  | y :: l, p, q, hqp, h => by
    have le : ∀ (l : List Nat), (l.filter q).length ≤ (l.filter p).length := fun l => by
      induction l with
      | nil => simp
      | cons z l ih =>
        simp only [List.filter_cons]
        cases hq : q z
        · cases p z <;> simp <;> omega
        · rw [hqp z hq]; simp; omega
    simp only [List.filter_cons]
    cases hp : p y
    · have hqy : q y = false := by cases hq : q y; · rfl
                                   · rw [hqp y hq] at hp; cases hp
      rw [hqy]
      obtain ⟨x, hx, h1, h2⟩ := h
      rcases List.mem_cons.1 hx with rfl | hx
      · rw [h1] at hp; cases hp
      · simpa using filter_lt l p q hqp ⟨x, hx, h1, h2⟩
    · cases hq : q y
      · have := le l; simp; omega
      · obtain ⟨x, hx, h1, h2⟩ := h
        rcases List.mem_cons.1 hx with rfl | hx
        · rw [h2] at hq; cases hq
        · have := filter_lt l p q hqp ⟨x, hx, h1, h2⟩
          simp; omega
/-- how many are not listed -/
def cnt (n : Nat) (listed : Array Bool) : Nat := ((List.range n).filter fun i => !listed.getD i true).length
def Lst (listed : Array Bool) (i : Nat) : Prop := listed.getD i false = true
theorem getD_tf {listed : Array Bool} {i : Nat} (h : i < listed.size) : listed.getD i true = listed.getD i false := by simp [h]
theorem lst_set {listed : Array Bool} {j : Nat} (h : j < listed.size) : Lst (listed.setIfInBounds j true) = fun k => Lst listed k ∨ k = j := by
  funext k
  apply propext
  unfold Lst
  by_cases e : k = j
  · subst e; simp [h]
  · simp only [e, or_false]
    rw [getD_set_ne false (Ne.symm e)]
theorem cnt_set {n : Nat} {listed : Array Bool} {j : Nat} (hj : j < n) (h : j < listed.size) (hf : listed.getD j true = false) : cnt n (listed.setIfInBounds j true) < cnt n listed := by
  unfold cnt
  refine filter_lt _ _ _ (fun x hx => ?_) ⟨j, List.mem_range.2 hj, by rw [hf]; rfl, by simp [h]⟩
  by_cases e : x = j
  · subst e; simp [h] at hx
  · rw [getD_set_ne true (Ne.symm e)] at hx; exact hx
theorem mem_edges {o : Oper} {q : Nat} : q ∈ edges o ↔ ∃ e ∈ o.after, Region.binds .any e = true ∧ e.on = q := by
  unfold edges
  simp only [List.mem_map, List.mem_filter, Array.mem_toList_iff]
  constructor
  · rintro ⟨e, ⟨h1, h2⟩, h3⟩; exact ⟨e, h1, h2, h3⟩
  · rintro ⟨e, h1, h2, h3⟩; exact ⟨e, ⟨h1, h2⟩, h3⟩
section
variable {cx : Cx} {call : Call} {E0 : Nm} {h0 : H} {w0 : World} {a0 : A} {act0 : Act}
theorem ready_parts {listed : Array Bool} {j : Nat} (hs : listed.size = cx.ops.length) (h : j ∈ Region.ready .any cx.ops.toArray listed) :
    j < cx.ops.length ∧ listed.getD j true = false ∧ ¬ Lst listed j ∧ ∀ o, cx.ops[j]? = some o → ∀ q ∈ edges o, Lst listed q := by
  obtain ⟨h1, o, h2, h3⟩ := mem_ready.1 h
  have h2' : cx.ops[j]? = some o := by simpa using h2
  have hlt := (List.getElem?_eq_some_iff.1 h2').1
  refine ⟨hlt, h1, fun e => ?_, fun o' ho' q hq => ?_⟩
  · unfold Lst at e
    rw [getD_tf (by omega), e] at h1; cases h1
  · rw [h2'] at ho'; cases ho'
    obtain ⟨e, e1, e2, rfl⟩ := mem_edges.1 hq
    exact h3 e e1 e2
theorem ready_some (hback : backOk 0 cx.ops = true) {listed : Array Bool} (hs : listed.size = cx.ops.length) : ∀ (i : Nat), i < cx.ops.length → ¬ Lst listed i → ∃ j, j ∈ Region.ready .any cx.ops.toArray listed := by
  intro i
  induction i using Nat.strongRecOn with
  | _ i ih =>
    intro hi hn
    have ho : cx.ops[i]? = some cx.ops[i] := List.getElem?_eq_getElem hi
    by_cases hall : ∀ q ∈ edges cx.ops[i], Lst listed q
    · refine ⟨i, mem_ready.2 ⟨?_, cx.ops[i], by first | simp | exact ho, fun e he hb => hall e.on (mem_edges.2 ⟨e, he, hb, rfl⟩)⟩⟩
      rw [getD_tf (by omega)]
      cases hb : listed.getD i false
      · rfl
      · exact absurd hb hn
    · have : ∃ q, q ∈ edges cx.ops[i] ∧ ¬ Lst listed q := Classical.byContradiction fun h => hall fun q hq => Classical.byContradiction fun h2 => h ⟨q, hq, h2⟩
      obtain ⟨q, h1, h2⟩ := this
      have hlt := backOk_get hback ho q h1
      exact ih q (by omega) (by omega) h2
theorem ready_all (hback : backOk 0 cx.ops = true) {listed : Array Bool} (hs : listed.size = cx.ops.length) (h : Region.ready .any cx.ops.toArray listed = []) : ∀ i, i < cx.ops.length → Lst listed i := fun i hi =>
  Classical.byContradiction fun hn => by
    obtain ⟨j, hj⟩ := ready_some hback hs i hi hn
    rw [h] at hj; cases hj
theorem cnt_zero {listed : Array Bool} (hs : listed.size = cx.ops.length) (h : cnt cx.ops.length listed ≤ 0) : ∀ i, i < cx.ops.length → Lst listed i := fun i hi => by
  unfold cnt at h
  have h0 : (List.range cx.ops.length).filter (fun i => !listed.getD i true) = [] := List.eq_nil_of_length_eq_zero (by omega)
  have := List.filter_eq_nil_iff.1 h0 i (List.mem_range.2 hi)
  unfold Lst
  rw [← getD_tf (by omega)]
  simpa using this
theorem ready_none {listed : Array Bool} (hs : listed.size = cx.ops.length) (h : ∀ i, i < cx.ops.length → Lst listed i) : Region.ready .any cx.ops.toArray listed = [] := by
  cases hr : Region.ready .any cx.ops.toArray listed with
  | nil => rfl
  | cons j l =>
    have hj : j ∈ Region.ready .any cx.ops.toArray listed := by rw [hr]; simp
    obtain ⟨h1, _, h2, _⟩ := ready_parts hs hj
    exact absurd (h j h1) h2
theorem dst_lt (b0 : Base cx a0 E0 act0) {Cv : List (Nat × V)} {env : Env} {a : A} (c : Can cx a0 Cv env a) : ∀ i o t, (∃ v, (i, v) ∈ Cv) → cx.ops[i]? = some o → o.dst = some t → t < act0.tmps.size := fun i o t ⟨v, hv⟩ ho ht =>
  Nat.lt_of_lt_of_le (c.dlt i v t hv (by simp [dstOf, ho, ht])) b0.rel.size
/-- what is told is done, one after the other -/
theorem drain (b0 : Base cx a0 E0 act0) (honce : onceOk cx.ops = true) (hback : backOk 0 cx.ops = true) {Cv : List (Nat × V)} {env : Env} {a : A} (c : Can cx a0 Cv env a) {U : Nat → Prop} {obs : List (Nat × Ob)} {h : H}
    (hall : ∀ i, i < cx.ops.length → ∃ v, (i, v) ∈ Cv) {Q : Exit → Act → World → Prop} (hQ : ∀ E act w R, Inv cx a0 E0 h0 w0 act0 Cv U obs h E act w R → (∀ i, i < cx.ops.length → R i) → Q .normal act w) :
    ∀ fuel listed E act w, Inv cx a0 E0 h0 w0 act0 Cv U obs h E act w (Lst listed) → listed.size = cx.ops.length → cnt cx.ops.length listed ≤ fuel → wpAny cx.P .any cx.ops.toArray Q fuel listed act w
  | 0, listed, E, act, w, I, hs, hc => ⟨ready_none hs (cnt_zero hs hc), hQ E act w _ I (cnt_zero hs hc)⟩
  | fuel + 1, listed, E, act, w, I, hs, hc => ⟨fun hr => hQ E act w _ I (ready_all hback hs hr), fun j hj => by
      obtain ⟨h1, h2, h3, h4⟩ := ready_parts hs hj
      obtain ⟨v, hv⟩ := hall j h1
      refine real_told b0 honce I (dst_lt b0 c) hv h3 h4 fun E' act' w' I' => ?_
      rw [← lst_set (by omega)] at I'
      exact drain b0 honce hback c hall hQ fuel _ E' act' w' I' (by simpa using hs) (by have := cnt_set h1 (by omega) h2; omega)⟩
theorem can_rel (b0 : Base cx a0 E0 act0) {Cv : List (Nat × V)} {env : Env} {a : A} (c : Can cx a0 Cv env a) {U : Nat → Prop} {obs : List (Nat × Ob)} {h : H} {E : Nm} {act : Act} {w : World} {R : Nat → Prop} (I : Inv cx a0 E0 h0 w0 act0 Cv U obs h E act w R)
    (hR : ∀ i, i < cx.ops.length → R i) : Rel E cx.ks cx.nt a act := by
  have lt : ∀ i t, dstOf cx.ops i = some t → i < cx.ops.length := fun i t h => by
    simp only [dstOf] at h
    cases ho : cx.ops[i]? with
    | none => rw [ho] at h; cases h
    | some o => exact (List.getElem?_eq_some_iff.1 ho).1
  refine ⟨by rw [I.rt.sz]; exact b0.rel.size, fun t s hs => ?_, by rw [c.dfr, I.rt.df]; exact b0.rel.dfr.ext I.step.ext⟩
  by_cases he : ∃ i v, (i, v) ∈ Cv ∧ dstOf cx.ops i = some t
  · obtain ⟨i, v, h1, h2⟩ := he
    rw [c.tab2 i v t s h1 h2 hs]
    exact I.rt.t1 i v t h1 (hR i (lt i t h2)) h2
  · have hno : ∀ i v, (i, v) ∈ Cv → dstOf cx.ops i ≠ some t := fun i v h1 h2 => he ⟨i, v, h1, h2⟩
    rw [c.tab1 t s hs hno, I.rt.t0 t (fun i hi hd => by obtain ⟨v, hv⟩ := I.sub i hi; exact hno i v hv hd)]
    exact den_ext I.step.ext _ _ (b0.rel.val t s hs)
/-- all that comes behind a changing operation stands behind it -/
theorem chk_behind : ∀ {its : List Dr} {C : List Nat} {e : Nat} {Ul : List Nat}, chk cx.P cx.ops (befs cx.ops []) C (some e) Ul its = true → ∀ j, j < cx.ops.length → j ∉ C → ∀ R : Nat → Prop, Closed cx.ops R → (∀ q ∈ bOf (befs cx.ops []) j, R q) → R e
  | [], C, e, Ul, h, j, hj, hn, R, hR, hb => by
    simp only [chk, Bool.and_eq_true] at h
    exact absurd (has_mem.1 (List.all_eq_true.1 h.2 j (List.mem_range.2 hj))) hn
  | .F ls :: its, C, e, Ul, h, j, hj, hn, R, hR, hb => by
    simp only [chk, Bool.and_eq_true] at h
    exact absurd (has_mem.1 (List.all_eq_true.1 h.1.1.1.2 j (List.mem_range.2 hj))) hn
  | .N i :: its, C, e, Ul, h, j, hj, hn, R, hR, hb => by
    simp only [chk, Bool.and_eq_true] at h
    obtain ⟨o, ho, _, _, hl, _, _⟩ := chkOp_parts h.1
    by_cases e' : j = i
    · subst e'; exact hb e (hl e rfl)
    · exact chk_behind h.2 j hj (by simp [e', hn]) R hR hb
  | .B i :: its, C, e, Ul, h, j, hj, hn, R, hR, hb => by
    simp only [chk, Bool.and_eq_true] at h
    obtain ⟨o, ho, _, _, hl, _, _⟩ := chkOp_parts h.1
    by_cases e' : j = i
    · subst e'; exact hb e (hl e rfl)
    · exact chk_behind h.2 j hj (by simp [e', hn]) R hR hb
  | .E i ls ks :: its, C, e, Ul, h, j, hj, hn, R, hR, hb => by
    simp only [chk, Bool.and_eq_true] at h
    obtain ⟨o, ho, _, _, hl, _, _⟩ := chkOp_parts h.1.1.1.1.1
    by_cases e' : j = i
    · subst e'; exact hb e (hl e rfl)
    · have hRi := chk_behind h.2 j hj (by simp [e', hn]) R hR hb
      exact bef_closed hR ho hRi e (hl e rfl)
theorem flat_its (its : List Dr) (env : Env) (obs : List (Nat × Ob)) (a : A) (h : H) (kn : KA) : True := trivial
theorem draw_main (hcall : CallOk cx.P call) (honce : onceOk cx.ops = true) (hback : backOk 0 cx.ops = true) : ∀ (its : List Dr) (C Ul : List Nat) (last : Option Nat) (Cv : List (Nat × V)) (env : Env) (obs : List (Nat × Ob)) (a : A) (h : H) (kn : KA),
    chk cx.P cx.ops (befs cx.ops []) C last Ul its = true → (∀ j ∈ C, j < cx.ops.length) → (∀ j, j ∈ C ↔ ∃ v, (j, v) ∈ Cv) → Can cx a0 Cv env a → (∀ i ∈ Ul, i ∈ C) → (∀ i, find i obs ≠ none → i ∈ C) → (∀ i ∈ C, ∀ j ∈ bOf (befs cx.ops []) i, j ∈ C) →
    evIts cx call (flat its) env obs a h kn = true →
    ∃ a' h', kn a' h' = true ∧ ∀ E0 h0 w0 act0, Base cx a0 E0 act0 → ∀ fuel listed E act w (Q : Exit → Act → World → Prop), Inv cx a0 E0 h0 w0 act0 Cv (· ∈ Ul) obs h E act w (Lst listed) → listed.size = cx.ops.length → cnt cx.ops.length listed ≤ fuel →
      (∀ E' act' w', Step cx.P E0 h0 w0 E' h' w' → Rel E' cx.ks cx.nt a' act' → Q .normal act' w') → wpAny cx.P .any cx.ops.toArray Q fuel listed act w
  | [], C, Ul, last, Cv, env, obs, a, h, kn, hchk, hlt, hC, c, hU, hob, hBC, hk => by
    simp only [chk, Bool.and_eq_true] at hchk
    refine ⟨a, h, hk, fun E0 h0 w0 act0 b0 fuel listed E act w Q I hs hc hQ => drain b0 honce hback c (fun i hi => (hC i).1 (has_mem.1 (List.all_eq_true.1 hchk.2 i (List.mem_range.2 hi)))) (fun E act w R I hR => hQ E act w I.step (can_rel b0 c I hR)) fuel listed E act w I hs hc⟩
  | .F ls :: its, C, Ul, last, Cv, env, obs, a, h, kn, hchk, hlt, hC, c, hU, hob, hBC, hk => by
    simp only [chk, Bool.and_eq_true] at hchk
    obtain ⟨⟨⟨⟨hl, hall⟩, hnd⟩, hlU⟩, hUl⟩ := hchk
    cases its with
    | cons _ _ => cases hl
    | nil =>
      obtain ⟨h1, _, k1, hr⟩ := lays_sound (a0 := a0) hnd (show evIts cx call (ls.map .L ++ []) env obs a h kn = true from hk)
      refine ⟨a, h1, k1, fun E0 h0 w0 act0 b0 fuel listed E act w Q I hs hc hQ => drain b0 honce hback c (fun i hi => (hC i).1 (has_mem.1 (List.all_eq_true.1 hall i (List.mem_range.2 hi)))) (fun E act w R I hR => ?_) fuel listed E act w I hs hc⟩
      have I2 := hr E0 h0 w0 act0 Cv _ E act w R I fun j hj => ⟨has_mem.1 (List.all_eq_true.1 hlU j hj), hR j (hlt j (hU j (has_mem.1 (List.all_eq_true.1 hlU j hj))))⟩
      exact hQ E act w I2.step (can_rel b0 c I2 hR)
  | .N i :: its, C, Ul, last, Cv, env, obs, a, h, kn, hchk, hlt, hC, c, hU, hob, hBC, hk => by
    simp only [chk, Bool.and_eq_true] at hchk
    obtain ⟨o0, ho0, hi, hB, _⟩ := chkOp_parts hchk.1
    have hfi : find i obs = none := Classical.byContradiction fun e => hi (hob i e)
    obtain ⟨o, v, a', ho, k1, c', ht⟩ := tell_N (call := call) c honce hC hchk.1 hfi hk
    have hC' : ∀ j, j ∈ i :: C ↔ ∃ u, (j, u) ∈ (i, v) :: Cv := fun j => by
      simp only [List.mem_cons, Prod.mk.injEq, hC j]
      constructor
      · rintro (rfl | ⟨u, hu⟩)
        · exact ⟨v, .inl ⟨rfl, rfl⟩⟩
        · exact ⟨u, .inr hu⟩
      · rintro ⟨u, ⟨rfl, rfl⟩ | hu⟩
        · exact .inl rfl
        · exact .inr ⟨u, hu⟩
    obtain ⟨a2, h2, k2, hr⟩ := draw_main hcall honce hback its (i :: C) Ul last _ _ obs a' h kn hchk.2 (fun j hj => by rcases List.mem_cons.1 hj with rfl | hj; exact (List.getElem?_eq_some_iff.1 ho0).1; exact hlt j hj) hC' c' (fun j hj => by simp [hU j hj]) (fun j hj => by simp [hob j hj]) (fun j hj q hq => by
      rcases List.mem_cons.1 hj with rfl | hj
      · simp [hB q hq]
      · simp [hBC j hj q hq]) k1
    exact ⟨a2, h2, k2, fun E0 h0 w0 act0 b0 fuel listed E act w Q I hs hc hQ => hr E0 h0 w0 act0 b0 fuel listed E act w Q (inv_N I (fun u hu => hi ((hC i).2 ⟨u, hu⟩)) ht hfi) hs hc hQ⟩
  | .B i :: its, C, Ul, last, Cv, env, obs, a, h, kn, hchk, hlt, hC, c, hU, hob, hBC, hk => by
    simp only [chk, Bool.and_eq_true] at hchk
    obtain ⟨o0, ho0, hi, hB, _⟩ := chkOp_parts hchk.1
    obtain ⟨o, v, a', ob, h', ho, k1, c', ht, hobh⟩ := tell_B (call := call) c honce hC hchk.1 hk
    have hC' : ∀ j, j ∈ i :: C ↔ ∃ u, (j, u) ∈ (i, v) :: Cv := fun j => by
      simp only [List.mem_cons, Prod.mk.injEq, hC j]
      constructor
      · rintro (rfl | ⟨u, hu⟩)
        · exact ⟨v, .inl ⟨rfl, rfl⟩⟩
        · exact ⟨u, .inr hu⟩
      · rintro ⟨u, ⟨rfl, rfl⟩ | hu⟩
        · exact .inl rfl
        · exact .inr ⟨u, hu⟩
    obtain ⟨a2, h2, k2, hr⟩ := draw_main hcall honce hback its (i :: C) (i :: Ul) last _ _ _ a' h' kn hchk.2 (fun j hj => by rcases List.mem_cons.1 hj with rfl | hj; exact (List.getElem?_eq_some_iff.1 ho0).1; exact hlt j hj) hC' c' (fun j hj => by
      rcases List.mem_cons.1 hj with rfl | hj
      · simp
      · simp [hU j hj]) (fun j hj => by
      by_cases e : j = i
      · simp [e]
      · have : Nat.beq j i = false := by
          cases hb : Nat.beq j i
          · rfl
          · exact absurd (Nat.eq_of_beq_eq_true hb) e
        simp only [find, this] at hj
        simp [hob j hj]) (fun j hj q hq => by
      rcases List.mem_cons.1 hj with rfl | hj
      · simp [hB q hq]
      · simp [hBC j hj q hq]) k1
    refine ⟨a2, h2, k2, fun E0 h0 w0 act0 b0 fuel listed E act w Q I hs hc hQ => hr E0 h0 w0 act0 b0 fuel listed E act w Q ((inv_B I (fun u hu => hi ((hC i).2 ⟨u, hu⟩)) (fun hm => hi (hU i hm)) ht hobh).congrU fun k => ?_) hs hc hQ⟩
    simp only [List.mem_cons]
    exact ⟨fun h => h.symm, fun h => h.symm⟩
  | .E i ls ks :: its, C, Ul, last, Cv, env, obs, a, h, kn, hchk, hlt, hC, c, hU, hob, hBC, hk => by
    simp only [chk, Bool.and_eq_true] at hchk
    obtain ⟨⟨⟨⟨⟨hop, hnd⟩, hls⟩, hhp⟩, hks⟩, hrest⟩ := hchk
    obtain ⟨o0, ho0, hi, hB, _⟩ := chkOp_parts hop
    have hfi : find i obs = none := Classical.byContradiction fun e => hi (hob i e)
    have hiv : ∀ u, (i, u) ∉ Cv := fun u hu => hi ((hC i).2 ⟨u, hu⟩)
    obtain ⟨h1, _, k1, hlay⟩ := lays_sound (a0 := a0) hnd hk
    obtain ⟨o, v, a', h2, ho, k2, c', hwp⟩ := eff_it hcall c honce hC hop (show evIt cx call (.X i) (evIts cx call (ks.map .K ++ flat its)) env obs a h1 kn = true from k1)
    have hC' : ∀ j, j ∈ i :: C ↔ ∃ u, (j, u) ∈ (i, v) :: Cv := fun j => by
      simp only [List.mem_cons, Prod.mk.injEq, hC j]
      constructor
      · rintro (rfl | ⟨u, hu⟩)
        · exact ⟨v, .inl ⟨rfl, rfl⟩⟩
        · exact ⟨u, .inr hu⟩
      · rintro ⟨u, ⟨rfl, rfl⟩ | hu⟩
        · exact .inl rfl
        · exact .inr ⟨u, hu⟩
    have hBC' : ∀ j ∈ i :: C, ∀ q ∈ bOf (befs cx.ops []) j, q ∈ i :: C := fun j hj q hq => by
      rcases List.mem_cons.1 hj with rfl | hj
      · simp [hB q hq]
      · simp [hBC j hj q hq]
    obtain ⟨k3, hag⟩ := again_all c' honce hC' hBC' (ks := ks) (fun k hkm => by
      have := List.all_eq_true.1 hks k hkm
      simp only [Bool.and_eq_true] at this
      obtain ⟨t1, t2⟩ := this
      refine ⟨by simp [has_mem.1 t1], ?_⟩
      cases hok : cx.ops[k]? with
      | none => rw [hok] at t2; cases t2
      | some p =>
        rw [hok] at t2
        simp only [Bool.and_eq_true] at t2
        exact ⟨p, rfl, t2.1, t2.2⟩) k2
    obtain ⟨a3, h3, k4, hr⟩ := draw_main hcall honce hback its (i :: C) (Ul.filter fun j => !has ls j) (some i) _ _ obs a' h2 kn hrest (fun j hj => by rcases List.mem_cons.1 hj with rfl | hj; exact (List.getElem?_eq_some_iff.1 ho0).1; exact hlt j hj) hC' c' (fun j hj => by simp [hU j (List.mem_filter.1 hj).1]) (fun j hj => by simp [hob j hj]) hBC' k3
    refine ⟨a3, h3, k4, ?_⟩
    have main : ∀ E0 h0 w0 act0, Base cx a0 E0 act0 → ∀ fuel listed E act w (Q : Exit → Act → World → Prop), Inv cx a0 E0 h0 w0 act0 Cv (· ∈ Ul) obs h E act w (Lst listed) → listed.size = cx.ops.length → cnt cx.ops.length listed ≤ fuel →
        (∀ E' act' w', Step cx.P E0 h0 w0 E' h3 w' → Rel E' cx.ks cx.nt a3 act' → Q .normal act' w') → wpAny cx.P .any cx.ops.toArray Q fuel listed act w := by
      intro E0 h0 w0 act0 b0 fuel
      have hilt : i < cx.ops.length := (List.getElem?_eq_some_iff.1 ho).1
      have hni : ∀ {listed E act w}, Inv cx a0 E0 h0 w0 act0 Cv (· ∈ Ul) obs h E act w (Lst listed) → ¬ Lst listed i := fun I hl => let ⟨u, hu⟩ := I.sub i hl; hiv u hu
      induction fuel with
      | zero => intro listed E act w Q I hs hc hQ; exact absurd (cnt_zero hs hc i hilt) (hni I)
      | succ fuel ih =>
        intro listed E act w Q I hs hc hQ
        refine ⟨fun hrd => absurd (ready_all hback hs hrd i hilt) (hni I), fun j hj => ?_⟩
        obtain ⟨j1, j2, j3, j4⟩ := ready_parts hs hj
        have hcn := cnt_set j1 (by omega) j2
        by_cases hjC : j ∈ C
        · obtain ⟨u, hu⟩ := (hC j).1 hjC
          refine real_told b0 honce I (dst_lt b0 c) hu j3 j4 fun E' act' w' I' => ?_
          rw [← lst_set (by omega)] at I'
          exact ih _ E' act' w' Q I' (by simpa using hs) (by omega) hQ
        · by_cases hji : j = i
          · subst hji
            have hbef : ∀ q ∈ bOf (befs cx.ops []) j, Lst listed q := bef_ready I.closed ho (j4 o ho)
            have I1 := hlay E0 h0 w0 act0 Cv _ E act w _ I fun q hq => by
              have := List.all_eq_true.1 hls q hq
              simp only [Bool.and_eq_true] at this
              exact ⟨has_mem.1 this.1, hbef q (has_mem.1 this.2)⟩
            have I1 := I1.congrU (U' := (· ∈ Ul.filter fun q => !has ls q)) fun q => by
              simp only [List.mem_filter, Bool.not_eq_true']
              constructor
              · rintro ⟨x, y⟩
                refine ⟨x, ?_⟩
                cases hb : has ls q
                · rfl
                · exact absurd (has_mem.1 hb) y
              · rintro ⟨x, y⟩
                exact ⟨x, fun hm => by rw [has_mem.2 hm] at y; cases y⟩
            refine hwp E0 act0 b0 E act w (Lst listed) ⟨I1.step.ext, I1.rt, I1.closed, hbef, j3⟩ I1.step.good _ Q fun E' w' x s d => ?_
            have I2 := inv_E I1 honce hiv (fun q hq => (hC q).1 (hU q (List.mem_filter.1 hq).1)) ho (j4 o ho) hfi s d (fun t ht => dst_lt b0 c' j o t ⟨v, by simp⟩ ho ht) (fun q u hq hn => by
              have := List.all_eq_true.1 hhp q ((hC q).2 ⟨u, hq⟩)
              simp only [Bool.or_eq_true] at this
              rcases this with (h | h) | h
              · refine .inl fun p hp => ?_
                rw [hp] at h
                simpa using h
              · exact absurd (hbef q (has_mem.1 h)) hn
              · exact .inr (hag q (has_mem.1 h) u (by simp [hq])))
            rw [← lst_set (by omega)] at I2
            exact hr E0 h0 w0 act0 b0 fuel _ E' _ w' Q I2 (by simpa using hs) (by omega) hQ
          · exact absurd (chk_behind hrest j j1 (by simp [hji, hjC]) (Lst listed) I.closed (bef_ready I.closed (List.getElem?_eq_getElem j1) (j4 _ (List.getElem?_eq_getElem j1)))) (hni I)
    exact main
end
end Go.Ev

/-
  The evaluator of closed calls: a part.
-/
set_option linter.unusedVariables false
set_option linter.unusedSimpArgs false
namespace Go.Ev
theorem lst_rep (n i : Nat) : ¬ Lst (Array.replicate n false) i := by
  unfold Lst
  simp only [Array.getD_eq_getD_getElem?, Array.getElem?_replicate]
  split <;> simp
theorem cnt_le (n : Nat) (listed : Array Bool) : cnt n listed ≤ n := by
  unfold cnt
  exact Nat.le_trans (List.length_filter_le _ _) (by simp)
theorem draw_ok {fx : Fx} {call : Call} (hcall : CallOk fx.P call) : DrawOk fx call := by
  intro id ops a h kn kr ke hk
  unfold evReg at hk
  cases hf : find id fx.sch with
  | none => rw [hf] at hk; cases hk
  | some its =>
    rw [hf] at hk
    cases ho : okOrder fx.P ops.toList its with
    | false => simp only [ho] at hk; cases hk
    | true =>
      simp only [ho] at hk
      have ho' := ho
      simp only [okOrder, Bool.and_eq_true] at ho'
      obtain ⟨⟨⟨honce, hback⟩, hm⟩, hchk⟩ := ho'
      obtain ⟨a', h', k1, hr⟩ := draw_main (cx := { P := fx.P, ks := fx.ks, nt := fx.nt, ops := ops.toList }) (call := call) (a0 := a) hcall honce hback its [] [] none [] [] [] a h kn hchk
        (fun j hj => absurd hj (by simp)) (fun j => by simp) ⟨fun t v hv => by simp [find] at hv, fun i v t hi => absurd hi (by simp), fun t s _ _ => rfl, fun i v t s hi => absurd hi (by simp), rfl, fun i v t hi => absurd hi (by simp)⟩
        (fun i hi => absurd hi (by simp)) (fun i hi => absurd rfl hi) (fun i hi => absurd hi (by simp)) hk
      refine ⟨a', h', k1, fun E act w g r => wp_region_any hm ?_⟩
      have g' : Good fx.P E h { w with drawn := w.drawn + 1 } := g.congr rfl
      have := hr E h { w with drawn := w.drawn + 1 } act ⟨g.glob, r⟩ ops.size (Array.replicate ops.size false) E act { w with drawn := w.drawn + 1 } (PostC fx.P fx.ks fx.nt E h w .normal a' h')
        ⟨Step.refl g', fun i hi => absurd hi (lst_rep _ i), fun j p _ hR => absurd hR (lst_rep _ j), ⟨fun i v t hi => absurd hi (by simp), fun _ _ => rfl, rfl, rfl⟩, fun i v hi => absurd hi (by simp), fun i u v hi => absurd hi (by simp),
          fun i v hi => absurd hi (by simp), fun i hi => absurd hi (by simp), fun i hi => absurd hi (by simp)⟩
        (by simp) (cnt_le _ _) (fun E' act' w' s r' => ⟨rfl, E', ⟨s.ext, s.good, s.mono, s.dom, s.img, s.imgw, s.frame, s.size, s.os, s.tape, s.output⟩, r'⟩)
      simpa using this
theorem evF_ok {P : Program} {tab : T F} (ht : TabOk P tab) (n : Nat) : CallOk P (evF tab n) :=
  evF_sound ht (fun call hcall fx hfx => by subst hfx; exact draw_ok hcall) n
end Go.Ev

/-
  The evaluator of closed calls: a part.
-/
set_option linter.unusedVariables false
set_option linter.unusedSimpArgs false
namespace Go.Ev
open Go.RowKit
/-- a function's entry in the table, by its code -/
noncomputable def fact (P : Program) (i np : Nat) (ks : List Nat) (sch : List (Nat × List Dr)) : Option F :=
  (P.funcs[i]?).bind fun fn => match fn.body.isSome, fn.name == "runtime.NumGoroutine" with | true, false => evFn P fn np ks sch | _, _ => none
section
variable {P : Program} {s : Nat → Nat} {tab : T F}
def Ent (P : Program) (n : Nat) (F : F) : Prop := Callable P n ∧ EntryOk P n F
theorem evFn_mk {fn : Func} {np : Nat} {ks : List Nat} {sch : List (Nat × List Dr)} {g : F} (h : evFn P fn np ks sch = some g) : ∃ n r b, g = .mk n r b := by
  cases g with
  | mk n r b => exact ⟨n, r, b, rfl⟩
  | known f =>
    unfold evFn at h
    split at h
    · cases hb : fn.body with
      | none => rw [hb] at h; cases h
      | some c =>
        rw [hb] at h
        cases hr : evRess P ks fn.results.toList with
        | none => rw [hr] at h; cases h
        | some r => rw [hr] at h; cases h
    · cases h
theorem ent_of_fact {i np : Nat} {ks : List Nat} {sch : List (Nat × List Dr)} {g : F} (h : fact P i np ks sch = some g) : Ent P i g := by
  unfold fact at h
  cases hf : P.funcs[i]? with
  | none => rw [hf] at h; cases h
  | some fn =>
    rw [hf] at h
    simp only [Option.bind_some] at h
    split at h
    · rename_i h1 h2
      obtain ⟨n, r, b, rfl⟩ := evFn_mk h
      exact ⟨⟨fn, hf, h1, h2⟩, fn, ks, sch, hf, by rw [(evFn_some h).1]; rw [(evFn_some h).1] at h; exact h⟩
    · cases h
/-- a part of the table: s tells the numbers of its functions -/
def OkT (P : Program) (s : Nat → Nat) (t : T F) : Prop := ∀ f F, T.get f t = some F → Ent P (s f.val) F
theorem okL : OkT P s .l := fun f F h => by rw [T.get_l] at h; cases h
theorem okN {v : Option F} {x y z w : T F} (hv : ∀ F, v = some F → Ent P (s 0) F) (hx : OkT P (fun m => s (4 * m + 1)) x) (hy : OkT P (fun m => s (4 * m + 2)) y)
    (hz : OkT P (fun m => s (4 * m + 3)) z) (hw : OkT P (fun m => s (4 * m + 4)) w) : OkT P s (.n v x y z w) := fun f F h => by
  cases f with
  | e => exact hv F h
  | a f => exact hx f F h
  | b f => exact hy f F h
  | c f => exact hz f F h
  | d f => exact hw f F h
theorem ent_none {i : Nat} : ∀ F, none = some F → Ent P i F := fun _ h => by cases h
theorem ent_some {i : Nat} {g : F} (h : Ent P i g) : ∀ F, some g = some F → Ent P i F := fun _ e => by cases e; exact h
theorem tabOk_of (h : OkT P (fun n => n) tab) : TabOk P tab := h
theorem tabOk_set (h : TabOk P tab) {f : N} {g : List V → H → KH → Bool} (hc : Callable P f.val) (hk : KnownOk P f.val g) : TabOk P (T.set f (.known g) tab) := fun i F hi => by
  by_cases e : f = i
  · subst e
    rw [T.get_set] at hi
    cases hi
    exact ⟨hc, hk⟩
  · rw [T.get_set_ne _ f i tab e] at hi
    exact h i F hi
/-- an empty heap, and letters for the globals alone -/
noncomputable def base (P : Program) (E : Nm) : Nm := fun k => if k.val < P.globals.size then E k else none
theorem base_some {E : Nm} {k : N} {l : Loc} (h : base P E k = some l) : k.val < P.globals.size ∧ E k = some l := by
  unfold base at h
  split at h
  · rename_i hk; exact ⟨hk, h⟩
  · cases h
theorem base_good {E : Nm} {h : H} {w : World} (g : Good P E h w) {n0 : N} (hn : P.globals.size ≤ n0.val) : Good P (base P E) (.mk .l n0) w where
  fresh := fun k l hk => Nat.lt_of_lt_of_le (base_some hk).1 hn
  stand := fun k o hk _ => by have hk : T.get k (.l : T O) = some o := hk; rw [T.get_l] at hk; cases hk
  inj := fun i j li lj h1 => by obtain ⟨o, hk, _⟩ := h1; have hk : T.get i (.l : T O) = some o := hk; rw [T.get_l] at hk; cases hk
  glob := fun q hq => by
    obtain ⟨l, h1, h2⟩ := g.glob q hq
    exact ⟨l, by unfold base; rw [toN_val, if_pos hq]; exact h1, h2⟩
/-- a call that began at an empty heap changed no block that was there -/
theorem step_base {E E' : Nm} {h h' : H} {w w' : World} {n0 : N} (g : Good P E h w) (s : Step P (base P E) (.mk .l n0) w E' h' w') : Step P E h w E h w' := by
  have fr : ∀ b, b < w.heap.size → w'.heap[b]? = w.heap[b]? := fun b hb => s.frame b hb (fun k l hk => by
    obtain ⟨o, hk, _⟩ := hk
    have hk : T.get k (.l : T O) = some o := hk
    rw [T.get_l] at hk; cases hk)
  exact ⟨Ext.refl E, ⟨g.fresh, fun k o h1 h2 => by
      obtain ⟨l, h3, h4⟩ := g.stand k o h1 h2
      exact ⟨l, h3, h4.ext (Ext.refl E) (fr _ (h4.lt h2))⟩, g.inj, g.glob⟩, Nat.le_refl _, fun _ _ h => .inl h, fun k l h1 h2 => .inl ⟨k, l, h1, h2, rfl⟩, fun k l h1 hw h2 => .inl ⟨k, l, h1, hw, h2, rfl⟩,
    fun b hb _ => fr b hb, s.size, s.os, s.tape, s.output⟩
def trueK : List V → H → KH → Bool := fun xs h k => match xs with | [] => k (.bool true) h | _ => false
/-- a function without arguments that answers true, once evaluated, is known -/
theorem known_of_run {n : Nat} {f n0 : N} (ht : TabOk P tab) (hn : P.globals.size ≤ n0.val) (hr : evF tab n f [] (.mk .l n0) (fun v _ => v.onBool true false) = true) :
    Callable P f.val ∧ KnownOk P f.val trueK := by
  obtain ⟨hc, v, h', hv, hrun⟩ := evF_ok ht n f [] _ _ hr
  refine ⟨hc, fun xs h k hk => ?_⟩
  cases xs with
  | cons _ _ => cases hk
  | nil =>
    refine ⟨.bool true, h, hk, fun E w xs' g hd => ?_⟩
    simp only [denL, Option.some.injEq] at hd
    subst hd
    rcases V.onBool_true hv with ⟨rfl, _⟩ | ⟨_, hf⟩
    · refine Calls.mono (hrun (base P E) w [] (base_good g hn) (by simp [denL])) fun e w' hb => ?_
      obtain ⟨x, E', rfl, st, d⟩ := hb
      rw [den_bool] at d
      cases d
      exact ⟨_, E, rfl, step_base g st, den_bool E true⟩
    · cases hf
/-- a world's letters: the globals', and one for a number -/
noncomputable def numE (P : Program) (x : N) (i : Int) : Nm := fun k => if k.val < P.globals.size then some ⟨k.val, 0, default, .bool false, 0⟩ else if k.val = x.val then some ⟨0, 0, default, .int .i64 i, 0⟩ else none
theorem numE_good {x n0 : N} {i : Int} (w : World) (hx : x.val < n0.val) (hn : P.globals.size ≤ n0.val) : Good P (numE P x i) (.mk .l n0) w where
  fresh := fun k l hk => by
    unfold numE at hk
    split at hk
    · exact Nat.lt_of_lt_of_le (by assumption) hn
    · split at hk
      · rename_i e; rw [e]; exact hx
      · cases hk
  stand := fun k o hk _ => by have hk : T.get k (.l : T O) = some o := hk; rw [T.get_l] at hk; cases hk
  inj := fun i j li lj h1 => by obtain ⟨o, hk, _⟩ := h1; have hk : T.get i (.l : T O) = some o := hk; rw [T.get_l] at hk; cases hk
  glob := fun q hq => ⟨⟨q, 0, default, .bool false, 0⟩, by unfold numE; rw [toN_val, if_pos hq], rfl, rfl⟩
theorem numE_den {x : N} {i : Int} (hx : P.globals.size ≤ x.val) (hr : x.val % 16 < 10) (hi : i % 10 = ((x.val % 16 : Nat) : Int)) (h1 : -9223372036854775808 ≤ i) (h2 : i ≤ 9223372036854775807) : den (numE P x i) (.opq x) = some (.int .i64 i) := by
  refine den_opq.2 ⟨⟨0, 0, default, .int .i64 i, 0⟩, ?_, rfl, rfl, ⟨fun _ => ⟨i, rfl, hi, h1, h2⟩, fun e => by omega, fun e => by omega⟩⟩
  unfold numE
  rw [if_neg (by omega), if_pos rfl]
theorem below_of_step {E E' : Nm} {n0 : N} {h' : H} {w w' : World} (s : Step P E (.mk .l n0) w E' h' w') : Below w.heap.size w w' :=
  ⟨s.os, s.tape, s.output, s.size, fun b hb => s.frame b hb (fun k l hk => by
    obtain ⟨o, hk, _⟩ := hk
    have hk : T.get k (.l : T O) = some o := hk
    rw [T.get_l] at hk; cases hk)⟩
/-- what is known of a number's rest by ten -/
def restK (r : Nat) : List V → H → KH → Bool := fun xs h k => match xs with
  | [.opq x, .int .i64 10] => match Nat.beq (x.val % 16) r, Nat.blt r 10 with | true, true => k (.int .i64 r) h | _, _ => false
  | _ => false
theorem rest_known {f r : Nat} (hf : ∀ (i : Int) (w : World), -9223372036854775808 ≤ i → i ≤ 9223372036854775807 → Calls P f #[.int .i64 i, .int .i64 10] w fun e w' => e = .returned (.int .i64 (i % 10)) ∧ w = w') :
    KnownOk P f (restK r) := fun xs h k hk => by
  unfold restK at hk
  split at hk
  · rename_i x
    split at hk
    · rename_i h1 h2
      have h1 := Nat.eq_of_beq_eq_true h1
      rw [Nat.blt_eq] at h2
      refine ⟨_, h, hk, fun E w xs' g hd => ?_⟩
      obtain ⟨a, b, d1, d2, rfl⟩ := denL_cons.1 hd
      obtain ⟨c, d, d3, d4, rfl⟩ := denL_cons.1 d2
      simp only [denL, Option.some.injEq] at d4
      subst d4
      obtain ⟨m, q1, q2, q3, q4⟩ := den_opq.1 d1
      obtain ⟨i, rfl, q5, q6, q7⟩ := q4.1 (by omega)
      obtain ⟨_, rfl⟩ := den_int d3
      refine Calls.mono (hf i w q6 q7) fun e w' he => ?_
      obtain ⟨rfl, rfl⟩ := he
      refine ⟨.int .i64 (i % 10), E, rfl, Step.refl g, ?_⟩
      have hr : r < full .i64 := by have : full .i64 = 18446744073709551616 := rfl; omega
      have hw : IntKind.i64.wrap (r : Int) = (r : Int) := wrap_pos (by unfold pos; exact ble_iff.2 (by have : full .i64 - half .i64 = 9223372036854775808 := rfl; show r + 1 ≤ full .i64 - half .i64; omega))
      rw [int_den hr, hw, q5, h1]
    · cases hk
  · cases hk
end
end Go.Ev

