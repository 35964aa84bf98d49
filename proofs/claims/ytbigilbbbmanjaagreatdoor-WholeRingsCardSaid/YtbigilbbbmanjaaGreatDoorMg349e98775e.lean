/-
  Parts of one proof, one behind the other.
-/
import Derived.Test.YtbigilbbbmanjaaGreatDoorMg715f5b26a1
import Derived.Deep.Upon
import Derived.Orders
import Derived.Defers
/-
  The evaluator of closed calls: a part.
-/
set_option linter.unusedVariables false
set_option linter.unusedSimpArgs false
namespace Go.Ev
/-- an operation changes the heap: h becomes h', and v is yielded -/
def XdOk (P : Program) (op : Op) (vs : List V) (h : H) (v : V) (h' : H) : Prop :=
  ∀ E w ρ (o : Oper), Good P E h w → o.op = op → denL E vs = some (op.operands.toList.map ρ) →
    ∃ E' w' x nx, Step P E h w E' h' w' ∧ den E' v = some x ∧ (execOp ρ o).run P w = .ok nx w' ∧ (nx = .value x ∨ (nx = .skip ∧ x = undef))
theorem heap_setCell (w : World) (b o : Nat) (v : Value) {cs : List Value} {e : TypeId} {fz : Nat × Nat} (hw : w.heap[b]? = some (.cells cs.toArray e fz)) :
    (w.setCell ⟨b, o, none⟩ v).heap[b]? = some (.cells (cs.set o v).toArray e fz) := by
  simp only [World.setCell, Array.getElem?_modify, if_true, hw, Option.map_some]
  simp
theorem heap_setCells (b : Nat) {e : TypeId} {fz : Nat × Nat} : ∀ (vs : List Value) (o : Nat) (w : World) (cs : List Value), w.heap[b]? = some (.cells cs.toArray e fz) → o + vs.length ≤ cs.length →
    (w.setCells b o vs).heap[b]? = some (.cells (cs.take o ++ vs ++ cs.drop (o + vs.length)).toArray e fz)
  | [], o, w, cs, hw, _ => by rw [World.setCells, hw]; simp
  | v :: vs, o, w, cs, hw, hl => by
    simp only [List.length_cons] at hl
    have h1 := heap_setCell w b o v hw
    have h2 := heap_setCells b vs (o + 1) (w.setCell ⟨b, o, none⟩ v) (cs.set o v) h1 (by rw [List.length_set]; omega)
    rw [World.setCells, h2]
    congr 2
    have e1 : (cs.set o v).take (o + 1) = cs.take o ++ [v] := by
      rw [List.take_add_one, List.take_set_of_le (by omega), List.getElem?_set_self (by omega)]
      rfl
    have e2 : (cs.set o v).drop (o + 1 + vs.length) = cs.drop (o + (vs.length + 1)) := by
      rw [List.drop_set_of_lt (by omega)]
      congr 1
      omega
    rw [e1, e2, List.length_cons]
    simp
theorem size_setCells (b : Nat) : ∀ (vs : List Value) (o : Nat) (w : World), (w.setCells b o vs).heap.size = w.heap.size
  | [], _, _ => rfl
  | v :: vs, o, w => by rw [World.setCells, size_setCells b vs, World.size_setCell]
theorem tape_setCells (b : Nat) : ∀ (vs : List Value) (o : Nat) (w : World), (w.setCells b o vs).tape = w.tape
  | [], _, _ => rfl
  | v :: vs, o, w => by rw [World.setCells, tape_setCells b vs]; rfl
theorem heap_setCells_ne (b : Nat) : ∀ (vs : List Value) (o : Nat) (w : World) (i : Nat), i ≠ b → (w.setCells b o vs).heap[i]? = w.heap[i]?
  | [], _, _, _, _ => rfl
  | v :: vs, o, w, i, hi => by
    rw [World.setCells, heap_setCells_ne b vs (o + 1) _ i hi, Below.heap_setCell' w b o v i hi]
 where
  Below.heap_setCell' (w : World) (b o : Nat) (v : Value) (i : Nat) (hi : i ≠ b) : (w.setCell ⟨b, o, none⟩ v).heap[i]? = w.heap[i]? := by
    simp only [World.setCell, Array.getElem?_modify]
    rw [if_neg (Ne.symm hi)]
section
variable {P : Program} {vs : List V} {h : H} {k : KH}
theorem store_run {w : World} {b o : Nat} {cs : List Value} {e : TypeId} {us : List Value} (hw : w.heap[b]? = some (.cells cs.toArray e (0, 0))) (hl : o + us.length ≤ cs.length) (h1 : ∀ u ∈ us, u.oneCell' = true) :
    (storeCells ⟨b, o, none⟩ us).run P w = .ok () (w.setCells b o us) := by
  have := run_storeCells_cells (P := P) b o us 0 w (fun j hj => by
    rw [cell_of hw, Nat.add_zero, List.getElem?_eq_getElem (by omega)]; rfl) (fun j hj => by
    simp [World.frozen?, hw]) h1
  simpa using this
/-- cells of a row are written -/
theorem step_store {E : Nm} {w : World} (g : Good P E h w) {b : N} {l : Loc} {e : Nat} {c : List V} {tl : Bool} {o : Nat} {us : List V} {us' : List Value}
    (hg : T.get b h.t = some (.row e c tl)) (hE : E b = some l) (hl : o + us.length ≤ c.length) (hone : us.all V.isOne = true) (hd : denL E us = some us') :
    (storeCells ⟨l.bl, l.of + o, none⟩ us').run P w = .ok () (w.setCells l.bl o us') ∧
    Step P E h w E (h.put b (.row e (c.take o ++ us ++ c.drop (o + us.length)) tl)) (w.setCells l.bl o us') := by
  obtain ⟨l', h3, h0, cs, rest, h4, h5, h6, h7⟩ := g.stand b _ hg (by simp)
  rw [hE] at h3; cases h3
  rw [h0, Nat.zero_add]
  have hcl := denL_length h5
  have hul := denL_length hd
  refine ⟨store_run h6 (by rw [List.length_append]; omega) (allOne_den hd hone), ?_⟩
  refine Step.put g hg (by simp) hE (by simp) ?_ (fun i hi => heap_setCells_ne _ us' o w i hi) (size_setCells _ us' o w) (World.os_setCells w _ _ _) (tape_setCells _ us' o w) (World.output_setCells w _ _ _)
  refine ⟨h0, cs.take o ++ us' ++ cs.drop (o + us.length), rest, all_app (all_app (all_take h4 _) hone) (all_drop h4 _), ?_, ?_, ?_⟩
  · exact denL_append.2 ⟨_, _, denL_append.2 ⟨_, _, denL_take o h5, hd, rfl⟩, denL_drop _ h5, rfl⟩
  · rw [heap_setCells l.bl us' o w _ h6 (by rw [List.length_append]; omega)]
    congr 2
    rw [List.take_append_of_le_length (by omega), List.drop_append_of_le_length (by omega), hul]
    simp
  · have hlen : (cs.take o ++ us' ++ cs.drop (o + us.length)).length = cs.length := by
      simp only [List.length_append, List.length_take, List.length_drop]
      omega
    rw [hlen]
    exact h7
theorem onone_true {v : V} {k : Bool} (hk : v.one k = true) : v.isOne = true ∧ k = true := by
  cases v <;> first | exact ⟨rfl, hk⟩ | exact Bool.noConfusion hk
theorem xd_store1 {t : TypeId} {a b : Operand} (hs : szO P t = some 1) (hk : v2 vs (fun p v => x_store1 p v h k) = true) : ∃ v h', k v h' = true ∧ XdOk P (.store t a b) vs h v h' := by
  obtain ⟨p, v, rfl, k1⟩ := v2_true hk
  obtain ⟨b', o', rfl, k2⟩ := V.onPtr_true k1
  obtain ⟨h1, k3⟩ := onone_true k2
  obtain ⟨e, c, tl, hg, hl, k4⟩ := H.storeK_true k3
  refine ⟨_, _, k4, fun E w ρ o g ho hd => ?_⟩
  obtain ⟨d1, d2⟩ := den2 hd
  obtain ⟨l, e1, e2⟩ := den_ptr d1
  obtain ⟨s1, s2⟩ := step_store g hg e1 hl (us := [v]) (us' := [ρ b]) (by simp [h1]) (denL_cons.2 ⟨_, _, d2, by simp [denL], rfl⟩)
  refine ⟨_, _, undef, .skip, s2, by simp [V.undef, den, denL, undef], ?_, .inr ⟨rfl, rfl⟩⟩
  have hc : (ρ b).cells = #[ρ b] := by
    have := isOne_den d2
    rw [h1] at this
    cases hb : ρ b <;> first | rfl | (rw [hb] at this; cases this)
  simp [execOp, ho, e2, Instr.storeAt, Instr.sureAddr, storeVar, hc, size_run hs, s1]
theorem xd_storeA {t : TypeId} {s : Nat} {a b : Operand} (hs : szO P t = some s) (hk : v2 vs (fun p v => x_storeA s p v h k) = true) : ∃ v h', k v h' = true ∧ XdOk P (.store t a b) vs h v h' := by
  obtain ⟨p, v, rfl, k1⟩ := v2_true hk
  obtain ⟨b', o', rfl, k2⟩ := V.onPtr_true k1
  obtain ⟨us, rfl, k3⟩ := V.onAgg_true k2
  rw [lenK_eq] at k3
  obtain ⟨hn, k3⟩ := condK_true k3
  have hn := Nat.eq_of_beq_eq_true hn
  obtain ⟨e, c, tl, hg, hl, k4⟩ := H.storeK_true k3
  refine ⟨_, _, k4, fun E w ρ o g ho hd => ?_⟩
  obtain ⟨d1, d2⟩ := den2 hd
  obtain ⟨l, e1, e2⟩ := den_ptr d1
  obtain ⟨us', h1, h2, h3⟩ := den_agg d2
  obtain ⟨s1, s2⟩ := step_store g hg e1 hl h1 h2
  refine ⟨_, _, undef, .skip, s2, by simp [V.undef, den, denL, undef], ?_, .inr ⟨rfl, rfl⟩⟩
  have hul := denL_length h2
  simp [execOp, ho, e2, h3, Instr.storeAt, Instr.sureAddr, storeVar, Value.cells, size_run hs, hul, hn, s1]
/-! Maps -/
theorem setObj_run {w : World} {b : Nat} {es es' : Array MapEntry} {c c' : Nat} (hw : w.heap[b]? = some (.map es c)) :
    (setObj b (.map es' c')).run P w = .ok () { w with heap := w.heap.setIfInBounds b (.map es' c') } := by
  simp [setObj, Sem.run, hw]
theorem step_map {E : Nm} {w : World} (g : Good P E h w) {r : N} {l : Loc} {es es2 : List (V × V × Nat)} {c c2 : Nat} {es' es2' : List MapEntry}
    (hg : T.get r h.t = some (.map es c)) (hE : E r = some l) (hw : w.heap[l.bl]? = some (.map es'.toArray c)) (hd : denM E es2 = some es2') :
    (setObj l.bl (.map es2'.toArray c2)).run P w = .ok () { w with heap := w.heap.setIfInBounds l.bl (.map es2'.toArray c2) } ∧
    Step P E h w E (h.put r (.map es2 c2)) { w with heap := w.heap.setIfInBounds l.bl (.map es2'.toArray c2) } := by
  have hlt : l.bl < w.heap.size := (Array.getElem?_eq_some_iff.1 hw).1
  refine ⟨setObj_run hw, Step.put g hg (by simp) hE (by simp) ⟨es2', hd, ?_⟩ (fun b hb => ?_) (by simp) rfl rfl rfl⟩
  · show (w.heap.setIfInBounds l.bl _)[l.bl]? = _
    rw [Array.getElem?_setIfInBounds_self_of_lt hlt]
  · show (w.heap.setIfInBounds l.bl _)[b]? = _
    rw [Array.getElem?_setIfInBounds_ne (Ne.symm hb)]
theorem map_stand {E : Nm} {w : World} (g : Good P E h w) {r : N} {es : List (V × V × Nat)} {c : Nat} (hg : T.get r h.t = some (.map es c)) {x : Value} (hx : den E (.map r) = some x) :
    ∃ l es', E r = some l ∧ x = .map (some l.bl) ∧ denM E es = some es' ∧ w.heap[l.bl]? = some (.map es'.toArray c) := by
  simp only [den] at hx
  cases hE : E r with
  | none => rw [hE] at hx; cases hx
  | some l =>
    rw [hE] at hx; cases hx
    obtain ⟨l', h3, es', h4, h5⟩ := g.stand r _ hg (by simp)
    rw [hE] at h3; cases h3
    exact ⟨l, es', rfl, rfl, h4, h5⟩
theorem denM_append {E : Nm} : ∀ {l : List (V × V × Nat)} {m : List (V × V × Nat)} {x y : List MapEntry}, denM E l = some x → denM E m = some y → denM E (l ++ m) = some (x ++ y)
  | [], m, x, y, h1, h2 => by simp only [denM, Option.some.injEq] at h1; subst h1; simpa using h2
  | (a, v, n) :: l, m, x, y, h1, h2 => by
    obtain ⟨p, q, r, h3, h4, h5, rfl⟩ := denM_cons.1 h1
    exact denM_cons.2 ⟨p, q, r ++ y, h3, h4, denM_append h5 h2, rfl⟩
theorem den_undef (E : Nm) : den E V.undef = some undef := by simp [V.undef, den, denL, undef]
theorem mupd_run {t key e : TypeId} {kind : TypeDesc} {ke : V → (Tst → Bool) → Bool} (hu : P.underlying t = some (.map key e)) (hkind : P.underlying key = some kind)
    (hk : v3 vs (fun m kv v => x_mupd ke m kv v h k) = true) (hke : ∀ (kv : V) (k : Tst → Bool), ke kv k = true → ∃ eq, TstOk kind kv eq ∧ k eq = true ∧
      ∀ E x, den E kv = some x → ∀ (b : Bool) (w : World), (Instr.checkKey b 10000 key x).run P w = .ok () w) :
    ∃ v h', k v h' = true ∧ ∃ m kv val, vs = [m, kv, val] ∧ v = V.undef ∧ ∀ E w x y z, Good P E h w → den E m = some x → den E kv = some y → den E val = some z →
      ∃ w', Step P E h w E h' w' ∧ (Instr.mapUpdate t x y z).run P w = .ok () w' := by
  obtain ⟨m, kv, val, rfl, k1⟩ := v3_true hk
  obtain ⟨eq, heq, k2, hck⟩ := hke _ _ k1
  rcases V.onMap_true k2 with ⟨rfl, k3⟩ | ⟨r, rfl, k3⟩
  · cases k3
  obtain ⟨es, c, hg, k4⟩ := H.mapK_true k3
  rcases updK_true heq k4 with ⟨k5, hf⟩ | ⟨es2, j, k5, hf⟩
  · rw [appK_eq, natK_eq, H.putK_eq] at k5
    refine ⟨_, _, k5, _, _, _, rfl, rfl, fun E w x y z g d1 d2 d3 => ?_⟩
    obtain ⟨l, es', hE, rfl, h4, h5⟩ := map_stand g hg d1
    obtain ⟨s1, s2⟩ := step_map g (c2 := c + 1) hg hE h5 (denM_append h4 (denM_cons.2 ⟨y, z, [], d2, d3, by simp [denM], rfl⟩ : denM E [(kv, val, c)] = some [{ key := y, val := z, born := c }]))
    refine ⟨_, s2, ?_⟩
    have e0 : es'.toArray.push (⟨y, z, c⟩ : MapEntry) = (es' ++ [(⟨y, z, c⟩ : MapEntry)]).toArray := by simp
    simp only [Instr.mapUpdate, Sem.run_bind, run_underlying hu, Result.andThen_ok, getObj_run h5, hck E y d2, Instr.findKey, run_underlying hkind, hf E y es' d2 h4, Sem.run_pure, e0, s1]
  · rw [H.putK_eq] at k5
    refine ⟨_, _, k5, _, _, _, rfl, rfl, fun E w x y z g d1 d2 d3 => ?_⟩
    obtain ⟨l, es', hE, rfl, h4, h5⟩ := map_stand g hg d1
    obtain ⟨h6, ⟨en, h7, h8⟩, h9⟩ := hf E y z es' d2 d3 h4
    obtain ⟨s1, s2⟩ := step_map g (c2 := c) hg hE h5 h9
    refine ⟨_, s2, ?_⟩
    obtain ⟨q, h10⟩ := h6 0
    rw [Nat.zero_add] at h10
    have h7' : (es'.toArray[j]?).map (·.key) = some en.key := by simp [h7]
    have e0 : es'.toArray.modify j (fun e => { e with key := y, val := z }) = (es'.modify j fun e => { e with key := y, val := z }).toArray := by simp
    simp only [Instr.mapUpdate, Sem.run_bind, run_underlying hu, Result.andThen_ok, getObj_run h5, hck E y d2, Instr.findKey, run_underlying hkind, h10, Sem.run_pure, h7', Option.getD_some, Instr.keyThatStays]
    rw [if_pos h8]
    simp only [Sem.run_pure, Result.andThen_ok, e0, s1]
theorem xd_mupd {op : Op} {t key e : TypeId} {a b c : Operand} (hop : op = .mapUpdate t a b c ∨ op = .insert t a b c) (hu : P.underlying t = some (.map key e))
    (hk : evKey P key (fun key => v3 vs (fun m kv v => x_mupd key m kv v h k)) = true) : ∃ v h', k v h' = true ∧ XdOk P op vs h v h' := by
  obtain ⟨kind, ke, hkind, k1, hke⟩ := evKey_true hk
  obtain ⟨v, h', k2, m, kv, val, rfl, rfl, hrun⟩ := mupd_run hu hkind k1 hke
  refine ⟨_, _, k2, fun E w ρ o g ho hd => ?_⟩
  have hd' : denL E [m, kv, val] = some [ρ a, ρ b, ρ c] := by rcases hop with rfl | rfl <;> exact hd
  obtain ⟨d1, d2, d3⟩ := den3 hd'
  obtain ⟨w', s1, s2⟩ := hrun E w _ _ _ g d1 d2 d3
  refine ⟨E, w', undef, .skip, s1, den_undef E, ?_, .inr ⟨rfl, rfl⟩⟩
  rcases hop with rfl | rfl <;> simp only [execOp, ho, Sem.run_bind, s2, Result.andThen_ok, Sem.run_pure]
theorem call_run {b : Builtin} {o : Oper} {ρ : Operand → Value} {args : Array Operand} {ts : Array TypeId} {w w' : World} {v : Value} (ho : o.op = .call { callee := .builtin b, args := args, argTypes := ts })
    {f : Sem Value} (hb : ∀ cs, builtin b ts o.type cs (args.map ρ) = (do pure (.value (← f)))) (hr : f.run P w = .ok v w') : (execOp ρ o).run P w = .ok (.value v) w' := by
  simp only [execOp, ho, resolve, Sem.run_bind, Sem.run_pure, Result.andThen_ok, invoke, hb, hr]
theorem args2 {b : Builtin} {args : Array Operand} {ρ : Operand → Value} {x y : V} {E : Nm} {ts : Array TypeId} (hd : denL E [x, y] = some ((Op.call { callee := .builtin b, args := args, argTypes := ts }).operands.toList.map ρ)) :
    ∃ p q, den E x = some p ∧ den E y = some q ∧ args.map ρ = #[p, q] := by
  have e : (Op.call { callee := .builtin b, args := args, argTypes := ts }).operands.toList = args.toList := by simp [Op.operands, Call.operands]
  rw [e] at hd
  obtain ⟨p, r, h1, h2, h3⟩ := denL_cons.1 hd
  obtain ⟨q, r', h4, h5, h6⟩ := denL_cons.1 h2
  simp only [denL, Option.some.injEq] at h5
  subst h5; subst h6
  exact ⟨p, q, h1, h4, by apply Array.toList_inj.1; rw [Array.toList_map, h3]⟩
theorem args1 {b : Builtin} {args : Array Operand} {ρ : Operand → Value} {x : V} {E : Nm} {ts : Array TypeId} (hd : denL E [x] = some ((Op.call { callee := .builtin b, args := args, argTypes := ts }).operands.toList.map ρ)) :
    ∃ p, den E x = some p ∧ args.map ρ = #[p] := by
  have e : (Op.call { callee := .builtin b, args := args, argTypes := ts }).operands.toList = args.toList := by simp [Op.operands, Call.operands]
  rw [e] at hd
  obtain ⟨p, r, h1, h2, h3⟩ := denL_cons.1 hd
  simp only [denL, Option.some.injEq] at h2
  subst h2
  exact ⟨p, h1, by apply Array.toList_inj.1; rw [Array.toList_map, h3]⟩
theorem xd_delete {t key e : TypeId} {args : Array Operand} {ts : List TypeId} (hu : P.underlying t = some (.map key e))
    (hk : evKey P key (fun key => v2 vs (fun m kv => x_delete key m kv h k)) = true) : ∃ v h', k v h' = true ∧ XdOk P (.call { callee := .builtin .delete, args := args, argTypes := (t :: ts).toArray }) vs h v h' := by
  obtain ⟨kind, ke, hkind, k1, hke⟩ := evKey_true hk
  obtain ⟨m, kv, rfl, k2⟩ := v2_true k1
  obtain ⟨eq, heq, k3, hck⟩ := hke _ _ k2
  rcases V.onMap_true k3 with ⟨rfl, k4⟩ | ⟨r, rfl, k4⟩
  · cases k4
  obtain ⟨es, c, hg, k5⟩ := H.mapK_true k4
  obtain ⟨es2, k6, hf⟩ := delK_true heq k5
  rw [H.putK_eq] at k6
  refine ⟨_, _, k6, fun E w ρ o g ho hd => ?_⟩
  obtain ⟨p, q, d1, d2, ha⟩ := args2 hd
  obtain ⟨l, es', hE, rfl, h4, h5⟩ := map_stand g hg d1
  rcases hf E q es' d2 h4 with ⟨h6, h7⟩ | ⟨j, h6, h7, h8⟩
  · obtain ⟨s1, s2⟩ := step_map g (c2 := c) hg hE h5 h7
    refine ⟨E, _, undef, .value undef, s2, den_undef E, ?_, .inl rfl⟩
    refine call_run (f := Builtin.delete_ (t :: ts).toArray o.type (args.map ρ)) ho (fun _ => rfl) ?_
    rw [ha]
    simp only [Builtin.delete_, List.getElem?_toArray, List.getElem?_cons_zero, List.getElem?_cons_succ, Sem.run_bind, run_underlying hu, Result.andThen_ok, getObj_run h5, hck E q d2, Instr.findKey, run_underlying hkind, h6 0, Sem.run_pure, s1]
    rfl
  · obtain ⟨s1, s2⟩ := step_map g (c2 := c) hg hE h5 h8
    obtain ⟨y, h9⟩ := h6 0
    rw [Nat.zero_add] at h9
    refine ⟨E, _, undef, .value undef, s2, den_undef E, ?_, .inl rfl⟩
    refine call_run (f := Builtin.delete_ (t :: ts).toArray o.type (args.map ρ)) ho (fun _ => rfl) ?_
    rw [ha]
    have e0 : es'.toArray.eraseIdxIfInBounds j = (es'.eraseIdx j).toArray := by simp [Array.eraseIdxIfInBounds, h7]
    simp only [Builtin.delete_, List.getElem?_toArray, List.getElem?_cons_zero, List.getElem?_cons_succ, Sem.run_bind, run_underlying hu, Result.andThen_ok, getObj_run h5, hck E q d2, Instr.findKey, run_underlying hkind, h9, Sem.run_pure, e0, s1]
    rfl
end
end Go.Ev

/-
  The evaluator of closed calls: a part.
-/
set_option linter.unusedVariables false
set_option linter.unusedSimpArgs false
namespace Go.Ev
section
variable {P : Program}
theorem get_put_ne {h : H} {k j : N} {o : O} (e : j ≠ k) : T.get j (h.put k o).t = T.get j h.t := T.get_set_ne o k j _ (Ne.symm e)
theorem get_put {h : H} {k : N} {o : O} : T.get k (h.put k o).t = some o := T.get_set o k _
/-- a letter is forgotten -/
theorem Step.kill {E : Nm} {h : H} {w : World} (g : Good P E h w) (k : N) : Step P E h w E (h.put k .dead) w := by
  have live : ∀ {j : N}, Live (h.put k .dead) j → Live h j := fun {j} hl => by
    obtain ⟨p, h1, h2⟩ := hl
    by_cases e : j = k
    · subst e; rw [get_put] at h1; cases h1; exact absurd rfl h2
    · rw [get_put_ne e] at h1; exact ⟨p, h1, h2⟩
  have wr : ∀ {j : N}, Live (h.put k .dead) j → Wr (h.put k .dead) j → Wr h j := fun {j} hl hw c z ls hc => by
    obtain ⟨p, h1, h2⟩ := hl
    by_cases e : j = k
    · subst e; rw [get_put] at h1; cases h1; exact absurd rfl h2
    · exact hw c z ls (by rw [get_put_ne e]; exact hc)
  refine ⟨Ext.refl E, ⟨g.fresh, fun j p h1 h2 => ?_, fun i j li lj h1 h2 hw h3 h4 h5 => g.inj i j li lj (live h1) (live h2) (hw.imp (wr h1) (wr h2)) h3 h4 h5, g.glob⟩, Nat.le_refl _, fun _ _ h => .inl h, fun j m h1 h2 => .inl ⟨j, m, live h1, h2, rfl⟩, fun j m h1 hw h2 => .inl ⟨j, m, live h1, wr h1 hw, h2, rfl⟩, fun _ _ _ => rfl, Nat.le_refl _, rfl, rfl, rfl⟩
  by_cases e : j = k
  · subst e; rw [get_put] at h1; cases h1; exact absurd rfl h2
  · rw [get_put_ne e] at h1; exact g.stand j p h1 h2
/-- a block goes on under a new letter -/
theorem Step.rename {E : Nm} {h : H} {w w' : World} (g : Good P E h w) {k : N} {l : Loc} {o ob : O} (hg : T.get k h.t = some o) (hd : o ≠ .dead ∧ ∀ c z ls, o ≠ .arg c z ls) (hE : E k = some l) (ho : ob ≠ .dead)
    (hs : Stand P (E.set h.n l) w' l ob) (hw : ∀ b, b ≠ l.bl → w'.heap[b]? = w.heap[b]?) (hsz : w'.heap.size = w.heap.size) (hos : w'.os = w.os) (htp : w'.tape = w.tape) (hout : w'.output = w.output) :
    Step P E h w (E.set h.n l) ((h.put k .dead).new ob) w' := by
  have hkn : k ≠ h.n := fun e => by have := g.fresh k l hE; rw [e] at this; exact absurd this (Nat.lt_irrefl _)
  have hx := g.ext_new l
  have hn' : (h.put k .dead).n = h.n := rfl
  have hk : Live h k := ⟨o, hg, hd.1⟩
  have hwk : Wr h k := fun c z ls hc => by rw [hg] at hc; cases hc; exact hd.2 c z ls rfl
  have get_new : ∀ j, j ≠ h.n → T.get j ((h.put k .dead).new ob).t = T.get j (h.put k .dead).t := fun j e => T.get_set_ne ob _ j _ (fun e' => e e'.symm)
  have get_n : T.get h.n ((h.put k .dead).new ob).t = some ob := T.get_set ob _ _
  have old : ∀ {j : N} {p : O}, T.get j ((h.put k .dead).new ob).t = some p → p ≠ .dead → j ≠ h.n → T.get j h.t = some p ∧ j ≠ k := fun {j p} h1 h2 h3 => by
    rw [get_new j h3] at h1
    by_cases e : j = k
    · subst e; rw [get_put] at h1; cases h1; exact absurd rfl h2
    · rw [get_put_ne e] at h1; exact ⟨h1, e⟩
  have oldE : ∀ {j : N} {m : Loc}, j ≠ h.n → E.set h.n l j = some m → E j = some m := fun {j m} e h1 => by rwa [Nm.set_ne E l e] at h1
  refine ⟨hx, ⟨fun j m hj => ?_, fun j p h1 h2 => ?_, fun i j li lj h1 h2 hw0 h3 h4 h5 => ?_, fun q hq => let ⟨m, h1, h2⟩ := g.glob q hq; ⟨m, hx _ m h1, h2⟩⟩, ?_, fun j m hj => ?_, fun j m h1 h2 => ?_, fun j m h1 hw1 h2 => ?_, fun b hb hn => ?_, by omega, hos, htp, hout⟩
  · show j.val < h.n.succ.val
    rw [N.val_succ]
    by_cases e : j = h.n
    · subst e; omega
    · have := g.fresh j m (oldE e hj); omega
  · by_cases e : j = h.n
    · subst e
      rw [get_n] at h1; cases h1
      exact ⟨l, Nm.set_same E h.n l, hs⟩
    · obtain ⟨h3, h4⟩ := old h1 h2 e
      obtain ⟨m, h5, h6⟩ := g.stand j p h3 h2
      exact ⟨m, hx j m h5, h6.ext hx (hw _ (fun e' => h4 (g.inj j k m l ⟨p, h3, h2⟩ hk (.inr hwk) h5 hE e')))⟩
  · obtain ⟨p, p1, p2⟩ := h1
    obtain ⟨q, q1, q2⟩ := h2
    by_cases e : i = h.n
    · by_cases e' : j = h.n
      · rw [e, e']
      · subst e
        rw [Nm.set_same] at h3; cases h3
        obtain ⟨q3, q4⟩ := old q1 q2 e'
        exact absurd (g.inj j k lj l ⟨q, q3, q2⟩ hk (.inr hwk) (oldE e' h4) hE h5.symm) q4
    · obtain ⟨p3, p4⟩ := old p1 p2 e
      by_cases e' : j = h.n
      · subst e'
        rw [Nm.set_same] at h4; cases h4
        exact absurd (g.inj i k li l ⟨p, p3, p2⟩ hk (.inr hwk) (oldE e h3) hE h5) p4
      · obtain ⟨q3, q4⟩ := old q1 q2 e'
        have wr : ∀ {i : N}, i ≠ h.n → i ≠ k → Wr ((h.put k .dead).new ob) i → Wr h i := fun {i} e1 e2 hw c z ls hc => hw c z ls (by rw [get_new i e1, get_put_ne e2]; exact hc)
        exact g.inj i j li lj ⟨p, p3, p2⟩ ⟨q, q3, q2⟩ (hw0.imp (wr e p4) (wr e' q4)) (oldE e h3) (oldE e' h4) h5
  · show h.n.val ≤ h.n.succ.val
    rw [N.val_succ]; omega
  · by_cases e : j = h.n
    · subst e; exact .inr (Nat.le_refl _)
    · exact .inl (oldE e hj)
  · obtain ⟨p, p1, p2⟩ := h1
    by_cases e : j = h.n
    · subst e
      rw [Nm.set_same] at h2; cases h2
      exact .inl ⟨k, l, hk, hE, rfl⟩
    · obtain ⟨p3, p4⟩ := old p1 p2 e
      exact .inl ⟨j, m, ⟨p, p3, p2⟩, oldE e h2, rfl⟩
  · obtain ⟨p, p1, p2⟩ := h1
    by_cases e : j = h.n
    · subst e
      rw [Nm.set_same] at h2; cases h2
      exact .inl ⟨k, l, hk, hwk, hE, rfl⟩
    · obtain ⟨p3, p4⟩ := old p1 p2 e
      exact .inl ⟨j, m, ⟨p, p3, p2⟩, fun c z ls hc => hw1 c z ls (by rw [get_new j e, get_put_ne p4]; exact hc), oldE e h2, rfl⟩
  · exact hw b (Ne.symm (hn k l hk hwk hE))
/-- what is appended -/
structure App (P : Program) (ts : Array TypeId) (x : Value) (e : TypeId) (i : TypeInfo) (z : Value) (n : Nat) (news : List Value) (w : World) : Prop where
  room : ∀ ty b off sLen sCap, sLen + n ≤ sCap → (∀ j, j < news.length → (w.cell? ⟨b, off + sLen * i.size + j, none⟩).isSome = true) → (∀ j, j < news.length → w.frozen? ⟨b, off + sLen * i.size + j, none⟩ = false) →
    (Builtin.append_ ts ty #[.slice (some ⟨b, off, none⟩) sLen sCap, x]).run P w = .ok (.slice (some ⟨b, off, none⟩) (sLen + n) sCap) (w.setCells b (off + sLen * i.size) news)
  grow : ∀ ty base sLen sCap olds, (Builtin.firstCells i.size sLen (.slice base sLen sCap)).run P w.drew = .ok olds.toArray w.drew → sCap < sLen + n → sLen + n ≤ 1000000 →
    (Builtin.append_ ts ty #[.slice base sLen sCap, x]).run P w = .ok (.slice (some ⟨w.heap.size, 0, none⟩) (sLen + n) (grownCap w (sLen + n) sCap e))
      (w.drew.alloc (.cells ((olds ++ news).toArray ++ Builtin.zeroCells z.cells (grownCap w (sLen + n) sCap e - (sLen + n))) e))
  none : n = 0 → ∀ ty base sLen sCap, sLen ≤ sCap → (Builtin.append_ ts ty #[.slice base sLen sCap, x]).run P w = .ok (.slice base sLen sCap) w
  len : news.length = n * i.size
theorem App.ofSrc {t tx e : TypeId} {i : TypeInfo} {z : Value} {x : Value} {n : Nat} {news : List Value} {w : World} (ht : P.underlying t = some (.slice e)) (hi : P.info? e = some i) (hz : i.zero = some z) (hb : i.bytes ≤ 1000000)
    (hs : Src P i.size tx x n news w) : App P #[t, tx] x e i z n news w where
  room := fun ty b off sLen sCap hr hc hf => run_append_room_src w t tx ty e i ht hi b off sLen sCap x n news hs hr hc hf
  grow := fun ty base sLen sCap olds hold hg hsm => by
    have hfit : (sLen + n) * i.bytes ≤ 140737488355328 := Nat.le_trans (Nat.mul_le_mul hsm hb) (by decide)
    exact run_append_grow_src w t tx ty e i z ht hi hz base sLen sCap olds hold x n news hs hg (by omega) (growslice_fits hg hfit)
  none := fun h0 ty base sLen sCap hle => by
    subst h0
    have hn : news = [] := List.eq_nil_of_length_eq_zero (by rw [hs.newsLen]; simp)
    subst hn
    exact run_append_nothing w t tx ty e i ht hi base sLen sCap hle x hs
  len := hs.newsLen
theorem App.ofZeros {t tx e : TypeId} {i : TypeInfo} {z : Value} {j kx : IntKind} {n : Nat} {w : World} (ht : P.underlying t = some (.slice e)) (hx : P.underlying tx = some (.int j)) (hi : P.info? e = some i) (hz : i.zero = some z) (hb : i.bytes ≤ 1000000)
    (hzs : z.cells.size = i.size) (h1c : ∀ u ∈ z.cells.toList, u.oneCell' = true) (hn : n ≤ 1000000) : App P #[t, tx] (.int kx (n : Nat)) e i z n (List.replicate n z.cells.toList).flatten w := by
  have hzc : Builtin.zeroCells z.cells n = (List.replicate n z.cells.toList).flatten.toArray := by
    have := flat_rep z.cells.toList n
    rw [Array.toArray_toList, Array.length_toList] at this
    exact this
  have hlen : (List.replicate n z.cells.toList).flatten.length = n * i.size := by simp [List.length_flatten, hzs]
  have wl : IntKind.i64.wrap (n : Int) = n := by rw [IntKind.wrap_i64]; omega
  have hnb : ¬ (281474976710656 < (n : Int) * (i.bytes : Int)) := by
    have h1 : n * i.bytes ≤ 1000000 * 1000000 := Nat.mul_le_mul hn hb
    have h2 : ((n * i.bytes : Nat) : Int) ≤ 281474976710656 := by omega
    rw [Int.natCast_mul] at h2
    omega
  have hn0 : ¬ ((n : Int) < 0) := by omega
  have hone : ∀ u ∈ (List.replicate n z.cells.toList).flatten, u.oneCell' = true := fun u hu => by
    obtain ⟨l, h1, h2⟩ := List.mem_flatten.1 hu
    rw [List.eq_of_mem_replicate h1] at h2
    exact h1c u h2
  have nil0 : n * i.size = 0 → (List.replicate n z.cells.toList).flatten = [] := fun h0 => List.eq_nil_of_length_eq_zero (by rw [hlen, h0])
  constructor
  · intro ty b off sLen sCap hr hc hf
    have hst := run_storeCells_cells (P := P) b (off + sLen * i.size) (List.replicate n z.cells.toList).flatten 0 w (by simpa using hc) (by simpa using hf) hone
    simp only [Nat.add_zero] at hst
    by_cases h0 : n * i.size = 0
    · rw [nil0 h0] at hst ⊢
      simp [Builtin.append_, run_underlying ht, run_underlying hx, sizeOf, typeInfo, hi, asInt, asIntOf, wl, hn0, hnb, hr, h0, storeCells, World.setCells]
    · simp [Builtin.append_, run_underlying ht, run_underlying hx, sizeOf, typeInfo, hi, asInt, asIntOf, wl, hn0, hnb, hr, h0, zeroValue, hz, hzc, Addr.add_lit, hst]
  · intro ty base sLen sCap olds hold hg hsm
    have hnn : ¬ (sLen + n ≤ sCap) := by omega
    have hfit : (sLen + n) * i.bytes ≤ 140737488355328 := Nat.le_trans (Nat.mul_le_mul hsm hb) (by decide)
    have h48 : ¬ (281474976710656 < Builtin.nextslicecap (sLen + n) sCap * i.bytes) := by have := growslice_fits hg hfit; omega
    have h63 : ¬ (9223372036854775807 < ((sLen : Int) + (n : Int))) := by omega
    by_cases h0 : n * i.size = 0
    · rw [nil0 h0]
      simp [Builtin.append_, run_underlying ht, run_underlying hx, sizeOf, typeInfo, hi, asInt, asIntOf, wl, hn0, hnb, hnn, h0, h48, h63, Question.forced, hold, newRow, grownCap, zeroValue, hz]
    · simp [Builtin.append_, run_underlying ht, run_underlying hx, sizeOf, typeInfo, hi, asInt, asIntOf, wl, hn0, hnb, hnn, h0, h48, h63, Question.forced, hold, newRow, grownCap, zeroValue, hz, hzc]
      congr 2
      apply Array.ext'
      simp [List.append_assoc]
  · intro h0 ty base sLen sCap hle
    subst h0
    have w0 : IntKind.i64.wrap 0 = 0 := by rw [IntKind.wrap_i64]; rfl
    cases base <;> simp [Builtin.append_, w0, run_underlying ht, run_underlying hx, sizeOf, typeInfo, hi, asInt, asIntOf, wl, hle, storeCells]
  · exact hlen
theorem firstCells_none (w : World) (size n l c : Nat) : (Builtin.firstCells size n (.slice none l c)).run P w = .ok #[] w := rfl
theorem firstCells_run {w : World} {b o e n size len cap : Nat} {cs rest : List Value} {fz : Nat × Nat} (hw : w.heap[b]? = some (.cells (cs ++ rest).toArray e fz)) (hl : o + n * size ≤ cs.length) :
    (Builtin.firstCells size n (.slice (some ⟨b, o, none⟩) len cap)).run P w = .ok ((cs.drop o).take (n * size)).toArray w := by
  simp only [Builtin.firstCells]
  exact loadCells_run hw hl
/-- the outcome of an append whose array is new -/
theorem step_grown {E : Nm} {h : H} {w : World} (g : Good P E h w) {e : Nat} {i : TypeInfo} {z : Value} {c : List V} {cs : List Value} {need cap : Nat} (hi : P.info? e = some i) (hzs : z.cells.size = i.size) (h1 : c.all V.isOne = true) (h2 : denL E c = some cs)
    (hlen : c.length = need * i.size) (hcap : need ≤ cap) :
    ∃ E', Step P E h w E' (h.new (.row e c true)) (w.drew.alloc (.cells (cs.toArray ++ Builtin.zeroCells z.cells (cap - need)) e)) ∧ den E' (.sl h.n 0 need (.v 0)) = some (.slice (some ⟨w.heap.size, 0, none⟩) need cap) := by
  refine ⟨E.set h.n (locOf w.heap.size cap), Step.new g (locOf w.heap.size cap) rfl (by simp) (ob := .cells (cs.toArray ++ Builtin.zeroCells z.cells (cap - need)) e) rfl rfl rfl rfl ?_, ?_⟩
  · refine ⟨rfl, cs, (Builtin.zeroCells z.cells (cap - need)).toList, h1, denL_ext (g.ext_new _) c cs h2, ?_, ?_⟩
    · show (w.heap.push _)[w.heap.size]? = _
      rw [Array.getElem?_push_size]
      congr 2
      apply Array.ext'
      simp
    · have hz : (Builtin.zeroCells z.cells (cap - need)).toList.length = (cap - need) * i.size := by rw [Array.length_toList, size_zeroCells, hzs]
      have hc : P.cellsOf e = i.size := by simp [Program.cellsOf, hi]
      rw [hz, denL_length h2, hlen, hc, ← Nat.add_mul]
      show _ = cap * i.size
      congr 1
      omega
  · simp only [den, Nm.set_same]
    rw [if_pos (by show need + 0 ≤ cap; omega)]
    rfl
theorem appendV_sound {h : H} {k : KH} {e s : Nat} {x : V} {n : Nat} {new : List V} (hk : appendV h e s x n new k = true) :
    ∃ v h', k v h' = true ∧ ∀ E w vx ts xa i z news, Good P E h w → den E x = some vx → denL E new = some news → new.all V.isOne = true → P.info? e = some i → i.size = s → z.cells.size = i.size → App P ts xa e i z n news w →
      ∃ E' w' y, Step P E h w E' h' w' ∧ den E' v = some y ∧ ∀ ty, (Builtin.append_ ts ty #[vx, xa]).run P w = .ok y w' := by
  cases n with
  | zero =>
    have fin : k x h = true → (∀ E vx, den E x = some vx → ∃ base l c, vx = .slice base l c ∧ l ≤ c) → ∃ v h', k v h' = true ∧ ∀ E w vx ts xa i z news, Good P E h w → den E x = some vx → denL E new = some news → new.all V.isOne = true → P.info? e = some i → i.size = s → z.cells.size = i.size → App P ts xa e i z 0 news w →
        ∃ E' w' y, Step P E h w E' h' w' ∧ den E' v = some y ∧ ∀ ty, (Builtin.append_ ts ty #[vx, xa]).run P w = .ok y w' := fun hk hx =>
      ⟨x, h, hk, fun E w vx ts xa i z news g d1 d2 d3 hi hs hz ha => by
        obtain ⟨base, l, c, rfl, hle⟩ := hx E vx d1
        exact ⟨E, w, _, Step.refl g, d1, fun ty => ha.none rfl ty base l c hle⟩⟩
    cases x with
    | sl b o len c => exact fin hk fun E vx d => by obtain ⟨l, cap, _, hle, rfl, _⟩ := den_sl d; exact ⟨_, _, _, rfl, hle⟩
    | nils => exact fin hk fun E vx d => by simp only [den, Option.some.injEq] at d; subst d; exact ⟨_, _, _, rfl, Nat.le_refl _⟩
    | slz b =>
      refine fin hk fun E vx d => ?_
      simp only [den] at d
      split at d <;> cases d
      exact ⟨_, _, _, rfl, Nat.zero_le _⟩
    | _ => exact Bool.noConfusion hk
  | succ n =>
    cases x with
    | nils =>
      have hk0 : condK (Nat.ble (n + 1) 1000000) false (h.grownK e new (fun b h => k (.sl b 0 (n + 1) (.v 0)) h)) = true := hk
      obtain ⟨hsm0, hk⟩ := condK_true hk0
      have hsm0 := ble_iff.1 hsm0
      rw [H.grownK_eq] at hk
      refine ⟨_, _, hk, fun E w vx ts xa i z news g d1 d2 d3 hi hs hz ha => ?_⟩
      simp only [den, Option.some.injEq] at d1; subst d1
      have hnl : new.length = (n + 1) * i.size := by rw [← denL_length d2, ha.len]
      obtain ⟨E', s1, s2⟩ := step_grown g (need := n + 1) (cap := grownCap w (0 + (n + 1)) 0 e) hi hz d3 d2 hnl (by have := grownCap_ge w (0 + (n + 1)) 0 e; omega)
      refine ⟨E', _, _, s1, s2, fun ty => ?_⟩
      have hsm : 0 + (n + 1) ≤ 1000000 := by omega
      have hr := ha.grow ty none 0 0 [] (firstCells_none _ _ _ _ _) (by omega) hsm
      rw [hr]
      simp
    | sl b o len c =>
      have hk : natK (Nat.add len (n + 1)) (fun l => condK (Nat.ble l 1000000) false (Cap.rec
          (fun c => condK (Nat.ble l c)
            (h.loadK b o (Nat.mul len s) (fun old => appK old new (fun cs => h.grownK e cs (fun b h => k (.sl b 0 l (.v 0)) h))))
            (h.storeK b (Nat.add o (Nat.mul len s)) new (fun h => k (.sl b o l (.n c)) h)))
          (fun d => Nat.rec (Nat.rec (h.rowK b (fun e' old t => condK (Nat.beq e' e) false (condK t false (lenK old (fun j => condK (Nat.beq j (Nat.mul len s)) false
            (appK old new (fun cs => h.putK b .dead (fun h => h.grownK e cs (fun b h => k (.sl b 0 l (.v 0)) h))))))))) (fun _ _ => false) o) (fun _ _ => false) d) c)) = true := hk
      rw [natK_eq] at hk
      obtain ⟨hsm, hk⟩ := condK_true hk
      have hsm : len + (n + 1) ≤ 1000000 := ble_iff.1 hsm
      cases c with
      | n c =>
        rcases condK_or hk with ⟨hfit, hk⟩ | ⟨hfit, hk⟩
        · -- there is room
          have hfit : len + (n + 1) ≤ c := ble_iff.1 hfit
          obtain ⟨e', cc, tl, hg, hl, hk⟩ := H.storeK_true hk
          have hl : o + len * s + new.length ≤ cc.length := hl
          refine ⟨_, _, hk, fun E w vx ts xa i z news g d1 d2 d3 hi hs hz ha => ?_⟩
          obtain ⟨l, cap, hE, hle, rfl, hc⟩ := den_sl d1
          have hc : cap = c := by
            rcases hc with hc | ⟨_, hc, _⟩
            · cases hc; rfl
            · cases hc
          subst hc
          obtain ⟨s1, s2⟩ := step_store g hg hE hl d3 d2
          obtain ⟨l', h3, h0, cs, rest, h4, h5, h6, h7⟩ := g.stand b _ hg (by simp)
          rw [hE] at h3; cases h3
          have hcl := denL_length h5
          have hnl := denL_length d2
          have hz0 : l.of + o = o := by omega
          simp only [hz0]
          refine ⟨E, _, .slice (some ⟨l.bl, o, none⟩) (len + (n + 1)) cap, s2, ?_, fun ty => ?_⟩
          · simp only [den, hE]
            rw [if_pos (show len.add (n + 1) ≤ cap from hfit), hz0]
            rfl
          · have hr := ha.room ty l.bl o len cap hfit (fun j hj => by
              rw [hs, cell_of h6, List.getElem?_eq_getElem (by rw [List.length_append]; omega)]; rfl) (fun j hj => by simp [World.frozen?, h6])
            rw [hr, hs]
        · -- there is none
          have hfit : ¬ (len + (n + 1) ≤ c) := fun e => by rw [show Nat.ble (len.add (n + 1)) c = true from ble_iff.2 e] at hfit; cases hfit
          obtain ⟨e', cc, tl, hg, hl, hk⟩ := H.loadK_true hk
          rw [appK_eq, H.grownK_eq] at hk
          have hl : o + len * s ≤ cc.length := hl
          refine ⟨_, _, hk, fun E w vx ts xa i z news g d1 d2 d3 hi hs hz ha => ?_⟩
          obtain ⟨l, cap, hE, hle, rfl, hc⟩ := den_sl d1
          have hc : cap = c := by
            rcases hc with hc | ⟨_, hc, _⟩
            · cases hc; rfl
            · cases hc
          subst hc
          obtain ⟨l', h3, h0, cs, rest, h4, h5, h6, h7⟩ := g.stand b _ hg (by simp)
          rw [hE] at h3; cases h3
          have hcl := denL_length h5
          have hnl := denL_length d2
          have hz0 : l.of + o = o := by omega
          simp only [hz0]
          have hold := firstCells_run (P := P) (w := w.drew) (n := len) (size := i.size) (len := len) (cap := cap) (o := o) h6 (by rw [hs]; omega)
          have d4 : denL E ((cc.drop o).take (len * s) ++ new) = some ((cs.drop o).take (len * s) ++ news) := denL_append.2 ⟨_, _, denL_take _ (denL_drop o h5), d2, rfl⟩
          obtain ⟨E', s1, s2⟩ := step_grown g (need := len + (n + 1)) (cap := grownCap w (len + (n + 1)) cap e) hi hz (all_app (all_drop_take h4 o (len * s)) d3) d4 (by
            rw [List.length_append, List.length_take, List.length_drop, ← hnl, ha.len, hs, Nat.min_eq_left (by omega)]
            exact (Nat.add_mul _ _ _).symm) (grownCap_ge w _ cap e)
          refine ⟨E', _, _, s1, s2, fun ty => ?_⟩
          have hr := ha.grow ty (some ⟨l.bl, o, none⟩) len cap _ hold (by omega) hsm
          rw [hr, hs]
      | v d =>
        cases d with
        | succ d => exact Bool.noConfusion hk
        | zero =>
          cases o with
          | succ o => exact Bool.noConfusion hk
          | zero =>
            obtain ⟨e', cc, tl, hg, q0⟩ := H.rowK_true hk
            obtain ⟨hee, q1⟩ := condK_true q0
            have hee := Nat.eq_of_beq_eq_true hee
            subst hee
            obtain ⟨htl, q2⟩ := condK_true q1
            subst htl
            rw [lenK_eq] at q2
            obtain ⟨q3, q4⟩ := condK_true q2
            have hj : cc.length = len * s := Nat.eq_of_beq_eq_true q3
            rw [appK_eq, H.putK_eq, H.grownK_eq] at q4
            refine ⟨_, _, q4, fun E w vx ts xa i z news g d1 d2 d3 hi hs hz ha => ?_⟩
            obtain ⟨l, cap, hE, hle, rfl, hc⟩ := den_sl d1
            have hc : cap = l.cp := by
              rcases hc with hc | ⟨d, hc, hd⟩
              · cases hc
              · cases hc; omega
            subst hc
            obtain ⟨l', h3, h0, cs, rest, h4, h5, h6, h7⟩ := g.stand b _ hg (by simp)
            rw [hE] at h3; cases h3
            have hcl := denL_length h5
            have hnl := denL_length d2
            have hz0 : l.of + 0 = 0 := by omega
            simp only [hz0]
            have d4 : denL E (cc ++ new) = some (cs ++ news) := denL_append.2 ⟨_, _, h5, d2, rfl⟩
            by_cases hfit : len + (n + 1) ≤ l.cp
            · -- in place, under a new letter
              have hc : P.cellsOf e' = s := by simp [Program.cellsOf, hi, hs]
              have h7 : cs.length + rest.length = l.cp * s := by rw [← hc]; exact h7
              have hnl2 : news.length = (n + 1) * s := by rw [ha.len, hs]
              have hfit2 : len * s + (n + 1) * s ≤ l.cp * s := by rw [← Nat.add_mul]; exact Nat.mul_le_mul_right s hfit
              have hr := fun ty => ha.room ty l.bl 0 len l.cp hfit (fun j hj => by
                rw [hs, cell_of h6, List.getElem?_eq_getElem (by rw [List.length_append]; omega)]; rfl) (fun j hj => by simp [World.frozen?, h6])
              have hw : (w.setCells l.bl (0 + len * i.size) news).heap[l.bl]? = some (.cells ((cs ++ news) ++ rest.drop news.length).toArray e' (0, 0)) := by
                rw [heap_setCells l.bl news _ w _ h6 (by rw [List.length_append, hs]; omega)]
                congr 2
                have e1 : (cs ++ rest).take (0 + len * i.size) = cs := by
                  rw [hs, List.take_append_of_le_length (by omega), List.take_of_length_le (by omega)]
                have e2 : (cs ++ rest).drop (0 + len * i.size + news.length) = rest.drop news.length := by
                  rw [hs, show 0 + len * s + news.length = cs.length + news.length by omega, List.drop_append]
                  rw [List.drop_eq_nil_of_le (by omega), Nat.add_sub_cancel_left]
                  rfl
                rw [e1, e2]
              have st : Stand P (E.set h.n l) (w.setCells l.bl (0 + len * i.size) news) l (.row e' (cc ++ new) true) :=
                ⟨h0, cs ++ news, rest.drop news.length, all_app h4 d3, denL_ext (g.ext_new l) _ _ d4, hw, by
                  show (cs ++ news).length + (rest.drop news.length).length = l.cp * P.cellsOf e'
                  rw [List.length_append, List.length_drop, hc]; omega⟩
              refine ⟨_, _, .slice (some ⟨l.bl, 0, none⟩) (len + (n + 1)) l.cp, Step.rename g hg (by simp) hE (by simp) st (fun b hb => heap_setCells_ne _ _ _ w b hb) (size_setCells _ _ _ w) (World.os_setCells w _ _ _) (tape_setCells _ _ _ w) (World.output_setCells w _ _ _), ?_, hr⟩
              show den (E.set h.n l) (.sl h.n 0 (len + (n + 1)) (.v 0)) = _
              simp only [den, Nm.set_same]
              rw [if_pos (by omega), hz0]
              rfl
            · -- a new array; the old one is forgotten
              have hold := firstCells_run (P := P) (w := w.drew) (n := len) (size := i.size) (len := len) (cap := l.cp) (o := 0) h6 (by rw [hs]; omega)
              have e0 : (cs.drop 0).take (len * i.size) = cs := by rw [List.drop_zero, List.take_of_length_le (by rw [hs]; omega)]
              rw [e0] at hold
              have sk := Step.kill g b
              obtain ⟨E', s1, s2⟩ := step_grown sk.good (need := len + (n + 1)) (cap := grownCap w (len + (n + 1)) l.cp e') hi hz (all_app h4 d3) d4 (by
                rw [List.length_append, ← hnl, ha.len, hj, hs]
                exact (Nat.add_mul _ _ _).symm) (grownCap_ge w _ l.cp e')
              refine ⟨E', _, _, sk.trans s1, s2, fun ty => ?_⟩
              have hr := ha.grow ty (some ⟨l.bl, 0, none⟩) len l.cp _ hold (by omega) hsm
              rw [hr]
    | _ => exact Bool.noConfusion hk
end
end Go.Ev

/-
  The evaluator of closed calls: a part.
-/
set_option linter.unusedVariables false
set_option linter.unusedSimpArgs false
namespace Go.Ev
section
variable {P : Program} {vs : List V} {h : H} {k : KH}
theorem zs1_one {e : TypeId} {z : List V} (hz : zs1 P e = some z) : ∃ i x, P.info? e = some i ∧ i.zero = some x ∧ z.all V.isOne = true ∧ (∀ E, denL E z = some x.cells.toList) ∧ i.bytes ≤ 1000000 ∧ x.cells.size = i.size ∧ (∀ u ∈ x.cells.toList, u.oneCell' = true) := by
  obtain ⟨i, x, h1, h2, h3, h4, _, h6, h7⟩ := zs1_some hz
  exact ⟨i, x, h1, h2, h3, h4, h6, h7, allOne_den (h4 (fun _ => none)) h3⟩
theorem size_eq {e : TypeId} {s : Nat} {i : TypeInfo} (hs : szO P e = some s) (hi : P.info? e = some i) : i.size = s := by
  unfold szO at hs; rw [hi] at hs; cases hs; rfl
theorem xd_append {t u e f s : Nat} {z : List V} {args : Array Operand} (ht : P.underlying t = some (.slice e)) (hu : P.underlying u = some (.slice f)) (hz : zs1 P e = some z) (hs : szO P e = some s)
    (hk : v2 vs (fun x y => x_append e s x y h k) = true) : ∃ v h', k v h' = true ∧ XdOk P (.call { callee := .builtin .append, args := args, argTypes := #[t, u] }) vs h v h' := by
  obtain ⟨x, y, rfl, k1⟩ := v2_true hk
  obtain ⟨i, zx, hi, hz0, hone, hden, hby, hcs, h1c⟩ := zs1_one hz
  have hsz := size_eq hs hi
  have fin : ∀ (n : Nat) (new : List V), appendV h e s x n new k = true →
      (∀ E w q, Good P E h w → den E y = some q → ∃ news, denL E new = some news ∧ new.all V.isOne = true ∧ App P #[t, u] q e i zx n news w) →
      ∃ v h', k v h' = true ∧ XdOk P (.call { callee := .builtin .append, args := args, argTypes := #[t, u] }) [x, y] h v h' := by
    intro n new hk hy
    obtain ⟨v, h', k2, hrun⟩ := appendV_sound (P := P) hk
    refine ⟨v, h', k2, fun E w ρ o g ho hd => ?_⟩
    obtain ⟨p, q, d1, d2, ha⟩ := args2 hd
    obtain ⟨news, n1, n2, n3⟩ := hy E w q g d2
    obtain ⟨E', w', r, s1, s2, s3⟩ := hrun E w p #[t, u] q i zx news g d1 n1 n2 hi hsz hcs n3
    refine ⟨E', w', r, .value r, s1, s2, ?_, .inl rfl⟩
    refine call_run (f := Builtin.append_ #[t, u] o.type (args.map ρ)) ho (fun _ => rfl) ?_
    rw [ha]; exact s3 _
  rcases V.onSl_true k1 with ⟨rfl, k2⟩ | ⟨a, rfl, k2⟩ | ⟨b, off, len, c, rfl, k2⟩
  · refine fin 0 [] k2 fun E w q g d => ⟨[], by simp [denL], rfl, App.ofSrc ht hi hz0 hby ?_⟩
    simp only [den, Option.some.injEq] at d; subst d
    exact Src.ofNil w hu 0
  · refine fin 0 [] k2 fun E w q g d => ⟨[], by simp [denL], rfl, App.ofSrc ht hi hz0 hby ?_⟩
    simp only [den] at d
    split at d <;> cases d
    exact Src.ofSlice w hu _ 0 _ [] (by simp) (by simp) (by simp)
  · obtain ⟨e', cc, tl, hg, hl, k3⟩ := H.loadK_true k2
    have hl : off + len * s ≤ cc.length := hl
    refine fin len _ k3 fun E w q g d => ?_
    obtain ⟨l, cap, hE, hle, rfl, _⟩ := den_sl d
    obtain ⟨l', h3, h0, cs, rest, h4, h5, h6, h7⟩ := g.stand b _ hg (by simp)
    rw [hE] at h3; cases h3
    have hcl := denL_length h5
    have d4 := denL_take (len * s) (denL_drop off h5)
    have a4 := all_drop_take h4 off (len * s)
    have hzo : l.of + off = off := by omega
    simp only [hzo]
    refine ⟨_, d4, a4, App.ofSrc ht hi hz0 hby (Src.ofSlice w hu _ len cap _ ?_ (fun j v hv => ?_) (allOne_den d4 a4))⟩
    · rw [List.length_take, List.length_drop, hsz]; omega
    · have hj := (List.getElem?_eq_some_iff.1 hv).1
      rw [List.length_take, List.length_drop] at hj
      rw [Addr.add_mid, cell_of h6, List.getElem?_append_left (by omega)]
      rw [List.getElem?_take_of_lt (by omega), List.getElem?_drop] at hv
      exact hv
theorem xd_appendz {t u e s : Nat} {j : IntKind} {z : List V} {args : Array Operand} (ht : P.underlying t = some (.slice e)) (hu : P.underlying u = some (.int j)) (hz : zs1 P e = some z) (hs : szO P e = some s)
    (hk : v2 vs (fun x y => x_appendz e s z x y h k) = true) : ∃ v h', k v h' = true ∧ XdOk P (.call { callee := .builtin .append, args := args, argTypes := #[t, u] }) vs h v h' := by
  obtain ⟨x, y, rfl, k1⟩ := v2_true hk
  obtain ⟨i, zx, hi, hz0, hone, hden, hby, hcs, h1c⟩ := zs1_one hz
  have hsz := size_eq hs hi
  obtain ⟨j', n, rfl, hp, k2⟩ := V.onNat_true k1
  obtain ⟨hn, k3⟩ := condK_true k2
  have hn := ble_iff.1 hn
  rw [repK_eq] at k3
  obtain ⟨v, h', k4, hrun⟩ := appendV_sound (P := P) k3
  refine ⟨v, h', k4, fun E w ρ o g ho hd => ?_⟩
  obtain ⟨p, q, d1, d2, ha⟩ := args2 hd
  obtain ⟨_, rfl⟩ := den_int d2
  rw [wrap_pos hp] at ha
  obtain ⟨E', w', r, s1, s2, s3⟩ := hrun E w p #[t, u] (.int j' (n : Nat)) i zx _ g d1 (denL_rep (hden E) n) (all_rep hone n) hi hsz hcs (App.ofZeros ht hu hi hz0 hby hcs h1c hn)
  refine ⟨E', w', r, .value r, s1, s2, ?_, .inl rfl⟩
  refine call_run (f := Builtin.append_ #[t, u] o.type (args.map ρ)) ho (fun _ => rfl) ?_
  rw [ha]; exact s3 _
theorem xd_clear {t e : Nat} {z : List V} {args : Array Operand} {ts : List TypeId} (ht : P.underlying t = some (.slice e)) (hz : zs1 P e = some z)
    (hk : v1 vs (fun x => x_clear z x h k) = true) : ∃ v h', k v h' = true ∧ XdOk P (.call { callee := .builtin .clear, args := args, argTypes := (t :: ts).toArray }) vs h v h' := by
  obtain ⟨x, rfl, k1⟩ := v1_true hk
  obtain ⟨i, zx, hi, hz0, hone, hden, hby, hcs, h1c⟩ := zs1_one hz
  have hzr : ∀ w, (zeroValue e).run P w = .ok zx w := fun w => by simp [zeroValue, typeInfo, hi, hz0]
  have fin : ∀ (v' : Value → Prop), k (.tup []) h = true → (∀ E p, den E x = some p → (p = .slice none 0 0 ∨ ∃ a c, p = .slice (some a) 0 c)) →
      ∃ v h', k v h' = true ∧ XdOk P (.call { callee := .builtin .clear, args := args, argTypes := (t :: ts).toArray }) [x] h v h' := fun _ hk hx =>
    ⟨_, _, hk, fun E w ρ o g ho hd => by
      obtain ⟨p, d1, ha⟩ := args1 hd
      refine ⟨E, w, undef, .value undef, Step.refl g, den_undef E, ?_, .inl rfl⟩
      refine call_run (f := Builtin.clear_ (t :: ts).toArray o.type (args.map ρ)) ho (fun _ => rfl) ?_
      rw [ha]
      rcases hx E p d1 with rfl | ⟨a, c, rfl⟩ <;> simp [Builtin.clear_, run_underlying ht, undef]⟩
  rcases V.onSl_true k1 with ⟨rfl, k2⟩ | ⟨a, rfl, k2⟩ | ⟨b, off, len, c, rfl, k2⟩
  · exact fin (fun _ => True) k2 fun E p d => by simp only [den, Option.some.injEq] at d; exact .inl d.symm
  · refine fin (fun _ => True) k2 fun E p d => ?_
    simp only [den] at d
    split at d <;> cases d
    exact .inr ⟨_, _, rfl⟩
  · rw [repK_eq] at k2
    obtain ⟨e', cc, tl, hg, hl, k3⟩ := H.storeK_true k2
    refine ⟨_, _, k3, fun E w ρ o g ho hd => ?_⟩
    obtain ⟨p, d1, ha⟩ := args1 hd
    obtain ⟨l, cap, hE, hle, rfl, _⟩ := den_sl d1
    obtain ⟨s1, s2⟩ := step_store g hg hE hl (all_rep hone len) (denL_rep (hden E) len)
    refine ⟨E, _, undef, .value undef, s2, den_undef E, ?_, .inl rfl⟩
    refine call_run (f := Builtin.clear_ (t :: ts).toArray o.type (args.map ρ)) ho (fun _ => rfl) ?_
    rw [ha]
    have hzc : (Builtin.zeroCells zx.cells len).toList = (List.replicate len zx.cells.toList).flatten := by
      have := flat_rep zx.cells.toList len
      rw [Array.toArray_toList, Array.length_toList] at this
      exact congrArg Array.toList this
    cases len with
    | zero => simp [Builtin.clear_, run_underlying ht, undef, World.setCells]
    | succ len => simp [Builtin.clear_, run_underlying ht, undef, hzr, hzc, s1]
theorem lenOf_slice (w : World) (a : Option Addr) (n c : Nat) : (Builtin.lenOf (.slice a n c)).run P w = .ok n w := rfl
theorem loadCells_zero (w : World) (a : Addr) : (loadCells a 0).run P w = .ok #[] w := by simpa using run_loadCells_list (P := P) w a [] (by simp)
theorem copy_none {dT sT ty e s : Nat} {w : World} {d a : Option Addr} {dLen dCap sLen sCap : Nat} (hu : P.underlying dT = some (.slice e)) (hs : szO P e = some s) (hn : Nat.min sLen dLen = 0) :
    (Builtin.copy_ #[dT, sT] ty #[.slice d dLen dCap, .slice a sLen sCap]).run P w = .ok (goInt 0) w := by
  cases d <;> cases a <;> simp [Builtin.copy_, run_underlying hu, Builtin.lenOf, Builtin.firstCells, size_run hs, hn, storeCells, loadCells_zero]
theorem xd_copy {t u e s : Nat} {args : Array Operand} (ht : P.underlying t = some (.slice e)) (hs : szO P e = some s)
    (hk : v2 vs (fun x y => x_copy s x y h k) = true) : ∃ v h', k v h' = true ∧ XdOk P (.call { callee := .builtin .copy, args := args, argTypes := #[t, u] }) vs h v h' := by
  obtain ⟨x, y, rfl, k1⟩ := v2_true hk
  have shape : ∀ (E : Nm) (x : V) (p : Value), den E x = some p → (∃ r : Unit, x = .nils ∨ (∃ a, x = .slz a)) → ∃ a c, p = .slice a 0 c := fun E x p d hx => by
    obtain ⟨_, rfl | ⟨a, rfl⟩⟩ := hx
    · simp only [den, Option.some.injEq] at d; exact ⟨_, _, d.symm⟩
    · simp only [den] at d
      split at d <;> cases d
      exact ⟨_, _, rfl⟩
  have shape2 : ∀ (E : Nm) (x : V) (p : Value), den E x = some p → ((∃ r : Unit, x = .nils ∨ (∃ a, x = .slz a)) ∨ ∃ b o l c, x = .sl b o l c) → ∃ a l c, p = .slice a l c := fun E x p d hx => by
    rcases hx with hx | ⟨b, o, l, c, rfl⟩
    · obtain ⟨a, c, rfl⟩ := shape E x p d hx; exact ⟨_, _, _, rfl⟩
    · obtain ⟨l, cap, _, _, rfl, _⟩ := den_sl d; exact ⟨_, _, _, rfl⟩
  have zero : k (.int .i64 0) h = true → (∀ E p q, den E x = some p → den E y = some q → ∃ d a dl dc sl sc, p = .slice d dl dc ∧ q = .slice a sl sc ∧ Nat.min sl dl = 0) →
      ∃ v h', k v h' = true ∧ XdOk P (.call { callee := .builtin .copy, args := args, argTypes := #[t, u] }) [x, y] h v h' := fun hk hx =>
    ⟨_, _, hk, fun E w ρ o g ho hd => by
      obtain ⟨p, q, d1, d2, ha⟩ := args2 hd
      obtain ⟨d, a, dl, dc, sl, sc, rfl, rfl, hm⟩ := hx E p q d1 d2
      refine ⟨E, w, goInt 0, .value (goInt 0), Step.refl g, den_len (n := 0) (by omega), ?_, .inl rfl⟩
      refine call_run (f := Builtin.copy_ #[t, u] o.type (args.map ρ)) ho (fun _ => rfl) ?_
      rw [ha]; exact copy_none ht hs hm⟩
  rcases V.onSl_true k1 with ⟨hx, k2⟩ | ⟨a, hx, k2⟩ | ⟨b, off, len, c, hx, k2⟩
  · rcases V.onSl_true k2 with ⟨hy, k3⟩ | ⟨a, hy, k3⟩ | ⟨b, off, len, c, hy, k3⟩
    all_goals
      refine zero k3 fun E p q d1 d2 => ?_
      obtain ⟨a1, c1, rfl⟩ := shape E x p d1 ⟨(), .inl hx⟩
    · obtain ⟨a2, c2, rfl⟩ := shape E y q d2 ⟨(), .inl hy⟩; exact ⟨_, _, _, _, _, _, rfl, rfl, rfl⟩
    · obtain ⟨a2, c2, rfl⟩ := shape E y q d2 ⟨(), .inr ⟨_, hy⟩⟩; exact ⟨_, _, _, _, _, _, rfl, rfl, rfl⟩
    · obtain ⟨a2, l2, c2, rfl⟩ := shape2 E y q d2 (.inr ⟨_, _, _, _, hy⟩); exact ⟨_, _, _, _, _, _, rfl, rfl, Nat.min_zero _⟩
  · rcases V.onSl_true k2 with ⟨hy, k3⟩ | ⟨a', hy, k3⟩ | ⟨b, off, len, c, hy, k3⟩
    all_goals
      refine zero k3 fun E p q d1 d2 => ?_
      obtain ⟨a1, c1, rfl⟩ := shape E x p d1 ⟨(), .inr ⟨_, hx⟩⟩
    · obtain ⟨a2, c2, rfl⟩ := shape E y q d2 ⟨(), .inl hy⟩; exact ⟨_, _, _, _, _, _, rfl, rfl, rfl⟩
    · obtain ⟨a2, c2, rfl⟩ := shape E y q d2 ⟨(), .inr ⟨_, hy⟩⟩; exact ⟨_, _, _, _, _, _, rfl, rfl, rfl⟩
    · obtain ⟨a2, l2, c2, rfl⟩ := shape2 E y q d2 (.inr ⟨_, _, _, _, hy⟩); exact ⟨_, _, _, _, _, _, rfl, rfl, Nat.min_zero _⟩
  · rcases V.onSl_true k2 with ⟨hy, k3⟩ | ⟨a', hy, k3⟩ | ⟨b', off', len', c', hy, k3⟩
    · refine zero k3 fun E p q d1 d2 => ?_
      obtain ⟨a1, l1, c1, rfl⟩ := shape2 E x p d1 (.inr ⟨_, _, _, _, hx⟩)
      obtain ⟨a2, c2, rfl⟩ := shape E y q d2 ⟨(), .inl hy⟩; exact ⟨_, _, _, _, _, _, rfl, rfl, Nat.zero_min _⟩
    · refine zero k3 fun E p q d1 d2 => ?_
      obtain ⟨a1, l1, c1, rfl⟩ := shape2 E x p d1 (.inr ⟨_, _, _, _, hx⟩)
      obtain ⟨a2, c2, rfl⟩ := shape E y q d2 ⟨(), .inr ⟨_, hy⟩⟩; exact ⟨_, _, _, _, _, _, rfl, rfl, Nat.zero_min _⟩
    · rw [natK_eq] at k3
      obtain ⟨n, hn⟩ : ∃ n, n = (Bool.rec len' len (Nat.ble len len') : Nat) := ⟨_, rfl⟩
      rw [← hn] at k3
      have hmin : Nat.min len' len = n := by
        rw [hn]
        cases hb : Nat.ble len len'
        · have : ¬ (len ≤ len') := fun e => by rw [ble_iff.2 e] at hb; cases hb
          exact Nat.min_eq_left (by omega)
        · exact Nat.min_eq_right (ble_iff.1 hb)
      obtain ⟨e1, cc, tl, hg, hl, k4⟩ := H.loadK_true k3
      have hl : off' + n * s ≤ cc.length := hl
      obtain ⟨e2, cc2, tl2, hg2, hl2, k5⟩ := H.storeK_true k4
      obtain ⟨hn64, k6⟩ := lenV_true k5
      refine ⟨_, _, k6, fun E w ρ o g ho hd => ?_⟩
      obtain ⟨p, q, d1, d2, ha⟩ := args2 hd
      subst hx; subst hy
      obtain ⟨l1, cap1, hE1, hle1, rfl, _⟩ := den_sl d1
      obtain ⟨l2, cap2, hE2, hle2, rfl, _⟩ := den_sl d2
      obtain ⟨l', h3, h0, cs, rest, h4, h5, h6, h7⟩ := g.stand b' _ hg (by simp)
      rw [hE2] at h3; cases h3
      have hcl := denL_length h5
      obtain ⟨s1, s2⟩ := step_store g hg2 hE1 hl2 (all_drop_take h4 off' (n * s)) (denL_take (n * s) (denL_drop off' h5))
      refine ⟨E, _, goInt n, .value (goInt n), s2, den_len hn64, ?_, .inl rfl⟩
      refine call_run (f := Builtin.copy_ #[t, u] o.type (args.map ρ)) ho (fun _ => rfl) ?_
      rw [ha]
      have hzo : l2.of + off' = off' := by omega
      simp only [hzo]
      have hf := firstCells_run (P := P) (w := w) (n := n) (size := s) (len := len') (cap := cap2) (o := off') h6 (by omega)
      simp only [Builtin.copy_, List.getElem?_toArray, List.getElem?_cons_zero, List.getElem?_cons_succ, Sem.run_bind, run_underlying ht, Result.andThen_ok, lenOf_slice, hmin, size_run hs, hf, s1, Sem.run_pure]
/-- a slice, or its very end -/
theorem xd_slice {t e s : Nat} {a : Operand} {lo : Option Operand} (hu : P.underlying t = some (.slice e)) (hs : szO P e = some s)
    (hk : evSlice lo none none vs (fun x lo _ _ => x_slice s x lo h k) = true) : ∃ v h', k v h' = true ∧ XdOk P (.slice t a lo none none) vs h v h' := by
  have hr : ∃ x vlo, x_slice s x vlo h k = true ∧ (∀ f' : V → Option V → Option V → Option V → Bool, f' x vlo none none = true → evSlice lo none none vs f' = true) ∧
      ((lo = none ∧ vlo = none ∧ vs = [x]) ∨ ∃ b y, lo = some b ∧ vlo = some y ∧ vs = [x, y]) := by
    cases vs with
    | nil => exact Bool.noConfusion hk
    | cons x l =>
      cases lo with
      | none =>
        cases l with
        | nil => exact ⟨x, none, hk, fun f' h => h, .inl ⟨rfl, rfl, rfl⟩⟩
        | cons _ _ => exact Bool.noConfusion hk
      | some b =>
        cases l with
        | nil => exact Bool.noConfusion hk
        | cons y l =>
          cases l with
          | nil => exact ⟨x, some y, hk, fun f' h => h, .inr ⟨b, y, rfl, rfl, rfl⟩⟩
          | cons _ _ => exact Bool.noConfusion hk
  obtain ⟨x, vlo, k1, hre, hsh⟩ := hr
  have plain : r_slice s x vlo none none (fun v => k v h) = true → ∃ v h', k v h' = true ∧ XdOk P (.slice t a lo none none) vs h v h' := fun hk => by
    obtain ⟨v, k2, hrd⟩ := rd_slice (P := P) (a := a) (k := fun v => k v h) hu hs (fun _ => rfl) (hre (fun x lo hi mx => r_slice s x lo hi mx (fun v => k v h)) hk)
    refine ⟨v, h, k2, fun E w ρ o g ho hd => ?_⟩
    obtain ⟨y, d1, d2⟩ := hrd E w ρ o ho hd
    exact ⟨E, w, y, .value y, Step.refl g, d1, d2, .inl rfl⟩
  unfold x_slice a_tail at k1
  rcases V.onSl_true k1 with ⟨_, k2⟩ | ⟨_, _, k2⟩ | ⟨b, off, len, c, rfl, k2⟩
  · exact plain k2
  · exact plain k2
  · cases c with
    | n c => exact plain k2
    | v d =>
      obtain ⟨nlo, k3, hb⟩ := optK_true k2
      rcases hb with ⟨rfl, rfl⟩ | ⟨j, l, rfl, hp, rfl⟩
      · exact plain k3
      · rcases condK_or k3 with ⟨hll, k4⟩ | ⟨_, k4⟩
        · have hll := Nat.eq_of_beq_eq_true hll
          subst hll
          cases l with
          | zero => exact plain k4
          | succ l =>
            have k4 : h.nextK (fun n h => k (.slz n) h) = true := k4
            rw [H.nextK_eq] at k4
            refine ⟨_, _, k4, fun E w ρ o g ho hd => ?_⟩
            rcases hsh with ⟨_, hv, _⟩ | ⟨bo, y, rfl, hv, rfl⟩
            · cases hv
            · cases hv
              obtain ⟨d1, d2⟩ := den2 hd
              obtain ⟨loc, cap, hE, hle, hx, hc⟩ := den_sl d1
              obtain ⟨_, hy⟩ := den_int d2
              rw [wrap_pos hp] at hy
              have hbnd := bounds_run (P := P) (isSlice := true) (len := l + 1) (cap := cap) (lo := some (ρ bo)) (hi := none) (mx := none) (nlo := some (l + 1)) (nhi := none) (nmx := none) (l := l + 1) (hh := l + 1) (m := cap)
                (.inr ⟨j, l + 1, congrArg some hy, rfl⟩) (.inl ⟨rfl, rfl⟩) (.inl ⟨rfl, rfl⟩) (fun _ => rfl) rfl rfl rfl (Nat.le_refl _) hle (Nat.le_refl _) w
              have hr := slice_run hu hs (ao := some ⟨loc.bl, loc.of + off, none⟩) hbnd
              rw [sl_addr] at hr
              obtain ⟨ad, had⟩ : ∃ ad : Addr, ad = ⟨loc.bl, if cap = l + 1 then loc.of + off else loc.of + off + (l + 1) * s, none⟩ := ⟨_, rfl⟩
              rw [← had] at hr
              have hden : den (E.set h.n ⟨0, cap - (l + 1), ad, .bool false, 0⟩) (.slz h.n) = some (.slice (some ad) 0 (cap - (l + 1))) := by
                simp only [den, Nm.set_same]
              refine ⟨E.set h.n ⟨0, cap - (l + 1), ad, .bool false, 0⟩, w, .slice (some ad) 0 (cap - (l + 1)), .value (.slice (some ad) 0 (cap - (l + 1))), Step.next g _ (.inl rfl) rfl rfl rfl, hden, ?_, .inl rfl⟩
              have hx' : ρ a = .slice (some ⟨loc.bl, loc.of + off, none⟩) (l + 1) cap := hx
              simp only [execOp, ho, hx', Option.map_some, Option.map_none, Sem.run_bind, hr, Result.andThen_ok, Sem.run_pure, Nat.sub_self]
        · exact plain k4
theorem evT_sound {op : Op} (hk : evT P op vs h k = true) : ∃ v h', k v h' = true ∧ XdOk P op vs h v h' := by
  unfold evT at hk
  split at hk
  · split at hk
    · rename_i e hu
      obtain ⟨s, hs, hk⟩ := okK_true hk
      exact xd_slice hu hs hk
    · cases hk
  · cases hk
end
end Go.Ev

/-
  The evaluator of closed calls: a part.
-/
set_option linter.unusedVariables false
set_option linter.unusedSimpArgs false
namespace Go.Ev
theorem find_push {dst : Option Nat} {v u : V} {env : Env} {t : Nat} (h : find t (push dst v env) = some u) : (dst = some t ∧ u = v) ∨ (dst ≠ some t ∧ find t env = some u) := by
  cases dst with
  | none => exact .inr ⟨by simp, h⟩
  | some d =>
    simp only [push, find] at h
    split at h
    · rename_i hb
      cases h
      exact .inl ⟨by rw [Nat.eq_of_beq_eq_true hb], rfl⟩
    · rename_i hb
      refine .inr ⟨fun e => ?_, h⟩
      cases e
      rw [Nat.beq_refl] at hb
      cases hb
theorem slotAt_get : ∀ {ks : List Nat} {t i j : Nat}, slotAt t ks i = some j → i ≤ j ∧ ks[j - i]? = some t
  | [], t, i, j, h => by simp [slotAt] at h
  | u :: ks, t, i, j, h => by
    simp only [slotAt] at h
    split at h
    · rename_i hb
      cases h
      rw [Nat.sub_self, Nat.eq_of_beq_eq_true hb]
      exact ⟨Nat.le_refl _, rfl⟩
    · obtain ⟨h1, h2⟩ := slotAt_get h
      refine ⟨by omega, ?_⟩
      rw [show j - i = (j - (i + 1)) + 1 by omega, List.getElem?_cons_succ]
      exact h2
theorem slot_some {ks : List Nat} {t : Nat} {s : N} (h : slot ks t = some s) : ∃ j, slotAt t ks 1 = some j ∧ s = toN j ∧ 1 ≤ j := by
  unfold slot at h
  cases hs : slotAt t ks 1 with
  | none => rw [hs] at h; cases h
  | some j => rw [hs] at h; cases h; exact ⟨j, rfl, rfl, (slotAt_get hs).1⟩
theorem slot_inj {ks : List Nat} {t u : Nat} {s : N} (h : slot ks t = some s) (h' : slot ks u = some s) : t = u := by
  obtain ⟨j, h1, h2, _⟩ := slot_some h
  obtain ⟨j', h3, h4, _⟩ := slot_some h'
  have : j = j' := by rw [← toN_val j, ← toN_val j', ← h2, ← h4]
  subst this
  have h5 := (slotAt_get h1).2
  have h6 := (slotAt_get h3).2
  rw [h5] at h6
  cases h6; rfl
theorem slot_ne {ks : List Nat} {t : Nat} {s : N} (h : slot ks t = some s) : s ≠ .e := by
  obtain ⟨j, h1, h2, h3⟩ := slot_some h
  intro e
  rw [e] at h2
  have := toN_val j
  rw [← h2] at this
  have : N.val .e = 0 := rfl
  omega
/-- the calls that are put off -/
def DfrL (E : Nm) : List V → List Deferred → Prop
  | [], ds => ds = []
  | .fn f r [] :: l, d :: ds => (∃ cap as rs, d = { target := .fn (.func f.val) cap, args := as } ∧ denL E r = some rs ∧ as ++ cap = rs.toArray) ∧ DfrL E l ds
  | _, _ => False
def Dfr (E : Nm) : Option V → List Deferred → Prop
  | none, ds => ds = []
  | some (.tup l), ds => DfrL E l ds
  | _, _ => False
theorem DfrL.ext {E E' : Nm} (h : Ext E E') : ∀ {l : List V} {ds : List Deferred}, DfrL E l ds → DfrL E' l ds
  | [], ds, hd => hd
  | v :: l, [], hd => by cases v <;> first | exact hd.elim | skip
                         rename_i f r c; cases c <;> exact hd.elim
  | v :: l, d :: ds, hd => by
    cases v <;> first | exact hd.elim | skip
    rename_i f r c
    cases c with
    | nil =>
      obtain ⟨⟨cap, as, rs, h1, h2, h3⟩, h4⟩ := hd
      exact ⟨⟨cap, as, rs, h1, denL_ext h _ _ h2, h3⟩, DfrL.ext h h4⟩
    | cons _ _ => exact hd.elim
theorem Dfr.ext {E E' : Nm} (h : Ext E E') {o : Option V} {ds : List Deferred} (hd : Dfr E o ds) : Dfr E' o ds := by
  cases o with
  | none => exact hd
  | some v => cases v <;> first | exact hd.elim | exact DfrL.ext h hd
/-- the table of the temporaries that are kept, and the frame -/
structure Rel (E : Nm) (ks : List Nat) (nt : Nat) (a : A) (act : Act) : Prop where
  size : nt ≤ act.tmps.size
  val : ∀ t s, slot ks t = some s → den E ((T.get s a).getD V.undef) = some (act.tmps.getD t undef)
  dfr : Dfr E (T.get .e a) act.defers
theorem Rel.ext {E E' : Nm} {ks : List Nat} {nt : Nat} {a : A} {act : Act} (h : Ext E E') (r : Rel E ks nt a act) : Rel E' ks nt a act :=
  ⟨r.size, fun t s hs => den_ext h _ _ (r.val t s hs), r.dfr.ext h⟩
def EnvOk (E : Nm) (env : Env) (act : Act) : Prop := ∀ t v, find t env = some v → den E v = some (act.tmps.getD t undef)
theorem EnvOk.ext {E E' : Nm} {env : Env} {act : Act} (h : Ext E E') (r : EnvOk E env act) : EnvOk E' env act := fun t v hv => den_ext h _ _ (r t v hv)
section
variable {cx : Cx}
theorem fetch_sound {env : Env} {x : Operand} {a : A} {k : KV} (hk : fetch cx env x a k = true) :
    ∃ v, k v = true ∧ ∀ E h w act, Good cx.P E h w → Rel E cx.ks cx.nt a act → EnvOk E env act → den E v = some (act.eval x) := by
  cases x with
  | const v =>
    have hk : okK (cV 3000 v) k = true := hk
    obtain ⟨v, hv, hk⟩ := okK_true hk
    exact ⟨v, hk, fun E h w act _ _ _ => cV_den 3000 _ v hv E⟩
  | func f =>
    refine ⟨_, hk, fun E h w act _ _ _ => ?_⟩
    simp [den, denL, Act.eval, toN_val]
  | global g =>
    simp only [fetch] at hk
    split at hk
    · rename_i hg
      refine ⟨_, hk, fun E h w act gd _ _ => ?_⟩
      have hlt : g < cx.P.globals.size := by rw [Nat.blt_eq] at hg; exact hg
      obtain ⟨l, h1, h2, h3⟩ := gd.glob g hlt
      simp only [den, h1, h2, h3]
      rfl
    · cases hk
  | tmp t =>
    simp only [fetch] at hk
    cases hf : find t env with
    | some v => rw [hf] at hk; exact ⟨v, hk, fun E h w act _ _ ho => ho t v hf⟩
    | none =>
      rw [hf] at hk
      obtain ⟨s, hs, hk⟩ := okK_true hk
      rw [s_get_eq] at hk
      rw [T.getK_eq] at hk
      have : ∃ v, k v = true ∧ (T.get s a).getD V.undef = v := by
        cases hg : T.get s a with
        | none => rw [hg] at hk; exact ⟨_, hk, rfl⟩
        | some v => rw [hg] at hk; exact ⟨v, hk, rfl⟩
      obtain ⟨v, h1, h2⟩ := this
      exact ⟨v, h1, fun E h w act _ r _ => by rw [← h2]; exact r.val t s hs⟩
theorem fetchL_sound {env : Env} {a : A} : ∀ {l : List Operand} {k : List V → Bool}, fetchL cx env l a k = true →
    ∃ vs, k vs = true ∧ ∀ E h w act, Good cx.P E h w → Rel E cx.ks cx.nt a act → EnvOk E env act → denL E vs = some (l.map act.eval)
  | [], k, hk => ⟨[], hk, fun E h w act _ _ _ => by simp [denL]⟩
  | x :: l, k, hk => by
    obtain ⟨v, h1, h2⟩ := fetch_sound (k := fun v => fetchL cx env l a (fun r => k (v :: r))) hk
    obtain ⟨vs, h3, h4⟩ := fetchL_sound h1
    exact ⟨v :: vs, h3, fun E h w act g r ho => denL_cons.2 ⟨_, _, h2 E h w act g r ho, h4 E h w act g r ho, rfl⟩⟩
theorem s_if_true {κ : Type} {g : V} {want : Bool} {op no : κ → Bool} {k : κ} (hk : s_if g want op no k = true) :
    (g = .bool want ∧ op k = true) ∨ ((∃ b, g = .bool b ∧ b ≠ want) ∧ no k = true) ∨ ((∃ l, g = .tup l) ∧ no k = true) := by
  cases g <;> first | exact Bool.noConfusion hk | skip
  · rename_i b
    have hk : condK b (condK want (op k) (no k)) (condK want (no k) (op k)) = true := hk
    rcases condK_or hk with ⟨rfl, h⟩ | ⟨rfl, h⟩ <;> rcases condK_or h with ⟨rfl, h⟩ | ⟨rfl, h⟩
    · exact .inl ⟨rfl, h⟩
    · exact .inr (.inl ⟨⟨_, rfl, by simp⟩, h⟩)
    · exact .inr (.inl ⟨⟨_, rfl, by simp⟩, h⟩)
    · exact .inl ⟨rfl, h⟩
  · exact .inr (.inr ⟨⟨_, rfl⟩, hk⟩)
theorem guard_sound' {κ : Type} {env : Env} {o : Oper} {op no : κ → Bool} {k : κ} (hk : guardK cx env o.guard op no k = true) :
    ∃ want : Bool, ((want = true ∧ op k = true) ∨ (want = false ∧ no k = true)) ∧ ∀ (E : Nm) (act : Act), (∀ j w t v, o.guard = some (j, w) → (cx.ops[j]?).bind (·.dst) = some t → find t env = some v → den E v = some (act.tmps.getD t undef)) → Region.wanted o (yielded cx.ops.toArray act.tmps) = want := by
  unfold guardK at hk
  split at hk
  · rename_i hg
    exact ⟨true, .inl ⟨rfl, hk⟩, fun E act _ => by simp [Region.wanted, hg]⟩
  · rename_i j w hg
    obtain ⟨gv, h1, hk⟩ := okK_true hk
    cases ho : (cx.ops[j]?).bind (·.dst) with
    | none => rw [ho] at h1; cases h1
    | some t =>
      rw [ho] at h1
      have h1 : find t env = some gv := h1
      have hy : ∀ act : Act, yielded cx.ops.toArray act.tmps j = match act.tmps[t]? with | some (.bool b) => some b | _ => none := fun act => by
        unfold yielded
        have : (cx.ops.toArray[j]?).bind (·.dst) = some t := by simpa using ho
        rw [this]
        rfl
      have htm : ∀ (act : Act) (x : Value), act.tmps.getD t undef = x → x ≠ undef → act.tmps[t]? = some x := fun act x hx hne => by
        cases h : act.tmps[t]? with
        | none => rw [Array.getD_eq_getD_getElem?, h] at hx; exact absurd hx.symm hne
        | some y => rw [Array.getD_eq_getD_getElem?, h] at hx; exact congrArg some hx
      rcases s_if_true hk with ⟨rfl, h2⟩ | ⟨⟨b, rfl, hb⟩, h2⟩ | ⟨⟨l, rfl⟩, h2⟩
      · refine ⟨true, .inl ⟨rfl, h2⟩, fun E act he => ?_⟩
        have h3 := he j w t _ hg ho h1
        rw [den_bool] at h3
        have h4 := htm act (.bool w) (by injection h3 with h3; exact h3.symm) (by simp [undef])
        simp [Region.wanted, hg, hy, h4]
      · refine ⟨false, .inr ⟨rfl, h2⟩, fun E act he => ?_⟩
        have h3 := he j w t _ hg ho h1
        rw [den_bool] at h3
        have h4 := htm act (.bool b) (by injection h3 with h3; exact h3.symm) (by simp [undef])
        simp [Region.wanted, hg, hy, h4, hb]
      · refine ⟨false, .inr ⟨rfl, h2⟩, fun E act he => ?_⟩
        have h3 := he j w t _ hg ho h1
        obtain ⟨cs, _, h5⟩ := den_tup h3
        have h6 : yielded cx.ops.toArray act.tmps j = none := by
          rw [hy]
          cases h : act.tmps[t]? with
          | none => rfl
          | some y =>
            rw [Array.getD_eq_getD_getElem?, h] at h5
            have h5 : y = .tuple cs.toArray := h5
            rw [h5]
        simp [Region.wanted, hg, h6]
theorem guard_sound {κ : Type} {env : Env} {o : Oper} {op no : κ → Bool} {k : κ} (hk : guardK cx env o.guard op no k = true) :
    ∃ want : Bool, ((want = true ∧ op k = true) ∨ (want = false ∧ no k = true)) ∧ ∀ E act, EnvOk E env act → Region.wanted o (yielded cx.ops.toArray act.tmps) = want := by
  obtain ⟨want, h1, h2⟩ := guard_sound' hk
  exact ⟨want, h1, fun E act he => h2 E act fun _ _ t v _ _ hv => he t v hv⟩
theorem put_getD {act : Act} {t u : Nat} {x : Value} (ht : t < act.tmps.size) : (act.put (some t) x).tmps.getD u undef = if t = u then x else act.tmps.getD u undef := by
  simp only [Act.put, Array.getD_eq_getD_getElem?, Array.getElem?_setIfInBounds]
  split
  · rename_i h; subst h; simp [ht]
  · rfl
theorem bind_sound {dst : Option Nat} {v : V} {a : A} {k : A → Bool} (hk : bindK cx dst v a k = true) :
    ∃ a', k a' = true ∧ T.get .e a' = T.get .e a ∧ (∀ E act x, Rel E cx.ks cx.nt a act → den E v = some x → Rel E cx.ks cx.nt a' (act.put dst x) ∧ ∀ env, EnvOk E env act → EnvOk E (push dst v env) (act.put dst x)) := by
  unfold bindK at hk
  split at hk
  · exact ⟨a, hk, rfl, fun E act x r hx => ⟨r, fun env he => he⟩⟩
  · rename_i t
    split at hk
    · rename_i ht
      have ht : t < cx.nt := by rw [Nat.blt_eq] at ht; exact ht
      have henv : ∀ E act x, Rel E cx.ks cx.nt a act → den E v = some x → ∀ env, EnvOk E env act → EnvOk E (push (some t) v env) (act.put (some t) x) := fun E act x r hx env he u w hu => by
        rw [put_getD (Nat.lt_of_lt_of_le ht r.size)]
        rcases find_push hu with ⟨h1, rfl⟩ | ⟨h1, h2⟩
        · cases h1; rw [if_pos rfl]; exact hx
        · rw [if_neg (fun e => h1 (by rw [e]))]; exact he u w h2
      split at hk
      · rename_i s hs
        unfold s_set at hk
        rw [T.setK_eq] at hk
        refine ⟨_, hk, T.get_set_ne v s .e a (slot_ne hs), fun E act x r hx => ⟨⟨by simp [Act.put]; exact r.size, fun u s' hs' => ?_, ?_⟩, henv E act x r hx⟩⟩
        · rw [put_getD (Nat.lt_of_lt_of_le ht r.size)]
          by_cases e : t = u
          · subst e
            rw [hs] at hs'; cases hs'
            rw [T.get_set, if_pos rfl]
            exact hx
          · rw [if_neg e, T.get_set_ne v s s' a (fun e' => e (slot_inj hs (e' ▸ hs')))]
            exact r.val u s' hs'
        · rw [T.get_set_ne v s .e a (slot_ne hs)]
          exact r.dfr
      · rename_i hs
        refine ⟨a, hk, rfl, fun E act x r hx => ⟨⟨by simp [Act.put]; exact r.size, fun u s' hs' => ?_, r.dfr⟩, henv E act x r hx⟩⟩
        rw [put_getD (Nat.lt_of_lt_of_le ht r.size), if_neg (fun e => by subst e; rw [hs] at hs'; cases hs')]
        exact r.val u s' hs'
    · cases hk
end
end Go.Ev

/-
  The evaluator of closed calls: a part.
-/
set_option linter.unusedVariables false
set_option linter.unusedSimpArgs false
namespace Go.Ev
def Callable (P : Program) (f : Nat) : Prop := ∃ fn, P.funcs[f]? = some fn ∧ fn.body.isSome = true ∧ (fn.name == "runtime.NumGoroutine") = false
/-- what a call leaves -/
def Back (P : Program) (E : Nm) (h : H) (w : World) (v : V) (h' : H) : Ending → World → Prop := fun e w' => ∃ x E', e = .returned x ∧ Step P E h w E' h' w' ∧ den E' v = some x
def CallOk (P : Program) (call : Call) : Prop := ∀ f xs h k, call f xs h k = true → Callable P f.val ∧ ∃ v h', k v h' = true ∧
  ∀ E w xs', Good P E h w → denL E xs = some xs' → Calls P f.val xs'.toArray w (Back P E h w v h')
theorem callFunc_run {P : Program} {f : Nat} (h : Callable P f) (args : Array Value) (w : World) : (callFunc f args).run P w = .ok (.enter f args) w := by
  obtain ⟨fn, h1, h2, h3⟩ := h
  have h4 : fn.body.isNone = false := by cases hb : fn.body <;> simp_all
  simp only [callFunc, Sem.run_bind, run_program, Result.andThen_ok, h1, h3, Bool.false_eq_true, if_false, h4, Sem.run_pure]
/-- an operation of the frame: h becomes h', v is yielded -/
def XWp (P : Program) (op : Op) (vs : List V) (h : H) (v : V) (h' : H) : Prop :=
  ∀ E w (act : Act) (o : Oper), Good P E h w → o.op = op → denL E vs = some (op.operands.toList.map act.eval) →
    ∀ (next : Act → World → Prop) (Q : Exit → Act → World → Prop), (∀ E' w' x, Step P E h w E' h' w' → den E' v = some x → next (act.put o.dst x) w') → o.wp P act w next Q
section
variable {P : Program} {op : Op} {vs : List V} {h h' : H} {v : V}
theorem RdOk.wp (r : RdOk P op vs h v) : XWp P op vs h v h := fun E w act o g ho hd next Q hn => by
  obtain ⟨x, h1, h2⟩ := r E w act.eval o g.stand ho hd
  unfold Oper.wp
  rw [h2]
  exact hn E w x (Step.refl g) h1
theorem XdOk.wp (r : XdOk P op vs h v h') : XWp P op vs h v h' := fun E w act o g ho hd next Q hn => by
  obtain ⟨E', w', x, nx, h1, h2, h3, h4⟩ := r E w act.eval o g ho hd
  unfold Oper.wp
  rw [h3]
  rcases h4 with rfl | ⟨rfl, rfl⟩
  · exact hn E' w' x h1 h2
  · exact hn E' w' undef h1 h2
theorem MkOk.wp {mk : N → V} {ob : O} (r : MkOk P op vs mk ob) : XWp P op vs h (mk h.n) (h.new ob) := fun E w act o g ho hd next Q hn => by
  obtain ⟨hd0, r⟩ := r
  obtain ⟨obj, l, x, h1, h2, h3, h4⟩ := r E w act.eval o ho hd
  unfold Oper.wp
  rw [h4]
  have hs : Stand P (E.set h.n l) (w.alloc obj) l ob := h2 _ _ (g.ext_new l) (by
    show (w.heap.push obj)[l.bl]? = _
    rw [h1, Array.getElem?_push_size])
  exact hn _ _ x (Step.new g l h1 hd0 (ob := obj) rfl rfl rfl rfl hs) (h3 _ _ (Nm.set_same E h.n l))
theorem Back.upon {o : Oper} {act : Act} {E : Nm} {w : World} {next : Act → World → Prop} {Q : Exit → Act → World → Prop} {f : Nat} {args : Array Value}
    (hc : Calls P f args w (Back P E h w v h')) (hn : ∀ E' w' x, Step P E h w E' h' w' → den E' v = some x → next (act.put o.dst x) w') :
    o.upon P act next Q (.ok (.enter f args) w) := by
  refine Calls.mono hc fun e w' he => ?_
  obtain ⟨x, E', rfl, h1, h2⟩ := he
  exact hn E' w' x h1 h2
theorem call_direct {call : Call} (hc : CallOk P call) {f : FuncId} {args : Array Operand} {ts : Array TypeId} {k : KH} (hk : vh vs (fun _ xs => x_call (toN f) xs call h k) = true) :
    ∃ v h', k v h' = true ∧ XWp P (.call { callee := .value (.func f), args := args, argTypes := ts }) vs h v h' := by
  obtain ⟨x, xs, rfl, k1⟩ := vh_true hk
  obtain ⟨hcall, v, h', k2, hrun⟩ := hc _ _ _ _ k1
  refine ⟨v, h', k2, fun E w act o g ho hd next Q hn => ?_⟩
  obtain ⟨y, z, d1, d2, d3⟩ := denL_cons.1 hd
  have e : (Op.call { callee := .value (.func f), args := args, argTypes := ts }).operands.toList.map act.eval = act.eval (.func f) :: args.toList.map act.eval := by simp [Op.operands, Call.operands]
  rw [e] at d3
  cases d3
  have hcs := hrun E w _ g d2
  rw [toN_val] at hcs hcall
  have ha : (args.toList.map act.eval).toArray = args.map act.eval := by apply Array.ext'; rw [Array.toList_map]
  rw [ha] at hcs
  unfold Oper.wp
  have hx : (execOp act.eval o).run P w = .ok (.enter f (args.map act.eval)) w := by
    simp only [execOp, ho, resolve, Sem.run_bind, Act.eval, Deferred.ofValue, Sem.run_pure, Result.andThen_ok, invoke]
    rw [callFunc_run hcall]
    congr 2
    apply Array.ext'
    simp
  rw [hx]
  exact Back.upon hcs hn
theorem call_value {call : Call} (hc : CallOk P call) {fo : Operand} {args : Array Operand} {ts : Array TypeId} {k : KH} (hk : vh vs (fun f xs => x_callv f xs call h k) = true) :
    ∃ v h', k v h' = true ∧ XWp P (.call { callee := .value fo, args := args, argTypes := ts }) vs h v h' := by
  obtain ⟨x, xs, rfl, k1⟩ := vh_true hk
  obtain ⟨f, fi, ca, rfl, k2⟩ := V.onFn_true k1
  rw [appK_eq, appK_eq] at k2
  obtain ⟨hcall, v, h', k3, hrun⟩ := hc _ _ _ _ k2
  refine ⟨v, h', k3, fun E w act o g ho hd next Q hn => ?_⟩
  obtain ⟨y, z, d1, d2, d3⟩ := denL_cons.1 hd
  have e : (Op.call { callee := .value fo, args := args, argTypes := ts }).operands.toList.map act.eval = act.eval fo :: args.toList.map act.eval := by simp [Op.operands, Call.operands]
  rw [e] at d3
  obtain ⟨e1, e2⟩ := List.cons.inj d3
  subst e2
  simp only [den] at d1
  split at d1
  · rename_i p q hp hq
    injection d1 with d1
    have hcs := hrun E w _ g (denL_append.2 ⟨_, _, hp, denL_append.2 ⟨_, _, d2, hq, rfl⟩, rfl⟩)
    unfold Oper.wp
    have hv : act.eval fo = .func (.func f.val) p.toArray q.toArray := by rw [e1, ← d1]
    have hx : (execOp act.eval o).run P w = .ok (.enter f.val (p.toArray ++ args.map act.eval ++ q.toArray)) w := by
      simp only [execOp, ho, resolve, Sem.run_bind, hv, Deferred.ofValue, Sem.run_pure, Result.andThen_ok, invoke]
      rw [callFunc_run hcall]
    rw [hx]
    have ha : (p ++ (args.toList.map act.eval ++ q)).toArray = p.toArray ++ args.map act.eval ++ q.toArray := by
      apply Array.ext'; simp
    rw [ha] at hcs
    exact Back.upon hcs hn
  · cases d1
theorem evX_sound {call : Call} (hc : CallOk P call) {k : KH} (hk : evX P op vs call h k = true) : ∃ v h', k v h' = true ∧ XWp P op vs h v h' := by
  have conv : (∃ v h', k v h' = true ∧ XdOk P op vs h v h') → ∃ v h', k v h' = true ∧ XWp P op vs h v h' := fun ⟨v, h', h1, h2⟩ => ⟨v, h', h1, h2.wp⟩
  unfold evX at hk
  split at hk
  · split at hk
    · rename_i s hs
      split at hk
      · exact conv (xd_storeA hs hk)
      · split at hk
        · exact conv (xd_store1 hs hk)
        · cases hk
      · cases hk
    · cases hk
  · split at hk
    · rename_i key e hu; exact conv (xd_mupd (.inl rfl) hu hk)
    · cases hk
  · split at hk
    · rename_i key e hu; exact conv (xd_mupd (.inr rfl) hu hk)
    · cases hk
  · exact call_direct hc hk
  · exact call_value hc hk
  · exact call_value hc hk
  · rename_i args ts
    split at hk
    · rename_i t u hl
      have ht : ts = #[t, u] := by apply Array.toList_inj.1; exact hl
      subst ht
      split at hk
      · rename_i e f h1 h2
        obtain ⟨z, hz, hk⟩ := okK_true hk
        obtain ⟨s, hs, hk⟩ := okK_true hk
        exact conv (xd_append h1 h2 hz hs hk)
      · rename_i e j h1 h2
        obtain ⟨z, hz, hk⟩ := okK_true hk
        obtain ⟨s, hs, hk⟩ := okK_true hk
        exact conv (xd_appendz h1 h2 hz hs hk)
      · cases hk
    · cases hk
  · rename_i args ts
    split at hk
    · rename_i t l hl
      have ht : ts = (t :: l).toArray := by apply Array.toList_inj.1; exact hl
      subst ht
      split at hk
      · rename_i e h1
        obtain ⟨z, hz, hk⟩ := okK_true hk
        exact conv (xd_clear h1 hz hk)
      · cases hk
    · cases hk
  · rename_i args ts
    split at hk
    · rename_i t u hl
      have ht : ts = #[t, u] := by apply Array.toList_inj.1; exact hl
      subst ht
      split at hk
      · rename_i e f h1 h2
        obtain ⟨s, hs, hk⟩ := okK_true hk
        exact conv (xd_copy h1 hs hk)
      · cases hk
    · cases hk
  · rename_i args ts
    split at hk
    · rename_i t l hl
      have ht : ts = (t :: l).toArray := by apply Array.toList_inj.1; exact hl
      subst ht
      split at hk
      · rename_i key e h1
        exact conv (xd_delete h1 hk)
      · cases hk
    · cases hk
  · cases hk
end
end Go.Ev

/-
  The evaluator of closed calls: a part.
-/
set_option linter.unusedVariables false
set_option linter.unusedSimpArgs false
namespace Go.Ev
section
variable {cx : Cx} {call : Call}
/-- what one operation does, whether it is wanted or not -/
def OpOk (cx : Cx) (i : Nat) (o : Oper) (env : Env) (a : A) (h : H) (v : V) (a1 : A) (h1 : H) : Prop :=
  ∀ E act w, Good cx.P E h w → Rel E cx.ks cx.nt a act → EnvOk E env act → ∀ (K : Act → World → Prop) (Q : Exit → Act → World → Prop),
    (∀ E' act' w', Step cx.P E h w E' h1 w' → Rel E' cx.ks cx.nt a1 act' → EnvOk E' (push o.dst v env) act' → K act' w') → wpOp cx.P cx.ops.toArray Q i K act w
theorem op_on {i : Nat} {o : Oper} {env : Env} {a : A} {h h1 : H} {v : V} {vs : List V} {k : A → Bool} (hi : cx.ops[i]? = some o)
    (hv : ∀ E h w act, Good cx.P E h w → Rel E cx.ks cx.nt a act → EnvOk E env act → denL E vs = some (o.op.operands.toList.map act.eval))
    (hw : ∀ E act, EnvOk E env act → Region.wanted o (yielded cx.ops.toArray act.tmps) = true) (hx : XWp cx.P o.op vs h v h1) (hb : bindK cx o.dst v a k = true) :
    ∃ a1, k a1 = true ∧ OpOk cx i o env a h v a1 h1 := by
  obtain ⟨a1, k1, _, hb⟩ := bind_sound hb
  refine ⟨a1, k1, fun E act w g r he K Q hK => ?_⟩
  have hi' : cx.ops.toArray[i]? = some o := by simpa using hi
  unfold wpOp
  simp only [hi', hw E act he, if_true]
  refine .inl (hx E w act o g rfl (hv E h w act g r he) K Q fun E' w' x s hd => ?_)
  obtain ⟨r1, e1⟩ := hb E' act x (r.ext s.ext) hd
  exact hK E' _ w' s r1 (e1 env (he.ext s.ext))
theorem op_off {i : Nat} {o : Oper} {env : Env} {a : A} {h : H} {k : A → Bool} (hi : cx.ops[i]? = some o)
    (hw : ∀ E act, EnvOk E env act → Region.wanted o (yielded cx.ops.toArray act.tmps) = false) (hb : bindK cx o.dst V.undef a k = true) :
    ∃ a1, k a1 = true ∧ OpOk cx i o env a h V.undef a1 h := by
  obtain ⟨a1, k1, _, hb⟩ := bind_sound hb
  refine ⟨a1, k1, fun E act w g r he K Q hK => ?_⟩
  have hi' : cx.ops.toArray[i]? = some o := by simpa using hi
  unfold wpOp
  simp only [hi', hw E act he, Bool.false_eq_true, if_false]
  obtain ⟨r1, e1⟩ := hb E act undef r (den_undef E)
  exact hK E _ w (Step.refl g) r1 (e1 env he)
theorem evR_it {i : Nat} {env : Env} {obs : List (Nat × Ob)} {a : A} {h : H} {kn : KA} {ih : RK} (hk : evIt cx call (.R i) ih env obs a h kn = true) :
    ∃ o v a1, cx.ops[i]? = some o ∧ ih (push o.dst v env) obs a1 h kn = true ∧ OpOk cx i o env a h v a1 h := by
  obtain ⟨o, hi, k1⟩ := okK_true hk
  obtain ⟨vs, k2, hv⟩ := fetchL_sound k1
  obtain ⟨want, hc, hw⟩ := guard_sound k2
  rcases hc with ⟨rfl, k3⟩ | ⟨rfl, k3⟩
  · obtain ⟨v, k4, hr, _⟩ := evR_sound k3
    obtain ⟨a1, k5, hok⟩ := op_on hi hv hw hr.wp k4
    exact ⟨o, v, a1, hi, k5, hok⟩
  · obtain ⟨a1, k5, hok⟩ := op_off hi hw k3
    exact ⟨o, _, a1, hi, k5, hok⟩
theorem evA_it {i : Nat} {env : Env} {obs : List (Nat × Ob)} {a : A} {h : H} {kn : KA} {ih : RK} (hk : evIt cx call (.A i) ih env obs a h kn = true) :
    ∃ o v a1 h1, cx.ops[i]? = some o ∧ ih (push o.dst v env) obs a1 h1 kn = true ∧ OpOk cx i o env a h v a1 h1 := by
  obtain ⟨o, hi, k1⟩ := okK_true hk
  obtain ⟨vs, k2, hv⟩ := fetchL_sound k1
  obtain ⟨want, hc, hw⟩ := guard_sound k2
  rcases hc with ⟨rfl, k3⟩ | ⟨rfl, k3⟩
  · obtain ⟨mk, ob, k4, hr⟩ := evA_sound k3
    rw [H.newK_eq] at k4
    obtain ⟨a1, k5, hok⟩ := op_on hi hv hw hr.wp k4
    exact ⟨o, _, a1, _, hi, k5, hok⟩
  · obtain ⟨a1, k5, hok⟩ := op_off hi hw k3
    exact ⟨o, _, a1, _, hi, k5, hok⟩
theorem evT_it {i : Nat} {env : Env} {obs : List (Nat × Ob)} {a : A} {h : H} {kn : KA} {ih : RK} (hk : evIt cx call (.T i) ih env obs a h kn = true) :
    ∃ o v a1 h1, cx.ops[i]? = some o ∧ ih (push o.dst v env) obs a1 h1 kn = true ∧ OpOk cx i o env a h v a1 h1 := by
  obtain ⟨o, hi, k1⟩ := okK_true hk
  obtain ⟨vs, k2, hv⟩ := fetchL_sound k1
  obtain ⟨want, hc, hw⟩ := guard_sound k2
  rcases hc with ⟨rfl, k3⟩ | ⟨rfl, k3⟩
  · obtain ⟨v, h1, k4, hr⟩ := evT_sound k3
    obtain ⟨a1, k5, hok⟩ := op_on hi hv hw hr.wp k4
    exact ⟨o, _, a1, _, hi, k5, hok⟩
  · obtain ⟨a1, k5, hok⟩ := op_off hi hw k3
    exact ⟨o, _, a1, _, hi, k5, hok⟩
theorem evX_it (hcall : CallOk cx.P call) {i : Nat} {env : Env} {obs : List (Nat × Ob)} {a : A} {h : H} {kn : KA} {ih : RK} (hk : evIt cx call (.X i) ih env obs a h kn = true) :
    ∃ o v a1 h1, cx.ops[i]? = some o ∧ ih (push o.dst v env) obs a1 h1 kn = true ∧ OpOk cx i o env a h v a1 h1 := by
  obtain ⟨o, hi, k1⟩ := okK_true hk
  obtain ⟨vs, k2, hv⟩ := fetchL_sound k1
  obtain ⟨want, hc, hw⟩ := guard_sound k2
  rcases hc with ⟨rfl, k3⟩ | ⟨rfl, k3⟩
  · obtain ⟨v, h1, k4, hr⟩ := evX_sound hcall k3
    obtain ⟨a1, k5, hok⟩ := op_on hi hv hw hr k4
    exact ⟨o, _, a1, _, hi, k5, hok⟩
  · obtain ⟨a1, k5, hok⟩ := op_off hi hw k3
    exact ⟨o, _, a1, _, hi, k5, hok⟩
/-- a call is put off -/
theorem defer_true {x : V} {xs : List V} {a : A} {k : A → Bool} (hk : x_defer x xs a k = true) :
    ∃ f fi ca l, x = .fn f fi ca ∧ k (T.set .e (.tup (.fn f (fi ++ (xs ++ ca)) [] :: l)) a) = true ∧ (T.get .e a = some (.tup l) ∨ (T.get .e a = none ∧ l = [])) := by
  obtain ⟨f, fi, ca, rfl, k1⟩ := V.onFn_true hk
  rw [appK_eq, appK_eq, T.getK_eq] at k1
  cases hg : T.get .e a with
  | none =>
    rw [hg] at k1
    rw [T.setK_eq] at k1
    exact ⟨f, fi, ca, [], rfl, k1, .inr ⟨rfl, rfl⟩⟩
  | some v =>
    rw [hg] at k1
    obtain ⟨l, rfl, k2⟩ := V.onTup_true k1
    rw [T.setK_eq] at k2
    exact ⟨f, fi, ca, l, rfl, k2, .inl rfl⟩
theorem isDefer_true {op : Op} (h : isDefer op = true) : ∃ fo args ts, op = .defer { callee := .value fo, args := args, argTypes := ts } := by
  unfold isDefer at h
  split at h
  · exact ⟨_, _, _, rfl⟩
  · cases h
theorem evD_it {i : Nat} {env : Env} {obs : List (Nat × Ob)} {a : A} {h : H} {kn : KA} {ih : RK} (hk : evIt cx call (.D i) ih env obs a h kn = true) :
    ∃ o v a1, cx.ops[i]? = some o ∧ ih (push o.dst v env) obs a1 h kn = true ∧ OpOk cx i o env a h v a1 h := by
  obtain ⟨o, hi, k1⟩ := okK_true hk
  obtain ⟨vs, k2, hv⟩ := fetchL_sound k1
  obtain ⟨want, hc, hw⟩ := guard_sound k2
  have hi' : cx.ops.toArray[i]? = some o := by simpa using hi
  rcases hc with ⟨rfl, k3⟩ | ⟨rfl, k3⟩
  · split at k3
    · rename_i hde
      obtain ⟨fo, args, ts, hop⟩ := isDefer_true hde
      obtain ⟨x, xs, rfl, k4⟩ := vh_true k3
      obtain ⟨f, fi, ca, l, rfl, k5, hl⟩ := defer_true k4
      obtain ⟨a1, k6, _, hb⟩ := bind_sound k5
      refine ⟨o, _, a1, hi, k6, fun E act w g r he K Q hK => ?_⟩
      unfold wpOp
      simp only [hi', hw E act he, if_true]
      refine .inl ?_
      have hvs := hv E h w act g r he
      have e : o.op.operands.toList.map act.eval = act.eval fo :: args.toList.map act.eval := by simp [hop, Op.operands, Call.operands]
      rw [e] at hvs
      obtain ⟨y, z, d1, d2, d3⟩ := denL_cons.1 hvs
      obtain ⟨e1, e2⟩ := List.cons.inj d3
      subst e2
      simp only [den] at d1
      split at d1
      · rename_i p q hp hq
        injection d1 with d1
        have hfv : act.eval fo = .func (.func f.val) p.toArray q.toArray := by rw [e1, ← d1]
        have hx : (execOp act.eval o).run cx.P w = .ok (.defer { target := .fn (.func f.val) q.toArray, args := p.toArray ++ args.map act.eval }) w := by
          simp only [execOp, hop, resolve, Sem.run_bind, hfv, Deferred.ofValue, Sem.run_pure, Result.andThen_ok]
        unfold Oper.wp
        rw [hx]
        have hr : denL E (fi ++ (xs ++ ca)) = some (p ++ (args.toList.map act.eval ++ q)) := denL_append.2 ⟨_, _, hp, denL_append.2 ⟨_, _, d2, hq, rfl⟩, rfl⟩
        have r2 : Rel E cx.ks cx.nt (T.set .e (.tup (.fn f (fi ++ (xs ++ ca)) [] :: l)) a) { act with defers := { target := .fn (.func f.val) q.toArray, args := p.toArray ++ args.map act.eval } :: act.defers } := by
          refine ⟨r.size, fun t s hs => ?_, ?_⟩
          · rw [T.get_set_ne _ _ s a (slot_ne hs).symm]; exact r.val t s hs
          · rw [T.get_set]
            refine ⟨⟨q.toArray, p.toArray ++ args.map act.eval, _, rfl, hr, by apply Array.ext'; simp⟩, ?_⟩
            have := r.dfr
            rcases hl with hl | ⟨hl, rfl⟩
            · rw [hl] at this; exact this
            · rw [hl] at this; exact this
        obtain ⟨r1, e1⟩ := hb E _ undef r2 (den_undef E)
        exact hK E _ w (Step.refl g) r1 (e1 env he)
      · cases d1
    · cases k3
  · obtain ⟨a1, k5, hok⟩ := op_off (k := fun a => ih (push o.dst V.undef env) obs a h kn) hi hw k3
    exact ⟨o, _, a1, hi, k5, hok⟩
/-- a region whose order is the text's -/
theorem text_sound (hcall : CallOk cx.P call) : ∀ (rest : List Oper) (i : Nat) (env : Env) (obs : List (Nat × Ob)) (a : A) (h : H) (kn : KA), cx.ops.drop i = rest →
    evIts cx call (textOrder cx.P i rest) env obs a h kn = true →
    ∃ a' h', kn a' h' = true ∧ ∀ E act w (Q : Exit → Act → World → Prop), Good cx.P E h w → Rel E cx.ks cx.nt a act → EnvOk E env act →
      (∀ E' act' w', Step cx.P E h w E' h' w' → Rel E' cx.ks cx.nt a' act' → Q .normal act' w') → wpOps cx.P cx.ops.toArray Q (List.range' i rest.length) act w
  | [], i, env, obs, a, h, kn, _, hk => ⟨a, h, hk, fun E act w Q g r he hQ => hQ E act w (Step.refl g) r⟩
  | o :: rest, i, env, obs, a, h, kn, hd, hk => by
    have hk : evIt cx call (kindOf cx.P i o) (evIts cx call (textOrder cx.P (i + 1) rest)) env obs a h kn = true := hk
    have hrest : cx.ops.drop (i + 1) = rest := by rw [← List.drop_drop, hd]; rfl
    have fin : ∀ o' v a1 h1, evIts cx call (textOrder cx.P (i + 1) rest) (push o'.dst v env) obs a1 h1 kn = true → OpOk cx i o' env a h v a1 h1 →
        ∃ a' h', kn a' h' = true ∧ ∀ E act w (Q : Exit → Act → World → Prop), Good cx.P E h w → Rel E cx.ks cx.nt a act → EnvOk E env act →
          (∀ E' act' w', Step cx.P E h w E' h' w' → Rel E' cx.ks cx.nt a' act' → Q .normal act' w') → wpOps cx.P cx.ops.toArray Q (List.range' i (o :: rest).length) act w := by
      intro o' v a1 h1 hk1 hok
      obtain ⟨a', h', k2, hr⟩ := text_sound hcall rest (i + 1) _ obs a1 h1 kn hrest hk1
      refine ⟨a', h', k2, fun E act w Q g r he hQ => ?_⟩
      rw [List.length_cons, List.range'_succ, wpOps_cons]
      refine hok E act w g r he _ Q fun E1 act1 w1 s1 r1 e1 => ?_
      exact hr E1 act1 w1 Q s1.good r1 e1 fun E2 act2 w2 s2 r2 => hQ E2 act2 w2 (s1.trans s2) r2
    have hkind : kindOf cx.P i o = .R i ∨ kindOf cx.P i o = .A i ∨ kindOf cx.P i o = .T i ∨ kindOf cx.P i o = .X i ∨ kindOf cx.P i o = .D i := by
      unfold kindOf
      split <;> first | exact .inl rfl | exact .inr (.inl rfl) | exact .inr (.inr (.inr (.inl rfl))) | exact .inr (.inr (.inr (.inr rfl))) | (split <;> first | exact .inl rfl | exact .inr (.inr (.inl rfl)))
    rcases hkind with e | e | e | e | e <;> rw [e] at hk
    · obtain ⟨o', v, a1, _, k1, hok⟩ := evR_it hk; exact fin o' v a1 h k1 hok
    · obtain ⟨o', v, a1, h1, _, k1, hok⟩ := evA_it hk; exact fin o' v a1 h1 k1 hok
    · obtain ⟨o', v, a1, h1, _, k1, hok⟩ := evT_it hk; exact fin o' v a1 h1 k1 hok
    · obtain ⟨o', v, a1, h1, _, k1, hok⟩ := evX_it hcall hk; exact fin o' v a1 h1 k1 hok
    · obtain ⟨o', v, a1, _, k1, hok⟩ := evD_it hk; exact fin o' v a1 h k1 hok
end
end Go.Ev

/-
  The evaluator of closed calls: a part.
-/
set_option linter.unusedVariables false
set_option linter.unusedSimpArgs false
namespace Go.Ev
/-- what follows an exit, in continuations -/
def Sat (kn kr : KA) (ke : Nat → KA) : Exit → A → H → Prop
  | .normal, a, h => kn a h = true
  | .ret, a, h => kr a h = true
  | .exit i, a, h => ke i a h = true
  | _, _, _ => False
/-- how a piece of code ends -/
def PostC (P : Program) (ks : List Nat) (nt : Nat) (E : Nm) (h : H) (w : World) (ex : Exit) (a' : A) (h' : H) : Exit → Act → World → Prop := fun e act' w' =>
  e = ex ∧ ∃ E', Step P E h w E' h' w' ∧ Rel E' ks nt a' act'
def CodeOk (fx : Fx) (c : Code) (a : A) (h : H) (ex : Exit) (a' : A) (h' : H) : Prop :=
  ∀ E act w, Good fx.P E h w → Rel E fx.ks fx.nt a act → c.wp fx.P (PostC fx.P fx.ks fx.nt E h w ex a' h') act w
/-- regions that draw their order -/
def DrawOk (fx : Fx) (call : Call) : Prop := ∀ (id : Nat) (ops : Array Oper) (a : A) (h : H) (kn kr : KA) (ke : Nat → KA), evReg fx id ops true call a h kn kr ke = true →
  ∃ a' h', kn a' h' = true ∧ CodeOk fx (.region id ops true) a h .normal a' h'
section
variable {fx : Fx} {call : Call}
theorem env_nil (E : Nm) (act : Act) : EnvOk E [] act := fun t v h => by simp [find] at h
theorem reg_sound (hcall : CallOk fx.P call) {id : Nat} {ops : Array Oper} {a : A} {h : H} {kn kr : KA} {ke : Nat → KA} (hk : evReg fx id ops false call a h kn kr ke = true) :
    ∃ a' h', kn a' h' = true ∧ CodeOk fx (.region id ops false) a h .normal a' h' := by
  have hk : evIts { P := fx.P, ks := fx.ks, nt := fx.nt, ops := ops.toList } call (textOrder fx.P 0 ops.toList) [] [] a h kn = true := hk
  obtain ⟨a', h', k1, hr⟩ := text_sound (cx := { P := fx.P, ks := fx.ks, nt := fx.nt, ops := ops.toList }) hcall ops.toList 0 [] [] a h kn rfl hk
  refine ⟨a', h', k1, fun E act w g r => wp_region ?_⟩
  have := hr E act w (PostC fx.P fx.ks fx.nt E h w .normal a' h') g r (env_nil E act) (fun E' act' w' s r' => ⟨rfl, E', s, r'⟩)
  simp only [Array.toArray_toList, Array.length_toList] at this
  rw [List.range_eq_range']
  exact this
theorem PostC.trans {P : Program} {ks : List Nat} {nt : Nat} {E E₁ : Nm} {h h₁ h₂ : H} {w w₁ : World} {ex : Exit} {a₂ : A} (s : Step P E h w E₁ h₁ w₁) {e : Exit} {act : Act} {w' : World}
    (p : PostC P ks nt E₁ h₁ w₁ ex a₂ h₂ e act w') : PostC P ks nt E h w ex a₂ h₂ e act w' := by
  obtain ⟨h1, E', h2, h3⟩ := p
  exact ⟨h1, E', s.trans h2, h3⟩
theorem loop_sound {c : Code} (ih : ∀ (a : A) (h : H) (kn kr : KA) (ke : Nat → KA), evCode fx c call a h kn kr ke = true → ∃ ex a' h', Sat kn kr ke ex a' h' ∧ CodeOk fx c a h ex a' h') (kr : KA) (ke : Nat → KA) :
    ∀ (n : Nat) (a : A) (h : H), iterK (evCode fx c) call kr ke n a h = true → ∃ ex a' h', Sat (fun _ _ => false) kr ke ex a' h' ∧
      ∀ E act w, Good fx.P E h w → Rel E fx.ks fx.nt a act → ∀ (b : Frame) (k : List Item) (cs : List Frame), ∃ e act' w', PostC fx.P fx.ks fx.nt E h w ex a' h' e act' w' ∧
        Arrives fx.P (lone (b.at act (.code c :: .inLoop c :: k)) cs w) b k cs e act' w'
  | 0, a, h, hk => by cases hk
  | n + 1, a, h, hk => by
    have hk : evCode fx c call a h (iterK (evCode fx c) call kr ke n) kr ke = true := hk
    obtain ⟨ex, a1, h1, hs, hc⟩ := ih a h _ kr ke hk
    cases ex with
    | normal =>
      obtain ⟨ex2, a2, h2, hs2, hc2⟩ := loop_sound ih kr ke n a1 h1 hs
      refine ⟨ex2, a2, h2, hs2, fun E act w g r b k cs => ?_⟩
      obtain ⟨e, act1, w1, ⟨rfl, E1, s1, r1⟩, harr⟩ := hc E act w g r b (.inLoop c :: k) cs
      obtain ⟨e2, act2, w2, p2, harr2⟩ := hc2 E1 act1 w1 s1.good r1 b k cs
      exact ⟨e2, act2, w2, p2.trans s1, .of_steps (Steps.trans harr (.one step_inLoop)) harr2⟩
    | ret =>
      refine ⟨.ret, a1, h1, hs, fun E act w g r b k cs => ?_⟩
      obtain ⟨e, act1, w1, ⟨rfl, p⟩, harr⟩ := hc E act w g r b (.inLoop c :: k) cs
      exact ⟨_, act1, w1, ⟨rfl, p⟩, .pass (x := .inLoop c) rfl (fun _ _ => .inl (by simp)) harr⟩
    | exit i =>
      refine ⟨.exit i, a1, h1, hs, fun E act w g r b k cs => ?_⟩
      obtain ⟨e, act1, w1, ⟨rfl, p⟩, harr⟩ := hc E act w g r b (.inLoop c :: k) cs
      exact ⟨_, act1, w1, ⟨rfl, p⟩, .pass (x := .inLoop c) rfl (fun _ _ => .inl (by simp)) harr⟩
    | goto _ => exact hs.elim
    | panic _ => exact hs.elim
    | outgrown => exact hs.elim
theorem code_sound (hcall : CallOk fx.P call) (hdraw : DrawOk fx call) : ∀ (c : Code) (a : A) (h : H) (kn kr : KA) (ke : Nat → KA), evCode fx c call a h kn kr ke = true →
    ∃ ex a' h', Sat kn kr ke ex a' h' ∧ CodeOk fx c a h ex a' h' := by
  intro c
  induction c with
  | skip => intro a h kn kr ke hk; exact ⟨.normal, a, h, hk, fun E act w g r => wp_skip ⟨rfl, E, Step.refl g, r⟩⟩
  | label l => intro a h kn kr ke hk; exact ⟨.normal, a, h, hk, fun E act w g r => wp_label ⟨rfl, E, Step.refl g, r⟩⟩
  | exit i => intro a h kn kr ke hk; exact ⟨.exit i, a, h, hk, fun E act w g r => wp_exit ⟨rfl, E, Step.refl g, r⟩⟩
  | ret => intro a h kn kr ke hk; exact ⟨.ret, a, h, hk, fun E act w g r => wp_ret ⟨rfl, E, Step.refl g, r⟩⟩
  | region id ops draw =>
    intro a h kn kr ke hk
    cases draw with
    | false => obtain ⟨a', h', k1, hc⟩ := reg_sound (kr := kr) (ke := ke) hcall hk; exact ⟨.normal, a', h', k1, hc⟩
    | true => obtain ⟨a', h', k1, hc⟩ := hdraw id ops a h kn kr ke hk; exact ⟨.normal, a', h', k1, hc⟩
  | seq x y ihx ihy =>
    intro a h kn kr ke hk
    have hk : evCode fx x call a h (fun a h => evCode fx y call a h kn kr ke) kr ke = true := hk
    obtain ⟨ex, a1, h1, hs, hc⟩ := ihx a h _ kr ke hk
    have pass : ex ≠ .normal → Sat kn kr ke ex a1 h1 → ∃ ex a' h', Sat kn kr ke ex a' h' ∧ CodeOk fx (.seq x y) a h ex a' h' := fun hne hs =>
      ⟨ex, a1, h1, hs, fun E act w g r => wp_seq (wp_mono (hc E act w g r) fun e act' w' hp => by
        obtain ⟨rfl, p⟩ := hp
        cases e with
        | normal => exact absurd rfl hne
        | _ => exact ⟨rfl, p⟩)⟩
    cases ex with
    | normal =>
      obtain ⟨ex2, a2, h2, hs2, hc2⟩ := ihy a1 h1 kn kr ke hs
      refine ⟨ex2, a2, h2, hs2, fun E act w g r => wp_seq (wp_mono (hc E act w g r) fun e act' w' hp => ?_)⟩
      obtain ⟨rfl, E1, s1, r1⟩ := hp
      exact wp_mono (hc2 E1 act' w' s1.good r1) fun e2 act2 w2 p2 => p2.trans s1
    | ret => exact pass (by simp) hs
    | exit i => exact pass (by simp) hs
    | goto _ => exact hs.elim
    | panic _ => exact hs.elim
    | outgrown => exact hs.elim
  | cond x c d ihc ihd =>
    intro a h kn kr ke hk
    have hk : evCond fx x (evCode fx c) (evCode fx d) call a h kn kr ke = true := hk
    cases x with
    | tmp t =>
      cases hs : slot fx.ks t with
      | none => simp only [evCond, hs] at hk; cases hk
      | some s =>
        simp only [evCond, hs] at hk
        have hk : s_get s a (fun v => v.onBool (evCode fx c call a h kn kr ke) (evCode fx d call a h kn kr ke)) = true := hk
        have hg : ∃ v, (T.get s a).getD V.undef = v ∧ v.onBool (evCode fx c call a h kn kr ke) (evCode fx d call a h kn kr ke) = true := by
          rw [s_get_eq] at hk
          rw [T.getK_eq] at hk
          cases hg : T.get s a with
          | none => rw [hg] at hk; exact ⟨_, rfl, hk⟩
          | some v => rw [hg] at hk; exact ⟨v, rfl, hk⟩
        obtain ⟨v, hv, k1⟩ := hg
        have hev : ∀ E act (b : Bool), Rel E fx.ks fx.nt a act → v = .bool b → act.eval (.tmp t) = .bool b := fun E act b r hb => by
          have := r.val t s hs
          rw [hv, hb, den_bool] at this
          injection this with this
          exact this.symm
        rcases V.onBool_true k1 with ⟨hb, k2⟩ | ⟨hb, k2⟩
        · obtain ⟨ex, a', h', h1, h2⟩ := ihc a h kn kr ke k2
          exact ⟨ex, a', h', h1, fun E act w g r => wp_cond_true (hev E act true r hb) (h2 E act w g r)⟩
        · obtain ⟨ex, a', h', h1, h2⟩ := ihd a h kn kr ke k2
          exact ⟨ex, a', h', h1, fun E act w g r => wp_cond_false (hev E act false r hb) (h2 E act w g r)⟩
    | const v =>
      cases v with
      | bool b =>
        have hk : (V.bool b).onBool (evCode fx c call a h kn kr ke) (evCode fx d call a h kn kr ke) = true := hk
        rcases V.onBool_true hk with ⟨hb, k2⟩ | ⟨hb, k2⟩
        · cases hb
          obtain ⟨ex, a', h', h1, h2⟩ := ihc a h kn kr ke k2
          exact ⟨ex, a', h', h1, fun E act w g r => wp_cond_true rfl (h2 E act w g r)⟩
        · cases hb
          obtain ⟨ex, a', h', h1, h2⟩ := ihd a h kn kr ke k2
          exact ⟨ex, a', h', h1, fun E act w g r => wp_cond_false rfl (h2 E act w g r)⟩
      | _ => cases hk
    | _ => cases hk
  | block id c ih =>
    intro a h kn kr ke hk
    have hk : evCode fx c call a h kn kr (fun i => Bool.rec (ke i) kn (Nat.beq i id)) = true := hk
    obtain ⟨ex, a1, h1, hs, hc⟩ := ih a h kn kr _ hk
    cases ex with
    | normal =>
      refine ⟨.normal, a1, h1, hs, fun E act w g r => wp_block (wp_mono (hc E act w g r) fun e act' w' hp => ?_)⟩
      obtain ⟨rfl, p⟩ := hp
      exact ⟨rfl, p⟩
    | ret =>
      refine ⟨.ret, a1, h1, hs, fun E act w g r => wp_block (wp_mono (hc E act w g r) fun e act' w' hp => ?_)⟩
      obtain ⟨rfl, p⟩ := hp
      exact ⟨rfl, p⟩
    | exit i =>
      by_cases hi : i = id
      · subst hi
        have hs : (Bool.rec (ke i) kn (Nat.beq i i) : KA) a1 h1 = true := hs
        rw [Nat.beq_refl] at hs
        refine ⟨.normal, a1, h1, hs, fun E act w g r => wp_block (wp_mono (hc E act w g r) fun e act' w' hp => ?_)⟩
        obtain ⟨rfl, p⟩ := hp
        show Exit.inBlock i _ (.exit i) act' w'
        simp only [Exit.inBlock, if_true]
        exact ⟨rfl, p⟩
      · have hs : (Bool.rec (ke i) kn (Nat.beq i id) : KA) a1 h1 = true := hs
        have hb : Nat.beq i id = false := by
          cases hb : Nat.beq i id
          · rfl
          · exact absurd (Nat.eq_of_beq_eq_true hb) hi
        rw [hb] at hs
        refine ⟨.exit i, a1, h1, hs, fun E act w g r => wp_block (wp_mono (hc E act w g r) fun e act' w' hp => ?_)⟩
        obtain ⟨rfl, p⟩ := hp
        show Exit.inBlock id _ (.exit i) act' w'
        simp only [Exit.inBlock, hi, if_false]
        exact ⟨rfl, p⟩
    | goto _ => exact hs.elim
    | panic _ => exact hs.elim
    | outgrown => exact hs.elim
  | loop c ih =>
    intro a h kn kr ke hk
    obtain ⟨ex, a', h', hs, hc⟩ := loop_sound ih kr ke 2000 a h hk
    refine ⟨ex, a', h', ?_, fun E act w g r b k cs => ?_⟩
    · cases ex with
      | normal => cases hs
      | ret => exact hs
      | exit i => exact hs
      | _ => exact hs.elim
    · obtain ⟨e, act', w', hp, harr⟩ := hc E act w g r b k cs
      exact ⟨e, act', w', hp, .of_steps (.one step_loop) harr⟩
  | _ => intro a h kn kr ke hk; cases hk
end
end Go.Ev

/-
  The evaluator of closed calls: a part.
-/
set_option linter.unusedVariables false
set_option linter.unusedSimpArgs false
namespace Go.Ev
section
variable {P : Program}
/-! Results -/
def resOf (tmps : Array Value) : ResultVar → Sem Value
  | .tmp t => pure (tmps.getD t undef)
  | .cell a t => do loadVar t (← asAddr (tmps.getD a undef))
theorem results_eq (fn : Func) (tmps : Array Value) : results fn tmps = (do let vs ← fn.results.mapM (resOf tmps); pure (if h : vs.size = 1 then vs[0] else .tuple vs)) := by
  rfl
theorem resL_sound {ks : List Nat} {nt : Nat} : ∀ {rs : List ResultVar} {l : List RV} {a : A} {h : H} {k : List V → Bool}, evRess P ks rs = some l → resL l a h k = true →
    ∃ vs, k vs = true ∧ ∀ E act w, Good P E h w → Rel E ks nt a act → ∃ xs, denL E vs = some xs ∧
      (rs.mapM (m := Sem) (resOf act.tmps)).run P w = .ok xs w
  | [], l, a, h, k, hl, hk => by
    have : l = [] := by
      have hl : some [] = some l := hl
      injection hl with hl
      exact hl.symm
    subst this
    exact ⟨[], hk, fun E act w g r => ⟨[], by simp [denL], rfl⟩⟩
  | r :: rs, l, a, h, k, hl, hk => by
    have hl : (Option.rec none (fun v => Option.rec none (fun l => some (v :: l)) (evRess P ks rs)) (evRes P ks r) : Option (List RV)) = some l := hl
    cases hr : evRes P ks r with
    | none => rw [hr] at hl; cases hl
    | some v =>
      cases hrs : evRess P ks rs with
      | none => rw [hr, hrs] at hl; cases hl
      | some l' =>
        rw [hr, hrs] at hl
        have hl : some (v :: l') = some l := hl
        injection hl with hl
        subst hl
        have get : ∀ {s : N} {kk : V → Bool}, s_get s a kk = true → kk ((T.get s a).getD V.undef) = true := fun {s kk} hh => by
          rw [s_get_eq] at hh
          rw [T.getK_eq] at hh
          cases hg : T.get s a with
          | none => rw [hg] at hh; exact hh
          | some v => rw [hg] at hh; exact hh
        have one : ∀ (u : V) (q : Act → Sem Value), resL l' a h (fun r => k (u :: r)) = true →
            (∀ E act w, Good P E h w → Rel E ks nt a act → ∃ x, den E u = some x ∧ (q act).run P w = .ok x w) →
            (∀ act : Act, resOf act.tmps r = q act) →
            ∃ vs, k vs = true ∧ ∀ E act w, Good P E h w → Rel E ks nt a act → ∃ xs, denL E vs = some xs ∧
              ((r :: rs).mapM (m := Sem) (resOf act.tmps)).run P w = .ok xs w := by
          intro u q hk1 hu hq
          obtain ⟨vs, k2, hv⟩ := resL_sound (nt := nt) hrs hk1
          refine ⟨u :: vs, k2, fun E act w g rel => ?_⟩
          obtain ⟨x, d1, d2⟩ := hu E act w g rel
          obtain ⟨xs, d3, d4⟩ := hv E act w g rel
          refine ⟨x :: xs, denL_cons.2 ⟨x, xs, d1, d3, rfl⟩, ?_⟩
          rw [List.mapM_cons]
          simp only [Sem.run_bind, hq, d2, Result.andThen_ok, d4, Sem.run_pure]
        cases r with
        | tmp t =>
          have hr : (Option.rec none (fun s => some (.tmp s)) (slot ks t) : Option RV) = some v := hr
          cases hs : slot ks t with
          | none => rw [hs] at hr; cases hr
          | some s =>
            rw [hs] at hr
            have hr : some (RV.tmp s) = some v := hr
            injection hr with hr
            subst hr
            have hk : s_get s a (fun v => resL l' a h (fun r => k (v :: r))) = true := hk
            exact one _ (fun act => pure (act.tmps.getD t undef)) (get hk) (fun E act w g rel => ⟨_, rel.val t s hs, rfl⟩) (fun _ => rfl)
        | cell t u =>
          have hr : (Option.rec none (fun s => match aggO P u with | some true => Option.rec none (fun n => some (.cellA s n)) (szO P u) | some false => some (.cell1 s) | none => none) (slot ks t) : Option RV) = some v := hr
          cases hs : slot ks t with
          | none => rw [hs] at hr; cases hr
          | some s =>
            rw [hs] at hr
            have hr : (match aggO P u with | some true => (Option.rec none (fun n => some (.cellA s n)) (szO P u) : Option RV) | some false => some (.cell1 s) | none => none) = some v := hr
            cases ha : aggO P u with
            | none => rw [ha] at hr; cases hr
            | some b =>
              rw [ha] at hr
              cases b with
              | false =>
                have hr : some (RV.cell1 s) = some v := hr
                injection hr with hr
                subst hr
                have hk : s_get s a (fun p => r_load1 p h (fun v => resL l' a h (fun r => k (v :: r)))) = true := hk
                have hk1 := get hk
                obtain ⟨b', o', hv, hk2⟩ := V.onPtr_true hk1
                obtain ⟨ob, c, hg, hob, hk3⟩ := H.cellsK_true hk2
                obtain ⟨y, hy, hk4⟩ := nthK_true hk3
                refine one y (fun act => do loadVar u (← asAddr (act.tmps.getD t undef))) hk4 (fun E act w g rel => ?_) (fun _ => rfl)
                have hp := rel.val t s hs
                rw [hv] at hp
                obtain ⟨l, q1, q2⟩ := den_ptr hp
                obtain ⟨z, h8, hc⟩ := cells_stand g.stand hg hob q1 hy
                refine ⟨z, h8, ?_⟩
                simp only [Sem.run_bind, q2, asAddr, Sem.run_pure, Result.andThen_ok, loadVar, agg_run ha, Bool.false_eq_true, if_false, run_load, hc]
              | true =>
                cases hz : szO P u with
                | none => rw [hz] at hr; cases hr
                | some n =>
                  rw [hz] at hr
                  have hr : some (RV.cellA s n) = some v := hr
                  injection hr with hr
                  subst hr
                  have hk : s_get s a (fun p => r_loadA n p h (fun v => resL l' a h (fun r => k (v :: r)))) = true := hk
                  have hk1 := get hk
                  obtain ⟨b', o', hv, hk2⟩ := V.onPtr_true hk1
                  obtain ⟨e, c, tl, hg, hlen, hk3⟩ := H.loadK_true hk2
                  refine one _ (fun act => do loadVar u (← asAddr (act.tmps.getD t undef))) hk3 (fun E act w g rel => ?_) (fun _ => rfl)
                  have hp := rel.val t s hs
                  rw [hv] at hp
                  obtain ⟨l, q1, q2⟩ := den_ptr hp
                  obtain ⟨l'', h3, h0, cs, rest, h4, h5, h6, h7⟩ := g.stand b' _ hg (by simp)
                  rw [q1] at h3; cases h3
                  rw [h0, Nat.zero_add] at q2
                  have hcl := denL_length h5
                  refine ⟨_, agg_den (all_drop_take h4 o' n) (denL_take n (denL_drop o' h5)), ?_⟩
                  simp only [Sem.run_bind, q2, asAddr, Sem.run_pure, Result.andThen_ok, loadVar, agg_run ha, if_true, size_run hz, loadCells_run (P := P) h6 (show o' + n ≤ cs.length by omega)]
theorem fin_sound {ks : List Nat} {nt : Nat} {fn : Func} {res : List RV} {a : A} {h : H} {k : KH} (hr : evRess P ks fn.results.toList = some res) (hk : finK res k a h = true) :
    ∃ v, k v h = true ∧ ∀ E act w, Good P E h w → Rel E ks nt a act → ∃ x, den E v = some x ∧ (results fn act.tmps).run P w = .ok x w := by
  obtain ⟨vs, k1, hv⟩ := resL_sound (nt := nt) hr hk
  have hrun : ∀ (act : Act) (w : World) (xs : List Value), (fn.results.toList.mapM (m := Sem) (resOf act.tmps)).run P w = .ok xs w →
      (results fn act.tmps).run P w = .ok (if h : xs.toArray.size = 1 then xs.toArray[0] else .tuple xs.toArray) w := fun act w xs hm => by
    rw [results_eq]
    have e : (fn.results.mapM (m := Sem) (resOf act.tmps)) =
        Functor.map List.toArray (fn.results.toList.mapM (m := Sem) (resOf act.tmps)) := by
      rw [← List.mapM_toArray, Array.toArray_toList]
    rw [Sem.run_bind, e, Sem.run_map, hm]
    rfl
  cases vs with
  | nil =>
    refine ⟨.tup [], k1, fun E act w g r => ?_⟩
    obtain ⟨xs, d1, d2⟩ := hv E act w g r
    simp only [denL, Option.some.injEq] at d1
    subst d1
    exact ⟨.tuple #[], by simp [den, denL], by rw [hrun act w [] d2]; rfl⟩
  | cons v vs =>
    cases vs with
    | nil =>
      refine ⟨v, k1, fun E act w g r => ?_⟩
      obtain ⟨xs, d1, d2⟩ := hv E act w g r
      obtain ⟨y, z, d3, d4, rfl⟩ := denL_cons.1 d1
      simp only [denL, Option.some.injEq] at d4
      subst d4
      exact ⟨y, d3, by rw [hrun act w [y] d2]; rfl⟩
    | cons u vs =>
      refine ⟨.tup (v :: u :: vs), k1, fun E act w g r => ?_⟩
      obtain ⟨xs, d1, d2⟩ := hv E act w g r
      refine ⟨.tuple xs.toArray, by simp only [den, d1], ?_⟩
      rw [hrun act w xs d2]
      have hl := denL_length d1
      rw [dif_neg (by simp only [List.size_toArray, hl, List.length_cons]; omega)]
/-! Arguments -/
theorem argsK_true : ∀ {xs : List V} {i : N} {a : A} {k : A → Bool}, argsK xs i a k = true →
    ∃ a', k a' = true ∧ (∀ j (hj : j < xs.length), T.get (toN (i.val + j)) a' = some xs[j]) ∧ (∀ s : N, (s.val < i.val ∨ i.val + xs.length ≤ s.val) → T.get s a' = T.get s a)
  | [], i, a, k, hk => ⟨a, hk, fun j hj => absurd hj (Nat.not_lt_zero _), fun _ _ => rfl⟩
  | x :: xs, i, a, k, hk => by
    have hk : T.setK i x a (fun a => N.succK i (fun i => argsK xs i a k)) = true := hk
    rw [T.setK_eq, N.succK_eq] at hk
    obtain ⟨a', k1, h1, h2⟩ := argsK_true hk
    rw [N.val_succ] at h1 h2
    have hi : toN i.val = i := N.val_inj _ _ (toN_val _)
    refine ⟨a', k1, fun j hj => ?_, fun s hs => ?_⟩
    · cases j with
      | zero =>
        rw [Nat.add_zero, hi, h2 i (.inl (by omega)), T.get_set]
        rfl
      | succ j =>
        have := h1 j (by simpa using hj)
        rw [show i.val + (j + 1) = i.val + 1 + j by omega, this]
        rfl
    · rw [h2 s (by simp only [List.length_cons] at hs; omega), T.get_set_ne x i s a (fun e => by subst e; simp only [List.length_cons] at hs; omega)]
theorem okPar_get : ∀ {n i : Nat} {ks : List Nat}, okPar n i ks = true → ∀ j, j < n → ks[j]? = some (i + j)
  | 0, i, ks, h, j, hj => absurd hj (Nat.not_lt_zero _)
  | n + 1, i, [], h, j, hj => by cases h
  | n + 1, i, t :: ks, h, j, hj => by
    simp only [okPar, Bool.and_eq_true] at h
    cases j with
    | zero => rw [Nat.eq_of_beq_eq_true h.1]; rfl
    | succ j =>
      rw [List.getElem?_cons_succ, okPar_get h.2 j (by omega)]
      congr 1; omega
theorem slotAt_first : ∀ {ks : List Nat} {t i j : Nat}, slotAt t ks i = some j → ∀ m, m < j - i → ks[m]? ≠ some t
  | [], t, i, j, h, m, hm => by simp [slotAt] at h
  | u :: ks, t, i, j, h, m, hm => by
    simp only [slotAt] at h
    split at h
    · cases h; omega
    · rename_i hb
      have h1 := (slotAt_get h).1
      cases m with
      | zero =>
        intro e
        simp only [List.getElem?_cons_zero, Option.some.injEq] at e
        subst e
        rw [Nat.beq_refl] at hb; cases hb
      | succ m => exact slotAt_first h m (by omega)
/-- the frame at its beginning -/
theorem rel_start {E : Nm} {np nt : Nat} {ks : List Nat} {xs : List V} {ys : List Value} {a' : A} (hp : okPar np 0 ks = true) (hn : xs.length = np) (hd : denL E xs = some ys)
    (h1 : ∀ j (hj : j < xs.length), T.get (toN (1 + j)) a' = some xs[j]) (h2 : ∀ s : N, (s.val < 1 ∨ 1 + xs.length ≤ s.val) → T.get s a' = none) :
    Rel E ks nt a' { tmps := ys.toArray ++ Array.replicate (nt - ys.toArray.size) undef, defers := [] } := by
  have hyl := denL_length hd
  refine ⟨by simp only [Array.size_append, Array.size_replicate]; omega, fun t s hs => ?_, ?_⟩
  · obtain ⟨j, g1, g2, g3⟩ := slot_some hs
    have g4 := (slotAt_get g1).2
    by_cases hj : j - 1 < np
    · have g5 := okPar_get hp (j - 1) hj
      rw [g4] at g5
      have ht : t = j - 1 := by injection g5 with g5; omega
      have g6 := h1 (j - 1) (by omega)
      rw [show 1 + (j - 1) = j by omega, ← g2] at g6
      rw [g6]
      obtain ⟨y, e1, e2⟩ := denL_get hd (i := j - 1) (v := xs[j - 1]) (List.getElem?_eq_getElem (by omega))
      rw [← ht] at e2
      show den E xs[j - 1] = _
      rw [e1]
      congr 1
      have hlt := (List.getElem?_eq_some_iff.1 e2).1
      simp only [Array.getD_eq_getD_getElem?]
      rw [Array.getElem?_append_left (by simpa using hlt), List.getElem?_toArray, e2]
      rfl
    · have g6 := h2 s (.inr (by rw [g2, toN_val]; omega))
      rw [g6]
      show den E V.undef = _
      rw [den_undef]
      congr 1
      have htn : ¬ t < np := fun htn => by
        have g5 := okPar_get hp t htn
        rw [Nat.zero_add] at g5
        exact slotAt_first g1 t (by omega) g5
      simp only [Array.getD_eq_getD_getElem?]
      rw [Array.getElem?_append_right (by simp only [List.size_toArray]; omega), Array.getElem?_replicate]
      split <;> rfl
  · rw [h2 .e (.inl (by show 0 < 1; omega))]
    rfl
end
end Go.Ev

/-
  The evaluator of closed calls: a part.
-/
set_option linter.unusedVariables false
set_option linter.unusedSimpArgs false
namespace Go.Ev
section
variable {P : Program}
def DCallOk (P : Program) (call : Call) : Prop := ∀ f xs h k, call f xs h k = true → Callable P f.val ∧ ∃ v h', k v h' = true ∧
  ∀ E w xs', Good P E h w → denL E xs = some xs' → CallsD P f.val xs'.toArray .returning w (fun e u' w' => u' = .returning ∧ Back P E h w v h' e w')
theorem CallsD.mono' {f : FuncId} {args : Array Value} {u : FrameMode} {w : World} {R R' : Ending → FrameMode → World → Prop} (h : CallsD P f args u w R) (hr : ∀ e u' w', R e u' w' → R' e u' w') : CallsD P f args u w R' :=
  fun c cs hc => let ⟨e, u', w', fr, r, rest⟩ := h c cs hc; ⟨e, u', w', fr, hr _ _ _ r, rest⟩
theorem runD_sound {call : Call} (hd : DCallOk P call) {fn : Func} : ∀ {d : List V} {h : H} {k : H → Bool}, runD call d h k = true →
    ∃ h', k h' = true ∧ ∀ E w ds tmps R, Good P E h w → DfrL E d ds → (∀ E' w', Step P E h w E' h' w' → Leaves P fn tmps R [] .returning w') → Leaves P fn tmps R ds .returning w
  | [], h, k, hk => ⟨h, hk, fun E w ds tmps R g hdf hR => by
      have hdf : ds = [] := hdf
      subst hdf
      exact hR E w (Step.refl g)⟩
  | v :: d, h, k, hk => by
    have hk : v.onFn (fun f xs _ => call f xs h (fun _ h => runD call d h k)) = true := hk
    obtain ⟨f, r, c, rfl, k1⟩ := V.onFn_true hk
    obtain ⟨hcl, v, h1, k2, hrun⟩ := hd _ _ _ _ k1
    obtain ⟨h', k3, ih⟩ := runD_sound hd (fn := fn) k2
    refine ⟨h', k3, fun E w ds tmps R g hdf hR => ?_⟩
    cases c with
    | cons _ _ => cases ds <;> exact hdf.elim
    | nil =>
      cases ds with
      | nil => exact hdf.elim
      | cons dd ds =>
        obtain ⟨⟨cap, as, rs, rfl, h2, h3⟩, h4⟩ := hdf
        refine ⟨by simp, .func f.val, cap, f.val, as ++ cap, rfl, ?_, ?_⟩
        · exact callFunc_run hcl _ w
        · rw [h3]
          refine CallsD.mono' (hrun E w rs g h2) fun e u' w' he => ?_
          obtain ⟨rfl, x, E1, rfl, s1, _⟩ := he
          exact ih E1 w' ds tmps R s1.good (h4.ext s1.ext) fun E2 w2 s2 => hR E2 w2 (s1.trans s2)
theorem leave_sound {call : Call} (hd : DCallOk P call) {ks : List Nat} {nt : Nat} {fn : Func} {res : List RV} {a : A} {h : H} {k : KH} (hr : evRess P ks fn.results.toList = some res) (hk : leaveK call res k a h = true) :
    ∃ v h', k v h' = true ∧ ∀ E act w R, Good P E h w → Rel E ks nt a act → (∀ E' x w', Step P E h w E' h' w' → den E' v = some x → R (.returned x) w') → Leaves P fn act.tmps R act.defers .returning w := by
  unfold leaveK at hk
  rw [T.getK_eq] at hk
  cases hg : T.get .e a with
  | none =>
    rw [hg] at hk
    obtain ⟨v, k1, hv⟩ := fin_sound (nt := nt) hr hk
    refine ⟨v, h, k1, fun E act w R g r hR => ?_⟩
    obtain ⟨x, d1, d2⟩ := hv E act w g r
    have hdf := r.dfr
    rw [hg] at hdf
    have hdf : act.defers = [] := hdf
    rw [hdf]
    exact ⟨x, d2, hR E x w (Step.refl g) d1⟩
  | some u =>
    rw [hg] at hk
    obtain ⟨d, rfl, k1⟩ := V.onTup_true hk
    obtain ⟨h', k2, hrun⟩ := runD_sound hd (fn := fn) k1
    obtain ⟨v, k3, hv⟩ := fin_sound (nt := nt) hr k2
    refine ⟨v, h', k3, fun E act w R g r hR => ?_⟩
    have hdf := r.dfr
    rw [hg] at hdf
    refine hrun E w act.defers act.tmps R g hdf fun E' w' s => ?_
    obtain ⟨x, d1, d2⟩ := hv E' act w' s.good (r.ext s.ext)
    exact ⟨x, d2, hR E' x w' s d1⟩
theorem leave0_sound {ks : List Nat} {nt : Nat} {fn : Func} {res : List RV} {a : A} {h : H} {k : KH} (hr : evRess P ks fn.results.toList = some res) (hk : leaveK0 res k a h = true) :
    ∃ v, k v h = true ∧ ∀ E act w, Good P E h w → Rel E ks nt a act → act.defers = [] ∧ ∃ x, den E v = some x ∧ (results fn act.tmps).run P w = .ok x w := by
  unfold leaveK0 at hk
  rw [T.getK_eq] at hk
  cases hg : T.get .e a with
  | some u => rw [hg] at hk; cases hk
  | none =>
    rw [hg] at hk
    obtain ⟨v, k1, hv⟩ := fin_sound (nt := nt) hr hk
    refine ⟨v, k1, fun E act w g r => ⟨?_, hv E act w g r⟩⟩
    have hdf := r.dfr
    rw [hg] at hdf
    exact hdf
theorem enter_sound {fx : Fx} {call : Call} (hcall : CallOk fx.P call) (hdraw : DrawOk fx call) {c : Code} {xs : List V} {h : H} {np : Nat} {kl : KA} (hp : okPar np 0 fx.ks = true) (hk : enterK call xs h np (evCode fx c) kl = true) :
    ∃ ex a' h', (ex = .normal ∨ ex = .ret) ∧ kl a' h' = true ∧ ∀ E w ys, Good fx.P E h w → denL E xs = some ys →
      c.wp fx.P (PostC fx.P fx.ks fx.nt E h w ex a' h') { tmps := ys.toArray ++ Array.replicate (fx.nt - ys.toArray.size) undef, defers := [] } w := by
  unfold enterK at hk
  rw [lenK_eq] at hk
  obtain ⟨hn, k1⟩ := condK_true hk
  have hn := Nat.eq_of_beq_eq_true hn
  obtain ⟨a0, k2, h1, h2⟩ := argsK_true k1
  obtain ⟨ex, a', h', hs, hc⟩ := code_sound hcall hdraw c a0 h kl kl noK k2
  have start : ∀ E ys, denL E xs = some ys → Rel E fx.ks fx.nt a0 { tmps := ys.toArray ++ Array.replicate (fx.nt - ys.toArray.size) undef, defers := [] } := fun E ys hd =>
    rel_start hp hn hd h1 (fun s hs => by rw [h2 s hs]; exact T.get_l s)
  have fin : (ex = .normal ∨ ex = .ret) → kl a' h' = true → _ := fun he hkl => (⟨ex, a', h', he, hkl, fun E w ys g hd => hc E _ w g (start E ys hd)⟩ :
    ∃ ex a' h', (ex = .normal ∨ ex = .ret) ∧ kl a' h' = true ∧ ∀ E w ys, Good fx.P E h w → denL E xs = some ys →
      c.wp fx.P (PostC fx.P fx.ks fx.nt E h w ex a' h') { tmps := ys.toArray ++ Array.replicate (fx.nt - ys.toArray.size) undef, defers := [] } w)
  cases ex with
  | normal => exact fin (.inl rfl) hs
  | ret => exact fin (.inr rfl) hs
  | exit i => cases hs
  | goto _ => exact hs.elim
  | panic _ => exact hs.elim
  | outgrown => exact hs.elim
theorem evFn_some {fn : Func} {np : Nat} {ks : List Nat} {sch : List (Nat × List Dr)} {np' : Nat} {res : List RV} {body : CK} (h : evFn P fn np ks sch = some (.mk np' res body)) :
    np' = np ∧ okPar np 0 ks = true ∧ ∃ c, fn.body = some c ∧ evRess P ks fn.results.toList = some res ∧ body = evCode { P := P, ks := ks, nt := fn.ntmps, sch := sch } c := by
  unfold evFn at h
  split at h
  · rename_i hp
    cases hb : fn.body with
    | none => rw [hb] at h; cases h
    | some c =>
      rw [hb] at h
      cases hr : evRess P ks fn.results.toList with
      | none => rw [hr] at h; cases h
      | some r =>
        rw [hr] at h
        have h : some (F.mk np r (evCode { P := P, ks := ks, nt := fn.ntmps, sch := sch } c)) = some (.mk np' res body) := h
        injection h with h
        injection h with h1 h2 h3
        subst h1; subst h2; subst h3
        exact ⟨rfl, hp, c, rfl, rfl, rfl⟩
  · cases h
/-- a function of which it is known what it answers -/
def KnownOk (P : Program) (f : Nat) (g : List V → H → KH → Bool) : Prop := ∀ xs h k, g xs h k = true → ∃ v h', k v h' = true ∧
  ∀ E w xs', Good P E h w → denL E xs = some xs' → Calls P f xs'.toArray w (Back P E h w v h')
def EntryOk (P : Program) (f : Nat) : F → Prop
  | .mk np res body => ∃ fn ks sch, P.funcs[f]? = some fn ∧ evFn P fn np ks sch = some (.mk np res body)
  | .known g => KnownOk P f g
def TabOk (P : Program) (tab : T F) : Prop := ∀ f F, T.get f tab = some F → Callable P f.val ∧ EntryOk P f.val F
theorem callD_sound {tab : T F} {call : Call} (ht : TabOk P tab) (hcall : CallOk P call) (hdraw : ∀ fx : Fx, fx.P = P → DrawOk fx call) : DCallOk P (callD tab call) := by
  intro f xs h k hk
  unfold callD at hk
  rw [T.getK_eq] at hk
  cases hg : T.get f tab with
  | none => rw [hg] at hk; cases hk
  | some F =>
    rw [hg] at hk
    obtain ⟨hcl, he⟩ := ht f F hg
    refine ⟨hcl, ?_⟩
    cases F with
    | known g => cases hk
    | mk np res body =>
      obtain ⟨fn, ks, sch, h1, h2⟩ := he
      obtain ⟨_, hp, c, h3, h4, h5⟩ := evFn_some h2
      subst h5
      obtain ⟨ex, a', h', hex, hkl, hc⟩ := enter_sound (fx := { P := P, ks := ks, nt := fn.ntmps, sch := sch }) hcall (hdraw _ rfl) hp hk
      obtain ⟨v, k1, hv⟩ := leave0_sound (nt := fn.ntmps) h4 hkl
      refine ⟨v, h', k1, fun E w ys g hd => callsD_of_wp h1 h3 (wp_mono (hc E w ys g hd) fun e act' w' hpost => ?_)⟩
      obtain ⟨rfl, E', s, r⟩ := hpost
      obtain ⟨hdf, x, d1, d2⟩ := hv E' act' w' s.good r
      rcases hex with rfl | rfl
      · exact ⟨hdf, x, d2, x, E', rfl, s, d1⟩
      · exact ⟨hdf, x, d2, x, E', rfl, s, d1⟩
theorem evF_sound {tab : T F} (ht : TabOk P tab) (hdraw : ∀ (call : Call), CallOk P call → ∀ fx : Fx, fx.P = P → DrawOk fx call) : ∀ n, CallOk P (evF tab n)
  | 0 => fun f xs h k hk => by cases hk
  | n + 1 => by
    intro f xs h k hk
    have ih := evF_sound ht hdraw n
    have hk : T.getK f tab (fun fn => F.rec (fun np res body => enterK (evF tab n) xs h np body (leaveK (callD tab (evF tab n)) res k)) (fun f => f xs h k) fn) false = true := hk
    rw [T.getK_eq] at hk
    cases hg : T.get f tab with
    | none => rw [hg] at hk; cases hk
    | some F =>
      rw [hg] at hk
      obtain ⟨hcl, he⟩ := ht f F hg
      refine ⟨hcl, ?_⟩
      cases F with
      | known g =>
        exact he xs h k hk
      | mk np res body =>
        obtain ⟨fn, ks, sch, h1, h2⟩ := he
        obtain ⟨_, hp, c, h3, h4, h5⟩ := evFn_some h2
        subst h5
        obtain ⟨ex, a', h', hex, hkl, hc⟩ := enter_sound (fx := { P := P, ks := ks, nt := fn.ntmps, sch := sch }) ih (hdraw _ ih _ rfl) hp hk
        obtain ⟨v, h2, k1, hv⟩ := leave_sound (callD_sound ht ih (fun fx hfx => hdraw _ ih fx hfx)) (nt := fn.ntmps) h4 hkl
        refine ⟨v, h2, k1, fun E w ys g hd => calls_of_wp_defers h1 h3 (wp_mono (hc E w ys g hd) fun e act' w' hpost => ?_)⟩
        obtain ⟨rfl, E', s, r⟩ := hpost
        have hl := hv E' act' w' (Back P E h w v h2) s.good r fun E2 x w2 s2 d => ⟨x, E2, rfl, s.trans s2, d⟩
        rcases hex with rfl | rfl
        · exact hl
        · exact hl
end
end Go.Ev

/-
  The evaluator of closed calls: a part.
-/
set_option linter.unusedVariables false
set_option linter.unusedSimpArgs false
namespace Go.Ev
theorem has_mem {l : List Nat} {i : Nat} : has l i = true ↔ i ∈ l := by
  unfold has
  rw [List.any_eq_true]
  constructor
  · rintro ⟨x, h1, h2⟩; rw [Nat.eq_of_beq_eq_true h2]; exact h1
  · intro h; exact ⟨i, h, Nat.beq_refl i⟩
/-- a set of operations with all that stands before them -/
def Closed (ops : List Oper) (R : Nat → Prop) : Prop := ∀ i o, ops[i]? = some o → R i → ∀ j ∈ edges o, R j
theorem befs_ready {ops : List Oper} {R : Nat → Prop} (hR : Closed ops R) : ∀ (l : List Oper) (acc : List (List Nat)), ops.drop acc.length = l →
    (∀ (i : Nat) (b : List Nat), acc[i]? = some b → ∀ o, ops[i]? = some o → (∀ j ∈ edges o, R j) → ∀ j ∈ b, R j) →
    ∀ (i : Nat) (b : List Nat), (befs l acc)[i]? = some b → ∀ o, ops[i]? = some o → (∀ j ∈ edges o, R j) → ∀ j ∈ b, R j
  | [], acc, hd, h => h
  | o :: l, acc, hd, h => by
    refine befs_ready hR l (acc ++ [befOne acc o]) ?_ ?_
    · rw [List.length_append, List.length_singleton, ← List.drop_drop, hd]; rfl
    · intro i b hb o' ho' he j hj
      rcases Nat.lt_or_ge i acc.length with hlt | hge
      · rw [List.getElem?_append_left hlt] at hb
        exact h i b hb o' ho' he j hj
      · rw [List.getElem?_append_right hge] at hb
        have hi : i = acc.length := by
          rcases Nat.eq_or_lt_of_le hge with e | e
          · exact e.symm
          · rw [List.getElem?_eq_none (by simp only [List.length_singleton]; omega)] at hb; cases hb
        subst hi
        rw [Nat.sub_self] at hb
        have hb : b = befOne acc o := by simpa using hb.symm
        subst hb
        have ho : o' = o := by
          have h1 : (ops.drop acc.length)[0]? = some o := by rw [hd]; rfl
          rw [List.getElem?_drop, Nat.add_zero, ho'] at h1
          injection h1
        subst ho
        unfold befOne at hj
        rw [List.mem_eraseDups, List.mem_flatMap] at hj
        obtain ⟨q, h1, h2⟩ := hj
        have hq := he q h1
        cases h2 with
        | head => exact hq
        | tail _ h2 =>
          cases hg : acc[q]? with
          | none => rw [hg] at h2; cases h2
          | some b' =>
            rw [hg] at h2
            cases hoq : ops[q]? with
            | none =>
              have h3 : ops.length ≤ q := by
                rcases Nat.lt_or_ge q ops.length with h | h
                · rw [List.getElem?_eq_getElem h] at hoq; cases hoq
                · exact h
              have h4 := (List.getElem?_eq_some_iff.1 hg).1
              have h5 := (List.getElem?_eq_some_iff.1 ho').1
              omega
            | some oq => exact h q b' hg oq hoq (hR q oq hoq hq) j h2
/-- if all that an operation's edges name is there, so is all that stands before it -/
theorem bef_ready {ops : List Oper} {R : Nat → Prop} (hR : Closed ops R) {i : Nat} {o : Oper} (ho : ops[i]? = some o) (he : ∀ j ∈ edges o, R j) : ∀ j ∈ bOf (befs ops []) i, R j := by
  intro j hj
  unfold bOf at hj
  cases hb : (befs ops [])[i]? with
  | none => rw [hb] at hj; cases hj
  | some b => rw [hb] at hj; exact befs_ready hR ops [] rfl (fun i b h => by simp at h) i b hb o ho he j hj
theorem bef_closed {ops : List Oper} {R : Nat → Prop} (hR : Closed ops R) {i : Nat} {o : Oper} (ho : ops[i]? = some o) (hi : R i) : ∀ j ∈ bOf (befs ops []) i, R j :=
  bef_ready hR ho (hR i o ho hi)
theorem backOk_get : ∀ {l : List Oper} {k i : Nat} {o : Oper}, backOk k l = true → l[i]? = some o → ∀ j ∈ edges o, j < k + i
  | [], k, i, o, h, ho, j, hj => by simp at ho
  | p :: l, k, i, o, h, ho, j, hj => by
    simp only [backOk, Bool.and_eq_true] at h
    cases i with
    | zero =>
      simp only [List.getElem?_cons_zero, Option.some.injEq] at ho
      subst ho
      have := List.all_eq_true.1 h.1 j hj
      rw [Nat.blt_eq] at this
      omega
    | succ i =>
      have := backOk_get h.2 (by simpa using ho) j hj
      omega
theorem onceOk_get : ∀ {l : List Oper} {i j d : Nat}, onceOk l = true → dstOf l i = some d → dstOf l j = some d → i = j
  | [], i, j, d, h, hi, hj => by simp [dstOf] at hi
  | o :: l, i, j, d, h, hi, hj => by
    simp only [onceOk, Bool.and_eq_true] at h
    have later : ∀ m, o.dst = some d → dstOf l m ≠ some d := fun m h0 hm => by
      have h1 := h.1
      rw [h0] at h1
      simp only [dstOf] at hm
      cases ho : l[m]? with
      | none => rw [ho] at hm; cases hm
      | some p =>
        rw [ho] at hm
        have hm : p.dst = some d := hm
        have := List.all_eq_true.1 h1 p (List.mem_of_getElem? ho)
        rw [hm] at this
        simp only [Nat.beq_refl] at this
        cases this
    cases i with
    | zero =>
      cases j with
      | zero => rfl
      | succ j => exact absurd hj (later j hi)
    | succ i =>
      cases j with
      | zero => exact absurd hi (later i hj)
      | succ j => rw [onceOk_get h.2 (i := i) (j := j) (d := d) hi hj]
theorem sames_true : ∀ {l m : List V} {k : Bool}, (∀ x ∈ l, ∀ y k, same1 x y k = true → x = y ∧ k = true) → sames l m k = true → l = m ∧ k = true
  | [], [], k, _, h => ⟨rfl, h⟩
  | [], _ :: _, k, _, h => Bool.noConfusion h
  | _ :: _, [], k, _, h => Bool.noConfusion h
  | x :: l, y :: m, k, hs, h => by
    have h : same1 x y (sames l m k) = true := h
    obtain ⟨e, h1⟩ := hs x (by simp) y _ h
    obtain ⟨e2, h2⟩ := sames_true (fun z hz => hs z (by simp [hz])) h1
    exact ⟨by rw [e, e2], h2⟩
theorem bytes_of_same {a b : ByteArray} (h : sameStr a b = true) : a = b := by
  have h1 : a.data.toList = b.data.toList := eq_of_beq h
  cases a; cases b
  simp only [ByteArray.mk.injEq]
  exact Array.toList_inj.1 h1
theorem same1_true {x y : V} {k : Bool} (h : same1 x y k = true) : x = y ∧ k = true := by
  cases x <;> first | exact Bool.noConfusion h | skip
  · obtain ⟨j, b, rfl, h⟩ := V.onInt_true h
    obtain ⟨h1, h⟩ := condK_true h
    obtain ⟨h2, h⟩ := condK_true h
    rw [same_kind h1, Nat.eq_of_beq_eq_true h2]; exact ⟨rfl, h⟩
  · rename_i a
    have h : y.onBool (condK a false k) (condK a k false) = true := h
    rcases V.onBool_true h with ⟨rfl, h⟩ | ⟨rfl, h⟩
    · obtain ⟨rfl, h⟩ := condK_true h; exact ⟨rfl, h⟩
    · cases a
      · exact ⟨rfl, h⟩
      · cases h
  · obtain ⟨s, rfl, h⟩ := V.onStr_true h
    obtain ⟨h1, h⟩ := condK_true h
    rw [bytes_of_same h1]; exact ⟨rfl, h⟩
  · obtain ⟨b, o, rfl, h⟩ := V.onPtr_true h
    obtain ⟨h1, h⟩ := condK_true h
    obtain ⟨h2, h⟩ := condK_true h
    rw [Nat.eq_of_beq_eq_true h1, N.beq_eq _ _ h2]; exact ⟨rfl, h⟩
  · cases y <;> first | exact Bool.noConfusion h | exact ⟨rfl, h⟩
  · cases y <;> first | exact Bool.noConfusion h | skip
    rename_i c1 _ _ _ c2
    obtain ⟨h1, q1⟩ := condK_true h
    obtain ⟨h2, q2⟩ := condK_true q1
    obtain ⟨h3, q3⟩ := condK_true q2
    have e1 := N.beq_eq _ _ h1
    have e2 := Nat.eq_of_beq_eq_true h2
    have e3 := Nat.eq_of_beq_eq_true h3
    rw [e1, e2, e3]
    cases c1 <;> cases c2 <;> first | exact Bool.noConfusion q3 | (obtain ⟨h4, q4⟩ := condK_true q3; rw [Nat.eq_of_beq_eq_true h4]; exact ⟨rfl, q4⟩)
  · cases y <;> first | exact Bool.noConfusion h | exact ⟨rfl, h⟩
  · cases y <;> first | exact Bool.noConfusion h | skip
    obtain ⟨h1, h⟩ := condK_true h
    rw [N.beq_eq _ _ h1]; exact ⟨rfl, h⟩
  · cases y <;> first | exact Bool.noConfusion h | skip
    obtain ⟨h1, h⟩ := condK_true h
    rw [N.beq_eq _ _ h1]; exact ⟨rfl, h⟩
  · cases y <;> first | exact Bool.noConfusion h | exact ⟨rfl, h⟩
  · cases y <;> first | exact Bool.noConfusion h | exact ⟨rfl, h⟩
  · cases y <;> first | exact Bool.noConfusion h | exact ⟨rfl, h⟩
  · rename_i l
    obtain ⟨m, rfl, h⟩ := V.onTup_true h
    cases l with
    | nil => cases m with
      | nil => exact ⟨rfl, h⟩
      | cons _ _ => exact Bool.noConfusion h
    | cons _ _ => exact Bool.noConfusion h
  · cases y <;> first | exact Bool.noConfusion h | skip
    obtain ⟨h1, h⟩ := condK_true h
    rw [N.beq_eq _ _ h1]; exact ⟨rfl, h⟩
theorem sameK_true {x y : V} {k : Bool} (h : sameK x y k = true) : x = y ∧ k = true := by
  cases x <;> first | exact same1_true h | skip
  · rename_i t v
    cases y <;> first | exact Bool.noConfusion h | skip
    obtain ⟨h1, h⟩ := condK_true h
    obtain ⟨h2, h⟩ := same1_true h
    rw [Nat.eq_of_beq_eq_true h1, h2]; exact ⟨rfl, h⟩
  · obtain ⟨m, rfl, h⟩ := V.onAgg_true h
    obtain ⟨e, h⟩ := sames_true (fun x _ y k hh => same1_true hh) h
    rw [e]; exact ⟨rfl, h⟩
end Go.Ev

/-
  The evaluator of closed calls: a part.
-/
set_option linter.unusedVariables false
set_option linter.unusedSimpArgs false
namespace Go.Ev
theorem bind_eq {cx : Cx} {dst : Option Nat} {v : V} {a : A} {k : A → Bool} (hk : bindK cx dst v a k = true) :
    (dst = none ∧ k a = true) ∨ ∃ t, dst = some t ∧ t < cx.nt ∧ ((slot cx.ks t = none ∧ k a = true) ∨ ∃ s, slot cx.ks t = some s ∧ k (T.set s v a) = true) := by
  unfold bindK at hk
  split at hk
  · exact .inl ⟨rfl, hk⟩
  · rename_i t
    split at hk
    · rename_i ht
      have ht : t < cx.nt := by rw [Nat.blt_eq] at ht; exact ht
      split at hk
      · rename_i s hs
        unfold s_set at hk
        rw [T.setK_eq] at hk
        exact .inr ⟨t, rfl, ht, .inr ⟨s, hs, hk⟩⟩
      · rename_i hs; exact .inr ⟨t, rfl, ht, .inl ⟨hs, hk⟩⟩
    · cases hk
/-- what has been told, in the evaluator's own tables -/
structure Can (cx : Cx) (a0 : A) (Cv : List (Nat × V)) (env : Env) (a : A) : Prop where
  env1 : ∀ t v, find t env = some v → ∃ i, (i, v) ∈ Cv ∧ dstOf cx.ops i = some t
  env2 : ∀ i v t, (i, v) ∈ Cv → dstOf cx.ops i = some t → find t env = some v
  tab1 : ∀ t s, slot cx.ks t = some s → (∀ i v, (i, v) ∈ Cv → dstOf cx.ops i ≠ some t) → T.get s a = T.get s a0
  tab2 : ∀ i v t s, (i, v) ∈ Cv → dstOf cx.ops i = some t → slot cx.ks t = some s → T.get s a = some v
  dfr : T.get .e a = T.get .e a0
  dlt : ∀ i v t, (i, v) ∈ Cv → dstOf cx.ops i = some t → t < cx.nt
theorem Can.push {cx : Cx} {a0 : A} {Cv : List (Nat × V)} {env : Env} {a : A} (c : Can cx a0 Cv env a) (honce : onceOk cx.ops = true) {i : Nat} {o : Oper} {v : V} {k : A → Bool}
    (hi : cx.ops[i]? = some o) (hn : ∀ u, (i, u) ∉ Cv) (hk : bindK cx o.dst v a k = true) : ∃ a', k a' = true ∧ Can cx a0 ((i, v) :: Cv) (push o.dst v env) a' := by
  have hd : dstOf cx.ops i = o.dst := by simp [dstOf, hi]
  have once : ∀ j u t, (j, u) ∈ Cv → dstOf cx.ops j = some t → o.dst ≠ some t := fun j u t hj hjt e => by
    have := onceOk_get honce hjt (hd.trans e)
    subst this
    exact hn u hj
  rcases bind_eq hk with ⟨hd0, k1⟩ | ⟨t, hd0, hlt, hk1⟩
  · refine ⟨a, k1, ?_⟩
    rw [hd0] at hd ⊢
    refine ⟨fun t u h => ?_, fun j u t h ht => ?_, fun t s hs h => c.tab1 t s hs fun j u hj => h j u (by simp [hj]), fun j u t s h ht hs => ?_, c.dfr, fun j u t h ht => ?_⟩
    · obtain ⟨j, h1, h2⟩ := c.env1 t u h; exact ⟨j, by simp [h1], h2⟩
    · rcases List.mem_cons.1 h with h | h
      · cases h; rw [hd] at ht; cases ht
      · exact c.env2 j u t h ht
    · rcases List.mem_cons.1 h with h | h
      · cases h; rw [hd] at ht; cases ht
      · exact c.tab2 j u t s h ht hs
    · rcases List.mem_cons.1 h with h | h
      · cases h; rw [hd] at ht; cases ht
      · exact c.dlt j u t h ht
  · have base : ∀ a', (∀ s, slot cx.ks t = some s → T.get s a' = some v) → (∀ u s, u ≠ t → slot cx.ks u = some s → T.get s a' = T.get s a) → T.get .e a' = T.get .e a →
        Can cx a0 ((i, v) :: Cv) (Ev.push o.dst v env) a' := by
      intro a' g1 g2 g3
      rw [hd0] at hd once ⊢
      refine ⟨fun u x h => ?_, fun j x u h hu => ?_, fun u s hs h => ?_, fun j x u s h hu hs => ?_, g3.trans c.dfr, fun j x u h hu => ?_⟩
      · rcases find_push h with ⟨h1, rfl⟩ | ⟨h1, h2⟩
        · cases h1; exact ⟨i, by simp, hd⟩
        · obtain ⟨j, h3, h4⟩ := c.env1 u x h2; exact ⟨j, by simp [h3], h4⟩
      · rcases List.mem_cons.1 h with h | h
        · cases h; rw [hd] at hu; cases hu
          simp [Ev.push, find, Nat.beq_refl]
        · have hne := once j x u h hu
          have : Nat.beq u t = false := by
            cases hb : Nat.beq u t
            · rfl
            · exact absurd (by rw [Nat.eq_of_beq_eq_true hb]) hne
          simp only [Ev.push, find, this]
          exact c.env2 j x u h hu
      · have hut : u ≠ t := fun e => h i v (by simp) (by rw [hd, e])
        rw [g2 u s hut hs]
        exact c.tab1 u s hs fun j x hj => h j x (by simp [hj])
      · rcases List.mem_cons.1 h with h | h
        · cases h; rw [hd] at hu; cases hu; exact g1 s hs
        · have hne := once j x u h hu
          rw [g2 u s (fun e => hne (by rw [e])) hs]
          exact c.tab2 j x u s h hu hs
      · rcases List.mem_cons.1 h with h | h
        · cases h; rw [hd] at hu; cases hu; exact hlt
        · exact c.dlt j x u h hu
    rcases hk1 with ⟨hs, k1⟩ | ⟨s, hs, k1⟩
    · exact ⟨a, k1, base a (fun s' h => by rw [hs] at h; cases h) (fun _ _ _ _ => rfl) rfl⟩
    · refine ⟨_, k1, base _ (fun s' h => ?_) (fun u s' hu h => ?_) (T.get_set_ne v s .e a (slot_ne hs))⟩
      · rw [hs] at h; cases h; exact T.get_set v s a
      · exact T.get_set_ne v s s' a (fun e => hu (slot_inj h (e ▸ hs)))
/-- the temporaries of a frame, when the operations of R have been done -/
structure RT (cx : Cx) (act0 : Act) (R : Nat → Prop) (E : Nm) (Cv : List (Nat × V)) (act : Act) : Prop where
  t1 : ∀ i v t, (i, v) ∈ Cv → R i → dstOf cx.ops i = some t → den E v = some (act.tmps.getD t undef)
  t0 : ∀ t, (∀ i, R i → dstOf cx.ops i ≠ some t) → act.tmps.getD t undef = act0.tmps.getD t undef
  sz : act.tmps.size = act0.tmps.size
  df : act.defers = act0.defers
/-- operation i is the next one -/
structure Nxt (cx : Cx) (E0 : Nm) (act0 : Act) (i : Nat) (E : Nm) (R : Nat → Prop) (act : Act) (Cv : List (Nat × V)) : Prop where
  ext : Ext E0 E
  rt : RT cx act0 R E Cv act
  closed : Closed cx.ops R
  bef : ∀ j ∈ bOf (befs cx.ops []) i, R j
  not : ¬ R i
/-- the names and the frame at a region's beginning -/
structure Base (cx : Cx) (a0 : A) (E0 : Nm) (act0 : Act) : Prop where
  glob : ∀ g, g < cx.P.globals.size → ∃ l, E0 (toN g) = some l ∧ l.bl = g ∧ l.of = 0
  rel : Rel E0 cx.ks cx.nt a0 act0
section
variable {cx : Cx} {a0 : A}
theorem opd_one {Cv : List (Nat × V)} {env : Env} {a : A} (c : Can cx a0 Cv env a) {i : Nat} {C : List Nat} (hC : ∀ j, j ∈ C ↔ ∃ v, (j, v) ∈ Cv)
    (hB : ∀ j ∈ bOf (befs cx.ops []) i, j ∈ C) {x : Operand} (ht : ∀ t, x = .tmp t → tmpOk cx.ops (befs cx.ops []) i C t = true) {k : KV} (hk : fetch cx env x a k = true) :
    ∃ v, k v = true ∧ ∀ E0 act0, Base cx a0 E0 act0 → ∀ E R act Cv', (∀ p ∈ Cv, p ∈ Cv') → Nxt cx E0 act0 i E R act Cv' → den E v = some (act.eval x) := by
  cases x with
  | const v =>
    have hk : okK (cV 3000 v) k = true := hk
    obtain ⟨v, hv, hk⟩ := okK_true hk
    exact ⟨v, hk, fun E0 act0 b0 E R act Cv' _ _ => cV_den 3000 _ v hv E⟩
  | func f =>
    refine ⟨_, hk, fun E0 act0 b0 E R act Cv' _ _ => ?_⟩
    simp [den, denL, Act.eval, toN_val]
  | global g =>
    simp only [fetch] at hk
    split at hk
    · rename_i hg
      refine ⟨_, hk, fun E0 act0 b0 E R act Cv' _ n => ?_⟩
      have hlt : g < cx.P.globals.size := by rw [Nat.blt_eq] at hg; exact hg
      obtain ⟨l, h1, h2⟩ := b0.glob g hlt
      simp only [den, n.ext _ _ h1, h2]
      rfl
    · cases hk
  | tmp t =>
    have htm := ht t rfl
    have wr : ∀ j, dstOf cx.ops j = some t → j ∈ bOf (befs cx.ops []) i ∨ (i ∈ bOf (befs cx.ops []) j ∧ j ∉ C) := fun j hj => by
      have hlt : j < cx.ops.length := by
        simp only [dstOf] at hj
        cases ho : cx.ops[j]? with
        | none => rw [ho] at hj; cases hj
        | some o => exact (List.getElem?_eq_some_iff.1 ho).1
      have := List.all_eq_true.1 htm j (List.mem_range.2 hlt)
      rw [hj] at this
      simp only [Nat.beq_refl, Bool.not_true, Bool.false_or, Bool.or_eq_true, Bool.and_eq_true, Bool.not_eq_true'] at this
      rcases this with h | ⟨h, h'⟩
      · exact .inl (has_mem.1 h)
      · exact .inr ⟨has_mem.1 h, fun hm => by rw [has_mem.2 hm] at h'; cases h'⟩
    simp only [fetch] at hk
    cases hf : find t env with
    | some v =>
      rw [hf] at hk
      refine ⟨v, hk, fun E0 act0 b0 E R act Cv' hsub n => ?_⟩
      obtain ⟨j, hj, hjt⟩ := c.env1 t v hf
      rcases wr j hjt with h | ⟨_, h⟩
      · exact n.rt.t1 j v t (hsub _ hj) (n.bef j h) hjt
      · exact absurd ((hC j).2 ⟨v, hj⟩) h
    | none =>
      rw [hf] at hk
      obtain ⟨s, hs, hk⟩ := okK_true hk
      rw [s_get_eq] at hk
      rw [T.getK_eq] at hk
      have hv : ∃ v, k v = true ∧ (T.get s a).getD V.undef = v := by
        cases hg : T.get s a with
        | none => rw [hg] at hk; exact ⟨_, hk, rfl⟩
        | some v => rw [hg] at hk; exact ⟨v, hk, rfl⟩
      obtain ⟨v, h1, h2⟩ := hv
      have nod : ∀ j u, (j, u) ∈ Cv → dstOf cx.ops j ≠ some t := fun j u hj hjt => by
        rw [c.env2 j u t hj hjt] at hf; cases hf
      refine ⟨v, h1, fun E0 act0 b0 E R act Cv' hsub n => ?_⟩
      have e1 : den E v = some (act0.tmps.getD t undef) := by
        rw [← h2, c.tab1 t s hs nod]
        exact den_ext n.ext _ _ (b0.rel.val t s hs)
      rw [e1]
      congr 1
      refine (n.rt.t0 t fun j hj hjt => ?_).symm
      rcases wr j hjt with h | ⟨h, _⟩
      · obtain ⟨u, hu⟩ := (hC j).1 (hB j h)
        exact nod j u hu hjt
      · have hjo : ∃ o, cx.ops[j]? = some o := by
          simp only [dstOf] at hjt
          cases ho : cx.ops[j]? with
          | none => rw [ho] at hjt; cases hjt
          | some o => exact ⟨o, rfl⟩
        obtain ⟨o, ho⟩ := hjo
        exact n.not (bef_closed n.closed ho hj i h)
theorem opd_list {Cv : List (Nat × V)} {env : Env} {a : A} (c : Can cx a0 Cv env a) {i : Nat} {C : List Nat} (hC : ∀ j, j ∈ C ↔ ∃ v, (j, v) ∈ Cv)
    (hB : ∀ j ∈ bOf (befs cx.ops []) i, j ∈ C) : ∀ {l : List Operand} (_ : ∀ t, .tmp t ∈ l → tmpOk cx.ops (befs cx.ops []) i C t = true) {k : List V → Bool}, fetchL cx env l a k = true →
    ∃ vs, k vs = true ∧ ∀ E0 act0, Base cx a0 E0 act0 → ∀ E R act Cv', (∀ p ∈ Cv, p ∈ Cv') → Nxt cx E0 act0 i E R act Cv' → denL E vs = some (l.map act.eval)
  | [], _, k, hk => ⟨[], hk, fun E0 act0 b0 E R act Cv' _ _ => by simp [denL]⟩
  | x :: l, ht, k, hk => by
    obtain ⟨v, h1, h2⟩ := opd_one c hC hB (fun t e => ht t (by simp [e])) (k := fun v => fetchL cx env l a (fun r => k (v :: r))) hk
    obtain ⟨vs, h3, h4⟩ := opd_list c hC hB (fun t h => ht t (by simp [h])) h1
    exact ⟨v :: vs, h3, fun E0 act0 b0 E R act Cv' hs n => denL_cons.2 ⟨_, _, h2 E0 act0 b0 E R act Cv' hs n, h4 E0 act0 b0 E R act Cv' hs n, rfl⟩⟩
theorem guard_draw {Cv : List (Nat × V)} {env : Env} {a : A} (c : Can cx a0 Cv env a) (honce : onceOk cx.ops = true) {i : Nat} {o : Oper} (hg : gOk (befs cx.ops []) i o = true) {κ : Type} {op no : κ → Bool} {k : κ}
    (hk : guardK cx env o.guard op no k = true) :
    ∃ want : Bool, ((want = true ∧ op k = true) ∨ (want = false ∧ no k = true)) ∧ ∀ E0 act0, Base cx a0 E0 act0 → ∀ E R act Cv', (∀ p ∈ Cv, p ∈ Cv') → Nxt cx E0 act0 i E R act Cv' → Region.wanted o (yielded cx.ops.toArray act.tmps) = want := by
  obtain ⟨want, h1, h2⟩ := guard_sound' hk
  refine ⟨want, h1, fun E0 act0 b0 E R act Cv' hs n => h2 E act fun j w t v hj ht hv => ?_⟩
  obtain ⟨i', hi', hd⟩ := c.env1 t v hv
  have e : i' = j := onceOk_get honce hd ht
  subst e
  unfold gOk at hg
  rw [hj] at hg
  exact n.rt.t1 i' v t (hs _ hi') (n.bef i' (has_mem.1 hg)) hd
end
end Go.Ev

/-
  The evaluator of closed calls: a part.
-/
set_option linter.unusedVariables false
set_option linter.unusedSimpArgs false
namespace Go.Ev
theorem ext_set {E : Nm} {n : N} {l : Loc} (h : E n = none) : Ext E (E.set n l) := fun k x hk => by
  rw [Nm.set_ne E l (fun e => by rw [e, h] at hk; cases hk)]
  exact hk
/-- a block of a letter that was taken before, and is not laid yet -/
theorem Step.early {P : Program} {E0 E : Nm} {h0 h : H} {w0 w : World} (s : Step P E0 h0 w0 E h w) {n : N} {l : Loc} (hn : E n = none) (h1 : h0.n.val ≤ n.val) (h2 : n.val < h.n.val) (obj : Obj) :
    Step P E0 h0 w0 (E.set n l) h (w.alloc obj) := by
  have hx := ext_set (l := l) hn
  have hget : ∀ b, b < w.heap.size → (w.alloc obj).heap[b]? = w.heap[b]? := fun b hb => by
    show (w.heap.push obj)[b]? = _
    rw [Array.getElem?_push, if_neg (by omega)]
  have live : ∀ {j : N} {m : Loc}, Live h j → E.set n l j = some m → E j = some m := fun {j m} hl hm => by
    obtain ⟨o, h3, h4⟩ := hl
    obtain ⟨m', h5, _⟩ := s.good.stand j o h3 h4
    rw [hx j m' h5] at hm
    cases hm
    exact h5
  refine ⟨s.ext.trans hx, ⟨fun k x hk => ?_, fun k o h3 h4 => ?_, fun i j li lj a1 a2 aw a3 a4 a5 => s.good.inj i j li lj a1 a2 aw (live a1 a3) (live a2 a4) a5, fun q hq => let ⟨m, h3, h4⟩ := s.good.glob q hq; ⟨m, hx _ m h3, h4⟩⟩,
    s.mono, fun k x hk => ?_, fun k x a1 a2 => ?_, fun k x a1 aw a2 => s.imgw k x a1 aw (live a1 a2), fun b hb hf => ?_, ?_, s.os, s.tape, s.output⟩
  · by_cases e : k = n
    · subst e; exact h2
    · rw [Nm.set_ne E l e] at hk; exact s.good.fresh k x hk
  · obtain ⟨m, h5, h6⟩ := s.good.stand k o h3 h4
    exact ⟨m, hx k m h5, h6.ext hx (hget _ (h6.lt h4))⟩
  · by_cases e : k = n
    · subst e; exact .inr h1
    · rw [Nm.set_ne E l e] at hk; exact s.dom k x hk
  · exact s.img k x a1 (live a1 a2)
  · rw [hget b (Nat.lt_of_lt_of_le hb s.size)]; exact s.frame b hb hf
  · show w0.heap.size ≤ (w.heap.push obj).size
    rw [Array.size_push]; have := s.size; omega
/-- what has been told of an operation that has not been done -/
def Told (cx : Cx) (a0 : A) (h : H) (obs : List (Nat × Ob)) (Cv : List (Nat × V)) (i : Nat) (v : V) : Prop :=
  ∃ o vs want, cx.ops[i]? = some o ∧
    (∀ E0 act0, Base cx a0 E0 act0 → ∀ E R act Cv', (∀ p ∈ Cv, p ∈ Cv') → Nxt cx E0 act0 i E R act Cv' → Region.wanted o (yielded cx.ops.toArray act.tmps) = want ∧ denL E vs = some (o.op.operands.toList.map act.eval)) ∧
    ((want = false ∧ v = V.undef ∧ (∀ n ob, find i obs ≠ some (some (n, ob)))) ∨
     (want = true ∧ (PuOk cx.P o.op vs v ∨ (heapB cx.P o.op = true ∧ RdOk cx.P o.op vs h v)) ∧ (∀ n ob, find i obs ≠ some (some (n, ob)))) ∨
     (want = true ∧ ∃ mk ob n, MkOk cx.P o.op vs mk ob ∧ v = mk n ∧ find i obs = some (some (n, ob))))
/-- the invariant: what is told, what is done -/
structure Inv (cx : Cx) (a0 : A) (E0 : Nm) (h0 : H) (w0 : World) (act0 : Act) (Cv : List (Nat × V)) (U : Nat → Prop) (obs : List (Nat × Ob)) (h : H) (E : Nm) (act : Act) (w : World) (R : Nat → Prop) : Prop where
  step : Step cx.P E0 h0 w0 E h w
  sub : ∀ i, R i → ∃ v, (i, v) ∈ Cv
  closed : Closed cx.ops R
  rt : RT cx act0 R E Cv act
  told : ∀ i v, (i, v) ∈ Cv → ¬ R i → Told cx a0 h obs Cv i v
  uq : ∀ i u v, (i, u) ∈ Cv → (i, v) ∈ Cv → u = v
  unk : ∀ i v, (i, v) ∈ Cv → ¬ R i → ∀ n ob, find i obs = some (some (n, ob)) → U i
  un : ∀ i, U i → ∀ n o, find i obs = some (some (n, o)) → o ≠ .dead ∧ n.val < h.n.val ∧ h0.n.val ≤ n.val ∧ (¬ R i → E n = none) ∧
    (R i → ∃ l, E n = some l ∧ Stand cx.P E w l o ∧ w0.heap.size ≤ l.bl ∧ ∀ j m, Live h j → E j = some m → m.bl ≠ l.bl)
  unn : ∀ i, U i → ∀ j, U j → ∀ n o n' o', find i obs = some (some (n, o)) → find j obs = some (some (n', o')) → i ≠ j → n ≠ n' ∧ ∀ l l', E n = some l → E n' = some l' → l.bl ≠ l'.bl
section
variable {cx : Cx} {a0 : A} {E0 : Nm} {h0 : H} {w0 : World} {act0 : Act}
theorem RT.put {R : Nat → Prop} {E E' : Nm} {Cv : List (Nat × V)} {act : Act} (r : RT cx act0 R E Cv act) (honce : onceOk cx.ops = true) (hx : Ext E E') {i : Nat} {o : Oper} {v : V} {x : Value} (hi : cx.ops[i]? = some o)
    (hv : ∀ u, (i, u) ∈ Cv → u = v) (hn : ¬ R i) (hd : den E' v = some x) (hs : ∀ t, o.dst = some t → t < act0.tmps.size) (hsub : ∀ j, R j → ∃ u, (j, u) ∈ Cv) :
    RT cx act0 (fun j => R j ∨ j = i) E' Cv (act.put o.dst x) := by
  have hdo : dstOf cx.ops i = o.dst := by simp [dstOf, hi]
  cases ho : o.dst with
  | none =>
    rw [ho] at hdo
    refine ⟨fun j u t h1 h2 h3 => ?_, fun t h => r.t0 t fun j hj => h j (.inl hj), r.sz, r.df⟩
    rcases h2 with h2 | rfl
    · exact den_ext hx _ _ (r.t1 j u t h1 h2 h3)
    · rw [hdo] at h3; cases h3
  | some d =>
    rw [ho] at hdo
    have hlt : d < act.tmps.size := by rw [r.sz]; exact hs d ho
    refine ⟨fun j u t h1 h2 h3 => ?_, fun t h => ?_, by simp [Act.put]; exact r.sz, r.df⟩
    · rw [put_getD hlt]
      by_cases e : d = t
      · subst e
        have : j = i := onceOk_get honce h3 hdo
        subst this
        rw [if_pos rfl, hv u h1]
        exact hd
      · rw [if_neg e]
        rcases h2 with h2 | rfl
        · exact den_ext hx _ _ (r.t1 j u t h1 h2 h3)
        · rw [hdo] at h3; cases h3; exact absurd rfl e
    · rw [put_getD hlt, if_neg (fun e => h i (.inr rfl) (by rw [hdo, e]))]
      exact r.t0 t fun j hj => h j (.inl hj)
/-- one that has been told is done -/
theorem real_told (b0 : Base cx a0 E0 act0) (honce : onceOk cx.ops = true) {Cv : List (Nat × V)} {U : Nat → Prop} {obs : List (Nat × Ob)} {h : H} {E : Nm} {act : Act} {w : World} {R : Nat → Prop}
    (I : Inv cx a0 E0 h0 w0 act0 Cv U obs h E act w R) (hsz : ∀ i o t, (∃ v, (i, v) ∈ Cv) → cx.ops[i]? = some o → o.dst = some t → t < act0.tmps.size)
    {i : Nat} {v : V} (hi : (i, v) ∈ Cv) (hn : ¬ R i) (hr : ∀ o, cx.ops[i]? = some o → ∀ j ∈ edges o, R j) {K : Act → World → Prop} {Q : Exit → Act → World → Prop}
    (hK : ∀ E' act' w', Inv cx a0 E0 h0 w0 act0 Cv U obs h E' act' w' (fun j => R j ∨ j = i) → K act' w') : wpOp cx.P cx.ops.toArray Q i K act w := by
  obtain ⟨o, vs, want, ho, hnx, hcase⟩ := I.told i v hi hn
  have ho' : cx.ops.toArray[i]? = some o := by simpa using ho
  have nx : Nxt cx E0 act0 i E R act Cv := ⟨I.step.ext, I.rt, I.closed, bef_ready I.closed ho (hr o ho), hn⟩
  obtain ⟨hw, hd⟩ := hnx E0 act0 b0 E R act Cv (fun _ h => h) nx
  have hcl : Closed cx.ops (fun j => R j ∨ j = i) := fun j p hj hR q hq => by
    rcases hR with hR | rfl
    · exact .inl (I.closed j p hj hR q hq)
    · rw [ho] at hj; cases hj; exact .inl (hr o ho q hq)
  have hsub : ∀ j, (R j ∨ j = i) → ∃ u, (j, u) ∈ Cv := fun j hj => hj.elim (I.sub j) (fun e => ⟨v, e ▸ hi⟩)
  have rtp : ∀ {E' : Nm} {x : Value}, Ext E E' → den E' v = some x → RT cx act0 (fun j => R j ∨ j = i) E' Cv (act.put o.dst x) := fun hx hdx =>
    I.rt.put honce hx ho (fun u hu => I.uq i u v hu hi) hn hdx (fun t ht => hsz i o t ⟨v, hi⟩ ho ht) I.sub
  -- nothing is made: the world stands
  have plain : ∀ x, den E v = some x → (∀ n ob, find i obs ≠ some (some (n, ob))) → K (act.put o.dst x) w := fun x hdx hno =>
    hK E _ w ⟨I.step, hsub, hcl, rtp (Ext.refl E) hdx, fun j u hj hnj => I.told j u hj (fun e => hnj (.inl e)), I.uq, fun j u hj hnj => I.unk j u hj (fun e => hnj (.inl e)),
      fun j hj n ob hf => by
        obtain ⟨a1, a2, a3, a4, a5⟩ := I.un j hj n ob hf
        refine ⟨a1, a2, a3, fun e => a4 (fun e' => e (.inl e')), fun e => ?_⟩
        rcases e with e | rfl
        · exact a5 e
        · exact absurd hf (hno n ob),
      I.unn⟩
  unfold wpOp
  simp only [ho']
  rcases hcase with ⟨rfl, rfl, hno⟩ | ⟨rfl, hp, hno⟩ | ⟨rfl, mk, ob, n, hm, rfl, hf⟩
  · rw [hw]
    simp only [Bool.false_eq_true, if_false]
    exact plain undef (den_undef E) hno
  · rw [hw]
    simp only [if_true]
    refine .inl ?_
    have hrun : ∃ x, den E v = some x ∧ (execOp act.eval o).run cx.P w = .ok (.value x) w := by
      rcases hp with hp | hp
      · exact hp E w act.eval o rfl hd
      · exact hp.2 E w act.eval o I.step.good.stand rfl hd
    obtain ⟨x, d1, d2⟩ := hrun
    unfold Oper.wp
    rw [d2]
    exact plain x d1 hno
  · rw [hw]
    simp only [if_true]
    refine .inl ?_
    obtain ⟨hdead, hm⟩ := hm
    obtain ⟨obj, l, x, b1, b2, b3, b4⟩ := hm E w act.eval o rfl hd
    unfold Oper.wp
    rw [b4]
    have hU := I.unk i _ hi hn n ob hf
    obtain ⟨a1, a2, a3, a4, a5⟩ := I.un i hU n ob hf
    have hEn := a4 hn
    have hx := ext_set (l := l) hEn
    have hold : ∀ b, b < w.heap.size → (w.alloc obj).heap[b]? = w.heap[b]? := fun b hb => by
      show (w.heap.push obj)[b]? = _
      rw [Array.getElem?_push, if_neg (by omega)]
    have hnew : (w.alloc obj).heap[l.bl]? = some obj := by
      show (w.heap.push obj)[l.bl]? = _
      rw [b1, Array.getElem?_push_size]
    have live : ∀ {j : N} {m : Loc}, Live h j → E.set n l j = some m → E j = some m ∧ m.bl < w.heap.size := fun {j m} hl hm => by
      obtain ⟨p, h3, h4⟩ := hl
      obtain ⟨m', h5, h6⟩ := I.step.good.stand j p h3 h4
      rw [hx j m' h5] at hm
      cases hm
      exact ⟨h5, h6.lt h4⟩
    refine hK (E.set n l) _ _ ⟨I.step.early hEn a3 a2 obj, hsub, hcl, rtp hx (b3 _ n (Nm.set_same E n l)), fun j u hj hnj => I.told j u hj (fun e => hnj (.inl e)), I.uq, fun j u hj hnj => I.unk j u hj (fun e => hnj (.inl e)), fun j hj n' ob' hf' => ?_, fun j hj j' hj' n1 o1 n2 o2 f1 f2 hne => ?_⟩
    · obtain ⟨c1, c2, c3, c4, c5⟩ := I.un j hj n' ob' hf'
      by_cases e : j = i
      · subst e
        rw [hf] at hf'
        cases hf'
        refine ⟨c1, c2, c3, fun e => absurd (Or.inr rfl) e, fun _ => ⟨l, Nm.set_same E n l, b2 _ _ hx hnew, by rw [b1]; exact I.step.size, fun j m hl hm => ?_⟩⟩
        have := (live hl hm).2
        omega
      · have hnn := (I.unn j hj i hU n' ob' n ob hf' hf e).1
        refine ⟨c1, c2, c3, fun e' => ?_, fun e' => ?_⟩
        · rw [Nm.set_ne E l hnn]; exact c4 (fun e2 => e' (.inl e2))
        · rcases e' with e' | e'
          · obtain ⟨l', q1, q2, q3, q4⟩ := c5 e'
            refine ⟨l', hx _ _ q1, q2.ext hx (hold _ (q2.lt c1)), q3, fun j m hl hm => q4 j m hl (live hl hm).1⟩
          · exact absurd e' e
    · have hnn := I.unn j hj j' hj' n1 o1 n2 o2 f1 f2 hne
      refine ⟨hnn.1, fun l1 l2 g1 g2 => ?_⟩
      have small : ∀ (k : Nat) (hk : U k) (m : N) (p : O) (lm : Loc), find k obs = some (some (m, p)) → m ≠ n → E.set n l m = some lm → E m = some lm ∧ lm.bl < w.heap.size := fun k hk m p lm fk hmn hm => by
        rw [Nm.set_ne E l hmn] at hm
        obtain ⟨c1, _, _, c4, c5⟩ := I.un k hk m p fk
        have hRk : R k := Classical.byContradiction fun e => by rw [c4 e] at hm; cases hm
        obtain ⟨l', q1, q2, _, _⟩ := c5 hRk
        rw [q1] at hm; cases hm
        exact ⟨q1, q2.lt c1⟩
      by_cases e1 : n1 = n
      · by_cases e2 : n2 = n
        · exact absurd (e1.trans e2.symm) hnn.1
        · subst e1
          rw [Nm.set_same] at g1; cases g1
          have := (small j' hj' n2 o2 l2 f2 e2 g2).2
          omega
      · by_cases e2 : n2 = n
        · subst e2
          rw [Nm.set_same] at g2; cases g2
          have := (small j hj n1 o1 l1 f1 e1 g1).2
          omega
        · exact hnn.2 l1 l2 (small j hj n1 o1 l1 f1 e1 g1).1 (small j' hj' n2 o2 l2 f2 e2 g2).1
end
end Go.Ev

/-
  The evaluator of closed calls: a part.
-/
set_option linter.unusedVariables false
set_option linter.unusedSimpArgs false
namespace Go.Ev
theorem RdOk.mono {P : Program} {op : Op} {vs : List V} {h h1 : H} {v : V} (hm : ∀ k o, T.get k h.t = some o → o ≠ .dead → T.get k h1.t = some o) (r : RdOk P op vs h v) : RdOk P op vs h1 v :=
  fun E w ρ o g ho hd => r E w ρ o (fun k p h2 h3 => g k p (hm k p h2 h3) h3) ho hd
section
variable {cx : Cx} {call : Call} {a0 : A} {E0 : Nm} {h0 : H} {w0 : World} {act0 : Act}
theorem lay_one {Cv : List (Nat × V)} {U : Nat → Prop} {obs : List (Nat × Ob)} {h : H} {E : Nm} {act : Act} {w : World} {R : Nat → Prop} (I : Inv cx a0 E0 h0 w0 act0 Cv U obs h E act w R)
    {j : Nat} (hU : U j) (hR : R j) {n : N} {o : O} (hf : find j obs = some (some (n, o))) : Inv cx a0 E0 h0 w0 act0 Cv (fun k => U k ∧ k ≠ j) obs (h.put n o) E act w R := by
  obtain ⟨a1, a2, a3, a4, a5⟩ := I.un j hU n o hf
  obtain ⟨l, q1, q2, q3, q4⟩ := a5 hR
  have hnl : ¬ Live h n := fun hl => q4 n l hl q1 rfl
  have hmono : ∀ k p, T.get k h.t = some p → p ≠ .dead → T.get k (h.put n o).t = some p := fun k p h1 h2 => by
    rw [get_put_ne (fun e => by subst e; exact hnl ⟨p, h1, h2⟩)]
    exact h1
  have hg := Good.lay I.step.good q1 a1 q2 (fun k m hl _ hm => q4 k m hl hm)
  have imgw : ∀ k m, Live (h.put n o) k → Wr (h.put n o) k → E k = some m → (∃ k0 l0, Live h0 k0 ∧ Wr h0 k0 ∧ E0 k0 = some l0 ∧ l0.bl = m.bl) ∨ w0.heap.size ≤ m.bl := fun k m hl hw hm => by
    by_cases e : k = n
    · subst e; rw [q1] at hm; cases hm; exact .inr q3
    · exact I.step.imgw k m ((Live.put hl).resolve_left e) (fun c z ls hc => hw c z ls (by rw [get_put_ne e]; exact hc)) hm
  refine ⟨⟨I.step.ext, hg, I.step.mono, I.step.dom, fun k m hl hm => ?_, imgw, I.step.frame, I.step.size, I.step.os, I.step.tape, I.step.output⟩, I.sub, I.closed, I.rt, fun i v hi hn => ?_, I.uq, fun i v hi hn m ob hfi => ?_, fun i hi m ob hfi => ?_, fun i hi k hk n1 o1 n2 o2 f1 f2 hne => I.unn i hi.1 k hk.1 n1 o1 n2 o2 f1 f2 hne⟩
  · rcases Live.put hl with rfl | hl
    · rw [q1] at hm; cases hm; exact .inr q3
    · exact I.step.img k m hl hm
  · obtain ⟨p, vs, want, h1, h2, h3⟩ := I.told i v hi hn
    refine ⟨p, vs, want, h1, h2, ?_⟩
    rcases h3 with h3 | ⟨e1, e2, e3⟩ | h3
    · exact .inl h3
    · exact .inr (.inl ⟨e1, e2.imp id (fun e => ⟨e.1, e.2.mono hmono⟩), e3⟩)
    · exact .inr (.inr h3)
  · exact ⟨I.unk i v hi hn m ob hfi, fun e => hn (e ▸ hR)⟩
  · obtain ⟨b1, b2, b3, b4, b5⟩ := I.un i hi.1 m ob hfi
    refine ⟨b1, b2, b3, b4, fun e => ?_⟩
    obtain ⟨l', r1, r2, r3, r4⟩ := b5 e
    refine ⟨l', r1, r2, r3, fun k x hl hx => ?_⟩
    rcases Live.put hl with rfl | hl
    · rw [q1] at hx; cases hx
      exact (I.unn j hU i hi.1 _ o m ob hf hfi (fun e => hi.2 e.symm)).2 _ _ q1 r1
    · exact r4 k x hl hx
theorem lay_none {Cv : List (Nat × V)} {U : Nat → Prop} {obs : List (Nat × Ob)} {h : H} {E : Nm} {act : Act} {w : World} {R : Nat → Prop} (I : Inv cx a0 E0 h0 w0 act0 Cv U obs h E act w R)
    {j : Nat} (hR : R j) : Inv cx a0 E0 h0 w0 act0 Cv (fun k => U k ∧ k ≠ j) obs h E act w R :=
  ⟨I.step, I.sub, I.closed, I.rt, I.told, I.uq, fun i v hi hn m ob hf => ⟨I.unk i v hi hn m ob hf, fun e => hn (e ▸ hR)⟩, fun i hi => I.un i hi.1, fun i hi k hk => I.unn i hi.1 k hk.1⟩
theorem Inv.congrU {Cv : List (Nat × V)} {U U' : Nat → Prop} {obs : List (Nat × Ob)} {h : H} {E : Nm} {act : Act} {w : World} {R : Nat → Prop} (I : Inv cx a0 E0 h0 w0 act0 Cv U obs h E act w R) (hU : ∀ k, U k ↔ U' k) :
    Inv cx a0 E0 h0 w0 act0 Cv U' obs h E act w R :=
  ⟨I.step, I.sub, I.closed, I.rt, I.told, I.uq, fun i v hi hn m ob hf => (hU i).1 (I.unk i v hi hn m ob hf), fun i hi => I.un i ((hU i).2 hi), fun i hi k hk => I.unn i ((hU i).2 hi) k ((hU k).2 hk)⟩
/-- what was made before is laid -/
theorem lays_sound : ∀ {ls : List Nat} {rest : List It} {env : Env} {obs : List (Nat × Ob)} {a : A} {h : H} {kn : KA}, nodup ls = true → evIts cx call (ls.map .L ++ rest) env obs a h kn = true →
    ∃ h1, h1.n = h.n ∧ evIts cx call rest env obs a h1 kn = true ∧ ∀ E0 h0 w0 act0 Cv U E act w R, Inv cx a0 E0 h0 w0 act0 Cv U obs h E act w R → (∀ j ∈ ls, U j ∧ R j) → Inv cx a0 E0 h0 w0 act0 Cv (fun k => U k ∧ k ∉ ls) obs h1 E act w R
  | [], rest, env, obs, a, h, kn, _, hk => ⟨h, rfl, hk, fun E0 h0 w0 act0 Cv U E act w R I _ => I.congrU fun k => by simp⟩
  | j :: ls, rest, env, obs, a, h, kn, hnd, hk => by
    simp only [nodup, Bool.and_eq_true, Bool.not_eq_true'] at hnd
    have hj : j ∉ ls := fun hm => by rw [has_mem.2 hm] at hnd; cases hnd.1
    have hk : okK (find j obs) (fun ob => layK ob h (fun h => evIts cx call (ls.map .L ++ rest) env obs a h kn)) = true := hk
    obtain ⟨ob, hf, k1⟩ := okK_true hk
    cases ob with
    | none =>
      obtain ⟨h1, e1, k2, hr⟩ := lays_sound hnd.2 (show evIts cx call (ls.map .L ++ rest) env obs a h kn = true from k1)
      refine ⟨h1, e1, k2, fun E0 h0 w0 act0 Cv U E act w R I hu => (hr E0 h0 w0 act0 Cv _ E act w R (lay_none I (hu j (by simp)).2) fun i hi => ⟨⟨(hu i (by simp [hi])).1, fun e => hj (e ▸ hi)⟩, (hu i (by simp [hi])).2⟩).congrU fun k => ?_⟩
      simp only [List.mem_cons, not_or]
      exact ⟨fun ⟨⟨x, y⟩, z⟩ => ⟨x, y, z⟩, fun ⟨x, y, z⟩ => ⟨⟨x, y⟩, z⟩⟩
    | some p =>
      obtain ⟨n, o⟩ := p
      have k1 : h.putK n o (fun h => evIts cx call (ls.map .L ++ rest) env obs a h kn) = true := k1
      rw [H.putK_eq] at k1
      obtain ⟨h1, e1, k2, hr⟩ := lays_sound hnd.2 k1
      refine ⟨h1, e1, k2, fun E0 h0 w0 act0 Cv U E act w R I hu => (hr E0 h0 w0 act0 Cv _ E act w R (lay_one I (hu j (by simp)).1 (hu j (by simp)).2 hf) fun i hi => ⟨⟨(hu i (by simp [hi])).1, fun e => hj (e ▸ hi)⟩, (hu i (by simp [hi])).2⟩).congrU fun k => ?_⟩
      simp only [List.mem_cons, not_or]
      exact ⟨fun ⟨⟨x, y⟩, z⟩ => ⟨x, y, z⟩, fun ⟨x, y, z⟩ => ⟨⟨x, y⟩, z⟩⟩
/-- what was read is read again -/
def Again (cx : Cx) (a0 : A) (h : H) (Cv : List (Nat × V)) (i : Nat) (v : V) : Prop :=
  ∃ o vs want, cx.ops[i]? = some o ∧
    (∀ E0 act0, Base cx a0 E0 act0 → ∀ E R act Cv', (∀ p ∈ Cv, p ∈ Cv') → Nxt cx E0 act0 i E R act Cv' → Region.wanted o (yielded cx.ops.toArray act.tmps) = want ∧ denL E vs = some (o.op.operands.toList.map act.eval)) ∧
    ((want = false ∧ v = V.undef) ∨ (want = true ∧ (PuOk cx.P o.op vs v ∨ (heapB cx.P o.op = true ∧ RdOk cx.P o.op vs h v))))
theorem mem_tmpsOf {o : Oper} {t : Nat} (h : Operand.tmp t ∈ o.op.operands.toList) : t ∈ tmpsOf o := List.mem_filterMap.2 ⟨.tmp t, h, rfl⟩
theorem again_one {Cv : List (Nat × V)} {env : Env} {obs : List (Nat × Ob)} {a : A} {h : H} {kn : KA} {ih : RK} (c : Can cx a0 Cv env a) (honce : onceOk cx.ops = true)
    {i : Nat} {C : List Nat} (hC : ∀ j, j ∈ C ↔ ∃ v, (j, v) ∈ Cv) (hB : ∀ j ∈ bOf (befs cx.ops []) i, j ∈ C) {o : Oper} (ho : cx.ops[i]? = some o) (ht : (tmpsOf o).all (tmpOk cx.ops (befs cx.ops []) i C) = true) (hg : gOk (befs cx.ops []) i o = true)
    {v : V} (hv : (i, v) ∈ Cv) (hk : evIt cx call (.K i) ih env obs a h kn = true) : ih env obs a h kn = true ∧ Again cx a0 h Cv i v := by
  obtain ⟨o', ho', k1⟩ := okK_true hk
  rw [ho] at ho'; cases ho'
  obtain ⟨u, hu, k2⟩ := okK_true k1
  have huv : u = v := by
    cases hd : o.dst with
    | none => rw [hd] at hu; cases hu
    | some t =>
      rw [hd] at hu
      have := c.env2 i v t hv (by simp [dstOf, ho, hd])
      have hu : find t env = some u := hu
      rw [this] at hu; cases hu; rfl
  subst huv
  obtain ⟨vs, k3, hvs⟩ := opd_list c hC hB (i := i) (fun t h => List.all_eq_true.1 ht t (mem_tmpsOf h)) k2
  obtain ⟨want, hc, hw⟩ := guard_draw c honce hg k3
  rcases hc with ⟨rfl, k4⟩ | ⟨rfl, k4⟩
  · obtain ⟨v', k5, hrd, hpu⟩ := evR_sound k4
    obtain ⟨rfl, k6⟩ := sameK_true k5
    refine ⟨k6, o, vs, true, ho, fun E0 act0 b0 E R act Cv' hs n => ⟨hw E0 act0 b0 E R act Cv' hs n, hvs E0 act0 b0 E R act Cv' hs n⟩, .inr ⟨rfl, ?_⟩⟩
    cases hb : heapB cx.P o.op
    · exact .inl (hpu hb)
    · exact .inr ⟨rfl, hrd⟩
  · obtain ⟨e, k6⟩ := sameK_true k4
    exact ⟨k6, o, vs, false, ho, fun E0 act0 b0 E R act Cv' hs n => ⟨hw E0 act0 b0 E R act Cv' hs n, hvs E0 act0 b0 E R act Cv' hs n⟩, .inl ⟨rfl, e.symm⟩⟩
theorem again_all {Cv : List (Nat × V)} {env : Env} {obs : List (Nat × Ob)} {a : A} {h : H} {kn : KA} {rest : List It} (c : Can cx a0 Cv env a) (honce : onceOk cx.ops = true)
    {C : List Nat} (hC : ∀ j, j ∈ C ↔ ∃ v, (j, v) ∈ Cv) (hBC : ∀ i ∈ C, ∀ j ∈ bOf (befs cx.ops []) i, j ∈ C) : ∀ {ks : List Nat}, (∀ k ∈ ks, k ∈ C ∧ ∃ o, cx.ops[k]? = some o ∧ (tmpsOf o).all (tmpOk cx.ops (befs cx.ops []) k C) = true ∧ gOk (befs cx.ops []) k o = true) →
    evIts cx call (ks.map .K ++ rest) env obs a h kn = true → evIts cx call rest env obs a h kn = true ∧ ∀ k ∈ ks, ∀ v, (k, v) ∈ Cv → Again cx a0 h Cv k v
  | [], _, hk => ⟨hk, fun k hk => absurd hk (by simp)⟩
  | k :: ks, hks, hk => by
    have hk : evIt cx call (.K k) (evIts cx call (ks.map .K ++ rest)) env obs a h kn = true := hk
    obtain ⟨hkC, o, ho, ht, hg⟩ := hks k (by simp)
    obtain ⟨v, hv⟩ := (hC k).1 hkC
    obtain ⟨k1, _⟩ := again_one c honce hC (hBC k hkC) ho ht hg hv hk
    obtain ⟨k2, hr⟩ := again_all c honce hC hBC (fun j hj => hks j (by simp [hj])) k1
    refine ⟨k2, fun j hj u hu => ?_⟩
    rcases List.mem_cons.1 hj with rfl | hj
    · exact (again_one c honce hC (hBC _ hkC) ho ht hg hu hk).2
    · exact hr j hj u hu
end
end Go.Ev

/-
  The evaluator of closed calls: a part.
-/
set_option linter.unusedVariables false
set_option linter.unusedSimpArgs false
namespace Go.Ev
section
variable {cx : Cx} {call : Call} {E0 : Nm} {h0 : H} {w0 : World} {a0 : A} {act0 : Act}
theorem Told.mono {h h' : H} {obs obs' : List (Nat × Ob)} {Cv Cv' : List (Nat × V)} {i : Nat} {v : V} (hs : ∀ p ∈ Cv, p ∈ Cv') (hm : ∀ k o, T.get k h.t = some o → o ≠ .dead → T.get k h'.t = some o) (ho : find i obs' = find i obs)
    (t : Told cx a0 h obs Cv i v) : Told cx a0 h' obs' Cv' i v := by
  obtain ⟨o, vs, want, h1, h2, h3⟩ := t
  refine ⟨o, vs, want, h1, fun E0 act0 b0 E R act Cv2 hs2 n => h2 E0 act0 b0 E R act Cv2 (fun p hp => hs2 p (hs p hp)) n, ?_⟩
  rw [ho]
  rcases h3 with h3 | ⟨e1, e2, e3⟩ | h3
  · exact .inl h3
  · exact .inr (.inl ⟨e1, e2.imp id (fun e => ⟨e.1, e.2.mono hm⟩), e3⟩)
  · exact .inr (.inr h3)
theorem chkOp_parts {i : Nat} {C : List Nat} {last : Option Nat} (h : chkOp cx.ops (befs cx.ops []) i C last = true) :
    ∃ o, cx.ops[i]? = some o ∧ i ∉ C ∧ (∀ j ∈ bOf (befs cx.ops []) i, j ∈ C) ∧ (∀ e, last = some e → e ∈ bOf (befs cx.ops []) i) ∧ (tmpsOf o).all (tmpOk cx.ops (befs cx.ops []) i C) = true ∧ gOk (befs cx.ops []) i o = true := by
  unfold chkOp at h
  cases ho : cx.ops[i]? with
  | none => rw [ho] at h; cases h
  | some o =>
    rw [ho] at h
    simp only [Bool.and_eq_true, Bool.not_eq_true'] at h
    obtain ⟨⟨⟨⟨h1, h2⟩, h3⟩, h4⟩, h5⟩ := h
    refine ⟨o, rfl, fun hm => (by rw [has_mem.2 hm] at h1; cases h1), fun j hj => has_mem.1 (List.all_eq_true.1 h2 j hj), fun e he => ?_, h4, h5⟩
    subst he
    exact has_mem.1 h3
/-- an operation that reads is told ahead -/
theorem tell_N {Cv : List (Nat × V)} {env : Env} {obs : List (Nat × Ob)} {a : A} {h : H} {kn : KA} {ih : RK} (c : Can cx a0 Cv env a) (honce : onceOk cx.ops = true)
    {i : Nat} {C : List Nat} {last : Option Nat} (hC : ∀ j, j ∈ C ↔ ∃ v, (j, v) ∈ Cv) (hchk : chkOp cx.ops (befs cx.ops []) i C last = true) (hobs : find i obs = none) (hk : evIt cx call (.R i) ih env obs a h kn = true) :
    ∃ o v a', cx.ops[i]? = some o ∧ ih (push o.dst v env) obs a' h kn = true ∧ Can cx a0 ((i, v) :: Cv) (push o.dst v env) a' ∧ Told cx a0 h obs ((i, v) :: Cv) i v := by
  obtain ⟨o, ho, hi, hB, _, ht, hg⟩ := chkOp_parts hchk
  obtain ⟨o', ho', k1⟩ := okK_true hk
  rw [ho] at ho'; cases ho'
  obtain ⟨vs, k2, hvs⟩ := opd_list c hC hB (fun t h => List.all_eq_true.1 ht t (mem_tmpsOf h)) k1
  obtain ⟨want, hc, hw⟩ := guard_draw c honce hg k2
  have hn : ∀ u, (i, u) ∉ Cv := fun u hu => hi ((hC i).2 ⟨u, hu⟩)
  have hno : ∀ n ob, find i obs ≠ some (some (n, ob)) := fun n ob e => by rw [hobs] at e; cases e
  rcases hc with ⟨rfl, k3⟩ | ⟨rfl, k3⟩
  · obtain ⟨v, k4, hrd, hpu⟩ := evR_sound k3
    obtain ⟨a', k5, c'⟩ := c.push honce ho hn k4
    refine ⟨o, v, a', ho, k5, c', o, vs, true, ho, fun E0 act0 b0 E R act Cv' hs n => ⟨hw E0 act0 b0 E R act Cv' (fun p hp => hs p (by simp [hp])) n, hvs E0 act0 b0 E R act Cv' (fun p hp => hs p (by simp [hp])) n⟩, .inr (.inl ⟨rfl, ?_, hno⟩)⟩
    cases hb : heapB cx.P o.op
    · exact .inl (hpu hb)
    · exact .inr ⟨rfl, hrd⟩
  · obtain ⟨a', k5, c'⟩ := c.push honce ho hn k3
    exact ⟨o, _, a', ho, k5, c', o, vs, false, ho, fun E0 act0 b0 E R act Cv' hs n => ⟨hw E0 act0 b0 E R act Cv' (fun p hp => hs p (by simp [hp])) n, hvs E0 act0 b0 E R act Cv' (fun p hp => hs p (by simp [hp])) n⟩, .inl ⟨rfl, rfl, hno⟩⟩
/-- an operation that makes is told ahead -/
theorem tell_B {Cv : List (Nat × V)} {env : Env} {obs : List (Nat × Ob)} {a : A} {h : H} {kn : KA} {ih : RK} (c : Can cx a0 Cv env a) (honce : onceOk cx.ops = true)
    {i : Nat} {C : List Nat} {last : Option Nat} (hC : ∀ j, j ∈ C ↔ ∃ v, (j, v) ∈ Cv) (hchk : chkOp cx.ops (befs cx.ops []) i C last = true) (hk : evIt cx call (.B i) ih env obs a h kn = true) :
    ∃ o v a' ob h', cx.ops[i]? = some o ∧ ih (push o.dst v env) ((i, ob) :: obs) a' h' kn = true ∧ Can cx a0 ((i, v) :: Cv) (push o.dst v env) a' ∧ Told cx a0 h' ((i, ob) :: obs) ((i, v) :: Cv) i v ∧
      ((ob = none ∧ h' = h) ∨ ∃ p, ob = some (h.n, p) ∧ p ≠ .dead ∧ h' = h.next) := by
  obtain ⟨o, ho, hi, hB, _, ht, hg⟩ := chkOp_parts hchk
  obtain ⟨o', ho', k1⟩ := okK_true hk
  rw [ho] at ho'; cases ho'
  obtain ⟨vs, k2, hvs⟩ := opd_list c hC hB (fun t h => List.all_eq_true.1 ht t (mem_tmpsOf h)) k1
  obtain ⟨want, hc, hw⟩ := guard_draw c honce hg k2
  have hn : ∀ u, (i, u) ∉ Cv := fun u hu => hi ((hC i).2 ⟨u, hu⟩)
  have hf : ∀ ob : Ob, find i ((i, ob) :: obs) = some ob := fun ob => by simp only [find, Nat.beq_refl]
  rcases hc with ⟨rfl, k3⟩ | ⟨rfl, k3⟩
  · obtain ⟨mk, p, k4, hm⟩ := evA_sound k3
    rw [H.nextK_eq] at k4
    obtain ⟨a', k5, c'⟩ := c.push honce ho hn k4
    exact ⟨o, _, a', some (h.n, p), h.next, ho, k5, c', ⟨o, vs, true, ho, fun E0 act0 b0 E R act Cv' hs n => ⟨hw E0 act0 b0 E R act Cv' (fun p hp => hs p (by simp [hp])) n, hvs E0 act0 b0 E R act Cv' (fun p hp => hs p (by simp [hp])) n⟩, .inr (.inr ⟨rfl, mk, p, h.n, hm, rfl, hf _⟩)⟩, .inr ⟨p, rfl, hm.1, rfl⟩⟩
  · obtain ⟨a', k5, c'⟩ := c.push honce ho hn k3
    exact ⟨o, _, a', none, h, ho, k5, c', ⟨o, vs, false, ho, fun E0 act0 b0 E R act Cv' hs n => ⟨hw E0 act0 b0 E R act Cv' (fun p hp => hs p (by simp [hp])) n, hvs E0 act0 b0 E R act Cv' (fun p hp => hs p (by simp [hp])) n⟩, .inl ⟨rfl, rfl, fun n ob e => by rw [hf] at e; cases e⟩⟩, .inl ⟨rfl, rfl⟩⟩
theorem inv_N {Cv : List (Nat × V)} {U : Nat → Prop} {obs : List (Nat × Ob)} {h : H} {E : Nm} {act : Act} {w : World} {R : Nat → Prop} (I : Inv cx a0 E0 h0 w0 act0 Cv U obs h E act w R) {i : Nat} {v : V} (hi : ∀ u, (i, u) ∉ Cv)
    (ht : Told cx a0 h obs ((i, v) :: Cv) i v) (hobs : find i obs = none) : Inv cx a0 E0 h0 w0 act0 ((i, v) :: Cv) U obs h E act w R := by
  have hRi : ¬ R i := fun hR => let ⟨u, hu⟩ := I.sub i hR; hi u hu
  refine ⟨I.step, fun j hj => let ⟨u, hu⟩ := I.sub j hj; ⟨u, by simp [hu]⟩, I.closed, ⟨fun j u t h1 h2 h3 => ?_, I.rt.t0, I.rt.sz, I.rt.df⟩, fun j u h1 h2 => ?_, fun j u u' h1 h2 => ?_, fun j u h1 h2 n ob hf => ?_, I.un, I.unn⟩
  · rcases List.mem_cons.1 h1 with h1 | h1
    · cases h1; exact absurd h2 hRi
    · exact I.rt.t1 j u t h1 h2 h3
  · rcases List.mem_cons.1 h1 with h1 | h1
    · cases h1; exact ht
    · exact (I.told j u h1 h2).mono (fun p hp => by simp [hp]) (fun _ _ h _ => h) rfl
  · rcases List.mem_cons.1 h1 with h1 | h1 <;> rcases List.mem_cons.1 h2 with h2 | h2
    · cases h1; cases h2; rfl
    · cases h1; exact absurd h2 (hi _)
    · cases h2; exact absurd h1 (hi _)
    · exact I.uq j u u' h1 h2
  · rcases List.mem_cons.1 h1 with h1 | h1
    · cases h1; rw [hobs] at hf; cases hf
    · exact I.unk j u h1 h2 n ob hf
theorem Step.nexth {P : Program} {E : Nm} {h : H} {w : World} (s : Step P E0 h0 w0 E h w) : Step P E0 h0 w0 E h.next w := by
  have hn : h.next.n.val = h.n.val + 1 := N.val_succ h.n
  exact ⟨s.ext, ⟨fun k l hk => by have := s.good.fresh k l hk; omega, s.good.stand, s.good.inj, s.good.glob⟩, by have := s.mono; omega, s.dom, s.img, s.imgw, s.frame, s.size, s.os, s.tape, s.output⟩
theorem inv_B {Cv : List (Nat × V)} {U : Nat → Prop} {obs : List (Nat × Ob)} {h : H} {E : Nm} {act : Act} {w : World} {R : Nat → Prop} (I : Inv cx a0 E0 h0 w0 act0 Cv U obs h E act w R) {i : Nat} {v : V} (hi : ∀ u, (i, u) ∉ Cv) (hU : ¬ U i)
    {ob : Ob} {h' : H} (ht : Told cx a0 h' ((i, ob) :: obs) ((i, v) :: Cv) i v) (hob : (ob = none ∧ h' = h) ∨ ∃ p, ob = some (h.n, p) ∧ p ≠ .dead ∧ h' = h.next) :
    Inv cx a0 E0 h0 w0 act0 ((i, v) :: Cv) (fun k => U k ∨ k = i) ((i, ob) :: obs) h' E act w R := by
  have hRi : ¬ R i := fun hR => let ⟨u, hu⟩ := I.sub i hR; hi u hu
  have hfi : find i ((i, ob) :: obs) = some ob := by simp only [find, Nat.beq_refl]
  have hfo : ∀ k, k ≠ i → find k ((i, ob) :: obs) = find k obs := fun k hk => by
    have : Nat.beq k i = false := by
      cases hb : Nat.beq k i
      · rfl
      · exact absurd (Nat.eq_of_beq_eq_true hb) hk
    simp only [find, this]
  have hs : Step cx.P E0 h0 w0 E h' w := by
    rcases hob with ⟨_, rfl⟩ | ⟨p, _, _, rfl⟩
    · exact I.step
    · exact Step.nexth I.step
  have htt : ∀ k o, T.get k h.t = some o → o ≠ .dead → T.get k h'.t = some o := fun k o h1 _ => by
    rcases hob with ⟨_, rfl⟩ | ⟨p, _, _, rfl⟩ <;> exact h1
  have hnn : h.n.val ≤ h'.n.val := by
    rcases hob with ⟨_, rfl⟩ | ⟨p, _, _, rfl⟩
    · exact Nat.le_refl _
    · show h.n.val ≤ h.n.succ.val; rw [N.val_succ]; omega
  have hEn : E h.n = none := by
    cases he : E h.n with
    | none => rfl
    | some l => exact absurd (I.step.good.fresh _ l he) (Nat.lt_irrefl _)
  have liveq : ∀ k, Live h' k ↔ Live h k := fun k => by
    rcases hob with ⟨_, rfl⟩ | ⟨p, _, _, rfl⟩ <;> exact Iff.rfl
  refine ⟨hs, fun j hj => let ⟨u, hu⟩ := I.sub j hj; ⟨u, by simp [hu]⟩, I.closed, ⟨fun j u t h1 h2 h3 => ?_, I.rt.t0, I.rt.sz, I.rt.df⟩, fun j u h1 h2 => ?_, fun j u u' h1 h2 => ?_, fun j u h1 h2 n p hf => ?_, fun j hj n p hf => ?_, fun j hj k hk n o n' o' f1 f2 hne => ?_⟩
  · rcases List.mem_cons.1 h1 with h1 | h1
    · cases h1; exact absurd h2 hRi
    · exact I.rt.t1 j u t h1 h2 h3
  · rcases List.mem_cons.1 h1 with h1 | h1
    · cases h1; exact ht
    · exact (I.told j u h1 h2).mono (fun p hp => by simp [hp]) htt (hfo j (fun e => hi u (e ▸ h1)))
  · rcases List.mem_cons.1 h1 with h1 | h1 <;> rcases List.mem_cons.1 h2 with h2 | h2
    · cases h1; cases h2; rfl
    · cases h1; exact absurd h2 (hi _)
    · cases h2; exact absurd h1 (hi _)
    · exact I.uq j u u' h1 h2
  · rcases List.mem_cons.1 h1 with h1 | h1
    · cases h1; exact .inr rfl
    · rw [hfo j (fun e => hi u (e ▸ h1))] at hf
      exact .inl (I.unk j u h1 h2 n p hf)
  · by_cases e : j = i
    · subst e
      rw [hfi] at hf
      rcases hob with ⟨e1, _⟩ | ⟨p', e1, e2, e3⟩
      · rw [e1] at hf; cases hf
      · rw [e1] at hf; cases hf
        subst e3
        exact ⟨e2, by show h.n.val < h.n.succ.val; rw [N.val_succ]; omega, I.step.mono, fun _ => hEn, fun hR => absurd hR hRi⟩
    · rw [hfo j e] at hf
      obtain ⟨b1, b2, b3, b4, b5⟩ := I.un j (hj.resolve_right e) n p hf
      refine ⟨b1, by omega, b3, b4, fun hR => ?_⟩
      obtain ⟨l, q1, q2, q3, q4⟩ := b5 hR
      exact ⟨l, q1, q2, q3, fun k m hl hm => q4 k m ((liveq k).1 hl) hm⟩
  · have newn : ∀ n o, find i ((i, ob) :: obs) = some (some (n, o)) → n = h.n := fun n o hf => by
      rw [hfi] at hf
      rcases hob with ⟨e1, _⟩ | ⟨p', e1, _, _⟩
      · rw [e1] at hf; cases hf
      · rw [e1] at hf; cases hf; rfl
    by_cases e1 : j = i
    · subst e1
      have hk' : k ≠ j := fun e => hne e.symm
      have q1 := newn n o f1
      rw [hfo k hk'] at f2
      have q2 := I.un k (hk.resolve_right hk') n' o' f2
      refine ⟨fun e => by rw [q1] at e; rw [← e] at q2; exact absurd q2.2.1 (Nat.lt_irrefl _), fun l l' g1 _ => by rw [q1, hEn] at g1; cases g1⟩
    · by_cases e2 : k = i
      · subst e2
        have q1 := newn n' o' f2
        rw [hfo j e1] at f1
        have q2 := I.un j (hj.resolve_right e1) n o f1
        refine ⟨fun e => by rw [q1] at e; rw [e] at q2; exact absurd q2.2.1 (Nat.lt_irrefl _), fun l l' _ g2 => by rw [q1, hEn] at g2; cases g2⟩
      · rw [hfo j e1] at f1
        rw [hfo k e2] at f2
        exact I.unn j (hj.resolve_right e1) k (hk.resolve_right e2) n o n' o' f1 f2 hne
/-- an operation that changes -/
theorem eff_it (hcall : CallOk cx.P call) {Cv : List (Nat × V)} {env : Env} {obs : List (Nat × Ob)} {a : A} {h : H} {kn : KA} {ih : RK} (c : Can cx a0 Cv env a) (honce : onceOk cx.ops = true)
    {i : Nat} {C : List Nat} {last : Option Nat} (hC : ∀ j, j ∈ C ↔ ∃ v, (j, v) ∈ Cv) (hchk : chkOp cx.ops (befs cx.ops []) i C last = true) (hk : evIt cx call (.X i) ih env obs a h kn = true) :
    ∃ o v a' h2, cx.ops[i]? = some o ∧ ih (push o.dst v env) obs a' h2 kn = true ∧ Can cx a0 ((i, v) :: Cv) (push o.dst v env) a' ∧
      ∀ E0 act0, Base cx a0 E0 act0 → ∀ E act w R, Nxt cx E0 act0 i E R act Cv → Good cx.P E h w → ∀ (K : Act → World → Prop) (Q : Exit → Act → World → Prop), (∀ E' w' x, Step cx.P E h w E' h2 w' → den E' v = some x → K (act.put o.dst x) w') → wpOp cx.P cx.ops.toArray Q i K act w := by
  obtain ⟨o, ho, hi, hB, _, ht, hg⟩ := chkOp_parts hchk
  obtain ⟨o', ho', k1⟩ := okK_true hk
  rw [ho] at ho'; cases ho'
  obtain ⟨vs, k2, hvs⟩ := opd_list c hC hB (fun t h => List.all_eq_true.1 ht t (mem_tmpsOf h)) k1
  obtain ⟨want, hc, hw⟩ := guard_draw c honce hg k2
  have hn : ∀ u, (i, u) ∉ Cv := fun u hu => hi ((hC i).2 ⟨u, hu⟩)
  have ho' : cx.ops.toArray[i]? = some o := by simpa using ho
  rcases hc with ⟨rfl, k3⟩ | ⟨rfl, k3⟩
  · obtain ⟨v, h2, k4, hx⟩ := evX_sound hcall k3
    obtain ⟨a', k5, c'⟩ := c.push honce ho hn k4
    refine ⟨o, v, a', h2, ho, k5, c', fun E0 act0 b0 E act w R n g K Q hK => ?_⟩
    unfold wpOp
    simp only [ho', hw E0 act0 b0 E R act Cv (fun _ h => h) n, if_true]
    exact .inl (hx E w act o g rfl (hvs E0 act0 b0 E R act Cv (fun _ h => h) n) K Q hK)
  · obtain ⟨a', k5, c'⟩ := c.push honce ho hn k3
    refine ⟨o, _, a', h, ho, k5, c', fun E0 act0 b0 E act w R n g K Q hK => ?_⟩
    unfold wpOp
    simp only [ho', hw E0 act0 b0 E R act Cv (fun _ h => h) n, Bool.false_eq_true, if_false]
    exact hK E w undef (Step.refl g) (den_undef E)
/-- the invariant behind it -/
theorem inv_E {Cv : List (Nat × V)} {U : Nat → Prop} {obs : List (Nat × Ob)} {h h2 : H} {E E' : Nm} {act : Act} {w w' : World} {R : Nat → Prop} (I : Inv cx a0 E0 h0 w0 act0 Cv U obs h E act w R) (honce : onceOk cx.ops = true)
    {i : Nat} {o : Oper} {v : V} {x : Value} (hi : ∀ u, (i, u) ∉ Cv) (hUC : ∀ k, U k → ∃ u, (k, u) ∈ Cv) (ho : cx.ops[i]? = some o) (hr : ∀ j ∈ edges o, R j) (hobs : find i obs = none) (hs : Step cx.P E h w E' h2 w') (hd : den E' v = some x)
    (hsz : ∀ t, o.dst = some t → t < act0.tmps.size)
    (hag : ∀ j u, (j, u) ∈ Cv → ¬ R j → (∀ p, cx.ops[j]? = some p → heapB cx.P p.op = false) ∨ Again cx a0 h2 ((i, v) :: Cv) j u) :
    Inv cx a0 E0 h0 w0 act0 ((i, v) :: Cv) U obs h2 E' (act.put o.dst x) w' (fun j => R j ∨ j = i) := by
  have hRi : ¬ R i := fun hR => let ⟨u, hu⟩ := I.sub i hR; hi u hu
  have hUi : ∀ k, U k → k ≠ i := fun k hk e => let ⟨u, hu⟩ := hUC k hk; hi u (e ▸ hu)
  have rt' : RT cx act0 R E ((i, v) :: Cv) act := ⟨fun j u t h1 h2 h3 => by
    rcases List.mem_cons.1 h1 with h1 | h1
    · cases h1; exact absurd h2 hRi
    · exact I.rt.t1 j u t h1 h2 h3, I.rt.t0, I.rt.sz, I.rt.df⟩
  have uq' : ∀ j u u', (j, u) ∈ (i, v) :: Cv → (j, u') ∈ (i, v) :: Cv → u = u' := fun j u u' h1 h2 => by
    rcases List.mem_cons.1 h1 with h1 | h1 <;> rcases List.mem_cons.1 h2 with h2 | h2
    · cases h1; cases h2; rfl
    · cases h1; exact absurd h2 (hi _)
    · cases h2; exact absurd h1 (hi _)
    · exact I.uq j u u' h1 h2
  have back : ∀ {n : N} {l : Loc}, n.val < h.n.val → E' n = some l → E n = some l := fun {n l} hn he => by
    rcases hs.dom n l he with h1 | h1
    · exact h1
    · omega
  refine ⟨I.step.trans hs, fun j hj => ?_, fun j p hj hR q hq => ?_, ?_, fun j u h1 h2 => ?_, uq', fun j u h1 h2 n ob hf => ?_, fun j hj n ob hf => ?_, fun j hj k hk n o1 n' o2 f1 f2 hne => ?_⟩
  · rcases hj with hj | rfl
    · obtain ⟨u, hu⟩ := I.sub j hj; exact ⟨u, by simp [hu]⟩
    · exact ⟨v, by simp⟩
  · rcases hR with hR | rfl
    · exact .inl (I.closed j p hj hR q hq)
    · rw [ho] at hj; cases hj; exact .inl (hr q hq)
  · exact rt'.put honce hs.ext ho (fun u hu => uq' i u v hu (by simp)) hRi hd hsz (fun j hj => let ⟨u, hu⟩ := I.sub j hj; ⟨u, by simp [hu]⟩)
  · have hR1 : ¬ R j := fun e => h2 (.inl e)
    rcases List.mem_cons.1 h1 with h1 | h1
    · cases h1; exact absurd (.inr rfl) h2
    · obtain ⟨p, vs, want, t1, t2, t3⟩ := I.told j u h1 hR1
      have t2' : ∀ E0 act0, Base cx a0 E0 act0 → ∀ E R act Cv', (∀ q ∈ (i, v) :: Cv, q ∈ Cv') → Nxt cx E0 act0 j E R act Cv' → Region.wanted p (yielded cx.ops.toArray act.tmps) = want ∧ denL E vs = some (p.op.operands.toList.map act.eval) :=
        fun E0 act0 b0 E R act Cv' hs n => t2 E0 act0 b0 E R act Cv' (fun q hq => hs q (by simp [hq])) n
      rcases t3 with t3 | ⟨e1, e2, e3⟩ | t3
      · exact ⟨p, vs, want, t1, t2', .inl t3⟩
      · rcases e2 with e2 | ⟨e2, _⟩
        · exact ⟨p, vs, want, t1, t2', .inr (.inl ⟨e1, .inl e2, e3⟩)⟩
        · rcases hag j u h1 hR1 with hg | ⟨p', vs', want', s1, s2, s3⟩
          · rw [hg p t1] at e2; cases e2
          · refine ⟨p', vs', want', s1, s2, ?_⟩
            rcases s3 with ⟨s3, s4⟩ | ⟨s3, s4⟩
            · exact .inl ⟨s3, s4, e3⟩
            · exact .inr (.inl ⟨s3, s4, e3⟩)
      · exact ⟨p, vs, want, t1, t2', .inr (.inr t3)⟩
  · rcases List.mem_cons.1 h1 with h1 | h1
    · cases h1; rw [hobs] at hf; cases hf
    · exact I.unk j u h1 (fun e => h2 (.inl e)) n ob hf
  · obtain ⟨b1, b2, b3, b4, b5⟩ := I.un j hj n ob hf
    refine ⟨b1, Nat.lt_of_lt_of_le b2 hs.mono, b3, fun hR => ?_, fun hR => ?_⟩
    · cases he : E' n with
      | none => rfl
      | some l =>
        have := back b2 he
        rw [b4 (fun e => hR (.inl e))] at this; cases this
    · have hR : R j := hR.resolve_right (hUi j hj)
      obtain ⟨l, q1, q2, q3, q4⟩ := b5 hR
      have hlt := q2.lt b1
      refine ⟨l, hs.ext _ _ q1, q2.ext hs.ext (hs.frame l.bl hlt fun k m hl _ hm => q4 k m hl hm), q3, fun k m hl hm => ?_⟩
      rcases hs.img k m hl hm with ⟨k0, l0, c1, c2, c3⟩ | c
      · rw [← c3]; exact q4 k0 l0 c1 c2
      · omega
  · have b1 := I.un j hj n o1 f1
    have b2 := I.un k hk n' o2 f2
    have hu := I.unn j hj k hk n o1 n' o2 f1 f2 hne
    exact ⟨hu.1, fun l l' g1 g2 => hu.2 l l' (back b1.2.1 g1) (back b2.2.1 g2)⟩
end
end Go.Ev

