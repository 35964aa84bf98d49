/-
  Parts of one proof, one behind the other.
-/
import Derived.Test.YtbigilbbbmanjaaGreatDoorMgbf9aad01db
import Derived.Laws.StructEq
import Derived.Laws.MakeOwn
import Derived.Deep.Upon
import Derived.Orders
import Derived.Defers
/-
  The evaluator of closed calls: a part.
-/
set_option linter.unusedVariables false
set_option linter.unusedSimpArgs false
namespace Go.Ev
/-- a test tells whether a key of a map is the one that is looked for -/
def TstOk (kind : TypeDesc) (kv : V) (eq : Tst) : Prop :=
  ∀ a no yes, eq a no yes = true → ∃ r : Bool, (∀ E x y, den E kv = some x → den E a = some y → Instr.sameNow kind x y = some r ∧ (r = true → Instr.sameBits 10000 y x = true)) ∧ (cond r yes no) = true
theorem keyI_true {j : IntKind} {kv : V} {k : Tst → Bool} (hk : keyI j kv k = true) : ∃ eq n, kv = .int j n ∧ TstOk (.int j) kv eq ∧ k eq = true := by
  obtain ⟨i, n, rfl, k1⟩ := V.onInt_true hk
  obtain ⟨h1, k2⟩ := condK_true k1
  have h1 := same_kind h1
  subst h1
  refine ⟨_, n, rfl, fun a no yes h => ?_, k2⟩
  obtain ⟨i', m, rfl, q1⟩ := V.onInt_true h
  obtain ⟨q2, q3⟩ := condK_true q1
  have q2 := same_kind q2
  subst q2
  refine ⟨Nat.beq n m, fun E x y hx hy => ?_, by cases hb : Nat.beq n m <;> (rw [hb] at q3; exact q3)⟩
  obtain ⟨hn, rfl⟩ := den_int hx
  obtain ⟨hm, rfl⟩ := den_int hy
  have e : (i'.wrap n == i'.wrap m) = Nat.beq n m := by
    cases hb : Nat.beq n m
    · exact beq_eq_false_iff_ne.2 (fun e => by rw [(wrap_inj hn hm).1 e, Nat.beq_refl] at hb; cases hb)
    · rw [Nat.eq_of_beq_eq_true hb]; exact beq_self_eq_true _
  refine ⟨by simp [Instr.sameNow, e], fun hr => ?_⟩
  rw [Nat.eq_of_beq_eq_true hr]
  simp [Instr.sameBits]
theorem keyS_true {kv : V} {k : Tst → Bool} (hk : keyS kv k = true) : ∃ eq s, kv = .str s ∧ TstOk .string kv eq ∧ k eq = true := by
  obtain ⟨s, rfl, k1⟩ := V.onStr_true hk
  refine ⟨_, s, rfl, fun a no yes h => ?_, k1⟩
  obtain ⟨t, rfl, q1⟩ := V.onStr_true h
  refine ⟨sameStr s t, fun E x y hx hy => ?_, by cases hb : sameStr s t <;> (rw [hb] at q1; exact q1)⟩
  simp only [den, Option.some.injEq] at hx hy
  subst hx; subst hy
  have e : (s == t) = sameStr s t := (sameStr_eq s t).symm
  refine ⟨by simp [Instr.sameNow, e], fun hr => ?_⟩
  have : s.data = t.data := by
    have := eq_of_beq (show (s.data.toList == t.data.toList) = true from hr)
    exact Array.toList_inj.1 this
  have : s = t := by cases s; cases t; simp_all
  subst this
  have hs : (s == s) = true := by rw [← sameStr_eq]; exact hr
  simp [Instr.sameBits, hs]
theorem evKey_true {P : Program} {t : Nat} {f : (V → (Tst → Bool) → Bool) → Bool} (hk : evKey P t f = true) :
    ∃ kind key, P.underlying t = some kind ∧ f key = true ∧ ∀ kv k, key kv k = true → ∃ eq, TstOk kind kv eq ∧ k eq = true ∧
      ∀ E x, den E kv = some x → ∀ (b : Bool) (w : World), (Instr.checkKey b 10000 t x).run P w = .ok () w := by
  unfold evKey at hk
  split at hk
  · rename_i j hu
    refine ⟨_, _, hu, hk, fun kv k h => ?_⟩
    obtain ⟨eq, n, rfl, h1, h2⟩ := keyI_true h
    refine ⟨eq, h1, h2, fun E x hx b w => ?_⟩
    obtain ⟨_, rfl⟩ := den_int hx
    unfold Instr.checkKey
    rw [Sem.run_bind, run_underlying hu]; rfl
  · rename_i hu
    refine ⟨_, _, hu, hk, fun kv k h => ?_⟩
    obtain ⟨eq, n, rfl, h1, h2⟩ := keyS_true h
    refine ⟨eq, h1, h2, fun E x hx b w => ?_⟩
    simp only [den, Option.some.injEq] at hx
    subst hx
    unfold Instr.checkKey
    rw [Sem.run_bind, run_underlying hu]; rfl
  · cases hk
theorem denM_cons {E : Nm} {a v : V} {n : Nat} {es : List (V × V × Nat)} {l : List MapEntry} :
    denM E ((a, v, n) :: es) = some l ↔ ∃ x y r, den E a = some x ∧ den E v = some y ∧ denM E es = some r ∧ l = { key := x, val := y, born := n } :: r := by
  simp only [denM]
  cases den E a <;> cases den E v <;> cases denM E es <;> simp [eq_comm]
theorem findK_true {kind : TypeDesc} {kv : V} {eq : Tst} (he : TstOk kind kv eq) : ∀ {es : List (V × V × Nat)} {k : V → Bool} {no : Bool}, findK eq es k no = true →
    (no = true ∧ ∀ E kx es', den E kv = some kx → denM E es = some es' → ∀ i, Instr.findNow kind kx es' i = some none) ∨
    ∃ v, k v = true ∧ ∀ E kx es', den E kv = some kx → denM E es = some es' → ∃ y, den E v = some y ∧ ∀ i, ∃ j, Instr.findNow kind kx es' i = some (some (j, y))
  | [], k, no, h => .inl ⟨h, fun E kx es' _ h2 i => by simp only [denM, Option.some.injEq] at h2; subst h2; rfl⟩
  | (a, v, s) :: es, k, no, h => by
    obtain ⟨r, hr, h1⟩ := he a _ _ h
    cases r with
    | true =>
      refine .inr ⟨v, h1, fun E kx es' h2 h3 => ?_⟩
      obtain ⟨x, y, l, h4, h5, h6, rfl⟩ := denM_cons.1 h3
      exact ⟨y, h5, fun i => ⟨i, by simp [Instr.findNow, (hr E kx x h2 h4).1]⟩⟩
    | false =>
      rcases findK_true he (es := es) h1 with ⟨h2, h3⟩ | ⟨u, h2, h3⟩
      · refine .inl ⟨h2, fun E kx es' h4 h5 i => ?_⟩
        obtain ⟨x, y, l, h6, h7, h8, rfl⟩ := denM_cons.1 h5
        simp [Instr.findNow, (hr E kx x h4 h6).1, h3 E kx l h4 h8 (i + 1)]
      · refine .inr ⟨u, h2, fun E kx es' h4 h5 => ?_⟩
        obtain ⟨x, y, l, h6, h7, h8, rfl⟩ := denM_cons.1 h5
        obtain ⟨z, h9, h10⟩ := h3 E kx l h4 h8
        refine ⟨z, h9, fun i => ?_⟩
        obtain ⟨j, h11⟩ := h10 (i + 1)
        exact ⟨j, by simp [Instr.findNow, (hr E kx x h4 h6).1, h11]⟩
/-- an entry is written over -/
theorem updK_true {kind : TypeDesc} {kv val : V} {eq : Tst} (he : TstOk kind kv eq) : ∀ {es : List (V × V × Nat)} {k : List (V × V × Nat) → Bool} {no : Bool}, updK eq kv val es k no = true →
    (no = true ∧ ∀ E kx es', den E kv = some kx → denM E es = some es' → ∀ i, Instr.findNow kind kx es' i = some none) ∨
    ∃ es2 j, k es2 = true ∧ ∀ E kx vx es', den E kv = some kx → den E val = some vx → denM E es = some es' →
      (∀ i, ∃ y, Instr.findNow kind kx es' i = some (some (i + j, y))) ∧ (∃ e, es'[j]? = some e ∧ Instr.sameBits 10000 e.key kx = true) ∧
      denM E es2 = some (es'.modify j fun e => { e with key := kx, val := vx })
  | [], k, no, h => .inl ⟨h, fun E kx es' _ h2 i => by simp only [denM, Option.some.injEq] at h2; subst h2; rfl⟩
  | (a, v, s) :: es, k, no, h => by
    obtain ⟨r, hr, h1⟩ := he a _ _ h
    cases r with
    | true =>
      refine .inr ⟨_, 0, h1, fun E kx vx es' h2 h2' h3 => ?_⟩
      obtain ⟨x, y, l, h4, h5, h6, rfl⟩ := denM_cons.1 h3
      refine ⟨fun i => ⟨y, by simp [Instr.findNow, (hr E kx x h2 h4).1]⟩, ⟨_, rfl, (hr E kx x h2 h4).2 rfl⟩, ?_⟩
      exact denM_cons.2 ⟨kx, vx, l, h2, h2', h6, rfl⟩
    | false =>
      rcases updK_true he (es := es) h1 with ⟨h2, h3⟩ | ⟨es2, j, h2, h3⟩
      · refine .inl ⟨h2, fun E kx es' h4 h5 i => ?_⟩
        obtain ⟨x, y, l, h6, h7, h8, rfl⟩ := denM_cons.1 h5
        simp [Instr.findNow, (hr E kx x h4 h6).1, h3 E kx l h4 h8 (i + 1)]
      · refine .inr ⟨_, j + 1, h2, fun E kx vx es' h4 h4' h5 => ?_⟩
        obtain ⟨x, y, l, h6, h7, h8, rfl⟩ := denM_cons.1 h5
        obtain ⟨h9, ⟨e, h10, h11⟩, h12⟩ := h3 E kx vx l h4 h4' h8
        refine ⟨fun i => ?_, ⟨e, by simpa using h10, h11⟩, ?_⟩
        · obtain ⟨z, h13⟩ := h9 (i + 1)
          refine ⟨z, ?_⟩
          simp only [Instr.findNow, (hr E kx x h4 h6).1, h13]
          congr 3; omega
        · exact denM_cons.2 ⟨x, y, _, h6, h7, h12, by simp [List.modify_succ_cons]⟩
/-- an entry is taken out -/
theorem delK_true {kind : TypeDesc} {kv : V} {eq : Tst} (he : TstOk kind kv eq) : ∀ {es : List (V × V × Nat)} {k : List (V × V × Nat) → Bool}, delK eq es k = true →
    ∃ es2, k es2 = true ∧ ∀ E kx es', den E kv = some kx → denM E es = some es' →
      ((∀ i, Instr.findNow kind kx es' i = some none) ∧ denM E es2 = some es') ∨
      ∃ j, (∀ i, ∃ y, Instr.findNow kind kx es' i = some (some (i + j, y))) ∧ j < es'.length ∧ denM E es2 = some (es'.eraseIdx j)
  | [], k, h => ⟨[], h, fun E kx es' _ h2 => .inl ⟨fun i => by simp only [denM, Option.some.injEq] at h2; subst h2; rfl, h2⟩⟩
  | (a, v, s) :: es, k, h => by
    obtain ⟨r, hr, h1⟩ := he a _ _ h
    cases r with
    | true =>
      refine ⟨_, h1, fun E kx es' h2 h3 => .inr ⟨0, ?_⟩⟩
      obtain ⟨x, y, l, h4, h5, h6, rfl⟩ := denM_cons.1 h3
      exact ⟨fun i => ⟨y, by simp [Instr.findNow, (hr E kx x h2 h4).1]⟩, by simp, by simpa using h6⟩
    | false =>
      obtain ⟨es2, h2, h3⟩ := delK_true he (es := es) h1
      refine ⟨_, h2, fun E kx es' h4 h5 => ?_⟩
      obtain ⟨x, y, l, h6, h7, h8, rfl⟩ := denM_cons.1 h5
      rcases h3 E kx l h4 h8 with ⟨h9, h10⟩ | ⟨j, h9, h10, h11⟩
      · exact .inl ⟨fun i => by simp [Instr.findNow, (hr E kx x h4 h6).1, h9 (i + 1)], denM_cons.2 ⟨x, y, l, h6, h7, h10, rfl⟩⟩
      · refine .inr ⟨j + 1, fun i => ?_, by simpa using h10, ?_⟩
        · obtain ⟨z, h13⟩ := h9 (i + 1)
          refine ⟨z, ?_⟩
          simp only [Instr.findNow, (hr E kx x h4 h6).1, h13]
          congr 3; omega
        · exact denM_cons.2 ⟨x, y, _, h6, h7, h11, by simp⟩
section
variable {P : Program} {vs : List V} {h : H} {k : KV}
theorem zval_run {e : TypeId} {z : V} (hz : zval P e = some z) : ∃ x, (∀ E, den E z = some x) ∧ ∀ w, (zeroValue e).run P w = .ok x w := by
  unfold zval at hz
  cases hi : P.info? e with
  | none => rw [hi] at hz; cases hz
  | some i =>
    rw [hi] at hz
    cases hz0 : i.zero with
    | none => simp [hz0] at hz
    | some x =>
      simp only [Option.bind_some, hz0] at hz
      exact ⟨x, cV_den 3000 x z hz, fun w => by simp [zeroValue, typeInfo, hi, hz0]⟩
theorem getObj_run {w : World} {b : Nat} {es : Array MapEntry} {c : Nat} (hw : w.heap[b]? = some (.map es c)) : (getObj b).run P w = .ok (.map es c) w := by
  simp [getObj, Sem.run, hw]
theorem rd_look {t key e : TypeId} {a b : Operand} {ok : Bool} {z : V} (hu : P.underlying t = some (.map key e)) (hz : zval P e = some z)
    (hk : evKey P key (fun key => v2 vs (fun m kv => r_look key z ok m kv h k)) = true) : ∃ v, k v = true ∧ RdOk P (.lookup t a b ok) vs h v := by
  obtain ⟨zx, hz1, hz2⟩ := zval_run hz
  obtain ⟨kind, ke, hkind, k1, hke⟩ := evKey_true hk
  obtain ⟨m, kv, rfl, k2⟩ := v2_true k1
  obtain ⟨eq, heq, k3, hck⟩ := hke _ _ k2
  have fin : ∀ (v : V) (yes : Bool), lookR ok v yes k = true →
      (∀ E w x y, GoodS P E h w → den E m = some x → den E kv = some y → ∃ vx, den E v = some vx ∧ (Instr.lookup t x y ok).run P w = .ok (if ok then .tuple #[vx, .bool yes] else vx) w) →
      ∃ v, k v = true ∧ RdOk P (.lookup t a b ok) [m, kv] h v := by
    intro v yes hl hrun
    cases ok with
    | false =>
      refine ⟨v, hl, fun E w ρ o g ho hd => ?_⟩
      obtain ⟨d1, d2⟩ := den2 hd
      obtain ⟨vx, h1, h2⟩ := hrun E w _ _ g d1 d2
      exact ⟨vx, h1, by simp only [execOp, ho, Sem.run_bind, h2, Result.andThen_ok, Sem.run_pure]; rfl⟩
    | true =>
      refine ⟨.tup [v, .bool yes], hl, fun E w ρ o g ho hd => ?_⟩
      obtain ⟨d1, d2⟩ := den2 hd
      obtain ⟨vx, h1, h2⟩ := hrun E w _ _ g d1 d2
      exact ⟨.tuple #[vx, .bool yes], by simp [den, denL, h1], by simp only [execOp, ho, Sem.run_bind, h2, Result.andThen_ok, Sem.run_pure]; rfl⟩
  rcases V.onMap_true k3 with ⟨rfl, k4⟩ | ⟨r, rfl, k4⟩
  · refine fin z false k4 fun E w x y g d1 d2 => ⟨zx, hz1 E, ?_⟩
    simp only [den, Option.some.injEq] at d1; subst d1
    cases ok <;> simp [Instr.lookup, run_underlying hu, hck E y d2, Instr.findKey, run_underlying hkind, Instr.findNow, hz2]
  · obtain ⟨es, c, hg, k5⟩ := H.mapK_true k4
    have hm : ∀ E w x, GoodS P E h w → den E (.map r) = some x → ∃ l es', x = .map (some l) ∧ denM E es = some es' ∧ (getObj l).run P w = .ok (.map es'.toArray c) w := fun E w x g d1 => by
      simp only [den] at d1
      cases hE : E r with
      | none => rw [hE] at d1; cases d1
      | some l =>
        rw [hE] at d1; cases d1
        obtain ⟨l', h3, es', h4, h5⟩ := g r _ hg (by simp)
        rw [hE] at h3; cases h3
        exact ⟨l.bl, es', rfl, h4, getObj_run h5⟩
    rcases findK_true heq k5 with ⟨k6, hf⟩ | ⟨v, k6, hf⟩
    · refine fin z false k6 fun E w x y g d1 d2 => ⟨zx, hz1 E, ?_⟩
      obtain ⟨l, es', rfl, h4, h5⟩ := hm E w x g d1
      cases ok <;> simp [Instr.lookup, run_underlying hu, h5, hck E y d2, Instr.findKey, run_underlying hkind, hf E y es' d2 h4, hz2]
    · refine fin v true k6 fun E w x y g d1 d2 => ?_
      obtain ⟨l, es', rfl, h4, h5⟩ := hm E w x g d1
      obtain ⟨vx, h6, h7⟩ := hf E y es' d2 h4
      obtain ⟨j, h8⟩ := h7 0
      refine ⟨vx, h6, ?_⟩
      cases ok <;> simp [Instr.lookup, run_underlying hu, h5, hck E y d2, Instr.findKey, run_underlying hkind, h8]
end
end Go.Ev

/-
  The evaluator of closed calls: a part.
-/
set_option linter.unusedVariables false
set_option linter.unusedSimpArgs false
namespace Go.Ev
section
variable {P : Program} {vs : List V} {h : H} {k : KV}
theorem fnK_true {f : N} : ∀ {first : List Operand} {vs : List V} {k : List V → List V → Bool},
    (List.rec (motive := fun _ => List V → (List V → List V → Bool) → Bool) (fun vs k => k [] vs) (fun _ _ ih vs k => vh vs (fun v vs => ih vs (fun r s => k (v :: r) s))) first vs k : Bool) = true →
    ∃ r s, vs = r ++ s ∧ r.length = first.length ∧ k r s = true
  | [], vs, k, h => ⟨[], vs, rfl, rfl, h⟩
  | a :: first, vs, k, h => by
    obtain ⟨v, l, rfl, h1⟩ := vh_true (vs := vs) h
    obtain ⟨r, s, rfl, h2, h3⟩ := fnK_true (f := f) (first := first) h1
    exact ⟨v :: r, s, rfl, by simp [h2], h3⟩
theorem rd_makeFunc {f : FuncId} {first cap : Array Operand} (hk : evR.fnK (toN f) first.toList vs k = true) : ∃ v, k v = true ∧ PuOk P (.makeFunc (.func f) first cap) vs v := by
  unfold evR.fnK at hk
  obtain ⟨r, s, rfl, hl, h1⟩ := fnK_true (f := toN f) hk
  refine ⟨_, h1, fun E w ρ o ho hd => ?_⟩
  obtain ⟨y, z, d1, d2, d3⟩ := denL_append.1 hd
  have e : (Op.makeFunc (.func f) first cap).operands.toList.map ρ = first.toList.map ρ ++ cap.toList.map ρ := by simp [Op.operands]
  rw [e] at d3
  obtain ⟨e1, e2⟩ := List.append_inj d3 (by rw [List.length_map, denL_length d1, hl])
  refine ⟨.func (.func f) (first.map ρ) (cap.map ρ), ?_, by simp [execOp, ho, Instr.makeFunc]⟩
  simp only [den, d1, d2, ← e1, ← e2, toN_val]
  congr 2 <;> apply Array.toList_inj.1 <;> simp

/-! Records and arrays, built of parts -/
theorem zipP_true : ∀ {ps : List (Nat × Operand)} {vs : List V} {k : List (Nat × V) → Bool}, zipP ps vs k = true →
    ∃ qs, k qs = true ∧ qs.map (·.1) = ps.map (·.1) ∧ qs.map (·.2) = vs
  | [], vs, k, h => by
    cases vs with
    | nil => exact ⟨[], h, rfl, rfl⟩
    | cons _ _ => exact Bool.noConfusion h
  | p :: ps, vs, k, h => by
    obtain ⟨v, l, rfl, h1⟩ := vh_true (vs := vs) h
    obtain ⟨qs, h2, h3, h4⟩ := zipP_true (ps := ps) h1
    exact ⟨(p.1, v) :: qs, h2, by simp [h3], by simp [h4]⟩
theorem cells_true {v : V} {k : List V → Bool} (hk : v.cells k = true) : ∃ c, k c = true ∧ ∀ E x, den E v = some x → c.all V.isOne = true ∧ denL E c = some x.cells.toList := by
  have one : v.isOne = true → k [v] = true → ∃ c, k c = true ∧ ∀ E x, den E v = some x → c.all V.isOne = true ∧ denL E c = some x.cells.toList := fun h1 h2 => by
    refine ⟨[v], h2, fun E x hx => ⟨by simp [h1], ?_⟩⟩
    have h3 := isOne_den hx
    rw [h1] at h3
    have : x.cells = #[x] := by cases x <;> first | rfl | cases h3
    rw [this]
    exact denL_cons.2 ⟨x, [], hx, by simp [denL], rfl⟩
  cases v with
  | agg l =>
    refine ⟨l, hk, fun E x hx => ?_⟩
    obtain ⟨cs, h1, h2, rfl⟩ := den_agg hx
    exact ⟨h1, by rw [h2]; rfl⟩
  | tup l => exact Bool.noConfusion hk
  | _ => exact one rfl hk
theorem fold_set : ∀ (us cs : List Value) (off j : Nat), off + j + us.length ≤ cs.length →
    (us.zipIdx j).foldl (fun (a : Array Value) (p : Value × Nat) => a.setIfInBounds (off + p.2) p.1) cs.toArray = (cs.take (off + j) ++ us ++ cs.drop (off + j + us.length)).toArray
  | [], cs, off, j, _ => by simp
  | u :: us, cs, off, j, h => by
    simp only [List.length_cons] at h
    have h1 : cs.toArray.setIfInBounds (off + j) u = (cs.set (off + j) u).toArray := by simp
    rw [List.zipIdx_cons, List.foldl_cons, h1, fold_set us (cs.set (off + j) u) off (j + 1) (by rw [List.length_set]; omega)]
    congr 1
    have e1 : (cs.set (off + j) u).take (off + (j + 1)) = cs.take (off + j) ++ [u] := by
      rw [show off + (j + 1) = off + j + 1 by omega, List.take_add_one, List.take_set_of_le (by omega), List.getElem?_set_self (by omega)]
      rfl
    have e2 : (cs.set (off + j) u).drop (off + (j + 1) + us.length) = cs.drop (off + j + (us.length + 1)) := by
      rw [List.drop_set_of_lt (by omega)]
      congr 1
      omega
    rw [e1, e2, List.length_cons]
    simp
theorem fill_one (x : Value) (cs : List Value) (off : Nat) (h : off + x.cells.size ≤ cs.length) :
    x.cells.zipIdx.foldl (fun cs (c, j) => cs.setIfInBounds (off + j) c) cs.toArray = (cs.take off ++ x.cells.toList ++ cs.drop (off + x.cells.size)).toArray := by
  have := fold_set x.cells.toList cs off 0 (by simpa using h)
  simp only [Nat.add_zero, Array.length_toList] at this
  rw [← this, ← Array.foldl_toList]
  congr 1
  simp
theorem all_app {a b : List V} (h1 : a.all V.isOne = true) (h2 : b.all V.isOne = true) : (a ++ b).all V.isOne = true := by rw [List.all_append, h1, h2]; rfl
theorem all_take {c : List V} (h : c.all V.isOne = true) (n : Nat) : (c.take n).all V.isOne = true := List.all_eq_true.2 fun x hx => List.all_eq_true.1 h x (List.mem_of_mem_take hx)
theorem all_drop {c : List V} (h : c.all V.isOne = true) (n : Nat) : (c.drop n).all V.isOne = true := List.all_eq_true.2 fun x hx => List.all_eq_true.1 h x (List.mem_of_mem_drop hx)
theorem fillK_true {pl : Nat → (Nat → Nat → Bool) → Bool} {place : Nat → Option (Nat × Nat)} (hpl : ∀ i k, pl i k = true → ∃ off size, place i = some (off, size) ∧ k off size = true) :
    ∀ {ps : List (Nat × V)} {zs : List V} {k : List V → Bool}, fillK pl ps zs k = true →
      ∃ c, k c = true ∧ c.length = zs.length ∧ ∀ E zs' ps', zs.all V.isOne = true → denL E zs = some zs' → denL E (ps.map (·.2)) = some (ps'.map (·.2)) → ps.map (·.1) = ps'.map (·.1) →
        ∃ c', c.all V.isOne = true ∧ denL E c = some c' ∧ Instr.fill place zs'.toArray ps' = some c'.toArray
  | [], zs, k, hk => ⟨zs, hk, rfl, fun E zs' ps' h0 h1 h2 h3 => by
      have : ps' = [] := by cases ps' <;> first | rfl | cases h3
      subst this
      exact ⟨zs', h0, h1, rfl⟩⟩
  | (i, v) :: ps, zs, k, hk => by
    obtain ⟨off, size, hp, k1⟩ := hpl i _ hk
    obtain ⟨c, k2, hc⟩ := cells_true k1
    rw [lenK_eq] at k2
    obtain ⟨hn, k3⟩ := condK_true k2
    have hn := Nat.eq_of_beq_eq_true hn
    obtain ⟨hb, k4⟩ := putK_true k3
    obtain ⟨d, k5, hdl, hd⟩ := fillK_true hpl (ps := ps) k4
    refine ⟨d, k5, by rw [hdl]; simp; omega, fun E zs' ps' h0 h1 h2 h3 => ?_⟩
    cases ps' with
    | nil => cases h3
    | cons p ps' =>
      simp only [List.map_cons, List.cons.injEq] at h3
      obtain ⟨x, r, d1, d2, d3⟩ := denL_cons.1 h2
      simp only [List.map_cons, List.cons.injEq] at d3
      obtain ⟨d3, d4⟩ := d3
      obtain ⟨c1, c2⟩ := hc E x d1
      have hxl : x.cells.size = c.length := by rw [← Array.length_toList, denL_length c2]
      have hzl := denL_length h1
      obtain ⟨c', e1, e2, e3⟩ := hd E (zs'.take off ++ x.cells.toList ++ zs'.drop (off + c.length)) ps'
        (all_app (all_app (all_take h0 _) c1) (all_drop h0 _))
        (denL_append.2 ⟨_, _, denL_append.2 ⟨_, _, denL_take off h1, c2, rfl⟩, denL_drop _ h1, rfl⟩) (by rw [d2, d4]) h3.2
      refine ⟨c', e1, e2, ?_⟩
      obtain ⟨p1, p2⟩ := p
      simp only at h3 d3
      obtain ⟨rfl, h3⟩ := h3
      subst d3
      have hfill := fill_one p2 zs' off (by rw [hxl]; omega)
      have hno : ¬ (p2.cells.size ≠ size ∨ off + p2.cells.size > zs'.toArray.size) := by
        rw [hxl, List.size_toArray]
        omega
      have hno' : ¬ ((decide (p2.cells.size ≠ size) || decide (off + p2.cells.size > zs'.toArray.size)) = true) := fun e =>
        hno ((Bool.or_eq_true _ _ ▸ e : _ ∨ _).elim (fun e => .inl (of_decide_eq_true e)) (fun e => .inr (of_decide_eq_true e)))
      simp only [Instr.fill, hp]
      rw [if_neg hno', hfill, hxl]
      exact e3
theorem zcells_run {e : TypeId} {z : List V} (hz : zcells P e = some z) : ∃ x : Value, (∀ E, denL E z = some x.cells.toList) ∧ ∀ w, (zeroValue e).run P w = .ok x w := by
  unfold zcells at hz
  cases hi : P.info? e with
  | none => rw [hi] at hz; cases hz
  | some i =>
    rw [hi] at hz
    cases hz0 : i.zero with
    | none => simp [hz0] at hz
    | some x =>
      simp only [Option.bind_some, hz0] at hz
      exact ⟨x, cVs_den 3000 _ z hz, fun w => by simp [zeroValue, typeInfo, hi, hz0]⟩
theorem szs_get : ∀ {fs : List Field} {pl : List (Nat × Nat)}, szs P fs = some pl → ∀ w, (fs.mapM (m := Sem) fun f => do pure (f.offset, ← sizeOf f.type)).run P w = .ok pl w
  | [], pl, h, w => by simp only [szs, Option.some.injEq] at h; subst h; rfl
  | f :: fs, pl, h, w => by
    simp only [szs] at h
    split at h
    · rename_i s r hs hr
      cases h
      simp only [List.mapM_cons, Sem.run_bind, size_run hs, Result.andThen_ok, Sem.run_pure, szs_get hr]
    · cases h
theorem parts_map {ps : Array (Nat × Operand)} {ρ : Operand → Value} {qs : List (Nat × V)} {E : Nm} (h1 : qs.map (·.1) = ps.toList.map (·.1)) (h2 : denL E (qs.map (·.2)) = some ((ps.toList.map (·.2)).map ρ)) :
    denL E (qs.map (·.2)) = some ((ps.map fun (i, x) => (i, ρ x)).toList.map (·.2)) ∧ qs.map (·.1) = (ps.map fun (i, x) => (i, ρ x)).toList.map (·.1) := by
  constructor
  · rw [h2]; simp [List.map_map, Function.comp_def]
  · rw [h1]; simp [List.map_map, Function.comp_def]
theorem rd_build {t : TypeId} {fs : Array Field} {z : List V} {pl : List (Nat × Nat)} {ps : Array (Nat × Operand)} (hu : P.underlying t = some (.struct fs)) (hz : zcells P t = some z) (hone : z.all V.isOne = true) (hs : szs P fs.toList = some pl)
    (hk : zipP ps.toList vs (fun ps => r_build pl z ps k) = true) : ∃ v, k v = true ∧ PuOk P (.build t ps) vs v := by
  obtain ⟨qs, k1, e1, e2⟩ := zipP_true hk
  have hpl : ∀ i k, (fun i k => nthK pl i (fun p => Prod.rec k p) : Nat → (Nat → Nat → Bool) → Bool) i k = true → ∃ off size, (pl.toArray[·]?) i = some (off, size) ∧ k off size = true := fun i k h => by
    obtain ⟨⟨a, b⟩, h1, h2⟩ := nthK_true h
    exact ⟨a, b, by simpa using h1, h2⟩
  obtain ⟨c, k2, _, hc⟩ := fillK_true hpl k1
  refine ⟨_, k2, fun E w ρ o ho hd => ?_⟩
  obtain ⟨x, hz1, hz2⟩ := zcells_run hz
  have eo : (Op.build t ps).operands.toList = ps.toList.map (·.2) := by simp [Op.operands]
  rw [eo, ← e2] at hd
  obtain ⟨p1, p2⟩ := parts_map e1 hd
  obtain ⟨c', c1, c2, c3⟩ := hc E x.cells.toList _ hone (hz1 E) p1 p2
  refine ⟨.agg c'.toArray, agg_den c1 c2, ?_⟩
  have hm : (fs.mapM (m := Sem) fun f => do pure (f.offset, ← sizeOf f.type)).run P w = .ok pl.toArray w := by
    have e : (fs.mapM (m := Sem) fun f => do pure (f.offset, ← sizeOf f.type)) = Functor.map List.toArray (fs.toList.mapM (m := Sem) fun f => do pure (f.offset, ← sizeOf f.type)) := by
      rw [← List.mapM_toArray, Array.toArray_toList]
    rw [e, Sem.run_map, szs_get hs]
    rfl
  simp only [Array.toArray_toList] at c3
  simp only [execOp, ho, Sem.run_bind, Instr.build, hz2, Result.andThen_ok, run_underlying hu, hm, c3, Sem.run_pure]
theorem rd_buildA {t n e s : Nat} {z : List V} {ps : Array (Nat × Operand)} (hu : P.underlying t = some (.array n e)) (hz : zcells P t = some z) (hone : z.all V.isOne = true) (hs : szO P e = some s)
    (hk : zipP ps.toList vs (fun ps => r_buildA s z ps k) = true) : ∃ v, k v = true ∧ PuOk P (.build t ps) vs v := by
  obtain ⟨qs, k1, e1, e2⟩ := zipP_true hk
  have hpl : ∀ i k, (fun i k => natK (Nat.mul i s) (fun o => k o s) : Nat → (Nat → Nat → Bool) → Bool) i k = true → ∃ off size, (fun i => some (i * s, s)) i = some (off, size) ∧ k off size = true := fun i k h => by
    rw [show (fun i k => natK (Nat.mul i s) (fun o => k o s) : Nat → (Nat → Nat → Bool) → Bool) i k = natK (Nat.mul i s) (fun o => k o s) from rfl, natK_eq] at h
    exact ⟨_, _, rfl, h⟩
  obtain ⟨c, k2, _, hc⟩ := fillK_true hpl k1
  refine ⟨_, k2, fun E w ρ o ho hd => ?_⟩
  obtain ⟨x, hz1, hz2⟩ := zcells_run hz
  have eo : (Op.build t ps).operands.toList = ps.toList.map (·.2) := by simp [Op.operands]
  rw [eo, ← e2] at hd
  obtain ⟨p1, p2⟩ := parts_map e1 hd
  obtain ⟨c', c1, c2, c3⟩ := hc E x.cells.toList _ hone (hz1 E) p1 p2
  refine ⟨.agg c'.toArray, agg_den c1 c2, ?_⟩
  simp only [Array.toArray_toList] at c3
  simp only [execOp, ho, Sem.run_bind, Instr.build, hz2, Result.andThen_ok, run_underlying hu, size_run hs, c3, Sem.run_pure]
end
end Go.Ev

/-
  The evaluator of closed calls: a part.
-/
set_option linter.unusedVariables false
set_option linter.unusedSimpArgs false
namespace Go.Ev
section
variable {P : Program} {vs : List V} {h : H} {k : KV}
theorem eqC1_true {c : Bool} {x y : V} {eq ne : Bool} (hk : eqC1 c x y eq ne = true) :
    ∃ r : Bool, cond r eq ne = true ∧ ∀ (E : Nm) (x' y' : Value), den E x = some x' → den E y = some y' →
      (c = true ∧ ∃ (i : IntKind) (a b : Int), x' = .int i a ∧ y' = .int i b ∧ r = (a == b)) ∨ (c = false ∧ ∃ a b, x' = .bool a ∧ y' = .bool b ∧ r = (a == b)) := by
  cases c with
  | true =>
    obtain ⟨i, a, rfl, k1⟩ := V.onInt_true hk
    obtain ⟨j, b, rfl, k2⟩ := V.onInt_true k1
    obtain ⟨h1, k3⟩ := condK_true k2
    have h1 := same_kind h1
    subst h1
    refine ⟨Nat.beq a b, by cases hb : Nat.beq a b <;> (rw [hb] at k3; exact k3), fun E x' y' h1 h2 => .inl ⟨rfl, ?_⟩⟩
    obtain ⟨hm, rfl⟩ := den_int h1
    obtain ⟨hn, rfl⟩ := den_int h2
    refine ⟨_, _, _, rfl, rfl, ?_⟩
    cases hb : Nat.beq a b
    · exact (beq_eq_false_iff_ne.2 (fun e => by rw [(wrap_inj hm hn).1 e, Nat.beq_refl] at hb; cases hb)).symm
    · rw [Nat.eq_of_beq_eq_true hb]; exact (beq_self_eq_true _).symm
  | false =>
    have main : ∀ p q : Bool, x = .bool p → y = .bool q → cond (p == q) eq ne = true → _ := fun p q hx hy hc =>
      (⟨p == q, hc, fun E x' y' h1 h2 => .inr ⟨rfl, p, q, by subst hx; simp only [den, Option.some.injEq] at h1; exact h1.symm, by subst hy; simp only [den, Option.some.injEq] at h2; exact h2.symm, rfl⟩⟩ :
        ∃ r : Bool, cond r eq ne = true ∧ ∀ (E : Nm) (x' y' : Value), den E x = some x' → den E y = some y' →
          (false = true ∧ ∃ (i : IntKind) (a b : Int), x' = .int i a ∧ y' = .int i b ∧ r = (a == b)) ∨ (false = false ∧ ∃ a b, x' = .bool a ∧ y' = .bool b ∧ r = (a == b)))
    rcases V.onBool_true hk with ⟨h1, k1⟩ | ⟨h1, k1⟩ <;> rcases V.onBool_true k1 with ⟨h2, k2⟩ | ⟨h2, k2⟩ <;> exact main _ _ h1 h2 k2
theorem flatS_cons {i : Nat} {f : Field} {l : List Field} {cs : List Bool} (hf : flatS P i (f :: l) = some cs) :
    ∃ c r, cs = c :: r ∧ flatS P (i + 1) l = some r ∧ f.name ≠ "_" ∧ f.offset = i ∧ ((c = false ∧ P.underlying f.type = some .bool) ∨ (c = true ∧ ∃ j, P.underlying f.type = some (.int j))) := by
  simp only [flatS] at hf
  split at hf
  · rename_i r h1 h2 h3
    have hn : f.name ≠ "_" := fun e => by rw [e] at h1; simp at h1
    split at hf
    · rename_i hu; cases hf; exact ⟨_, _, rfl, h3, hn, Nat.eq_of_beq_eq_true h2, .inl ⟨rfl, hu⟩⟩
    · rename_i j hu; cases hf; exact ⟨_, _, rfl, h3, hn, Nat.eq_of_beq_eq_true h2, .inr ⟨rfl, _, hu⟩⟩
    · cases hf
  · cases hf
theorem eqCs_true : ∀ {fs : List Field} {cs : List Bool} {i : Nat} {l m : List V} {eq ne : Bool}, flatS P i fs = some cs → eqCs cs l m eq ne = true →
    ∃ r : Bool, cond r eq ne = true ∧ ∀ (E : Nm) (xs ys : List Value), denL E l = some (xs.drop i) → denL E m = some (ys.drop i) → ∀ (d : Nat) (w : World),
      (Op.eqFields (d + 1) xs.toArray ys.toArray fs).run P w = .ok r w
  | [], cs, i, l, m, eq, ne, hf, hk => by
    simp only [flatS, Option.some.injEq] at hf
    subst hf
    refine ⟨true, ?_, fun E xs ys _ _ d w => rfl⟩
    cases l with
    | nil => cases m with
      | nil => exact hk
      | cons _ _ => exact Bool.noConfusion hk
    | cons _ _ => exact Bool.noConfusion hk
  | f :: fs, cs, i, l, m, eq, ne, hf, hk => by
    obtain ⟨c, r, rfl, hf1, hn, ho, hc⟩ := flatS_cons hf
    cases l with
    | nil => exact Bool.noConfusion hk
    | cons x l =>
      cases m with
      | nil => exact Bool.noConfusion hk
      | cons y m =>
        have hk : eqC1 c x y (eqCs r l m eq ne) ne = true := hk
        obtain ⟨q, hq, hrun⟩ := eqC1_true hk
        have hone : ∀ (E : Nm) (xs ys : List Value) (d : Nat) (w : World), denL E (x :: l) = some (xs.drop i) → denL E (y :: m) = some (ys.drop i) →
            ∃ x' y', (part f.type xs.toArray f.offset).run P w = .ok x' w ∧ (part f.type ys.toArray f.offset).run P w = .ok y' w ∧ (Op.equalIn (d + 1) f.type x' y').run P w = .ok q w ∧
              denL E l = some (xs.drop (i + 1)) ∧ denL E m = some (ys.drop (i + 1)) := by
          intro E xs ys d w h1 h2
          obtain ⟨x', r1, d1, d2, e1⟩ := denL_cons.1 h1
          obtain ⟨y', r2, d3, d4, e2⟩ := denL_cons.1 h2
          have g1 : xs[i]? = some x' := by have : (xs.drop i)[0]? = some x' := by rw [e1]; rfl
                                           rw [List.getElem?_drop] at this; simpa using this
          have g2 : ys[i]? = some y' := by have : (ys.drop i)[0]? = some y' := by rw [e2]; rfl
                                           rw [List.getElem?_drop] at this; simpa using this
          have t1 : r1 = xs.drop (i + 1) := by rw [← List.drop_drop, e1]; rfl
          have t2 : r2 = ys.drop (i + 1) := by rw [← List.drop_drop, e2]; rfl
          have ha : aggO P f.type = some false := by
            unfold aggO
            rcases hc with ⟨_, hu⟩ | ⟨_, j, hu⟩ <;> rw [hu]
          refine ⟨x', y', part_run (.inl ⟨ha, by rw [ho]; exact g1⟩), part_run (.inl ⟨ha, by rw [ho]; exact g2⟩), ?_, t1 ▸ d2, t2 ▸ d4⟩
          rcases hrun E x' y' d1 d3 with ⟨hct, i', a, b, rfl, rfl, rfl⟩ | ⟨hct, a, b, rfl, rfl, rfl⟩
          · rcases hc with ⟨hcf, _⟩ | ⟨_, j, hu⟩
            · rw [hct] at hcf; cases hcf
            · exact run_equalIn_int w d f.type i' j a b hu
          · rcases hc with ⟨_, hu⟩ | ⟨hcf, _⟩
            · exact run_equalIn_bool' w d f.type a b hu
            · rw [hct] at hcf; cases hcf
        cases q with
        | true =>
          obtain ⟨r', h1, h2⟩ := eqCs_true hf1 hq
          refine ⟨r', h1, fun E xs ys d1 d2 d w => ?_⟩
          obtain ⟨x', y', p1, p2, p3, p4, p5⟩ := hone E xs ys d w d1 d2
          simp only [Op.eqFields]
          rw [if_pos hn]
          simp only [Sem.run_bind, p1, p2, p3, Result.andThen_ok, Bool.not_true, Bool.false_eq_true, if_false]
          exact h2 E xs ys p4 p5 d w
        | false =>
          refine ⟨false, hq, fun E xs ys d1 d2 d w => ?_⟩
          obtain ⟨x', y', p1, p2, p3, p4, p5⟩ := hone E xs ys d w d1 d2
          simp only [Op.eqFields]
          rw [if_pos hn]
          simp only [Sem.run_bind, p1, p2, p3, Result.andThen_ok, Bool.not_false, if_true, Sem.run_pure]
theorem flat_guard : ∀ {fs : List Field} {cs : List Bool} {i : Nat} (d : Nat), flatS P i fs = some cs → fs.any (fun f => f.name != "_" && P.eqGuardType (d + 1) f.type) = false
  | [], _, _, _, _ => rfl
  | f :: fs, cs, i, d, hf => by
    obtain ⟨c, r, rfl, hf1, hn, ho, hc⟩ := flatS_cons hf
    rw [List.any_cons, flat_guard d hf1]
    have : P.eqGuardType (d + 1) f.type = false := by
      unfold Program.eqGuardType
      rcases hc with ⟨_, hu⟩ | ⟨_, j, hu⟩ <;> rw [hu]
    rw [this]
    simp
theorem rd_eqA {neg : Bool} {t u : TypeId} {fs : Array Field} {cs : List Bool} {a b : Operand} (hu : P.underlying t = some (.struct fs)) (hs : P.stoodInHeld t = false) (hf : flatS P 0 fs.toList = some cs)
    (hk : v2 vs (fun x y => r_eqA neg cs x y k) = true) : ∃ v, k v = true ∧ PuOk P (.binOp (cond neg .neq .eql) t a b u) vs v := by
  obtain ⟨x, y, rfl, k1⟩ := v2_true hk
  obtain ⟨l, rfl, k2⟩ := V.onAgg_true k1
  obtain ⟨m, rfl, k3⟩ := V.onAgg_true k2
  obtain ⟨r, hr, hrun⟩ := eqCs_true hf k3
  have hv : k (.bool (cond r (Bool.not neg) neg)) = true := by cases r <;> exact hr
  refine rd_equal r hv fun E w x' y' h1 h2 op hop => ?_
  obtain ⟨xs, _, d1, rfl⟩ := den_agg h1
  obtain ⟨ys, _, d2, rfl⟩ := den_agg h2
  have hq : (Op.equal t (.agg xs.toArray) (.agg ys.toArray)).run P w = .ok r w := by
    show (Op.equalIn (9999 + 1) t _ _).run P w = _
    have hfo : P.fieldsOf t = fs := by unfold Program.fieldsOf; rw [hu]
    rw [run_equalIn_struct w 9999 t xs.toArray ys.toArray (by rw [hfo]; exact hu) hs, hfo]
    exact hrun E xs ys (by simpa using d1) (by simpa using d2) 9998 w
  refine ⟨?_, bin_eq hop rfl rfl hq⟩
  have hg : P.eqGuardType P.depth t = false := by
    obtain ⟨n, hn⟩ : ∃ n, P.depth = n + 2 := ⟨2 * (P.types.size + Made.depth), rfl⟩
    rw [hn]
    unfold Program.eqGuardType
    rw [hu]
    simp only
    rw [← Array.any_toList]
    exact flat_guard n hf
  rcases hop with rfl | rfl
  · simp [eqGuard, hg]
  · simp [eqGuard, hg]
end
end Go.Ev

/-
  The evaluator of closed calls: a part.
-/
set_option linter.unusedVariables false
set_option linter.unusedSimpArgs false
namespace Go.Ev
section
variable {P : Program} {vs : List V} {h : H} {k : KV}
theorem zcells1_some {t : TypeId} {z : List V} (hz : zcells1 P t = some z) : zcells P t = some z ∧ z.all V.isOne = true := by
  unfold zcells1 at hz
  split at hz
  · rename_i l hl
    split at hz
    · rename_i ho; cases hz; exact ⟨hl, ho⟩
    · cases hz
  · cases hz
theorem evEq_sound {neg : Bool} {t u : TypeId} {a b : Operand} (hk : v2 vs (fun x y => evEq P neg t a b x y k) = true) :
    ∃ v, k v = true ∧ PuOk P (.binOp (cond neg .neq .eql) t a b u) vs v := by
  unfold evEq at hk
  cases hu : P.underlying t with
  | none => simp only [hu] at hk; obtain ⟨x, y, rfl, hk⟩ := v2_true hk; cases hk
  | some d =>
    rw [hu] at hk
    cases d with
    | int j =>
      cases neg
      · exact rd_num bk_eql (oq_eq false) (fun i m n => by simp [binOp]) hk
      · exact rd_num bk_neq (oq_eq true) (fun i m n => by simp [binOp]) hk
    | bool => exact rd_eqB hu hk
    | string => exact rd_eqS hk
    | pointer e =>
      simp only at hk
      split at hk
      · obtain ⟨x, y, rfl, hk⟩ := v2_true hk; cases hk
      · obtain ⟨x, y, rfl, hk⟩ := v2_true hk; cases hk
      · rename_i x h1 h2
        cases hs : szO P e with
        | none => exact absurd hs h1
        | some s =>
          cases s with
          | zero => exact absurd hs h2
          | succ s => exact rd_eqP hu hs hk
    | slice e => exact rd_eqC (c := .L) hu rfl (fun e => by cases e) hk
    | map e f => exact rd_eqC (c := .M) hu rfl (fun e => by cases e) hk
    | func p r v => exact rd_eqC (c := .F) hu rfl (fun e => by cases e) hk
    | interface ms =>
      simp only at hk
      split at hk
      · rename_i hc
        exact rd_eqC (c := .N) hu rfl (fun _ => by simpa using hc) hk
      · obtain ⟨x, y, rfl, hk⟩ := v2_true hk; cases hk
    | struct fs =>
      simp only at hk
      split at hk
      · rename_i hs
        cases hf : flatS P 0 fs.toList with
        | none => rw [hf] at hk; obtain ⟨x, y, rfl, hk⟩ := v2_true hk; cases hk
        | some cs => rw [hf] at hk; exact rd_eqA hu hs hf hk
      · obtain ⟨x, y, rfl, hk⟩ := v2_true hk; cases hk
    | _ => obtain ⟨x, y, rfl, hk⟩ := v2_true hk; cases hk
theorem evBin_sound {op : BinOp} {t u : TypeId} {a b : Operand} (hk : v2 vs (fun x y => evBin P op t a b x y k) = true) :
    ∃ v, k v = true ∧ PuOk P (.binOp op t a b u) vs v := by
  cases op with
  | eql => exact evEq_sound (neg := false) hk
  | neq => exact evEq_sound (neg := true) hk
  | add => exact rd_num bk_add oq_add (fun i m n => by simp [binOp]) hk
  | sub => exact rd_num bk_sub oq_sub (fun i m n => by simp [binOp]) hk
  | mul => exact rd_bin1 bk_mul (fun i m n => by simp [binOp]) hk
  | quo => exact rd_bin1 bk_quo (fun i m n => by simp [binOp]) hk
  | rem => exact rd_num bk_rem oq_rem (fun i m n => by simp [binOp]) hk
  | and => exact rd_bin1 bk_and (fun i m n => by simp [binOp]) hk
  | or => exact rd_bin1 bk_or (fun i m n => by simp [binOp]) hk
  | xor => exact rd_bin1 bk_xor (fun i m n => by simp [binOp]) hk
  | andNot => exact rd_bin1 bk_andNot (fun i m n => by simp [binOp]) hk
  | lss => exact rd_bin1 bk_lss (fun i m n => by simp [binOp]) hk
  | leq => exact rd_bin1 bk_leq (fun i m n => by simp [binOp]) hk
  | gtr => exact rd_bin1 bk_gtr (fun i m n => by simp [binOp]) hk
  | geq => exact rd_bin1 bk_geq (fun i m n => by simp [binOp]) hk
  | shl => exact rd_bin2 bk_shl (.inl rfl) (fun i m j n => by simp [binOp]) hk
  | shr => exact rd_bin2 bk_shr (.inr rfl) (fun i m j n => by simp [binOp]) hk
theorem evR_sound {op : Op} (hk : evR P op vs h k = true) : ∃ v, k v = true ∧ RdOk P op vs h v ∧ (heapB P op = false → PuOk P op vs v) := by
  have pu : ∀ {op : Op}, (∃ v, k v = true ∧ PuOk P op vs v) → ∃ v, k v = true ∧ RdOk P op vs h v ∧ (heapB P op = false → PuOk P op vs v) := fun ⟨v, h1, h2⟩ => ⟨v, h1, h2.rd h, fun _ => h2⟩
  have rd : ∀ {op : Op}, heapB P op = true → (∃ v, k v = true ∧ RdOk P op vs h v) → ∃ v, k v = true ∧ RdOk P op vs h v ∧ (heapB P op = false → PuOk P op vs v) := fun hb ⟨v, h1, h2⟩ => ⟨v, h1, h2, fun e => by rw [hb] at e; cases e⟩
  unfold evR at hk
  split at hk
  · exact pu (rd_move hk)
  · exact pu (rd_assign hk)
  · exact pu (rd_pick hk)
  · split at hk
    · rename_i fs hu
      obtain ⟨z, hz, hk⟩ := okK_true hk
      obtain ⟨pl, hp, hk⟩ := okK_true hk
      obtain ⟨hz1, hz2⟩ := zcells1_some hz
      exact pu (rd_build hu hz1 hz2 hp hk)
    · rename_i n e hu
      obtain ⟨z, hz, hk⟩ := okK_true hk
      obtain ⟨s, hs, hk⟩ := okK_true hk
      obtain ⟨hz1, hz2⟩ := zcells1_some hz
      exact pu (rd_buildA hu hz1 hz2 hs hk)
    · cases hk
  · split at hk
    · rename_i ha
      obtain ⟨s, hs, hk⟩ := okK_true hk
      exact rd rfl (rd_loadA ha hs hk)
    · rename_i ha; exact rd rfl (rd_load1 ha hk)
    · cases hk
  · exact pu (rd_nilCheck hk)
  · exact pu (evBin_sound hk)
  · exact pu (rd_not hk)
  · split at hk
    · rename_i i j h1 h2; exact pu (rd_conv h1 h2 hk)
    · cases hk
  · split at hk
    · cases hk
    · cases hk
    · rename_i h1 h2
      refine pu (rd_ifc ?_ hk)
      unfold Program.concrete
      revert h1 h2
      generalize P.underlying _ = d
      intro h1 h2
      cases d with
      | none => exact absurd rfl h1
      | some d => cases d <;> first | rfl | exact absurd rfl (h2 _)
  · exact pu (rd_makeFunc hk)
  · cases hk
  · rename_i t a lo hi mx hno
    have hx : hi = none → mx = none := fun e => by
      cases mx with
      | none => rfl
      | some m => exact (hno m e rfl).elim
    split at hk
    · rename_i e hu
      obtain ⟨s, hs, hk⟩ := okK_true hk
      exact pu (rd_slice hu hs hx hk)
    · rename_i n e hu
      obtain ⟨s, hs, hk⟩ := okK_true hk
      exact pu (rd_slarr (.inl hu) hs hx hk)
    · rename_i p hu
      split at hk
      · rename_i n e hp
        obtain ⟨s, hs, hk⟩ := okK_true hk
        exact pu (rd_slarr (.inr ⟨p, hu, hp⟩) hs hx hk)
      · cases hk
    · cases hk
  · split at hk
    · rename_i fs hu
      obtain ⟨fl, hf, hk⟩ := okK_true hk
      split at hk
      · cases hk
      · cases hk
      · rename_i h1 h2
        cases hs : szO P fl.type with
        | none => exact absurd hs h1
        | some s =>
          cases s with
          | zero => exact absurd hs h2
          | succ s => exact pu (rd_faddr hu hf hs hk)
    · cases hk
  · split at hk
    · rename_i fs hu
      obtain ⟨fl, hf, hk⟩ := okK_true hk
      split at hk
      · rename_i ha
        obtain ⟨s, hs, hk⟩ := okK_true hk
        exact pu (rd_fieldA hu hf ha hs hk)
      · rename_i ha; exact pu (rd_field1 hu hf ha hk)
      · cases hk
    · cases hk
  · split at hk
    · rename_i e hu
      obtain ⟨s, hs, hk⟩ := okK_true hk
      exact pu (rd_iaddrS hu hs hk)
    · rename_i n e hu
      obtain ⟨s, hs, hk⟩ := okK_true hk
      exact pu (rd_iaddrA hu hs hk)
    · cases hk
  · split at hk
    · rename_i n e hu
      obtain ⟨s, hs, hk⟩ := okK_true hk
      split at hk
      · rename_i ha; exact pu (rd_indexA hu hs ha hk)
      · rename_i ha; exact pu (rd_index1 hu hs ha hk)
      · cases hk
    · cases hk
  · split at hk
    · rename_i key e hu
      obtain ⟨z, hz, hk⟩ := okK_true hk
      exact rd rfl (rd_look hu hz hk)
    · cases hk
  · exact pu (rd_ext hk)
  · rename_i args ts
    split at hk
    · rename_i t l hl
      have ht : ts = (t :: l).toArray := by rw [← hl]
      subst ht
      split at hk
      · rename_i e hu; exact pu (rd_lenS hu hk)
      · rename_i hu; exact pu (rd_lenT hu hk)
      · rename_i e f hu; exact rd (by simp [heapB, hu]) (rd_lenM hu hk)
      · rename_i n e hu; exact pu (rd_lenC (.inl ⟨e, hu⟩) hk)
      · rename_i p hu
        split at hk
        · rename_i n e hp; exact pu (rd_lenC (.inr ⟨p, e, hu, hp⟩) hk)
        · cases hk
      · cases hk
    · cases hk
  · exact pu (rd_min hk)
  · cases hk
end
end Go.Ev

/-
  The evaluator of closed calls: a part.
-/
set_option linter.unusedVariables false
set_option linter.unusedSimpArgs false
namespace Go.Ev
/-- an operation makes one new object, and yields a value that names it -/
def MkOk (P : Program) (op : Op) (vs : List V) (mk : N → V) (ob : O) : Prop :=
  ob ≠ .dead ∧ ∀ (E : Nm) (w : World) (ρ : Operand → Value) (o : Oper), o.op = op → denL E vs = some (op.operands.toList.map ρ) →
    ∃ (obj : Obj) (l : Loc) (x : Value), l.bl = w.heap.size ∧ (∀ E' w', Ext E E' → w'.heap[l.bl]? = some obj → Stand P E' w' l ob) ∧
      (∀ E' n, E' n = some l → den E' (mk n) = some x) ∧ (execOp ρ o).run P w = .ok (.value x) (w.alloc obj)
theorem flat_rep (z : List Value) : ∀ n, madeCells z.toArray (n * z.length) = (List.replicate n z).flatten.toArray := by
  intro n
  apply Array.ext'
  apply List.ext_getElem?
  intro i
  have key : ∀ n i, i < n * z.length → (List.replicate n z).flatten[i]? = z[i % z.length]? := by
    intro n
    induction n with
    | zero => intro i h; simp at h
    | succ n ih =>
      intro i h
      rw [List.replicate_succ, List.flatten_cons]
      by_cases hi : i < z.length
      · rw [List.getElem?_append_left hi, Nat.mod_eq_of_lt hi]
      · rw [List.getElem?_append_right (by omega), ih (i - z.length) (by rw [Nat.add_mul] at h; omega)]
        congr 1
        rw [Nat.mod_eq_sub_mod (by omega : i ≥ z.length)]
  have hlen : (List.replicate n z).flatten.length = n * z.length := by simp [List.length_flatten]
  by_cases hi : i < n * z.length
  · have hz : 0 < z.length := by
      rcases Nat.eq_zero_or_pos z.length with h0 | h0
      · rw [h0] at hi; simp at hi
      · exact h0
    have hm := Nat.mod_lt i hz
    show _ = (List.replicate n z).flatten[i]?
    rw [key n i hi]
    simp only [madeCells, Array.toList_map, Array.toList_range, List.getElem?_map, List.getElem?_range hi, Option.map_some, List.size_toArray]
    rw [List.getElem?_eq_getElem hm]
    simp [hm]
  · show _ = (List.replicate n z).flatten[i]?
    rw [List.getElem?_eq_none (by rw [Array.length_toList, size_madeCells]; omega), List.getElem?_eq_none (by rw [hlen]; omega)]
theorem denL_rep {E : Nm} {z : List V} {x : List Value} (hz : denL E z = some x) : ∀ n, denL E (List.replicate n z).flatten = some (List.replicate n x).flatten
  | 0 => by simp [denL]
  | n + 1 => by
    rw [List.replicate_succ, List.flatten_cons, List.replicate_succ, List.flatten_cons]
    exact denL_append.2 ⟨_, _, hz, denL_rep hz n, rfl⟩
theorem all_rep {z : List V} (hz : z.all V.isOne = true) (n : Nat) : (List.replicate n z).flatten.all V.isOne = true := by
  refine List.all_eq_true.2 fun x hx => ?_
  obtain ⟨l, h1, h2⟩ := List.mem_flatten.1 hx
  rw [List.eq_of_mem_replicate h1] at h2
  exact List.all_eq_true.1 hz x h2
theorem zs1_some {P : Program} {t : TypeId} {z : List V} (hz : zs1 P t = some z) :
    ∃ i x, P.info? t = some i ∧ i.zero = some x ∧ z.all V.isOne = true ∧ (∀ E, denL E z = some x.cells.toList) ∧ i.size = z.length ∧ i.bytes ≤ 1000000 ∧ x.cells.size = i.size := by
  unfold zs1 at hz
  split at hz
  · rename_i z' s b h1 h2 h3
    split at hz
    · rename_i hl
      cases hz
      obtain ⟨h4, h5⟩ := zcells1_some h1
      unfold szO at h2
      unfold byO at h3
      unfold zcells at h4
      cases hi : P.info? t with
      | none => rw [hi] at h2; cases h2
      | some i =>
        rw [hi] at h2 h3 h4
        cases h2
        cases hz0 : i.zero with
        | none => simp [hz0] at h4
        | some x =>
          simp only [Option.bind_some, hz0] at h4
          have hd := cVs_den 3000 _ z h4
          simp only at h3
          split at h3
          · rename_i hb
            have hlen := Nat.eq_of_beq_eq_true hl
            refine ⟨i, x, rfl, hz0, h5, hd, hlen.symm, ble_iff.1 hb, ?_⟩
            have := denL_length (hd (fun _ => none))
            rw [Array.length_toList] at this
            omega
          · cases h3
    · cases hz
  · cases hz
section
variable {P : Program} {vs : List V} {h : H} {k : KO}
theorem stand_row {e : Nat} {c : List V} {cs : List Value} {E : Nm} {l : Loc} (h1 : c.all V.isOne = true) (h2 : denL E c = some cs) (h0 : l.of = 0) :
    ∀ E' w', Ext E E' → w'.heap[l.bl]? = some (.cells cs.toArray e) → Stand P E' w' l (.row e c false) := fun E' w' hx hw =>
  ⟨h0, cs, [], h1, denL_ext hx c cs h2, by rw [hw, List.append_nil], rfl⟩
def locOf (n cp : Nat) : Loc := ⟨n, cp, default, .bool false, 0⟩
theorem mk_alloc {e : TypeId} {z : List V} (hz : zcells1 P e = some z) (hk : a_alloc e z k = true) : ∃ mk ob, k mk ob = true ∧ MkOk P (.alloc e) vs mk ob := by
  obtain ⟨hz1, hz2⟩ := zcells1_some hz
  obtain ⟨x, hz3, hz4⟩ := zcells_run hz1
  refine ⟨_, _, hk, (by simp), fun E w ρ o ho hd => ⟨.cells x.cells e, locOf w.heap.size 0, .pointer (some ⟨w.heap.size, 0, none⟩), rfl, fun E' w' hx hw => ?_, fun E' n hn => by simp [den, hn, locOf], ?_⟩⟩
  · exact stand_row hz2 (hz3 E) rfl E' w' hx (by simpa using hw)
  · simp [execOp, ho, Instr.alloc, hz4, newVar, newRow]
theorem mk_box {e : TypeId} {a : Operand} (hk : v1 vs (fun x => a_box e x k) = true) : ∃ mk ob, k mk ob = true ∧ MkOk P (.box e a) vs mk ob := by
  obtain ⟨v, rfl, k1⟩ := v1_true hk
  obtain ⟨c, k2, hc⟩ := cells_true k1
  refine ⟨_, _, k2, (by simp), fun E w ρ o ho hd => ?_⟩
  obtain ⟨c1, c2⟩ := hc E _ (den1 hd)
  refine ⟨.cells (ρ a).cells e, locOf w.heap.size 0, .pointer (some ⟨w.heap.size, 0, none⟩), rfl, fun E' w' hx hw => ?_, fun E' n hn => by simp [den, hn, locOf], ?_⟩
  · exact stand_row c1 c2 rfl E' w' hx (by simpa using hw)
  · simp [execOp, ho, Instr.box, newVar, newRow]
theorem mk_map {t : TypeId} (hk : a_mkmap k = true) : ∃ mk ob, k mk ob = true ∧ MkOk P (.makeMap t none) vs mk ob := by
  refine ⟨_, _, hk, (by simp), fun E w ρ o ho hd => ⟨.map #[] 0, locOf w.heap.size 0, .map (some w.heap.size), rfl, fun E' w' hx hw => ⟨[], by simp [denM], hw⟩, fun E' n hn => by simp [den, hn, locOf], ?_⟩⟩
  simp [execOp, ho, Instr.makeMap]
theorem mk_mksl {t e : TypeId} {z : List V} {a b : Operand} (hu : P.underlying t = some (.slice e)) (hz : zs1 P e = some z) (hk : v2 vs (fun l c => a_mksl e z l c k) = true) :
    ∃ mk ob, k mk ob = true ∧ MkOk P (.makeSlice t a b) vs mk ob := by
  obtain ⟨x, y, rfl, k1⟩ := v2_true hk
  obtain ⟨j, l, rfl, hl, k2⟩ := V.onNat_true k1
  obtain ⟨j', c, rfl, hc, k3⟩ := V.onNat_true k2
  obtain ⟨h1, k4⟩ := condK_true k3
  obtain ⟨h2, k5⟩ := condK_true k4
  rw [repK_eq] at k5
  have h1 := ble_iff.1 h1
  have h2 := ble_iff.1 h2
  obtain ⟨i, zx, hi, hz0, hone, hden, hsz, hby, hcs⟩ := zs1_some hz
  refine ⟨_, _, k5, (by simp), fun E w ρ o ho hd => ?_⟩
  obtain ⟨d1, d2⟩ := den2 hd
  obtain ⟨_, e1⟩ := den_int d1
  obtain ⟨_, e2⟩ := den_int d2
  rw [wrap_pos hl] at e1
  rw [wrap_pos hc] at e2
  have hb : (i.bytes : Int) * (c : Int) ≤ 281474976710656 := by
    have : i.bytes * c ≤ 1000000 * 1000000 := Nat.mul_le_mul hby h2
    have : ((i.bytes * c : Nat) : Int) ≤ 281474976710656 := by omega
    rwa [Int.natCast_mul] at this
  have hr := run_make (P := P) w t e i zx hu hi hz0 j j' (l : Int) (c : Int) (by omega) (by omega) hb (by omega)
  refine ⟨.cells (madeCells zx.cells (c * i.size)) e, locOf w.heap.size c, .slice (some ⟨w.heap.size, 0, none⟩) l c, rfl, fun E' w' hx hw => ?_, fun E' n hn => ?_, ?_⟩
  · refine stand_row (all_rep hone c) (denL_rep (hden E) c) rfl E' w' hx ?_
    have e0 : madeCells zx.cells (c * i.size) = (List.replicate c zx.cells.toList).flatten.toArray := by
      have := flat_rep zx.cells.toList c
      rw [Array.toArray_toList, Array.length_toList, hcs] at this
      exact this
    rw [hw, e0]
  · simp only [den, hn]
    rw [if_pos h1]
    simp [locOf]
  · simp only [execOp, ho, e1, e2, Sem.run_bind, hr, Result.andThen_ok, Sem.run_pure, Int.toNat_natCast]
theorem mk_buildSl {t e s n : Nat} {z : List V} {ps : Array (Nat × Operand)} (hu : P.underlying t = some (.slice e)) (hz : zs1 P e = some z) (hs : szO P e = some s) (hn : Nat.ble (n * s) 16777216 = true)
    (hk : zipP ps.toList vs (fun ps => repK z n (fun z => a_buildSl e s z n ps k)) = true) : ∃ mk ob, k mk ob = true ∧ MkOk P (.buildSlice t n ps) vs mk ob := by
  obtain ⟨qs, k1, e1, e2⟩ := zipP_true hk
  rw [repK_eq] at k1
  have hpl : ∀ i k, (fun i k => natK (Nat.mul i s) (fun o => k o s) : Nat → (Nat → Nat → Bool) → Bool) i k = true → ∃ off size, (fun i => some (i * s, s)) i = some (off, size) ∧ k off size = true := fun i k h => by
    rw [show (fun i k => natK (Nat.mul i s) (fun o => k o s) : Nat → (Nat → Nat → Bool) → Bool) i k = natK (Nat.mul i s) (fun o => k o s) from rfl, natK_eq] at h
    exact ⟨_, _, rfl, h⟩
  obtain ⟨c, k2, _, hc⟩ := fillK_true hpl k1
  obtain ⟨i, zx, hi, hz0, hone, hden, hsz, hby, hcs⟩ := zs1_some hz
  have hsi : s = i.size := by unfold szO at hs; rw [hi] at hs; cases hs; rfl
  have hn := ble_iff.1 hn
  refine ⟨_, _, k2, (by simp), fun E w ρ o ho hd => ?_⟩
  have eo : (Op.buildSlice t n ps).operands.toList = ps.toList.map (·.2) := by simp [Op.operands]
  rw [eo, ← e2] at hd
  obtain ⟨p1, p2⟩ := parts_map e1 hd
  obtain ⟨c', c1, c2, c3⟩ := hc E (List.replicate n zx.cells.toList).flatten _ (all_rep hone n) (denL_rep (hden E) n) p1 p2
  have e0 : (Array.range (n * s)).map (zx.cells[· % zx.cells.size]!) = (List.replicate n zx.cells.toList).flatten.toArray := by
    have := flat_rep zx.cells.toList n
    rw [Array.toArray_toList, Array.length_toList, hcs, ← hsi] at this
    exact this
  rw [← e0] at c3
  refine ⟨.cells c'.toArray e, locOf w.heap.size n, .slice (some ⟨w.heap.size, 0, none⟩) n n, rfl, fun E' w' hx hw => stand_row c1 c2 rfl E' w' hx hw, fun E' m hm => ?_, ?_⟩
  · simp only [den, hm]
    rw [if_pos (Nat.le_refl n)]
    simp [locOf]
  · have hzr : (zeroValue e).run P w = .ok zx w := by simp [zeroValue, typeInfo, hi, hz0]
    have hbs : (Instr.buildSlice t n (ps.map fun (i, x) => (i, ρ x))).run P w = .ok (.slice (some ⟨w.heap.size, 0, none⟩) n n) (w.alloc (.cells c'.toArray e)) := by
      unfold Instr.buildSlice
      simp only [Sem.run_bind, run_underlying hu, Result.andThen_ok, size_run hs]
      rw [if_neg (by omega)]
      by_cases h0 : n * s = 0
      · have e3 : (Array.range (n * s)).map ((#[] : Array Value)[· % (#[] : Array Value).size]!) = (Array.range (n * s)).map (zx.cells[· % zx.cells.size]!) := by rw [h0, Array.range_zero']; simp
        rw [if_pos h0]
        simp only [Sem.run_pure, Sem.run_bind, Result.andThen_ok, e3, c3, newRow, run_newObj]
        rfl
      · rw [if_neg h0]
        simp only [Sem.run_pure, Sem.run_bind, hzr, Result.andThen_ok, c3, newRow, run_newObj]
        rfl
    simp only [execOp, ho, Sem.run_bind, hbs, Result.andThen_ok, Sem.run_pure]
theorem evA_sound {op : Op} (hk : evA P op vs k = true) : ∃ mk ob, k mk ob = true ∧ MkOk P op vs mk ob := by
  unfold evA at hk
  split at hk
  · obtain ⟨z, hz, hk⟩ := okK_true hk
    exact mk_alloc hz hk
  · exact mk_box hk
  · split at hk
    · rename_i e hu
      obtain ⟨z, hz, hk⟩ := okK_true hk
      obtain ⟨s, hs, hk⟩ := okK_true hk
      split at hk
      · rename_i hn; exact mk_buildSl hu hz hs hn hk
      · cases hk
    · cases hk
  · exact mk_map hk
  · split at hk
    · rename_i e hu
      obtain ⟨z, hz, hk⟩ := okK_true hk
      exact mk_mksl hu hz hk
    · cases hk
  · cases hk
end
end Go.Ev

/-
  The evaluator of closed calls: a part.
-/
set_option linter.unusedVariables false
set_option linter.unusedSimpArgs false
namespace Go.Ev
/-- an operation changes the heap: h becomes h', and v is yielded -/
def XdOk (P : Program) (op : Op) (vs : List V) (h : H) (v : V) (h' : H) : Prop :=
  ∀ E w ρ (o : Oper), Good P E h w → o.op = op → denL E vs = some (op.operands.toList.map ρ) →
    ∃ E' w' x nx, Step P E h w E' h' w' ∧ den E' v = some x ∧ (execOp ρ o).run P w = .ok nx w' ∧ (nx = .value x ∨ (nx = .skip ∧ x = undef))
theorem heap_setCell (w : World) (b o : Nat) (v : Value) {cs : List Value} {e : TypeId} {fz : Nat × Nat} (hw : w.heap[b]? = some (.cells cs.toArray e fz)) :
    (w.setCell ⟨b, o, none⟩ v).heap[b]? = some (.cells (cs.set o v).toArray e fz) := by
  simp only [World.setCell, Array.getElem?_modify, if_true, hw, Option.map_some]
  simp
theorem heap_setCells (b : Nat) {e : TypeId} {fz : Nat × Nat} : ∀ (vs : List Value) (o : Nat) (w : World) (cs : List Value), w.heap[b]? = some (.cells cs.toArray e fz) → o + vs.length ≤ cs.length →
    (w.setCells b o vs).heap[b]? = some (.cells (cs.take o ++ vs ++ cs.drop (o + vs.length)).toArray e fz)
  | [], o, w, cs, hw, _ => by rw [World.setCells, hw]; simp
  | v :: vs, o, w, cs, hw, hl => by
    simp only [List.length_cons] at hl
    have h1 := heap_setCell w b o v hw
    have h2 := heap_setCells b vs (o + 1) (w.setCell ⟨b, o, none⟩ v) (cs.set o v) h1 (by rw [List.length_set]; omega)
    rw [World.setCells, h2]
    congr 2
    have e1 : (cs.set o v).take (o + 1) = cs.take o ++ [v] := by
      rw [List.take_add_one, List.take_set_of_le (by omega), List.getElem?_set_self (by omega)]
      rfl
    have e2 : (cs.set o v).drop (o + 1 + vs.length) = cs.drop (o + (vs.length + 1)) := by
      rw [List.drop_set_of_lt (by omega)]
      congr 1
      omega
    rw [e1, e2, List.length_cons]
    simp
theorem size_setCells (b : Nat) : ∀ (vs : List Value) (o : Nat) (w : World), (w.setCells b o vs).heap.size = w.heap.size
  | [], _, _ => rfl
  | v :: vs, o, w => by rw [World.setCells, size_setCells b vs, World.size_setCell]
theorem tape_setCells (b : Nat) : ∀ (vs : List Value) (o : Nat) (w : World), (w.setCells b o vs).tape = w.tape
  | [], _, _ => rfl
  | v :: vs, o, w => by rw [World.setCells, tape_setCells b vs]; rfl
theorem heap_setCells_ne (b : Nat) : ∀ (vs : List Value) (o : Nat) (w : World) (i : Nat), i ≠ b → (w.setCells b o vs).heap[i]? = w.heap[i]?
  | [], _, _, _, _ => rfl
  | v :: vs, o, w, i, hi => by
    rw [World.setCells, heap_setCells_ne b vs (o + 1) _ i hi, Below.heap_setCell' w b o v i hi]
 where
  Below.heap_setCell' (w : World) (b o : Nat) (v : Value) (i : Nat) (hi : i ≠ b) : (w.setCell ⟨b, o, none⟩ v).heap[i]? = w.heap[i]? := by
    simp only [World.setCell, Array.getElem?_modify]
    rw [if_neg (Ne.symm hi)]
section
variable {P : Program} {vs : List V} {h : H} {k : KH}
theorem store_run {w : World} {b o : Nat} {cs : List Value} {e : TypeId} {us : List Value} (hw : w.heap[b]? = some (.cells cs.toArray e (0, 0))) (hl : o + us.length ≤ cs.length) (h1 : ∀ u ∈ us, u.oneCell' = true) :
    (storeCells ⟨b, o, none⟩ us).run P w = .ok () (w.setCells b o us) := by
  have := run_storeCells_cells (P := P) b o us 0 w (fun j hj => by
    rw [cell_of hw, Nat.add_zero, List.getElem?_eq_getElem (by omega)]; rfl) (fun j hj => by
    simp [World.frozen?, hw]) h1
  simpa using this
/-- cells of a row are written -/
theorem step_store {E : Nm} {w : World} (g : Good P E h w) {b : N} {l : Loc} {e : Nat} {c : List V} {tl : Bool} {o : Nat} {us : List V} {us' : List Value}
    (hg : T.get b h.t = some (.row e c tl)) (hE : E b = some l) (hl : o + us.length ≤ c.length) (hone : us.all V.isOne = true) (hd : denL E us = some us') :
    (storeCells ⟨l.bl, l.of + o, none⟩ us').run P w = .ok () (w.setCells l.bl o us') ∧
    Step P E h w E (h.put b (.row e (c.take o ++ us ++ c.drop (o + us.length)) tl)) (w.setCells l.bl o us') := by
  obtain ⟨l', h3, h0, cs, rest, h4, h5, h6, h7⟩ := g.stand b _ hg (by simp)
  rw [hE] at h3; cases h3
  rw [h0, Nat.zero_add]
  have hcl := denL_length h5
  have hul := denL_length hd
  refine ⟨store_run h6 (by rw [List.length_append]; omega) (allOne_den hd hone), ?_⟩
  refine Step.put g hg (by simp) hE (by simp) ?_ (fun i hi => heap_setCells_ne _ us' o w i hi) (size_setCells _ us' o w) (World.os_setCells w _ _ _) (tape_setCells _ us' o w) (World.output_setCells w _ _ _)
  refine ⟨h0, cs.take o ++ us' ++ cs.drop (o + us.length), rest, all_app (all_app (all_take h4 _) hone) (all_drop h4 _), ?_, ?_, ?_⟩
  · exact denL_append.2 ⟨_, _, denL_append.2 ⟨_, _, denL_take o h5, hd, rfl⟩, denL_drop _ h5, rfl⟩
  · rw [heap_setCells l.bl us' o w _ h6 (by rw [List.length_append]; omega)]
    congr 2
    rw [List.take_append_of_le_length (by omega), List.drop_append_of_le_length (by omega), hul]
    simp
  · have hlen : (cs.take o ++ us' ++ cs.drop (o + us.length)).length = cs.length := by
      simp only [List.length_append, List.length_take, List.length_drop]
      omega
    rw [hlen]
    exact h7
theorem onone_true {v : V} {k : Bool} (hk : v.one k = true) : v.isOne = true ∧ k = true := by
  cases v <;> first | exact ⟨rfl, hk⟩ | exact Bool.noConfusion hk
theorem xd_store1 {t : TypeId} {a b : Operand} (hs : szO P t = some 1) (hk : v2 vs (fun p v => x_store1 p v h k) = true) : ∃ v h', k v h' = true ∧ XdOk P (.store t a b) vs h v h' := by
  obtain ⟨p, v, rfl, k1⟩ := v2_true hk
  obtain ⟨b', o', rfl, k2⟩ := V.onPtr_true k1
  obtain ⟨h1, k3⟩ := onone_true k2
  obtain ⟨e, c, tl, hg, hl, k4⟩ := H.storeK_true k3
  refine ⟨_, _, k4, fun E w ρ o g ho hd => ?_⟩
  obtain ⟨d1, d2⟩ := den2 hd
  obtain ⟨l, e1, e2⟩ := den_ptr d1
  obtain ⟨s1, s2⟩ := step_store g hg e1 hl (us := [v]) (us' := [ρ b]) (by simp [h1]) (denL_cons.2 ⟨_, _, d2, by simp [denL], rfl⟩)
  refine ⟨_, _, undef, .skip, s2, by simp [V.undef, den, denL, undef], ?_, .inr ⟨rfl, rfl⟩⟩
  have hc : (ρ b).cells = #[ρ b] := by
    have := isOne_den d2
    rw [h1] at this
    cases hb : ρ b <;> first | rfl | (rw [hb] at this; cases this)
  simp [execOp, ho, e2, Instr.storeAt, Instr.sureAddr, storeVar, hc, size_run hs, s1]
theorem xd_storeA {t : TypeId} {s : Nat} {a b : Operand} (hs : szO P t = some s) (hk : v2 vs (fun p v => x_storeA s p v h k) = true) : ∃ v h', k v h' = true ∧ XdOk P (.store t a b) vs h v h' := by
  obtain ⟨p, v, rfl, k1⟩ := v2_true hk
  obtain ⟨b', o', rfl, k2⟩ := V.onPtr_true k1
  obtain ⟨us, rfl, k3⟩ := V.onAgg_true k2
  rw [lenK_eq] at k3
  obtain ⟨hn, k3⟩ := condK_true k3
  have hn := Nat.eq_of_beq_eq_true hn
  obtain ⟨e, c, tl, hg, hl, k4⟩ := H.storeK_true k3
  refine ⟨_, _, k4, fun E w ρ o g ho hd => ?_⟩
  obtain ⟨d1, d2⟩ := den2 hd
  obtain ⟨l, e1, e2⟩ := den_ptr d1
  obtain ⟨us', h1, h2, h3⟩ := den_agg d2
  obtain ⟨s1, s2⟩ := step_store g hg e1 hl h1 h2
  refine ⟨_, _, undef, .skip, s2, by simp [V.undef, den, denL, undef], ?_, .inr ⟨rfl, rfl⟩⟩
  have hul := denL_length h2
  simp [execOp, ho, e2, h3, Instr.storeAt, Instr.sureAddr, storeVar, Value.cells, size_run hs, hul, hn, s1]
/-! Maps -/
theorem setObj_run {w : World} {b : Nat} {es es' : Array MapEntry} {c c' : Nat} (hw : w.heap[b]? = some (.map es c)) :
    (setObj b (.map es' c')).run P w = .ok () { w with heap := w.heap.setIfInBounds b (.map es' c') } := by
  simp [setObj, Sem.run, hw]
theorem step_map {E : Nm} {w : World} (g : Good P E h w) {r : N} {l : Loc} {es es2 : List (V × V × Nat)} {c c2 : Nat} {es' es2' : List MapEntry}
    (hg : T.get r h.t = some (.map es c)) (hE : E r = some l) (hw : w.heap[l.bl]? = some (.map es'.toArray c)) (hd : denM E es2 = some es2') :
    (setObj l.bl (.map es2'.toArray c2)).run P w = .ok () { w with heap := w.heap.setIfInBounds l.bl (.map es2'.toArray c2) } ∧
    Step P E h w E (h.put r (.map es2 c2)) { w with heap := w.heap.setIfInBounds l.bl (.map es2'.toArray c2) } := by
  have hlt : l.bl < w.heap.size := (Array.getElem?_eq_some_iff.1 hw).1
  refine ⟨setObj_run hw, Step.put g hg (by simp) hE (by simp) ⟨es2', hd, ?_⟩ (fun b hb => ?_) (by simp) rfl rfl rfl⟩
  · show (w.heap.setIfInBounds l.bl _)[l.bl]? = _
    rw [Array.getElem?_setIfInBounds_self_of_lt hlt]
  · show (w.heap.setIfInBounds l.bl _)[b]? = _
    rw [Array.getElem?_setIfInBounds_ne (Ne.symm hb)]
theorem map_stand {E : Nm} {w : World} (g : Good P E h w) {r : N} {es : List (V × V × Nat)} {c : Nat} (hg : T.get r h.t = some (.map es c)) {x : Value} (hx : den E (.map r) = some x) :
    ∃ l es', E r = some l ∧ x = .map (some l.bl) ∧ denM E es = some es' ∧ w.heap[l.bl]? = some (.map es'.toArray c) := by
  simp only [den] at hx
  cases hE : E r with
  | none => rw [hE] at hx; cases hx
  | some l =>
    rw [hE] at hx; cases hx
    obtain ⟨l', h3, es', h4, h5⟩ := g.stand r _ hg (by simp)
    rw [hE] at h3; cases h3
    exact ⟨l, es', rfl, rfl, h4, h5⟩
theorem denM_append {E : Nm} : ∀ {l : List (V × V × Nat)} {m : List (V × V × Nat)} {x y : List MapEntry}, denM E l = some x → denM E m = some y → denM E (l ++ m) = some (x ++ y)
  | [], m, x, y, h1, h2 => by simp only [denM, Option.some.injEq] at h1; subst h1; simpa using h2
  | (a, v, n) :: l, m, x, y, h1, h2 => by
    obtain ⟨p, q, r, h3, h4, h5, rfl⟩ := denM_cons.1 h1
    exact denM_cons.2 ⟨p, q, r ++ y, h3, h4, denM_append h5 h2, rfl⟩
theorem den_undef (E : Nm) : den E V.undef = some undef := by simp [V.undef, den, denL, undef]
theorem mupd_run {t key e : TypeId} {kind : TypeDesc} {ke : V → (Tst → Bool) → Bool} (hu : P.underlying t = some (.map key e)) (hkind : P.underlying key = some kind)
    (hk : v3 vs (fun m kv v => x_mupd ke m kv v h k) = true) (hke : ∀ (kv : V) (k : Tst → Bool), ke kv k = true → ∃ eq, TstOk kind kv eq ∧ k eq = true ∧
      ∀ E x, den E kv = some x → ∀ (b : Bool) (w : World), (Instr.checkKey b 10000 key x).run P w = .ok () w) :
    ∃ v h', k v h' = true ∧ ∃ m kv val, vs = [m, kv, val] ∧ v = V.undef ∧ ∀ E w x y z, Good P E h w → den E m = some x → den E kv = some y → den E val = some z →
      ∃ w', Step P E h w E h' w' ∧ (Instr.mapUpdate t x y z).run P w = .ok () w' := by
  obtain ⟨m, kv, val, rfl, k1⟩ := v3_true hk
  obtain ⟨eq, heq, k2, hck⟩ := hke _ _ k1
  rcases V.onMap_true k2 with ⟨rfl, k3⟩ | ⟨r, rfl, k3⟩
  · cases k3
  obtain ⟨es, c, hg, k4⟩ := H.mapK_true k3
  rcases updK_true heq k4 with ⟨k5, hf⟩ | ⟨es2, j, k5, hf⟩
  · rw [appK_eq, natK_eq, H.putK_eq] at k5
    refine ⟨_, _, k5, _, _, _, rfl, rfl, fun E w x y z g d1 d2 d3 => ?_⟩
    obtain ⟨l, es', hE, rfl, h4, h5⟩ := map_stand g hg d1
    obtain ⟨s1, s2⟩ := step_map g (c2 := c + 1) hg hE h5 (denM_append h4 (denM_cons.2 ⟨y, z, [], d2, d3, by simp [denM], rfl⟩ : denM E [(kv, val, c)] = some [{ key := y, val := z, born := c }]))
    refine ⟨_, s2, ?_⟩
    have e0 : es'.toArray.push (⟨y, z, c⟩ : MapEntry) = (es' ++ [(⟨y, z, c⟩ : MapEntry)]).toArray := by simp
    simp only [Instr.mapUpdate, Sem.run_bind, run_underlying hu, Result.andThen_ok, getObj_run h5, hck E y d2, Instr.findKey, run_underlying hkind, hf E y es' d2 h4, Sem.run_pure, e0, s1]
  · rw [H.putK_eq] at k5
    refine ⟨_, _, k5, _, _, _, rfl, rfl, fun E w x y z g d1 d2 d3 => ?_⟩
    obtain ⟨l, es', hE, rfl, h4, h5⟩ := map_stand g hg d1
    obtain ⟨h6, ⟨en, h7, h8⟩, h9⟩ := hf E y z es' d2 d3 h4
    obtain ⟨s1, s2⟩ := step_map g (c2 := c) hg hE h5 h9
    refine ⟨_, s2, ?_⟩
    obtain ⟨q, h10⟩ := h6 0
    rw [Nat.zero_add] at h10
    have h7' : (es'.toArray[j]?).map (·.key) = some en.key := by simp [h7]
    have e0 : es'.toArray.modify j (fun e => { e with key := y, val := z }) = (es'.modify j fun e => { e with key := y, val := z }).toArray := by simp
    simp only [Instr.mapUpdate, Sem.run_bind, run_underlying hu, Result.andThen_ok, getObj_run h5, hck E y d2, Instr.findKey, run_underlying hkind, h10, Sem.run_pure, h7', Option.getD_some, Instr.keyThatStays]
    rw [if_pos h8]
    simp only [Sem.run_pure, Result.andThen_ok, e0, s1]
theorem xd_mupd {op : Op} {t key e : TypeId} {a b c : Operand} (hop : op = .mapUpdate t a b c ∨ op = .insert t a b c) (hu : P.underlying t = some (.map key e))
    (hk : evKey P key (fun key => v3 vs (fun m kv v => x_mupd key m kv v h k)) = true) : ∃ v h', k v h' = true ∧ XdOk P op vs h v h' := by
  obtain ⟨kind, ke, hkind, k1, hke⟩ := evKey_true hk
  obtain ⟨v, h', k2, m, kv, val, rfl, rfl, hrun⟩ := mupd_run hu hkind k1 hke
  refine ⟨_, _, k2, fun E w ρ o g ho hd => ?_⟩
  have hd' : denL E [m, kv, val] = some [ρ a, ρ b, ρ c] := by rcases hop with rfl | rfl <;> exact hd
  obtain ⟨d1, d2, d3⟩ := den3 hd'
  obtain ⟨w', s1, s2⟩ := hrun E w _ _ _ g d1 d2 d3
  refine ⟨E, w', undef, .skip, s1, den_undef E, ?_, .inr ⟨rfl, rfl⟩⟩
  rcases hop with rfl | rfl <;> simp only [execOp, ho, Sem.run_bind, s2, Result.andThen_ok, Sem.run_pure]
theorem call_run {b : Builtin} {o : Oper} {ρ : Operand → Value} {args : Array Operand} {ts : Array TypeId} {w w' : World} {v : Value} (ho : o.op = .call { callee := .builtin b, args := args, argTypes := ts })
    {f : Sem Value} (hb : ∀ cs, builtin b ts o.type cs (args.map ρ) = (do pure (.value (← f)))) (hr : f.run P w = .ok v w') : (execOp ρ o).run P w = .ok (.value v) w' := by
  simp only [execOp, ho, resolve, Sem.run_bind, Sem.run_pure, Result.andThen_ok, invoke, hb, hr]
theorem args2 {b : Builtin} {args : Array Operand} {ρ : Operand → Value} {x y : V} {E : Nm} {ts : Array TypeId} (hd : denL E [x, y] = some ((Op.call { callee := .builtin b, args := args, argTypes := ts }).operands.toList.map ρ)) :
    ∃ p q, den E x = some p ∧ den E y = some q ∧ args.map ρ = #[p, q] := by
  have e : (Op.call { callee := .builtin b, args := args, argTypes := ts }).operands.toList = args.toList := by simp [Op.operands, Call.operands]
  rw [e] at hd
  obtain ⟨p, r, h1, h2, h3⟩ := denL_cons.1 hd
  obtain ⟨q, r', h4, h5, h6⟩ := denL_cons.1 h2
  simp only [denL, Option.some.injEq] at h5
  subst h5; subst h6
  exact ⟨p, q, h1, h4, by apply Array.toList_inj.1; rw [Array.toList_map, h3]⟩
theorem args1 {b : Builtin} {args : Array Operand} {ρ : Operand → Value} {x : V} {E : Nm} {ts : Array TypeId} (hd : denL E [x] = some ((Op.call { callee := .builtin b, args := args, argTypes := ts }).operands.toList.map ρ)) :
    ∃ p, den E x = some p ∧ args.map ρ = #[p] := by
  have e : (Op.call { callee := .builtin b, args := args, argTypes := ts }).operands.toList = args.toList := by simp [Op.operands, Call.operands]
  rw [e] at hd
  obtain ⟨p, r, h1, h2, h3⟩ := denL_cons.1 hd
  simp only [denL, Option.some.injEq] at h2
  subst h2
  exact ⟨p, h1, by apply Array.toList_inj.1; rw [Array.toList_map, h3]⟩
theorem xd_delete {t key e : TypeId} {args : Array Operand} {ts : List TypeId} (hu : P.underlying t = some (.map key e))
    (hk : evKey P key (fun key => v2 vs (fun m kv => x_delete key m kv h k)) = true) : ∃ v h', k v h' = true ∧ XdOk P (.call { callee := .builtin .delete, args := args, argTypes := (t :: ts).toArray }) vs h v h' := by
  obtain ⟨kind, ke, hkind, k1, hke⟩ := evKey_true hk
  obtain ⟨m, kv, rfl, k2⟩ := v2_true k1
  obtain ⟨eq, heq, k3, hck⟩ := hke _ _ k2
  rcases V.onMap_true k3 with ⟨rfl, k4⟩ | ⟨r, rfl, k4⟩
  · cases k4
  obtain ⟨es, c, hg, k5⟩ := H.mapK_true k4
  obtain ⟨es2, k6, hf⟩ := delK_true heq k5
  rw [H.putK_eq] at k6
  refine ⟨_, _, k6, fun E w ρ o g ho hd => ?_⟩
  obtain ⟨p, q, d1, d2, ha⟩ := args2 hd
  obtain ⟨l, es', hE, rfl, h4, h5⟩ := map_stand g hg d1
  rcases hf E q es' d2 h4 with ⟨h6, h7⟩ | ⟨j, h6, h7, h8⟩
  · obtain ⟨s1, s2⟩ := step_map g (c2 := c) hg hE h5 h7
    refine ⟨E, _, undef, .value undef, s2, den_undef E, ?_, .inl rfl⟩
    refine call_run (f := Builtin.delete_ (t :: ts).toArray o.type (args.map ρ)) ho (fun _ => rfl) ?_
    rw [ha]
    simp only [Builtin.delete_, List.getElem?_toArray, List.getElem?_cons_zero, List.getElem?_cons_succ, Sem.run_bind, run_underlying hu, Result.andThen_ok, getObj_run h5, hck E q d2, Instr.findKey, run_underlying hkind, h6 0, Sem.run_pure, s1]
    rfl
  · obtain ⟨s1, s2⟩ := step_map g (c2 := c) hg hE h5 h8
    obtain ⟨y, h9⟩ := h6 0
    rw [Nat.zero_add] at h9
    refine ⟨E, _, undef, .value undef, s2, den_undef E, ?_, .inl rfl⟩
    refine call_run (f := Builtin.delete_ (t :: ts).toArray o.type (args.map ρ)) ho (fun _ => rfl) ?_
    rw [ha]
    have e0 : es'.toArray.eraseIdxIfInBounds j = (es'.eraseIdx j).toArray := by simp [Array.eraseIdxIfInBounds, h7]
    simp only [Builtin.delete_, List.getElem?_toArray, List.getElem?_cons_zero, List.getElem?_cons_succ, Sem.run_bind, run_underlying hu, Result.andThen_ok, getObj_run h5, hck E q d2, Instr.findKey, run_underlying hkind, h9, Sem.run_pure, e0, s1]
    rfl
end
end Go.Ev

/-
  The evaluator of closed calls: a part.
-/
set_option linter.unusedVariables false
set_option linter.unusedSimpArgs false
namespace Go.Ev
section
variable {P : Program}
theorem get_put_ne {h : H} {k j : N} {o : O} (e : j ≠ k) : T.get j (h.put k o).t = T.get j h.t := T.get_set_ne o k j _ (Ne.symm e)
theorem get_put {h : H} {k : N} {o : O} : T.get k (h.put k o).t = some o := T.get_set o k _
/-- a letter is forgotten -/
theorem Step.kill {E : Nm} {h : H} {w : World} (g : Good P E h w) (k : N) : Step P E h w E (h.put k .dead) w := by
  have live : ∀ {j : N}, Live (h.put k .dead) j → Live h j := fun {j} hl => by
    obtain ⟨p, h1, h2⟩ := hl
    by_cases e : j = k
    · subst e; rw [get_put] at h1; cases h1; exact absurd rfl h2
    · rw [get_put_ne e] at h1; exact ⟨p, h1, h2⟩
  have wr : ∀ {j : N}, Live (h.put k .dead) j → Wr (h.put k .dead) j → Wr h j := fun {j} hl hw c hc => by
    obtain ⟨p, h1, h2⟩ := hl
    by_cases e : j = k
    · subst e; rw [get_put] at h1; cases h1; exact absurd rfl h2
    · exact hw c (by rw [get_put_ne e]; exact hc)
  refine ⟨Ext.refl E, ⟨g.fresh, fun j p h1 h2 => ?_, fun i j li lj h1 h2 hw h3 h4 h5 => g.inj i j li lj (live h1) (live h2) (hw.imp (wr h1) (wr h2)) h3 h4 h5, g.glob⟩, Nat.le_refl _, fun _ _ h => .inl h, fun j m h1 h2 => .inl ⟨j, m, live h1, h2, rfl⟩, fun _ _ _ => rfl, Nat.le_refl _, rfl, rfl, rfl⟩
  by_cases e : j = k
  · subst e; rw [get_put] at h1; cases h1; exact absurd rfl h2
  · rw [get_put_ne e] at h1; exact g.stand j p h1 h2
/-- a block goes on under a new letter -/
theorem Step.rename {E : Nm} {h : H} {w w' : World} (g : Good P E h w) {k : N} {l : Loc} {o ob : O} (hg : T.get k h.t = some o) (hd : o ≠ .dead ∧ ∀ c, o ≠ .arg c) (hE : E k = some l) (ho : ob ≠ .dead)
    (hs : Stand P (E.set h.n l) w' l ob) (hw : ∀ b, b ≠ l.bl → w'.heap[b]? = w.heap[b]?) (hsz : w'.heap.size = w.heap.size) (hos : w'.os = w.os) (htp : w'.tape = w.tape) (hout : w'.output = w.output) :
    Step P E h w (E.set h.n l) ((h.put k .dead).new ob) w' := by
  have hkn : k ≠ h.n := fun e => by have := g.fresh k l hE; rw [e] at this; exact absurd this (Nat.lt_irrefl _)
  have hx := g.ext_new l
  have hn' : (h.put k .dead).n = h.n := rfl
  have hk : Live h k := ⟨o, hg, hd.1⟩
  have hwk : Wr h k := fun c hc => by rw [hg] at hc; cases hc; exact hd.2 c rfl
  have get_new : ∀ j, j ≠ h.n → T.get j ((h.put k .dead).new ob).t = T.get j (h.put k .dead).t := fun j e => T.get_set_ne ob _ j _ (fun e' => e e'.symm)
  have get_n : T.get h.n ((h.put k .dead).new ob).t = some ob := T.get_set ob _ _
  have old : ∀ {j : N} {p : O}, T.get j ((h.put k .dead).new ob).t = some p → p ≠ .dead → j ≠ h.n → T.get j h.t = some p ∧ j ≠ k := fun {j p} h1 h2 h3 => by
    rw [get_new j h3] at h1
    by_cases e : j = k
    · subst e; rw [get_put] at h1; cases h1; exact absurd rfl h2
    · rw [get_put_ne e] at h1; exact ⟨h1, e⟩
  have oldE : ∀ {j : N} {m : Loc}, j ≠ h.n → E.set h.n l j = some m → E j = some m := fun {j m} e h1 => by rwa [Nm.set_ne E l e] at h1
  refine ⟨hx, ⟨fun j m hj => ?_, fun j p h1 h2 => ?_, fun i j li lj h1 h2 hw0 h3 h4 h5 => ?_, fun q hq => let ⟨m, h1, h2⟩ := g.glob q hq; ⟨m, hx _ m h1, h2⟩⟩, ?_, fun j m hj => ?_, fun j m h1 h2 => ?_, fun b hb hn => ?_, by omega, hos, htp, hout⟩
  · show j.val < h.n.succ.val
    rw [N.val_succ]
    by_cases e : j = h.n
    · subst e; omega
    · have := g.fresh j m (oldE e hj); omega
  · by_cases e : j = h.n
    · subst e
      rw [get_n] at h1; cases h1
      exact ⟨l, Nm.set_same E h.n l, hs⟩
    · obtain ⟨h3, h4⟩ := old h1 h2 e
      obtain ⟨m, h5, h6⟩ := g.stand j p h3 h2
      exact ⟨m, hx j m h5, h6.ext hx (hw _ (fun e' => h4 (g.inj j k m l ⟨p, h3, h2⟩ hk (.inr hwk) h5 hE e')))⟩
  · obtain ⟨p, p1, p2⟩ := h1
    obtain ⟨q, q1, q2⟩ := h2
    by_cases e : i = h.n
    · by_cases e' : j = h.n
      · rw [e, e']
      · subst e
        rw [Nm.set_same] at h3; cases h3
        obtain ⟨q3, q4⟩ := old q1 q2 e'
        exact absurd (g.inj j k lj l ⟨q, q3, q2⟩ hk (.inr hwk) (oldE e' h4) hE h5.symm) q4
    · obtain ⟨p3, p4⟩ := old p1 p2 e
      by_cases e' : j = h.n
      · subst e'
        rw [Nm.set_same] at h4; cases h4
        exact absurd (g.inj i k li l ⟨p, p3, p2⟩ hk (.inr hwk) (oldE e h3) hE h5) p4
      · obtain ⟨q3, q4⟩ := old q1 q2 e'
        have wr : ∀ {i : N}, i ≠ h.n → i ≠ k → Wr ((h.put k .dead).new ob) i → Wr h i := fun {i} e1 e2 hw c hc => hw c (by rw [get_new i e1, get_put_ne e2]; exact hc)
        exact g.inj i j li lj ⟨p, p3, p2⟩ ⟨q, q3, q2⟩ (hw0.imp (wr e p4) (wr e' q4)) (oldE e h3) (oldE e' h4) h5
  · show h.n.val ≤ h.n.succ.val
    rw [N.val_succ]; omega
  · by_cases e : j = h.n
    · subst e; exact .inr (Nat.le_refl _)
    · exact .inl (oldE e hj)
  · obtain ⟨p, p1, p2⟩ := h1
    by_cases e : j = h.n
    · subst e
      rw [Nm.set_same] at h2; cases h2
      exact .inl ⟨k, l, hk, hE, rfl⟩
    · obtain ⟨p3, p4⟩ := old p1 p2 e
      exact .inl ⟨j, m, ⟨p, p3, p2⟩, oldE e h2, rfl⟩
  · exact hw b (Ne.symm (hn k l hk hE))
/-- what is appended -/
structure App (P : Program) (ts : Array TypeId) (x : Value) (e : TypeId) (i : TypeInfo) (z : Value) (n : Nat) (news : List Value) (w : World) : Prop where
  room : ∀ ty b off sLen sCap, sLen + n ≤ sCap → (∀ j, j < news.length → (w.cell? ⟨b, off + sLen * i.size + j, none⟩).isSome = true) → (∀ j, j < news.length → w.frozen? ⟨b, off + sLen * i.size + j, none⟩ = false) →
    (Builtin.append_ ts ty #[.slice (some ⟨b, off, none⟩) sLen sCap, x]).run P w = .ok (.slice (some ⟨b, off, none⟩) (sLen + n) sCap) (w.setCells b (off + sLen * i.size) news)
  grow : ∀ ty base sLen sCap olds, (Builtin.firstCells i.size sLen (.slice base sLen sCap)).run P w.drew = .ok olds.toArray w.drew → sCap < sLen + n → sLen + n ≤ 1000000 →
    (Builtin.append_ ts ty #[.slice base sLen sCap, x]).run P w = .ok (.slice (some ⟨w.heap.size, 0, none⟩) (sLen + n) (grownCap w (sLen + n) sCap e))
      (w.drew.alloc (.cells ((olds ++ news).toArray ++ Builtin.zeroCells z.cells (grownCap w (sLen + n) sCap e - (sLen + n))) e))
  none : n = 0 → ∀ ty base sLen sCap, sLen ≤ sCap → (Builtin.append_ ts ty #[.slice base sLen sCap, x]).run P w = .ok (.slice base sLen sCap) w
  len : news.length = n * i.size
theorem App.ofSrc {t tx e : TypeId} {i : TypeInfo} {z : Value} {x : Value} {n : Nat} {news : List Value} {w : World} (ht : P.underlying t = some (.slice e)) (hi : P.info? e = some i) (hz : i.zero = some z) (hb : i.bytes ≤ 1000000)
    (hs : Src P i.size tx x n news w) : App P #[t, tx] x e i z n news w where
  room := fun ty b off sLen sCap hr hc hf => run_append_room_src w t tx ty e i ht hi b off sLen sCap x n news hs hr hc hf
  grow := fun ty base sLen sCap olds hold hg hsm => by
    have hfit : (sLen + n) * i.bytes ≤ 140737488355328 := Nat.le_trans (Nat.mul_le_mul hsm hb) (by decide)
    exact run_append_grow_src w t tx ty e i z ht hi hz base sLen sCap olds hold x n news hs hg (by omega) (growslice_fits hg hfit)
  none := fun h0 ty base sLen sCap hle => by
    subst h0
    have hn : news = [] := List.eq_nil_of_length_eq_zero (by rw [hs.newsLen]; simp)
    subst hn
    exact run_append_nothing w t tx ty e i ht hi base sLen sCap hle x hs
  len := hs.newsLen
theorem App.ofZeros {t tx e : TypeId} {i : TypeInfo} {z : Value} {j kx : IntKind} {n : Nat} {w : World} (ht : P.underlying t = some (.slice e)) (hx : P.underlying tx = some (.int j)) (hi : P.info? e = some i) (hz : i.zero = some z) (hb : i.bytes ≤ 1000000)
    (hzs : z.cells.size = i.size) (h1c : ∀ u ∈ z.cells.toList, u.oneCell' = true) (hn : n ≤ 1000000) : App P #[t, tx] (.int kx (n : Nat)) e i z n (List.replicate n z.cells.toList).flatten w := by
  have hzc : Builtin.zeroCells z.cells n = (List.replicate n z.cells.toList).flatten.toArray := by
    have := flat_rep z.cells.toList n
    rw [Array.toArray_toList, Array.length_toList] at this
    exact this
  have hlen : (List.replicate n z.cells.toList).flatten.length = n * i.size := by simp [List.length_flatten, hzs]
  have wl : IntKind.i64.wrap (n : Int) = n := by rw [IntKind.wrap_i64]; omega
  have hnb : ¬ (281474976710656 < (n : Int) * (i.bytes : Int)) := by
    have h1 : n * i.bytes ≤ 1000000 * 1000000 := Nat.mul_le_mul hn hb
    have h2 : ((n * i.bytes : Nat) : Int) ≤ 281474976710656 := by omega
    rw [Int.natCast_mul] at h2
    omega
  have hn0 : ¬ ((n : Int) < 0) := by omega
  have hone : ∀ u ∈ (List.replicate n z.cells.toList).flatten, u.oneCell' = true := fun u hu => by
    obtain ⟨l, h1, h2⟩ := List.mem_flatten.1 hu
    rw [List.eq_of_mem_replicate h1] at h2
    exact h1c u h2
  have nil0 : n * i.size = 0 → (List.replicate n z.cells.toList).flatten = [] := fun h0 => List.eq_nil_of_length_eq_zero (by rw [hlen, h0])
  constructor
  · intro ty b off sLen sCap hr hc hf
    have hst := run_storeCells_cells (P := P) b (off + sLen * i.size) (List.replicate n z.cells.toList).flatten 0 w (by simpa using hc) (by simpa using hf) hone
    simp only [Nat.add_zero] at hst
    by_cases h0 : n * i.size = 0
    · rw [nil0 h0] at hst ⊢
      simp [Builtin.append_, run_underlying ht, run_underlying hx, sizeOf, typeInfo, hi, asInt, asIntOf, wl, hn0, hnb, hr, h0, storeCells, World.setCells]
    · simp [Builtin.append_, run_underlying ht, run_underlying hx, sizeOf, typeInfo, hi, asInt, asIntOf, wl, hn0, hnb, hr, h0, zeroValue, hz, hzc, Addr.add_lit, hst]
  · intro ty base sLen sCap olds hold hg hsm
    have hnn : ¬ (sLen + n ≤ sCap) := by omega
    have hfit : (sLen + n) * i.bytes ≤ 140737488355328 := Nat.le_trans (Nat.mul_le_mul hsm hb) (by decide)
    have h48 : ¬ (281474976710656 < Builtin.nextslicecap (sLen + n) sCap * i.bytes) := by have := growslice_fits hg hfit; omega
    have h63 : ¬ (9223372036854775807 < ((sLen : Int) + (n : Int))) := by omega
    by_cases h0 : n * i.size = 0
    · rw [nil0 h0]
      simp [Builtin.append_, run_underlying ht, run_underlying hx, sizeOf, typeInfo, hi, asInt, asIntOf, wl, hn0, hnb, hnn, h0, h48, h63, Question.forced, hold, newRow, grownCap, zeroValue, hz]
    · simp [Builtin.append_, run_underlying ht, run_underlying hx, sizeOf, typeInfo, hi, asInt, asIntOf, wl, hn0, hnb, hnn, h0, h48, h63, Question.forced, hold, newRow, grownCap, zeroValue, hz, hzc]
      congr 2
      apply Array.ext'
      simp [List.append_assoc]
  · intro h0 ty base sLen sCap hle
    subst h0
    have w0 : IntKind.i64.wrap 0 = 0 := by rw [IntKind.wrap_i64]; rfl
    cases base <;> simp [Builtin.append_, w0, run_underlying ht, run_underlying hx, sizeOf, typeInfo, hi, asInt, asIntOf, wl, hle, storeCells]
  · exact hlen
theorem firstCells_none (w : World) (size n l c : Nat) : (Builtin.firstCells size n (.slice none l c)).run P w = .ok #[] w := rfl
theorem firstCells_run {w : World} {b o e n size len cap : Nat} {cs rest : List Value} {fz : Nat × Nat} (hw : w.heap[b]? = some (.cells (cs ++ rest).toArray e fz)) (hl : o + n * size ≤ cs.length) :
    (Builtin.firstCells size n (.slice (some ⟨b, o, none⟩) len cap)).run P w = .ok ((cs.drop o).take (n * size)).toArray w := by
  simp only [Builtin.firstCells]
  exact loadCells_run hw hl
/-- the outcome of an append whose array is new -/
theorem step_grown {E : Nm} {h : H} {w : World} (g : Good P E h w) {e : Nat} {i : TypeInfo} {z : Value} {c : List V} {cs : List Value} {need cap : Nat} (hi : P.info? e = some i) (hzs : z.cells.size = i.size) (h1 : c.all V.isOne = true) (h2 : denL E c = some cs)
    (hlen : c.length = need * i.size) (hcap : need ≤ cap) :
    ∃ E', Step P E h w E' (h.new (.row e c true)) (w.drew.alloc (.cells (cs.toArray ++ Builtin.zeroCells z.cells (cap - need)) e)) ∧ den E' (.sl h.n 0 need (.v 0)) = some (.slice (some ⟨w.heap.size, 0, none⟩) need cap) := by
  refine ⟨E.set h.n (locOf w.heap.size cap), Step.new g (locOf w.heap.size cap) rfl (by simp) (ob := .cells (cs.toArray ++ Builtin.zeroCells z.cells (cap - need)) e) rfl rfl rfl rfl ?_, ?_⟩
  · refine ⟨rfl, cs, (Builtin.zeroCells z.cells (cap - need)).toList, h1, denL_ext (g.ext_new _) c cs h2, ?_, ?_⟩
    · show (w.heap.push _)[w.heap.size]? = _
      rw [Array.getElem?_push_size]
      congr 2
      apply Array.ext'
      simp
    · have hz : (Builtin.zeroCells z.cells (cap - need)).toList.length = (cap - need) * i.size := by rw [Array.length_toList, size_zeroCells, hzs]
      have hc : P.cellsOf e = i.size := by simp [Program.cellsOf, hi]
      rw [hz, denL_length h2, hlen, hc, ← Nat.add_mul]
      show _ = cap * i.size
      congr 1
      omega
  · simp only [den, Nm.set_same]
    rw [if_pos (by show need + 0 ≤ cap; omega)]
    rfl
theorem appendV_sound {h : H} {k : KH} {e s : Nat} {x : V} {n : Nat} {new : List V} (hk : appendV h e s x n new k = true) :
    ∃ v h', k v h' = true ∧ ∀ E w vx ts xa i z news, Good P E h w → den E x = some vx → denL E new = some news → new.all V.isOne = true → P.info? e = some i → i.size = s → z.cells.size = i.size → App P ts xa e i z n news w →
      ∃ E' w' y, Step P E h w E' h' w' ∧ den E' v = some y ∧ ∀ ty, (Builtin.append_ ts ty #[vx, xa]).run P w = .ok y w' := by
  cases n with
  | zero =>
    have fin : k x h = true → (∀ E vx, den E x = some vx → ∃ base l c, vx = .slice base l c ∧ l ≤ c) → ∃ v h', k v h' = true ∧ ∀ E w vx ts xa i z news, Good P E h w → den E x = some vx → denL E new = some news → new.all V.isOne = true → P.info? e = some i → i.size = s → z.cells.size = i.size → App P ts xa e i z 0 news w →
        ∃ E' w' y, Step P E h w E' h' w' ∧ den E' v = some y ∧ ∀ ty, (Builtin.append_ ts ty #[vx, xa]).run P w = .ok y w' := fun hk hx =>
      ⟨x, h, hk, fun E w vx ts xa i z news g d1 d2 d3 hi hs hz ha => by
        obtain ⟨base, l, c, rfl, hle⟩ := hx E vx d1
        exact ⟨E, w, _, Step.refl g, d1, fun ty => ha.none rfl ty base l c hle⟩⟩
    cases x with
    | sl b o len c => exact fin hk fun E vx d => by obtain ⟨l, cap, _, hle, rfl, _⟩ := den_sl d; exact ⟨_, _, _, rfl, hle⟩
    | nils => exact fin hk fun E vx d => by simp only [den, Option.some.injEq] at d; subst d; exact ⟨_, _, _, rfl, Nat.le_refl _⟩
    | slz b =>
      refine fin hk fun E vx d => ?_
      simp only [den] at d
      split at d <;> cases d
      exact ⟨_, _, _, rfl, Nat.zero_le _⟩
    | _ => exact Bool.noConfusion hk
  | succ n =>
    cases x with
    | nils =>
      have hk0 : condK (Nat.ble (n + 1) 1000000) false (h.grownK e new (fun b h => k (.sl b 0 (n + 1) (.v 0)) h)) = true := hk
      obtain ⟨hsm0, hk⟩ := condK_true hk0
      have hsm0 := ble_iff.1 hsm0
      rw [H.grownK_eq] at hk
      refine ⟨_, _, hk, fun E w vx ts xa i z news g d1 d2 d3 hi hs hz ha => ?_⟩
      simp only [den, Option.some.injEq] at d1; subst d1
      have hnl : new.length = (n + 1) * i.size := by rw [← denL_length d2, ha.len]
      obtain ⟨E', s1, s2⟩ := step_grown g (need := n + 1) (cap := grownCap w (0 + (n + 1)) 0 e) hi hz d3 d2 hnl (by have := grownCap_ge w (0 + (n + 1)) 0 e; omega)
      refine ⟨E', _, _, s1, s2, fun ty => ?_⟩
      have hsm : 0 + (n + 1) ≤ 1000000 := by omega
      have hr := ha.grow ty none 0 0 [] (firstCells_none _ _ _ _ _) (by omega) hsm
      rw [hr]
      simp
    | sl b o len c =>
      have hk : natK (Nat.add len (n + 1)) (fun l => condK (Nat.ble l 1000000) false (Cap.rec
          (fun c => condK (Nat.ble l c)
            (h.loadK b o (Nat.mul len s) (fun old => appK old new (fun cs => h.grownK e cs (fun b h => k (.sl b 0 l (.v 0)) h))))
            (h.storeK b (Nat.add o (Nat.mul len s)) new (fun h => k (.sl b o l (.n c)) h)))
          (fun d => Nat.rec (Nat.rec (h.rowK b (fun e' old t => condK (Nat.beq e' e) false (condK t false (lenK old (fun j => condK (Nat.beq j (Nat.mul len s)) false
            (appK old new (fun cs => h.putK b .dead (fun h => h.grownK e cs (fun b h => k (.sl b 0 l (.v 0)) h))))))))) (fun _ _ => false) o) (fun _ _ => false) d) c)) = true := hk
      rw [natK_eq] at hk
      obtain ⟨hsm, hk⟩ := condK_true hk
      have hsm : len + (n + 1) ≤ 1000000 := ble_iff.1 hsm
      cases c with
      | n c =>
        rcases condK_or hk with ⟨hfit, hk⟩ | ⟨hfit, hk⟩
        · -- there is room
          have hfit : len + (n + 1) ≤ c := ble_iff.1 hfit
          obtain ⟨e', cc, tl, hg, hl, hk⟩ := H.storeK_true hk
          have hl : o + len * s + new.length ≤ cc.length := hl
          refine ⟨_, _, hk, fun E w vx ts xa i z news g d1 d2 d3 hi hs hz ha => ?_⟩
          obtain ⟨l, cap, hE, hle, rfl, hc⟩ := den_sl d1
          have hc : cap = c := by
            rcases hc with hc | ⟨_, hc, _⟩
            · cases hc; rfl
            · cases hc
          subst hc
          obtain ⟨s1, s2⟩ := step_store g hg hE hl d3 d2
          obtain ⟨l', h3, h0, cs, rest, h4, h5, h6, h7⟩ := g.stand b _ hg (by simp)
          rw [hE] at h3; cases h3
          have hcl := denL_length h5
          have hnl := denL_length d2
          have hz0 : l.of + o = o := by omega
          simp only [hz0]
          refine ⟨E, _, .slice (some ⟨l.bl, o, none⟩) (len + (n + 1)) cap, s2, ?_, fun ty => ?_⟩
          · simp only [den, hE]
            rw [if_pos (show len.add (n + 1) ≤ cap from hfit), hz0]
            rfl
          · have hr := ha.room ty l.bl o len cap hfit (fun j hj => by
              rw [hs, cell_of h6, List.getElem?_eq_getElem (by rw [List.length_append]; omega)]; rfl) (fun j hj => by simp [World.frozen?, h6])
            rw [hr, hs]
        · -- there is none
          have hfit : ¬ (len + (n + 1) ≤ c) := fun e => by rw [show Nat.ble (len.add (n + 1)) c = true from ble_iff.2 e] at hfit; cases hfit
          obtain ⟨e', cc, tl, hg, hl, hk⟩ := H.loadK_true hk
          rw [appK_eq, H.grownK_eq] at hk
          have hl : o + len * s ≤ cc.length := hl
          refine ⟨_, _, hk, fun E w vx ts xa i z news g d1 d2 d3 hi hs hz ha => ?_⟩
          obtain ⟨l, cap, hE, hle, rfl, hc⟩ := den_sl d1
          have hc : cap = c := by
            rcases hc with hc | ⟨_, hc, _⟩
            · cases hc; rfl
            · cases hc
          subst hc
          obtain ⟨l', h3, h0, cs, rest, h4, h5, h6, h7⟩ := g.stand b _ hg (by simp)
          rw [hE] at h3; cases h3
          have hcl := denL_length h5
          have hnl := denL_length d2
          have hz0 : l.of + o = o := by omega
          simp only [hz0]
          have hold := firstCells_run (P := P) (w := w.drew) (n := len) (size := i.size) (len := len) (cap := cap) (o := o) h6 (by rw [hs]; omega)
          have d4 : denL E ((cc.drop o).take (len * s) ++ new) = some ((cs.drop o).take (len * s) ++ news) := denL_append.2 ⟨_, _, denL_take _ (denL_drop o h5), d2, rfl⟩
          obtain ⟨E', s1, s2⟩ := step_grown g (need := len + (n + 1)) (cap := grownCap w (len + (n + 1)) cap e) hi hz (all_app (all_drop_take h4 o (len * s)) d3) d4 (by
            rw [List.length_append, List.length_take, List.length_drop, ← hnl, ha.len, hs, Nat.min_eq_left (by omega)]
            exact (Nat.add_mul _ _ _).symm) (grownCap_ge w _ cap e)
          refine ⟨E', _, _, s1, s2, fun ty => ?_⟩
          have hr := ha.grow ty (some ⟨l.bl, o, none⟩) len cap _ hold (by omega) hsm
          rw [hr, hs]
      | v d =>
        cases d with
        | succ d => exact Bool.noConfusion hk
        | zero =>
          cases o with
          | succ o => exact Bool.noConfusion hk
          | zero =>
            obtain ⟨e', cc, tl, hg, q0⟩ := H.rowK_true hk
            obtain ⟨hee, q1⟩ := condK_true q0
            have hee := Nat.eq_of_beq_eq_true hee
            subst hee
            obtain ⟨htl, q2⟩ := condK_true q1
            subst htl
            rw [lenK_eq] at q2
            obtain ⟨q3, q4⟩ := condK_true q2
            have hj : cc.length = len * s := Nat.eq_of_beq_eq_true q3
            rw [appK_eq, H.putK_eq, H.grownK_eq] at q4
            refine ⟨_, _, q4, fun E w vx ts xa i z news g d1 d2 d3 hi hs hz ha => ?_⟩
            obtain ⟨l, cap, hE, hle, rfl, hc⟩ := den_sl d1
            have hc : cap = l.cp := by
              rcases hc with hc | ⟨d, hc, hd⟩
              · cases hc
              · cases hc; omega
            subst hc
            obtain ⟨l', h3, h0, cs, rest, h4, h5, h6, h7⟩ := g.stand b _ hg (by simp)
            rw [hE] at h3; cases h3
            have hcl := denL_length h5
            have hnl := denL_length d2
            have hz0 : l.of + 0 = 0 := by omega
            simp only [hz0]
            have d4 : denL E (cc ++ new) = some (cs ++ news) := denL_append.2 ⟨_, _, h5, d2, rfl⟩
            by_cases hfit : len + (n + 1) ≤ l.cp
            · -- in place, under a new letter
              have hc : P.cellsOf e' = s := by simp [Program.cellsOf, hi, hs]
              have h7 : cs.length + rest.length = l.cp * s := by rw [← hc]; exact h7
              have hnl2 : news.length = (n + 1) * s := by rw [ha.len, hs]
              have hfit2 : len * s + (n + 1) * s ≤ l.cp * s := by rw [← Nat.add_mul]; exact Nat.mul_le_mul_right s hfit
              have hr := fun ty => ha.room ty l.bl 0 len l.cp hfit (fun j hj => by
                rw [hs, cell_of h6, List.getElem?_eq_getElem (by rw [List.length_append]; omega)]; rfl) (fun j hj => by simp [World.frozen?, h6])
              have hw : (w.setCells l.bl (0 + len * i.size) news).heap[l.bl]? = some (.cells ((cs ++ news) ++ rest.drop news.length).toArray e' (0, 0)) := by
                rw [heap_setCells l.bl news _ w _ h6 (by rw [List.length_append, hs]; omega)]
                congr 2
                have e1 : (cs ++ rest).take (0 + len * i.size) = cs := by
                  rw [hs, List.take_append_of_le_length (by omega), List.take_of_length_le (by omega)]
                have e2 : (cs ++ rest).drop (0 + len * i.size + news.length) = rest.drop news.length := by
                  rw [hs, show 0 + len * s + news.length = cs.length + news.length by omega, List.drop_append]
                  rw [List.drop_eq_nil_of_le (by omega), Nat.add_sub_cancel_left]
                  rfl
                rw [e1, e2]
              have st : Stand P (E.set h.n l) (w.setCells l.bl (0 + len * i.size) news) l (.row e' (cc ++ new) true) :=
                ⟨h0, cs ++ news, rest.drop news.length, all_app h4 d3, denL_ext (g.ext_new l) _ _ d4, hw, by
                  show (cs ++ news).length + (rest.drop news.length).length = l.cp * P.cellsOf e'
                  rw [List.length_append, List.length_drop, hc]; omega⟩
              refine ⟨_, _, .slice (some ⟨l.bl, 0, none⟩) (len + (n + 1)) l.cp, Step.rename g hg (by simp) hE (by simp) st (fun b hb => heap_setCells_ne _ _ _ w b hb) (size_setCells _ _ _ w) (World.os_setCells w _ _ _) (tape_setCells _ _ _ w) (World.output_setCells w _ _ _), ?_, hr⟩
              show den (E.set h.n l) (.sl h.n 0 (len + (n + 1)) (.v 0)) = _
              simp only [den, Nm.set_same]
              rw [if_pos (by omega), hz0]
              rfl
            · -- a new array; the old one is forgotten
              have hold := firstCells_run (P := P) (w := w.drew) (n := len) (size := i.size) (len := len) (cap := l.cp) (o := 0) h6 (by rw [hs]; omega)
              have e0 : (cs.drop 0).take (len * i.size) = cs := by rw [List.drop_zero, List.take_of_length_le (by rw [hs]; omega)]
              rw [e0] at hold
              have sk := Step.kill g b
              obtain ⟨E', s1, s2⟩ := step_grown sk.good (need := len + (n + 1)) (cap := grownCap w (len + (n + 1)) l.cp e') hi hz (all_app h4 d3) d4 (by
                rw [List.length_append, ← hnl, ha.len, hj, hs]
                exact (Nat.add_mul _ _ _).symm) (grownCap_ge w _ l.cp e')
              refine ⟨E', _, _, sk.trans s1, s2, fun ty => ?_⟩
              have hr := ha.grow ty (some ⟨l.bl, 0, none⟩) len l.cp _ hold (by omega) hsm
              rw [hr]
    | _ => exact Bool.noConfusion hk
end
end Go.Ev

/-
  The evaluator of closed calls: a part.
-/
set_option linter.unusedVariables false
set_option linter.unusedSimpArgs false
namespace Go.Ev
section
variable {P : Program} {vs : List V} {h : H} {k : KH}
theorem zs1_one {e : TypeId} {z : List V} (hz : zs1 P e = some z) : ∃ i x, P.info? e = some i ∧ i.zero = some x ∧ z.all V.isOne = true ∧ (∀ E, denL E z = some x.cells.toList) ∧ i.bytes ≤ 1000000 ∧ x.cells.size = i.size ∧ (∀ u ∈ x.cells.toList, u.oneCell' = true) := by
  obtain ⟨i, x, h1, h2, h3, h4, _, h6, h7⟩ := zs1_some hz
  exact ⟨i, x, h1, h2, h3, h4, h6, h7, allOne_den (h4 (fun _ => none)) h3⟩
theorem size_eq {e : TypeId} {s : Nat} {i : TypeInfo} (hs : szO P e = some s) (hi : P.info? e = some i) : i.size = s := by
  unfold szO at hs; rw [hi] at hs; cases hs; rfl
theorem xd_append {t u e f s : Nat} {z : List V} {args : Array Operand} (ht : P.underlying t = some (.slice e)) (hu : P.underlying u = some (.slice f)) (hz : zs1 P e = some z) (hs : szO P e = some s)
    (hk : v2 vs (fun x y => x_append e s x y h k) = true) : ∃ v h', k v h' = true ∧ XdOk P (.call { callee := .builtin .append, args := args, argTypes := #[t, u] }) vs h v h' := by
  obtain ⟨x, y, rfl, k1⟩ := v2_true hk
  obtain ⟨i, zx, hi, hz0, hone, hden, hby, hcs, h1c⟩ := zs1_one hz
  have hsz := size_eq hs hi
  have fin : ∀ (n : Nat) (new : List V), appendV h e s x n new k = true →
      (∀ E w q, Good P E h w → den E y = some q → ∃ news, denL E new = some news ∧ new.all V.isOne = true ∧ App P #[t, u] q e i zx n news w) →
      ∃ v h', k v h' = true ∧ XdOk P (.call { callee := .builtin .append, args := args, argTypes := #[t, u] }) [x, y] h v h' := by
    intro n new hk hy
    obtain ⟨v, h', k2, hrun⟩ := appendV_sound (P := P) hk
    refine ⟨v, h', k2, fun E w ρ o g ho hd => ?_⟩
    obtain ⟨p, q, d1, d2, ha⟩ := args2 hd
    obtain ⟨news, n1, n2, n3⟩ := hy E w q g d2
    obtain ⟨E', w', r, s1, s2, s3⟩ := hrun E w p #[t, u] q i zx news g d1 n1 n2 hi hsz hcs n3
    refine ⟨E', w', r, .value r, s1, s2, ?_, .inl rfl⟩
    refine call_run (f := Builtin.append_ #[t, u] o.type (args.map ρ)) ho (fun _ => rfl) ?_
    rw [ha]; exact s3 _
  rcases V.onSl_true k1 with ⟨rfl, k2⟩ | ⟨a, rfl, k2⟩ | ⟨b, off, len, c, rfl, k2⟩
  · refine fin 0 [] k2 fun E w q g d => ⟨[], by simp [denL], rfl, App.ofSrc ht hi hz0 hby ?_⟩
    simp only [den, Option.some.injEq] at d; subst d
    exact Src.ofNil w hu 0
  · refine fin 0 [] k2 fun E w q g d => ⟨[], by simp [denL], rfl, App.ofSrc ht hi hz0 hby ?_⟩
    simp only [den] at d
    split at d <;> cases d
    exact Src.ofSlice w hu _ 0 _ [] (by simp) (by simp) (by simp)
  · obtain ⟨e', cc, tl, hg, hl, k3⟩ := H.loadK_true k2
    have hl : off + len * s ≤ cc.length := hl
    refine fin len _ k3 fun E w q g d => ?_
    obtain ⟨l, cap, hE, hle, rfl, _⟩ := den_sl d
    obtain ⟨l', h3, h0, cs, rest, h4, h5, h6, h7⟩ := g.stand b _ hg (by simp)
    rw [hE] at h3; cases h3
    have hcl := denL_length h5
    have d4 := denL_take (len * s) (denL_drop off h5)
    have a4 := all_drop_take h4 off (len * s)
    have hzo : l.of + off = off := by omega
    simp only [hzo]
    refine ⟨_, d4, a4, App.ofSrc ht hi hz0 hby (Src.ofSlice w hu _ len cap _ ?_ (fun j v hv => ?_) (allOne_den d4 a4))⟩
    · rw [List.length_take, List.length_drop, hsz]; omega
    · have hj := (List.getElem?_eq_some_iff.1 hv).1
      rw [List.length_take, List.length_drop] at hj
      rw [Addr.add_mid, cell_of h6, List.getElem?_append_left (by omega)]
      rw [List.getElem?_take_of_lt (by omega), List.getElem?_drop] at hv
      exact hv
theorem xd_appendz {t u e s : Nat} {j : IntKind} {z : List V} {args : Array Operand} (ht : P.underlying t = some (.slice e)) (hu : P.underlying u = some (.int j)) (hz : zs1 P e = some z) (hs : szO P e = some s)
    (hk : v2 vs (fun x y => x_appendz e s z x y h k) = true) : ∃ v h', k v h' = true ∧ XdOk P (.call { callee := .builtin .append, args := args, argTypes := #[t, u] }) vs h v h' := by
  obtain ⟨x, y, rfl, k1⟩ := v2_true hk
  obtain ⟨i, zx, hi, hz0, hone, hden, hby, hcs, h1c⟩ := zs1_one hz
  have hsz := size_eq hs hi
  obtain ⟨j', n, rfl, hp, k2⟩ := V.onNat_true k1
  obtain ⟨hn, k3⟩ := condK_true k2
  have hn := ble_iff.1 hn
  rw [repK_eq] at k3
  obtain ⟨v, h', k4, hrun⟩ := appendV_sound (P := P) k3
  refine ⟨v, h', k4, fun E w ρ o g ho hd => ?_⟩
  obtain ⟨p, q, d1, d2, ha⟩ := args2 hd
  obtain ⟨_, rfl⟩ := den_int d2
  rw [wrap_pos hp] at ha
  obtain ⟨E', w', r, s1, s2, s3⟩ := hrun E w p #[t, u] (.int j' (n : Nat)) i zx _ g d1 (denL_rep (hden E) n) (all_rep hone n) hi hsz hcs (App.ofZeros ht hu hi hz0 hby hcs h1c hn)
  refine ⟨E', w', r, .value r, s1, s2, ?_, .inl rfl⟩
  refine call_run (f := Builtin.append_ #[t, u] o.type (args.map ρ)) ho (fun _ => rfl) ?_
  rw [ha]; exact s3 _
theorem xd_clear {t e : Nat} {z : List V} {args : Array Operand} {ts : List TypeId} (ht : P.underlying t = some (.slice e)) (hz : zs1 P e = some z)
    (hk : v1 vs (fun x => x_clear z x h k) = true) : ∃ v h', k v h' = true ∧ XdOk P (.call { callee := .builtin .clear, args := args, argTypes := (t :: ts).toArray }) vs h v h' := by
  obtain ⟨x, rfl, k1⟩ := v1_true hk
  obtain ⟨i, zx, hi, hz0, hone, hden, hby, hcs, h1c⟩ := zs1_one hz
  have hzr : ∀ w, (zeroValue e).run P w = .ok zx w := fun w => by simp [zeroValue, typeInfo, hi, hz0]
  have fin : ∀ (v' : Value → Prop), k (.tup []) h = true → (∀ E p, den E x = some p → (p = .slice none 0 0 ∨ ∃ a c, p = .slice (some a) 0 c)) →
      ∃ v h', k v h' = true ∧ XdOk P (.call { callee := .builtin .clear, args := args, argTypes := (t :: ts).toArray }) [x] h v h' := fun _ hk hx =>
    ⟨_, _, hk, fun E w ρ o g ho hd => by
      obtain ⟨p, d1, ha⟩ := args1 hd
      refine ⟨E, w, undef, .value undef, Step.refl g, den_undef E, ?_, .inl rfl⟩
      refine call_run (f := Builtin.clear_ (t :: ts).toArray o.type (args.map ρ)) ho (fun _ => rfl) ?_
      rw [ha]
      rcases hx E p d1 with rfl | ⟨a, c, rfl⟩ <;> simp [Builtin.clear_, run_underlying ht, undef]⟩
  rcases V.onSl_true k1 with ⟨rfl, k2⟩ | ⟨a, rfl, k2⟩ | ⟨b, off, len, c, rfl, k2⟩
  · exact fin (fun _ => True) k2 fun E p d => by simp only [den, Option.some.injEq] at d; exact .inl d.symm
  · refine fin (fun _ => True) k2 fun E p d => ?_
    simp only [den] at d
    split at d <;> cases d
    exact .inr ⟨_, _, rfl⟩
  · rw [repK_eq] at k2
    obtain ⟨e', cc, tl, hg, hl, k3⟩ := H.storeK_true k2
    refine ⟨_, _, k3, fun E w ρ o g ho hd => ?_⟩
    obtain ⟨p, d1, ha⟩ := args1 hd
    obtain ⟨l, cap, hE, hle, rfl, _⟩ := den_sl d1
    obtain ⟨s1, s2⟩ := step_store g hg hE hl (all_rep hone len) (denL_rep (hden E) len)
    refine ⟨E, _, undef, .value undef, s2, den_undef E, ?_, .inl rfl⟩
    refine call_run (f := Builtin.clear_ (t :: ts).toArray o.type (args.map ρ)) ho (fun _ => rfl) ?_
    rw [ha]
    have hzc : (Builtin.zeroCells zx.cells len).toList = (List.replicate len zx.cells.toList).flatten := by
      have := flat_rep zx.cells.toList len
      rw [Array.toArray_toList, Array.length_toList] at this
      exact congrArg Array.toList this
    cases len with
    | zero => simp [Builtin.clear_, run_underlying ht, undef, World.setCells]
    | succ len => simp [Builtin.clear_, run_underlying ht, undef, hzr, hzc, s1]
theorem lenOf_slice (w : World) (a : Option Addr) (n c : Nat) : (Builtin.lenOf (.slice a n c)).run P w = .ok n w := rfl
theorem loadCells_zero (w : World) (a : Addr) : (loadCells a 0).run P w = .ok #[] w := by simpa using run_loadCells_list (P := P) w a [] (by simp)
theorem copy_none {dT sT ty e s : Nat} {w : World} {d a : Option Addr} {dLen dCap sLen sCap : Nat} (hu : P.underlying dT = some (.slice e)) (hs : szO P e = some s) (hn : Nat.min sLen dLen = 0) :
    (Builtin.copy_ #[dT, sT] ty #[.slice d dLen dCap, .slice a sLen sCap]).run P w = .ok (goInt 0) w := by
  cases d <;> cases a <;> simp [Builtin.copy_, run_underlying hu, Builtin.lenOf, Builtin.firstCells, size_run hs, hn, storeCells, loadCells_zero]
theorem xd_copy {t u e s : Nat} {args : Array Operand} (ht : P.underlying t = some (.slice e)) (hs : szO P e = some s)
    (hk : v2 vs (fun x y => x_copy s x y h k) = true) : ∃ v h', k v h' = true ∧ XdOk P (.call { callee := .builtin .copy, args := args, argTypes := #[t, u] }) vs h v h' := by
  obtain ⟨x, y, rfl, k1⟩ := v2_true hk
  have shape : ∀ (E : Nm) (x : V) (p : Value), den E x = some p → (∃ r : Unit, x = .nils ∨ (∃ a, x = .slz a)) → ∃ a c, p = .slice a 0 c := fun E x p d hx => by
    obtain ⟨_, rfl | ⟨a, rfl⟩⟩ := hx
    · simp only [den, Option.some.injEq] at d; exact ⟨_, _, d.symm⟩
    · simp only [den] at d
      split at d <;> cases d
      exact ⟨_, _, rfl⟩
  have shape2 : ∀ (E : Nm) (x : V) (p : Value), den E x = some p → ((∃ r : Unit, x = .nils ∨ (∃ a, x = .slz a)) ∨ ∃ b o l c, x = .sl b o l c) → ∃ a l c, p = .slice a l c := fun E x p d hx => by
    rcases hx with hx | ⟨b, o, l, c, rfl⟩
    · obtain ⟨a, c, rfl⟩ := shape E x p d hx; exact ⟨_, _, _, rfl⟩
    · obtain ⟨l, cap, _, _, rfl, _⟩ := den_sl d; exact ⟨_, _, _, rfl⟩
  have zero : k (.int .i64 0) h = true → (∀ E p q, den E x = some p → den E y = some q → ∃ d a dl dc sl sc, p = .slice d dl dc ∧ q = .slice a sl sc ∧ Nat.min sl dl = 0) →
      ∃ v h', k v h' = true ∧ XdOk P (.call { callee := .builtin .copy, args := args, argTypes := #[t, u] }) [x, y] h v h' := fun hk hx =>
    ⟨_, _, hk, fun E w ρ o g ho hd => by
      obtain ⟨p, q, d1, d2, ha⟩ := args2 hd
      obtain ⟨d, a, dl, dc, sl, sc, rfl, rfl, hm⟩ := hx E p q d1 d2
      refine ⟨E, w, goInt 0, .value (goInt 0), Step.refl g, den_len (n := 0) (by omega), ?_, .inl rfl⟩
      refine call_run (f := Builtin.copy_ #[t, u] o.type (args.map ρ)) ho (fun _ => rfl) ?_
      rw [ha]; exact copy_none ht hs hm⟩
  rcases V.onSl_true k1 with ⟨hx, k2⟩ | ⟨a, hx, k2⟩ | ⟨b, off, len, c, hx, k2⟩
  · rcases V.onSl_true k2 with ⟨hy, k3⟩ | ⟨a, hy, k3⟩ | ⟨b, off, len, c, hy, k3⟩
    all_goals
      refine zero k3 fun E p q d1 d2 => ?_
      obtain ⟨a1, c1, rfl⟩ := shape E x p d1 ⟨(), .inl hx⟩
    · obtain ⟨a2, c2, rfl⟩ := shape E y q d2 ⟨(), .inl hy⟩; exact ⟨_, _, _, _, _, _, rfl, rfl, rfl⟩
    · obtain ⟨a2, c2, rfl⟩ := shape E y q d2 ⟨(), .inr ⟨_, hy⟩⟩; exact ⟨_, _, _, _, _, _, rfl, rfl, rfl⟩
    · obtain ⟨a2, l2, c2, rfl⟩ := shape2 E y q d2 (.inr ⟨_, _, _, _, hy⟩); exact ⟨_, _, _, _, _, _, rfl, rfl, Nat.min_zero _⟩
  · rcases V.onSl_true k2 with ⟨hy, k3⟩ | ⟨a', hy, k3⟩ | ⟨b, off, len, c, hy, k3⟩
    all_goals
      refine zero k3 fun E p q d1 d2 => ?_
      obtain ⟨a1, c1, rfl⟩ := shape E x p d1 ⟨(), .inr ⟨_, hx⟩⟩
    · obtain ⟨a2, c2, rfl⟩ := shape E y q d2 ⟨(), .inl hy⟩; exact ⟨_, _, _, _, _, _, rfl, rfl, rfl⟩
    · obtain ⟨a2, c2, rfl⟩ := shape E y q d2 ⟨(), .inr ⟨_, hy⟩⟩; exact ⟨_, _, _, _, _, _, rfl, rfl, rfl⟩
    · obtain ⟨a2, l2, c2, rfl⟩ := shape2 E y q d2 (.inr ⟨_, _, _, _, hy⟩); exact ⟨_, _, _, _, _, _, rfl, rfl, Nat.min_zero _⟩
  · rcases V.onSl_true k2 with ⟨hy, k3⟩ | ⟨a', hy, k3⟩ | ⟨b', off', len', c', hy, k3⟩
    · refine zero k3 fun E p q d1 d2 => ?_
      obtain ⟨a1, l1, c1, rfl⟩ := shape2 E x p d1 (.inr ⟨_, _, _, _, hx⟩)
      obtain ⟨a2, c2, rfl⟩ := shape E y q d2 ⟨(), .inl hy⟩; exact ⟨_, _, _, _, _, _, rfl, rfl, Nat.zero_min _⟩
    · refine zero k3 fun E p q d1 d2 => ?_
      obtain ⟨a1, l1, c1, rfl⟩ := shape2 E x p d1 (.inr ⟨_, _, _, _, hx⟩)
      obtain ⟨a2, c2, rfl⟩ := shape E y q d2 ⟨(), .inr ⟨_, hy⟩⟩; exact ⟨_, _, _, _, _, _, rfl, rfl, Nat.zero_min _⟩
    · rw [natK_eq] at k3
      obtain ⟨n, hn⟩ : ∃ n, n = (Bool.rec len' len (Nat.ble len len') : Nat) := ⟨_, rfl⟩
      rw [← hn] at k3
      have hmin : Nat.min len' len = n := by
        rw [hn]
        cases hb : Nat.ble len len'
        · have : ¬ (len ≤ len') := fun e => by rw [ble_iff.2 e] at hb; cases hb
          exact Nat.min_eq_left (by omega)
        · exact Nat.min_eq_right (ble_iff.1 hb)
      obtain ⟨e1, cc, tl, hg, hl, k4⟩ := H.loadK_true k3
      have hl : off' + n * s ≤ cc.length := hl
      obtain ⟨e2, cc2, tl2, hg2, hl2, k5⟩ := H.storeK_true k4
      obtain ⟨hn64, k6⟩ := lenV_true k5
      refine ⟨_, _, k6, fun E w ρ o g ho hd => ?_⟩
      obtain ⟨p, q, d1, d2, ha⟩ := args2 hd
      subst hx; subst hy
      obtain ⟨l1, cap1, hE1, hle1, rfl, _⟩ := den_sl d1
      obtain ⟨l2, cap2, hE2, hle2, rfl, _⟩ := den_sl d2
      obtain ⟨l', h3, h0, cs, rest, h4, h5, h6, h7⟩ := g.stand b' _ hg (by simp)
      rw [hE2] at h3; cases h3
      have hcl := denL_length h5
      obtain ⟨s1, s2⟩ := step_store g hg2 hE1 hl2 (all_drop_take h4 off' (n * s)) (denL_take (n * s) (denL_drop off' h5))
      refine ⟨E, _, goInt n, .value (goInt n), s2, den_len hn64, ?_, .inl rfl⟩
      refine call_run (f := Builtin.copy_ #[t, u] o.type (args.map ρ)) ho (fun _ => rfl) ?_
      rw [ha]
      have hzo : l2.of + off' = off' := by omega
      simp only [hzo]
      have hf := firstCells_run (P := P) (w := w) (n := n) (size := s) (len := len') (cap := cap2) (o := off') h6 (by omega)
      simp only [Builtin.copy_, List.getElem?_toArray, List.getElem?_cons_zero, List.getElem?_cons_succ, Sem.run_bind, run_underlying ht, Result.andThen_ok, lenOf_slice, hmin, size_run hs, hf, s1, Sem.run_pure]
/-- a slice, or its very end -/
theorem xd_slice {t e s : Nat} {a : Operand} {lo : Option Operand} (hu : P.underlying t = some (.slice e)) (hs : szO P e = some s)
    (hk : evSlice lo none none vs (fun x lo _ _ => x_slice s x lo h k) = true) : ∃ v h', k v h' = true ∧ XdOk P (.slice t a lo none none) vs h v h' := by
  have hr : ∃ x vlo, x_slice s x vlo h k = true ∧ (∀ f' : V → Option V → Option V → Option V → Bool, f' x vlo none none = true → evSlice lo none none vs f' = true) ∧
      ((lo = none ∧ vlo = none ∧ vs = [x]) ∨ ∃ b y, lo = some b ∧ vlo = some y ∧ vs = [x, y]) := by
    cases vs with
    | nil => exact Bool.noConfusion hk
    | cons x l =>
      cases lo with
      | none =>
        cases l with
        | nil => exact ⟨x, none, hk, fun f' h => h, .inl ⟨rfl, rfl, rfl⟩⟩
        | cons _ _ => exact Bool.noConfusion hk
      | some b =>
        cases l with
        | nil => exact Bool.noConfusion hk
        | cons y l =>
          cases l with
          | nil => exact ⟨x, some y, hk, fun f' h => h, .inr ⟨b, y, rfl, rfl, rfl⟩⟩
          | cons _ _ => exact Bool.noConfusion hk
  obtain ⟨x, vlo, k1, hre, hsh⟩ := hr
  have plain : r_slice s x vlo none none (fun v => k v h) = true → ∃ v h', k v h' = true ∧ XdOk P (.slice t a lo none none) vs h v h' := fun hk => by
    obtain ⟨v, k2, hrd⟩ := rd_slice (P := P) (a := a) (k := fun v => k v h) hu hs (fun _ => rfl) (hre (fun x lo hi mx => r_slice s x lo hi mx (fun v => k v h)) hk)
    refine ⟨v, h, k2, fun E w ρ o g ho hd => ?_⟩
    obtain ⟨y, d1, d2⟩ := hrd E w ρ o ho hd
    exact ⟨E, w, y, .value y, Step.refl g, d1, d2, .inl rfl⟩
  unfold x_slice a_tail at k1
  rcases V.onSl_true k1 with ⟨_, k2⟩ | ⟨_, _, k2⟩ | ⟨b, off, len, c, rfl, k2⟩
  · exact plain k2
  · exact plain k2
  · cases c with
    | n c => exact plain k2
    | v d =>
      obtain ⟨nlo, k3, hb⟩ := optK_true k2
      rcases hb with ⟨rfl, rfl⟩ | ⟨j, l, rfl, hp, rfl⟩
      · exact plain k3
      · rcases condK_or k3 with ⟨hll, k4⟩ | ⟨_, k4⟩
        · have hll := Nat.eq_of_beq_eq_true hll
          subst hll
          cases l with
          | zero => exact plain k4
          | succ l =>
            have k4 : h.nextK (fun n h => k (.slz n) h) = true := k4
            rw [H.nextK_eq] at k4
            refine ⟨_, _, k4, fun E w ρ o g ho hd => ?_⟩
            rcases hsh with ⟨_, hv, _⟩ | ⟨bo, y, rfl, hv, rfl⟩
            · cases hv
            · cases hv
              obtain ⟨d1, d2⟩ := den2 hd
              obtain ⟨loc, cap, hE, hle, hx, hc⟩ := den_sl d1
              obtain ⟨_, hy⟩ := den_int d2
              rw [wrap_pos hp] at hy
              have hbnd := bounds_run (P := P) (isSlice := true) (len := l + 1) (cap := cap) (lo := some (ρ bo)) (hi := none) (mx := none) (nlo := some (l + 1)) (nhi := none) (nmx := none) (l := l + 1) (hh := l + 1) (m := cap)
                (.inr ⟨j, l + 1, congrArg some hy, rfl⟩) (.inl ⟨rfl, rfl⟩) (.inl ⟨rfl, rfl⟩) (fun _ => rfl) rfl rfl rfl (Nat.le_refl _) hle (Nat.le_refl _) w
              have hr := slice_run hu hs (ao := some ⟨loc.bl, loc.of + off, none⟩) hbnd
              rw [sl_addr] at hr
              obtain ⟨ad, had⟩ : ∃ ad : Addr, ad = ⟨loc.bl, if cap = l + 1 then loc.of + off else loc.of + off + (l + 1) * s, none⟩ := ⟨_, rfl⟩
              rw [← had] at hr
              have hden : den (E.set h.n ⟨0, cap - (l + 1), ad, .bool false, 0⟩) (.slz h.n) = some (.slice (some ad) 0 (cap - (l + 1))) := by
                simp only [den, Nm.set_same]
              refine ⟨E.set h.n ⟨0, cap - (l + 1), ad, .bool false, 0⟩, w, .slice (some ad) 0 (cap - (l + 1)), .value (.slice (some ad) 0 (cap - (l + 1))), Step.next g _ (.inl rfl) rfl rfl rfl, hden, ?_, .inl rfl⟩
              have hx' : ρ a = .slice (some ⟨loc.bl, loc.of + off, none⟩) (l + 1) cap := hx
              simp only [execOp, ho, hx', Option.map_some, Option.map_none, Sem.run_bind, hr, Result.andThen_ok, Sem.run_pure, Nat.sub_self]
        · exact plain k4
theorem evT_sound {op : Op} (hk : evT P op vs h k = true) : ∃ v h', k v h' = true ∧ XdOk P op vs h v h' := by
  unfold evT at hk
  split at hk
  · split at hk
    · rename_i e hu
      obtain ⟨s, hs, hk⟩ := okK_true hk
      exact xd_slice hu hs hk
    · cases hk
  · cases hk
end
end Go.Ev

/-
  The evaluator of closed calls: a part.
-/
set_option linter.unusedVariables false
set_option linter.unusedSimpArgs false
namespace Go.Ev
theorem find_push {dst : Option Nat} {v u : V} {env : Env} {t : Nat} (h : find t (push dst v env) = some u) : (dst = some t ∧ u = v) ∨ (dst ≠ some t ∧ find t env = some u) := by
  cases dst with
  | none => exact .inr ⟨by simp, h⟩
  | some d =>
    simp only [push, find] at h
    split at h
    · rename_i hb
      cases h
      exact .inl ⟨by rw [Nat.eq_of_beq_eq_true hb], rfl⟩
    · rename_i hb
      refine .inr ⟨fun e => ?_, h⟩
      cases e
      rw [Nat.beq_refl] at hb
      cases hb
theorem slotAt_get : ∀ {ks : List Nat} {t i j : Nat}, slotAt t ks i = some j → i ≤ j ∧ ks[j - i]? = some t
  | [], t, i, j, h => by simp [slotAt] at h
  | u :: ks, t, i, j, h => by
    simp only [slotAt] at h
    split at h
    · rename_i hb
      cases h
      rw [Nat.sub_self, Nat.eq_of_beq_eq_true hb]
      exact ⟨Nat.le_refl _, rfl⟩
    · obtain ⟨h1, h2⟩ := slotAt_get h
      refine ⟨by omega, ?_⟩
      rw [show j - i = (j - (i + 1)) + 1 by omega, List.getElem?_cons_succ]
      exact h2
theorem slot_some {ks : List Nat} {t : Nat} {s : N} (h : slot ks t = some s) : ∃ j, slotAt t ks 1 = some j ∧ s = toN j ∧ 1 ≤ j := by
  unfold slot at h
  cases hs : slotAt t ks 1 with
  | none => rw [hs] at h; cases h
  | some j => rw [hs] at h; cases h; exact ⟨j, rfl, rfl, (slotAt_get hs).1⟩
theorem slot_inj {ks : List Nat} {t u : Nat} {s : N} (h : slot ks t = some s) (h' : slot ks u = some s) : t = u := by
  obtain ⟨j, h1, h2, _⟩ := slot_some h
  obtain ⟨j', h3, h4, _⟩ := slot_some h'
  have : j = j' := by rw [← toN_val j, ← toN_val j', ← h2, ← h4]
  subst this
  have h5 := (slotAt_get h1).2
  have h6 := (slotAt_get h3).2
  rw [h5] at h6
  cases h6; rfl
theorem slot_ne {ks : List Nat} {t : Nat} {s : N} (h : slot ks t = some s) : s ≠ .e := by
  obtain ⟨j, h1, h2, h3⟩ := slot_some h
  intro e
  rw [e] at h2
  have := toN_val j
  rw [← h2] at this
  have : N.val .e = 0 := rfl
  omega
/-- the calls that are put off -/
def DfrL (E : Nm) : List V → List Deferred → Prop
  | [], ds => ds = []
  | .fn f r [] :: l, d :: ds => (∃ cap as rs, d = { target := .fn (.func f.val) cap, args := as } ∧ denL E r = some rs ∧ as ++ cap = rs.toArray) ∧ DfrL E l ds
  | _, _ => False
def Dfr (E : Nm) : Option V → List Deferred → Prop
  | none, ds => ds = []
  | some (.tup l), ds => DfrL E l ds
  | _, _ => False
theorem DfrL.ext {E E' : Nm} (h : Ext E E') : ∀ {l : List V} {ds : List Deferred}, DfrL E l ds → DfrL E' l ds
  | [], ds, hd => hd
  | v :: l, [], hd => by cases v <;> first | exact hd.elim | skip
                         rename_i f r c; cases c <;> exact hd.elim
  | v :: l, d :: ds, hd => by
    cases v <;> first | exact hd.elim | skip
    rename_i f r c
    cases c with
    | nil =>
      obtain ⟨⟨cap, as, rs, h1, h2, h3⟩, h4⟩ := hd
      exact ⟨⟨cap, as, rs, h1, denL_ext h _ _ h2, h3⟩, DfrL.ext h h4⟩
    | cons _ _ => exact hd.elim
theorem Dfr.ext {E E' : Nm} (h : Ext E E') {o : Option V} {ds : List Deferred} (hd : Dfr E o ds) : Dfr E' o ds := by
  cases o with
  | none => exact hd
  | some v => cases v <;> first | exact hd.elim | exact DfrL.ext h hd
/-- the table of the temporaries that are kept, and the frame -/
structure Rel (E : Nm) (ks : List Nat) (nt : Nat) (a : A) (act : Act) : Prop where
  size : nt ≤ act.tmps.size
  val : ∀ t s, slot ks t = some s → den E ((T.get s a).getD V.undef) = some (act.tmps.getD t undef)
  dfr : Dfr E (T.get .e a) act.defers
theorem Rel.ext {E E' : Nm} {ks : List Nat} {nt : Nat} {a : A} {act : Act} (h : Ext E E') (r : Rel E ks nt a act) : Rel E' ks nt a act :=
  ⟨r.size, fun t s hs => den_ext h _ _ (r.val t s hs), r.dfr.ext h⟩
def EnvOk (E : Nm) (env : Env) (act : Act) : Prop := ∀ t v, find t env = some v → den E v = some (act.tmps.getD t undef)
theorem EnvOk.ext {E E' : Nm} {env : Env} {act : Act} (h : Ext E E') (r : EnvOk E env act) : EnvOk E' env act := fun t v hv => den_ext h _ _ (r t v hv)
section
variable {cx : Cx}
theorem fetch_sound {env : Env} {x : Operand} {a : A} {k : KV} (hk : fetch cx env x a k = true) :
    ∃ v, k v = true ∧ ∀ E h w act, Good cx.P E h w → Rel E cx.ks cx.nt a act → EnvOk E env act → den E v = some (act.eval x) := by
  cases x with
  | const v =>
    have hk : okK (cV 3000 v) k = true := hk
    obtain ⟨v, hv, hk⟩ := okK_true hk
    exact ⟨v, hk, fun E h w act _ _ _ => cV_den 3000 _ v hv E⟩
  | func f =>
    refine ⟨_, hk, fun E h w act _ _ _ => ?_⟩
    simp [den, denL, Act.eval, toN_val]
  | global g =>
    simp only [fetch] at hk
    split at hk
    · rename_i hg
      refine ⟨_, hk, fun E h w act gd _ _ => ?_⟩
      have hlt : g < cx.P.globals.size := by rw [Nat.blt_eq] at hg; exact hg
      obtain ⟨l, h1, h2, h3⟩ := gd.glob g hlt
      simp only [den, h1, h2, h3]
      rfl
    · cases hk
  | tmp t =>
    simp only [fetch] at hk
    cases hf : find t env with
    | some v => rw [hf] at hk; exact ⟨v, hk, fun E h w act _ _ ho => ho t v hf⟩
    | none =>
      rw [hf] at hk
      obtain ⟨s, hs, hk⟩ := okK_true hk
      rw [s_get_eq] at hk
      rw [T.getK_eq] at hk
      have : ∃ v, k v = true ∧ (T.get s a).getD V.undef = v := by
        cases hg : T.get s a with
        | none => rw [hg] at hk; exact ⟨_, hk, rfl⟩
        | some v => rw [hg] at hk; exact ⟨v, hk, rfl⟩
      obtain ⟨v, h1, h2⟩ := this
      exact ⟨v, h1, fun E h w act _ r _ => by rw [← h2]; exact r.val t s hs⟩
theorem fetchL_sound {env : Env} {a : A} : ∀ {l : List Operand} {k : List V → Bool}, fetchL cx env l a k = true →
    ∃ vs, k vs = true ∧ ∀ E h w act, Good cx.P E h w → Rel E cx.ks cx.nt a act → EnvOk E env act → denL E vs = some (l.map act.eval)
  | [], k, hk => ⟨[], hk, fun E h w act _ _ _ => by simp [denL]⟩
  | x :: l, k, hk => by
    obtain ⟨v, h1, h2⟩ := fetch_sound (k := fun v => fetchL cx env l a (fun r => k (v :: r))) hk
    obtain ⟨vs, h3, h4⟩ := fetchL_sound h1
    exact ⟨v :: vs, h3, fun E h w act g r ho => denL_cons.2 ⟨_, _, h2 E h w act g r ho, h4 E h w act g r ho, rfl⟩⟩
theorem s_if_true {κ : Type} {g : V} {want : Bool} {op no : κ → Bool} {k : κ} (hk : s_if g want op no k = true) :
    (g = .bool want ∧ op k = true) ∨ ((∃ b, g = .bool b ∧ b ≠ want) ∧ no k = true) ∨ ((∃ l, g = .tup l) ∧ no k = true) := by
  cases g <;> first | exact Bool.noConfusion hk | skip
  · rename_i b
    have hk : condK b (condK want (op k) (no k)) (condK want (no k) (op k)) = true := hk
    rcases condK_or hk with ⟨rfl, h⟩ | ⟨rfl, h⟩ <;> rcases condK_or h with ⟨rfl, h⟩ | ⟨rfl, h⟩
    · exact .inl ⟨rfl, h⟩
    · exact .inr (.inl ⟨⟨_, rfl, by simp⟩, h⟩)
    · exact .inr (.inl ⟨⟨_, rfl, by simp⟩, h⟩)
    · exact .inl ⟨rfl, h⟩
  · exact .inr (.inr ⟨⟨_, rfl⟩, hk⟩)
theorem guard_sound' {κ : Type} {env : Env} {o : Oper} {op no : κ → Bool} {k : κ} (hk : guardK cx env o.guard op no k = true) :
    ∃ want : Bool, ((want = true ∧ op k = true) ∨ (want = false ∧ no k = true)) ∧ ∀ (E : Nm) (act : Act), (∀ j w t v, o.guard = some (j, w) → (cx.ops[j]?).bind (·.dst) = some t → find t env = some v → den E v = some (act.tmps.getD t undef)) → Region.wanted o (yielded cx.ops.toArray act.tmps) = want := by
  unfold guardK at hk
  split at hk
  · rename_i hg
    exact ⟨true, .inl ⟨rfl, hk⟩, fun E act _ => by simp [Region.wanted, hg]⟩
  · rename_i j w hg
    obtain ⟨gv, h1, hk⟩ := okK_true hk
    cases ho : (cx.ops[j]?).bind (·.dst) with
    | none => rw [ho] at h1; cases h1
    | some t =>
      rw [ho] at h1
      have h1 : find t env = some gv := h1
      have hy : ∀ act : Act, yielded cx.ops.toArray act.tmps j = match act.tmps[t]? with | some (.bool b) => some b | _ => none := fun act => by
        unfold yielded
        have : (cx.ops.toArray[j]?).bind (·.dst) = some t := by simpa using ho
        rw [this]
        rfl
      have htm : ∀ (act : Act) (x : Value), act.tmps.getD t undef = x → x ≠ undef → act.tmps[t]? = some x := fun act x hx hne => by
        cases h : act.tmps[t]? with
        | none => rw [Array.getD_eq_getD_getElem?, h] at hx; exact absurd hx.symm hne
        | some y => rw [Array.getD_eq_getD_getElem?, h] at hx; exact congrArg some hx
      rcases s_if_true hk with ⟨rfl, h2⟩ | ⟨⟨b, rfl, hb⟩, h2⟩ | ⟨⟨l, rfl⟩, h2⟩
      · refine ⟨true, .inl ⟨rfl, h2⟩, fun E act he => ?_⟩
        have h3 := he j w t _ hg ho h1
        rw [den_bool] at h3
        have h4 := htm act (.bool w) (by injection h3 with h3; exact h3.symm) (by simp [undef])
        simp [Region.wanted, hg, hy, h4]
      · refine ⟨false, .inr ⟨rfl, h2⟩, fun E act he => ?_⟩
        have h3 := he j w t _ hg ho h1
        rw [den_bool] at h3
        have h4 := htm act (.bool b) (by injection h3 with h3; exact h3.symm) (by simp [undef])
        simp [Region.wanted, hg, hy, h4, hb]
      · refine ⟨false, .inr ⟨rfl, h2⟩, fun E act he => ?_⟩
        have h3 := he j w t _ hg ho h1
        obtain ⟨cs, _, h5⟩ := den_tup h3
        have h6 : yielded cx.ops.toArray act.tmps j = none := by
          rw [hy]
          cases h : act.tmps[t]? with
          | none => rfl
          | some y =>
            rw [Array.getD_eq_getD_getElem?, h] at h5
            have h5 : y = .tuple cs.toArray := h5
            rw [h5]
        simp [Region.wanted, hg, h6]
theorem guard_sound {κ : Type} {env : Env} {o : Oper} {op no : κ → Bool} {k : κ} (hk : guardK cx env o.guard op no k = true) :
    ∃ want : Bool, ((want = true ∧ op k = true) ∨ (want = false ∧ no k = true)) ∧ ∀ E act, EnvOk E env act → Region.wanted o (yielded cx.ops.toArray act.tmps) = want := by
  obtain ⟨want, h1, h2⟩ := guard_sound' hk
  exact ⟨want, h1, fun E act he => h2 E act fun _ _ t v _ _ hv => he t v hv⟩
theorem put_getD {act : Act} {t u : Nat} {x : Value} (ht : t < act.tmps.size) : (act.put (some t) x).tmps.getD u undef = if t = u then x else act.tmps.getD u undef := by
  simp only [Act.put, Array.getD_eq_getD_getElem?, Array.getElem?_setIfInBounds]
  split
  · rename_i h; subst h; simp [ht]
  · rfl
theorem bind_sound {dst : Option Nat} {v : V} {a : A} {k : A → Bool} (hk : bindK cx dst v a k = true) :
    ∃ a', k a' = true ∧ T.get .e a' = T.get .e a ∧ (∀ E act x, Rel E cx.ks cx.nt a act → den E v = some x → Rel E cx.ks cx.nt a' (act.put dst x) ∧ ∀ env, EnvOk E env act → EnvOk E (push dst v env) (act.put dst x)) := by
  unfold bindK at hk
  split at hk
  · exact ⟨a, hk, rfl, fun E act x r hx => ⟨r, fun env he => he⟩⟩
  · rename_i t
    split at hk
    · rename_i ht
      have ht : t < cx.nt := by rw [Nat.blt_eq] at ht; exact ht
      have henv : ∀ E act x, Rel E cx.ks cx.nt a act → den E v = some x → ∀ env, EnvOk E env act → EnvOk E (push (some t) v env) (act.put (some t) x) := fun E act x r hx env he u w hu => by
        rw [put_getD (Nat.lt_of_lt_of_le ht r.size)]
        rcases find_push hu with ⟨h1, rfl⟩ | ⟨h1, h2⟩
        · cases h1; rw [if_pos rfl]; exact hx
        · rw [if_neg (fun e => h1 (by rw [e]))]; exact he u w h2
      split at hk
      · rename_i s hs
        unfold s_set at hk
        rw [T.setK_eq] at hk
        refine ⟨_, hk, T.get_set_ne v s .e a (slot_ne hs), fun E act x r hx => ⟨⟨by simp [Act.put]; exact r.size, fun u s' hs' => ?_, ?_⟩, henv E act x r hx⟩⟩
        · rw [put_getD (Nat.lt_of_lt_of_le ht r.size)]
          by_cases e : t = u
          · subst e
            rw [hs] at hs'; cases hs'
            rw [T.get_set, if_pos rfl]
            exact hx
          · rw [if_neg e, T.get_set_ne v s s' a (fun e' => e (slot_inj hs (e' ▸ hs')))]
            exact r.val u s' hs'
        · rw [T.get_set_ne v s .e a (slot_ne hs)]
          exact r.dfr
      · rename_i hs
        refine ⟨a, hk, rfl, fun E act x r hx => ⟨⟨by simp [Act.put]; exact r.size, fun u s' hs' => ?_, r.dfr⟩, henv E act x r hx⟩⟩
        rw [put_getD (Nat.lt_of_lt_of_le ht r.size), if_neg (fun e => by subst e; rw [hs] at hs'; cases hs')]
        exact r.val u s' hs'
    · cases hk
end
end Go.Ev

/-
  The evaluator of closed calls: a part.
-/
set_option linter.unusedVariables false
set_option linter.unusedSimpArgs false
namespace Go.Ev
def Callable (P : Program) (f : Nat) : Prop := ∃ fn, P.funcs[f]? = some fn ∧ fn.body.isSome = true ∧ (fn.name == "runtime.NumGoroutine") = false
/-- what a call leaves -/
def Back (P : Program) (E : Nm) (h : H) (w : World) (v : V) (h' : H) : Ending → World → Prop := fun e w' => ∃ x E', e = .returned x ∧ Step P E h w E' h' w' ∧ den E' v = some x
def CallOk (P : Program) (call : Call) : Prop := ∀ f xs h k, call f xs h k = true → Callable P f.val ∧ ∃ v h', k v h' = true ∧
  ∀ E w xs', Good P E h w → denL E xs = some xs' → Calls P f.val xs'.toArray w (Back P E h w v h')
theorem callFunc_run {P : Program} {f : Nat} (h : Callable P f) (args : Array Value) (w : World) : (callFunc f args).run P w = .ok (.enter f args) w := by
  obtain ⟨fn, h1, h2, h3⟩ := h
  have h4 : fn.body.isNone = false := by cases hb : fn.body <;> simp_all
  simp only [callFunc, Sem.run_bind, run_program, Result.andThen_ok, h1, h3, Bool.false_eq_true, if_false, h4, Sem.run_pure]
/-- an operation of the frame: h becomes h', v is yielded -/
def XWp (P : Program) (op : Op) (vs : List V) (h : H) (v : V) (h' : H) : Prop :=
  ∀ E w (act : Act) (o : Oper), Good P E h w → o.op = op → denL E vs = some (op.operands.toList.map act.eval) →
    ∀ (next : Act → World → Prop) (Q : Exit → Act → World → Prop), (∀ E' w' x, Step P E h w E' h' w' → den E' v = some x → next (act.put o.dst x) w') → o.wp P act w next Q
section
variable {P : Program} {op : Op} {vs : List V} {h h' : H} {v : V}
theorem RdOk.wp (r : RdOk P op vs h v) : XWp P op vs h v h := fun E w act o g ho hd next Q hn => by
  obtain ⟨x, h1, h2⟩ := r E w act.eval o g.stand ho hd
  unfold Oper.wp
  rw [h2]
  exact hn E w x (Step.refl g) h1
theorem XdOk.wp (r : XdOk P op vs h v h') : XWp P op vs h v h' := fun E w act o g ho hd next Q hn => by
  obtain ⟨E', w', x, nx, h1, h2, h3, h4⟩ := r E w act.eval o g ho hd
  unfold Oper.wp
  rw [h3]
  rcases h4 with rfl | ⟨rfl, rfl⟩
  · exact hn E' w' x h1 h2
  · exact hn E' w' undef h1 h2
theorem MkOk.wp {mk : N → V} {ob : O} (r : MkOk P op vs mk ob) : XWp P op vs h (mk h.n) (h.new ob) := fun E w act o g ho hd next Q hn => by
  obtain ⟨hd0, r⟩ := r
  obtain ⟨obj, l, x, h1, h2, h3, h4⟩ := r E w act.eval o ho hd
  unfold Oper.wp
  rw [h4]
  have hs : Stand P (E.set h.n l) (w.alloc obj) l ob := h2 _ _ (g.ext_new l) (by
    show (w.heap.push obj)[l.bl]? = _
    rw [h1, Array.getElem?_push_size])
  exact hn _ _ x (Step.new g l h1 hd0 (ob := obj) rfl rfl rfl rfl hs) (h3 _ _ (Nm.set_same E h.n l))
theorem Back.upon {o : Oper} {act : Act} {E : Nm} {w : World} {next : Act → World → Prop} {Q : Exit → Act → World → Prop} {f : Nat} {args : Array Value}
    (hc : Calls P f args w (Back P E h w v h')) (hn : ∀ E' w' x, Step P E h w E' h' w' → den E' v = some x → next (act.put o.dst x) w') :
    o.upon P act next Q (.ok (.enter f args) w) := by
  refine Calls.mono hc fun e w' he => ?_
  obtain ⟨x, E', rfl, h1, h2⟩ := he
  exact hn E' w' x h1 h2
theorem call_direct {call : Call} (hc : CallOk P call) {f : FuncId} {args : Array Operand} {ts : Array TypeId} {k : KH} (hk : vh vs (fun _ xs => x_call (toN f) xs call h k) = true) :
    ∃ v h', k v h' = true ∧ XWp P (.call { callee := .value (.func f), args := args, argTypes := ts }) vs h v h' := by
  obtain ⟨x, xs, rfl, k1⟩ := vh_true hk
  obtain ⟨hcall, v, h', k2, hrun⟩ := hc _ _ _ _ k1
  refine ⟨v, h', k2, fun E w act o g ho hd next Q hn => ?_⟩
  obtain ⟨y, z, d1, d2, d3⟩ := denL_cons.1 hd
  have e : (Op.call { callee := .value (.func f), args := args, argTypes := ts }).operands.toList.map act.eval = act.eval (.func f) :: args.toList.map act.eval := by simp [Op.operands, Call.operands]
  rw [e] at d3
  cases d3
  have hcs := hrun E w _ g d2
  rw [toN_val] at hcs hcall
  have ha : (args.toList.map act.eval).toArray = args.map act.eval := by apply Array.ext'; rw [Array.toList_map]
  rw [ha] at hcs
  unfold Oper.wp
  have hx : (execOp act.eval o).run P w = .ok (.enter f (args.map act.eval)) w := by
    simp only [execOp, ho, resolve, Sem.run_bind, Act.eval, Deferred.ofValue, Sem.run_pure, Result.andThen_ok, invoke]
    rw [callFunc_run hcall]
    congr 2
    apply Array.ext'
    simp
  rw [hx]
  exact Back.upon hcs hn
theorem call_value {call : Call} (hc : CallOk P call) {fo : Operand} {args : Array Operand} {ts : Array TypeId} {k : KH} (hk : vh vs (fun f xs => x_callv f xs call h k) = true) :
    ∃ v h', k v h' = true ∧ XWp P (.call { callee := .value fo, args := args, argTypes := ts }) vs h v h' := by
  obtain ⟨x, xs, rfl, k1⟩ := vh_true hk
  obtain ⟨f, fi, ca, rfl, k2⟩ := V.onFn_true k1
  rw [appK_eq, appK_eq] at k2
  obtain ⟨hcall, v, h', k3, hrun⟩ := hc _ _ _ _ k2
  refine ⟨v, h', k3, fun E w act o g ho hd next Q hn => ?_⟩
  obtain ⟨y, z, d1, d2, d3⟩ := denL_cons.1 hd
  have e : (Op.call { callee := .value fo, args := args, argTypes := ts }).operands.toList.map act.eval = act.eval fo :: args.toList.map act.eval := by simp [Op.operands, Call.operands]
  rw [e] at d3
  obtain ⟨e1, e2⟩ := List.cons.inj d3
  subst e2
  simp only [den] at d1
  split at d1
  · rename_i p q hp hq
    injection d1 with d1
    have hcs := hrun E w _ g (denL_append.2 ⟨_, _, hp, denL_append.2 ⟨_, _, d2, hq, rfl⟩, rfl⟩)
    unfold Oper.wp
    have hv : act.eval fo = .func (.func f.val) p.toArray q.toArray := by rw [e1, ← d1]
    have hx : (execOp act.eval o).run P w = .ok (.enter f.val (p.toArray ++ args.map act.eval ++ q.toArray)) w := by
      simp only [execOp, ho, resolve, Sem.run_bind, hv, Deferred.ofValue, Sem.run_pure, Result.andThen_ok, invoke]
      rw [callFunc_run hcall]
    rw [hx]
    have ha : (p ++ (args.toList.map act.eval ++ q)).toArray = p.toArray ++ args.map act.eval ++ q.toArray := by
      apply Array.ext'; simp
    rw [ha] at hcs
    exact Back.upon hcs hn
  · cases d1
theorem evX_sound {call : Call} (hc : CallOk P call) {k : KH} (hk : evX P op vs call h k = true) : ∃ v h', k v h' = true ∧ XWp P op vs h v h' := by
  have conv : (∃ v h', k v h' = true ∧ XdOk P op vs h v h') → ∃ v h', k v h' = true ∧ XWp P op vs h v h' := fun ⟨v, h', h1, h2⟩ => ⟨v, h', h1, h2.wp⟩
  unfold evX at hk
  split at hk
  · split at hk
    · rename_i s hs
      split at hk
      · exact conv (xd_storeA hs hk)
      · split at hk
        · exact conv (xd_store1 hs hk)
        · cases hk
      · cases hk
    · cases hk
  · split at hk
    · rename_i key e hu; exact conv (xd_mupd (.inl rfl) hu hk)
    · cases hk
  · split at hk
    · rename_i key e hu; exact conv (xd_mupd (.inr rfl) hu hk)
    · cases hk
  · exact call_direct hc hk
  · exact call_value hc hk
  · exact call_value hc hk
  · rename_i args ts
    split at hk
    · rename_i t u hl
      have ht : ts = #[t, u] := by apply Array.toList_inj.1; exact hl
      subst ht
      split at hk
      · rename_i e f h1 h2
        obtain ⟨z, hz, hk⟩ := okK_true hk
        obtain ⟨s, hs, hk⟩ := okK_true hk
        exact conv (xd_append h1 h2 hz hs hk)
      · rename_i e j h1 h2
        obtain ⟨z, hz, hk⟩ := okK_true hk
        obtain ⟨s, hs, hk⟩ := okK_true hk
        exact conv (xd_appendz h1 h2 hz hs hk)
      · cases hk
    · cases hk
  · rename_i args ts
    split at hk
    · rename_i t l hl
      have ht : ts = (t :: l).toArray := by apply Array.toList_inj.1; exact hl
      subst ht
      split at hk
      · rename_i e h1
        obtain ⟨z, hz, hk⟩ := okK_true hk
        exact conv (xd_clear h1 hz hk)
      · cases hk
    · cases hk
  · rename_i args ts
    split at hk
    · rename_i t u hl
      have ht : ts = #[t, u] := by apply Array.toList_inj.1; exact hl
      subst ht
      split at hk
      · rename_i e f h1 h2
        obtain ⟨s, hs, hk⟩ := okK_true hk
        exact conv (xd_copy h1 hs hk)
      · cases hk
    · cases hk
  · rename_i args ts
    split at hk
    · rename_i t l hl
      have ht : ts = (t :: l).toArray := by apply Array.toList_inj.1; exact hl
      subst ht
      split at hk
      · rename_i key e h1
        exact conv (xd_delete h1 hk)
      · cases hk
    · cases hk
  · cases hk
end
end Go.Ev

/-
  The evaluator of closed calls: a part.
-/
set_option linter.unusedVariables false
set_option linter.unusedSimpArgs false
namespace Go.Ev
section
variable {cx : Cx} {call : Call}
/-- what one operation does, whether it is wanted or not -/
def OpOk (cx : Cx) (i : Nat) (o : Oper) (env : Env) (a : A) (h : H) (v : V) (a1 : A) (h1 : H) : Prop :=
  ∀ E act w, Good cx.P E h w → Rel E cx.ks cx.nt a act → EnvOk E env act → ∀ (K : Act → World → Prop) (Q : Exit → Act → World → Prop),
    (∀ E' act' w', Step cx.P E h w E' h1 w' → Rel E' cx.ks cx.nt a1 act' → EnvOk E' (push o.dst v env) act' → K act' w') → wpOp cx.P cx.ops.toArray Q i K act w
theorem op_on {i : Nat} {o : Oper} {env : Env} {a : A} {h h1 : H} {v : V} {vs : List V} {k : A → Bool} (hi : cx.ops[i]? = some o)
    (hv : ∀ E h w act, Good cx.P E h w → Rel E cx.ks cx.nt a act → EnvOk E env act → denL E vs = some (o.op.operands.toList.map act.eval))
    (hw : ∀ E act, EnvOk E env act → Region.wanted o (yielded cx.ops.toArray act.tmps) = true) (hx : XWp cx.P o.op vs h v h1) (hb : bindK cx o.dst v a k = true) :
    ∃ a1, k a1 = true ∧ OpOk cx i o env a h v a1 h1 := by
  obtain ⟨a1, k1, _, hb⟩ := bind_sound hb
  refine ⟨a1, k1, fun E act w g r he K Q hK => ?_⟩
  have hi' : cx.ops.toArray[i]? = some o := by simpa using hi
  unfold wpOp
  simp only [hi', hw E act he, if_true]
  refine .inl (hx E w act o g rfl (hv E h w act g r he) K Q fun E' w' x s hd => ?_)
  obtain ⟨r1, e1⟩ := hb E' act x (r.ext s.ext) hd
  exact hK E' _ w' s r1 (e1 env (he.ext s.ext))
theorem op_off {i : Nat} {o : Oper} {env : Env} {a : A} {h : H} {k : A → Bool} (hi : cx.ops[i]? = some o)
    (hw : ∀ E act, EnvOk E env act → Region.wanted o (yielded cx.ops.toArray act.tmps) = false) (hb : bindK cx o.dst V.undef a k = true) :
    ∃ a1, k a1 = true ∧ OpOk cx i o env a h V.undef a1 h := by
  obtain ⟨a1, k1, _, hb⟩ := bind_sound hb
  refine ⟨a1, k1, fun E act w g r he K Q hK => ?_⟩
  have hi' : cx.ops.toArray[i]? = some o := by simpa using hi
  unfold wpOp
  simp only [hi', hw E act he, Bool.false_eq_true, if_false]
  obtain ⟨r1, e1⟩ := hb E act undef r (den_undef E)
  exact hK E _ w (Step.refl g) r1 (e1 env he)
theorem evR_it {i : Nat} {env : Env} {obs : List (Nat × Ob)} {a : A} {h : H} {kn : KA} {ih : RK} (hk : evIt cx call (.R i) ih env obs a h kn = true) :
    ∃ o v a1, cx.ops[i]? = some o ∧ ih (push o.dst v env) obs a1 h kn = true ∧ OpOk cx i o env a h v a1 h := by
  obtain ⟨o, hi, k1⟩ := okK_true hk
  obtain ⟨vs, k2, hv⟩ := fetchL_sound k1
  obtain ⟨want, hc, hw⟩ := guard_sound k2
  rcases hc with ⟨rfl, k3⟩ | ⟨rfl, k3⟩
  · obtain ⟨v, k4, hr, _⟩ := evR_sound k3
    obtain ⟨a1, k5, hok⟩ := op_on hi hv hw hr.wp k4
    exact ⟨o, v, a1, hi, k5, hok⟩
  · obtain ⟨a1, k5, hok⟩ := op_off hi hw k3
    exact ⟨o, _, a1, hi, k5, hok⟩
theorem evA_it {i : Nat} {env : Env} {obs : List (Nat × Ob)} {a : A} {h : H} {kn : KA} {ih : RK} (hk : evIt cx call (.A i) ih env obs a h kn = true) :
    ∃ o v a1 h1, cx.ops[i]? = some o ∧ ih (push o.dst v env) obs a1 h1 kn = true ∧ OpOk cx i o env a h v a1 h1 := by
  obtain ⟨o, hi, k1⟩ := okK_true hk
  obtain ⟨vs, k2, hv⟩ := fetchL_sound k1
  obtain ⟨want, hc, hw⟩ := guard_sound k2
  rcases hc with ⟨rfl, k3⟩ | ⟨rfl, k3⟩
  · obtain ⟨mk, ob, k4, hr⟩ := evA_sound k3
    rw [H.newK_eq] at k4
    obtain ⟨a1, k5, hok⟩ := op_on hi hv hw hr.wp k4
    exact ⟨o, _, a1, _, hi, k5, hok⟩
  · obtain ⟨a1, k5, hok⟩ := op_off hi hw k3
    exact ⟨o, _, a1, _, hi, k5, hok⟩
theorem evT_it {i : Nat} {env : Env} {obs : List (Nat × Ob)} {a : A} {h : H} {kn : KA} {ih : RK} (hk : evIt cx call (.T i) ih env obs a h kn = true) :
    ∃ o v a1 h1, cx.ops[i]? = some o ∧ ih (push o.dst v env) obs a1 h1 kn = true ∧ OpOk cx i o env a h v a1 h1 := by
  obtain ⟨o, hi, k1⟩ := okK_true hk
  obtain ⟨vs, k2, hv⟩ := fetchL_sound k1
  obtain ⟨want, hc, hw⟩ := guard_sound k2
  rcases hc with ⟨rfl, k3⟩ | ⟨rfl, k3⟩
  · obtain ⟨v, h1, k4, hr⟩ := evT_sound k3
    obtain ⟨a1, k5, hok⟩ := op_on hi hv hw hr.wp k4
    exact ⟨o, _, a1, _, hi, k5, hok⟩
  · obtain ⟨a1, k5, hok⟩ := op_off hi hw k3
    exact ⟨o, _, a1, _, hi, k5, hok⟩
theorem evX_it (hcall : CallOk cx.P call) {i : Nat} {env : Env} {obs : List (Nat × Ob)} {a : A} {h : H} {kn : KA} {ih : RK} (hk : evIt cx call (.X i) ih env obs a h kn = true) :
    ∃ o v a1 h1, cx.ops[i]? = some o ∧ ih (push o.dst v env) obs a1 h1 kn = true ∧ OpOk cx i o env a h v a1 h1 := by
  obtain ⟨o, hi, k1⟩ := okK_true hk
  obtain ⟨vs, k2, hv⟩ := fetchL_sound k1
  obtain ⟨want, hc, hw⟩ := guard_sound k2
  rcases hc with ⟨rfl, k3⟩ | ⟨rfl, k3⟩
  · obtain ⟨v, h1, k4, hr⟩ := evX_sound hcall k3
    obtain ⟨a1, k5, hok⟩ := op_on hi hv hw hr k4
    exact ⟨o, _, a1, _, hi, k5, hok⟩
  · obtain ⟨a1, k5, hok⟩ := op_off hi hw k3
    exact ⟨o, _, a1, _, hi, k5, hok⟩
/-- a call is put off -/
theorem defer_true {x : V} {xs : List V} {a : A} {k : A → Bool} (hk : x_defer x xs a k = true) :
    ∃ f fi ca l, x = .fn f fi ca ∧ k (T.set .e (.tup (.fn f (fi ++ (xs ++ ca)) [] :: l)) a) = true ∧ (T.get .e a = some (.tup l) ∨ (T.get .e a = none ∧ l = [])) := by
  obtain ⟨f, fi, ca, rfl, k1⟩ := V.onFn_true hk
  rw [appK_eq, appK_eq, T.getK_eq] at k1
  cases hg : T.get .e a with
  | none =>
    rw [hg] at k1
    rw [T.setK_eq] at k1
    exact ⟨f, fi, ca, [], rfl, k1, .inr ⟨rfl, rfl⟩⟩
  | some v =>
    rw [hg] at k1
    obtain ⟨l, rfl, k2⟩ := V.onTup_true k1
    rw [T.setK_eq] at k2
    exact ⟨f, fi, ca, l, rfl, k2, .inl rfl⟩
theorem isDefer_true {op : Op} (h : isDefer op = true) : ∃ fo args ts, op = .defer { callee := .value fo, args := args, argTypes := ts } := by
  unfold isDefer at h
  split at h
  · exact ⟨_, _, _, rfl⟩
  · cases h
theorem evD_it {i : Nat} {env : Env} {obs : List (Nat × Ob)} {a : A} {h : H} {kn : KA} {ih : RK} (hk : evIt cx call (.D i) ih env obs a h kn = true) :
    ∃ o v a1, cx.ops[i]? = some o ∧ ih (push o.dst v env) obs a1 h kn = true ∧ OpOk cx i o env a h v a1 h := by
  obtain ⟨o, hi, k1⟩ := okK_true hk
  obtain ⟨vs, k2, hv⟩ := fetchL_sound k1
  obtain ⟨want, hc, hw⟩ := guard_sound k2
  have hi' : cx.ops.toArray[i]? = some o := by simpa using hi
  rcases hc with ⟨rfl, k3⟩ | ⟨rfl, k3⟩
  · split at k3
    · rename_i hde
      obtain ⟨fo, args, ts, hop⟩ := isDefer_true hde
      obtain ⟨x, xs, rfl, k4⟩ := vh_true k3
      obtain ⟨f, fi, ca, l, rfl, k5, hl⟩ := defer_true k4
      obtain ⟨a1, k6, _, hb⟩ := bind_sound k5
      refine ⟨o, _, a1, hi, k6, fun E act w g r he K Q hK => ?_⟩
      unfold wpOp
      simp only [hi', hw E act he, if_true]
      refine .inl ?_
      have hvs := hv E h w act g r he
      have e : o.op.operands.toList.map act.eval = act.eval fo :: args.toList.map act.eval := by simp [hop, Op.operands, Call.operands]
      rw [e] at hvs
      obtain ⟨y, z, d1, d2, d3⟩ := denL_cons.1 hvs
      obtain ⟨e1, e2⟩ := List.cons.inj d3
      subst e2
      simp only [den] at d1
      split at d1
      · rename_i p q hp hq
        injection d1 with d1
        have hfv : act.eval fo = .func (.func f.val) p.toArray q.toArray := by rw [e1, ← d1]
        have hx : (execOp act.eval o).run cx.P w = .ok (.defer { target := .fn (.func f.val) q.toArray, args := p.toArray ++ args.map act.eval }) w := by
          simp only [execOp, hop, resolve, Sem.run_bind, hfv, Deferred.ofValue, Sem.run_pure, Result.andThen_ok]
        unfold Oper.wp
        rw [hx]
        have hr : denL E (fi ++ (xs ++ ca)) = some (p ++ (args.toList.map act.eval ++ q)) := denL_append.2 ⟨_, _, hp, denL_append.2 ⟨_, _, d2, hq, rfl⟩, rfl⟩
        have r2 : Rel E cx.ks cx.nt (T.set .e (.tup (.fn f (fi ++ (xs ++ ca)) [] :: l)) a) { act with defers := { target := .fn (.func f.val) q.toArray, args := p.toArray ++ args.map act.eval } :: act.defers } := by
          refine ⟨r.size, fun t s hs => ?_, ?_⟩
          · rw [T.get_set_ne _ _ s a (slot_ne hs).symm]; exact r.val t s hs
          · rw [T.get_set]
            refine ⟨⟨q.toArray, p.toArray ++ args.map act.eval, _, rfl, hr, by apply Array.ext'; simp⟩, ?_⟩
            have := r.dfr
            rcases hl with hl | ⟨hl, rfl⟩
            · rw [hl] at this; exact this
            · rw [hl] at this; exact this
        obtain ⟨r1, e1⟩ := hb E _ undef r2 (den_undef E)
        exact hK E _ w (Step.refl g) r1 (e1 env he)
      · cases d1
    · cases k3
  · obtain ⟨a1, k5, hok⟩ := op_off (k := fun a => ih (push o.dst V.undef env) obs a h kn) hi hw k3
    exact ⟨o, _, a1, hi, k5, hok⟩
/-- a region whose order is the text's -/
theorem text_sound (hcall : CallOk cx.P call) : ∀ (rest : List Oper) (i : Nat) (env : Env) (obs : List (Nat × Ob)) (a : A) (h : H) (kn : KA), cx.ops.drop i = rest →
    evIts cx call (textOrder cx.P i rest) env obs a h kn = true →
    ∃ a' h', kn a' h' = true ∧ ∀ E act w (Q : Exit → Act → World → Prop), Good cx.P E h w → Rel E cx.ks cx.nt a act → EnvOk E env act →
      (∀ E' act' w', Step cx.P E h w E' h' w' → Rel E' cx.ks cx.nt a' act' → Q .normal act' w') → wpOps cx.P cx.ops.toArray Q (List.range' i rest.length) act w
  | [], i, env, obs, a, h, kn, _, hk => ⟨a, h, hk, fun E act w Q g r he hQ => hQ E act w (Step.refl g) r⟩
  | o :: rest, i, env, obs, a, h, kn, hd, hk => by
    have hk : evIt cx call (kindOf cx.P i o) (evIts cx call (textOrder cx.P (i + 1) rest)) env obs a h kn = true := hk
    have hrest : cx.ops.drop (i + 1) = rest := by rw [← List.drop_drop, hd]; rfl
    have fin : ∀ o' v a1 h1, evIts cx call (textOrder cx.P (i + 1) rest) (push o'.dst v env) obs a1 h1 kn = true → OpOk cx i o' env a h v a1 h1 →
        ∃ a' h', kn a' h' = true ∧ ∀ E act w (Q : Exit → Act → World → Prop), Good cx.P E h w → Rel E cx.ks cx.nt a act → EnvOk E env act →
          (∀ E' act' w', Step cx.P E h w E' h' w' → Rel E' cx.ks cx.nt a' act' → Q .normal act' w') → wpOps cx.P cx.ops.toArray Q (List.range' i (o :: rest).length) act w := by
      intro o' v a1 h1 hk1 hok
      obtain ⟨a', h', k2, hr⟩ := text_sound hcall rest (i + 1) _ obs a1 h1 kn hrest hk1
      refine ⟨a', h', k2, fun E act w Q g r he hQ => ?_⟩
      rw [List.length_cons, List.range'_succ, wpOps_cons]
      refine hok E act w g r he _ Q fun E1 act1 w1 s1 r1 e1 => ?_
      exact hr E1 act1 w1 Q s1.good r1 e1 fun E2 act2 w2 s2 r2 => hQ E2 act2 w2 (s1.trans s2) r2
    have hkind : kindOf cx.P i o = .R i ∨ kindOf cx.P i o = .A i ∨ kindOf cx.P i o = .T i ∨ kindOf cx.P i o = .X i ∨ kindOf cx.P i o = .D i := by
      unfold kindOf
      split <;> first | exact .inl rfl | exact .inr (.inl rfl) | exact .inr (.inr (.inr (.inl rfl))) | exact .inr (.inr (.inr (.inr rfl))) | (split <;> first | exact .inl rfl | exact .inr (.inr (.inl rfl)))
    rcases hkind with e | e | e | e | e <;> rw [e] at hk
    · obtain ⟨o', v, a1, _, k1, hok⟩ := evR_it hk; exact fin o' v a1 h k1 hok
    · obtain ⟨o', v, a1, h1, _, k1, hok⟩ := evA_it hk; exact fin o' v a1 h1 k1 hok
    · obtain ⟨o', v, a1, h1, _, k1, hok⟩ := evT_it hk; exact fin o' v a1 h1 k1 hok
    · obtain ⟨o', v, a1, h1, _, k1, hok⟩ := evX_it hcall hk; exact fin o' v a1 h1 k1 hok
    · obtain ⟨o', v, a1, _, k1, hok⟩ := evD_it hk; exact fin o' v a1 h k1 hok
end
end Go.Ev

