/-
  Parts of one proof, one behind the other.
-/
import Derived.Test.YtbigilbbbmanjaaGreatDoorMgeea62387c6
import Derived.Below
import Derived.RowKit
import Derived.KernelRfl
import Derived.Test.YtbigilbbbmanjaaGreatDoorMgbf9aad01db
/-
  The evaluator of closed calls: a part.
-/
set_option linter.unusedVariables false
set_option linter.unusedSimpArgs false
namespace Go.Ev
/-- what follows an exit, in continuations -/
def Sat (kn kr : KA) (ke : Nat → KA) : Exit → A → H → Prop
  | .normal, a, h => kn a h = true
  | .ret, a, h => kr a h = true
  | .exit i, a, h => ke i a h = true
  | _, _, _ => False
/-- how a piece of code ends -/
def PostC (P : Program) (ks : List Nat) (nt : Nat) (E : Nm) (h : H) (w : World) (ex : Exit) (a' : A) (h' : H) : Exit → Act → World → Prop := fun e act' w' =>
  e = ex ∧ ∃ E', Step P E h w E' h' w' ∧ Rel E' ks nt a' act'
def CodeOk (fx : Fx) (c : Code) (a : A) (h : H) (ex : Exit) (a' : A) (h' : H) : Prop :=
  ∀ E act w, Good fx.P E h w → Rel E fx.ks fx.nt a act → c.wp fx.P (PostC fx.P fx.ks fx.nt E h w ex a' h') act w
/-- regions that draw their order -/
def DrawOk (fx : Fx) (call : Call) : Prop := ∀ (id : Nat) (ops : Array Oper) (a : A) (h : H) (kn kr : KA) (ke : Nat → KA), evReg fx id ops true call a h kn kr ke = true →
  ∃ a' h', kn a' h' = true ∧ CodeOk fx (.region id ops true) a h .normal a' h'
section
variable {fx : Fx} {call : Call}
theorem env_nil (E : Nm) (act : Act) : EnvOk E [] act := fun t v h => by simp [find] at h
theorem reg_sound (hcall : CallOk fx.P call) {id : Nat} {ops : Array Oper} {a : A} {h : H} {kn kr : KA} {ke : Nat → KA} (hk : evReg fx id ops false call a h kn kr ke = true) :
    ∃ a' h', kn a' h' = true ∧ CodeOk fx (.region id ops false) a h .normal a' h' := by
  have hk : evIts { P := fx.P, ks := fx.ks, nt := fx.nt, ops := ops.toList } call (textOrder fx.P 0 ops.toList) [] [] a h kn = true := hk
  obtain ⟨a', h', k1, hr⟩ := text_sound (cx := { P := fx.P, ks := fx.ks, nt := fx.nt, ops := ops.toList }) hcall ops.toList 0 [] [] a h kn rfl hk
  refine ⟨a', h', k1, fun E act w g r => wp_region ?_⟩
  have := hr E act w (PostC fx.P fx.ks fx.nt E h w .normal a' h') g r (env_nil E act) (fun E' act' w' s r' => ⟨rfl, E', s, r'⟩)
  simp only [Array.toArray_toList, Array.length_toList] at this
  rw [List.range_eq_range']
  exact this
theorem PostC.trans {P : Program} {ks : List Nat} {nt : Nat} {E E₁ : Nm} {h h₁ h₂ : H} {w w₁ : World} {ex : Exit} {a₂ : A} (s : Step P E h w E₁ h₁ w₁) {e : Exit} {act : Act} {w' : World}
    (p : PostC P ks nt E₁ h₁ w₁ ex a₂ h₂ e act w') : PostC P ks nt E h w ex a₂ h₂ e act w' := by
  obtain ⟨h1, E', h2, h3⟩ := p
  exact ⟨h1, E', s.trans h2, h3⟩
theorem loop_sound {c : Code} (ih : ∀ (a : A) (h : H) (kn kr : KA) (ke : Nat → KA), evCode fx c call a h kn kr ke = true → ∃ ex a' h', Sat kn kr ke ex a' h' ∧ CodeOk fx c a h ex a' h') (kr : KA) (ke : Nat → KA) :
    ∀ (n : Nat) (a : A) (h : H), iterK (evCode fx c) call kr ke n a h = true → ∃ ex a' h', Sat (fun _ _ => false) kr ke ex a' h' ∧
      ∀ E act w, Good fx.P E h w → Rel E fx.ks fx.nt a act → ∀ (b : Frame) (k : List Item) (cs : List Frame), ∃ e act' w', PostC fx.P fx.ks fx.nt E h w ex a' h' e act' w' ∧
        Arrives fx.P (lone (b.at act (.code c :: .inLoop c :: k)) cs w) b k cs e act' w'
  | 0, a, h, hk => by cases hk
  | n + 1, a, h, hk => by
    have hk : evCode fx c call a h (iterK (evCode fx c) call kr ke n) kr ke = true := hk
    obtain ⟨ex, a1, h1, hs, hc⟩ := ih a h _ kr ke hk
    cases ex with
    | normal =>
      obtain ⟨ex2, a2, h2, hs2, hc2⟩ := loop_sound ih kr ke n a1 h1 hs
      refine ⟨ex2, a2, h2, hs2, fun E act w g r b k cs => ?_⟩
      obtain ⟨e, act1, w1, ⟨rfl, E1, s1, r1⟩, harr⟩ := hc E act w g r b (.inLoop c :: k) cs
      obtain ⟨e2, act2, w2, p2, harr2⟩ := hc2 E1 act1 w1 s1.good r1 b k cs
      exact ⟨e2, act2, w2, p2.trans s1, .of_steps (Steps.trans harr (.one step_inLoop)) harr2⟩
    | ret =>
      refine ⟨.ret, a1, h1, hs, fun E act w g r b k cs => ?_⟩
      obtain ⟨e, act1, w1, ⟨rfl, p⟩, harr⟩ := hc E act w g r b (.inLoop c :: k) cs
      exact ⟨_, act1, w1, ⟨rfl, p⟩, .pass (x := .inLoop c) rfl (fun _ _ => .inl (by simp)) harr⟩
    | exit i =>
      refine ⟨.exit i, a1, h1, hs, fun E act w g r b k cs => ?_⟩
      obtain ⟨e, act1, w1, ⟨rfl, p⟩, harr⟩ := hc E act w g r b (.inLoop c :: k) cs
      exact ⟨_, act1, w1, ⟨rfl, p⟩, .pass (x := .inLoop c) rfl (fun _ _ => .inl (by simp)) harr⟩
    | goto _ => exact hs.elim
    | panic _ => exact hs.elim
    | outgrown => exact hs.elim
theorem code_sound (hcall : CallOk fx.P call) (hdraw : DrawOk fx call) : ∀ (c : Code) (a : A) (h : H) (kn kr : KA) (ke : Nat → KA), evCode fx c call a h kn kr ke = true →
    ∃ ex a' h', Sat kn kr ke ex a' h' ∧ CodeOk fx c a h ex a' h' := by
  intro c
  induction c with
  | skip => intro a h kn kr ke hk; exact ⟨.normal, a, h, hk, fun E act w g r => wp_skip ⟨rfl, E, Step.refl g, r⟩⟩
  | label l => intro a h kn kr ke hk; exact ⟨.normal, a, h, hk, fun E act w g r => wp_label ⟨rfl, E, Step.refl g, r⟩⟩
  | exit i => intro a h kn kr ke hk; exact ⟨.exit i, a, h, hk, fun E act w g r => wp_exit ⟨rfl, E, Step.refl g, r⟩⟩
  | ret => intro a h kn kr ke hk; exact ⟨.ret, a, h, hk, fun E act w g r => wp_ret ⟨rfl, E, Step.refl g, r⟩⟩
  | region id ops draw =>
    intro a h kn kr ke hk
    cases draw with
    | false => obtain ⟨a', h', k1, hc⟩ := reg_sound (kr := kr) (ke := ke) hcall hk; exact ⟨.normal, a', h', k1, hc⟩
    | true => obtain ⟨a', h', k1, hc⟩ := hdraw id ops a h kn kr ke hk; exact ⟨.normal, a', h', k1, hc⟩
  | seq x y ihx ihy =>
    intro a h kn kr ke hk
    have hk : evCode fx x call a h (fun a h => evCode fx y call a h kn kr ke) kr ke = true := hk
    obtain ⟨ex, a1, h1, hs, hc⟩ := ihx a h _ kr ke hk
    have pass : ex ≠ .normal → Sat kn kr ke ex a1 h1 → ∃ ex a' h', Sat kn kr ke ex a' h' ∧ CodeOk fx (.seq x y) a h ex a' h' := fun hne hs =>
      ⟨ex, a1, h1, hs, fun E act w g r => wp_seq (wp_mono (hc E act w g r) fun e act' w' hp => by
        obtain ⟨rfl, p⟩ := hp
        cases e with
        | normal => exact absurd rfl hne
        | _ => exact ⟨rfl, p⟩)⟩
    cases ex with
    | normal =>
      obtain ⟨ex2, a2, h2, hs2, hc2⟩ := ihy a1 h1 kn kr ke hs
      refine ⟨ex2, a2, h2, hs2, fun E act w g r => wp_seq (wp_mono (hc E act w g r) fun e act' w' hp => ?_)⟩
      obtain ⟨rfl, E1, s1, r1⟩ := hp
      exact wp_mono (hc2 E1 act' w' s1.good r1) fun e2 act2 w2 p2 => p2.trans s1
    | ret => exact pass (by simp) hs
    | exit i => exact pass (by simp) hs
    | goto _ => exact hs.elim
    | panic _ => exact hs.elim
    | outgrown => exact hs.elim
  | cond x c d ihc ihd =>
    intro a h kn kr ke hk
    have hk : evCond fx x (evCode fx c) (evCode fx d) call a h kn kr ke = true := hk
    cases x with
    | tmp t =>
      cases hs : slot fx.ks t with
      | none => simp only [evCond, hs] at hk; cases hk
      | some s =>
        simp only [evCond, hs] at hk
        have hk : s_get s a (fun v => v.onBool (evCode fx c call a h kn kr ke) (evCode fx d call a h kn kr ke)) = true := hk
        have hg : ∃ v, (T.get s a).getD V.undef = v ∧ v.onBool (evCode fx c call a h kn kr ke) (evCode fx d call a h kn kr ke) = true := by
          rw [s_get_eq] at hk
          rw [T.getK_eq] at hk
          cases hg : T.get s a with
          | none => rw [hg] at hk; exact ⟨_, rfl, hk⟩
          | some v => rw [hg] at hk; exact ⟨v, rfl, hk⟩
        obtain ⟨v, hv, k1⟩ := hg
        have hev : ∀ E act (b : Bool), Rel E fx.ks fx.nt a act → v = .bool b → act.eval (.tmp t) = .bool b := fun E act b r hb => by
          have := r.val t s hs
          rw [hv, hb, den_bool] at this
          injection this with this
          exact this.symm
        rcases V.onBool_true k1 with ⟨hb, k2⟩ | ⟨hb, k2⟩
        · obtain ⟨ex, a', h', h1, h2⟩ := ihc a h kn kr ke k2
          exact ⟨ex, a', h', h1, fun E act w g r => wp_cond_true (hev E act true r hb) (h2 E act w g r)⟩
        · obtain ⟨ex, a', h', h1, h2⟩ := ihd a h kn kr ke k2
          exact ⟨ex, a', h', h1, fun E act w g r => wp_cond_false (hev E act false r hb) (h2 E act w g r)⟩
    | const v =>
      cases v with
      | bool b =>
        have hk : (V.bool b).onBool (evCode fx c call a h kn kr ke) (evCode fx d call a h kn kr ke) = true := hk
        rcases V.onBool_true hk with ⟨hb, k2⟩ | ⟨hb, k2⟩
        · cases hb
          obtain ⟨ex, a', h', h1, h2⟩ := ihc a h kn kr ke k2
          exact ⟨ex, a', h', h1, fun E act w g r => wp_cond_true rfl (h2 E act w g r)⟩
        · cases hb
          obtain ⟨ex, a', h', h1, h2⟩ := ihd a h kn kr ke k2
          exact ⟨ex, a', h', h1, fun E act w g r => wp_cond_false rfl (h2 E act w g r)⟩
      | _ => cases hk
    | _ => cases hk
  | block id c ih =>
    intro a h kn kr ke hk
    have hk : evCode fx c call a h kn kr (fun i => Bool.rec (ke i) kn (Nat.beq i id)) = true := hk
    obtain ⟨ex, a1, h1, hs, hc⟩ := ih a h kn kr _ hk
    cases ex with
    | normal =>
      refine ⟨.normal, a1, h1, hs, fun E act w g r => wp_block (wp_mono (hc E act w g r) fun e act' w' hp => ?_)⟩
      obtain ⟨rfl, p⟩ := hp
      exact ⟨rfl, p⟩
    | ret =>
      refine ⟨.ret, a1, h1, hs, fun E act w g r => wp_block (wp_mono (hc E act w g r) fun e act' w' hp => ?_)⟩
      obtain ⟨rfl, p⟩ := hp
      exact ⟨rfl, p⟩
    | exit i =>
      by_cases hi : i = id
      · subst hi
        have hs : (Bool.rec (ke i) kn (Nat.beq i i) : KA) a1 h1 = true := hs
        rw [Nat.beq_refl] at hs
        refine ⟨.normal, a1, h1, hs, fun E act w g r => wp_block (wp_mono (hc E act w g r) fun e act' w' hp => ?_)⟩
        obtain ⟨rfl, p⟩ := hp
        show Exit.inBlock i _ (.exit i) act' w'
        simp only [Exit.inBlock, if_true]
        exact ⟨rfl, p⟩
      · have hs : (Bool.rec (ke i) kn (Nat.beq i id) : KA) a1 h1 = true := hs
        have hb : Nat.beq i id = false := by
          cases hb : Nat.beq i id
          · rfl
          · exact absurd (Nat.eq_of_beq_eq_true hb) hi
        rw [hb] at hs
        refine ⟨.exit i, a1, h1, hs, fun E act w g r => wp_block (wp_mono (hc E act w g r) fun e act' w' hp => ?_)⟩
        obtain ⟨rfl, p⟩ := hp
        show Exit.inBlock id _ (.exit i) act' w'
        simp only [Exit.inBlock, hi, if_false]
        exact ⟨rfl, p⟩
    | goto _ => exact hs.elim
    | panic _ => exact hs.elim
    | outgrown => exact hs.elim
  | loop c ih =>
    intro a h kn kr ke hk
    obtain ⟨ex, a', h', hs, hc⟩ := loop_sound ih kr ke 2000 a h hk
    refine ⟨ex, a', h', ?_, fun E act w g r b k cs => ?_⟩
    · cases ex with
      | normal => cases hs
      | ret => exact hs
      | exit i => exact hs
      | _ => exact hs.elim
    · obtain ⟨e, act', w', hp, harr⟩ := hc E act w g r b k cs
      exact ⟨e, act', w', hp, .of_steps (.one step_loop) harr⟩
  | _ => intro a h kn kr ke hk; cases hk
end
end Go.Ev

/-
  The evaluator of closed calls: a part.
-/
set_option linter.unusedVariables false
set_option linter.unusedSimpArgs false
namespace Go.Ev
section
variable {P : Program}
/-! Results -/
def resOf (tmps : Array Value) : ResultVar → Sem Value
  | .tmp t => pure (tmps.getD t undef)
  | .cell a t => do loadVar t (← asAddr (tmps.getD a undef))
theorem results_eq (fn : Func) (tmps : Array Value) : results fn tmps = (do let vs ← fn.results.mapM (resOf tmps); pure (if h : vs.size = 1 then vs[0] else .tuple vs)) := by
  rfl
theorem resL_sound {ks : List Nat} {nt : Nat} : ∀ {rs : List ResultVar} {l : List RV} {a : A} {h : H} {k : List V → Bool}, evRess P ks rs = some l → resL l a h k = true →
    ∃ vs, k vs = true ∧ ∀ E act w, Good P E h w → Rel E ks nt a act → ∃ xs, denL E vs = some xs ∧
      (rs.mapM (m := Sem) (resOf act.tmps)).run P w = .ok xs w
  | [], l, a, h, k, hl, hk => by
    have : l = [] := by
      have hl : some [] = some l := hl
      injection hl with hl
      exact hl.symm
    subst this
    exact ⟨[], hk, fun E act w g r => ⟨[], by simp [denL], rfl⟩⟩
  | r :: rs, l, a, h, k, hl, hk => by
    have hl : (Option.rec none (fun v => Option.rec none (fun l => some (v :: l)) (evRess P ks rs)) (evRes P ks r) : Option (List RV)) = some l := hl
    cases hr : evRes P ks r with
    | none => rw [hr] at hl; cases hl
    | some v =>
      cases hrs : evRess P ks rs with
      | none => rw [hr, hrs] at hl; cases hl
      | some l' =>
        rw [hr, hrs] at hl
        have hl : some (v :: l') = some l := hl
        injection hl with hl
        subst hl
        have get : ∀ {s : N} {kk : V → Bool}, s_get s a kk = true → kk ((T.get s a).getD V.undef) = true := fun {s kk} hh => by
          rw [s_get_eq] at hh
          rw [T.getK_eq] at hh
          cases hg : T.get s a with
          | none => rw [hg] at hh; exact hh
          | some v => rw [hg] at hh; exact hh
        have one : ∀ (u : V) (q : Act → Sem Value), resL l' a h (fun r => k (u :: r)) = true →
            (∀ E act w, Good P E h w → Rel E ks nt a act → ∃ x, den E u = some x ∧ (q act).run P w = .ok x w) →
            (∀ act : Act, resOf act.tmps r = q act) →
            ∃ vs, k vs = true ∧ ∀ E act w, Good P E h w → Rel E ks nt a act → ∃ xs, denL E vs = some xs ∧
              ((r :: rs).mapM (m := Sem) (resOf act.tmps)).run P w = .ok xs w := by
          intro u q hk1 hu hq
          obtain ⟨vs, k2, hv⟩ := resL_sound (nt := nt) hrs hk1
          refine ⟨u :: vs, k2, fun E act w g rel => ?_⟩
          obtain ⟨x, d1, d2⟩ := hu E act w g rel
          obtain ⟨xs, d3, d4⟩ := hv E act w g rel
          refine ⟨x :: xs, denL_cons.2 ⟨x, xs, d1, d3, rfl⟩, ?_⟩
          rw [List.mapM_cons]
          simp only [Sem.run_bind, hq, d2, Result.andThen_ok, d4, Sem.run_pure]
        cases r with
        | tmp t =>
          have hr : (Option.rec none (fun s => some (.tmp s)) (slot ks t) : Option RV) = some v := hr
          cases hs : slot ks t with
          | none => rw [hs] at hr; cases hr
          | some s =>
            rw [hs] at hr
            have hr : some (RV.tmp s) = some v := hr
            injection hr with hr
            subst hr
            have hk : s_get s a (fun v => resL l' a h (fun r => k (v :: r))) = true := hk
            exact one _ (fun act => pure (act.tmps.getD t undef)) (get hk) (fun E act w g rel => ⟨_, rel.val t s hs, rfl⟩) (fun _ => rfl)
        | cell t u =>
          have hr : (Option.rec none (fun s => match aggO P u with | some true => Option.rec none (fun n => some (.cellA s n)) (szO P u) | some false => some (.cell1 s) | none => none) (slot ks t) : Option RV) = some v := hr
          cases hs : slot ks t with
          | none => rw [hs] at hr; cases hr
          | some s =>
            rw [hs] at hr
            have hr : (match aggO P u with | some true => (Option.rec none (fun n => some (.cellA s n)) (szO P u) : Option RV) | some false => some (.cell1 s) | none => none) = some v := hr
            cases ha : aggO P u with
            | none => rw [ha] at hr; cases hr
            | some b =>
              rw [ha] at hr
              cases b with
              | false =>
                have hr : some (RV.cell1 s) = some v := hr
                injection hr with hr
                subst hr
                have hk : s_get s a (fun p => r_load1 p h (fun v => resL l' a h (fun r => k (v :: r)))) = true := hk
                have hk1 := get hk
                obtain ⟨b', o', hv, hk2⟩ := V.onPtr_true hk1
                obtain ⟨ob, c, hg, hob, hk3⟩ := H.cellsK_true hk2
                obtain ⟨y, hy, hk4⟩ := nthK_true hk3
                refine one y (fun act => do loadVar u (← asAddr (act.tmps.getD t undef))) hk4 (fun E act w g rel => ?_) (fun _ => rfl)
                have hp := rel.val t s hs
                rw [hv] at hp
                obtain ⟨l, q1, q2⟩ := den_ptr hp
                obtain ⟨z, h8, hc⟩ := cells_stand g.stand hg hob q1 hy
                refine ⟨z, h8, ?_⟩
                simp only [Sem.run_bind, q2, asAddr, Sem.run_pure, Result.andThen_ok, loadVar, agg_run ha, Bool.false_eq_true, if_false, run_load, hc]
              | true =>
                cases hz : szO P u with
                | none => rw [hz] at hr; cases hr
                | some n =>
                  rw [hz] at hr
                  have hr : some (RV.cellA s n) = some v := hr
                  injection hr with hr
                  subst hr
                  have hk : s_get s a (fun p => r_loadA n p h (fun v => resL l' a h (fun r => k (v :: r)))) = true := hk
                  have hk1 := get hk
                  obtain ⟨b', o', hv, hk2⟩ := V.onPtr_true hk1
                  obtain ⟨e, c, tl, hg, hlen, hk3⟩ := H.loadK_true hk2
                  refine one _ (fun act => do loadVar u (← asAddr (act.tmps.getD t undef))) hk3 (fun E act w g rel => ?_) (fun _ => rfl)
                  have hp := rel.val t s hs
                  rw [hv] at hp
                  obtain ⟨l, q1, q2⟩ := den_ptr hp
                  obtain ⟨l'', h3, h0, cs, rest, h4, h5, h6, h7⟩ := g.stand b' _ hg (by simp)
                  rw [q1] at h3; cases h3
                  rw [h0, Nat.zero_add] at q2
                  have hcl := denL_length h5
                  refine ⟨_, agg_den (all_drop_take h4 o' n) (denL_take n (denL_drop o' h5)), ?_⟩
                  simp only [Sem.run_bind, q2, asAddr, Sem.run_pure, Result.andThen_ok, loadVar, agg_run ha, if_true, size_run hz, loadCells_run (P := P) h6 (show o' + n ≤ cs.length by omega)]
theorem fin_sound {ks : List Nat} {nt : Nat} {fn : Func} {res : List RV} {a : A} {h : H} {k : KH} (hr : evRess P ks fn.results.toList = some res) (hk : finK res k a h = true) :
    ∃ v, k v h = true ∧ ∀ E act w, Good P E h w → Rel E ks nt a act → ∃ x, den E v = some x ∧ (results fn act.tmps).run P w = .ok x w := by
  obtain ⟨vs, k1, hv⟩ := resL_sound (nt := nt) hr hk
  have hrun : ∀ (act : Act) (w : World) (xs : List Value), (fn.results.toList.mapM (m := Sem) (resOf act.tmps)).run P w = .ok xs w →
      (results fn act.tmps).run P w = .ok (if h : xs.toArray.size = 1 then xs.toArray[0] else .tuple xs.toArray) w := fun act w xs hm => by
    rw [results_eq]
    have e : (fn.results.mapM (m := Sem) (resOf act.tmps)) =
        Functor.map List.toArray (fn.results.toList.mapM (m := Sem) (resOf act.tmps)) := by
      rw [← List.mapM_toArray, Array.toArray_toList]
    rw [Sem.run_bind, e, Sem.run_map, hm]
    rfl
  cases vs with
  | nil =>
    refine ⟨.tup [], k1, fun E act w g r => ?_⟩
    obtain ⟨xs, d1, d2⟩ := hv E act w g r
    simp only [denL, Option.some.injEq] at d1
    subst d1
    exact ⟨.tuple #[], by simp [den, denL], by rw [hrun act w [] d2]; rfl⟩
  | cons v vs =>
    cases vs with
    | nil =>
      refine ⟨v, k1, fun E act w g r => ?_⟩
      obtain ⟨xs, d1, d2⟩ := hv E act w g r
      obtain ⟨y, z, d3, d4, rfl⟩ := denL_cons.1 d1
      simp only [denL, Option.some.injEq] at d4
      subst d4
      exact ⟨y, d3, by rw [hrun act w [y] d2]; rfl⟩
    | cons u vs =>
      refine ⟨.tup (v :: u :: vs), k1, fun E act w g r => ?_⟩
      obtain ⟨xs, d1, d2⟩ := hv E act w g r
      refine ⟨.tuple xs.toArray, by simp only [den, d1], ?_⟩
      rw [hrun act w xs d2]
      have hl := denL_length d1
      rw [dif_neg (by simp only [List.size_toArray, hl, List.length_cons]; omega)]
/-! Arguments -/
theorem argsK_true : ∀ {xs : List V} {i : N} {a : A} {k : A → Bool}, argsK xs i a k = true →
    ∃ a', k a' = true ∧ (∀ j (hj : j < xs.length), T.get (toN (i.val + j)) a' = some xs[j]) ∧ (∀ s : N, (s.val < i.val ∨ i.val + xs.length ≤ s.val) → T.get s a' = T.get s a)
  | [], i, a, k, hk => ⟨a, hk, fun j hj => absurd hj (Nat.not_lt_zero _), fun _ _ => rfl⟩
  | x :: xs, i, a, k, hk => by
    have hk : T.setK i x a (fun a => N.succK i (fun i => argsK xs i a k)) = true := hk
    rw [T.setK_eq, N.succK_eq] at hk
    obtain ⟨a', k1, h1, h2⟩ := argsK_true hk
    rw [N.val_succ] at h1 h2
    have hi : toN i.val = i := N.val_inj _ _ (toN_val _)
    refine ⟨a', k1, fun j hj => ?_, fun s hs => ?_⟩
    · cases j with
      | zero =>
        rw [Nat.add_zero, hi, h2 i (.inl (by omega)), T.get_set]
        rfl
      | succ j =>
        have := h1 j (by simpa using hj)
        rw [show i.val + (j + 1) = i.val + 1 + j by omega, this]
        rfl
    · rw [h2 s (by simp only [List.length_cons] at hs; omega), T.get_set_ne x i s a (fun e => by subst e; simp only [List.length_cons] at hs; omega)]
theorem okPar_get : ∀ {n i : Nat} {ks : List Nat}, okPar n i ks = true → ∀ j, j < n → ks[j]? = some (i + j)
  | 0, i, ks, h, j, hj => absurd hj (Nat.not_lt_zero _)
  | n + 1, i, [], h, j, hj => by cases h
  | n + 1, i, t :: ks, h, j, hj => by
    simp only [okPar, Bool.and_eq_true] at h
    cases j with
    | zero => rw [Nat.eq_of_beq_eq_true h.1]; rfl
    | succ j =>
      rw [List.getElem?_cons_succ, okPar_get h.2 j (by omega)]
      congr 1; omega
theorem slotAt_first : ∀ {ks : List Nat} {t i j : Nat}, slotAt t ks i = some j → ∀ m, m < j - i → ks[m]? ≠ some t
  | [], t, i, j, h, m, hm => by simp [slotAt] at h
  | u :: ks, t, i, j, h, m, hm => by
    simp only [slotAt] at h
    split at h
    · cases h; omega
    · rename_i hb
      have h1 := (slotAt_get h).1
      cases m with
      | zero =>
        intro e
        simp only [List.getElem?_cons_zero, Option.some.injEq] at e
        subst e
        rw [Nat.beq_refl] at hb; cases hb
      | succ m => exact slotAt_first h m (by omega)
/-- the frame at its beginning -/
theorem rel_start {E : Nm} {np nt : Nat} {ks : List Nat} {xs : List V} {ys : List Value} {a' : A} (hp : okPar np 0 ks = true) (hn : xs.length = np) (hd : denL E xs = some ys)
    (h1 : ∀ j (hj : j < xs.length), T.get (toN (1 + j)) a' = some xs[j]) (h2 : ∀ s : N, (s.val < 1 ∨ 1 + xs.length ≤ s.val) → T.get s a' = none) :
    Rel E ks nt a' { tmps := ys.toArray ++ Array.replicate (nt - ys.toArray.size) undef, defers := [] } := by
  have hyl := denL_length hd
  refine ⟨by simp only [Array.size_append, Array.size_replicate]; omega, fun t s hs => ?_, ?_⟩
  · obtain ⟨j, g1, g2, g3⟩ := slot_some hs
    have g4 := (slotAt_get g1).2
    by_cases hj : j - 1 < np
    · have g5 := okPar_get hp (j - 1) hj
      rw [g4] at g5
      have ht : t = j - 1 := by injection g5 with g5; omega
      have g6 := h1 (j - 1) (by omega)
      rw [show 1 + (j - 1) = j by omega, ← g2] at g6
      rw [g6]
      obtain ⟨y, e1, e2⟩ := denL_get hd (i := j - 1) (v := xs[j - 1]) (List.getElem?_eq_getElem (by omega))
      rw [← ht] at e2
      show den E xs[j - 1] = _
      rw [e1]
      congr 1
      have hlt := (List.getElem?_eq_some_iff.1 e2).1
      simp only [Array.getD_eq_getD_getElem?]
      rw [Array.getElem?_append_left (by simpa using hlt), List.getElem?_toArray, e2]
      rfl
    · have g6 := h2 s (.inr (by rw [g2, toN_val]; omega))
      rw [g6]
      show den E V.undef = _
      rw [den_undef]
      congr 1
      have htn : ¬ t < np := fun htn => by
        have g5 := okPar_get hp t htn
        rw [Nat.zero_add] at g5
        exact slotAt_first g1 t (by omega) g5
      simp only [Array.getD_eq_getD_getElem?]
      rw [Array.getElem?_append_right (by simp only [List.size_toArray]; omega), Array.getElem?_replicate]
      split <;> rfl
  · rw [h2 .e (.inl (by show 0 < 1; omega))]
    rfl
end
end Go.Ev

/-
  The evaluator of closed calls: a part.
-/
set_option linter.unusedVariables false
set_option linter.unusedSimpArgs false
namespace Go.Ev
section
variable {P : Program}
def DCallOk (P : Program) (call : Call) : Prop := ∀ f xs h k, call f xs h k = true → Callable P f.val ∧ ∃ v h', k v h' = true ∧
  ∀ E w xs', Good P E h w → denL E xs = some xs' → CallsD P f.val xs'.toArray .returning w (fun e u' w' => u' = .returning ∧ Back P E h w v h' e w')
theorem CallsD.mono' {f : FuncId} {args : Array Value} {u : FrameMode} {w : World} {R R' : Ending → FrameMode → World → Prop} (h : CallsD P f args u w R) (hr : ∀ e u' w', R e u' w' → R' e u' w') : CallsD P f args u w R' :=
  fun c cs hc => let ⟨e, u', w', fr, r, rest⟩ := h c cs hc; ⟨e, u', w', fr, hr _ _ _ r, rest⟩
theorem runD_sound {call : Call} (hd : DCallOk P call) {fn : Func} : ∀ {d : List V} {h : H} {k : H → Bool}, runD call d h k = true →
    ∃ h', k h' = true ∧ ∀ E w ds tmps R, Good P E h w → DfrL E d ds → (∀ E' w', Step P E h w E' h' w' → Leaves P fn tmps R [] .returning w') → Leaves P fn tmps R ds .returning w
  | [], h, k, hk => ⟨h, hk, fun E w ds tmps R g hdf hR => by
      have hdf : ds = [] := hdf
      subst hdf
      exact hR E w (Step.refl g)⟩
  | v :: d, h, k, hk => by
    have hk : v.onFn (fun f xs _ => call f xs h (fun _ h => runD call d h k)) = true := hk
    obtain ⟨f, r, c, rfl, k1⟩ := V.onFn_true hk
    obtain ⟨hcl, v, h1, k2, hrun⟩ := hd _ _ _ _ k1
    obtain ⟨h', k3, ih⟩ := runD_sound hd (fn := fn) k2
    refine ⟨h', k3, fun E w ds tmps R g hdf hR => ?_⟩
    cases c with
    | cons _ _ => cases ds <;> exact hdf.elim
    | nil =>
      cases ds with
      | nil => exact hdf.elim
      | cons dd ds =>
        obtain ⟨⟨cap, as, rs, rfl, h2, h3⟩, h4⟩ := hdf
        refine ⟨by simp, .func f.val, cap, f.val, as ++ cap, rfl, ?_, ?_⟩
        · exact callFunc_run hcl _ w
        · rw [h3]
          refine CallsD.mono' (hrun E w rs g h2) fun e u' w' he => ?_
          obtain ⟨rfl, x, E1, rfl, s1, _⟩ := he
          exact ih E1 w' ds tmps R s1.good (h4.ext s1.ext) fun E2 w2 s2 => hR E2 w2 (s1.trans s2)
theorem leave_sound {call : Call} (hd : DCallOk P call) {ks : List Nat} {nt : Nat} {fn : Func} {res : List RV} {a : A} {h : H} {k : KH} (hr : evRess P ks fn.results.toList = some res) (hk : leaveK call res k a h = true) :
    ∃ v h', k v h' = true ∧ ∀ E act w R, Good P E h w → Rel E ks nt a act → (∀ E' x w', Step P E h w E' h' w' → den E' v = some x → R (.returned x) w') → Leaves P fn act.tmps R act.defers .returning w := by
  unfold leaveK at hk
  rw [T.getK_eq] at hk
  cases hg : T.get .e a with
  | none =>
    rw [hg] at hk
    obtain ⟨v, k1, hv⟩ := fin_sound (nt := nt) hr hk
    refine ⟨v, h, k1, fun E act w R g r hR => ?_⟩
    obtain ⟨x, d1, d2⟩ := hv E act w g r
    have hdf := r.dfr
    rw [hg] at hdf
    have hdf : act.defers = [] := hdf
    rw [hdf]
    exact ⟨x, d2, hR E x w (Step.refl g) d1⟩
  | some u =>
    rw [hg] at hk
    obtain ⟨d, rfl, k1⟩ := V.onTup_true hk
    obtain ⟨h', k2, hrun⟩ := runD_sound hd (fn := fn) k1
    obtain ⟨v, k3, hv⟩ := fin_sound (nt := nt) hr k2
    refine ⟨v, h', k3, fun E act w R g r hR => ?_⟩
    have hdf := r.dfr
    rw [hg] at hdf
    refine hrun E w act.defers act.tmps R g hdf fun E' w' s => ?_
    obtain ⟨x, d1, d2⟩ := hv E' act w' s.good (r.ext s.ext)
    exact ⟨x, d2, hR E' x w' s d1⟩
theorem leave0_sound {ks : List Nat} {nt : Nat} {fn : Func} {res : List RV} {a : A} {h : H} {k : KH} (hr : evRess P ks fn.results.toList = some res) (hk : leaveK0 res k a h = true) :
    ∃ v, k v h = true ∧ ∀ E act w, Good P E h w → Rel E ks nt a act → act.defers = [] ∧ ∃ x, den E v = some x ∧ (results fn act.tmps).run P w = .ok x w := by
  unfold leaveK0 at hk
  rw [T.getK_eq] at hk
  cases hg : T.get .e a with
  | some u => rw [hg] at hk; cases hk
  | none =>
    rw [hg] at hk
    obtain ⟨v, k1, hv⟩ := fin_sound (nt := nt) hr hk
    refine ⟨v, k1, fun E act w g r => ⟨?_, hv E act w g r⟩⟩
    have hdf := r.dfr
    rw [hg] at hdf
    exact hdf
theorem enter_sound {fx : Fx} {call : Call} (hcall : CallOk fx.P call) (hdraw : DrawOk fx call) {c : Code} {xs : List V} {h : H} {np : Nat} {kl : KA} (hp : okPar np 0 fx.ks = true) (hk : enterK call xs h np (evCode fx c) kl = true) :
    ∃ ex a' h', (ex = .normal ∨ ex = .ret) ∧ kl a' h' = true ∧ ∀ E w ys, Good fx.P E h w → denL E xs = some ys →
      c.wp fx.P (PostC fx.P fx.ks fx.nt E h w ex a' h') { tmps := ys.toArray ++ Array.replicate (fx.nt - ys.toArray.size) undef, defers := [] } w := by
  unfold enterK at hk
  rw [lenK_eq] at hk
  obtain ⟨hn, k1⟩ := condK_true hk
  have hn := Nat.eq_of_beq_eq_true hn
  obtain ⟨a0, k2, h1, h2⟩ := argsK_true k1
  obtain ⟨ex, a', h', hs, hc⟩ := code_sound hcall hdraw c a0 h kl kl noK k2
  have start : ∀ E ys, denL E xs = some ys → Rel E fx.ks fx.nt a0 { tmps := ys.toArray ++ Array.replicate (fx.nt - ys.toArray.size) undef, defers := [] } := fun E ys hd =>
    rel_start hp hn hd h1 (fun s hs => by rw [h2 s hs]; exact T.get_l s)
  have fin : (ex = .normal ∨ ex = .ret) → kl a' h' = true → _ := fun he hkl => (⟨ex, a', h', he, hkl, fun E w ys g hd => hc E _ w g (start E ys hd)⟩ :
    ∃ ex a' h', (ex = .normal ∨ ex = .ret) ∧ kl a' h' = true ∧ ∀ E w ys, Good fx.P E h w → denL E xs = some ys →
      c.wp fx.P (PostC fx.P fx.ks fx.nt E h w ex a' h') { tmps := ys.toArray ++ Array.replicate (fx.nt - ys.toArray.size) undef, defers := [] } w)
  cases ex with
  | normal => exact fin (.inl rfl) hs
  | ret => exact fin (.inr rfl) hs
  | exit i => cases hs
  | goto _ => exact hs.elim
  | panic _ => exact hs.elim
  | outgrown => exact hs.elim
theorem evFn_some {fn : Func} {np : Nat} {ks : List Nat} {sch : List (Nat × List Dr)} {np' : Nat} {res : List RV} {body : CK} (h : evFn P fn np ks sch = some (.mk np' res body)) :
    np' = np ∧ okPar np 0 ks = true ∧ ∃ c, fn.body = some c ∧ evRess P ks fn.results.toList = some res ∧ body = evCode { P := P, ks := ks, nt := fn.ntmps, sch := sch } c := by
  unfold evFn at h
  split at h
  · rename_i hp
    cases hb : fn.body with
    | none => rw [hb] at h; cases h
    | some c =>
      rw [hb] at h
      cases hr : evRess P ks fn.results.toList with
      | none => rw [hr] at h; cases h
      | some r =>
        rw [hr] at h
        have h : some (F.mk np r (evCode { P := P, ks := ks, nt := fn.ntmps, sch := sch } c)) = some (.mk np' res body) := h
        injection h with h
        injection h with h1 h2 h3
        subst h1; subst h2; subst h3
        exact ⟨rfl, hp, c, rfl, rfl, rfl⟩
  · cases h
/-- a function of which it is known what it answers -/
def KnownOk (P : Program) (f : Nat) (g : List V → H → KH → Bool) : Prop := ∀ xs h k, g xs h k = true → ∃ v h', k v h' = true ∧
  ∀ E w xs', Good P E h w → denL E xs = some xs' → Calls P f xs'.toArray w (Back P E h w v h')
def EntryOk (P : Program) (f : Nat) : F → Prop
  | .mk np res body => ∃ fn ks sch, P.funcs[f]? = some fn ∧ evFn P fn np ks sch = some (.mk np res body)
  | .known g => KnownOk P f g
def TabOk (P : Program) (tab : T F) : Prop := ∀ f F, T.get f tab = some F → Callable P f.val ∧ EntryOk P f.val F
theorem callD_sound {tab : T F} {call : Call} (ht : TabOk P tab) (hcall : CallOk P call) (hdraw : ∀ fx : Fx, fx.P = P → DrawOk fx call) : DCallOk P (callD tab call) := by
  intro f xs h k hk
  unfold callD at hk
  rw [T.getK_eq] at hk
  cases hg : T.get f tab with
  | none => rw [hg] at hk; cases hk
  | some F =>
    rw [hg] at hk
    obtain ⟨hcl, he⟩ := ht f F hg
    refine ⟨hcl, ?_⟩
    cases F with
    | known g => cases hk
    | mk np res body =>
      obtain ⟨fn, ks, sch, h1, h2⟩ := he
      obtain ⟨_, hp, c, h3, h4, h5⟩ := evFn_some h2
      subst h5
      obtain ⟨ex, a', h', hex, hkl, hc⟩ := enter_sound (fx := { P := P, ks := ks, nt := fn.ntmps, sch := sch }) hcall (hdraw _ rfl) hp hk
      obtain ⟨v, k1, hv⟩ := leave0_sound (nt := fn.ntmps) h4 hkl
      refine ⟨v, h', k1, fun E w ys g hd => callsD_of_wp h1 h3 (wp_mono (hc E w ys g hd) fun e act' w' hpost => ?_)⟩
      obtain ⟨rfl, E', s, r⟩ := hpost
      obtain ⟨hdf, x, d1, d2⟩ := hv E' act' w' s.good r
      rcases hex with rfl | rfl
      · exact ⟨hdf, x, d2, x, E', rfl, s, d1⟩
      · exact ⟨hdf, x, d2, x, E', rfl, s, d1⟩
theorem evF_sound {tab : T F} (ht : TabOk P tab) (hdraw : ∀ (call : Call), CallOk P call → ∀ fx : Fx, fx.P = P → DrawOk fx call) : ∀ n, CallOk P (evF tab n)
  | 0 => fun f xs h k hk => by cases hk
  | n + 1 => by
    intro f xs h k hk
    have ih := evF_sound ht hdraw n
    have hk : T.getK f tab (fun fn => F.rec (fun np res body => enterK (evF tab n) xs h np body (leaveK (callD tab (evF tab n)) res k)) (fun f => f xs h k) fn) false = true := hk
    rw [T.getK_eq] at hk
    cases hg : T.get f tab with
    | none => rw [hg] at hk; cases hk
    | some F =>
      rw [hg] at hk
      obtain ⟨hcl, he⟩ := ht f F hg
      refine ⟨hcl, ?_⟩
      cases F with
      | known g =>
        exact he xs h k hk
      | mk np res body =>
        obtain ⟨fn, ks, sch, h1, h2⟩ := he
        obtain ⟨_, hp, c, h3, h4, h5⟩ := evFn_some h2
        subst h5
        obtain ⟨ex, a', h', hex, hkl, hc⟩ := enter_sound (fx := { P := P, ks := ks, nt := fn.ntmps, sch := sch }) ih (hdraw _ ih _ rfl) hp hk
        obtain ⟨v, h2, k1, hv⟩ := leave_sound (callD_sound ht ih (fun fx hfx => hdraw _ ih fx hfx)) (nt := fn.ntmps) h4 hkl
        refine ⟨v, h2, k1, fun E w ys g hd => calls_of_wp_defers h1 h3 (wp_mono (hc E w ys g hd) fun e act' w' hpost => ?_)⟩
        obtain ⟨rfl, E', s, r⟩ := hpost
        have hl := hv E' act' w' (Back P E h w v h2) s.good r fun E2 x w2 s2 d => ⟨x, E2, rfl, s.trans s2, d⟩
        rcases hex with rfl | rfl
        · exact hl
        · exact hl
end
end Go.Ev

/-
  The evaluator of closed calls: a part.
-/
set_option linter.unusedVariables false
set_option linter.unusedSimpArgs false
namespace Go.Ev
theorem has_mem {l : List Nat} {i : Nat} : has l i = true ↔ i ∈ l := by
  unfold has
  rw [List.any_eq_true]
  constructor
  · rintro ⟨x, h1, h2⟩; rw [Nat.eq_of_beq_eq_true h2]; exact h1
  · intro h; exact ⟨i, h, Nat.beq_refl i⟩
/-- a set of operations with all that stands before them -/
def Closed (ops : List Oper) (R : Nat → Prop) : Prop := ∀ i o, ops[i]? = some o → R i → ∀ j ∈ edges o, R j
theorem befs_ready {ops : List Oper} {R : Nat → Prop} (hR : Closed ops R) : ∀ (l : List Oper) (acc : List (List Nat)), ops.drop acc.length = l →
    (∀ (i : Nat) (b : List Nat), acc[i]? = some b → ∀ o, ops[i]? = some o → (∀ j ∈ edges o, R j) → ∀ j ∈ b, R j) →
    ∀ (i : Nat) (b : List Nat), (befs l acc)[i]? = some b → ∀ o, ops[i]? = some o → (∀ j ∈ edges o, R j) → ∀ j ∈ b, R j
  | [], acc, hd, h => h
  | o :: l, acc, hd, h => by
    refine befs_ready hR l (acc ++ [befOne acc o]) ?_ ?_
    · rw [List.length_append, List.length_singleton, ← List.drop_drop, hd]; rfl
    · intro i b hb o' ho' he j hj
      rcases Nat.lt_or_ge i acc.length with hlt | hge
      · rw [List.getElem?_append_left hlt] at hb
        exact h i b hb o' ho' he j hj
      · rw [List.getElem?_append_right hge] at hb
        have hi : i = acc.length := by
          rcases Nat.eq_or_lt_of_le hge with e | e
          · exact e.symm
          · rw [List.getElem?_eq_none (by simp only [List.length_singleton]; omega)] at hb; cases hb
        subst hi
        rw [Nat.sub_self] at hb
        have hb : b = befOne acc o := by simpa using hb.symm
        subst hb
        have ho : o' = o := by
          have h1 : (ops.drop acc.length)[0]? = some o := by rw [hd]; rfl
          rw [List.getElem?_drop, Nat.add_zero, ho'] at h1
          injection h1
        subst ho
        unfold befOne at hj
        rw [List.mem_eraseDups, List.mem_flatMap] at hj
        obtain ⟨q, h1, h2⟩ := hj
        have hq := he q h1
        cases h2 with
        | head => exact hq
        | tail _ h2 =>
          cases hg : acc[q]? with
          | none => rw [hg] at h2; cases h2
          | some b' =>
            rw [hg] at h2
            cases hoq : ops[q]? with
            | none =>
              have h3 : ops.length ≤ q := by
                rcases Nat.lt_or_ge q ops.length with h | h
                · rw [List.getElem?_eq_getElem h] at hoq; cases hoq
                · exact h
              have h4 := (List.getElem?_eq_some_iff.1 hg).1
              have h5 := (List.getElem?_eq_some_iff.1 ho').1
              omega
            | some oq => exact h q b' hg oq hoq (hR q oq hoq hq) j h2
/-- if all that an operation's edges name is there, so is all that stands before it -/
theorem bef_ready {ops : List Oper} {R : Nat → Prop} (hR : Closed ops R) {i : Nat} {o : Oper} (ho : ops[i]? = some o) (he : ∀ j ∈ edges o, R j) : ∀ j ∈ bOf (befs ops []) i, R j := by
  intro j hj
  unfold bOf at hj
  cases hb : (befs ops [])[i]? with
  | none => rw [hb] at hj; cases hj
  | some b => rw [hb] at hj; exact befs_ready hR ops [] rfl (fun i b h => by simp at h) i b hb o ho he j hj
theorem bef_closed {ops : List Oper} {R : Nat → Prop} (hR : Closed ops R) {i : Nat} {o : Oper} (ho : ops[i]? = some o) (hi : R i) : ∀ j ∈ bOf (befs ops []) i, R j :=
  bef_ready hR ho (hR i o ho hi)
theorem backOk_get : ∀ {l : List Oper} {k i : Nat} {o : Oper}, backOk k l = true → l[i]? = some o → ∀ j ∈ edges o, j < k + i
  | [], k, i, o, h, ho, j, hj => by simp at ho
  | p :: l, k, i, o, h, ho, j, hj => by
    simp only [backOk, Bool.and_eq_true] at h
    cases i with
    | zero =>
      simp only [List.getElem?_cons_zero, Option.some.injEq] at ho
      subst ho
      have := List.all_eq_true.1 h.1 j hj
      rw [Nat.blt_eq] at this
      omega
    | succ i =>
      have := backOk_get h.2 (by simpa using ho) j hj
      omega
theorem onceOk_get : ∀ {l : List Oper} {i j d : Nat}, onceOk l = true → dstOf l i = some d → dstOf l j = some d → i = j
  | [], i, j, d, h, hi, hj => by simp [dstOf] at hi
  | o :: l, i, j, d, h, hi, hj => by
    simp only [onceOk, Bool.and_eq_true] at h
    have later : ∀ m, o.dst = some d → dstOf l m ≠ some d := fun m h0 hm => by
      have h1 := h.1
      rw [h0] at h1
      simp only [dstOf] at hm
      cases ho : l[m]? with
      | none => rw [ho] at hm; cases hm
      | some p =>
        rw [ho] at hm
        have hm : p.dst = some d := hm
        have := List.all_eq_true.1 h1 p (List.mem_of_getElem? ho)
        rw [hm] at this
        simp only [Nat.beq_refl] at this
        cases this
    cases i with
    | zero =>
      cases j with
      | zero => rfl
      | succ j => exact absurd hj (later j hi)
    | succ i =>
      cases j with
      | zero => exact absurd hi (later i hj)
      | succ j => rw [onceOk_get h.2 (i := i) (j := j) (d := d) hi hj]
theorem sames_true : ∀ {l m : List V} {k : Bool}, (∀ x ∈ l, ∀ y k, same1 x y k = true → x = y ∧ k = true) → sames l m k = true → l = m ∧ k = true
  | [], [], k, _, h => ⟨rfl, h⟩
  | [], _ :: _, k, _, h => Bool.noConfusion h
  | _ :: _, [], k, _, h => Bool.noConfusion h
  | x :: l, y :: m, k, hs, h => by
    have h : same1 x y (sames l m k) = true := h
    obtain ⟨e, h1⟩ := hs x (by simp) y _ h
    obtain ⟨e2, h2⟩ := sames_true (fun z hz => hs z (by simp [hz])) h1
    exact ⟨by rw [e, e2], h2⟩
theorem bytes_of_same {a b : ByteArray} (h : sameStr a b = true) : a = b := by
  have h1 : a.data.toList = b.data.toList := eq_of_beq h
  cases a; cases b
  simp only [ByteArray.mk.injEq]
  exact Array.toList_inj.1 h1
theorem same1_true {x y : V} {k : Bool} (h : same1 x y k = true) : x = y ∧ k = true := by
  cases x <;> first | exact Bool.noConfusion h | skip
  · obtain ⟨j, b, rfl, h⟩ := V.onInt_true h
    obtain ⟨h1, h⟩ := condK_true h
    obtain ⟨h2, h⟩ := condK_true h
    rw [same_kind h1, Nat.eq_of_beq_eq_true h2]; exact ⟨rfl, h⟩
  · rename_i a
    have h : y.onBool (condK a false k) (condK a k false) = true := h
    rcases V.onBool_true h with ⟨rfl, h⟩ | ⟨rfl, h⟩
    · obtain ⟨rfl, h⟩ := condK_true h; exact ⟨rfl, h⟩
    · cases a
      · exact ⟨rfl, h⟩
      · cases h
  · obtain ⟨s, rfl, h⟩ := V.onStr_true h
    obtain ⟨h1, h⟩ := condK_true h
    rw [bytes_of_same h1]; exact ⟨rfl, h⟩
  · obtain ⟨b, o, rfl, h⟩ := V.onPtr_true h
    obtain ⟨h1, h⟩ := condK_true h
    obtain ⟨h2, h⟩ := condK_true h
    rw [Nat.eq_of_beq_eq_true h1, N.beq_eq _ _ h2]; exact ⟨rfl, h⟩
  · cases y <;> first | exact Bool.noConfusion h | exact ⟨rfl, h⟩
  · cases y <;> first | exact Bool.noConfusion h | skip
    rename_i c1 _ _ _ c2
    obtain ⟨h1, q1⟩ := condK_true h
    obtain ⟨h2, q2⟩ := condK_true q1
    obtain ⟨h3, q3⟩ := condK_true q2
    have e1 := N.beq_eq _ _ h1
    have e2 := Nat.eq_of_beq_eq_true h2
    have e3 := Nat.eq_of_beq_eq_true h3
    rw [e1, e2, e3]
    cases c1 <;> cases c2 <;> first | exact Bool.noConfusion q3 | (obtain ⟨h4, q4⟩ := condK_true q3; rw [Nat.eq_of_beq_eq_true h4]; exact ⟨rfl, q4⟩)
  · cases y <;> first | exact Bool.noConfusion h | exact ⟨rfl, h⟩
  · cases y <;> first | exact Bool.noConfusion h | skip
    obtain ⟨h1, h⟩ := condK_true h
    rw [N.beq_eq _ _ h1]; exact ⟨rfl, h⟩
  · cases y <;> first | exact Bool.noConfusion h | skip
    obtain ⟨h1, h⟩ := condK_true h
    rw [N.beq_eq _ _ h1]; exact ⟨rfl, h⟩
  · cases y <;> first | exact Bool.noConfusion h | exact ⟨rfl, h⟩
  · cases y <;> first | exact Bool.noConfusion h | exact ⟨rfl, h⟩
  · cases y <;> first | exact Bool.noConfusion h | exact ⟨rfl, h⟩
  · rename_i l
    obtain ⟨m, rfl, h⟩ := V.onTup_true h
    cases l with
    | nil => cases m with
      | nil => exact ⟨rfl, h⟩
      | cons _ _ => exact Bool.noConfusion h
    | cons _ _ => exact Bool.noConfusion h
  · cases y <;> first | exact Bool.noConfusion h | skip
    obtain ⟨h1, h⟩ := condK_true h
    rw [N.beq_eq _ _ h1]; exact ⟨rfl, h⟩
theorem sameK_true {x y : V} {k : Bool} (h : sameK x y k = true) : x = y ∧ k = true := by
  cases x <;> first | exact same1_true h | skip
  · rename_i t v
    cases y <;> first | exact Bool.noConfusion h | skip
    obtain ⟨h1, h⟩ := condK_true h
    obtain ⟨h2, h⟩ := same1_true h
    rw [Nat.eq_of_beq_eq_true h1, h2]; exact ⟨rfl, h⟩
  · obtain ⟨m, rfl, h⟩ := V.onAgg_true h
    obtain ⟨e, h⟩ := sames_true (fun x _ y k hh => same1_true hh) h
    rw [e]; exact ⟨rfl, h⟩
end Go.Ev

/-
  The evaluator of closed calls: a part.
-/
set_option linter.unusedVariables false
set_option linter.unusedSimpArgs false
namespace Go.Ev
theorem bind_eq {cx : Cx} {dst : Option Nat} {v : V} {a : A} {k : A → Bool} (hk : bindK cx dst v a k = true) :
    (dst = none ∧ k a = true) ∨ ∃ t, dst = some t ∧ t < cx.nt ∧ ((slot cx.ks t = none ∧ k a = true) ∨ ∃ s, slot cx.ks t = some s ∧ k (T.set s v a) = true) := by
  unfold bindK at hk
  split at hk
  · exact .inl ⟨rfl, hk⟩
  · rename_i t
    split at hk
    · rename_i ht
      have ht : t < cx.nt := by rw [Nat.blt_eq] at ht; exact ht
      split at hk
      · rename_i s hs
        unfold s_set at hk
        rw [T.setK_eq] at hk
        exact .inr ⟨t, rfl, ht, .inr ⟨s, hs, hk⟩⟩
      · rename_i hs; exact .inr ⟨t, rfl, ht, .inl ⟨hs, hk⟩⟩
    · cases hk
/-- what has been told, in the evaluator's own tables -/
structure Can (cx : Cx) (a0 : A) (Cv : List (Nat × V)) (env : Env) (a : A) : Prop where
  env1 : ∀ t v, find t env = some v → ∃ i, (i, v) ∈ Cv ∧ dstOf cx.ops i = some t
  env2 : ∀ i v t, (i, v) ∈ Cv → dstOf cx.ops i = some t → find t env = some v
  tab1 : ∀ t s, slot cx.ks t = some s → (∀ i v, (i, v) ∈ Cv → dstOf cx.ops i ≠ some t) → T.get s a = T.get s a0
  tab2 : ∀ i v t s, (i, v) ∈ Cv → dstOf cx.ops i = some t → slot cx.ks t = some s → T.get s a = some v
  dfr : T.get .e a = T.get .e a0
  dlt : ∀ i v t, (i, v) ∈ Cv → dstOf cx.ops i = some t → t < cx.nt
theorem Can.push {cx : Cx} {a0 : A} {Cv : List (Nat × V)} {env : Env} {a : A} (c : Can cx a0 Cv env a) (honce : onceOk cx.ops = true) {i : Nat} {o : Oper} {v : V} {k : A → Bool}
    (hi : cx.ops[i]? = some o) (hn : ∀ u, (i, u) ∉ Cv) (hk : bindK cx o.dst v a k = true) : ∃ a', k a' = true ∧ Can cx a0 ((i, v) :: Cv) (push o.dst v env) a' := by
  have hd : dstOf cx.ops i = o.dst := by simp [dstOf, hi]
  have once : ∀ j u t, (j, u) ∈ Cv → dstOf cx.ops j = some t → o.dst ≠ some t := fun j u t hj hjt e => by
    have := onceOk_get honce hjt (hd.trans e)
    subst this
    exact hn u hj
  rcases bind_eq hk with ⟨hd0, k1⟩ | ⟨t, hd0, hlt, hk1⟩
  · refine ⟨a, k1, ?_⟩
    rw [hd0] at hd ⊢
    refine ⟨fun t u h => ?_, fun j u t h ht => ?_, fun t s hs h => c.tab1 t s hs fun j u hj => h j u (by simp [hj]), fun j u t s h ht hs => ?_, c.dfr, fun j u t h ht => ?_⟩
    · obtain ⟨j, h1, h2⟩ := c.env1 t u h; exact ⟨j, by simp [h1], h2⟩
    · rcases List.mem_cons.1 h with h | h
      · cases h; rw [hd] at ht; cases ht
      · exact c.env2 j u t h ht
    · rcases List.mem_cons.1 h with h | h
      · cases h; rw [hd] at ht; cases ht
      · exact c.tab2 j u t s h ht hs
    · rcases List.mem_cons.1 h with h | h
      · cases h; rw [hd] at ht; cases ht
      · exact c.dlt j u t h ht
  · have base : ∀ a', (∀ s, slot cx.ks t = some s → T.get s a' = some v) → (∀ u s, u ≠ t → slot cx.ks u = some s → T.get s a' = T.get s a) → T.get .e a' = T.get .e a →
        Can cx a0 ((i, v) :: Cv) (Ev.push o.dst v env) a' := by
      intro a' g1 g2 g3
      rw [hd0] at hd once ⊢
      refine ⟨fun u x h => ?_, fun j x u h hu => ?_, fun u s hs h => ?_, fun j x u s h hu hs => ?_, g3.trans c.dfr, fun j x u h hu => ?_⟩
      · rcases find_push h with ⟨h1, rfl⟩ | ⟨h1, h2⟩
        · cases h1; exact ⟨i, by simp, hd⟩
        · obtain ⟨j, h3, h4⟩ := c.env1 u x h2; exact ⟨j, by simp [h3], h4⟩
      · rcases List.mem_cons.1 h with h | h
        · cases h; rw [hd] at hu; cases hu
          simp [Ev.push, find, Nat.beq_refl]
        · have hne := once j x u h hu
          have : Nat.beq u t = false := by
            cases hb : Nat.beq u t
            · rfl
            · exact absurd (by rw [Nat.eq_of_beq_eq_true hb]) hne
          simp only [Ev.push, find, this]
          exact c.env2 j x u h hu
      · have hut : u ≠ t := fun e => h i v (by simp) (by rw [hd, e])
        rw [g2 u s hut hs]
        exact c.tab1 u s hs fun j x hj => h j x (by simp [hj])
      · rcases List.mem_cons.1 h with h | h
        · cases h; rw [hd] at hu; cases hu; exact g1 s hs
        · have hne := once j x u h hu
          rw [g2 u s (fun e => hne (by rw [e])) hs]
          exact c.tab2 j x u s h hu hs
      · rcases List.mem_cons.1 h with h | h
        · cases h; rw [hd] at hu; cases hu; exact hlt
        · exact c.dlt j x u h hu
    rcases hk1 with ⟨hs, k1⟩ | ⟨s, hs, k1⟩
    · exact ⟨a, k1, base a (fun s' h => by rw [hs] at h; cases h) (fun _ _ _ _ => rfl) rfl⟩
    · refine ⟨_, k1, base _ (fun s' h => ?_) (fun u s' hu h => ?_) (T.get_set_ne v s .e a (slot_ne hs))⟩
      · rw [hs] at h; cases h; exact T.get_set v s a
      · exact T.get_set_ne v s s' a (fun e => hu (slot_inj h (e ▸ hs)))
/-- the temporaries of a frame, when the operations of R have been done -/
structure RT (cx : Cx) (act0 : Act) (R : Nat → Prop) (E : Nm) (Cv : List (Nat × V)) (act : Act) : Prop where
  t1 : ∀ i v t, (i, v) ∈ Cv → R i → dstOf cx.ops i = some t → den E v = some (act.tmps.getD t undef)
  t0 : ∀ t, (∀ i, R i → dstOf cx.ops i ≠ some t) → act.tmps.getD t undef = act0.tmps.getD t undef
  sz : act.tmps.size = act0.tmps.size
  df : act.defers = act0.defers
/-- operation i is the next one -/
structure Nxt (cx : Cx) (E0 : Nm) (act0 : Act) (i : Nat) (E : Nm) (R : Nat → Prop) (act : Act) (Cv : List (Nat × V)) : Prop where
  ext : Ext E0 E
  rt : RT cx act0 R E Cv act
  closed : Closed cx.ops R
  bef : ∀ j ∈ bOf (befs cx.ops []) i, R j
  not : ¬ R i
/-- the names and the frame at a region's beginning -/
structure Base (cx : Cx) (a0 : A) (E0 : Nm) (act0 : Act) : Prop where
  glob : ∀ g, g < cx.P.globals.size → ∃ l, E0 (toN g) = some l ∧ l.bl = g ∧ l.of = 0
  rel : Rel E0 cx.ks cx.nt a0 act0
section
variable {cx : Cx} {a0 : A}
theorem opd_one {Cv : List (Nat × V)} {env : Env} {a : A} (c : Can cx a0 Cv env a) {i : Nat} {C : List Nat} (hC : ∀ j, j ∈ C ↔ ∃ v, (j, v) ∈ Cv)
    (hB : ∀ j ∈ bOf (befs cx.ops []) i, j ∈ C) {x : Operand} (ht : ∀ t, x = .tmp t → tmpOk cx.ops (befs cx.ops []) i C t = true) {k : KV} (hk : fetch cx env x a k = true) :
    ∃ v, k v = true ∧ ∀ E0 act0, Base cx a0 E0 act0 → ∀ E R act Cv', (∀ p ∈ Cv, p ∈ Cv') → Nxt cx E0 act0 i E R act Cv' → den E v = some (act.eval x) := by
  cases x with
  | const v =>
    have hk : okK (cV 3000 v) k = true := hk
    obtain ⟨v, hv, hk⟩ := okK_true hk
    exact ⟨v, hk, fun E0 act0 b0 E R act Cv' _ _ => cV_den 3000 _ v hv E⟩
  | func f =>
    refine ⟨_, hk, fun E0 act0 b0 E R act Cv' _ _ => ?_⟩
    simp [den, denL, Act.eval, toN_val]
  | global g =>
    simp only [fetch] at hk
    split at hk
    · rename_i hg
      refine ⟨_, hk, fun E0 act0 b0 E R act Cv' _ n => ?_⟩
      have hlt : g < cx.P.globals.size := by rw [Nat.blt_eq] at hg; exact hg
      obtain ⟨l, h1, h2⟩ := b0.glob g hlt
      simp only [den, n.ext _ _ h1, h2]
      rfl
    · cases hk
  | tmp t =>
    have htm := ht t rfl
    have wr : ∀ j, dstOf cx.ops j = some t → j ∈ bOf (befs cx.ops []) i ∨ (i ∈ bOf (befs cx.ops []) j ∧ j ∉ C) := fun j hj => by
      have hlt : j < cx.ops.length := by
        simp only [dstOf] at hj
        cases ho : cx.ops[j]? with
        | none => rw [ho] at hj; cases hj
        | some o => exact (List.getElem?_eq_some_iff.1 ho).1
      have := List.all_eq_true.1 htm j (List.mem_range.2 hlt)
      rw [hj] at this
      simp only [Nat.beq_refl, Bool.not_true, Bool.false_or, Bool.or_eq_true, Bool.and_eq_true, Bool.not_eq_true'] at this
      rcases this with h | ⟨h, h'⟩
      · exact .inl (has_mem.1 h)
      · exact .inr ⟨has_mem.1 h, fun hm => by rw [has_mem.2 hm] at h'; cases h'⟩
    simp only [fetch] at hk
    cases hf : find t env with
    | some v =>
      rw [hf] at hk
      refine ⟨v, hk, fun E0 act0 b0 E R act Cv' hsub n => ?_⟩
      obtain ⟨j, hj, hjt⟩ := c.env1 t v hf
      rcases wr j hjt with h | ⟨_, h⟩
      · exact n.rt.t1 j v t (hsub _ hj) (n.bef j h) hjt
      · exact absurd ((hC j).2 ⟨v, hj⟩) h
    | none =>
      rw [hf] at hk
      obtain ⟨s, hs, hk⟩ := okK_true hk
      rw [s_get_eq] at hk
      rw [T.getK_eq] at hk
      have hv : ∃ v, k v = true ∧ (T.get s a).getD V.undef = v := by
        cases hg : T.get s a with
        | none => rw [hg] at hk; exact ⟨_, hk, rfl⟩
        | some v => rw [hg] at hk; exact ⟨v, hk, rfl⟩
      obtain ⟨v, h1, h2⟩ := hv
      have nod : ∀ j u, (j, u) ∈ Cv → dstOf cx.ops j ≠ some t := fun j u hj hjt => by
        rw [c.env2 j u t hj hjt] at hf; cases hf
      refine ⟨v, h1, fun E0 act0 b0 E R act Cv' hsub n => ?_⟩
      have e1 : den E v = some (act0.tmps.getD t undef) := by
        rw [← h2, c.tab1 t s hs nod]
        exact den_ext n.ext _ _ (b0.rel.val t s hs)
      rw [e1]
      congr 1
      refine (n.rt.t0 t fun j hj hjt => ?_).symm
      rcases wr j hjt with h | ⟨h, _⟩
      · obtain ⟨u, hu⟩ := (hC j).1 (hB j h)
        exact nod j u hu hjt
      · have hjo : ∃ o, cx.ops[j]? = some o := by
          simp only [dstOf] at hjt
          cases ho : cx.ops[j]? with
          | none => rw [ho] at hjt; cases hjt
          | some o => exact ⟨o, rfl⟩
        obtain ⟨o, ho⟩ := hjo
        exact n.not (bef_closed n.closed ho hj i h)
theorem opd_list {Cv : List (Nat × V)} {env : Env} {a : A} (c : Can cx a0 Cv env a) {i : Nat} {C : List Nat} (hC : ∀ j, j ∈ C ↔ ∃ v, (j, v) ∈ Cv)
    (hB : ∀ j ∈ bOf (befs cx.ops []) i, j ∈ C) : ∀ {l : List Operand} (_ : ∀ t, .tmp t ∈ l → tmpOk cx.ops (befs cx.ops []) i C t = true) {k : List V → Bool}, fetchL cx env l a k = true →
    ∃ vs, k vs = true ∧ ∀ E0 act0, Base cx a0 E0 act0 → ∀ E R act Cv', (∀ p ∈ Cv, p ∈ Cv') → Nxt cx E0 act0 i E R act Cv' → denL E vs = some (l.map act.eval)
  | [], _, k, hk => ⟨[], hk, fun E0 act0 b0 E R act Cv' _ _ => by simp [denL]⟩
  | x :: l, ht, k, hk => by
    obtain ⟨v, h1, h2⟩ := opd_one c hC hB (fun t e => ht t (by simp [e])) (k := fun v => fetchL cx env l a (fun r => k (v :: r))) hk
    obtain ⟨vs, h3, h4⟩ := opd_list c hC hB (fun t h => ht t (by simp [h])) h1
    exact ⟨v :: vs, h3, fun E0 act0 b0 E R act Cv' hs n => denL_cons.2 ⟨_, _, h2 E0 act0 b0 E R act Cv' hs n, h4 E0 act0 b0 E R act Cv' hs n, rfl⟩⟩
theorem guard_draw {Cv : List (Nat × V)} {env : Env} {a : A} (c : Can cx a0 Cv env a) (honce : onceOk cx.ops = true) {i : Nat} {o : Oper} (hg : gOk (befs cx.ops []) i o = true) {κ : Type} {op no : κ → Bool} {k : κ}
    (hk : guardK cx env o.guard op no k = true) :
    ∃ want : Bool, ((want = true ∧ op k = true) ∨ (want = false ∧ no k = true)) ∧ ∀ E0 act0, Base cx a0 E0 act0 → ∀ E R act Cv', (∀ p ∈ Cv, p ∈ Cv') → Nxt cx E0 act0 i E R act Cv' → Region.wanted o (yielded cx.ops.toArray act.tmps) = want := by
  obtain ⟨want, h1, h2⟩ := guard_sound' hk
  refine ⟨want, h1, fun E0 act0 b0 E R act Cv' hs n => h2 E act fun j w t v hj ht hv => ?_⟩
  obtain ⟨i', hi', hd⟩ := c.env1 t v hv
  have e : i' = j := onceOk_get honce hd ht
  subst e
  unfold gOk at hg
  rw [hj] at hg
  exact n.rt.t1 i' v t (hs _ hi') (n.bef i' (has_mem.1 hg)) hd
end
end Go.Ev

/-
  The evaluator of closed calls: a part.
-/
set_option linter.unusedVariables false
set_option linter.unusedSimpArgs false
namespace Go.Ev
theorem ext_set {E : Nm} {n : N} {l : Loc} (h : E n = none) : Ext E (E.set n l) := fun k x hk => by
  rw [Nm.set_ne E l (fun e => by rw [e, h] at hk; cases hk)]
  exact hk
/-- a block of a letter that was taken before, and is not laid yet -/
theorem Step.early {P : Program} {E0 E : Nm} {h0 h : H} {w0 w : World} (s : Step P E0 h0 w0 E h w) {n : N} {l : Loc} (hn : E n = none) (h1 : h0.n.val ≤ n.val) (h2 : n.val < h.n.val) (obj : Obj) :
    Step P E0 h0 w0 (E.set n l) h (w.alloc obj) := by
  have hx := ext_set (l := l) hn
  have hget : ∀ b, b < w.heap.size → (w.alloc obj).heap[b]? = w.heap[b]? := fun b hb => by
    show (w.heap.push obj)[b]? = _
    rw [Array.getElem?_push, if_neg (by omega)]
  have live : ∀ {j : N} {m : Loc}, Live h j → E.set n l j = some m → E j = some m := fun {j m} hl hm => by
    obtain ⟨o, h3, h4⟩ := hl
    obtain ⟨m', h5, _⟩ := s.good.stand j o h3 h4
    rw [hx j m' h5] at hm
    cases hm
    exact h5
  refine ⟨s.ext.trans hx, ⟨fun k x hk => ?_, fun k o h3 h4 => ?_, fun i j li lj a1 a2 aw a3 a4 a5 => s.good.inj i j li lj a1 a2 aw (live a1 a3) (live a2 a4) a5, fun q hq => let ⟨m, h3, h4⟩ := s.good.glob q hq; ⟨m, hx _ m h3, h4⟩⟩,
    s.mono, fun k x hk => ?_, fun k x a1 a2 => ?_, fun b hb hf => ?_, ?_, s.os, s.tape, s.output⟩
  · by_cases e : k = n
    · subst e; exact h2
    · rw [Nm.set_ne E l e] at hk; exact s.good.fresh k x hk
  · obtain ⟨m, h5, h6⟩ := s.good.stand k o h3 h4
    exact ⟨m, hx k m h5, h6.ext hx (hget _ (h6.lt h4))⟩
  · by_cases e : k = n
    · subst e; exact .inr h1
    · rw [Nm.set_ne E l e] at hk; exact s.dom k x hk
  · exact s.img k x a1 (live a1 a2)
  · rw [hget b (Nat.lt_of_lt_of_le hb s.size)]; exact s.frame b hb hf
  · show w0.heap.size ≤ (w.heap.push obj).size
    rw [Array.size_push]; have := s.size; omega
/-- what has been told of an operation that has not been done -/
def Told (cx : Cx) (a0 : A) (h : H) (obs : List (Nat × Ob)) (Cv : List (Nat × V)) (i : Nat) (v : V) : Prop :=
  ∃ o vs want, cx.ops[i]? = some o ∧
    (∀ E0 act0, Base cx a0 E0 act0 → ∀ E R act Cv', (∀ p ∈ Cv, p ∈ Cv') → Nxt cx E0 act0 i E R act Cv' → Region.wanted o (yielded cx.ops.toArray act.tmps) = want ∧ denL E vs = some (o.op.operands.toList.map act.eval)) ∧
    ((want = false ∧ v = V.undef ∧ (∀ n ob, find i obs ≠ some (some (n, ob)))) ∨
     (want = true ∧ (PuOk cx.P o.op vs v ∨ (heapB cx.P o.op = true ∧ RdOk cx.P o.op vs h v)) ∧ (∀ n ob, find i obs ≠ some (some (n, ob)))) ∨
     (want = true ∧ ∃ mk ob n, MkOk cx.P o.op vs mk ob ∧ v = mk n ∧ find i obs = some (some (n, ob))))
/-- the invariant: what is told, what is done -/
structure Inv (cx : Cx) (a0 : A) (E0 : Nm) (h0 : H) (w0 : World) (act0 : Act) (Cv : List (Nat × V)) (U : Nat → Prop) (obs : List (Nat × Ob)) (h : H) (E : Nm) (act : Act) (w : World) (R : Nat → Prop) : Prop where
  step : Step cx.P E0 h0 w0 E h w
  sub : ∀ i, R i → ∃ v, (i, v) ∈ Cv
  closed : Closed cx.ops R
  rt : RT cx act0 R E Cv act
  told : ∀ i v, (i, v) ∈ Cv → ¬ R i → Told cx a0 h obs Cv i v
  uq : ∀ i u v, (i, u) ∈ Cv → (i, v) ∈ Cv → u = v
  unk : ∀ i v, (i, v) ∈ Cv → ¬ R i → ∀ n ob, find i obs = some (some (n, ob)) → U i
  un : ∀ i, U i → ∀ n o, find i obs = some (some (n, o)) → o ≠ .dead ∧ n.val < h.n.val ∧ h0.n.val ≤ n.val ∧ (¬ R i → E n = none) ∧
    (R i → ∃ l, E n = some l ∧ Stand cx.P E w l o ∧ w0.heap.size ≤ l.bl ∧ ∀ j m, Live h j → E j = some m → m.bl ≠ l.bl)
  unn : ∀ i, U i → ∀ j, U j → ∀ n o n' o', find i obs = some (some (n, o)) → find j obs = some (some (n', o')) → i ≠ j → n ≠ n' ∧ ∀ l l', E n = some l → E n' = some l' → l.bl ≠ l'.bl
section
variable {cx : Cx} {a0 : A} {E0 : Nm} {h0 : H} {w0 : World} {act0 : Act}
theorem RT.put {R : Nat → Prop} {E E' : Nm} {Cv : List (Nat × V)} {act : Act} (r : RT cx act0 R E Cv act) (honce : onceOk cx.ops = true) (hx : Ext E E') {i : Nat} {o : Oper} {v : V} {x : Value} (hi : cx.ops[i]? = some o)
    (hv : ∀ u, (i, u) ∈ Cv → u = v) (hn : ¬ R i) (hd : den E' v = some x) (hs : ∀ t, o.dst = some t → t < act0.tmps.size) (hsub : ∀ j, R j → ∃ u, (j, u) ∈ Cv) :
    RT cx act0 (fun j => R j ∨ j = i) E' Cv (act.put o.dst x) := by
  have hdo : dstOf cx.ops i = o.dst := by simp [dstOf, hi]
  cases ho : o.dst with
  | none =>
    rw [ho] at hdo
    refine ⟨fun j u t h1 h2 h3 => ?_, fun t h => r.t0 t fun j hj => h j (.inl hj), r.sz, r.df⟩
    rcases h2 with h2 | rfl
    · exact den_ext hx _ _ (r.t1 j u t h1 h2 h3)
    · rw [hdo] at h3; cases h3
  | some d =>
    rw [ho] at hdo
    have hlt : d < act.tmps.size := by rw [r.sz]; exact hs d ho
    refine ⟨fun j u t h1 h2 h3 => ?_, fun t h => ?_, by simp [Act.put]; exact r.sz, r.df⟩
    · rw [put_getD hlt]
      by_cases e : d = t
      · subst e
        have : j = i := onceOk_get honce h3 hdo
        subst this
        rw [if_pos rfl, hv u h1]
        exact hd
      · rw [if_neg e]
        rcases h2 with h2 | rfl
        · exact den_ext hx _ _ (r.t1 j u t h1 h2 h3)
        · rw [hdo] at h3; cases h3; exact absurd rfl e
    · rw [put_getD hlt, if_neg (fun e => h i (.inr rfl) (by rw [hdo, e]))]
      exact r.t0 t fun j hj => h j (.inl hj)
/-- one that has been told is done -/
theorem real_told (b0 : Base cx a0 E0 act0) (honce : onceOk cx.ops = true) {Cv : List (Nat × V)} {U : Nat → Prop} {obs : List (Nat × Ob)} {h : H} {E : Nm} {act : Act} {w : World} {R : Nat → Prop}
    (I : Inv cx a0 E0 h0 w0 act0 Cv U obs h E act w R) (hsz : ∀ i o t, (∃ v, (i, v) ∈ Cv) → cx.ops[i]? = some o → o.dst = some t → t < act0.tmps.size)
    {i : Nat} {v : V} (hi : (i, v) ∈ Cv) (hn : ¬ R i) (hr : ∀ o, cx.ops[i]? = some o → ∀ j ∈ edges o, R j) {K : Act → World → Prop} {Q : Exit → Act → World → Prop}
    (hK : ∀ E' act' w', Inv cx a0 E0 h0 w0 act0 Cv U obs h E' act' w' (fun j => R j ∨ j = i) → K act' w') : wpOp cx.P cx.ops.toArray Q i K act w := by
  obtain ⟨o, vs, want, ho, hnx, hcase⟩ := I.told i v hi hn
  have ho' : cx.ops.toArray[i]? = some o := by simpa using ho
  have nx : Nxt cx E0 act0 i E R act Cv := ⟨I.step.ext, I.rt, I.closed, bef_ready I.closed ho (hr o ho), hn⟩
  obtain ⟨hw, hd⟩ := hnx E0 act0 b0 E R act Cv (fun _ h => h) nx
  have hcl : Closed cx.ops (fun j => R j ∨ j = i) := fun j p hj hR q hq => by
    rcases hR with hR | rfl
    · exact .inl (I.closed j p hj hR q hq)
    · rw [ho] at hj; cases hj; exact .inl (hr o ho q hq)
  have hsub : ∀ j, (R j ∨ j = i) → ∃ u, (j, u) ∈ Cv := fun j hj => hj.elim (I.sub j) (fun e => ⟨v, e ▸ hi⟩)
  have rtp : ∀ {E' : Nm} {x : Value}, Ext E E' → den E' v = some x → RT cx act0 (fun j => R j ∨ j = i) E' Cv (act.put o.dst x) := fun hx hdx =>
    I.rt.put honce hx ho (fun u hu => I.uq i u v hu hi) hn hdx (fun t ht => hsz i o t ⟨v, hi⟩ ho ht) I.sub
  -- nothing is made: the world stands
  have plain : ∀ x, den E v = some x → (∀ n ob, find i obs ≠ some (some (n, ob))) → K (act.put o.dst x) w := fun x hdx hno =>
    hK E _ w ⟨I.step, hsub, hcl, rtp (Ext.refl E) hdx, fun j u hj hnj => I.told j u hj (fun e => hnj (.inl e)), I.uq, fun j u hj hnj => I.unk j u hj (fun e => hnj (.inl e)),
      fun j hj n ob hf => by
        obtain ⟨a1, a2, a3, a4, a5⟩ := I.un j hj n ob hf
        refine ⟨a1, a2, a3, fun e => a4 (fun e' => e (.inl e')), fun e => ?_⟩
        rcases e with e | rfl
        · exact a5 e
        · exact absurd hf (hno n ob),
      I.unn⟩
  unfold wpOp
  simp only [ho']
  rcases hcase with ⟨rfl, rfl, hno⟩ | ⟨rfl, hp, hno⟩ | ⟨rfl, mk, ob, n, hm, rfl, hf⟩
  · rw [hw]
    simp only [Bool.false_eq_true, if_false]
    exact plain undef (den_undef E) hno
  · rw [hw]
    simp only [if_true]
    refine .inl ?_
    have hrun : ∃ x, den E v = some x ∧ (execOp act.eval o).run cx.P w = .ok (.value x) w := by
      rcases hp with hp | hp
      · exact hp E w act.eval o rfl hd
      · exact hp.2 E w act.eval o I.step.good.stand rfl hd
    obtain ⟨x, d1, d2⟩ := hrun
    unfold Oper.wp
    rw [d2]
    exact plain x d1 hno
  · rw [hw]
    simp only [if_true]
    refine .inl ?_
    obtain ⟨hdead, hm⟩ := hm
    obtain ⟨obj, l, x, b1, b2, b3, b4⟩ := hm E w act.eval o rfl hd
    unfold Oper.wp
    rw [b4]
    have hU := I.unk i _ hi hn n ob hf
    obtain ⟨a1, a2, a3, a4, a5⟩ := I.un i hU n ob hf
    have hEn := a4 hn
    have hx := ext_set (l := l) hEn
    have hold : ∀ b, b < w.heap.size → (w.alloc obj).heap[b]? = w.heap[b]? := fun b hb => by
      show (w.heap.push obj)[b]? = _
      rw [Array.getElem?_push, if_neg (by omega)]
    have hnew : (w.alloc obj).heap[l.bl]? = some obj := by
      show (w.heap.push obj)[l.bl]? = _
      rw [b1, Array.getElem?_push_size]
    have live : ∀ {j : N} {m : Loc}, Live h j → E.set n l j = some m → E j = some m ∧ m.bl < w.heap.size := fun {j m} hl hm => by
      obtain ⟨p, h3, h4⟩ := hl
      obtain ⟨m', h5, h6⟩ := I.step.good.stand j p h3 h4
      rw [hx j m' h5] at hm
      cases hm
      exact ⟨h5, h6.lt h4⟩
    refine hK (E.set n l) _ _ ⟨I.step.early hEn a3 a2 obj, hsub, hcl, rtp hx (b3 _ n (Nm.set_same E n l)), fun j u hj hnj => I.told j u hj (fun e => hnj (.inl e)), I.uq, fun j u hj hnj => I.unk j u hj (fun e => hnj (.inl e)), fun j hj n' ob' hf' => ?_, fun j hj j' hj' n1 o1 n2 o2 f1 f2 hne => ?_⟩
    · obtain ⟨c1, c2, c3, c4, c5⟩ := I.un j hj n' ob' hf'
      by_cases e : j = i
      · subst e
        rw [hf] at hf'
        cases hf'
        refine ⟨c1, c2, c3, fun e => absurd (Or.inr rfl) e, fun _ => ⟨l, Nm.set_same E n l, b2 _ _ hx hnew, by rw [b1]; exact I.step.size, fun j m hl hm => ?_⟩⟩
        have := (live hl hm).2
        omega
      · have hnn := (I.unn j hj i hU n' ob' n ob hf' hf e).1
        refine ⟨c1, c2, c3, fun e' => ?_, fun e' => ?_⟩
        · rw [Nm.set_ne E l hnn]; exact c4 (fun e2 => e' (.inl e2))
        · rcases e' with e' | e'
          · obtain ⟨l', q1, q2, q3, q4⟩ := c5 e'
            refine ⟨l', hx _ _ q1, q2.ext hx (hold _ (q2.lt c1)), q3, fun j m hl hm => q4 j m hl (live hl hm).1⟩
          · exact absurd e' e
    · have hnn := I.unn j hj j' hj' n1 o1 n2 o2 f1 f2 hne
      refine ⟨hnn.1, fun l1 l2 g1 g2 => ?_⟩
      have small : ∀ (k : Nat) (hk : U k) (m : N) (p : O) (lm : Loc), find k obs = some (some (m, p)) → m ≠ n → E.set n l m = some lm → E m = some lm ∧ lm.bl < w.heap.size := fun k hk m p lm fk hmn hm => by
        rw [Nm.set_ne E l hmn] at hm
        obtain ⟨c1, _, _, c4, c5⟩ := I.un k hk m p fk
        have hRk : R k := Classical.byContradiction fun e => by rw [c4 e] at hm; cases hm
        obtain ⟨l', q1, q2, _, _⟩ := c5 hRk
        rw [q1] at hm; cases hm
        exact ⟨q1, q2.lt c1⟩
      by_cases e1 : n1 = n
      · by_cases e2 : n2 = n
        · exact absurd (e1.trans e2.symm) hnn.1
        · subst e1
          rw [Nm.set_same] at g1; cases g1
          have := (small j' hj' n2 o2 l2 f2 e2 g2).2
          omega
      · by_cases e2 : n2 = n
        · subst e2
          rw [Nm.set_same] at g2; cases g2
          have := (small j hj n1 o1 l1 f1 e1 g1).2
          omega
        · exact hnn.2 l1 l2 (small j hj n1 o1 l1 f1 e1 g1).1 (small j' hj' n2 o2 l2 f2 e2 g2).1
end
end Go.Ev

/-
  The evaluator of closed calls: a part.
-/
set_option linter.unusedVariables false
set_option linter.unusedSimpArgs false
namespace Go.Ev
theorem RdOk.mono {P : Program} {op : Op} {vs : List V} {h h1 : H} {v : V} (hm : ∀ k o, T.get k h.t = some o → o ≠ .dead → T.get k h1.t = some o) (r : RdOk P op vs h v) : RdOk P op vs h1 v :=
  fun E w ρ o g ho hd => r E w ρ o (fun k p h2 h3 => g k p (hm k p h2 h3) h3) ho hd
section
variable {cx : Cx} {call : Call} {a0 : A} {E0 : Nm} {h0 : H} {w0 : World} {act0 : Act}
theorem lay_one {Cv : List (Nat × V)} {U : Nat → Prop} {obs : List (Nat × Ob)} {h : H} {E : Nm} {act : Act} {w : World} {R : Nat → Prop} (I : Inv cx a0 E0 h0 w0 act0 Cv U obs h E act w R)
    {j : Nat} (hU : U j) (hR : R j) {n : N} {o : O} (hf : find j obs = some (some (n, o))) : Inv cx a0 E0 h0 w0 act0 Cv (fun k => U k ∧ k ≠ j) obs (h.put n o) E act w R := by
  obtain ⟨a1, a2, a3, a4, a5⟩ := I.un j hU n o hf
  obtain ⟨l, q1, q2, q3, q4⟩ := a5 hR
  have hnl : ¬ Live h n := fun hl => q4 n l hl q1 rfl
  have hmono : ∀ k p, T.get k h.t = some p → p ≠ .dead → T.get k (h.put n o).t = some p := fun k p h1 h2 => by
    rw [get_put_ne (fun e => by subst e; exact hnl ⟨p, h1, h2⟩)]
    exact h1
  have hg := Good.lay I.step.good q1 a1 q2 (fun k m hl _ hm => q4 k m hl hm)
  refine ⟨⟨I.step.ext, hg, I.step.mono, I.step.dom, fun k m hl hm => ?_, I.step.frame, I.step.size, I.step.os, I.step.tape, I.step.output⟩, I.sub, I.closed, I.rt, fun i v hi hn => ?_, I.uq, fun i v hi hn m ob hfi => ?_, fun i hi m ob hfi => ?_, fun i hi k hk n1 o1 n2 o2 f1 f2 hne => I.unn i hi.1 k hk.1 n1 o1 n2 o2 f1 f2 hne⟩
  · rcases Live.put hl with rfl | hl
    · rw [q1] at hm; cases hm; exact .inr q3
    · exact I.step.img k m hl hm
  · obtain ⟨p, vs, want, h1, h2, h3⟩ := I.told i v hi hn
    refine ⟨p, vs, want, h1, h2, ?_⟩
    rcases h3 with h3 | ⟨e1, e2, e3⟩ | h3
    · exact .inl h3
    · exact .inr (.inl ⟨e1, e2.imp id (fun e => ⟨e.1, e.2.mono hmono⟩), e3⟩)
    · exact .inr (.inr h3)
  · exact ⟨I.unk i v hi hn m ob hfi, fun e => hn (e ▸ hR)⟩
  · obtain ⟨b1, b2, b3, b4, b5⟩ := I.un i hi.1 m ob hfi
    refine ⟨b1, b2, b3, b4, fun e => ?_⟩
    obtain ⟨l', r1, r2, r3, r4⟩ := b5 e
    refine ⟨l', r1, r2, r3, fun k x hl hx => ?_⟩
    rcases Live.put hl with rfl | hl
    · rw [q1] at hx; cases hx
      exact (I.unn j hU i hi.1 _ o m ob hf hfi (fun e => hi.2 e.symm)).2 _ _ q1 r1
    · exact r4 k x hl hx
theorem lay_none {Cv : List (Nat × V)} {U : Nat → Prop} {obs : List (Nat × Ob)} {h : H} {E : Nm} {act : Act} {w : World} {R : Nat → Prop} (I : Inv cx a0 E0 h0 w0 act0 Cv U obs h E act w R)
    {j : Nat} (hR : R j) : Inv cx a0 E0 h0 w0 act0 Cv (fun k => U k ∧ k ≠ j) obs h E act w R :=
  ⟨I.step, I.sub, I.closed, I.rt, I.told, I.uq, fun i v hi hn m ob hf => ⟨I.unk i v hi hn m ob hf, fun e => hn (e ▸ hR)⟩, fun i hi => I.un i hi.1, fun i hi k hk => I.unn i hi.1 k hk.1⟩
theorem Inv.congrU {Cv : List (Nat × V)} {U U' : Nat → Prop} {obs : List (Nat × Ob)} {h : H} {E : Nm} {act : Act} {w : World} {R : Nat → Prop} (I : Inv cx a0 E0 h0 w0 act0 Cv U obs h E act w R) (hU : ∀ k, U k ↔ U' k) :
    Inv cx a0 E0 h0 w0 act0 Cv U' obs h E act w R :=
  ⟨I.step, I.sub, I.closed, I.rt, I.told, I.uq, fun i v hi hn m ob hf => (hU i).1 (I.unk i v hi hn m ob hf), fun i hi => I.un i ((hU i).2 hi), fun i hi k hk => I.unn i ((hU i).2 hi) k ((hU k).2 hk)⟩
/-- what was made before is laid -/
theorem lays_sound : ∀ {ls : List Nat} {rest : List It} {env : Env} {obs : List (Nat × Ob)} {a : A} {h : H} {kn : KA}, nodup ls = true → evIts cx call (ls.map .L ++ rest) env obs a h kn = true →
    ∃ h1, h1.n = h.n ∧ evIts cx call rest env obs a h1 kn = true ∧ ∀ E0 h0 w0 act0 Cv U E act w R, Inv cx a0 E0 h0 w0 act0 Cv U obs h E act w R → (∀ j ∈ ls, U j ∧ R j) → Inv cx a0 E0 h0 w0 act0 Cv (fun k => U k ∧ k ∉ ls) obs h1 E act w R
  | [], rest, env, obs, a, h, kn, _, hk => ⟨h, rfl, hk, fun E0 h0 w0 act0 Cv U E act w R I _ => I.congrU fun k => by simp⟩
  | j :: ls, rest, env, obs, a, h, kn, hnd, hk => by
    simp only [nodup, Bool.and_eq_true, Bool.not_eq_true'] at hnd
    have hj : j ∉ ls := fun hm => by rw [has_mem.2 hm] at hnd; cases hnd.1
    have hk : okK (find j obs) (fun ob => layK ob h (fun h => evIts cx call (ls.map .L ++ rest) env obs a h kn)) = true := hk
    obtain ⟨ob, hf, k1⟩ := okK_true hk
    cases ob with
    | none =>
      obtain ⟨h1, e1, k2, hr⟩ := lays_sound hnd.2 (show evIts cx call (ls.map .L ++ rest) env obs a h kn = true from k1)
      refine ⟨h1, e1, k2, fun E0 h0 w0 act0 Cv U E act w R I hu => (hr E0 h0 w0 act0 Cv _ E act w R (lay_none I (hu j (by simp)).2) fun i hi => ⟨⟨(hu i (by simp [hi])).1, fun e => hj (e ▸ hi)⟩, (hu i (by simp [hi])).2⟩).congrU fun k => ?_⟩
      simp only [List.mem_cons, not_or]
      exact ⟨fun ⟨⟨x, y⟩, z⟩ => ⟨x, y, z⟩, fun ⟨x, y, z⟩ => ⟨⟨x, y⟩, z⟩⟩
    | some p =>
      obtain ⟨n, o⟩ := p
      have k1 : h.putK n o (fun h => evIts cx call (ls.map .L ++ rest) env obs a h kn) = true := k1
      rw [H.putK_eq] at k1
      obtain ⟨h1, e1, k2, hr⟩ := lays_sound hnd.2 k1
      refine ⟨h1, e1, k2, fun E0 h0 w0 act0 Cv U E act w R I hu => (hr E0 h0 w0 act0 Cv _ E act w R (lay_one I (hu j (by simp)).1 (hu j (by simp)).2 hf) fun i hi => ⟨⟨(hu i (by simp [hi])).1, fun e => hj (e ▸ hi)⟩, (hu i (by simp [hi])).2⟩).congrU fun k => ?_⟩
      simp only [List.mem_cons, not_or]
      exact ⟨fun ⟨⟨x, y⟩, z⟩ => ⟨x, y, z⟩, fun ⟨x, y, z⟩ => ⟨⟨x, y⟩, z⟩⟩
/-- what was read is read again -/
def Again (cx : Cx) (a0 : A) (h : H) (Cv : List (Nat × V)) (i : Nat) (v : V) : Prop :=
  ∃ o vs want, cx.ops[i]? = some o ∧
    (∀ E0 act0, Base cx a0 E0 act0 → ∀ E R act Cv', (∀ p ∈ Cv, p ∈ Cv') → Nxt cx E0 act0 i E R act Cv' → Region.wanted o (yielded cx.ops.toArray act.tmps) = want ∧ denL E vs = some (o.op.operands.toList.map act.eval)) ∧
    ((want = false ∧ v = V.undef) ∨ (want = true ∧ (PuOk cx.P o.op vs v ∨ (heapB cx.P o.op = true ∧ RdOk cx.P o.op vs h v))))
theorem mem_tmpsOf {o : Oper} {t : Nat} (h : Operand.tmp t ∈ o.op.operands.toList) : t ∈ tmpsOf o := List.mem_filterMap.2 ⟨.tmp t, h, rfl⟩
theorem again_one {Cv : List (Nat × V)} {env : Env} {obs : List (Nat × Ob)} {a : A} {h : H} {kn : KA} {ih : RK} (c : Can cx a0 Cv env a) (honce : onceOk cx.ops = true)
    {i : Nat} {C : List Nat} (hC : ∀ j, j ∈ C ↔ ∃ v, (j, v) ∈ Cv) (hB : ∀ j ∈ bOf (befs cx.ops []) i, j ∈ C) {o : Oper} (ho : cx.ops[i]? = some o) (ht : (tmpsOf o).all (tmpOk cx.ops (befs cx.ops []) i C) = true) (hg : gOk (befs cx.ops []) i o = true)
    {v : V} (hv : (i, v) ∈ Cv) (hk : evIt cx call (.K i) ih env obs a h kn = true) : ih env obs a h kn = true ∧ Again cx a0 h Cv i v := by
  obtain ⟨o', ho', k1⟩ := okK_true hk
  rw [ho] at ho'; cases ho'
  obtain ⟨u, hu, k2⟩ := okK_true k1
  have huv : u = v := by
    cases hd : o.dst with
    | none => rw [hd] at hu; cases hu
    | some t =>
      rw [hd] at hu
      have := c.env2 i v t hv (by simp [dstOf, ho, hd])
      have hu : find t env = some u := hu
      rw [this] at hu; cases hu; rfl
  subst huv
  obtain ⟨vs, k3, hvs⟩ := opd_list c hC hB (i := i) (fun t h => List.all_eq_true.1 ht t (mem_tmpsOf h)) k2
  obtain ⟨want, hc, hw⟩ := guard_draw c honce hg k3
  rcases hc with ⟨rfl, k4⟩ | ⟨rfl, k4⟩
  · obtain ⟨v', k5, hrd, hpu⟩ := evR_sound k4
    obtain ⟨rfl, k6⟩ := sameK_true k5
    refine ⟨k6, o, vs, true, ho, fun E0 act0 b0 E R act Cv' hs n => ⟨hw E0 act0 b0 E R act Cv' hs n, hvs E0 act0 b0 E R act Cv' hs n⟩, .inr ⟨rfl, ?_⟩⟩
    cases hb : heapB cx.P o.op
    · exact .inl (hpu hb)
    · exact .inr ⟨rfl, hrd⟩
  · obtain ⟨e, k6⟩ := sameK_true k4
    exact ⟨k6, o, vs, false, ho, fun E0 act0 b0 E R act Cv' hs n => ⟨hw E0 act0 b0 E R act Cv' hs n, hvs E0 act0 b0 E R act Cv' hs n⟩, .inl ⟨rfl, e.symm⟩⟩
theorem again_all {Cv : List (Nat × V)} {env : Env} {obs : List (Nat × Ob)} {a : A} {h : H} {kn : KA} {rest : List It} (c : Can cx a0 Cv env a) (honce : onceOk cx.ops = true)
    {C : List Nat} (hC : ∀ j, j ∈ C ↔ ∃ v, (j, v) ∈ Cv) (hBC : ∀ i ∈ C, ∀ j ∈ bOf (befs cx.ops []) i, j ∈ C) : ∀ {ks : List Nat}, (∀ k ∈ ks, k ∈ C ∧ ∃ o, cx.ops[k]? = some o ∧ (tmpsOf o).all (tmpOk cx.ops (befs cx.ops []) k C) = true ∧ gOk (befs cx.ops []) k o = true) →
    evIts cx call (ks.map .K ++ rest) env obs a h kn = true → evIts cx call rest env obs a h kn = true ∧ ∀ k ∈ ks, ∀ v, (k, v) ∈ Cv → Again cx a0 h Cv k v
  | [], _, hk => ⟨hk, fun k hk => absurd hk (by simp)⟩
  | k :: ks, hks, hk => by
    have hk : evIt cx call (.K k) (evIts cx call (ks.map .K ++ rest)) env obs a h kn = true := hk
    obtain ⟨hkC, o, ho, ht, hg⟩ := hks k (by simp)
    obtain ⟨v, hv⟩ := (hC k).1 hkC
    obtain ⟨k1, _⟩ := again_one c honce hC (hBC k hkC) ho ht hg hv hk
    obtain ⟨k2, hr⟩ := again_all c honce hC hBC (fun j hj => hks j (by simp [hj])) k1
    refine ⟨k2, fun j hj u hu => ?_⟩
    rcases List.mem_cons.1 hj with rfl | hj
    · exact (again_one c honce hC (hBC _ hkC) ho ht hg hu hk).2
    · exact hr j hj u hu
end
end Go.Ev

/-
  The evaluator of closed calls: a part.
-/
set_option linter.unusedVariables false
set_option linter.unusedSimpArgs false
namespace Go.Ev
section
variable {cx : Cx} {call : Call} {E0 : Nm} {h0 : H} {w0 : World} {a0 : A} {act0 : Act}
theorem Told.mono {h h' : H} {obs obs' : List (Nat × Ob)} {Cv Cv' : List (Nat × V)} {i : Nat} {v : V} (hs : ∀ p ∈ Cv, p ∈ Cv') (hm : ∀ k o, T.get k h.t = some o → o ≠ .dead → T.get k h'.t = some o) (ho : find i obs' = find i obs)
    (t : Told cx a0 h obs Cv i v) : Told cx a0 h' obs' Cv' i v := by
  obtain ⟨o, vs, want, h1, h2, h3⟩ := t
  refine ⟨o, vs, want, h1, fun E0 act0 b0 E R act Cv2 hs2 n => h2 E0 act0 b0 E R act Cv2 (fun p hp => hs2 p (hs p hp)) n, ?_⟩
  rw [ho]
  rcases h3 with h3 | ⟨e1, e2, e3⟩ | h3
  · exact .inl h3
  · exact .inr (.inl ⟨e1, e2.imp id (fun e => ⟨e.1, e.2.mono hm⟩), e3⟩)
  · exact .inr (.inr h3)
theorem chkOp_parts {i : Nat} {C : List Nat} {last : Option Nat} (h : chkOp cx.ops (befs cx.ops []) i C last = true) :
    ∃ o, cx.ops[i]? = some o ∧ i ∉ C ∧ (∀ j ∈ bOf (befs cx.ops []) i, j ∈ C) ∧ (∀ e, last = some e → e ∈ bOf (befs cx.ops []) i) ∧ (tmpsOf o).all (tmpOk cx.ops (befs cx.ops []) i C) = true ∧ gOk (befs cx.ops []) i o = true := by
  unfold chkOp at h
  cases ho : cx.ops[i]? with
  | none => rw [ho] at h; cases h
  | some o =>
    rw [ho] at h
    simp only [Bool.and_eq_true, Bool.not_eq_true'] at h
    obtain ⟨⟨⟨⟨h1, h2⟩, h3⟩, h4⟩, h5⟩ := h
    refine ⟨o, rfl, fun hm => (by rw [has_mem.2 hm] at h1; cases h1), fun j hj => has_mem.1 (List.all_eq_true.1 h2 j hj), fun e he => ?_, h4, h5⟩
    subst he
    exact has_mem.1 h3
/-- an operation that reads is told ahead -/
theorem tell_N {Cv : List (Nat × V)} {env : Env} {obs : List (Nat × Ob)} {a : A} {h : H} {kn : KA} {ih : RK} (c : Can cx a0 Cv env a) (honce : onceOk cx.ops = true)
    {i : Nat} {C : List Nat} {last : Option Nat} (hC : ∀ j, j ∈ C ↔ ∃ v, (j, v) ∈ Cv) (hchk : chkOp cx.ops (befs cx.ops []) i C last = true) (hobs : find i obs = none) (hk : evIt cx call (.R i) ih env obs a h kn = true) :
    ∃ o v a', cx.ops[i]? = some o ∧ ih (push o.dst v env) obs a' h kn = true ∧ Can cx a0 ((i, v) :: Cv) (push o.dst v env) a' ∧ Told cx a0 h obs ((i, v) :: Cv) i v := by
  obtain ⟨o, ho, hi, hB, _, ht, hg⟩ := chkOp_parts hchk
  obtain ⟨o', ho', k1⟩ := okK_true hk
  rw [ho] at ho'; cases ho'
  obtain ⟨vs, k2, hvs⟩ := opd_list c hC hB (fun t h => List.all_eq_true.1 ht t (mem_tmpsOf h)) k1
  obtain ⟨want, hc, hw⟩ := guard_draw c honce hg k2
  have hn : ∀ u, (i, u) ∉ Cv := fun u hu => hi ((hC i).2 ⟨u, hu⟩)
  have hno : ∀ n ob, find i obs ≠ some (some (n, ob)) := fun n ob e => by rw [hobs] at e; cases e
  rcases hc with ⟨rfl, k3⟩ | ⟨rfl, k3⟩
  · obtain ⟨v, k4, hrd, hpu⟩ := evR_sound k3
    obtain ⟨a', k5, c'⟩ := c.push honce ho hn k4
    refine ⟨o, v, a', ho, k5, c', o, vs, true, ho, fun E0 act0 b0 E R act Cv' hs n => ⟨hw E0 act0 b0 E R act Cv' (fun p hp => hs p (by simp [hp])) n, hvs E0 act0 b0 E R act Cv' (fun p hp => hs p (by simp [hp])) n⟩, .inr (.inl ⟨rfl, ?_, hno⟩)⟩
    cases hb : heapB cx.P o.op
    · exact .inl (hpu hb)
    · exact .inr ⟨rfl, hrd⟩
  · obtain ⟨a', k5, c'⟩ := c.push honce ho hn k3
    exact ⟨o, _, a', ho, k5, c', o, vs, false, ho, fun E0 act0 b0 E R act Cv' hs n => ⟨hw E0 act0 b0 E R act Cv' (fun p hp => hs p (by simp [hp])) n, hvs E0 act0 b0 E R act Cv' (fun p hp => hs p (by simp [hp])) n⟩, .inl ⟨rfl, rfl, hno⟩⟩
/-- an operation that makes is told ahead -/
theorem tell_B {Cv : List (Nat × V)} {env : Env} {obs : List (Nat × Ob)} {a : A} {h : H} {kn : KA} {ih : RK} (c : Can cx a0 Cv env a) (honce : onceOk cx.ops = true)
    {i : Nat} {C : List Nat} {last : Option Nat} (hC : ∀ j, j ∈ C ↔ ∃ v, (j, v) ∈ Cv) (hchk : chkOp cx.ops (befs cx.ops []) i C last = true) (hk : evIt cx call (.B i) ih env obs a h kn = true) :
    ∃ o v a' ob h', cx.ops[i]? = some o ∧ ih (push o.dst v env) ((i, ob) :: obs) a' h' kn = true ∧ Can cx a0 ((i, v) :: Cv) (push o.dst v env) a' ∧ Told cx a0 h' ((i, ob) :: obs) ((i, v) :: Cv) i v ∧
      ((ob = none ∧ h' = h) ∨ ∃ p, ob = some (h.n, p) ∧ p ≠ .dead ∧ h' = h.next) := by
  obtain ⟨o, ho, hi, hB, _, ht, hg⟩ := chkOp_parts hchk
  obtain ⟨o', ho', k1⟩ := okK_true hk
  rw [ho] at ho'; cases ho'
  obtain ⟨vs, k2, hvs⟩ := opd_list c hC hB (fun t h => List.all_eq_true.1 ht t (mem_tmpsOf h)) k1
  obtain ⟨want, hc, hw⟩ := guard_draw c honce hg k2
  have hn : ∀ u, (i, u) ∉ Cv := fun u hu => hi ((hC i).2 ⟨u, hu⟩)
  have hf : ∀ ob : Ob, find i ((i, ob) :: obs) = some ob := fun ob => by simp only [find, Nat.beq_refl]
  rcases hc with ⟨rfl, k3⟩ | ⟨rfl, k3⟩
  · obtain ⟨mk, p, k4, hm⟩ := evA_sound k3
    rw [H.nextK_eq] at k4
    obtain ⟨a', k5, c'⟩ := c.push honce ho hn k4
    exact ⟨o, _, a', some (h.n, p), h.next, ho, k5, c', ⟨o, vs, true, ho, fun E0 act0 b0 E R act Cv' hs n => ⟨hw E0 act0 b0 E R act Cv' (fun p hp => hs p (by simp [hp])) n, hvs E0 act0 b0 E R act Cv' (fun p hp => hs p (by simp [hp])) n⟩, .inr (.inr ⟨rfl, mk, p, h.n, hm, rfl, hf _⟩)⟩, .inr ⟨p, rfl, hm.1, rfl⟩⟩
  · obtain ⟨a', k5, c'⟩ := c.push honce ho hn k3
    exact ⟨o, _, a', none, h, ho, k5, c', ⟨o, vs, false, ho, fun E0 act0 b0 E R act Cv' hs n => ⟨hw E0 act0 b0 E R act Cv' (fun p hp => hs p (by simp [hp])) n, hvs E0 act0 b0 E R act Cv' (fun p hp => hs p (by simp [hp])) n⟩, .inl ⟨rfl, rfl, fun n ob e => by rw [hf] at e; cases e⟩⟩, .inl ⟨rfl, rfl⟩⟩
theorem inv_N {Cv : List (Nat × V)} {U : Nat → Prop} {obs : List (Nat × Ob)} {h : H} {E : Nm} {act : Act} {w : World} {R : Nat → Prop} (I : Inv cx a0 E0 h0 w0 act0 Cv U obs h E act w R) {i : Nat} {v : V} (hi : ∀ u, (i, u) ∉ Cv)
    (ht : Told cx a0 h obs ((i, v) :: Cv) i v) (hobs : find i obs = none) : Inv cx a0 E0 h0 w0 act0 ((i, v) :: Cv) U obs h E act w R := by
  have hRi : ¬ R i := fun hR => let ⟨u, hu⟩ := I.sub i hR; hi u hu
  refine ⟨I.step, fun j hj => let ⟨u, hu⟩ := I.sub j hj; ⟨u, by simp [hu]⟩, I.closed, ⟨fun j u t h1 h2 h3 => ?_, I.rt.t0, I.rt.sz, I.rt.df⟩, fun j u h1 h2 => ?_, fun j u u' h1 h2 => ?_, fun j u h1 h2 n ob hf => ?_, I.un, I.unn⟩
  · rcases List.mem_cons.1 h1 with h1 | h1
    · cases h1; exact absurd h2 hRi
    · exact I.rt.t1 j u t h1 h2 h3
  · rcases List.mem_cons.1 h1 with h1 | h1
    · cases h1; exact ht
    · exact (I.told j u h1 h2).mono (fun p hp => by simp [hp]) (fun _ _ h _ => h) rfl
  · rcases List.mem_cons.1 h1 with h1 | h1 <;> rcases List.mem_cons.1 h2 with h2 | h2
    · cases h1; cases h2; rfl
    · cases h1; exact absurd h2 (hi _)
    · cases h2; exact absurd h1 (hi _)
    · exact I.uq j u u' h1 h2
  · rcases List.mem_cons.1 h1 with h1 | h1
    · cases h1; rw [hobs] at hf; cases hf
    · exact I.unk j u h1 h2 n ob hf
theorem Step.nexth {P : Program} {E : Nm} {h : H} {w : World} (s : Step P E0 h0 w0 E h w) : Step P E0 h0 w0 E h.next w := by
  have hn : h.next.n.val = h.n.val + 1 := N.val_succ h.n
  exact ⟨s.ext, ⟨fun k l hk => by have := s.good.fresh k l hk; omega, s.good.stand, s.good.inj, s.good.glob⟩, by have := s.mono; omega, s.dom, s.img, s.frame, s.size, s.os, s.tape, s.output⟩
theorem inv_B {Cv : List (Nat × V)} {U : Nat → Prop} {obs : List (Nat × Ob)} {h : H} {E : Nm} {act : Act} {w : World} {R : Nat → Prop} (I : Inv cx a0 E0 h0 w0 act0 Cv U obs h E act w R) {i : Nat} {v : V} (hi : ∀ u, (i, u) ∉ Cv) (hU : ¬ U i)
    {ob : Ob} {h' : H} (ht : Told cx a0 h' ((i, ob) :: obs) ((i, v) :: Cv) i v) (hob : (ob = none ∧ h' = h) ∨ ∃ p, ob = some (h.n, p) ∧ p ≠ .dead ∧ h' = h.next) :
    Inv cx a0 E0 h0 w0 act0 ((i, v) :: Cv) (fun k => U k ∨ k = i) ((i, ob) :: obs) h' E act w R := by
  have hRi : ¬ R i := fun hR => let ⟨u, hu⟩ := I.sub i hR; hi u hu
  have hfi : find i ((i, ob) :: obs) = some ob := by simp only [find, Nat.beq_refl]
  have hfo : ∀ k, k ≠ i → find k ((i, ob) :: obs) = find k obs := fun k hk => by
    have : Nat.beq k i = false := by
      cases hb : Nat.beq k i
      · rfl
      · exact absurd (Nat.eq_of_beq_eq_true hb) hk
    simp only [find, this]
  have hs : Step cx.P E0 h0 w0 E h' w := by
    rcases hob with ⟨_, rfl⟩ | ⟨p, _, _, rfl⟩
    · exact I.step
    · exact Step.nexth I.step
  have htt : ∀ k o, T.get k h.t = some o → o ≠ .dead → T.get k h'.t = some o := fun k o h1 _ => by
    rcases hob with ⟨_, rfl⟩ | ⟨p, _, _, rfl⟩ <;> exact h1
  have hnn : h.n.val ≤ h'.n.val := by
    rcases hob with ⟨_, rfl⟩ | ⟨p, _, _, rfl⟩
    · exact Nat.le_refl _
    · show h.n.val ≤ h.n.succ.val; rw [N.val_succ]; omega
  have hEn : E h.n = none := by
    cases he : E h.n with
    | none => rfl
    | some l => exact absurd (I.step.good.fresh _ l he) (Nat.lt_irrefl _)
  have liveq : ∀ k, Live h' k ↔ Live h k := fun k => by
    rcases hob with ⟨_, rfl⟩ | ⟨p, _, _, rfl⟩ <;> exact Iff.rfl
  refine ⟨hs, fun j hj => let ⟨u, hu⟩ := I.sub j hj; ⟨u, by simp [hu]⟩, I.closed, ⟨fun j u t h1 h2 h3 => ?_, I.rt.t0, I.rt.sz, I.rt.df⟩, fun j u h1 h2 => ?_, fun j u u' h1 h2 => ?_, fun j u h1 h2 n p hf => ?_, fun j hj n p hf => ?_, fun j hj k hk n o n' o' f1 f2 hne => ?_⟩
  · rcases List.mem_cons.1 h1 with h1 | h1
    · cases h1; exact absurd h2 hRi
    · exact I.rt.t1 j u t h1 h2 h3
  · rcases List.mem_cons.1 h1 with h1 | h1
    · cases h1; exact ht
    · exact (I.told j u h1 h2).mono (fun p hp => by simp [hp]) htt (hfo j (fun e => hi u (e ▸ h1)))
  · rcases List.mem_cons.1 h1 with h1 | h1 <;> rcases List.mem_cons.1 h2 with h2 | h2
    · cases h1; cases h2; rfl
    · cases h1; exact absurd h2 (hi _)
    · cases h2; exact absurd h1 (hi _)
    · exact I.uq j u u' h1 h2
  · rcases List.mem_cons.1 h1 with h1 | h1
    · cases h1; exact .inr rfl
    · rw [hfo j (fun e => hi u (e ▸ h1))] at hf
      exact .inl (I.unk j u h1 h2 n p hf)
  · by_cases e : j = i
    · subst e
      rw [hfi] at hf
      rcases hob with ⟨e1, _⟩ | ⟨p', e1, e2, e3⟩
      · rw [e1] at hf; cases hf
      · rw [e1] at hf; cases hf
        subst e3
        exact ⟨e2, by show h.n.val < h.n.succ.val; rw [N.val_succ]; omega, I.step.mono, fun _ => hEn, fun hR => absurd hR hRi⟩
    · rw [hfo j e] at hf
      obtain ⟨b1, b2, b3, b4, b5⟩ := I.un j (hj.resolve_right e) n p hf
      refine ⟨b1, by omega, b3, b4, fun hR => ?_⟩
      obtain ⟨l, q1, q2, q3, q4⟩ := b5 hR
      exact ⟨l, q1, q2, q3, fun k m hl hm => q4 k m ((liveq k).1 hl) hm⟩
  · have newn : ∀ n o, find i ((i, ob) :: obs) = some (some (n, o)) → n = h.n := fun n o hf => by
      rw [hfi] at hf
      rcases hob with ⟨e1, _⟩ | ⟨p', e1, _, _⟩
      · rw [e1] at hf; cases hf
      · rw [e1] at hf; cases hf; rfl
    by_cases e1 : j = i
    · subst e1
      have hk' : k ≠ j := fun e => hne e.symm
      have q1 := newn n o f1
      rw [hfo k hk'] at f2
      have q2 := I.un k (hk.resolve_right hk') n' o' f2
      refine ⟨fun e => by rw [q1] at e; rw [← e] at q2; exact absurd q2.2.1 (Nat.lt_irrefl _), fun l l' g1 _ => by rw [q1, hEn] at g1; cases g1⟩
    · by_cases e2 : k = i
      · subst e2
        have q1 := newn n' o' f2
        rw [hfo j e1] at f1
        have q2 := I.un j (hj.resolve_right e1) n o f1
        refine ⟨fun e => by rw [q1] at e; rw [e] at q2; exact absurd q2.2.1 (Nat.lt_irrefl _), fun l l' _ g2 => by rw [q1, hEn] at g2; cases g2⟩
      · rw [hfo j e1] at f1
        rw [hfo k e2] at f2
        exact I.unn j (hj.resolve_right e1) k (hk.resolve_right e2) n o n' o' f1 f2 hne
/-- an operation that changes -/
theorem eff_it (hcall : CallOk cx.P call) {Cv : List (Nat × V)} {env : Env} {obs : List (Nat × Ob)} {a : A} {h : H} {kn : KA} {ih : RK} (c : Can cx a0 Cv env a) (honce : onceOk cx.ops = true)
    {i : Nat} {C : List Nat} {last : Option Nat} (hC : ∀ j, j ∈ C ↔ ∃ v, (j, v) ∈ Cv) (hchk : chkOp cx.ops (befs cx.ops []) i C last = true) (hk : evIt cx call (.X i) ih env obs a h kn = true) :
    ∃ o v a' h2, cx.ops[i]? = some o ∧ ih (push o.dst v env) obs a' h2 kn = true ∧ Can cx a0 ((i, v) :: Cv) (push o.dst v env) a' ∧
      ∀ E0 act0, Base cx a0 E0 act0 → ∀ E act w R, Nxt cx E0 act0 i E R act Cv → Good cx.P E h w → ∀ (K : Act → World → Prop) (Q : Exit → Act → World → Prop), (∀ E' w' x, Step cx.P E h w E' h2 w' → den E' v = some x → K (act.put o.dst x) w') → wpOp cx.P cx.ops.toArray Q i K act w := by
  obtain ⟨o, ho, hi, hB, _, ht, hg⟩ := chkOp_parts hchk
  obtain ⟨o', ho', k1⟩ := okK_true hk
  rw [ho] at ho'; cases ho'
  obtain ⟨vs, k2, hvs⟩ := opd_list c hC hB (fun t h => List.all_eq_true.1 ht t (mem_tmpsOf h)) k1
  obtain ⟨want, hc, hw⟩ := guard_draw c honce hg k2
  have hn : ∀ u, (i, u) ∉ Cv := fun u hu => hi ((hC i).2 ⟨u, hu⟩)
  have ho' : cx.ops.toArray[i]? = some o := by simpa using ho
  rcases hc with ⟨rfl, k3⟩ | ⟨rfl, k3⟩
  · obtain ⟨v, h2, k4, hx⟩ := evX_sound hcall k3
    obtain ⟨a', k5, c'⟩ := c.push honce ho hn k4
    refine ⟨o, v, a', h2, ho, k5, c', fun E0 act0 b0 E act w R n g K Q hK => ?_⟩
    unfold wpOp
    simp only [ho', hw E0 act0 b0 E R act Cv (fun _ h => h) n, if_true]
    exact .inl (hx E w act o g rfl (hvs E0 act0 b0 E R act Cv (fun _ h => h) n) K Q hK)
  · obtain ⟨a', k5, c'⟩ := c.push honce ho hn k3
    refine ⟨o, _, a', h, ho, k5, c', fun E0 act0 b0 E act w R n g K Q hK => ?_⟩
    unfold wpOp
    simp only [ho', hw E0 act0 b0 E R act Cv (fun _ h => h) n, Bool.false_eq_true, if_false]
    exact hK E w undef (Step.refl g) (den_undef E)
/-- the invariant behind it -/
theorem inv_E {Cv : List (Nat × V)} {U : Nat → Prop} {obs : List (Nat × Ob)} {h h2 : H} {E E' : Nm} {act : Act} {w w' : World} {R : Nat → Prop} (I : Inv cx a0 E0 h0 w0 act0 Cv U obs h E act w R) (honce : onceOk cx.ops = true)
    {i : Nat} {o : Oper} {v : V} {x : Value} (hi : ∀ u, (i, u) ∉ Cv) (hUC : ∀ k, U k → ∃ u, (k, u) ∈ Cv) (ho : cx.ops[i]? = some o) (hr : ∀ j ∈ edges o, R j) (hobs : find i obs = none) (hs : Step cx.P E h w E' h2 w') (hd : den E' v = some x)
    (hsz : ∀ t, o.dst = some t → t < act0.tmps.size)
    (hag : ∀ j u, (j, u) ∈ Cv → ¬ R j → (∀ p, cx.ops[j]? = some p → heapB cx.P p.op = false) ∨ Again cx a0 h2 ((i, v) :: Cv) j u) :
    Inv cx a0 E0 h0 w0 act0 ((i, v) :: Cv) U obs h2 E' (act.put o.dst x) w' (fun j => R j ∨ j = i) := by
  have hRi : ¬ R i := fun hR => let ⟨u, hu⟩ := I.sub i hR; hi u hu
  have hUi : ∀ k, U k → k ≠ i := fun k hk e => let ⟨u, hu⟩ := hUC k hk; hi u (e ▸ hu)
  have rt' : RT cx act0 R E ((i, v) :: Cv) act := ⟨fun j u t h1 h2 h3 => by
    rcases List.mem_cons.1 h1 with h1 | h1
    · cases h1; exact absurd h2 hRi
    · exact I.rt.t1 j u t h1 h2 h3, I.rt.t0, I.rt.sz, I.rt.df⟩
  have uq' : ∀ j u u', (j, u) ∈ (i, v) :: Cv → (j, u') ∈ (i, v) :: Cv → u = u' := fun j u u' h1 h2 => by
    rcases List.mem_cons.1 h1 with h1 | h1 <;> rcases List.mem_cons.1 h2 with h2 | h2
    · cases h1; cases h2; rfl
    · cases h1; exact absurd h2 (hi _)
    · cases h2; exact absurd h1 (hi _)
    · exact I.uq j u u' h1 h2
  have back : ∀ {n : N} {l : Loc}, n.val < h.n.val → E' n = some l → E n = some l := fun {n l} hn he => by
    rcases hs.dom n l he with h1 | h1
    · exact h1
    · omega
  refine ⟨I.step.trans hs, fun j hj => ?_, fun j p hj hR q hq => ?_, ?_, fun j u h1 h2 => ?_, uq', fun j u h1 h2 n ob hf => ?_, fun j hj n ob hf => ?_, fun j hj k hk n o1 n' o2 f1 f2 hne => ?_⟩
  · rcases hj with hj | rfl
    · obtain ⟨u, hu⟩ := I.sub j hj; exact ⟨u, by simp [hu]⟩
    · exact ⟨v, by simp⟩
  · rcases hR with hR | rfl
    · exact .inl (I.closed j p hj hR q hq)
    · rw [ho] at hj; cases hj; exact .inl (hr q hq)
  · exact rt'.put honce hs.ext ho (fun u hu => uq' i u v hu (by simp)) hRi hd hsz (fun j hj => let ⟨u, hu⟩ := I.sub j hj; ⟨u, by simp [hu]⟩)
  · have hR1 : ¬ R j := fun e => h2 (.inl e)
    rcases List.mem_cons.1 h1 with h1 | h1
    · cases h1; exact absurd (.inr rfl) h2
    · obtain ⟨p, vs, want, t1, t2, t3⟩ := I.told j u h1 hR1
      have t2' : ∀ E0 act0, Base cx a0 E0 act0 → ∀ E R act Cv', (∀ q ∈ (i, v) :: Cv, q ∈ Cv') → Nxt cx E0 act0 j E R act Cv' → Region.wanted p (yielded cx.ops.toArray act.tmps) = want ∧ denL E vs = some (p.op.operands.toList.map act.eval) :=
        fun E0 act0 b0 E R act Cv' hs n => t2 E0 act0 b0 E R act Cv' (fun q hq => hs q (by simp [hq])) n
      rcases t3 with t3 | ⟨e1, e2, e3⟩ | t3
      · exact ⟨p, vs, want, t1, t2', .inl t3⟩
      · rcases e2 with e2 | ⟨e2, _⟩
        · exact ⟨p, vs, want, t1, t2', .inr (.inl ⟨e1, .inl e2, e3⟩)⟩
        · rcases hag j u h1 hR1 with hg | ⟨p', vs', want', s1, s2, s3⟩
          · rw [hg p t1] at e2; cases e2
          · refine ⟨p', vs', want', s1, s2, ?_⟩
            rcases s3 with ⟨s3, s4⟩ | ⟨s3, s4⟩
            · exact .inl ⟨s3, s4, e3⟩
            · exact .inr (.inl ⟨s3, s4, e3⟩)
      · exact ⟨p, vs, want, t1, t2', .inr (.inr t3)⟩
  · rcases List.mem_cons.1 h1 with h1 | h1
    · cases h1; rw [hobs] at hf; cases hf
    · exact I.unk j u h1 (fun e => h2 (.inl e)) n ob hf
  · obtain ⟨b1, b2, b3, b4, b5⟩ := I.un j hj n ob hf
    refine ⟨b1, Nat.lt_of_lt_of_le b2 hs.mono, b3, fun hR => ?_, fun hR => ?_⟩
    · cases he : E' n with
      | none => rfl
      | some l =>
        have := back b2 he
        rw [b4 (fun e => hR (.inl e))] at this; cases this
    · have hR : R j := hR.resolve_right (hUi j hj)
      obtain ⟨l, q1, q2, q3, q4⟩ := b5 hR
      have hlt := q2.lt b1
      refine ⟨l, hs.ext _ _ q1, q2.ext hs.ext (hs.frame l.bl hlt fun k m hl hm => q4 k m hl hm), q3, fun k m hl hm => ?_⟩
      rcases hs.img k m hl hm with ⟨k0, l0, c1, c2, c3⟩ | c
      · rw [← c3]; exact q4 k0 l0 c1 c2
      · omega
  · have b1 := I.un j hj n o1 f1
    have b2 := I.un k hk n' o2 f2
    have hu := I.unn j hj k hk n o1 n' o2 f1 f2 hne
    exact ⟨hu.1, fun l l' g1 g2 => hu.2 l l' (back b1.2.1 g1) (back b2.2.1 g2)⟩
end
end Go.Ev

/-
  The evaluator of closed calls: a part.
-/
set_option linter.unusedVariables false
set_option linter.unusedSimpArgs false
namespace Go.Ev
theorem filter_lt : ∀ (l : List Nat) (p q : Nat → Bool), (∀ x, q x = true → p x = true) → (∃ x ∈ l, p x = true ∧ q x = false) → (l.filter q).length < (l.filter p).length
  | [], p, q, _, h => by obtain ⟨x, hx, _⟩ := h; cases hx
  | y :: l, p, q, hqp, h => by
    have le : ∀ (l : List Nat), (l.filter q).length ≤ (l.filter p).length := fun l => by
      induction l with
      | nil => simp
      | cons z l ih =>
        simp only [List.filter_cons]
        cases hq : q z
        · cases p z <;> simp <;> omega
        · rw [hqp z hq]; simp; omega
    simp only [List.filter_cons]
    cases hp : p y
    · have hqy : q y = false := by cases hq : q y; · rfl
                                   · rw [hqp y hq] at hp; cases hp
      rw [hqy]
      obtain ⟨x, hx, h1, h2⟩ := h
      rcases List.mem_cons.1 hx with rfl | hx
      · rw [h1] at hp; cases hp
      · simpa using filter_lt l p q hqp ⟨x, hx, h1, h2⟩
    · cases hq : q y
      · have := le l; simp; omega
      · obtain ⟨x, hx, h1, h2⟩ := h
        rcases List.mem_cons.1 hx with rfl | hx
        · rw [h2] at hq; cases hq
        · have := filter_lt l p q hqp ⟨x, hx, h1, h2⟩
          simp; omega
/-- how many are not listed -/
def cnt (n : Nat) (listed : Array Bool) : Nat := ((List.range n).filter fun i => !listed.getD i true).length
def Lst (listed : Array Bool) (i : Nat) : Prop := listed.getD i false = true
theorem getD_tf {listed : Array Bool} {i : Nat} (h : i < listed.size) : listed.getD i true = listed.getD i false := by simp [h]
theorem lst_set {listed : Array Bool} {j : Nat} (h : j < listed.size) : Lst (listed.setIfInBounds j true) = fun k => Lst listed k ∨ k = j := by
  funext k
  apply propext
  unfold Lst
  by_cases e : k = j
  · subst e; simp [h]
  · simp only [e, or_false]
    rw [getD_set_ne false (Ne.symm e)]
theorem cnt_set {n : Nat} {listed : Array Bool} {j : Nat} (hj : j < n) (h : j < listed.size) (hf : listed.getD j true = false) : cnt n (listed.setIfInBounds j true) < cnt n listed := by
  unfold cnt
  refine filter_lt _ _ _ (fun x hx => ?_) ⟨j, List.mem_range.2 hj, by rw [hf]; rfl, by simp [h]⟩
  by_cases e : x = j
  · subst e; simp [h] at hx
  · rw [getD_set_ne true (Ne.symm e)] at hx; exact hx
theorem mem_edges {o : Oper} {q : Nat} : q ∈ edges o ↔ ∃ e ∈ o.after, Region.binds .any e = true ∧ e.on = q := by
  unfold edges
  simp only [List.mem_map, List.mem_filter, Array.mem_toList_iff]
  constructor
  · rintro ⟨e, ⟨h1, h2⟩, h3⟩; exact ⟨e, h1, h2, h3⟩
  · rintro ⟨e, h1, h2, h3⟩; exact ⟨e, ⟨h1, h2⟩, h3⟩
section
variable {cx : Cx} {call : Call} {E0 : Nm} {h0 : H} {w0 : World} {a0 : A} {act0 : Act}
theorem ready_parts {listed : Array Bool} {j : Nat} (hs : listed.size = cx.ops.length) (h : j ∈ Region.ready .any cx.ops.toArray listed) :
    j < cx.ops.length ∧ listed.getD j true = false ∧ ¬ Lst listed j ∧ ∀ o, cx.ops[j]? = some o → ∀ q ∈ edges o, Lst listed q := by
  obtain ⟨h1, o, h2, h3⟩ := mem_ready.1 h
  have h2' : cx.ops[j]? = some o := by simpa using h2
  have hlt := (List.getElem?_eq_some_iff.1 h2').1
  refine ⟨hlt, h1, fun e => ?_, fun o' ho' q hq => ?_⟩
  · unfold Lst at e
    rw [getD_tf (by omega), e] at h1; cases h1
  · rw [h2'] at ho'; cases ho'
    obtain ⟨e, e1, e2, rfl⟩ := mem_edges.1 hq
    exact h3 e e1 e2
theorem ready_some (hback : backOk 0 cx.ops = true) {listed : Array Bool} (hs : listed.size = cx.ops.length) : ∀ (i : Nat), i < cx.ops.length → ¬ Lst listed i → ∃ j, j ∈ Region.ready .any cx.ops.toArray listed := by
  intro i
  induction i using Nat.strongRecOn with
  | _ i ih =>
    intro hi hn
    have ho : cx.ops[i]? = some cx.ops[i] := List.getElem?_eq_getElem hi
    by_cases hall : ∀ q ∈ edges cx.ops[i], Lst listed q
    · refine ⟨i, mem_ready.2 ⟨?_, cx.ops[i], by first | simp | exact ho, fun e he hb => hall e.on (mem_edges.2 ⟨e, he, hb, rfl⟩)⟩⟩
      rw [getD_tf (by omega)]
      cases hb : listed.getD i false
      · rfl
      · exact absurd hb hn
    · have : ∃ q, q ∈ edges cx.ops[i] ∧ ¬ Lst listed q := Classical.byContradiction fun h => hall fun q hq => Classical.byContradiction fun h2 => h ⟨q, hq, h2⟩
      obtain ⟨q, h1, h2⟩ := this
      have hlt := backOk_get hback ho q h1
      exact ih q (by omega) (by omega) h2
theorem ready_all (hback : backOk 0 cx.ops = true) {listed : Array Bool} (hs : listed.size = cx.ops.length) (h : Region.ready .any cx.ops.toArray listed = []) : ∀ i, i < cx.ops.length → Lst listed i := fun i hi =>
  Classical.byContradiction fun hn => by
    obtain ⟨j, hj⟩ := ready_some hback hs i hi hn
    rw [h] at hj; cases hj
theorem cnt_zero {listed : Array Bool} (hs : listed.size = cx.ops.length) (h : cnt cx.ops.length listed ≤ 0) : ∀ i, i < cx.ops.length → Lst listed i := fun i hi => by
  unfold cnt at h
  have h0 : (List.range cx.ops.length).filter (fun i => !listed.getD i true) = [] := List.eq_nil_of_length_eq_zero (by omega)
  have := List.filter_eq_nil_iff.1 h0 i (List.mem_range.2 hi)
  unfold Lst
  rw [← getD_tf (by omega)]
  simpa using this
theorem ready_none {listed : Array Bool} (hs : listed.size = cx.ops.length) (h : ∀ i, i < cx.ops.length → Lst listed i) : Region.ready .any cx.ops.toArray listed = [] := by
  cases hr : Region.ready .any cx.ops.toArray listed with
  | nil => rfl
  | cons j l =>
    have hj : j ∈ Region.ready .any cx.ops.toArray listed := by rw [hr]; simp
    obtain ⟨h1, _, h2, _⟩ := ready_parts hs hj
    exact absurd (h j h1) h2
theorem dst_lt (b0 : Base cx a0 E0 act0) {Cv : List (Nat × V)} {env : Env} {a : A} (c : Can cx a0 Cv env a) : ∀ i o t, (∃ v, (i, v) ∈ Cv) → cx.ops[i]? = some o → o.dst = some t → t < act0.tmps.size := fun i o t ⟨v, hv⟩ ho ht =>
  Nat.lt_of_lt_of_le (c.dlt i v t hv (by simp [dstOf, ho, ht])) b0.rel.size
/-- what is told is done, one after the other -/
theorem drain (b0 : Base cx a0 E0 act0) (honce : onceOk cx.ops = true) (hback : backOk 0 cx.ops = true) {Cv : List (Nat × V)} {env : Env} {a : A} (c : Can cx a0 Cv env a) {U : Nat → Prop} {obs : List (Nat × Ob)} {h : H}
    (hall : ∀ i, i < cx.ops.length → ∃ v, (i, v) ∈ Cv) {Q : Exit → Act → World → Prop} (hQ : ∀ E act w R, Inv cx a0 E0 h0 w0 act0 Cv U obs h E act w R → (∀ i, i < cx.ops.length → R i) → Q .normal act w) :
    ∀ fuel listed E act w, Inv cx a0 E0 h0 w0 act0 Cv U obs h E act w (Lst listed) → listed.size = cx.ops.length → cnt cx.ops.length listed ≤ fuel → wpAny cx.P .any cx.ops.toArray Q fuel listed act w
  | 0, listed, E, act, w, I, hs, hc => ⟨ready_none hs (cnt_zero hs hc), hQ E act w _ I (cnt_zero hs hc)⟩
  | fuel + 1, listed, E, act, w, I, hs, hc => ⟨fun hr => hQ E act w _ I (ready_all hback hs hr), fun j hj => by
      obtain ⟨h1, h2, h3, h4⟩ := ready_parts hs hj
      obtain ⟨v, hv⟩ := hall j h1
      refine real_told b0 honce I (dst_lt b0 c) hv h3 h4 fun E' act' w' I' => ?_
      rw [← lst_set (by omega)] at I'
      exact drain b0 honce hback c hall hQ fuel _ E' act' w' I' (by simpa using hs) (by have := cnt_set h1 (by omega) h2; omega)⟩
theorem can_rel (b0 : Base cx a0 E0 act0) {Cv : List (Nat × V)} {env : Env} {a : A} (c : Can cx a0 Cv env a) {U : Nat → Prop} {obs : List (Nat × Ob)} {h : H} {E : Nm} {act : Act} {w : World} {R : Nat → Prop} (I : Inv cx a0 E0 h0 w0 act0 Cv U obs h E act w R)
    (hR : ∀ i, i < cx.ops.length → R i) : Rel E cx.ks cx.nt a act := by
  have lt : ∀ i t, dstOf cx.ops i = some t → i < cx.ops.length := fun i t h => by
    simp only [dstOf] at h
    cases ho : cx.ops[i]? with
    | none => rw [ho] at h; cases h
    | some o => exact (List.getElem?_eq_some_iff.1 ho).1
  refine ⟨by rw [I.rt.sz]; exact b0.rel.size, fun t s hs => ?_, by rw [c.dfr, I.rt.df]; exact b0.rel.dfr.ext I.step.ext⟩
  by_cases he : ∃ i v, (i, v) ∈ Cv ∧ dstOf cx.ops i = some t
  · obtain ⟨i, v, h1, h2⟩ := he
    rw [c.tab2 i v t s h1 h2 hs]
    exact I.rt.t1 i v t h1 (hR i (lt i t h2)) h2
  · have hno : ∀ i v, (i, v) ∈ Cv → dstOf cx.ops i ≠ some t := fun i v h1 h2 => he ⟨i, v, h1, h2⟩
    rw [c.tab1 t s hs hno, I.rt.t0 t (fun i hi hd => by obtain ⟨v, hv⟩ := I.sub i hi; exact hno i v hv hd)]
    exact den_ext I.step.ext _ _ (b0.rel.val t s hs)
/-- all that comes behind a changing operation stands behind it -/
theorem chk_behind : ∀ {its : List Dr} {C : List Nat} {e : Nat} {Ul : List Nat}, chk cx.P cx.ops (befs cx.ops []) C (some e) Ul its = true → ∀ j, j < cx.ops.length → j ∉ C → ∀ R : Nat → Prop, Closed cx.ops R → (∀ q ∈ bOf (befs cx.ops []) j, R q) → R e
  | [], C, e, Ul, h, j, hj, hn, R, hR, hb => by
    simp only [chk, Bool.and_eq_true] at h
    exact absurd (has_mem.1 (List.all_eq_true.1 h.2 j (List.mem_range.2 hj))) hn
  | .F ls :: its, C, e, Ul, h, j, hj, hn, R, hR, hb => by
    simp only [chk, Bool.and_eq_true] at h
    exact absurd (has_mem.1 (List.all_eq_true.1 h.1.1.1.2 j (List.mem_range.2 hj))) hn
  | .N i :: its, C, e, Ul, h, j, hj, hn, R, hR, hb => by
    simp only [chk, Bool.and_eq_true] at h
    obtain ⟨o, ho, _, _, hl, _, _⟩ := chkOp_parts h.1
    by_cases e' : j = i
    · subst e'; exact hb e (hl e rfl)
    · exact chk_behind h.2 j hj (by simp [e', hn]) R hR hb
  | .B i :: its, C, e, Ul, h, j, hj, hn, R, hR, hb => by
    simp only [chk, Bool.and_eq_true] at h
    obtain ⟨o, ho, _, _, hl, _, _⟩ := chkOp_parts h.1
    by_cases e' : j = i
    · subst e'; exact hb e (hl e rfl)
    · exact chk_behind h.2 j hj (by simp [e', hn]) R hR hb
  | .E i ls ks :: its, C, e, Ul, h, j, hj, hn, R, hR, hb => by
    simp only [chk, Bool.and_eq_true] at h
    obtain ⟨o, ho, _, _, hl, _, _⟩ := chkOp_parts h.1.1.1.1.1
    by_cases e' : j = i
    · subst e'; exact hb e (hl e rfl)
    · have hRi := chk_behind h.2 j hj (by simp [e', hn]) R hR hb
      exact bef_closed hR ho hRi e (hl e rfl)
theorem flat_its (its : List Dr) (env : Env) (obs : List (Nat × Ob)) (a : A) (h : H) (kn : KA) : True := trivial
theorem draw_main (hcall : CallOk cx.P call) (honce : onceOk cx.ops = true) (hback : backOk 0 cx.ops = true) : ∀ (its : List Dr) (C Ul : List Nat) (last : Option Nat) (Cv : List (Nat × V)) (env : Env) (obs : List (Nat × Ob)) (a : A) (h : H) (kn : KA),
    chk cx.P cx.ops (befs cx.ops []) C last Ul its = true → (∀ j ∈ C, j < cx.ops.length) → (∀ j, j ∈ C ↔ ∃ v, (j, v) ∈ Cv) → Can cx a0 Cv env a → (∀ i ∈ Ul, i ∈ C) → (∀ i, find i obs ≠ none → i ∈ C) → (∀ i ∈ C, ∀ j ∈ bOf (befs cx.ops []) i, j ∈ C) →
    evIts cx call (flat its) env obs a h kn = true →
    ∃ a' h', kn a' h' = true ∧ ∀ E0 h0 w0 act0, Base cx a0 E0 act0 → ∀ fuel listed E act w (Q : Exit → Act → World → Prop), Inv cx a0 E0 h0 w0 act0 Cv (· ∈ Ul) obs h E act w (Lst listed) → listed.size = cx.ops.length → cnt cx.ops.length listed ≤ fuel →
      (∀ E' act' w', Step cx.P E0 h0 w0 E' h' w' → Rel E' cx.ks cx.nt a' act' → Q .normal act' w') → wpAny cx.P .any cx.ops.toArray Q fuel listed act w
  | [], C, Ul, last, Cv, env, obs, a, h, kn, hchk, hlt, hC, c, hU, hob, hBC, hk => by
    simp only [chk, Bool.and_eq_true] at hchk
    refine ⟨a, h, hk, fun E0 h0 w0 act0 b0 fuel listed E act w Q I hs hc hQ => drain b0 honce hback c (fun i hi => (hC i).1 (has_mem.1 (List.all_eq_true.1 hchk.2 i (List.mem_range.2 hi)))) (fun E act w R I hR => hQ E act w I.step (can_rel b0 c I hR)) fuel listed E act w I hs hc⟩
  | .F ls :: its, C, Ul, last, Cv, env, obs, a, h, kn, hchk, hlt, hC, c, hU, hob, hBC, hk => by
    simp only [chk, Bool.and_eq_true] at hchk
    obtain ⟨⟨⟨⟨hl, hall⟩, hnd⟩, hlU⟩, hUl⟩ := hchk
    cases its with
    | cons _ _ => cases hl
    | nil =>
      obtain ⟨h1, _, k1, hr⟩ := lays_sound (a0 := a0) hnd (show evIts cx call (ls.map .L ++ []) env obs a h kn = true from hk)
      refine ⟨a, h1, k1, fun E0 h0 w0 act0 b0 fuel listed E act w Q I hs hc hQ => drain b0 honce hback c (fun i hi => (hC i).1 (has_mem.1 (List.all_eq_true.1 hall i (List.mem_range.2 hi)))) (fun E act w R I hR => ?_) fuel listed E act w I hs hc⟩
      have I2 := hr E0 h0 w0 act0 Cv _ E act w R I fun j hj => ⟨has_mem.1 (List.all_eq_true.1 hlU j hj), hR j (hlt j (hU j (has_mem.1 (List.all_eq_true.1 hlU j hj))))⟩
      exact hQ E act w I2.step (can_rel b0 c I2 hR)
  | .N i :: its, C, Ul, last, Cv, env, obs, a, h, kn, hchk, hlt, hC, c, hU, hob, hBC, hk => by
    simp only [chk, Bool.and_eq_true] at hchk
    obtain ⟨o0, ho0, hi, hB, _⟩ := chkOp_parts hchk.1
    have hfi : find i obs = none := Classical.byContradiction fun e => hi (hob i e)
    obtain ⟨o, v, a', ho, k1, c', ht⟩ := tell_N (call := call) c honce hC hchk.1 hfi hk
    have hC' : ∀ j, j ∈ i :: C ↔ ∃ u, (j, u) ∈ (i, v) :: Cv := fun j => by
      simp only [List.mem_cons, Prod.mk.injEq, hC j]
      constructor
      · rintro (rfl | ⟨u, hu⟩)
        · exact ⟨v, .inl ⟨rfl, rfl⟩⟩
        · exact ⟨u, .inr hu⟩
      · rintro ⟨u, ⟨rfl, rfl⟩ | hu⟩
        · exact .inl rfl
        · exact .inr ⟨u, hu⟩
    obtain ⟨a2, h2, k2, hr⟩ := draw_main hcall honce hback its (i :: C) Ul last _ _ obs a' h kn hchk.2 (fun j hj => by rcases List.mem_cons.1 hj with rfl | hj; exact (List.getElem?_eq_some_iff.1 ho0).1; exact hlt j hj) hC' c' (fun j hj => by simp [hU j hj]) (fun j hj => by simp [hob j hj]) (fun j hj q hq => by
      rcases List.mem_cons.1 hj with rfl | hj
      · simp [hB q hq]
      · simp [hBC j hj q hq]) k1
    exact ⟨a2, h2, k2, fun E0 h0 w0 act0 b0 fuel listed E act w Q I hs hc hQ => hr E0 h0 w0 act0 b0 fuel listed E act w Q (inv_N I (fun u hu => hi ((hC i).2 ⟨u, hu⟩)) ht hfi) hs hc hQ⟩
  | .B i :: its, C, Ul, last, Cv, env, obs, a, h, kn, hchk, hlt, hC, c, hU, hob, hBC, hk => by
    simp only [chk, Bool.and_eq_true] at hchk
    obtain ⟨o0, ho0, hi, hB, _⟩ := chkOp_parts hchk.1
    obtain ⟨o, v, a', ob, h', ho, k1, c', ht, hobh⟩ := tell_B (call := call) c honce hC hchk.1 hk
    have hC' : ∀ j, j ∈ i :: C ↔ ∃ u, (j, u) ∈ (i, v) :: Cv := fun j => by
      simp only [List.mem_cons, Prod.mk.injEq, hC j]
      constructor
      · rintro (rfl | ⟨u, hu⟩)
        · exact ⟨v, .inl ⟨rfl, rfl⟩⟩
        · exact ⟨u, .inr hu⟩
      · rintro ⟨u, ⟨rfl, rfl⟩ | hu⟩
        · exact .inl rfl
        · exact .inr ⟨u, hu⟩
    obtain ⟨a2, h2, k2, hr⟩ := draw_main hcall honce hback its (i :: C) (i :: Ul) last _ _ _ a' h' kn hchk.2 (fun j hj => by rcases List.mem_cons.1 hj with rfl | hj; exact (List.getElem?_eq_some_iff.1 ho0).1; exact hlt j hj) hC' c' (fun j hj => by
      rcases List.mem_cons.1 hj with rfl | hj
      · simp
      · simp [hU j hj]) (fun j hj => by
      by_cases e : j = i
      · simp [e]
      · have : Nat.beq j i = false := by
          cases hb : Nat.beq j i
          · rfl
          · exact absurd (Nat.eq_of_beq_eq_true hb) e
        simp only [find, this] at hj
        simp [hob j hj]) (fun j hj q hq => by
      rcases List.mem_cons.1 hj with rfl | hj
      · simp [hB q hq]
      · simp [hBC j hj q hq]) k1
    refine ⟨a2, h2, k2, fun E0 h0 w0 act0 b0 fuel listed E act w Q I hs hc hQ => hr E0 h0 w0 act0 b0 fuel listed E act w Q ((inv_B I (fun u hu => hi ((hC i).2 ⟨u, hu⟩)) (fun hm => hi (hU i hm)) ht hobh).congrU fun k => ?_) hs hc hQ⟩
    simp only [List.mem_cons]
    exact ⟨fun h => h.symm, fun h => h.symm⟩
  | .E i ls ks :: its, C, Ul, last, Cv, env, obs, a, h, kn, hchk, hlt, hC, c, hU, hob, hBC, hk => by
    simp only [chk, Bool.and_eq_true] at hchk
    obtain ⟨⟨⟨⟨⟨hop, hnd⟩, hls⟩, hhp⟩, hks⟩, hrest⟩ := hchk
    obtain ⟨o0, ho0, hi, hB, _⟩ := chkOp_parts hop
    have hfi : find i obs = none := Classical.byContradiction fun e => hi (hob i e)
    have hiv : ∀ u, (i, u) ∉ Cv := fun u hu => hi ((hC i).2 ⟨u, hu⟩)
    obtain ⟨h1, _, k1, hlay⟩ := lays_sound (a0 := a0) hnd hk
    obtain ⟨o, v, a', h2, ho, k2, c', hwp⟩ := eff_it hcall c honce hC hop (show evIt cx call (.X i) (evIts cx call (ks.map .K ++ flat its)) env obs a h1 kn = true from k1)
    have hC' : ∀ j, j ∈ i :: C ↔ ∃ u, (j, u) ∈ (i, v) :: Cv := fun j => by
      simp only [List.mem_cons, Prod.mk.injEq, hC j]
      constructor
      · rintro (rfl | ⟨u, hu⟩)
        · exact ⟨v, .inl ⟨rfl, rfl⟩⟩
        · exact ⟨u, .inr hu⟩
      · rintro ⟨u, ⟨rfl, rfl⟩ | hu⟩
        · exact .inl rfl
        · exact .inr ⟨u, hu⟩
    have hBC' : ∀ j ∈ i :: C, ∀ q ∈ bOf (befs cx.ops []) j, q ∈ i :: C := fun j hj q hq => by
      rcases List.mem_cons.1 hj with rfl | hj
      · simp [hB q hq]
      · simp [hBC j hj q hq]
    obtain ⟨k3, hag⟩ := again_all c' honce hC' hBC' (ks := ks) (fun k hkm => by
      have := List.all_eq_true.1 hks k hkm
      simp only [Bool.and_eq_true] at this
      obtain ⟨t1, t2⟩ := this
      refine ⟨by simp [has_mem.1 t1], ?_⟩
      cases hok : cx.ops[k]? with
      | none => rw [hok] at t2; cases t2
      | some p =>
        rw [hok] at t2
        simp only [Bool.and_eq_true] at t2
        exact ⟨p, rfl, t2.1, t2.2⟩) k2
    obtain ⟨a3, h3, k4, hr⟩ := draw_main hcall honce hback its (i :: C) (Ul.filter fun j => !has ls j) (some i) _ _ obs a' h2 kn hrest (fun j hj => by rcases List.mem_cons.1 hj with rfl | hj; exact (List.getElem?_eq_some_iff.1 ho0).1; exact hlt j hj) hC' c' (fun j hj => by simp [hU j (List.mem_filter.1 hj).1]) (fun j hj => by simp [hob j hj]) hBC' k3
    refine ⟨a3, h3, k4, ?_⟩
    have main : ∀ E0 h0 w0 act0, Base cx a0 E0 act0 → ∀ fuel listed E act w (Q : Exit → Act → World → Prop), Inv cx a0 E0 h0 w0 act0 Cv (· ∈ Ul) obs h E act w (Lst listed) → listed.size = cx.ops.length → cnt cx.ops.length listed ≤ fuel →
        (∀ E' act' w', Step cx.P E0 h0 w0 E' h3 w' → Rel E' cx.ks cx.nt a3 act' → Q .normal act' w') → wpAny cx.P .any cx.ops.toArray Q fuel listed act w := by
      intro E0 h0 w0 act0 b0 fuel
      have hilt : i < cx.ops.length := (List.getElem?_eq_some_iff.1 ho).1
      have hni : ∀ {listed E act w}, Inv cx a0 E0 h0 w0 act0 Cv (· ∈ Ul) obs h E act w (Lst listed) → ¬ Lst listed i := fun I hl => let ⟨u, hu⟩ := I.sub i hl; hiv u hu
      induction fuel with
      | zero => intro listed E act w Q I hs hc hQ; exact absurd (cnt_zero hs hc i hilt) (hni I)
      | succ fuel ih =>
        intro listed E act w Q I hs hc hQ
        refine ⟨fun hrd => absurd (ready_all hback hs hrd i hilt) (hni I), fun j hj => ?_⟩
        obtain ⟨j1, j2, j3, j4⟩ := ready_parts hs hj
        have hcn := cnt_set j1 (by omega) j2
        by_cases hjC : j ∈ C
        · obtain ⟨u, hu⟩ := (hC j).1 hjC
          refine real_told b0 honce I (dst_lt b0 c) hu j3 j4 fun E' act' w' I' => ?_
          rw [← lst_set (by omega)] at I'
          exact ih _ E' act' w' Q I' (by simpa using hs) (by omega) hQ
        · by_cases hji : j = i
          · subst hji
            have hbef : ∀ q ∈ bOf (befs cx.ops []) j, Lst listed q := bef_ready I.closed ho (j4 o ho)
            have I1 := hlay E0 h0 w0 act0 Cv _ E act w _ I fun q hq => by
              have := List.all_eq_true.1 hls q hq
              simp only [Bool.and_eq_true] at this
              exact ⟨has_mem.1 this.1, hbef q (has_mem.1 this.2)⟩
            have I1 := I1.congrU (U' := (· ∈ Ul.filter fun q => !has ls q)) fun q => by
              simp only [List.mem_filter, Bool.not_eq_true']
              constructor
              · rintro ⟨x, y⟩
                refine ⟨x, ?_⟩
                cases hb : has ls q
                · rfl
                · exact absurd (has_mem.1 hb) y
              · rintro ⟨x, y⟩
                exact ⟨x, fun hm => by rw [has_mem.2 hm] at y; cases y⟩
            refine hwp E0 act0 b0 E act w (Lst listed) ⟨I1.step.ext, I1.rt, I1.closed, hbef, j3⟩ I1.step.good _ Q fun E' w' x s d => ?_
            have I2 := inv_E I1 honce hiv (fun q hq => (hC q).1 (hU q (List.mem_filter.1 hq).1)) ho (j4 o ho) hfi s d (fun t ht => dst_lt b0 c' j o t ⟨v, by simp⟩ ho ht) (fun q u hq hn => by
              have := List.all_eq_true.1 hhp q ((hC q).2 ⟨u, hq⟩)
              simp only [Bool.or_eq_true] at this
              rcases this with (h | h) | h
              · refine .inl fun p hp => ?_
                rw [hp] at h
                simpa using h
              · exact absurd (hbef q (has_mem.1 h)) hn
              · exact .inr (hag q (has_mem.1 h) u (by simp [hq])))
            rw [← lst_set (by omega)] at I2
            exact hr E0 h0 w0 act0 b0 fuel _ E' _ w' Q I2 (by simpa using hs) (by omega) hQ
          · exact absurd (chk_behind hrest j j1 (by simp [hji, hjC]) (Lst listed) I.closed (bef_ready I.closed (List.getElem?_eq_getElem j1) (j4 _ (List.getElem?_eq_getElem j1)))) (hni I)
    exact main
end
end Go.Ev

/-
  The evaluator of closed calls: a part.
-/
set_option linter.unusedVariables false
set_option linter.unusedSimpArgs false
namespace Go.Ev
theorem lst_rep (n i : Nat) : ¬ Lst (Array.replicate n false) i := by
  unfold Lst
  simp only [Array.getD_eq_getD_getElem?, Array.getElem?_replicate]
  split <;> simp
theorem cnt_le (n : Nat) (listed : Array Bool) : cnt n listed ≤ n := by
  unfold cnt
  exact Nat.le_trans (List.length_filter_le _ _) (by simp)
theorem draw_ok {fx : Fx} {call : Call} (hcall : CallOk fx.P call) : DrawOk fx call := by
  intro id ops a h kn kr ke hk
  unfold evReg at hk
  cases hf : find id fx.sch with
  | none => rw [hf] at hk; cases hk
  | some its =>
    rw [hf] at hk
    cases ho : okOrder fx.P ops.toList its with
    | false => simp only [ho] at hk; cases hk
    | true =>
      simp only [ho] at hk
      have ho' := ho
      simp only [okOrder, Bool.and_eq_true] at ho'
      obtain ⟨⟨⟨honce, hback⟩, hm⟩, hchk⟩ := ho'
      obtain ⟨a', h', k1, hr⟩ := draw_main (cx := { P := fx.P, ks := fx.ks, nt := fx.nt, ops := ops.toList }) (call := call) (a0 := a) hcall honce hback its [] [] none [] [] [] a h kn hchk
        (fun j hj => absurd hj (by simp)) (fun j => by simp) ⟨fun t v hv => by simp [find] at hv, fun i v t hi => absurd hi (by simp), fun t s _ _ => rfl, fun i v t s hi => absurd hi (by simp), rfl, fun i v t hi => absurd hi (by simp)⟩
        (fun i hi => absurd hi (by simp)) (fun i hi => absurd rfl hi) (fun i hi => absurd hi (by simp)) hk
      refine ⟨a', h', k1, fun E act w g r => wp_region_any hm ?_⟩
      have g' : Good fx.P E h { w with drawn := w.drawn + 1 } := g.congr rfl
      have := hr E h { w with drawn := w.drawn + 1 } act ⟨g.glob, r⟩ ops.size (Array.replicate ops.size false) E act { w with drawn := w.drawn + 1 } (PostC fx.P fx.ks fx.nt E h w .normal a' h')
        ⟨Step.refl g', fun i hi => absurd hi (lst_rep _ i), fun j p _ hR => absurd hR (lst_rep _ j), ⟨fun i v t hi => absurd hi (by simp), fun _ _ => rfl, rfl, rfl⟩, fun i v hi => absurd hi (by simp), fun i u v hi => absurd hi (by simp),
          fun i v hi => absurd hi (by simp), fun i hi => absurd hi (by simp), fun i hi => absurd hi (by simp)⟩
        (by simp) (cnt_le _ _) (fun E' act' w' s r' => ⟨rfl, E', ⟨s.ext, s.good, s.mono, s.dom, s.img, s.frame, s.size, s.os, s.tape, s.output⟩, r'⟩)
      simpa using this
theorem evF_ok {P : Program} {tab : T F} (ht : TabOk P tab) (n : Nat) : CallOk P (evF tab n) :=
  evF_sound ht (fun call hcall fx hfx => by subst hfx; exact draw_ok hcall) n
end Go.Ev

/-
  The evaluator of closed calls: a part.
-/
set_option linter.unusedVariables false
set_option linter.unusedSimpArgs false
namespace Go.Ev
open Go.RowKit
/-- a function's entry in the table, by its code -/
noncomputable def fact (P : Program) (i np : Nat) (ks : List Nat) (sch : List (Nat × List Dr)) : Option F :=
  (P.funcs[i]?).bind fun fn => match fn.body.isSome, fn.name == "runtime.NumGoroutine" with | true, false => evFn P fn np ks sch | _, _ => none
section
variable {P : Program} {s : Nat → Nat} {tab : T F}
def Ent (P : Program) (n : Nat) (F : F) : Prop := Callable P n ∧ EntryOk P n F
theorem evFn_mk {fn : Func} {np : Nat} {ks : List Nat} {sch : List (Nat × List Dr)} {g : F} (h : evFn P fn np ks sch = some g) : ∃ n r b, g = .mk n r b := by
  cases g with
  | mk n r b => exact ⟨n, r, b, rfl⟩
  | known f =>
    unfold evFn at h
    split at h
    · cases hb : fn.body with
      | none => rw [hb] at h; cases h
      | some c =>
        rw [hb] at h
        cases hr : evRess P ks fn.results.toList with
        | none => rw [hr] at h; cases h
        | some r => rw [hr] at h; cases h
    · cases h
theorem ent_of_fact {i np : Nat} {ks : List Nat} {sch : List (Nat × List Dr)} {g : F} (h : fact P i np ks sch = some g) : Ent P i g := by
  unfold fact at h
  cases hf : P.funcs[i]? with
  | none => rw [hf] at h; cases h
  | some fn =>
    rw [hf] at h
    simp only [Option.bind_some] at h
    split at h
    · rename_i h1 h2
      obtain ⟨n, r, b, rfl⟩ := evFn_mk h
      exact ⟨⟨fn, hf, h1, h2⟩, fn, ks, sch, hf, by rw [(evFn_some h).1]; rw [(evFn_some h).1] at h; exact h⟩
    · cases h
/-- a part of the table: s tells the numbers of its functions -/
def OkT (P : Program) (s : Nat → Nat) (t : T F) : Prop := ∀ f F, T.get f t = some F → Ent P (s f.val) F
theorem okL : OkT P s .l := fun f F h => by rw [T.get_l] at h; cases h
theorem okN {v : Option F} {x y z w : T F} (hv : ∀ F, v = some F → Ent P (s 0) F) (hx : OkT P (fun m => s (4 * m + 1)) x) (hy : OkT P (fun m => s (4 * m + 2)) y)
    (hz : OkT P (fun m => s (4 * m + 3)) z) (hw : OkT P (fun m => s (4 * m + 4)) w) : OkT P s (.n v x y z w) := fun f F h => by
  cases f with
  | e => exact hv F h
  | a f => exact hx f F h
  | b f => exact hy f F h
  | c f => exact hz f F h
  | d f => exact hw f F h
theorem ent_none {i : Nat} : ∀ F, none = some F → Ent P i F := fun _ h => by cases h
theorem ent_some {i : Nat} {g : F} (h : Ent P i g) : ∀ F, some g = some F → Ent P i F := fun _ e => by cases e; exact h
theorem tabOk_of (h : OkT P (fun n => n) tab) : TabOk P tab := h
theorem tabOk_set (h : TabOk P tab) {f : N} {g : List V → H → KH → Bool} (hc : Callable P f.val) (hk : KnownOk P f.val g) : TabOk P (T.set f (.known g) tab) := fun i F hi => by
  by_cases e : f = i
  · subst e
    rw [T.get_set] at hi
    cases hi
    exact ⟨hc, hk⟩
  · rw [T.get_set_ne _ f i tab e] at hi
    exact h i F hi
/-- an empty heap, and letters for the globals alone -/
noncomputable def base (P : Program) (E : Nm) : Nm := fun k => if k.val < P.globals.size then E k else none
theorem base_some {E : Nm} {k : N} {l : Loc} (h : base P E k = some l) : k.val < P.globals.size ∧ E k = some l := by
  unfold base at h
  split at h
  · rename_i hk; exact ⟨hk, h⟩
  · cases h
theorem base_good {E : Nm} {h : H} {w : World} (g : Good P E h w) {n0 : N} (hn : P.globals.size ≤ n0.val) : Good P (base P E) (.mk .l n0) w where
  fresh := fun k l hk => Nat.lt_of_lt_of_le (base_some hk).1 hn
  stand := fun k o hk _ => by have hk : T.get k (.l : T O) = some o := hk; rw [T.get_l] at hk; cases hk
  inj := fun i j li lj h1 => by obtain ⟨o, hk, _⟩ := h1; have hk : T.get i (.l : T O) = some o := hk; rw [T.get_l] at hk; cases hk
  glob := fun q hq => by
    obtain ⟨l, h1, h2⟩ := g.glob q hq
    exact ⟨l, by unfold base; rw [toN_val, if_pos hq]; exact h1, h2⟩
/-- a call that began at an empty heap changed no block that was there -/
theorem step_base {E E' : Nm} {h h' : H} {w w' : World} {n0 : N} (g : Good P E h w) (s : Step P (base P E) (.mk .l n0) w E' h' w') : Step P E h w E h w' := by
  have fr : ∀ b, b < w.heap.size → w'.heap[b]? = w.heap[b]? := fun b hb => s.frame b hb (fun k l hk => by
    obtain ⟨o, hk, _⟩ := hk
    have hk : T.get k (.l : T O) = some o := hk
    rw [T.get_l] at hk; cases hk)
  exact ⟨Ext.refl E, ⟨g.fresh, fun k o h1 h2 => by
      obtain ⟨l, h3, h4⟩ := g.stand k o h1 h2
      exact ⟨l, h3, h4.ext (Ext.refl E) (fr _ (h4.lt h2))⟩, g.inj, g.glob⟩, Nat.le_refl _, fun _ _ h => .inl h, fun k l h1 h2 => .inl ⟨k, l, h1, h2, rfl⟩,
    fun b hb _ => fr b hb, s.size, s.os, s.tape, s.output⟩
def trueK : List V → H → KH → Bool := fun xs h k => match xs with | [] => k (.bool true) h | _ => false
/-- a function without arguments that answers true, once evaluated, is known -/
theorem known_of_run {n : Nat} {f n0 : N} (ht : TabOk P tab) (hn : P.globals.size ≤ n0.val) (hr : evF tab n f [] (.mk .l n0) (fun v _ => v.onBool true false) = true) :
    Callable P f.val ∧ KnownOk P f.val trueK := by
  obtain ⟨hc, v, h', hv, hrun⟩ := evF_ok ht n f [] _ _ hr
  refine ⟨hc, fun xs h k hk => ?_⟩
  cases xs with
  | cons _ _ => cases hk
  | nil =>
    refine ⟨.bool true, h, hk, fun E w xs' g hd => ?_⟩
    simp only [denL, Option.some.injEq] at hd
    subst hd
    rcases V.onBool_true hv with ⟨rfl, _⟩ | ⟨_, hf⟩
    · refine Calls.mono (hrun (base P E) w [] (base_good g hn) (by simp [denL])) fun e w' hb => ?_
      obtain ⟨x, E', rfl, st, d⟩ := hb
      rw [den_bool] at d
      cases d
      exact ⟨_, E, rfl, step_base g st, den_bool E true⟩
    · cases hf
/-- a world's letters: the globals', and one for a number -/
noncomputable def numE (P : Program) (x : N) (i : Int) : Nm := fun k => if k.val < P.globals.size then some ⟨k.val, 0, default, .bool false, 0⟩ else if k.val = x.val then some ⟨0, 0, default, .int .i64 i, 0⟩ else none
theorem numE_good {x n0 : N} {i : Int} (w : World) (hx : x.val < n0.val) (hn : P.globals.size ≤ n0.val) : Good P (numE P x i) (.mk .l n0) w where
  fresh := fun k l hk => by
    unfold numE at hk
    split at hk
    · exact Nat.lt_of_lt_of_le (by assumption) hn
    · split at hk
      · rename_i e; rw [e]; exact hx
      · cases hk
  stand := fun k o hk _ => by have hk : T.get k (.l : T O) = some o := hk; rw [T.get_l] at hk; cases hk
  inj := fun i j li lj h1 => by obtain ⟨o, hk, _⟩ := h1; have hk : T.get i (.l : T O) = some o := hk; rw [T.get_l] at hk; cases hk
  glob := fun q hq => ⟨⟨q, 0, default, .bool false, 0⟩, by unfold numE; rw [toN_val, if_pos hq], rfl, rfl⟩
theorem numE_den {x : N} {i : Int} (hx : P.globals.size ≤ x.val) (hr : x.val % 16 < 10) (hi : i % 10 = ((x.val % 16 : Nat) : Int)) (h1 : -9223372036854775808 ≤ i) (h2 : i ≤ 9223372036854775807) : den (numE P x i) (.opq x) = some (.int .i64 i) := by
  refine den_opq.2 ⟨⟨0, 0, default, .int .i64 i, 0⟩, ?_, rfl, rfl, ⟨fun _ => ⟨i, rfl, hi, h1, h2⟩, fun e => by omega, fun e => by omega⟩⟩
  unfold numE
  rw [if_neg (by omega), if_pos rfl]
theorem below_of_step {E E' : Nm} {n0 : N} {h' : H} {w w' : World} (s : Step P E (.mk .l n0) w E' h' w') : Below w.heap.size w w' :=
  ⟨s.os, s.tape, s.output, s.size, fun b hb => s.frame b hb (fun k l hk => by
    obtain ⟨o, hk, _⟩ := hk
    have hk : T.get k (.l : T O) = some o := hk
    rw [T.get_l] at hk; cases hk)⟩
/-- what is known of a number's rest by ten -/
def restK (r : Nat) : List V → H → KH → Bool := fun xs h k => match xs with
  | [.opq x, .int .i64 10] => match Nat.beq (x.val % 16) r, Nat.blt r 10 with | true, true => k (.int .i64 r) h | _, _ => false
  | _ => false
theorem rest_known {f r : Nat} (hf : ∀ (i : Int) (w : World), -9223372036854775808 ≤ i → i ≤ 9223372036854775807 → Calls P f #[.int .i64 i, .int .i64 10] w fun e w' => e = .returned (.int .i64 (i % 10)) ∧ w = w') :
    KnownOk P f (restK r) := fun xs h k hk => by
  unfold restK at hk
  split at hk
  · rename_i x
    split at hk
    · rename_i h1 h2
      have h1 := Nat.eq_of_beq_eq_true h1
      rw [Nat.blt_eq] at h2
      refine ⟨_, h, hk, fun E w xs' g hd => ?_⟩
      obtain ⟨a, b, d1, d2, rfl⟩ := denL_cons.1 hd
      obtain ⟨c, d, d3, d4, rfl⟩ := denL_cons.1 d2
      simp only [denL, Option.some.injEq] at d4
      subst d4
      obtain ⟨m, q1, q2, q3, q4⟩ := den_opq.1 d1
      obtain ⟨i, rfl, q5, q6, q7⟩ := q4.1 (by omega)
      obtain ⟨_, rfl⟩ := den_int d3
      refine Calls.mono (hf i w q6 q7) fun e w' he => ?_
      obtain ⟨rfl, rfl⟩ := he
      refine ⟨.int .i64 (i % 10), E, rfl, Step.refl g, ?_⟩
      have hr : r < full .i64 := by have : full .i64 = 18446744073709551616 := rfl; omega
      have hw : IntKind.i64.wrap (r : Int) = (r : Int) := wrap_pos (by unfold pos; exact ble_iff.2 (by have : full .i64 - half .i64 = 9223372036854775808 := rfl; show r + 1 ≤ full .i64 - half .i64; omega))
      rw [int_den hr, hw, q5, h1]
    · cases hk
  · cases hk
end
end Go.Ev

/-
  The table in which works() and facadetop.number are known.
-/
set_option linter.unusedVariables false
set_option linter.unusedSimpArgs false
namespace Go.Ev
def fWorks : N := ofN 12 10
def fNumber : N := ofN 12 14
def fEvents : N := ofN 12 5
/-- the letter of a number whose rest by ten is r -/
def xNum (r : Nat) : N := ofN 12 (32 + r)
def nStart : N := ofN 12 64
noncomputable def tabN (r : Nat) : T F := T.set fWorks (.known trueK) (T.set fNumber (.known (restK r)) etab)
end Go.Ev

