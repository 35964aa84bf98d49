/-
  Parts of one proof, one behind the other.
-/
import Derived.Test.YtbigilbbbmanjaaGreatDoorMg4307a6e8be
import Derived.Test.YtbigilbbbmanjaaGreatDoorMgc71b44a812
import Derived.Test.YtbigilbbbmanjaaGreatDoorMgc6e5acf8f4
import Derived.Test.YtbigilbbbmanjaaGreatDoorMgdb9429ebaf
import Derived.Test.YtbigilbbbmanjaaGreatDoorMg289f39a477
import Derived.Laws.Sem
import Derived.Laws.World
import Derived.Laws.Build
import Derived.Deep.MidRow
import Derived.Laws.StructEq
import Derived.Laws.MakeOwn
/-
  The evaluator of closed calls: a part.
-/
set_option linter.unusedVariables false
set_option linter.unusedSimpArgs false
namespace Go.Ev
noncomputable def rtab : T F := (.n none (.n none (.n none (.n (some r21) (.n (some r85) .l .l .l .l) (.n (some r149) .l .l .l .l) (.n (some r213) .l .l .l .l) .l) (.n (some r37) .l (.n (some r165) .l .l .l .l) .l .l) (.n none (.n (some r117) .l .l .l .l) (.n (some r181) .l .l .l .l) (.n (some r245) .l .l .l .l) .l) (.n none (.n (some r133) .l .l .l .l) (.n (some r197) .l .l .l .l) .l (.n (some r325) .l .l .l .l))) (.n none (.n none (.n (some r89) .l .l .l .l) (.n (some r153) .l .l .l .l) (.n (some r217) .l .l .l .l) .l) (.n (some r41) .l (.n (some r169) .l .l .l .l) .l .l) (.n none (.n (some r121) .l .l .l .l) (.n (some r185) .l .l .l .l) (.n (some r249) .l .l .l .l) .l) (.n none (.n (some r137) .l .l .l .l) (.n (some r201) .l .l .l .l) (.n (some r265) .l .l .l .l) (.n (some r329) .l .l .l .l))) (.n (some r13) (.n (some r29) (.n (some r93) .l .l .l .l) (.n (some r157) .l .l .l .l) (.n (some r221) .l .l .l .l) (.n (some r285) .l .l .l .l)) (.n (some r45) (.n (some r109) .l .l .l .l) (.n (some r173) .l .l .l .l) (.n (some r237) .l .l .l .l) (.n (some r301) .l .l .l .l)) (.n (some r61) (.n (some r125) .l .l .l .l) (.n (some r189) .l .l .l .l) (.n (some r253) .l .l .l .l) .l) (.n none .l (.n (some r205) .l .l .l .l) .l .l)) (.n (some r17) (.n (some r33) (.n (some r97) .l .l .l .l) .l (.n (some r225) .l .l .l .l) .l) (.n (some r49) .l (.n (some r177) .l .l .l .l) (.n (some r241) .l .l .l .l) .l) (.n (some r65) .l (.n (some r193) .l .l .l .l) (.n (some r257) .l .l .l .l) .l) (.n (some r81) (.n (some r145) .l .l .l .l) (.n (some r209) .l .l .l .l) (.n (some r273) .l .l .l .l) .l))) (.n none (.n none (.n none (.n (some r86) .l .l .l .l) (.n (some r150) .l .l .l .l) (.n (some r214) .l .l .l .l) .l) (.n (some r38) (.n (some r102) .l .l .l .l) .l (.n (some r230) .l .l .l .l) .l) (.n none (.n (some r118) .l .l .l .l) (.n (some r182) .l .l .l .l) (.n (some r246) .l .l .l .l) .l) (.n (some r70) (.n (some r134) .l .l .l .l) (.n (some r198) .l .l .l .l) (.n (some r262) .l .l .l .l) (.n (some r326) .l .l .l .l))) (.n (some r10) (.n none (.n (some r90) .l .l .l .l) .l (.n (some r218) .l .l .l .l) (.n (some r282) .l .l .l .l)) (.n none .l (.n (some r170) .l .l .l .l) .l (.n (some r298) .l .l .l .l)) (.n (some r58) (.n (some r122) .l .l .l .l) .l (.n (some r250) .l .l .l .l) .l) (.n (some r74) (.n (some r138) .l .l .l .l) (.n (some r202) .l .l .l .l) .l .l)) (.n (some r14) (.n (some r30) (.n (some r94) .l .l .l .l) (.n (some r158) .l .l .l .l) (.n (some r222) .l .l .l .l) .l) (.n (some r46) (.n (some r110) .l .l .l .l) (.n (some r174) .l .l .l .l) (.n (some r238) .l .l .l .l) (.n (some r302) .l .l .l .l)) (.n none (.n (some r126) .l .l .l .l) (.n (some r190) .l .l .l .l) (.n (some r254) .l .l .l .l) .l) (.n (some r78) (.n (some r142) .l .l .l .l) (.n (some r206) .l .l .l .l) (.n (some r270) .l .l .l .l) .l)) (.n (some r18) (.n (some r34) (.n (some r98) .l .l .l .l) (.n (some r162) .l .l .l .l) (.n (some r226) .l .l .l .l) (.n (some r290) .l .l .l .l)) (.n (some r50) (.n (some r114) .l .l .l .l) (.n (some r178) .l .l .l .l) (.n (some r242) .l .l .l .l) .l) (.n (some r66) (.n (some r130) .l .l .l .l) .l .l .l) (.n (some r82) (.n (some r146) .l .l .l .l) (.n (some r210) .l .l .l .l) (.n (some r274) .l .l .l .l) .l))) (.n none (.n none (.n (some r23) (.n (some r87) .l .l .l .l) (.n (some r151) .l .l .l .l) (.n (some r215) .l .l .l .l) .l) (.n none (.n (some r103) .l .l .l .l) (.n (some r167) .l .l .l .l) .l (.n (some r295) .l .l .l .l)) (.n (some r55) (.n (some r119) .l .l .l .l) (.n (some r183) .l .l .l .l) (.n (some r247) .l .l .l .l) .l) (.n (some r71) .l (.n (some r199) .l .l .l .l) (.n (some r263) .l .l .l .l) .l)) (.n none (.n none (.n (some r91) .l .l .l .l) (.n (some r155) .l .l .l .l) .l .l) (.n (some r43) (.n (some r107) .l .l .l .l) (.n (some r171) .l .l .l .l) (.n (some r235) .l .l .l .l) (.n (some r299) .l .l .l .l)) (.n none (.n (some r123) .l .l .l .l) (.n (some r187) .l .l .l .l) (.n (some r251) .l .l .l .l) .l) (.n (some r75) (.n (some r139) .l .l .l .l) .l .l .l)) (.n (some r15) (.n (some r31) (.n (some r95) .l .l .l .l) (.n (some r159) .l .l .l .l) (.n (some r223) .l .l .l .l) (.n (some r287) .l .l .l .l)) (.n none (.n (some r111) .l .l .l .l) (.n (some r175) .l .l .l .l) (.n (some r239) .l .l .l .l) (.n (some r303) .l .l .l .l)) (.n (some r63) (.n (some r127) .l .l .l .l) (.n (some r191) .l .l .l .l) (.n (some r255) .l .l .l .l) .l) (.n (some r79) (.n (some r143) .l .l .l .l) (.n (some r207) .l .l .l .l) (.n (some r271) .l .l .l .l) .l)) (.n (some r19) (.n (some r35) (.n (some r99) .l .l .l .l) .l (.n (some r227) .l .l .l .l) .l) (.n (some r51) (.n (some r115) .l .l .l .l) .l .l .l) (.n (some r67) (.n (some r131) .l .l .l .l) .l .l (.n (some r323) .l .l .l .l)) (.n (some r83) (.n (some r147) .l .l .l .l) (.n (some r211) .l .l .l .l) (.n (some r275) .l .l .l .l) .l))) (.n none (.n (some r8) (.n none (.n (some r88) .l .l .l .l) (.n (some r152) .l .l .l .l) (.n (some r216) .l .l .l .l) (.n (some r280) .l .l .l .l)) (.n (some r40) .l (.n (some r168) .l .l .l .l) .l .l) (.n (some r56) (.n (some r120) .l .l .l .l) (.n (some r184) .l .l .l .l) (.n (some r248) .l .l .l .l) .l) (.n (some r72) (.n (some r136) .l .l .l .l) (.n (some r200) .l .l .l .l) (.n (some r264) .l .l .l .l) (.n (some r328) .l .l .l .l))) (.n (some r12) (.n (some r28) (.n (some r92) .l .l .l .l) .l .l .l) (.n (some r44) (.n (some r108) .l .l .l .l) (.n (some r172) .l .l .l .l) (.n (some r236) .l .l .l .l) (.n (some r300) .l .l .l .l)) (.n (some r60) .l (.n (some r188) .l .l .l .l) (.n (some r252) .l .l .l .l) .l) (.n none (.n (some r140) .l .l .l .l) .l (.n (some r268) .l .l .l .l) .l)) (.n none (.n (some r32) (.n (some r96) .l .l .l .l) (.n (some r160) .l .l .l .l) (.n (some r224) .l .l .l .l) .l) (.n none (.n (some r112) (.n (some r368) .l .l .l .l) .l .l .l) (.n (some r176) .l .l .l .l) (.n (some r240) .l .l .l .l) (.n (some r304) .l .l .l .l)) (.n (some r64) (.n (some r128) .l .l .l .l) (.n (some r192) .l .l .l .l) (.n (some r256) .l .l .l .l) .l) (.n (some r80) (.n (some r144) .l .l .l .l) (.n (some r208) .l .l .l .l) (.n (some r272) .l .l .l .l) .l)) (.n (some r20) (.n (some r36) (.n (some r100) .l .l .l .l) (.n (some r164) .l .l .l .l) (.n (some r228) .l .l .l .l) .l) (.n none (.n (some r116) .l .l .l .l) .l (.n (some r244) .l .l .l .l) .l) (.n (some r68) (.n (some r132) .l .l .l .l) (.n (some r196) .l .l .l .l) .l (.n (some r324) .l .l .l .l)) (.n (some r84) (.n (some r148) .l .l .l .l) (.n (some r212) .l .l .l .l) (.n (some r276) .l .l .l .l) .l))))
end Go.Ev

/-
  The evaluator of closed calls: a part.
-/
set_option linter.unusedVariables false
set_option linter.unusedSimpArgs false
namespace Go.Ev
/-- where a letter stands in a world: a block, a room, a place -/
structure Loc where
  bl : Nat
  cp : Nat
  sp : Addr
  val : Value
  of : Nat
abbrev Nm := N → Option Loc
/-- sixteen letters for a number and what is a little more -/
def Fam (E : Nm) (c : Nat) : Prop := ∃ i0 : Int, 0 ≤ i0 ∧ i0 < 4294967296 ∧ i0 % 8 = ((c % 8 : Nat) : Int) ∧
  ∀ j : Nat, j < 16 → ∀ y : N, y.val = 14 + 16 * (j + 16 * c) → ∃ m, E y = some m ∧ m.val = .int .u32 ((i0 + j) % 4294967296)
/-- what a letter tells of the value that it stands for: its rest by ten, that it is one of sixteen letters, that it is a number of 32 bits; or nothing -/
def OkL (E : Nm) (x : N) (v : Value) : Prop :=
  (x.val % 16 < 10 → ∃ i : Int, v = .int .i64 i ∧ i % 10 = ((x.val % 16 : Nat) : Int) ∧ -9223372036854775808 ≤ i ∧ i ≤ 9223372036854775807) ∧ (x.val % 16 = 14 → Fam E (x.val / 256)) ∧ (x.val % 16 = 15 → ∃ i, v = .int .u32 i)
open Classical in
mutual
noncomputable def den (E : Nm) : V → Option Value
  | .int k n => if n < full k then some (.int k (k.wrap n)) else none
  | .bool b => some (.bool b)
  | .str s => some (.string s)
  | .ptr b o => match E b with | some l => some (.pointer (some ⟨l.bl, l.of + o, none⟩)) | none => none
  | .nilp => some (.pointer none)
  | .sl b o len (.n c) => match E b with | some l => if len ≤ c then some (.slice (some ⟨l.bl, l.of + o, none⟩) len c) else none | none => none
  | .sl b o len (.v d) => match E b with | some l => if len + d ≤ l.cp then some (.slice (some ⟨l.bl, l.of + o, none⟩) len (l.cp - d)) else none | none => none
  | .nils => some (.slice none 0 0)
  | .slz x => match E x with | some m => some (.slice (some m.sp) 0 m.cp) | none => none
  | .map r => match E r with | some l => some (.map (some l.bl)) | none => none
  | .nilm => some (.map none)
  | .fn f a b => match denL E a, denL E b with | some x, some y => some (.func (.func f.val) x.toArray y.toArray) | _, _ => none
  | .nilf => some .nilFunc
  | .ifc t v => match den E v with | some x => some (.iface t x) | none => none
  | .nili => some .nilIface
  | .agg l => if l.all V.isOne then match denL E l with | some x => some (.agg x.toArray) | none => none else none
  | .tup l => match denL E l with | some x => some (.tuple x.toArray) | none => none
  | .opq x => match E x with | some m => if m.val.oneCell' = true ∧ OkL E x m.val then some m.val else none | none => none
noncomputable def denL (E : Nm) : List V → Option (List Value)
  | [] => some []
  | v :: l => match den E v, denL E l with | some x, some r => some (x :: r) | _, _ => none
end
def Ext (E E' : Nm) : Prop := ∀ k l, E k = some l → E' k = some l
theorem Fam.ext {E E' : Nm} (h : Ext E E') {c : Nat} (f : Fam E c) : Fam E' c :=
  let ⟨i, h1, h2, h3, h4⟩ := f; ⟨i, h1, h2, h3, fun j hj y hy => let ⟨m, a, b⟩ := h4 j hj y hy; ⟨m, h y m a, b⟩⟩
theorem OkL.ext {E E' : Nm} (h : Ext E E') {x : N} {v : Value} (f : OkL E x v) : OkL E' x v := ⟨f.1, fun e => (f.2.1 e).ext h, f.2.2⟩
theorem Ext.refl (E : Nm) : Ext E E := fun _ _ h => h
theorem Ext.trans {E F G : Nm} (h : Ext E F) (k : Ext F G) : Ext E G := fun x l hx => k x l (h x l hx)
mutual
theorem den_ext {E E' : Nm} (h : Ext E E') : ∀ (v : V) (x : Value), den E v = some x → den E' v = some x
  | .int k n, x, hx => by simpa [den] using hx
  | .bool b, x, hx => by simpa [den] using hx
  | .str s, x, hx => by simpa [den] using hx
  | .ptr b o, x, hx => by
    simp only [den] at hx ⊢
    cases hb : E b with
    | none => rw [hb] at hx; cases hx
    | some l => rw [hb] at hx; rw [h b l hb]; exact hx
  | .nilp, x, hx => by simpa [den] using hx
  | .sl b o len (.n c), x, hx => by
    simp only [den] at hx ⊢
    cases hb : E b with
    | none => rw [hb] at hx; cases hx
    | some l => rw [hb] at hx; rw [h b l hb]; exact hx
  | .sl b o len (.v d), x, hx => by
    simp only [den] at hx ⊢
    cases hb : E b with
    | none => rw [hb] at hx; cases hx
    | some l => rw [hb] at hx; rw [h b l hb]; exact hx
  | .nils, x, hx => by simpa [den] using hx
  | .slz b, x, hx => by
    simp only [den] at hx ⊢
    cases hb : E b with
    | none => rw [hb] at hx; cases hx
    | some l => rw [hb] at hx; rw [h b l hb]; exact hx
  | .map b, x, hx => by
    simp only [den] at hx ⊢
    cases hb : E b with
    | none => rw [hb] at hx; cases hx
    | some l => rw [hb] at hx; rw [h b l hb]; exact hx
  | .nilm, x, hx => by simpa [den] using hx
  | .fn f a b, x, hx => by
    simp only [den] at hx ⊢
    cases ha : denL E a with
    | none => rw [ha] at hx; cases hx
    | some l =>
      cases hb : denL E b with
      | none => rw [ha, hb] at hx; cases hx
      | some m => rw [ha, hb] at hx; rw [denL_ext h a l ha, denL_ext h b m hb]; exact hx
  | .nilf, x, hx => by simpa [den] using hx
  | .ifc t v, x, hx => by
    simp only [den] at hx ⊢
    cases hv : den E v with
    | none => rw [hv] at hx; cases hx
    | some y => rw [hv] at hx; rw [den_ext h v y hv]; exact hx
  | .nili, x, hx => by simpa [den] using hx
  | .agg l, x, hx => by
    simp only [den] at hx ⊢
    cases hv : denL E l with
    | none => rw [hv] at hx; split at hx <;> cases hx
    | some y => rw [hv] at hx; rw [denL_ext h l y hv]; exact hx
  | .tup l, x, hx => by
    simp only [den] at hx ⊢
    cases hv : denL E l with
    | none => rw [hv] at hx; cases hx
    | some y => rw [hv] at hx; rw [denL_ext h l y hv]; exact hx
  | .opq b, x, hx => by
    simp only [den] at hx ⊢
    cases hb : E b with
    | none => rw [hb] at hx; cases hx
    | some l =>
      rw [hb] at hx
      simp only at hx
      split at hx
      · rename_i ho
        rw [h b l hb]
        simp only
        rw [if_pos ⟨ho.1, ho.2.ext h⟩]
        exact hx
      · cases hx
theorem denL_ext {E E' : Nm} (h : Ext E E') : ∀ (l : List V) (x : List Value), denL E l = some x → denL E' l = some x
  | [], x, hx => by simpa [denL] using hx
  | v :: l, x, hx => by
    simp only [denL] at hx ⊢
    cases hv : den E v with
    | none => rw [hv] at hx; cases hx
    | some y =>
      cases hl : denL E l with
      | none => rw [hv, hl] at hx; cases hx
      | some z => rw [hv, hl] at hx; rw [den_ext h v y hv, denL_ext h l z hl]; exact hx
end
theorem den_opq {E : Nm} {x : N} {v : Value} : den E (.opq x) = some v ↔ ∃ m, E x = some m ∧ m.val = v ∧ v.oneCell' = true ∧ OkL E x v := by
  simp only [den]
  cases hb : E x with
  | none => simp
  | some m =>
    simp only
    split
    · rename_i ho
      constructor
      · intro h; cases h; exact ⟨m, rfl, rfl, ho.1, ho.2⟩
      · rintro ⟨m', e, rfl, h1, h2⟩; cases e; rfl
    · rename_i ho
      constructor
      · intro h; cases h
      · rintro ⟨m', e, rfl, h1, h2⟩; cases e; exact absurd ⟨h1, h2⟩ ho
end Go.Ev

/-
  The evaluator of closed calls: a part.
-/
set_option linter.unusedVariables false
set_option linter.unusedSimpArgs false
namespace Go.Ev
/-! what the pieces in continuations say -/
theorem condK_true {b yes : Bool} (h : condK b false yes = true) : b = true ∧ yes = true := by
  cases b
  · exact Bool.noConfusion h
  · exact ⟨rfl, h⟩
theorem condK_or {b no yes : Bool} (h : condK b no yes = true) : (b = true ∧ yes = true) ∨ (b = false ∧ no = true) := by
  cases b
  · exact .inr ⟨rfl, h⟩
  · exact .inl ⟨rfl, h⟩
theorem natK_eq (n : Nat) (k : Nat → Bool) : natK n k = k n := by cases n <;> rfl

def T.get {α : Type} : N → T α → Option α
  | _, .l => none
  | .e, .n v _ _ _ _ => v
  | .a i, .n _ x _ _ _ => T.get i x
  | .b i, .n _ _ y _ _ => T.get i y
  | .c i, .n _ _ _ z _ => T.get i z
  | .d i, .n _ _ _ _ w => T.get i w
def T.set {α : Type} : N → α → T α → T α
  | .e, u, .l => .n (some u) .l .l .l .l
  | .e, u, .n _ x y z w => .n (some u) x y z w
  | .a i, u, .l => .n none (T.set i u .l) .l .l .l
  | .a i, u, .n v x y z w => .n v (T.set i u x) y z w
  | .b i, u, .l => .n none .l (T.set i u .l) .l .l
  | .b i, u, .n v x y z w => .n v x (T.set i u y) z w
  | .c i, u, .l => .n none .l .l (T.set i u .l) .l
  | .c i, u, .n v x y z w => .n v x y (T.set i u z) w
  | .d i, u, .l => .n none .l .l .l (T.set i u .l)
  | .d i, u, .n v x y z w => .n v x y z (T.set i u w)
theorem T.get_l {α : Type} (i : N) : T.get i (.l : T α) = none := by cases i <;> rfl
theorem T.get_set {α : Type} (u : α) : ∀ (i : N) (t : T α), T.get i (T.set i u t) = some u
  | .e, .l => rfl
  | .e, .n .. => rfl
  | .a i, .l => T.get_set u i .l
  | .a i, .n _ x _ _ _ => T.get_set u i x
  | .b i, .l => T.get_set u i .l
  | .b i, .n _ _ x _ _ => T.get_set u i x
  | .c i, .l => T.get_set u i .l
  | .c i, .n _ _ _ x _ => T.get_set u i x
  | .d i, .l => T.get_set u i .l
  | .d i, .n _ _ _ _ x => T.get_set u i x
theorem T.get_set_ne {α : Type} (u : α) : ∀ (i j : N) (t : T α), i ≠ j → T.get j (T.set i u t) = T.get j t := by
  intro i
  induction i with
  | e => intro j t h; cases j <;> first | exact absurd rfl h | (cases t <;> first | rfl | simp [T.set, T.get, T.get_l])
  | a i ih => intro j t h; cases j <;> cases t <;> first | rfl | (simp only [T.set, T.get]; first | done | exact ih _ _ (fun e => h (e ▸ rfl)) | (rw [ih _ _ (fun e => h (e ▸ rfl))]; exact T.get_l _) | exact T.get_l _)
  | b i ih => intro j t h; cases j <;> cases t <;> first | rfl | (simp only [T.set, T.get]; first | done | exact ih _ _ (fun e => h (e ▸ rfl)) | (rw [ih _ _ (fun e => h (e ▸ rfl))]; exact T.get_l _) | exact T.get_l _)
  | c i ih => intro j t h; cases j <;> cases t <;> first | rfl | (simp only [T.set, T.get]; first | done | exact ih _ _ (fun e => h (e ▸ rfl)) | (rw [ih _ _ (fun e => h (e ▸ rfl))]; exact T.get_l _) | exact T.get_l _)
  | d i ih => intro j t h; cases j <;> cases t <;> first | rfl | (simp only [T.set, T.get]; first | done | exact ih _ _ (fun e => h (e ▸ rfl)) | (rw [ih _ _ (fun e => h (e ▸ rfl))]; exact T.get_l _) | exact T.get_l _)
theorem T.getK_eq {α : Type} (k : α → Bool) (z : Bool) : ∀ (i : N) (t : T α), T.getK i t k z = match T.get i t with | some v => k v | none => z
  | .e, .l => rfl
  | .e, .n none _ _ _ _ => rfl
  | .e, .n (some v) _ _ _ _ => rfl
  | .a i, .l => rfl
  | .a i, .n _ x _ _ _ => T.getK_eq k z i x
  | .b i, .l => rfl
  | .b i, .n _ _ x _ _ => T.getK_eq k z i x
  | .c i, .l => rfl
  | .c i, .n _ _ _ x _ => T.getK_eq k z i x
  | .d i, .l => rfl
  | .d i, .n _ _ _ _ x => T.getK_eq k z i x
theorem T.setK_eq {α : Type} (u : α) : ∀ (i : N) (t : T α) (k : T α → Bool), T.setK i u t k = k (T.set i u t)
  | .e, .l, _ => rfl
  | .e, .n .., _ => rfl
  | .a i, .l, _ => T.setK_eq u i .l _
  | .a i, .n _ x _ _ _, _ => T.setK_eq u i x _
  | .b i, .l, _ => T.setK_eq u i .l _
  | .b i, .n _ _ x _ _, _ => T.setK_eq u i x _
  | .c i, .l, _ => T.setK_eq u i .l _
  | .c i, .n _ _ _ x _, _ => T.setK_eq u i x _
  | .d i, .l, _ => T.setK_eq u i .l _
  | .d i, .n _ _ _ _ x, _ => T.setK_eq u i x _
theorem s_get_eq (k : KV) : ∀ (t : N) (a : A), s_get t a k = T.getK t a k (k V.undef)
  | .e, .l => rfl
  | .e, .n none _ _ _ _ => rfl
  | .e, .n (some v) _ _ _ _ => rfl
  | .a _, .l => rfl
  | .a i, .n _ x _ _ _ => s_get_eq k i x
  | .b _, .l => rfl
  | .b i, .n _ _ x _ _ => s_get_eq k i x
  | .c _, .l => rfl
  | .c i, .n _ _ _ x _ => s_get_eq k i x
  | .d _, .l => rfl
  | .d i, .n _ _ _ _ x => s_get_eq k i x
theorem N.succK_eq : ∀ (n : N) (k : N → Bool), N.succK n k = k n.succ
  | .e, _ => rfl
  | .a _, _ => rfl
  | .b _, _ => rfl
  | .c _, _ => rfl
  | .d n, _ => N.succK_eq n _
theorem N.val_succ : ∀ n : N, n.succ.val = n.val + 1
  | .e => rfl
  | .a _ => rfl
  | .b _ => rfl
  | .c _ => rfl
  | .d n => by simp only [N.succ, N.val, N.val_succ n]; omega
theorem N.val_inj : ∀ m n : N, m.val = n.val → m = n := by
  intro m
  induction m with
  | e => intro n h; cases n <;> simp only [N.val] at h <;> first | rfl | omega
  | a m ih => intro n h; cases n <;> simp only [N.val] at h <;> first | omega | exact congrArg _ (ih _ (by omega))
  | b m ih => intro n h; cases n <;> simp only [N.val] at h <;> first | omega | exact congrArg _ (ih _ (by omega))
  | c m ih => intro n h; cases n <;> simp only [N.val] at h <;> first | omega | exact congrArg _ (ih _ (by omega))
  | d m ih => intro n h; cases n <;> simp only [N.val] at h <;> first | omega | exact congrArg _ (ih _ (by omega))
theorem toN_val (n : Nat) : (toN n).val = n := by
  induction n with
  | zero => rfl
  | succ n ih => show (toN n).succ.val = _; rw [N.val_succ, ih]
theorem N.beq_eq : ∀ m n : N, N.beq m n = true → m = n := by
  intro m
  induction m with
  | e => intro n h; cases n <;> first | rfl | exact Bool.noConfusion h
  | a m ih => intro n h; cases n <;> first | exact congrArg _ (ih _ h) | exact Bool.noConfusion h
  | b m ih => intro n h; cases n <;> first | exact congrArg _ (ih _ h) | exact Bool.noConfusion h
  | c m ih => intro n h; cases n <;> first | exact congrArg _ (ih _ h) | exact Bool.noConfusion h
  | d m ih => intro n h; cases n <;> first | exact congrArg _ (ih _ h) | exact Bool.noConfusion h

theorem nthK_true {α : Type} {k : α → Bool} : ∀ {l : List α} {n : Nat}, nthK l n k = true → ∃ x, l[n]? = some x ∧ k x = true
  | [], _, h => Bool.noConfusion h
  | x :: _, 0, h => ⟨x, rfl, h⟩
  | _ :: l, n + 1, h => nthK_true (l := l) (n := n) h
theorem dropK_true {α : Type} {k : List α → Bool} : ∀ {l : List α} {n : Nat}, dropK l n k = true → n ≤ l.length ∧ k (l.drop n) = true
  | [], 0, h => ⟨Nat.le_refl _, h⟩
  | [], _ + 1, h => Bool.noConfusion h
  | _ :: _, 0, h => ⟨Nat.zero_le _, h⟩
  | _ :: l, n + 1, h => let ⟨a, b⟩ := dropK_true (l := l) (n := n) h; ⟨Nat.succ_le_succ a, b⟩
theorem takeK_true {α : Type} : ∀ {l : List α} {n : Nat} {k : List α → Bool}, takeK l n k = true → n ≤ l.length ∧ k (l.take n) = true
  | [], 0, _, h => ⟨Nat.le_refl _, h⟩
  | [], _ + 1, _, h => Bool.noConfusion h
  | _ :: _, 0, _, h => ⟨Nat.zero_le _, h⟩
  | _ :: l, n + 1, k, h => let ⟨a, b⟩ := takeK_true (l := l) (n := n) (k := fun r => k (_ :: r)) h; ⟨Nat.succ_le_succ a, b⟩
theorem overK_true : ∀ {vs l : List V} {k : List V → Bool}, overK vs l k = true → vs.length ≤ l.length ∧ k (vs ++ l.drop vs.length) = true
  | [], l, k, h => ⟨Nat.zero_le _, h⟩
  | v :: vs, [], k, h => Bool.noConfusion h
  | v :: vs, x :: l, k, h => let ⟨a, b⟩ := overK_true (vs := vs) (l := l) (k := fun r => k (v :: r)) h; ⟨Nat.succ_le_succ a, b⟩
theorem putK_true {vs : List V} : ∀ {l : List V} {n : Nat} {k : List V → Bool}, putK l vs n k = true →
    n + vs.length ≤ l.length ∧ k (l.take n ++ vs ++ l.drop (n + vs.length)) = true
  | [], 0, k, h => by
    obtain ⟨a, b⟩ := overK_true (vs := vs) (l := []) (k := k) h
    exact ⟨by simpa using a, by simpa using b⟩
  | [], _ + 1, k, h => Bool.noConfusion h
  | x :: l, 0, k, h => by
    obtain ⟨a, b⟩ := overK_true (vs := vs) (l := x :: l) (k := k) h
    exact ⟨by simpa using a, by simpa using b⟩
  | x :: l, n + 1, k, h => by
    obtain ⟨a, b⟩ := putK_true (vs := vs) (l := l) (n := n) (k := fun r => k (x :: r)) h
    refine ⟨by simp only [List.length_cons]; omega, ?_⟩
    have e : n + 1 + vs.length = (n + vs.length) + 1 := by omega
    rw [e]
    simpa using b
theorem appK_eq {α : Type} (m : List α) : ∀ (l : List α) (k : List α → Bool), appK l m k = k (l ++ m)
  | [], _ => rfl
  | _ :: l, _ => appK_eq m l _
theorem repK_eq (l : List V) : ∀ (n : Nat) (k : List V → Bool), repK l n k = k (List.replicate n l).flatten
  | 0, _ => rfl
  | n + 1, k => by
    show repK l n (fun r => appK l r k) = _
    rw [repK_eq l n, appK_eq]
    simp [List.replicate_succ]
theorem lenK_eq {α : Type} : ∀ (l : List α) (k : Nat → Bool), lenK l k = k l.length
  | [], _ => rfl
  | _ :: l, k => by
    show lenK l (fun n => natK (Nat.succ n) k) = _
    rw [lenK_eq l, natK_eq]
    rfl
theorem okK_true {α : Type} {x : Option α} {k : α → Bool} (h : okK x k = true) : ∃ v, x = some v ∧ k v = true := by
  cases x
  · exact Bool.noConfusion h
  · exact ⟨_, rfl, h⟩

theorem V.onPtr_true {v : V} {k : N → Nat → Bool} (h : v.onPtr k = true) : ∃ b o, v = .ptr b o ∧ k b o = true := by
  cases v <;> first | exact ⟨_, _, rfl, h⟩ | exact Bool.noConfusion h
theorem V.onBool_true {v : V} {t f : Bool} (h : v.onBool t f = true) : (v = .bool true ∧ t = true) ∨ (v = .bool false ∧ f = true) := by
  cases v <;> first | exact Bool.noConfusion h | skip
  rename_i b
  cases b
  · exact .inr ⟨rfl, h⟩
  · exact .inl ⟨rfl, h⟩
theorem V.onInt_true {v : V} {k : IntKind → Nat → Bool} (h : v.onInt k = true) : ∃ j n, v = .int j n ∧ k j n = true := by
  cases v <;> first | exact ⟨_, _, rfl, h⟩ | exact Bool.noConfusion h
theorem V.onOpq_true {v : V} {k : N → Bool} (h : v.onOpq k = true) : ∃ x, v = .opq x ∧ k x = true := by
  cases v <;> first | exact ⟨_, rfl, h⟩ | exact Bool.noConfusion h
theorem V.onTup_true {v : V} {k : List V → Bool} (h : v.onTup k = true) : ∃ l, v = .tup l ∧ k l = true := by
  cases v <;> first | exact ⟨_, rfl, h⟩ | exact Bool.noConfusion h
theorem V.onAgg_true {v : V} {k : List V → Bool} (h : v.onAgg k = true) : ∃ l, v = .agg l ∧ k l = true := by
  cases v <;> first | exact ⟨_, rfl, h⟩ | exact Bool.noConfusion h
theorem V.onStr_true {v : V} {k : ByteArray → Bool} (h : v.onStr k = true) : ∃ s, v = .str s ∧ k s = true := by
  cases v <;> first | exact ⟨_, rfl, h⟩ | exact Bool.noConfusion h
theorem V.onFn_true {v : V} {k : N → List V → List V → Bool} (h : v.onFn k = true) : ∃ f l m, v = .fn f l m ∧ k f l m = true := by
  cases v <;> first | exact ⟨_, _, _, rfl, h⟩ | exact Bool.noConfusion h
theorem V.onMap_true {v : V} {nil : Bool} {k : N → Bool} (h : v.onMap nil k = true) : (v = .nilm ∧ nil = true) ∨ ∃ r, v = .map r ∧ k r = true := by
  cases v <;> first | exact .inl ⟨rfl, h⟩ | exact .inr ⟨_, rfl, h⟩ | exact Bool.noConfusion h
theorem V.onSl_true {v : V} {nil : Bool} {k : N → Nat → Nat → Cap → Bool} (h : v.onSl nil k = true) :
    (v = .nils ∧ nil = true) ∨ (∃ x, v = .slz x ∧ nil = true) ∨ ∃ b o l c, v = .sl b o l c ∧ k b o l c = true := by
  cases v <;> first | exact .inl ⟨rfl, h⟩ | exact .inr (.inl ⟨_, rfl, h⟩) | exact .inr (.inr ⟨_, _, _, _, rfl, h⟩) | exact Bool.noConfusion h
theorem V.onKey_true {v : V} {k : Bool} (h : v.onKey k = true) : ((∃ j n, v = .int j n) ∨ (∃ b, v = .bool b) ∨ ∃ s, v = .str s) ∧ k = true := by
  cases v <;> first | exact ⟨.inl ⟨_, _, rfl⟩, h⟩ | exact ⟨.inr (.inl ⟨_, rfl⟩), h⟩ | exact ⟨.inr (.inr ⟨_, rfl⟩), h⟩ | exact Bool.noConfusion h
end Go.Ev

/-
  The evaluator of closed calls: a part.
-/
set_option linter.unusedVariables false
set_option linter.unusedSimpArgs false
namespace Go.Ev
def H.t : H → T O | .mk t _ => t
def H.n : H → N | .mk _ n => n
def H.put (h : H) (b : N) (o : O) : H := .mk (T.set b o h.t) h.n
def H.new (h : H) (o : O) : H := .mk (T.set h.n o h.t) h.n.succ
def H.next (h : H) : H := .mk h.t h.n.succ
theorem H.rowK_true {h : H} {b : N} {k : Nat → List V → Bool → Bool} (hh : h.rowK b k = true) : ∃ e c tl, T.get b h.t = some (.row e c tl) ∧ k e c tl = true := by
  cases h with | mk t n =>
  have h1 : T.getK b t (fun o => o.onRow k) false = true := hh
  rw [T.getK_eq] at h1
  show ∃ e c tl, T.get b t = _ ∧ _
  cases hg : T.get b t with
  | none => rw [hg] at h1; exact Bool.noConfusion h1
  | some o =>
    rw [hg] at h1
    cases o with
    | row e c tl => exact ⟨e, c, tl, rfl, h1⟩
    | map _ _ => exact Bool.noConfusion h1
    | dead => exact Bool.noConfusion h1
    | arg _ _ _ => exact Bool.noConfusion h1
theorem H.cellsK_true {h : H} {b : N} {k : List V → Bool} (hh : h.cellsK b k = true) : ∃ o c, T.get b h.t = some o ∧ ((∃ e tl, o = .row e c tl) ∨ ∃ z ls, o = .arg c z ls) ∧ k c = true := by
  cases h with | mk t n =>
  have h1 : T.getK b t (fun o => o.onCells k) false = true := hh
  rw [T.getK_eq] at h1
  show ∃ o c, T.get b t = _ ∧ _
  cases hg : T.get b t with
  | none => rw [hg] at h1; exact Bool.noConfusion h1
  | some o =>
    rw [hg] at h1
    cases o with
    | row e c tl => exact ⟨_, c, rfl, .inl ⟨e, tl, rfl⟩, h1⟩
    | map _ _ => exact Bool.noConfusion h1
    | dead => exact Bool.noConfusion h1
    | arg c z ls => exact ⟨_, c, rfl, .inr ⟨z, ls, rfl⟩, h1⟩
theorem H.mapK_true {h : H} {b : N} {k : List (V × V × Nat) → Nat → Bool} (hh : h.mapK b k = true) : ∃ es c, T.get b h.t = some (.map es c) ∧ k es c = true := by
  cases h with | mk t n =>
  have h1 : T.getK b t (fun o => o.onMap k) false = true := hh
  rw [T.getK_eq] at h1
  show ∃ es c, T.get b t = _ ∧ _
  cases hg : T.get b t with
  | none => rw [hg] at h1; exact Bool.noConfusion h1
  | some o =>
    rw [hg] at h1
    cases o with
    | row e c tl => exact Bool.noConfusion h1
    | map es c => exact ⟨es, c, rfl, h1⟩
    | dead => exact Bool.noConfusion h1
    | arg _ _ _ => exact Bool.noConfusion h1
theorem H.putK_eq (h : H) (b : N) (o : O) (k : H → Bool) : h.putK b o k = k (h.put b o) := by
  cases h with | mk t n =>
  show T.setK b o t _ = _
  rw [T.setK_eq]; rfl
theorem H.newK_eq (h : H) (o : O) (k : N → H → Bool) : h.newK o k = k h.n (h.new o) := by
  cases h with | mk t n =>
  show T.setK n o t _ = _
  rw [T.setK_eq, N.succK_eq]; rfl
theorem H.nextK_eq (h : H) (k : N → H → Bool) : h.nextK k = k h.n h.next := by
  cases h with | mk t n =>
  show N.succK n _ = _
  rw [N.succK_eq]; rfl
theorem H.grownK_eq (h : H) (e : Nat) (c : List V) (k : N → H → Bool) : h.grownK e c k = k h.n (h.new (.row e c true)) := by
  cases h with | mk t n =>
  show T.setK n _ t _ = _
  rw [T.setK_eq, N.succK_eq]; rfl
theorem H.loadK_true {h : H} {b : N} {o s : Nat} {k : List V → Bool} (hh : h.loadK b o s k = true) :
    ∃ e c tl, T.get b h.t = some (.row e c tl) ∧ o + s ≤ c.length ∧ k ((c.drop o).take s) = true := by
  obtain ⟨e, c, tl, hg, h1⟩ := H.rowK_true hh
  obtain ⟨h2, h3⟩ := dropK_true h1
  obtain ⟨h4, h5⟩ := takeK_true h3
  rw [List.length_drop] at h4
  exact ⟨e, c, tl, hg, by omega, h5⟩
theorem H.storeK_true {h : H} {b : N} {o : Nat} {vs : List V} {k : H → Bool} (hh : h.storeK b o vs k = true) :
    ∃ e c tl, T.get b h.t = some (.row e c tl) ∧ o + vs.length ≤ c.length ∧ k (h.put b (.row e (c.take o ++ vs ++ c.drop (o + vs.length)) tl)) = true := by
  obtain ⟨e, c, tl, hg, h1⟩ := H.rowK_true hh
  obtain ⟨h2, h3⟩ := putK_true h1
  rw [H.putK_eq] at h3
  exact ⟨e, c, tl, hg, h2, h3⟩

/-! Cells -/
theorem denL_length {E : Nm} : ∀ {l : List V} {x : List Value}, denL E l = some x → x.length = l.length
  | [], x, h => by simp only [denL, Option.some.injEq] at h; subst h; rfl
  | v :: l, x, h => by
    simp only [denL] at h
    cases hv : den E v with
    | none => rw [hv] at h; cases h
    | some y =>
      cases hl : denL E l with
      | none => rw [hv, hl] at h; cases h
      | some z =>
        rw [hv, hl] at h
        cases h
        simp [denL_length hl]
theorem denL_cons {E : Nm} {v : V} {l : List V} {x : List Value} : denL E (v :: l) = some x ↔ ∃ y z, den E v = some y ∧ denL E l = some z ∧ x = y :: z := by
  simp only [denL]
  cases den E v <;> cases denL E l <;> simp [eq_comm]
theorem denL_append {E : Nm} : ∀ {l m : List V} {x : List Value}, denL E (l ++ m) = some x ↔ ∃ y z, denL E l = some y ∧ denL E m = some z ∧ x = y ++ z
  | [], m, x => by simp [denL]
  | v :: l, m, x => by
    rw [List.cons_append, denL_cons]
    constructor
    · rintro ⟨y, z, h1, h2, rfl⟩
      obtain ⟨a, b, h3, h4, rfl⟩ := denL_append.1 h2
      exact ⟨y :: a, b, denL_cons.2 ⟨y, a, h1, h3, rfl⟩, h4, rfl⟩
    · rintro ⟨y, z, h1, h2, rfl⟩
      obtain ⟨a, b, h3, h4, rfl⟩ := denL_cons.1 h1
      exact ⟨a, b ++ z, h3, denL_append.2 ⟨b, z, h4, h2, rfl⟩, rfl⟩
theorem denL_get {E : Nm} : ∀ {l : List V} {x : List Value}, denL E l = some x → ∀ {i : Nat} {v : V}, l[i]? = some v → ∃ y, den E v = some y ∧ x[i]? = some y
  | [], _, _, i, v, h => by simp at h
  | u :: l, x, h, i, v, hv => by
    obtain ⟨y, z, h1, h2, rfl⟩ := denL_cons.1 h
    cases i with
    | zero => simp only [List.getElem?_cons_zero, Option.some.injEq] at hv; subst hv; exact ⟨y, h1, rfl⟩
    | succ i => simp only [List.getElem?_cons_succ] at hv ⊢; exact denL_get h2 hv
theorem denL_take {E : Nm} : ∀ {l : List V} {x : List Value} (n : Nat), denL E l = some x → denL E (l.take n) = some (x.take n)
  | _, _, 0, _ => by simp [denL]
  | [], x, n + 1, h => by simp only [denL, Option.some.injEq] at h; subst h; simp [denL]
  | v :: l, x, n + 1, h => by
    obtain ⟨y, z, h1, h2, rfl⟩ := denL_cons.1 h
    exact denL_cons.2 ⟨y, _, h1, denL_take n h2, rfl⟩
theorem denL_drop {E : Nm} : ∀ {l : List V} {x : List Value} (n : Nat), denL E l = some x → denL E (l.drop n) = some (x.drop n)
  | _, _, 0, h => by simpa using h
  | [], x, n + 1, h => by simp only [denL, Option.some.injEq] at h; subst h; simp [denL]
  | v :: l, x, n + 1, h => by
    obtain ⟨y, z, h1, h2, rfl⟩ := denL_cons.1 h
    exact denL_drop (l := l) n h2
theorem isOne_den {E : Nm} {v : V} {x : Value} (h : den E v = some x) : x.oneCell' = v.isOne := by
  cases v with
  | sl b o len c =>
    cases c <;> simp only [den] at h <;> split at h
    · split at h <;> cases h
      rfl
    · cases h
    · split at h <;> cases h
      rfl
    · cases h
  | int k n => simp only [den] at h; split at h <;> cases h; rfl
  | ptr b o => simp only [den] at h; split at h <;> cases h; rfl
  | slz b => simp only [den] at h; split at h <;> cases h; rfl
  | map b => simp only [den] at h; split at h <;> cases h; rfl
  | fn f a b => simp only [den] at h; split at h <;> cases h; rfl
  | ifc t v => simp only [den] at h; split at h <;> cases h; rfl
  | agg l =>
    simp only [den] at h
    split at h
    · split at h <;> cases h
      rfl
    · cases h
  | tup l => simp only [den] at h; split at h <;> cases h; rfl
  | opq b =>
    obtain ⟨m, -, -, h1, -⟩ := den_opq.1 h
    exact h1
  | _ => simp only [den] at h; cases h; rfl
theorem allOne_den {E : Nm} : ∀ {l : List V} {x : List Value}, denL E l = some x → l.all V.isOne = true → ∀ u ∈ x, u.oneCell' = true
  | [], x, h, _ => by simp only [denL, Option.some.injEq] at h; subst h; simp
  | v :: l, x, h, ho => by
    obtain ⟨y, z, h1, h2, rfl⟩ := denL_cons.1 h
    simp only [List.all_cons, Bool.and_eq_true] at ho
    intro u hu
    cases hu with
    | head => rw [isOne_den h1]; exact ho.1
    | tail _ hu => exact allOne_den h2 ho.2 u hu
theorem den_agg {E : Nm} {l : List V} {x : Value} (h : den E (.agg l) = some x) : ∃ cs, l.all V.isOne = true ∧ denL E l = some cs ∧ x = .agg cs.toArray := by
  simp only [den] at h
  split at h
  · rename_i ho
    split at h
    · rename_i cs hc; cases h; exact ⟨cs, ho, hc, rfl⟩
    · cases h
  · cases h
theorem agg_den {E : Nm} {l : List V} {cs : List Value} (ho : l.all V.isOne = true) (h : denL E l = some cs) : den E (.agg l) = some (.agg cs.toArray) := by
  simp only [den, ho, h, if_true]
theorem den_tup {E : Nm} {l : List V} {x : Value} (h : den E (.tup l) = some x) : ∃ cs, denL E l = some cs ∧ x = .tuple cs.toArray := by
  simp only [den] at h
  split at h
  · rename_i cs hc; cases h; exact ⟨cs, hc, rfl⟩
  · cases h
theorem den_ptr {E : Nm} {b : N} {o : Nat} {x : Value} (h : den E (.ptr b o) = some x) : ∃ l, E b = some l ∧ x = .pointer (some ⟨l.bl, l.of + o, none⟩) := by
  simp only [den] at h
  split at h
  · rename_i l hl; cases h; exact ⟨l, hl, rfl⟩
  · cases h
theorem den_int {E : Nm} {k : IntKind} {n : Nat} {x : Value} (h : den E (.int k n) = some x) : n < full k ∧ x = .int k (k.wrap n) := by
  simp only [den] at h
  split at h
  · rename_i hl; cases h; exact ⟨hl, rfl⟩
  · cases h
theorem int_den {E : Nm} {k : IntKind} {n : Nat} (h : n < full k) : den E (.int k n) = some (.int k (k.wrap n)) := by
  simp only [den, h, if_true]
theorem den_sl {E : Nm} {b : N} {o len : Nat} {c : Cap} {x : Value} (h : den E (.sl b o len c) = some x) :
    ∃ l cap, E b = some l ∧ len ≤ cap ∧ x = .slice (some ⟨l.bl, l.of + o, none⟩) len cap ∧ (c = .n cap ∨ ∃ d, c = .v d ∧ d + cap = l.cp) := by
  cases c with
  | n c =>
    simp only [den] at h
    split at h
    · rename_i l hl
      split at h
      · rename_i hc; cases h; exact ⟨l, c, hl, hc, rfl, .inl rfl⟩
      · cases h
    · cases h
  | v d =>
    simp only [den] at h
    split at h
    · rename_i l hl
      split at h
      · rename_i hc; cases h; exact ⟨l, l.cp - d, hl, by omega, rfl, .inr ⟨d, rfl, by omega⟩⟩
      · cases h
    · cases h

/-! Heaps and worlds -/
noncomputable def denM (E : Nm) : List (V × V × Nat) → Option (List MapEntry)
  | [] => some []
  | (k, v, n) :: l => match den E k, den E v, denM E l with | some x, some y, some r => some ({ key := x, val := y, born := n } :: r) | _, _, _ => none
theorem denM_ext {E E' : Nm} (h : Ext E E') : ∀ (l : List (V × V × Nat)) (x : List MapEntry), denM E l = some x → denM E' l = some x
  | [], x, hx => by simpa [denM] using hx
  | (k, v, n) :: l, x, hx => by
    simp only [denM] at hx ⊢
    cases hk : den E k with
    | none => rw [hk] at hx; cases hx
    | some y =>
      cases hv : den E v with
      | none => rw [hk, hv] at hx; cases hx
      | some u =>
        cases hl : denM E l with
        | none => rw [hk, hv, hl] at hx; cases hx
        | some z => rw [hk, hv, hl] at hx; rw [den_ext h k y hk, den_ext h v u hv, denM_ext h l z hl]; exact hx
/-- letters that stand for unlike places -/
def Apart (E : Nm) (ls : List N) : Prop := ∀ (i j : Nat) (a b : N), ls[i]? = some a → ls[j]? = some b → i ≠ j → ∃ la lb, E a = some la ∧ E b = some lb ∧ ¬ (la.bl = lb.bl ∧ la.of = lb.of)
theorem Apart.ext {E E' : Nm} (h : Ext E E') {ls : List N} (f : Apart E ls) : Apart E' ls := fun i j a b h1 h2 h3 =>
  let ⟨la, lb, h4, h5, h6⟩ := f i j a b h1 h2 h3; ⟨la, lb, h a la h4, h b lb h5, h6⟩
/-- how an object stands in a world -/
def Stand (P : Program) (E : Nm) (w : World) (l : Loc) : O → Prop
  | .row e c tl => l.of = 0 ∧ ∃ cs rest, c.all V.isOne = true ∧ denL E c = some cs ∧ w.heap[l.bl]? = some (.cells (cs ++ rest).toArray e (0, 0)) ∧
      (match tl with | false => rest = [] | true => cs.length + rest.length = l.cp * P.cellsOf e)
  | .map es cl => ∃ es', denM E es = some es' ∧ w.heap[l.bl]? = some (.map es'.toArray cl)
  | .dead => True
  | .arg c z ls => ∃ cs pre rest e fz, denL E c = some cs ∧ pre.length = l.of ∧ w.heap[l.bl]? = some (.cells (pre ++ (cs ++ rest)).toArray e fz) ∧ (z = true → fz = (0, 0)) ∧ Apart E ls
def Live (h : H) (k : N) : Prop := ∃ o, T.get k h.t = some o ∧ o ≠ .dead
/-- not a caller's own cells -/
def Wr (h : H) (k : N) : Prop := ∀ c z ls, T.get k h.t ≠ some (.arg c z ls)
structure Good (P : Program) (E : Nm) (h : H) (w : World) : Prop where
  fresh : ∀ k l, E k = some l → k.val < h.n.val
  stand : ∀ k o, T.get k h.t = some o → o ≠ .dead → ∃ l, E k = some l ∧ Stand P E w l o
  inj : ∀ i j li lj, Live h i → Live h j → Wr h i ∨ Wr h j → E i = some li → E j = some lj → li.bl = lj.bl → i = j
  glob : ∀ g, g < P.globals.size → ∃ l, E (toN g) = some l ∧ l.bl = g ∧ l.of = 0
structure Step (P : Program) (E : Nm) (h : H) (w : World) (E' : Nm) (h' : H) (w' : World) : Prop where
  ext : Ext E E'
  good : Good P E' h' w'
  mono : h.n.val ≤ h'.n.val
  dom : ∀ k l, E' k = some l → E k = some l ∨ h.n.val ≤ k.val
  img : ∀ k l, Live h' k → E' k = some l → (∃ k0 l0, Live h k0 ∧ E k0 = some l0 ∧ l0.bl = l.bl) ∨ w.heap.size ≤ l.bl
  imgw : ∀ k l, Live h' k → Wr h' k → E' k = some l → (∃ k0 l0, Live h k0 ∧ Wr h k0 ∧ E k0 = some l0 ∧ l0.bl = l.bl) ∨ w.heap.size ≤ l.bl
  frame : ∀ b, b < w.heap.size → (∀ k l, Live h k → Wr h k → E k = some l → l.bl ≠ b) → w'.heap[b]? = w.heap[b]?
  size : w.heap.size ≤ w'.heap.size
  os : w'.os = w.os
  tape : w'.tape = w.tape
  output : w'.output = w.output
theorem Step.refl {P : Program} {E : Nm} {h : H} {w : World} (g : Good P E h w) : Step P E h w E h w :=
  ⟨Ext.refl E, g, Nat.le_refl _, fun _ _ h => .inl h, fun k l h1 h2 => .inl ⟨k, l, h1, h2, rfl⟩, fun k l h1 hw h2 => .inl ⟨k, l, h1, hw, h2, rfl⟩, fun _ _ _ => rfl, Nat.le_refl _, rfl, rfl, rfl⟩
theorem Step.trans {P : Program} {E E₁ E₂ : Nm} {h h₁ h₂ : H} {w w₁ w₂ : World} (s : Step P E h w E₁ h₁ w₁) (t : Step P E₁ h₁ w₁ E₂ h₂ w₂) : Step P E h w E₂ h₂ w₂ where
  ext := s.ext.trans t.ext
  good := t.good
  mono := Nat.le_trans s.mono t.mono
  dom := fun k l hk => (t.dom k l hk).elim (fun h1 => s.dom k l h1) (fun h1 => .inr (Nat.le_trans s.mono h1))
  img := fun k l h1 h2 => by
    rcases t.img k l h1 h2 with ⟨k0, l0, a1, a2, a3⟩ | h3
    · rcases s.img k0 l0 a1 a2 with ⟨k1, l1, b1, b2, b3⟩ | h4
      · exact .inl ⟨k1, l1, b1, b2, b3.trans a3⟩
      · exact .inr (a3 ▸ h4)
    · exact .inr (Nat.le_trans s.size h3)
  imgw := fun k l h1 hw h2 => by
    rcases t.imgw k l h1 hw h2 with ⟨k0, l0, a1, aw, a2, a3⟩ | h3
    · rcases s.imgw k0 l0 a1 aw a2 with ⟨k1, l1, b1, bw, b2, b3⟩ | h4
      · exact .inl ⟨k1, l1, b1, bw, b2, b3.trans a3⟩
      · exact .inr (a3 ▸ h4)
    · exact .inr (Nat.le_trans s.size h3)
  frame := fun b hb hn => by
    rw [t.frame b (Nat.lt_of_lt_of_le hb s.size) ?_, s.frame b hb hn]
    intro k l h1 hw h2 e
    rcases s.imgw k l h1 hw h2 with ⟨k0, l0, a1, aw, a2, a3⟩ | h4
    · exact hn k0 l0 a1 aw a2 (a3.trans e)
    · omega
  size := Nat.le_trans s.size t.size
  os := t.os.trans s.os
  tape := t.tape.trans s.tape
  output := t.output.trans s.output
/-- the world's counter of draws plays no part -/
theorem Good.congr {P : Program} {E : Nm} {h : H} {w w' : World} (g : Good P E h w) (hh : w'.heap = w.heap) : Good P E h w' :=
  ⟨g.fresh, fun k o h1 h2 => by
    obtain ⟨l, h3, h4⟩ := g.stand k o h1 h2
    refine ⟨l, h3, ?_⟩
    cases o <;> simp only [Stand] at h4 ⊢ <;> first | trivial | (rw [hh]; exact h4), g.inj, g.glob⟩
theorem Stand.ext {P : Program} {E E' : Nm} {w w' : World} {l : Loc} {o : O} (h : Ext E E') (hw : w'.heap[l.bl]? = w.heap[l.bl]?) (s : Stand P E w l o) : Stand P E' w' l o := by
  cases o with
  | row e c tl =>
    obtain ⟨h0, cs, rest, h1, h2, h3, h4⟩ := s
    exact ⟨h0, cs, rest, h1, denL_ext h _ _ h2, hw.trans h3, h4⟩
  | map es cl =>
    obtain ⟨es', h1, h2⟩ := s
    exact ⟨es', denM_ext h _ _ h1, hw.trans h2⟩
  | dead => trivial
  | arg c z ls =>
    obtain ⟨cs, pre, rest, e, fz, h1, h2, h3, h4, h5⟩ := s
    exact ⟨cs, pre, rest, e, fz, denL_ext h _ _ h1, h2, hw.trans h3, h4, h5.ext h⟩
open Classical in
noncomputable def Nm.set (E : Nm) (k : N) (l : Loc) : Nm := fun j => if j = k then some l else E j
theorem Nm.set_same (E : Nm) (k : N) (l : Loc) : E.set k l k = some l := by simp [Nm.set]
theorem Nm.set_ne (E : Nm) {k j : N} (l : Loc) (h : j ≠ k) : E.set k l j = E j := by simp [Nm.set, h]
theorem Good.ext_new {P : Program} {E : Nm} {h : H} {w : World} (g : Good P E h w) (l : Loc) : Ext E (E.set h.n l) := fun k x hk => by
  rw [Nm.set_ne E l (fun e => by have := g.fresh k x hk; rw [e] at this; exact absurd this (Nat.lt_irrefl _))]
  exact hk
/-- a block that stands there is no bigger than the heap -/
theorem Stand.lt {P : Program} {E : Nm} {w : World} {l : Loc} {o : O} (ho : o ≠ .dead) (s : Stand P E w l o) : l.bl < w.heap.size := by
  cases o with
  | row e c tl => obtain ⟨_, _, _, _, _, h, _⟩ := s; exact (Array.getElem?_eq_some_iff.1 h).1
  | map es cl => obtain ⟨_, _, h⟩ := s; exact (Array.getElem?_eq_some_iff.1 h).1
  | dead => exact absurd rfl ho
  | arg c z ls => obtain ⟨_, _, _, _, _, _, _, h, _⟩ := s; exact (Array.getElem?_eq_some_iff.1 h).1
/-- a letter of its own, nothing laid -/
theorem Step.next {P : Program} {E : Nm} {h : H} {w w' : World} (g : Good P E h w) (l : Loc) (hw : w'.heap = w.heap ∨ ∃ o, w'.heap = w.heap.push o) (hos : w'.os = w.os) (htp : w'.tape = w.tape) (hout : w'.output = w.output) :
    Step P E h w (E.set h.n l) h.next w' := by
  have hget : ∀ b, b < w.heap.size → w'.heap[b]? = w.heap[b]? := fun b hb => by
    rcases hw with hw | ⟨o, hw⟩
    · rw [hw]
    · rw [hw, Array.getElem?_push, if_neg (by omega)]
  have imgw : ∀ k x, Live h.next k → Wr h.next k → E.set h.n l k = some x → (∃ k0 l0, Live h k0 ∧ Wr h k0 ∧ E k0 = some l0 ∧ l0.bl = x.bl) ∨ w.heap.size ≤ x.bl := fun k x h1 hw h2 => by
    obtain ⟨o, h6, h7⟩ := h1
    obtain ⟨m, h8, _⟩ := g.stand k o h6 h7
    have := g.ext_new l k m h8
    rw [this] at h2
    cases h2
    exact .inl ⟨k, _, ⟨o, h6, h7⟩, hw, h8, rfl⟩
  refine ⟨g.ext_new l, ⟨fun k x hk => ?_, fun k o h1 h2 => ?_, fun i j li lj h1 h2 hw0 h3 h4 h5 => ?_, fun q hq => let ⟨m, h1, h2⟩ := g.glob q hq; ⟨m, g.ext_new l _ m h1, h2⟩⟩, ?_, fun k x hk => ?_, fun k x h1 h2 => ?_, imgw, fun b hb _ => hget b hb, ?_, hos, htp, hout⟩
  · show k.val < h.n.succ.val
    rw [N.val_succ]
    by_cases e : k = h.n
    · subst e; omega
    · rw [Nm.set_ne E l e] at hk; have := g.fresh k x hk; omega
  · obtain ⟨m, h3, h4⟩ := g.stand k o h1 h2
    exact ⟨m, g.ext_new l k m h3, h4.ext (g.ext_new l) (hget _ (h4.lt h2))⟩
  · have live : ∀ {i : N} {li : Loc}, Live h.next i → E.set h.n l i = some li → E i = some li := fun {i li} h1 h3 => by
      obtain ⟨o, h6, h7⟩ := h1
      obtain ⟨m, h8, _⟩ := g.stand i o h6 h7
      have := g.ext_new l i m h8
      rw [this] at h3
      cases h3
      exact h8
    exact g.inj i j li lj h1 h2 hw0 (live h1 h3) (live h2 h4) h5
  · show h.n.val ≤ h.n.succ.val
    rw [N.val_succ]; omega
  · by_cases e : k = h.n
    · subst e; exact .inr (Nat.le_refl _)
    · rw [Nm.set_ne E l e] at hk; exact .inl hk
  · obtain ⟨o, h6, h7⟩ := h1
    obtain ⟨m, h8, _⟩ := g.stand k o h6 h7
    have := g.ext_new l k m h8
    rw [this] at h2
    cases h2
    exact .inl ⟨k, _, ⟨o, h6, h7⟩, h8, rfl⟩
  · rcases hw with hw | ⟨o, hw⟩
    · rw [hw]; exact Nat.le_refl _
    · rw [hw, Array.size_push]; omega
/-- an object is laid at a letter that has a block already, of which no other letter knows -/
theorem Good.lay {P : Program} {E : Nm} {h : H} {w : World} (g : Good P E h w) {k : N} {l : Loc} {o : O} (hE : E k = some l) (ho : o ≠ .dead) (hs : Stand P E w l o)
    (hn : ∀ j m, Live h j → j ≠ k → E j = some m → m.bl ≠ l.bl) : Good P E (h.put k o) w := by
  refine ⟨g.fresh, fun j p h1 h2 => ?_, fun i j li lj h1 h2 hw0 h3 h4 h5 => ?_, g.glob⟩
  · by_cases e : k = j
    · subst e
      have h1 : T.get k (T.set k o h.t) = some p := h1
      rw [T.get_set] at h1
      cases h1
      exact ⟨l, hE, hs⟩
    · have h1 : T.get j (T.set k o h.t) = some p := h1
      rw [T.get_set_ne o k j _ e] at h1
      exact g.stand j p h1 h2
  · have live : ∀ {i : N}, Live (h.put k o) i → i ≠ k → Live h i := fun {i} hl e => by
      obtain ⟨p, h6, h7⟩ := hl
      have h6 : T.get i (T.set k o h.t) = some p := h6
      rw [T.get_set_ne o k i _ (Ne.symm e)] at h6
      exact ⟨p, h6, h7⟩
    by_cases e : i = k
    · by_cases e' : j = k
      · rw [e, e']
      · subst e
        rw [hE] at h3
        cases h3
        exact absurd h5.symm (hn j lj (live h2 e') e' h4)
    · by_cases e' : j = k
      · subst e'
        rw [hE] at h4
        cases h4
        exact absurd h5 (hn i li (live h1 e) e h3)
      · have wr : ∀ {i : N}, Wr (h.put k o) i → i ≠ k → Wr h i := fun {i} hw e c z ls hc => hw c z ls (by
          show T.get i (T.set k o h.t) = _
          rw [T.get_set_ne o k i _ (Ne.symm e)]; exact hc)
        exact g.inj i j li lj (live h1 e) (live h2 e') (hw0.imp (wr · e) (wr · e')) h3 h4 h5
theorem Live.put {h : H} {k j : N} {o : O} (hl : Live (h.put k o) j) : j = k ∨ Live h j := by
  by_cases e : j = k
  · exact .inl e
  · obtain ⟨p, h6, h7⟩ := hl
    have h6 : T.get j (T.set k o h.t) = some p := h6
    rw [T.get_set_ne o k j _ (Ne.symm e)] at h6
    exact .inr ⟨p, h6, h7⟩
/-- a new block at a new letter -/
theorem Step.new {P : Program} {E : Nm} {h : H} {w w' : World} (g : Good P E h w) {o : O} {ob : Obj} (l : Loc) (hl : l.bl = w.heap.size) (ho : o ≠ .dead) (hw : w'.heap = w.heap.push ob) (hos : w'.os = w.os) (htp : w'.tape = w.tape) (hout : w'.output = w.output)
    (hs : Stand P (E.set h.n l) w' l o) : Step P E h w (E.set h.n l) (h.new o) w' := by
  have s := Step.next g l (.inr ⟨ob, hw⟩) hos htp hout
  have hput : h.new o = h.next.put h.n o := rfl
  have hfar : ∀ j m, Live h j → E.set h.n l j = some m → m.bl < w.heap.size := fun j m hj hm => by
    obtain ⟨p, h6, h7⟩ := hj
    obtain ⟨x, h8, h9⟩ := g.stand j p h6 h7
    have := g.ext_new l j x h8
    rw [this] at hm
    cases hm
    exact h9.lt h7
  have imgw : ∀ k x, Live (h.next.put h.n o) k → Wr (h.next.put h.n o) k → E.set h.n l k = some x → (∃ k0 l0, Live h k0 ∧ Wr h k0 ∧ E k0 = some l0 ∧ l0.bl = x.bl) ∨ w.heap.size ≤ x.bl := fun k x h1 hw0 h2 => by
    by_cases e : k = h.n
    · subst e
      rw [Nm.set_same] at h2
      cases h2
      exact .inr (by omega)
    · exact s.imgw k x ((Live.put h1).resolve_left e) (fun c z ls hc => hw0 c z ls (by
        show T.get k (T.set h.n o h.next.t) = _
        rw [T.get_set_ne o h.n k _ (Ne.symm e)]; exact hc)) h2
  rw [hput]
  refine ⟨s.ext, Good.lay s.good (Nm.set_same E h.n l) ho hs (fun j m hj _ hm e => ?_), s.mono, s.dom, fun k x h1 h2 => ?_, imgw, s.frame, s.size, hos, htp, hout⟩
  · have := hfar j m hj hm
    omega
  · rcases Live.put h1 with e | h1
    · subst e
      rw [Nm.set_same] at h2
      cases h2
      exact .inr (by omega)
    · exact s.img k x h1 h2
/-- a block is written -/
theorem Step.put {P : Program} {E : Nm} {h : H} {w w' : World} (g : Good P E h w) {k : N} {l : Loc} {o o' : O} (hg : T.get k h.t = some o) (hd : o ≠ .dead ∧ ∀ c z ls, o ≠ .arg c z ls) (hE : E k = some l) (ho : o' ≠ .dead) (hs : Stand P E w' l o')
    (hw : ∀ b, b ≠ l.bl → w'.heap[b]? = w.heap[b]?) (hsz : w'.heap.size = w.heap.size) (hos : w'.os = w.os) (htp : w'.tape = w.tape) (hout : w'.output = w.output) :
    Step P E h w E (h.put k o') w' := by
  have hk : Live h k := ⟨o, hg, hd.1⟩
  have hwk : Wr h k := fun c z ls hc => by rw [hg] at hc; cases hc; exact hd.2 c z ls rfl
  have hother : ∀ j p m, T.get j h.t = some p → p ≠ .dead → j ≠ k → E j = some m → m.bl ≠ l.bl := fun j p m h1 h2 h3 h4 h5 =>
    h3 (g.inj j k m l ⟨p, h1, h2⟩ hk (.inr hwk) h4 hE h5)
  have imgw : ∀ j m, Live (h.put k o') j → Wr (h.put k o') j → E j = some m → (∃ k0 l0, Live h k0 ∧ Wr h k0 ∧ E k0 = some l0 ∧ l0.bl = m.bl) ∨ w.heap.size ≤ m.bl := fun j m h1 hw0 h2 => by
    by_cases e : j = k
    · subst e; exact .inl ⟨j, m, hk, hwk, h2, rfl⟩
    · exact .inl ⟨j, m, (Live.put h1).resolve_left e, fun c z ls hc => hw0 c z ls (by
        show T.get j (T.set k o' h.t) = _
        rw [T.get_set_ne o' k j _ (Ne.symm e)]; exact hc), h2, rfl⟩
  refine ⟨Ext.refl E, ⟨g.fresh, fun j p h1 h2 => ?_, fun i j li lj h1 h2 hw0 h3 h4 h5 => ?_, g.glob⟩, Nat.le_refl _, fun _ _ h => .inl h, fun j m h1 h2 => ?_, imgw, fun b hb hn => hw b (Ne.symm (hn k l hk hwk hE)), by omega, hos, htp, hout⟩
  · by_cases e : k = j
    · subst e
      have h1 : T.get k (T.set k o' h.t) = some p := h1
      rw [T.get_set] at h1
      cases h1
      exact ⟨l, hE, hs⟩
    · have h1 : T.get j (T.set k o' h.t) = some p := h1
      rw [T.get_set_ne o' k j _ e] at h1
      obtain ⟨m, h3, h4⟩ := g.stand j p h1 h2
      exact ⟨m, h3, h4.ext (Ext.refl E) (hw _ (hother j p m h1 h2 (Ne.symm e) h3))⟩
  · have live : ∀ {i : N}, Live (h.put k o') i → Live h i := fun {i} hl => (Live.put hl).elim (fun e => e ▸ hk) id
    have wr : ∀ {i : N}, Wr (h.put k o') i → Wr h i := fun {i} hw c z ls hc => by
      by_cases e : i = k
      · subst e; exact hwk c z ls hc
      · exact hw c z ls (by
          show T.get i (T.set k o' h.t) = _
          rw [T.get_set_ne o' k i _ (Ne.symm e)]; exact hc)
    exact g.inj i j li lj (live h1) (live h2) (hw0.imp wr wr) h3 h4 h5
  · exact .inl ⟨j, m, (Live.put h1).elim (fun e => e ▸ hk) id, h2, rfl⟩
end Go.Ev

/-
  The evaluator of closed calls: a part.
-/
set_option linter.unusedVariables false
set_option linter.unusedSimpArgs false
namespace Go.Ev
theorem ble_iff {a b : Nat} : Nat.ble a b = true ↔ a ≤ b := by rw [Nat.ble_eq]
theorem wrapS (F G : Int) (a : Int) (hF : F = 2 * G) (hG : 0 < G) : (if decide (a % F ≥ G) = true then a % F - F else a % F) = (a + G) % F - G := by
  have hm : a % F = a - F * (a / F) := by have := Int.mul_ediv_add_emod a F; omega
  have h0 := Int.emod_nonneg a (show F ≠ 0 by omega)
  have h1 := Int.emod_lt_of_pos a (show 0 < F by omega)
  split
  · rename_i h
    have h := of_decide_eq_true h
    have : (a + G) % F = a % F + G - F := by
      rw [show a + G = (a % F + G - F) + F * (a / F + 1) by rw [hm, Int.mul_add]; omega, Int.add_mul_emod_self_left]
      exact Int.emod_eq_of_lt (by omega) (by omega)
    omega
  · rename_i h
    have h : ¬ (a % F ≥ G) := fun e => h (decide_eq_true e)
    have : (a + G) % F = a % F + G := by
      rw [show a + G = (a % F + G) + F * (a / F) by rw [hm]; omega, Int.add_mul_emod_self_left]
      exact Int.emod_eq_of_lt (by omega) (by omega)
    omega
/-- one form for all kinds -/
theorem wrap_eq (k : IntKind) (a : Int) : k.wrap a = (a + (half k : Int)) % (full k : Int) - (half k : Int) := by
  cases k
  · exact wrapS 256 128 a rfl (by decide)
  · exact wrapS 65536 32768 a rfl (by decide)
  · exact wrapS 4294967296 2147483648 a rfl (by decide)
  · exact wrapS 18446744073709551616 9223372036854775808 a rfl (by decide)
  all_goals
    show a % _ = _
    simp only [half, full, Int.natCast_zero, Int.add_zero, Int.sub_zero]
    exact congrArg (a % ·) (by decide)
/-! whole numbers of a kind, as remainders -/
theorem wrap_congr (k : IntKind) {a b : Int} (h : a % (full k : Int) = b % (full k : Int)) : k.wrap a = k.wrap b := by
  rw [wrap_eq, wrap_eq, Int.add_emod, h, ← Int.add_emod]
theorem wrap_mod (k : IntKind) (a : Int) : k.wrap a % (full k : Int) = a % (full k : Int) := by
  rw [wrap_eq, Int.sub_emod, Int.emod_emod, ← Int.sub_emod]
  congr 1
  omega
theorem full_pos (k : IntKind) : 0 < full k := by cases k <;> decide
theorem wr_true {k : IntKind} {n : Nat} {c : KV} (h : wr k n c = true) : c (.int k (n % full k)) = true := by
  unfold wr at h; rw [natK_eq] at h; exact h
theorem mod_full (k : IntKind) (n : Nat) : n % full k < full k := Nat.mod_lt _ (full_pos k)
theorem wrap_nat_mod (k : IntKind) (n : Nat) : k.wrap ((n % full k : Nat) : Int) = k.wrap n := wrap_congr k (by rw [Int.natCast_emod, Int.emod_emod])
theorem wrap_add (k : IntKind) (m n : Nat) : k.wrap (k.wrap m + k.wrap n) = k.wrap ((m + n : Nat) : Int) := wrap_congr k (by
  rw [Int.add_emod, wrap_mod, wrap_mod, ← Int.add_emod, Int.natCast_add])
theorem wrap_mul (k : IntKind) (m n : Nat) : k.wrap (k.wrap m * k.wrap n) = k.wrap ((m * n : Nat) : Int) := wrap_congr k (by
  rw [Int.mul_emod, wrap_mod, wrap_mod, ← Int.mul_emod, Int.natCast_mul])
theorem wrap_sub (k : IntKind) (m n : Nat) (hn : n < full k) : k.wrap (k.wrap m - k.wrap n) = k.wrap ((m + full k - n : Nat) : Int) := wrap_congr k (by
  rw [Int.sub_emod, wrap_mod, wrap_mod, ← Int.sub_emod, Int.natCast_sub (by omega), Int.natCast_add]
  rw [show (m : Int) + full k - n = (m - n) + full k by omega, Int.add_emod_right])
/-- not below 0 -/
theorem onPos_true {k : IntKind} {n : Nat} {c : Bool} (h : onPos k n c = true) : pos k n = true ∧ c = true := by
  unfold onPos at h; exact condK_true h
theorem pos_iff {k : IntKind} {n : Nat} : pos k n = true ↔ n + 1 ≤ full k - half k := ble_iff
theorem wrap_pos {k : IntKind} {n : Nat} (h : pos k n = true) : k.wrap n = n := by
  have h := pos_iff.1 h
  rw [wrap_eq, Int.emod_eq_of_lt (by omega) (by omega)]
  omega
theorem pos_le {k : IntKind} {m n : Nat} (h : pos k n = true) (hm : m ≤ n) : pos k m = true := by
  have h := pos_iff.1 h
  exact pos_iff.2 (by omega)
theorem pos_lt {k : IntKind} {n : Nat} (h : pos k n = true) : n < full k := by
  have h := pos_iff.1 h
  omega
theorem half_le (k : IntKind) : 2 * half k ≤ full k := by cases k <;> decide
theorem not_pos {k : IntKind} {n : Nat} (hn : n < full k) (h : pos k n = false) : k.wrap n = (n : Int) - full k := by
  have h : ¬ (n + 1 ≤ full k - half k) := fun e => by rw [pos_iff.2 e] at h; cases h
  have hh := half_le k
  rw [wrap_eq]
  obtain ⟨x, hx⟩ : ∃ x : Int, x = n + half k - full k := ⟨_, rfl⟩
  have : ((n : Int) + half k) % full k = x := by
    rw [show (n : Int) + half k = x + full k * 1 by omega, Int.add_mul_emod_self_left]
    exact Int.emod_eq_of_lt (by omega) (by omega)
  omega
theorem ltB_iff {k : IntKind} {m n : Nat} : ltB k m n = true ↔ k.wrap m < k.wrap n := by
  have e : ltB k m n = true ↔ (m + half k) % full k + 1 ≤ (n + half k) % full k := ble_iff
  rw [e, wrap_eq, wrap_eq]
  have h1 : ((m + half k) % full k : Nat) = (((m : Int) + half k) % full k) := by rw [Int.natCast_emod, Int.natCast_add]
  have h2 : ((n + half k) % full k : Nat) = (((n : Int) + half k) % full k) := by rw [Int.natCast_emod, Int.natCast_add]
  omega
theorem wrap_inj {k : IntKind} {m n : Nat} (hm : m < full k) (hn : n < full k) : k.wrap m = k.wrap n ↔ m = n := by
  constructor
  · intro h
    have h1 := wrap_mod k m
    have h2 := wrap_mod k n
    rw [h] at h1
    have h3 := h1.symm.trans h2
    have e1 : (m : Int) % (full k : Int) = m := Int.emod_eq_of_lt (by omega) (by omega)
    have e2 : (n : Int) % (full k : Int) = n := Int.emod_eq_of_lt (by omega) (by omega)
    rw [e1, e2] at h3
    omega
  · rintro rfl; rfl
theorem full_eq (k : IntKind) : full k = 2 ^ k.bits := by cases k <;> rfl
theorem ofInt_wrap (k : IntKind) (m : Nat) : BitVec.ofInt k.bits (k.wrap m) = BitVec.ofNat k.bits m := by
  apply BitVec.eq_of_toNat_eq
  rw [BitVec.toNat_ofInt, BitVec.toNat_ofNat]
  have := wrap_mod k m
  rw [full_eq] at this
  have e : ((2 ^ k.bits : Nat) : Int) = (2 : Int) ^ k.bits := by simp
  have h : k.wrap m % ((2 ^ k.bits : Nat) : Int) = ((m % 2 ^ k.bits : Nat) : Int) := by rw [this]; simp
  rw [h]
  exact Int.toNat_natCast _
theorem same_kind {i j : IntKind} (h : Nat.beq i.ctorIdx j.ctorIdx = true) : i = j := by
  cases i <;> cases j <;> first | rfl | exact absurd h (by decide)
theorem conv_wrap (i j : IntKind) (n : Nat) (hn : n < full i) (h : pos i n = false) : j.wrap (i.wrap n) = j.wrap ((n + (18446744073709551616 - full i) : Nat) : Int) := by
  rw [not_pos hn h]
  apply wrap_congr
  cases i <;> cases j <;> simp only [full] at * <;> omega
end Go.Ev

/-
  The evaluator of closed calls: a part.
-/
set_option linter.unusedVariables false
set_option linter.unusedSimpArgs false
namespace Go.Ev
/-! lists of values -/
theorem v1_true {vs : List V} {f : V → Bool} (h : v1 vs f = true) : ∃ x, vs = [x] ∧ f x = true := by
  cases vs with
  | nil => exact Bool.noConfusion h
  | cons x l => cases l with
    | nil => exact ⟨x, rfl, h⟩
    | cons y l => exact Bool.noConfusion h
theorem vh_true {vs : List V} {f : V → List V → Bool} (h : vh vs f = true) : ∃ x l, vs = x :: l ∧ f x l = true := by
  cases vs with
  | nil => exact Bool.noConfusion h
  | cons x l => exact ⟨x, l, rfl, h⟩
theorem v2_true {vs : List V} {f : V → V → Bool} (h : v2 vs f = true) : ∃ x y, vs = [x, y] ∧ f x y = true := by
  cases vs with
  | nil => exact Bool.noConfusion h
  | cons x l =>
    obtain ⟨y, rfl, h⟩ := v1_true (vs := l) (f := f x) h
    exact ⟨x, y, rfl, h⟩
theorem v3_true {vs : List V} {f : V → V → V → Bool} (h : v3 vs f = true) : ∃ x y z, vs = [x, y, z] ∧ f x y z = true := by
  cases vs with
  | nil => exact Bool.noConfusion h
  | cons x l =>
    obtain ⟨y, z, rfl, h⟩ := v2_true (vs := l) (f := f x) h
    exact ⟨x, y, z, rfl, h⟩
theorem den1 {E : Nm} {x : V} {a : Value} (h : denL E [x] = some [a]) : den E x = some a := by
  obtain ⟨y, z, h1, h2, h3⟩ := denL_cons.1 h
  cases h3; exact h1
theorem den2 {E : Nm} {x y : V} {a b : Value} (h : denL E [x, y] = some [a, b]) : den E x = some a ∧ den E y = some b := by
  obtain ⟨u, z, h1, h2, h3⟩ := denL_cons.1 h
  cases h3; exact ⟨h1, den1 h2⟩
theorem den3 {E : Nm} {x y z : V} {a b c : Value} (h : denL E [x, y, z] = some [a, b, c]) : den E x = some a ∧ den E y = some b ∧ den E z = some c := by
  obtain ⟨u, r, h1, h2, h3⟩ := denL_cons.1 h
  cases h3; exact ⟨h1, den2 h2⟩
/-- the objects of a heap stand in a world -/
def GoodS (P : Program) (E : Nm) (h : H) (w : World) : Prop := ∀ k o, T.get k h.t = some o → o ≠ .dead → ∃ l, E k = some l ∧ Stand P E w l o
/-- an operation reads v in the heap h, in every world where h stands -/
def RdOk (P : Program) (op : Op) (vs : List V) (h : H) (v : V) : Prop :=
  ∀ E w ρ (o : Oper), GoodS P E h w → o.op = op → denL E vs = some (op.operands.toList.map ρ) →
    ∃ x, den E v = some x ∧ (execOp ρ o).run P w = .ok (.value x) w

/-- an operation yields v whatever the heap -/
def PuOk (P : Program) (op : Op) (vs : List V) (v : V) : Prop :=
  ∀ (E : Nm) (w : World) (ρ : Operand → Value) (o : Oper), o.op = op → denL E vs = some (op.operands.toList.map ρ) →
    ∃ x, den E v = some x ∧ (execOp ρ o).run P w = .ok (.value x) w
theorem PuOk.rd {P : Program} {op : Op} {vs : List V} {v : V} (p : PuOk P op vs v) (h : H) : RdOk P op vs h v := fun E w ρ o _ ho hd => p E w ρ o ho hd

section
variable {P : Program} {vs : List V} {h : H} {k : KV}
theorem rd_move {a : Operand} (hk : v1 vs k = true) : ∃ v, k v = true ∧ PuOk P (.move a) vs v := by
  obtain ⟨x, rfl, hk⟩ := v1_true hk
  refine ⟨x, hk, fun E w ρ o ho hd => ?_⟩
  exact ⟨ρ a, den1 hd, by simp [execOp, ho]⟩
theorem rd_assign {a : Operand} (hk : v1 vs k = true) : ∃ v, k v = true ∧ PuOk P (.assign a) vs v := by
  obtain ⟨x, rfl, hk⟩ := v1_true hk
  refine ⟨x, hk, fun E w ρ o ho hd => ?_⟩
  exact ⟨ρ a, den1 hd, by simp [execOp, ho]⟩
theorem r_pick_eq (c x y : V) (k : KV) : r_pick c x y k = c.onBool (k x) (k y) := by cases c <;> rfl
theorem r_not_eq (x : V) (k : KV) : r_not x k = x.onBool (k (.bool false)) (k (.bool true)) := by cases x <;> rfl
theorem rd_pick {a b c : Operand} (hk : v3 vs (fun c x y => r_pick c x y k) = true) : ∃ v, k v = true ∧ PuOk P (.pick c a b) vs v := by
  obtain ⟨x, y, z, rfl, hk1⟩ := v3_true hk
  rw [r_pick_eq] at hk1
  rcases V.onBool_true hk1 with ⟨rfl, hk⟩ | ⟨rfl, hk⟩
  · refine ⟨y, hk, fun E w ρ o ho hd => ?_⟩
    obtain ⟨h1, h2, h3⟩ := den3 hd
    have h1 : ρ c = .bool true := by simp only [den, Option.some.injEq] at h1; exact h1.symm
    exact ⟨ρ a, h2, by simp [execOp, ho, h1, asBool]⟩
  · refine ⟨z, hk, fun E w ρ o ho hd => ?_⟩
    obtain ⟨h1, h2, h3⟩ := den3 hd
    have h1 : ρ c = .bool false := by simp only [den, Option.some.injEq] at h1; exact h1.symm
    exact ⟨ρ b, h3, by simp [execOp, ho, h1, asBool]⟩
theorem rd_nilCheck {a : Operand} (hk : v1 vs (fun x => r_nilc x k) = true) : ∃ v, k v = true ∧ PuOk P (.nilCheck a) vs v := by
  obtain ⟨x, rfl, hk⟩ := v1_true hk
  have hk' : k x = true := by cases x <;> first | exact hk | exact Bool.noConfusion hk
  refine ⟨x, hk', fun E w ρ o ho hd => ?_⟩
  have hd := den1 hd
  refine ⟨ρ a, hd, ?_⟩
  simp only [execOp, ho]
  cases x with
  | sl b o len c =>
    obtain ⟨l, cap, _, _, e, _⟩ := den_sl hd
    rw [e]; rfl
  | int i n => obtain ⟨_, e⟩ := den_int hd; rw [e]; rfl
  | ptr b o => obtain ⟨l, _, e⟩ := den_ptr hd; rw [e]; rfl
  | slz b => simp only [den] at hd; split at hd <;> first | cases hd | skip
             injection hd with hd; rw [← hd]; rfl
  | map b => simp only [den] at hd; split at hd <;> first | cases hd | skip
             injection hd with hd; rw [← hd]; rfl
  | fn f a b => simp only [den] at hd; split at hd <;> first | cases hd | skip
                injection hd with hd; rw [← hd]; rfl
  | ifc t v => simp only [den] at hd; split at hd <;> first | cases hd | skip
               injection hd with hd; rw [← hd]; rfl
  | agg l => obtain ⟨cs, _, _, e⟩ := den_agg hd; rw [e]; rfl
  | bool b => simp only [den] at hd; injection hd with hd; rw [← hd]; rfl
  | str b => simp only [den] at hd; injection hd with hd; rw [← hd]; rfl
  | nils => simp only [den] at hd; injection hd with hd; rw [← hd]; rfl
  | nilm => simp only [den] at hd; injection hd with hd; rw [← hd]; rfl
  | nilp => exact Bool.noConfusion hk
  | nilf => exact Bool.noConfusion hk
  | nili => exact Bool.noConfusion hk
  | tup l => exact Bool.noConfusion hk
  | opq l => exact Bool.noConfusion hk
theorem rd_not {t : TypeId} {a : Operand} (hk : v1 vs (fun x => r_not x k) = true) : ∃ v, k v = true ∧ PuOk P (.unOp .not t a) vs v := by
  obtain ⟨x, rfl, hk1⟩ := v1_true hk
  rw [r_not_eq] at hk1
  rcases V.onBool_true hk1 with ⟨rfl, hk⟩ | ⟨rfl, hk⟩
  · refine ⟨_, hk, fun E w ρ o ho hd => ?_⟩
    have h1 := den1 hd
    have h1 : ρ a = .bool true := by simp only [den, Option.some.injEq] at h1; exact h1.symm
    exact ⟨.bool false, by simp [den], by simp [execOp, ho, h1, Op.unary]⟩
  · refine ⟨_, hk, fun E w ρ o ho hd => ?_⟩
    have h1 := den1 hd
    have h1 : ρ a = .bool false := by simp only [den, Option.some.injEq] at h1; exact h1.symm
    exact ⟨.bool true, by simp [den], by simp [execOp, ho, h1, Op.unary]⟩
theorem rd_conv {s d : TypeId} {i j : IntKind} {a : Operand} (hs : P.underlying s = some (.int i)) (hd' : P.underlying d = some (.int j)) (hk : v1 vs (fun x => r_conv j x k) = true) :
    ∃ v, k v = true ∧ PuOk P (.convert s d a) vs v := by
  obtain ⟨x, rfl, hk⟩ := v1_true hk
  obtain ⟨i', n, rfl, hk⟩ := V.onInt_true hk
  have run : ∀ (w : World) (ρ : Operand → Value) (o : Oper), o.op = .convert s d a → ρ a = .int i' (i'.wrap n) → (execOp ρ o).run P w = .ok (.value (.int j (j.wrap (i'.wrap n)))) w := fun w ρ o ho e => by
    simp [execOp, ho, e, convert, run_underlying hs, run_underlying hd', Conv.intToInt]
  rcases condK_or hk with ⟨hp, hk⟩ | ⟨hp, hk⟩
  · refine ⟨_, wr_true hk, fun E w ρ o ho hd => ?_⟩
    obtain ⟨h1, h2⟩ := den_int (den1 hd)
    refine ⟨_, int_den (mod_full j n), ?_⟩
    rw [run w ρ o ho h2, wrap_nat_mod, wrap_pos hp]
  · refine ⟨_, wr_true hk, fun E w ρ o ho hd => ?_⟩
    obtain ⟨h1, h2⟩ := den_int (den1 hd)
    refine ⟨_, int_den (mod_full j _), ?_⟩
    rw [run w ρ o ho h2, wrap_nat_mod, conv_wrap i' j n h1 hp]
    rfl
theorem rd_ifc {t : TypeId} {a : Operand} (hc : P.concrete t = true) (hk : v1 vs (fun x => k (.ifc t x)) = true) : ∃ v, k v = true ∧ PuOk P (.makeInterface t a) vs v := by
  obtain ⟨x, rfl, hk⟩ := v1_true hk
  refine ⟨_, hk, fun E w ρ o ho hd => ?_⟩
  have h1 := den1 hd
  exact ⟨.iface t (ρ a), by simp [den, h1], by simp [execOp, ho, run_makeInterface w t _ hc]⟩
theorem rd_ext {a : Operand} {i : Nat} (hk : v1 vs (fun x => r_ext i x k) = true) : ∃ v, k v = true ∧ PuOk P (.extract a i) vs v := by
  obtain ⟨x, rfl, hk⟩ := v1_true hk
  obtain ⟨l, rfl, hk⟩ := V.onTup_true hk
  obtain ⟨v, hv, hk⟩ := nthK_true hk
  refine ⟨v, hk, fun E w ρ o ho hd => ?_⟩
  obtain ⟨cs, h1, h2⟩ := den_tup (den1 hd)
  obtain ⟨y, h3, h4⟩ := denL_get h1 hv
  exact ⟨y, h3, by simp [execOp, ho, h2, Instr.extract, h4]⟩
theorem agg_run {t : TypeId} {b : Bool} (ha : aggO P t = some b) (w : World) : (isAgg t).run P w = .ok b w := by
  unfold aggO at ha
  unfold isAgg
  cases hu : P.underlying t with
  | none => rw [hu] at ha; cases ha
  | some d =>
    rw [hu] at ha
    rw [Sem.run_bind, run_underlying hu w]
    cases d <;> cases ha <;> rfl
theorem size_run {t : TypeId} {s : Nat} (hs : szO P t = some s) (w : World) : (sizeOf t).run P w = .ok s w := by
  unfold szO at hs
  cases hi : P.info? t with
  | none => rw [hi] at hs; cases hs
  | some i => rw [hi] at hs; cases hs; simp [sizeOf, typeInfo, hi]
theorem cell_of {w : World} {b e : Nat} {cs : List Value} {fz : Nat × Nat} (hw : w.heap[b]? = some (.cells cs.toArray e fz)) (o : Nat) : w.cell? ⟨b, o, none⟩ = cs[o]? := by
  simp [World.cell?, hw]
theorem cells_stand {E : Nm} {w : World} {h : H} {b : N} {o' : Nat} {ob : O} {c : List V} {l : Loc} {v : V} (g : ∀ k o, T.get k h.t = some o → o ≠ .dead → ∃ l, E k = some l ∧ Stand P E w l o)
    (hg : T.get b h.t = some ob) (hob : (∃ e tl, ob = .row e c tl) ∨ ∃ z ls, ob = .arg c z ls) (h1 : E b = some l) (hv : c[o']? = some v) :
    ∃ y, den E v = some y ∧ w.cell? ⟨l.bl, l.of + o', none⟩ = some y := by
  rcases hob with ⟨e, tl, rfl⟩ | ⟨z, ls, rfl⟩
  · obtain ⟨l', h3, h0, cs, rest, h4, h5, h6, h7⟩ := g b _ hg (by simp)
    rw [h1] at h3; cases h3
    obtain ⟨y, h8, h9⟩ := denL_get h5 hv
    refine ⟨y, h8, ?_⟩
    rw [h0, Nat.zero_add, cell_of h6, List.getElem?_append_left (List.getElem?_eq_some_iff.1 h9).1]; exact h9
  · obtain ⟨l', h3, cs, pre, rest, e, fz, h5, h0, h6, _⟩ := g b _ hg (by simp)
    rw [h1] at h3; cases h3
    obtain ⟨y, h8, h9⟩ := denL_get h5 hv
    refine ⟨y, h8, ?_⟩
    rw [← h0, cell_of h6, List.getElem?_append_right (by omega), Nat.add_sub_cancel_left, List.getElem?_append_left (List.getElem?_eq_some_iff.1 h9).1]; exact h9
theorem rd_load1 {t : TypeId} {a : Operand} (ha : aggO P t = some false) (hk : v1 vs (fun x => r_load1 x h k) = true) : ∃ v, k v = true ∧ RdOk P (.load t a) vs h v := by
  obtain ⟨x, rfl, hk⟩ := v1_true hk
  obtain ⟨b, o', rfl, hk⟩ := V.onPtr_true hk
  obtain ⟨ob, c, hg, hob, hk⟩ := H.cellsK_true hk
  obtain ⟨v, hv, hk⟩ := nthK_true hk
  refine ⟨v, hk, fun E w ρ o g ho hd => ?_⟩
  obtain ⟨l, h1, h2⟩ := den_ptr (den1 hd)
  obtain ⟨y, h8, hc⟩ := cells_stand g hg hob h1 hv
  exact ⟨y, h8, by simp [execOp, ho, h2, Instr.loadAt, Instr.sureAddr, loadVar, agg_run ha, hc]⟩
theorem loadCells_run {w : World} {b : Nat} {o s e : Nat} {cs rest : List Value} {fz : Nat × Nat} (hw : w.heap[b]? = some (.cells (cs ++ rest).toArray e fz)) (hl : o + s ≤ cs.length) :
    (loadCells ⟨b, o, none⟩ s).run P w = .ok ((cs.drop o).take s).toArray w := by
  have h1 := run_loadCells_list (P := P) w ⟨b, o, none⟩ ((cs.drop o).take s) (fun j v hv => by
    have hj := (List.getElem?_eq_some_iff.1 hv).1
    rw [List.length_take, List.length_drop] at hj
    rw [Addr.add_mid, cell_of hw, List.getElem?_append_left (by omega)]
    rw [List.getElem?_take_of_lt (by omega), List.getElem?_drop] at hv
    exact hv)
  rw [List.length_take, List.length_drop, Nat.min_eq_left (by omega)] at h1
  exact h1
theorem rd_loadA {t : TypeId} {s : Nat} {a : Operand} (ha : aggO P t = some true) (hs : szO P t = some s) (hk : v1 vs (fun x => r_loadA s x h k) = true) : ∃ v, k v = true ∧ RdOk P (.load t a) vs h v := by
  obtain ⟨x, rfl, hk⟩ := v1_true hk
  obtain ⟨b, o', rfl, hk⟩ := V.onPtr_true hk
  obtain ⟨e, c, tl, hg, hlen, hk⟩ := H.loadK_true hk
  refine ⟨_, hk, fun E w ρ o g ho hd => ?_⟩
  obtain ⟨l, h1, h2⟩ := den_ptr (den1 hd)
  obtain ⟨l', h3, h0, cs, rest, h4, h5, h6, h7⟩ := g b _ hg (by simp)
  rw [h1] at h3; cases h3
  rw [h0, Nat.zero_add] at h2
  have hcl := denL_length h5
  refine ⟨_, agg_den ?_ (denL_take s (denL_drop o' h5)), ?_⟩
  · exact List.all_eq_true.2 fun x hx => List.all_eq_true.1 h4 x (List.mem_of_mem_drop (List.mem_of_mem_take hx))
  · simp [execOp, ho, h2, Instr.loadAt, Instr.sureAddr, loadVar, agg_run ha, size_run hs, loadCells_run (P := P) h6 (show o' + s ≤ cs.length by omega)]
end
end Go.Ev

/-
  The evaluator of closed calls: a part.
-/
set_option linter.unusedVariables false
set_option linter.unusedSimpArgs false
namespace Go.Ev
section
variable {P : Program} {vs : List V} {h : H} {k : KV}
/-- what a function on numbers must do to stand for an operation -/
def BinOk (f : BK) (run : IntKind → Nat → IntKind → Nat → Sem Value) (diff : Bool) : Prop :=
  ∀ (i j : IntKind) (m n : Nat) (c : KV), (diff = true ∨ i = j) → f i m j n c = true →
    ∃ v, c v = true ∧ (m < full i → n < full j → ∀ E : Nm, ∃ x, den E v = some x ∧ ∀ (P : Program) (w : World), (run i m j n).run P w = .ok x w)
theorem bk_add : BinOk b_add (fun i m _ n => Op.intArith .add i (i.wrap m) (i.wrap n)) false := by
  intro i j m n c hd hf
  refine ⟨_, wr_true hf, fun _ _ E => ⟨_, int_den (mod_full i _), fun P w => ?_⟩⟩
  simp only [Op.intArith, Sem.run_pure, wrap_nat_mod, wrap_add]; rfl
theorem bk_sub : BinOk b_sub (fun i m _ n => Op.intArith .sub i (i.wrap m) (i.wrap n)) false := by
  intro i j m n c hd hf
  have hij : i = j := hd.resolve_left (by simp)
  refine ⟨_, wr_true hf, fun _ hn E => ⟨_, int_den (mod_full i _), fun P w => ?_⟩⟩
  simp only [Op.intArith, Sem.run_pure, wrap_nat_mod, wrap_sub i m n (hij ▸ hn)]; rfl
theorem bk_mul : BinOk b_mul (fun i m _ n => Op.intArith .mul i (i.wrap m) (i.wrap n)) false := by
  intro i j m n c hd hf
  refine ⟨_, wr_true hf, fun _ _ E => ⟨_, int_den (mod_full i _), fun P w => ?_⟩⟩
  simp only [Op.intArith, Sem.run_pure, wrap_nat_mod, wrap_mul]; rfl
theorem natrec_true {n : Nat} {c : Bool} (h : (Nat.rec false (fun _ _ => c) n : Bool) = true) : 0 < n ∧ c = true := by
  cases n with
  | zero => exact Bool.noConfusion h
  | succ n => exact ⟨Nat.succ_pos n, h⟩
theorem bk_quo : BinOk b_quo (fun i m _ n => Op.intDiv .quo i (i.wrap m) (i.wrap n)) false := by
  intro i j m n c hd hf
  obtain ⟨hm, hf⟩ := onPos_true hf
  obtain ⟨hn, hf⟩ := onPos_true hf
  obtain ⟨h0, hf⟩ := natrec_true hf
  rw [natK_eq] at hf
  have hle : m.div n ≤ m := Nat.div_le_self m n
  refine ⟨_, hf, fun _ _ E => ⟨_, int_den (pos_lt (pos_le hm hle)), fun P w => ?_⟩⟩
  simp only [Op.intDiv, wrap_pos hm, wrap_pos hn]
  rw [if_neg (by omega)]
  have : ((m : Int).tdiv (n : Int)) = ((m.div n : Nat) : Int) := rfl
  rw [this]; rfl
theorem bk_rem : BinOk b_rem (fun i m _ n => Op.intDiv .rem i (i.wrap m) (i.wrap n)) false := by
  intro i j m n c hd hf
  obtain ⟨hm, hf⟩ := onPos_true hf
  obtain ⟨hn, hf⟩ := onPos_true hf
  obtain ⟨h0, hf⟩ := natrec_true hf
  rw [natK_eq] at hf
  have hle : m.mod n ≤ m := Nat.mod_le m n
  refine ⟨_, hf, fun _ _ E => ⟨_, int_den (pos_lt (pos_le hm hle)), fun P w => ?_⟩⟩
  simp only [Op.intDiv, wrap_pos hm, wrap_pos hn]
  rw [if_neg (by omega)]
  have : ((m : Int).tmod (n : Int)) = ((m.mod n : Nat) : Int) := rfl
  rw [this, wrap_pos (pos_le hm hle)]; rfl
theorem lt_bits {i : IntKind} {m : Nat} (hm : m < full i) : m < 2 ^ i.bits := by rw [← full_eq]; exact hm
theorem bv_nat {i : IntKind} {m : Nat} (hm : m < full i) : (BitVec.ofNat i.bits m).toNat = m := by
  rw [BitVec.toNat_ofNat, Nat.mod_eq_of_lt (lt_bits hm)]
theorem bk_and : BinOk b_and (fun i m _ n => Op.intBits .and i (i.wrap m) (i.wrap n)) false := by
  intro i j m n c hd hf
  have hij : i = j := hd.resolve_left (by simp)
  subst hij
  unfold b_and at hf
  rw [natK_eq] at hf
  refine ⟨_, hf, fun hm hn E => ⟨_, int_den (k := i) ?_, fun P w => ?_⟩⟩
  · rw [full_eq]; exact Nat.and_lt_two_pow m (lt_bits hn)
  · simp only [Op.intBits, ofInt_wrap, Sem.run_pure, BitVec.toNat_and, bv_nat hm, bv_nat hn]; rfl
theorem bk_or : BinOk b_or (fun i m _ n => Op.intBits .or i (i.wrap m) (i.wrap n)) false := by
  intro i j m n c hd hf
  have hij : i = j := hd.resolve_left (by simp)
  subst hij
  unfold b_or at hf
  rw [natK_eq] at hf
  refine ⟨_, hf, fun hm hn E => ⟨_, int_den (k := i) ?_, fun P w => ?_⟩⟩
  · rw [full_eq]; exact Nat.or_lt_two_pow (lt_bits hm) (lt_bits hn)
  · simp only [Op.intBits, ofInt_wrap, Sem.run_pure, BitVec.toNat_or, bv_nat hm, bv_nat hn]; rfl
theorem bk_xor : BinOk b_xor (fun i m _ n => Op.intBits .xor i (i.wrap m) (i.wrap n)) false := by
  intro i j m n c hd hf
  have hij : i = j := hd.resolve_left (by simp)
  subst hij
  unfold b_xor at hf
  rw [natK_eq] at hf
  refine ⟨_, hf, fun hm hn E => ⟨_, int_den (k := i) ?_, fun P w => ?_⟩⟩
  · rw [full_eq]; exact Nat.xor_lt_two_pow (lt_bits hm) (lt_bits hn)
  · simp only [Op.intBits, ofInt_wrap, Sem.run_pure, BitVec.toNat_xor, bv_nat hm, bv_nat hn]; rfl
theorem andNot_nat (b m n : Nat) (hm : m < 2 ^ b) (hn : n < 2 ^ b) : (BitVec.ofNat b m &&& ~~~ BitVec.ofNat b n).toNat = Nat.xor m (Nat.land m n) := by
  have e : BitVec.ofNat b m &&& ~~~ BitVec.ofNat b n = BitVec.ofNat b m ^^^ (BitVec.ofNat b m &&& BitVec.ofNat b n) := by
    ext i hi
    simp only [BitVec.getElem_and, BitVec.getElem_not, BitVec.getElem_xor]
    cases (BitVec.ofNat b m)[i] <;> cases (BitVec.ofNat b n)[i] <;> rfl
  rw [e, BitVec.toNat_xor, BitVec.toNat_and, BitVec.toNat_ofNat, BitVec.toNat_ofNat, Nat.mod_eq_of_lt hm, Nat.mod_eq_of_lt hn]
  rfl
theorem bk_andNot : BinOk b_andNot (fun i m _ n => Op.intBits .andNot i (i.wrap m) (i.wrap n)) false := by
  intro i j m n c hd hf
  have hij : i = j := hd.resolve_left (by simp)
  subst hij
  unfold b_andNot at hf
  rw [natK_eq] at hf
  refine ⟨_, hf, fun hm hn E => ⟨_, int_den (k := i) ?_, fun P w => ?_⟩⟩
  · rw [full_eq]; exact Nat.xor_lt_two_pow (lt_bits hm) (Nat.and_lt_two_pow m (lt_bits hn))
  · simp only [Op.intBits, ofInt_wrap, Sem.run_pure, andNot_nat _ m n (lt_bits hm) (lt_bits hn)]
theorem two_pow_cast (n : Nat) : ((2 ^ n : Nat) : Int) = (2 : Int) ^ n := by simp
theorem bk_shl : BinOk b_shl (fun i m j n => Op.shift .shl i (i.wrap m) j (j.wrap n)) true := by
  intro i j m n c hd hf
  obtain ⟨hn, hf⟩ := onPos_true hf
  obtain ⟨h64, hf⟩ := condK_true hf
  refine ⟨_, wr_true hf, fun hm _ E => ⟨_, int_den (mod_full i _), fun P w => ?_⟩⟩
  simp only [Op.shift, wrap_pos hn]
  rw [if_neg (by omega)]
  simp only [Sem.run_pure, wrap_nat_mod, Int.toNat_natCast]
  congr 2
  apply wrap_congr
  rw [Int.mul_emod, wrap_mod, ← Int.mul_emod]
  have e : m.shiftLeft n = m * 2 ^ n := Nat.shiftLeft_eq m n
  rw [e, Int.natCast_mul, two_pow_cast]
  rcases Nat.le_total n i.bits with hle | hle
  · rw [Nat.min_eq_left hle]
  · rw [Nat.min_eq_right hle, full_eq, two_pow_cast]
    obtain ⟨d, rfl⟩ := Nat.exists_eq_add_of_le hle
    rw [Int.pow_add, ← Int.mul_assoc, Int.mul_emod_left, Int.mul_assoc, Int.mul_comm ((2 : Int) ^ i.bits), ← Int.mul_assoc, Int.mul_emod_left]
theorem bk_shr : BinOk b_shr (fun i m j n => Op.shift .shr i (i.wrap m) j (j.wrap n)) true := by
  intro i j m n c hd hf
  obtain ⟨hn, hf⟩ := onPos_true hf
  obtain ⟨hm, hf⟩ := onPos_true hf
  obtain ⟨h64, hf⟩ := condK_true hf
  rw [natK_eq] at hf
  have e : m.shiftRight n = m / 2 ^ n := Nat.shiftRight_eq_div_pow m n
  have hle : m.shiftRight n ≤ m := by rw [e]; exact Nat.div_le_self _ _
  refine ⟨_, hf, fun hm' _ E => ⟨_, int_den (pos_lt (pos_le hm hle)), fun P w => ?_⟩⟩
  simp only [Op.shift, wrap_pos hn, wrap_pos hm]
  rw [if_neg (by omega)]
  simp only [Sem.run_pure, Int.toNat_natCast]
  congr 2
  rw [wrap_pos (pos_le hm hle), e]
  have hq : ∀ q : Nat, ((m : Int).fdiv ((2 : Int) ^ q)) = ((m / 2 ^ q : Nat) : Int) := fun q => by
    rw [← two_pow_cast, Int.fdiv_eq_ediv_of_nonneg _ (Int.natCast_nonneg _), ← Int.natCast_ediv]
  rcases Nat.le_total n i.bits with hle | hle
  · rw [Nat.min_eq_left hle, hq]
  · rw [Nat.min_eq_right hle, hq]
    have h1 : m < 2 ^ i.bits := lt_bits hm'
    have h2 : 2 ^ i.bits ≤ 2 ^ n := Nat.pow_le_pow_right (by decide) hle
    rw [Nat.div_eq_of_lt h1, Nat.div_eq_of_lt (Nat.lt_of_lt_of_le h1 h2)]
theorem den_bool (E : Nm) (b : Bool) : den E (.bool b) = some (.bool b) := by simp [den]
theorem bk_cmp {f : BK} {op : BinOp} {p : Bool → Bool} (r : IntKind → Nat → Nat → Bool)
    (hf : ∀ i j m n c, f i m j n c = true → c (.bool (r i m n)) = true)
    (hr : ∀ (P : Program) (w : World) i m n, m < full i → n < full i → (Op.intCmp op (i.wrap m) (i.wrap n)).run P w = .ok (.bool (r i m n)) w) :
    BinOk f (fun i m _ n => Op.intCmp op (i.wrap m) (i.wrap n)) false := by
  intro i j m n c hd h
  have hij : i = j := hd.resolve_left (by simp)
  subst hij
  exact ⟨_, hf i i m n c h, fun hm hn E => ⟨_, den_bool E _, fun P w => hr P w i m n hm hn⟩⟩
theorem condK_bool {b : Bool} {c : KV} {x y : Bool} (h : condK b (c (.bool x)) (c (.bool y)) = true) : c (.bool (cond b y x)) = true := by
  cases b <;> exact h
theorem bk_lss : BinOk b_lss (fun i m _ n => Op.intCmp .lss (i.wrap m) (i.wrap n)) false :=
  bk_cmp (p := id) (fun i m n => cond (ltB i m n) true false) (fun _ _ _ _ _ h => condK_bool h) (fun P w i m n _ _ => by
    simp only [Op.intCmp, Sem.run_pure]
    congr 2
    cases hb : ltB i m n
    · exact decide_eq_false (fun e => by rw [ltB_iff.2 e] at hb; cases hb)
    · exact decide_eq_true (ltB_iff.1 hb))
theorem bk_gtr : BinOk b_gtr (fun i m _ n => Op.intCmp .gtr (i.wrap m) (i.wrap n)) false :=
  bk_cmp (p := id) (fun i m n => cond (ltB i n m) true false) (fun _ _ _ _ _ h => condK_bool h) (fun P w i m n _ _ => by
    simp only [Op.intCmp, Sem.run_pure]
    congr 2
    cases hb : ltB i n m
    · exact decide_eq_false (fun e => by rw [ltB_iff.2 e] at hb; cases hb)
    · exact decide_eq_true (ltB_iff.1 hb))
theorem bk_leq : BinOk b_leq (fun i m _ n => Op.intCmp .leq (i.wrap m) (i.wrap n)) false :=
  bk_cmp (p := id) (fun i m n => cond (ltB i n m) false true) (fun _ _ _ _ _ h => condK_bool h) (fun P w i m n _ _ => by
    simp only [Op.intCmp, Sem.run_pure]
    congr 2
    cases hb : ltB i n m
    · exact decide_eq_true (Int.not_lt.1 fun e => by rw [ltB_iff.2 e] at hb; cases hb)
    · exact decide_eq_false (Int.not_le.2 (ltB_iff.1 hb)))
theorem bk_geq : BinOk b_geq (fun i m _ n => Op.intCmp .geq (i.wrap m) (i.wrap n)) false :=
  bk_cmp (p := id) (fun i m n => cond (ltB i m n) false true) (fun _ _ _ _ _ h => condK_bool h) (fun P w i m n _ _ => by
    simp only [Op.intCmp, Sem.run_pure]
    congr 2
    cases hb : ltB i m n
    · exact decide_eq_true (Int.not_lt.1 fun e => by rw [ltB_iff.2 e] at hb; cases hb)
    · exact decide_eq_false (Int.not_le.2 (ltB_iff.1 hb)))
theorem bk_eql : BinOk b_eql (fun i m _ n => Op.intCmp .eql (i.wrap m) (i.wrap n)) false :=
  bk_cmp (p := id) (fun _ m n => cond (Nat.beq m n) true false) (fun _ _ _ _ _ h => condK_bool h) (fun P w i m n hm hn => by
    simp only [Op.intCmp, Sem.run_pure]
    congr 2
    cases hb : Nat.beq m n
    · exact beq_eq_false_iff_ne.2 (fun e => by rw [(wrap_inj hm hn).1 e, Nat.beq_refl] at hb; cases hb)
    · rw [Nat.eq_of_beq_eq_true hb]; exact beq_self_eq_true _)
theorem bk_neq : BinOk b_neq (fun i m _ n => Op.intCmp .neq (i.wrap m) (i.wrap n)) false :=
  bk_cmp (p := id) (fun _ m n => cond (Nat.beq m n) false true) (fun _ _ _ _ _ h => condK_bool h) (fun P w i m n hm hn => by
    simp only [Op.intCmp, Sem.run_pure]
    congr 2
    cases hb : Nat.beq m n
    · exact bne_iff_ne.2 (fun e => by rw [(wrap_inj hm hn).1 e, Nat.beq_refl] at hb; cases hb)
    · rw [Nat.eq_of_beq_eq_true hb]; exact bne_self_eq_false _)

theorem rd_bin1 {f : BK} {op : BinOp} {t u : TypeId} {a b : Operand} {run : IntKind → Nat → IntKind → Nat → Sem Value} (hf : BinOk f run false)
    (he : ∀ i (m n : Nat), binOp op t (.int i (i.wrap m)) (.int i (i.wrap n)) = run i m i n) (hk : v2 vs (fun x y => r_bin1 f x y k) = true) :
    ∃ v, k v = true ∧ PuOk P (.binOp op t a b u) vs v := by
  obtain ⟨x, y, rfl, hk⟩ := v2_true hk
  obtain ⟨i, m, rfl, hk⟩ := V.onInt_true hk
  obtain ⟨j, n, rfl, hk⟩ := V.onInt_true hk
  obtain ⟨hij, hk⟩ := condK_true hk
  have hij := same_kind hij
  subst hij
  obtain ⟨v, hv, hrun⟩ := hf i i m n k (.inr rfl) hk
  refine ⟨v, hv, fun E w ρ o ho hd => ?_⟩
  obtain ⟨h1, h2⟩ := den2 hd
  obtain ⟨hm, e1⟩ := den_int h1
  obtain ⟨hn, e2⟩ := den_int h2
  obtain ⟨x, h3, h4⟩ := hrun hm hn E
  refine ⟨x, h3, ?_⟩
  have hg : (eqGuard op t a b (ρ a) (ρ b)).run P w = .ok () w := by
    rw [e1, e2]; unfold eqGuard; split <;> rfl
  have h5 : (binOp op t (ρ a) (ρ b)).run P w = .ok x w := by rw [e1, e2, he]; exact h4 P w
  simp only [execOp, ho, Sem.run_bind, hg, Result.andThen_ok, h5, Sem.run_pure]
/-! Letters for numbers -/
theorem N.force_eq : ∀ (x : N) (k : N → Bool), x.force k = k x
  | .e, _ => rfl
  | .a x, k => N.force_eq x _
  | .b x, k => N.force_eq x _
  | .c x, k => N.force_eq x _
  | .d x, k => N.force_eq x _
theorem linK_true {x : N} {k : Nat → Nat → Bool} (h : linK x k = true) : ∃ j c, j < 16 ∧ x.val = 14 + 16 * (j + 16 * c) ∧ x.val / 256 = c ∧ x.val % 16 = 14 ∧ k j c = true := by
  unfold linK at h
  rw [natK_eq] at h
  obtain ⟨h1, h⟩ := condK_true h
  rw [natK_eq, natK_eq] at h
  have h1 : x.val % 16 = 14 := Nat.eq_of_beq_eq_true h1
  refine ⟨x.val / 16 % 16, x.val / 256, by omega, by omega, rfl, h1, h⟩
theorem lin_den {E : Nm} {x : N} {v : Value} {j c : Nat} (h : den E (.opq x) = some v) (hx : x.val = 14 + 16 * (j + 16 * c)) (hj : j < 16) :
    ∃ i0 : Int, 0 ≤ i0 ∧ i0 < 4294967296 ∧ i0 % 8 = ((c % 8 : Nat) : Int) ∧ v = .int .u32 ((i0 + j) % 4294967296) ∧
      ∀ (i : Nat) (y : N), i < 16 → y.val = 14 + 16 * (i + 16 * c) → den E (.opq y) = some (.int .u32 ((i0 + i) % 4294967296)) := by
  obtain ⟨m, h1, h2, h3, h4⟩ := den_opq.1 h
  have hf := h4.2.1 (by omega)
  rw [show x.val / 256 = c by omega] at hf
  obtain ⟨i0, g1, g2, g3, g4⟩ := hf
  obtain ⟨m', g5, g6⟩ := g4 j hj x hx
  rw [h1] at g5; cases g5
  refine ⟨i0, g1, g2, g3, h2.symm.trans g6, fun i y hi hy => ?_⟩
  obtain ⟨m'', g7, g8⟩ := g4 i hi y hy
  exact den_opq.2 ⟨m'', g7, g8, rfl, fun hh => by omega, fun _ => by rw [show y.val / 256 = c by omega]; exact ⟨i0, g1, g2, g3, g4⟩, fun hh => by omega⟩
theorem den_inj {E : Nm} {v : V} {x y : Value} (h : den E v = some x) (h' : den E v = some y) : x = y := by rw [h] at h'; injection h'
theorem u32_true {q : IntKind} (h : isU32 q = true) : q = .u32 := by cases q <;> first | rfl | cases h
theorem u32_wrap (n : Nat) : IntKind.u32.wrap (n : Int) = ((n % 4294967296 : Nat) : Int) := by
  simp [IntKind.wrap, IntKind.bits, IntKind.signed]
theorem u32_wrap' (i : Int) : IntKind.u32.wrap i = i % 4294967296 := by
  simp [IntKind.wrap, IntKind.bits, IntKind.signed]
/-- what an operation on letters must do to stand for an operation on numbers -/
def OpqOk (g : OK) (op : BinOp) : Prop := ∀ (x : N) (y : V) (c : KV), g x y c = true → ∃ v, c v = true ∧
  ∀ (E : Nm) (a b : Value), den E (.opq x) = some a → den E y = some b → ∃ (k k' : IntKind) (i j : Int) (z : Value), a = .int k i ∧ b = .int k' j ∧ den E v = some z ∧ ∀ (P : Program) (t : TypeId) (w : World), (binOp op t a b).run P w = .ok z w
theorem oq_add : OpqOk o_add .add := by
  intro x y k h
  obtain ⟨j, c, hj, hx, hc, hm, k1⟩ := linK_true h
  obtain ⟨q, n, rfl, k2⟩ := V.onInt_true k1
  obtain ⟨h1, k3⟩ := condK_true k2
  obtain ⟨h2, k4⟩ := condK_true k3
  have h1 := u32_true h1
  subst h1
  have h2 : j + n ≤ 15 := Nat.le_of_ble_eq_true h2
  unfold newLin at k4
  rw [N.force_eq] at k4
  obtain ⟨h3, k5⟩ := condK_true k4
  have h3 := Nat.eq_of_beq_eq_true h3
  refine ⟨_, k5, fun E a b ha hb => ?_⟩
  obtain ⟨i0, g1, g2, g3, g4, g5⟩ := lin_den ha hx hj
  obtain ⟨hn, e⟩ := den_int hb
  refine ⟨.u32, .u32, _, _, _, g4, e, g5 (j + n) _ (by omega) h3, fun P t w => ?_⟩
  rw [g4, e, show ∀ (i j : Int), binOp .add t (.int .u32 i) (.int .u32 j) = Op.intArith .add .u32 i j from fun i j => by simp [binOp]]
  simp only [Op.intArith, Sem.run_pure, u32_wrap']
  congr 2
  have hn : n < 4294967296 := hn
  omega
theorem oq_sub : OpqOk o_sub .sub := by
  intro x y k h
  obtain ⟨j, c, hj, hx, hc, hm, k1⟩ := linK_true h
  obtain ⟨z, rfl, k2⟩ := V.onOpq_true k1
  obtain ⟨i, d, hi, hz, hd, hm', k3⟩ := linK_true k2
  obtain ⟨h1, k4⟩ := condK_true k3
  have h1 := Nat.eq_of_beq_eq_true h1
  subst h1
  refine ⟨_, wr_true k4, fun E a b ha hb => ?_⟩
  obtain ⟨i0, g1, g2, g3, g4, g5⟩ := lin_den ha hx hj
  have e := den_inj hb (g5 i z hi hz)
  refine ⟨.u32, .u32, _, _, _, g4, e, int_den (mod_full _ _), fun P t w => ?_⟩
  rw [g4, e, show ∀ (i j : Int), binOp .sub t (.int .u32 i) (.int .u32 j) = Op.intArith .sub .u32 i j from fun i j => by simp [binOp]]
  simp only [Op.intArith, Sem.run_pure, u32_wrap']
  congr 2
  obtain ⟨m, hm0⟩ : ∃ m, m = Nat.sub (Nat.add j (full .u32)) i := ⟨_, rfl⟩
  have hm1 : m = j + 4294967296 - i := hm0
  rw [← hm0, show full .u32 = 4294967296 from rfl]
  omega
theorem oq_rem : OpqOk o_rem .rem := by
  intro x y k h
  obtain ⟨j, c, hj, hx, hc, hm, k1⟩ := linK_true h
  obtain ⟨q, n, rfl, k2⟩ := V.onInt_true k1
  obtain ⟨h1, k3⟩ := condK_true k2
  obtain ⟨h2, k4⟩ := condK_true k3
  have h1 := u32_true h1
  subst h1
  have h2 := Nat.eq_of_beq_eq_true h2
  subst h2
  rw [natK_eq] at k4
  refine ⟨_, k4, fun E a b ha hb => ?_⟩
  obtain ⟨i0, g1, g2, g3, g4, g5⟩ := lin_den ha hx hj
  obtain ⟨hn, e⟩ := den_int hb
  have hlt : Nat.mod (Nat.add c j) 8 < full .u32 := by
    have : Nat.mod (Nat.add c j) 8 < 8 := Nat.mod_lt _ (by decide)
    have : full .u32 = 4294967296 := rfl
    omega
  refine ⟨.u32, .u32, _, _, _, g4, e, int_den hlt, fun P t w => ?_⟩
  rw [g4, e, show ∀ (i j : Int), binOp .rem t (.int .u32 i) (.int .u32 j) = Op.intDiv .rem .u32 i j from fun i j => by simp [binOp]]
  simp only [Op.intDiv]
  rw [if_neg (by decide)]
  simp only [Sem.run_pure, u32_wrap']
  congr 2
  have e1 : Nat.mod (Nat.add c j) 8 = (c + j) % 8 := rfl
  rw [e1, show (((8 : Nat) : Int) % 4294967296) = 8 from rfl, Int.tmod_eq_emod_of_nonneg (Int.emod_nonneg _ (by decide))]
  have := Int.emod_emod_of_dvd (i0 + (j : Int)) (show (8 : Int) ∣ 4294967296 by decide)
  omega
theorem oq_eq (neg : Bool) : OpqOk (o_eq neg) (cond neg .neq .eql) := by
  intro x y k h
  obtain ⟨z, rfl, k1⟩ := V.onOpq_true h
  have cmp : ∀ (i j : Int) (P : Program) (t : TypeId) (w : World), (binOp (cond neg .neq .eql) t (.int .u32 i) (.int .u32 j)).run P w = .ok (.bool (cond neg (i != j) (i == j))) w := by
    intro i j P t w
    have e : binOp (cond neg .neq .eql) t (.int .u32 i) (.int .u32 j) = Op.intCmp (cond neg .neq .eql) i j := by cases neg <;> simp [binOp]
    rw [e]
    cases neg <;> rfl
  rcases condK_or k1 with ⟨h1, k2⟩ | ⟨h1, k2⟩
  · have h1 := N.beq_eq _ _ h1
    subst h1
    obtain ⟨h2, k3⟩ := condK_true k2
    have h2 : 14 ≤ x.val % 16 := Nat.le_of_ble_eq_true h2
    refine ⟨_, k3, fun E a b ha hb => ?_⟩
    have e := den_inj ha hb
    subst e
    have hi : ∃ i, a = .int .u32 i := by
      rcases Nat.lt_or_ge (x.val % 16) 15 with hl | hl
      · obtain ⟨i0, g1, g2, g3, g4, g5⟩ := lin_den (j := x.val / 16 % 16) (c := x.val / 256) ha (by omega) (by omega)
        exact ⟨_, g4⟩
      · obtain ⟨m, q1, q2, q3, q4⟩ := den_opq.1 ha
        exact q4.2.2 (by omega)
    obtain ⟨i, rfl⟩ := hi
    refine ⟨.u32, .u32, i, i, _, rfl, rfl, den_bool E _, fun P t w => ?_⟩
    rw [cmp]
    cases neg <;> simp
  · obtain ⟨j, c, hj, hx, hc, hm, k3⟩ := linK_true k2
    obtain ⟨i, d, hi, hz, hd, hm', k4⟩ := linK_true k3
    obtain ⟨h2, k5⟩ := condK_true k4
    have h2 := Nat.eq_of_beq_eq_true h2
    subst h2
    rcases condK_or k5 with ⟨h3, k6⟩ | ⟨h3, k6⟩
    · cases k6
    · refine ⟨_, k6, fun E a b ha hb => ?_⟩
      obtain ⟨i0, g1, g2, g3, g4, g5⟩ := lin_den ha hx hj
      have e := den_inj hb (g5 i z hi hz)
      have hne : j ≠ i := fun e => by subst e; rw [Nat.beq_refl] at h3; cases h3
      refine ⟨.u32, .u32, _, _, _, g4, e, den_bool E _, fun P t w => ?_⟩
      rw [g4, e, cmp]
      have : (i0 + (j : Int)) % 4294967296 ≠ (i0 + (i : Int)) % 4294967296 := by omega
      cases neg
      · simp [this]
      · simp [this]
theorem r_num_true {f : BK} {g : OK} {x y : V} {k : KV} (h : r_num f g x y k = true) : r_bin1 f x y k = true ∨ ∃ a, x = .opq a ∧ g a y k = true := by
  cases x <;> first | exact Bool.noConfusion h | exact .inl h | exact .inr ⟨_, rfl, h⟩
theorem rd_num {f : BK} {g : OK} {op : BinOp} {t u : TypeId} {a b : Operand} {run : IntKind → Nat → IntKind → Nat → Sem Value} (hf : BinOk f run false) (hg : OpqOk g op)
    (he : ∀ i (m n : Nat), binOp op t (.int i (i.wrap m)) (.int i (i.wrap n)) = run i m i n) (hk : v2 vs (fun x y => r_num f g x y k) = true) :
    ∃ v, k v = true ∧ PuOk P (.binOp op t a b u) vs v := by
  obtain ⟨x, y, rfl, hk⟩ := v2_true hk
  rcases r_num_true hk with hk | ⟨l, rfl, hk⟩
  · exact rd_bin1 hf he hk
  · obtain ⟨v, hv, hrun⟩ := hg l y k hk
    refine ⟨v, hv, fun E w ρ o ho hd => ?_⟩
    obtain ⟨h1, h2⟩ := den2 hd
    obtain ⟨q, q', i, j, z, e1, e2, h3, h4⟩ := hrun E _ _ h1 h2
    refine ⟨z, h3, ?_⟩
    have hg : (eqGuard op t a b (ρ a) (ρ b)).run P w = .ok () w := by
      rw [e1, e2]; unfold eqGuard; split <;> rfl
    simp only [execOp, ho, Sem.run_bind, hg, Result.andThen_ok, h4 P t w, Sem.run_pure]
theorem rd_bin2 {f : BK} {op : BinOp} {t u : TypeId} {a b : Operand} {run : IntKind → Nat → IntKind → Nat → Sem Value} (hf : BinOk f run true) (hop : op = .shl ∨ op = .shr)
    (he : ∀ i (m : Nat) j (n : Nat), binOp op t (.int i (i.wrap m)) (.int j (j.wrap n)) = run i m j n) (hk : v2 vs (fun x y => r_bin f x y k) = true) :
    ∃ v, k v = true ∧ PuOk P (.binOp op t a b u) vs v := by
  obtain ⟨x, y, rfl, hk⟩ := v2_true hk
  obtain ⟨i, m, rfl, hk⟩ := V.onInt_true hk
  obtain ⟨j, n, rfl, hk⟩ := V.onInt_true hk
  obtain ⟨v, hv, hrun⟩ := hf i j m n k (.inl rfl) hk
  refine ⟨v, hv, fun E w ρ o ho hd => ?_⟩
  obtain ⟨h1, h2⟩ := den2 hd
  obtain ⟨hm, e1⟩ := den_int h1
  obtain ⟨hn, e2⟩ := den_int h2
  obtain ⟨x, h3, h4⟩ := hrun hm hn E
  refine ⟨x, h3, ?_⟩
  have hg : (eqGuard op t a b (ρ a) (ρ b)).run P w = .ok () w := by
    rw [e1, e2]; unfold eqGuard; split <;> rfl
  have h5 : (binOp op t (ρ a) (ρ b)).run P w = .ok x w := by rw [e1, e2, he]; exact h4 P w
  simp only [execOp, ho, Sem.run_bind, hg, Result.andThen_ok, h5, Sem.run_pure]
end
end Go.Ev

/-
  The evaluator of closed calls: a part.
-/
set_option linter.unusedVariables false
set_option linter.unusedSimpArgs false
namespace Go.Ev
section
variable {P : Program} {vs : List V} {h : H} {k : KV}
def eqB (op : BinOp) (r : Bool) : Bool := match op with | .neq => !r | _ => r
theorem rd_equal {neg : Bool} {t u : TypeId} {a b : Operand} {x y : V} (r : Bool)
    (hv : k (.bool (cond r (Bool.not neg) neg)) = true)
    (hrun : ∀ E w x' y', den E x = some x' → den E y = some y' → ∀ op : BinOp, op = .eql ∨ op = .neq →
      (eqGuard op t a b x' y').run P w = .ok () w ∧ (binOp op t x' y').run P w = .ok (.bool (eqB op r)) w) :
    ∃ v, k v = true ∧ PuOk P (.binOp (cond neg .neq .eql) t a b u) [x, y] v := by
  refine ⟨_, hv, fun E w ρ o ho hd => ?_⟩
  obtain ⟨h1, h2⟩ := den2 hd
  refine ⟨_, den_bool E _, ?_⟩
  cases neg
  · obtain ⟨h3, h4⟩ := hrun E w _ _ h1 h2 .eql (.inl rfl)
    simp only [execOp, ho, cond, Sem.run_bind, h3, Result.andThen_ok, h4, Sem.run_pure]
    cases r <;> rfl
  · obtain ⟨h3, h4⟩ := hrun E w _ _ h1 h2 .neq (.inr rfl)
    simp only [execOp, ho, cond, Sem.run_bind, h3, Result.andThen_ok, h4, Sem.run_pure]
    cases r <;> rfl
theorem guard_ok {op : BinOp} {t : TypeId} {a b : Operand} {x y : Value} (h1 : ¬ (x = .nilIface ∧ y = .nilIface)) (h2 : ∀ c d, ¬ (x = .agg c ∧ y = .agg d)) (w : World) : (eqGuard op t a b x y).run P w = .ok () w := by
  have hg : eqGuard op t a b x y = pure () := by
    cases op <;> first | rfl | (cases x <;> cases y <;> first | rfl | exact absurd ⟨rfl, rfl⟩ h1 | exact absurd ⟨rfl, rfl⟩ (h2 _ _))
  rw [hg]; rfl
theorem eq_bool {t : TypeId} (hu : P.underlying t = some .bool) (a b : Bool) (w : World) : (Op.equal t (.bool a) (.bool b)).run P w = .ok (a == b) w := by
  unfold Op.equal Op.maxDepth Op.equalIn
  rw [Sem.run_bind, run_underlying hu]
  rfl
theorem rd_eqB {neg : Bool} {t u : TypeId} {a b : Operand} (hu : P.underlying t = some .bool) (hk : v2 vs (fun x y => r_eqB neg x y k) = true) :
    ∃ v, k v = true ∧ PuOk P (.binOp (cond neg .neq .eql) t a b u) vs v := by
  obtain ⟨x, y, rfl, hk⟩ := v2_true hk
  have main : ∀ p q : Bool, x = .bool p → y = .bool q → k (.bool (cond (p == q) (Bool.not neg) neg)) = true → ∃ v, k v = true ∧ PuOk P (.binOp (cond neg .neq .eql) t a b u) [x, y] v := by
    rintro p q rfl rfl hv
    refine rd_equal (p == q) hv fun E w x' y' h1 h2 op hop => ?_
    simp only [den, Option.some.injEq] at h1 h2
    subst h1; subst h2
    refine ⟨guard_ok (fun e => by cases e.1) (fun _ _ e => by cases e.1) w, ?_⟩
    rcases hop with rfl | rfl
    · have : binOp .eql t (.bool p) (.bool q) = (do pure (.bool (← Op.equal t (.bool p) (.bool q)))) := rfl
      rw [this, Sem.run_bind, eq_bool hu]
      cases p <;> cases q <;> rfl
    · have : binOp .neq t (.bool p) (.bool q) = (do pure (.bool (!(← Op.equal t (.bool p) (.bool q))))) := rfl
      rw [this, Sem.run_bind, eq_bool hu]
      cases p <;> cases q <;> rfl
  rcases V.onBool_true hk with ⟨rfl, hk⟩ | ⟨rfl, hk⟩ <;> rcases V.onBool_true hk with ⟨rfl, hk⟩ | ⟨rfl, hk⟩ <;> exact main _ _ rfl rfl hk
theorem beq_bytes (a b : ByteArray) : (a == b) = (a.data == b.data) := rfl
theorem sameStr_eq (a b : ByteArray) : sameStr a b = (a == b) := by
  rw [beq_bytes]
  unfold sameStr
  by_cases e : a.data = b.data
  · rw [e, beq_self_eq_true, beq_self_eq_true]
  · have : a.data.toList ≠ b.data.toList := fun h => e (Array.toList_inj.1 h)
    rw [beq_eq_false_iff_ne.2 this, beq_eq_false_iff_ne.2 e]
theorem bin_eq {op : BinOp} {t : TypeId} {x y : Value} {r : Bool} {w : World} (hop : op = .eql ∨ op = .neq)
    (hb : binOp .eql t x y = (do pure (.bool (← Op.equal t x y)))) (hb' : binOp .neq t x y = (do pure (.bool (!(← Op.equal t x y)))))
    (he : (Op.equal t x y).run P w = .ok r w) : (binOp op t x y).run P w = .ok (.bool (eqB op r)) w := by
  rcases hop with rfl | rfl
  · rw [hb, Sem.run_bind, he]; cases r <;> rfl
  · rw [hb', Sem.run_bind, he]; cases r <;> rfl
theorem rd_eqS {neg : Bool} {t u : TypeId} {a b : Operand} (hk : v2 vs (fun x y => r_eqS neg x y k) = true) :
    ∃ v, k v = true ∧ PuOk P (.binOp (cond neg .neq .eql) t a b u) vs v := by
  obtain ⟨x, y, rfl, hk1⟩ := v2_true hk
  obtain ⟨p, rfl, hk2⟩ := V.onStr_true hk1
  obtain ⟨q, rfl, hk3⟩ := V.onStr_true hk2
  have hk : k (.bool (cond (p == q) (Bool.not neg) neg)) = true := by
    rw [← sameStr_eq]
    cases hb : sameStr p q <;> (rw [hb] at hk3; exact hk3)
  refine rd_equal (p == q) hk fun E w x' y' h1 h2 op hop => ?_
  simp only [den, Option.some.injEq] at h1 h2
  subst h1; subst h2
  refine ⟨guard_ok (fun e => by cases e.1) (fun _ _ e => by cases e.1) w, ?_⟩
  have e1 : (binOp .eql t (.string p) (.string q) : Sem Value).run P w = .ok (.bool (p == q)) w := by
    have : binOp .eql t (.string p) (.string q) = Op.stringOp .eql p q := rfl
    rw [this, beq_toListBytes]; rfl
  have e2 : (binOp .neq t (.string p) (.string q) : Sem Value).run P w = .ok (.bool (!(p == q))) w := by
    have : binOp .neq t (.string p) (.string q) = Op.stringOp .neq p q := rfl
    rw [this, beq_toListBytes]; rfl
  rcases hop with rfl | rfl
  · exact e1
  · exact e2
theorem den_nilp {E : Nm} {x : Value} (h : den E .nilp = some x) : x = .pointer none := by simp only [den, Option.some.injEq] at h; exact h.symm
theorem bool_false {b : Bool} {x y : Bool} (h : (cond b x y) = true) : (b = true ∧ x = true) ∨ (b = false ∧ y = true) := by cases b <;> simp_all
theorem rd_eqP {neg : Bool} {t u e : TypeId} {s : Nat} {a b : Operand} (hu : P.underlying t = some (.pointer e)) (hs : szO P e = some (s + 1)) (hk : v2 vs (fun x y => r_eqP neg x y k) = true) :
    ∃ v, k v = true ∧ PuOk P (.binOp (cond neg .neq .eql) t a b u) vs v := by
  obtain ⟨x, y, rfl, hk1⟩ := v2_true hk
  have fin : ∀ r : Bool, k (.bool (cond r (Bool.not neg) neg)) = true →
      (∀ E x' y', den E x = some x' → den E y = some y' → ∃ p q, x' = .pointer p ∧ y' = .pointer q ∧ ∀ w, (Op.equal t (.pointer p) (.pointer q)).run P w = .ok r w) →
      ∃ v, k v = true ∧ PuOk P (.binOp (cond neg .neq .eql) t a b u) [x, y] v := fun r hv hr =>
    rd_equal r hv fun E w x' y' h1 h2 op hop => by
      obtain ⟨p, q, rfl, rfl, h3⟩ := hr E x' y' h1 h2
      exact ⟨guard_ok (fun e => by cases e.1) (fun _ _ e => by cases e.1) w, bin_eq hop rfl rfl (h3 w)⟩
  have run : ∀ (p q : Option Addr) (r : Bool), ((p = none ∧ r = q.isNone) ∨ (q = none ∧ r = p.isNone) ∨ ∃ c d, p = some c ∧ q = some d ∧ c.block = d.block ∧ r = (c == d)) →
      ∀ w, (Op.equal t (.pointer p) (.pointer q)).run P w = .ok r w := by
    intro p q r hc w
    unfold Op.equal Op.maxDepth Op.equalIn
    rw [Sem.run_bind, run_underlying hu]
    rcases hc with ⟨rfl, rfl⟩ | ⟨rfl, rfl⟩ | ⟨c, d, rfl, rfl, hbl, rfl⟩
    · rfl
    · cases p <;> rfl
    · simp only [Result.andThen_ok, Sem.run_bind, size_run hs, sameAddr, hbl]
      simp
  cases x with
  | ptr a o =>
    cases y with
    | nilp =>
      refine fin false hk1 fun E x' y' h1 h2 => ?_
      obtain ⟨l, _, rfl⟩ := den_ptr h1
      exact ⟨_, _, rfl, den_nilp h2, run _ _ _ (.inr (.inl ⟨rfl, rfl⟩))⟩
    | ptr b p =>
      obtain ⟨hab, hk2⟩ := condK_true hk1
      have hab := N.beq_eq _ _ hab
      subst hab
      refine fin (Nat.beq o p) (by cases hb : Nat.beq o p <;> (rw [hb] at hk2; exact hk2)) fun E x' y' h1 h2 => ?_
      obtain ⟨l, hl, rfl⟩ := den_ptr h1
      obtain ⟨l', hl', rfl⟩ := den_ptr h2
      rw [hl] at hl'; cases hl'
      refine ⟨_, _, rfl, rfl, run _ _ _ (.inr (.inr ⟨_, _, rfl, rfl, rfl, ?_⟩))⟩
      by_cases e : o = p
      · subst e; rw [Nat.beq_refl]; exact (beq_self_eq_true _).symm
      · rw [beq_eq_false_iff_ne.2 (fun h => e (by injection h with h1 h2 h3; omega))]
        cases hb : Nat.beq o p
        · rfl
        · exact absurd (Nat.eq_of_beq_eq_true hb) e
    | _ => exact Bool.noConfusion hk1
  | nilp =>
    cases y with
    | nilp => exact fin true hk1 fun E x' y' h1 h2 => ⟨_, _, den_nilp h1, den_nilp h2, run _ _ _ (.inl ⟨rfl, rfl⟩)⟩
    | ptr b p =>
      refine fin false hk1 fun E x' y' h1 h2 => ?_
      obtain ⟨l, _, rfl⟩ := den_ptr h2
      exact ⟨_, _, den_nilp h1, rfl, run _ _ _ (.inl ⟨rfl, rfl⟩)⟩
    | _ => exact Bool.noConfusion hk1
  | _ => exact Bool.noConfusion hk1
/-- nil, or not: slices, maps, functions, interfaces -/
inductive Cls where | L | M | F | N
def Cls.nil : Cls → V → Bool
  | .L, .nils | .M, .nilm | .F, .nilf | .N, .nili => true
  | _, _ => false
def Cls.is : Cls → V → Bool
  | .L, .sl .. | .L, .slz .. | .M, .map .. | .F, .fn .. | .N, .ifc .. => true
  | _, _ => false
noncomputable def Cls.fn : Cls → V → V → (KV → Bool) → (KV → Bool) → KV → Bool
  | .L => nilL | .M => nilM | .F => nilF | .N => nilN
theorem cls_true {c : Cls} {x y : V} {eq ne : KV → Bool} {k : KV} (hh : c.fn x y eq ne k = true) :
    (c.nil x = true ∧ c.nil y = true ∧ eq k = true) ∨ (c.nil x = true ∧ c.is y = true ∧ ne k = true) ∨ (c.is x = true ∧ c.nil y = true ∧ ne k = true) := by
  cases c <;> cases x <;> first | exact Bool.noConfusion hh | (cases y <;> first | exact Bool.noConfusion hh | exact .inl ⟨rfl, rfl, hh⟩ | exact .inr (.inl ⟨rfl, rfl, hh⟩) | exact .inr (.inr ⟨rfl, rfl, hh⟩))
def Cls.ty : Cls → TypeDesc → Bool
  | .L, .slice _ | .M, .map _ _ | .F, .func _ _ _ | .N, .interface _ => true
  | _, _ => false
def Cls.nilv : Cls → Value
  | .L => .slice none 0 0 | .M => .map none | .F => .nilFunc | .N => .nilIface
def Cls.isv : Cls → Value → Bool
  | .L, .slice (some _) _ _ | .M, .map (some _) | .F, .func _ _ _ | .N, .iface _ _ => true
  | _, _ => false
theorem cls_nil {c : Cls} {E : Nm} {x : V} {x' : Value} (hn : c.nil x = true) (hd : den E x = some x') : x' = c.nilv := by
  cases c <;> cases x <;> first | exact Bool.noConfusion hn | (simp only [den, Option.some.injEq] at hd; exact hd.symm)
theorem cls_is {c : Cls} {E : Nm} {x : V} {x' : Value} (hn : c.is x = true) (hd : den E x = some x') : c.isv x' = true := by
  cases c <;> cases x <;> first | exact Bool.noConfusion hn | skip
  · obtain ⟨_, _, _, _, rfl, _⟩ := den_sl hd; rfl
  all_goals (simp only [den] at hd; split at hd <;> cases hd; rfl)
theorem rd_eqC {c : Cls} {neg : Bool} {t u : TypeId} {d : TypeDesc} {a b : Operand} (hu : P.underlying t = some d) (ht : c.ty d = true) (hc : c = .N → isC a = true ∨ isC b = true)
    (hk : v2 vs (fun x y => c.fn x y (fun k => k (.bool (Bool.not neg))) (fun k => k (.bool neg)) k) = true) :
    ∃ v, k v = true ∧ PuOk P (.binOp (cond neg .neq .eql) t a b u) vs v := by
  obtain ⟨x, y, rfl, hk1⟩ := v2_true hk
  have grd : ∀ (op : BinOp) (x' y' : Value) (w : World), (x' = c.nilv ∨ c.isv x' = true) → (eqGuard op t a b x' y').run P w = .ok () w := fun op x' y' w hx => by
    by_cases hn : x' = .nilIface ∧ y' = .nilIface
    · obtain ⟨rfl, rfl⟩ := hn
      have hcN : c = .N := by
        rcases hx with hx | hx
        · cases c <;> first | rfl | cases hx
        · cases c <;> cases hx
      have hcc := hc hcN
      have : eqGuard op t a b .nilIface .nilIface = pure () := by
        cases op <;> first | rfl | skip
        all_goals
          unfold eqGuard
          rcases hcc with hcc | hcc
          · cases a <;> first | rfl | exact Bool.noConfusion hcc
          · cases b <;> first | (cases a <;> rfl) | exact Bool.noConfusion hcc
      rw [this]; rfl
    · refine guard_ok hn (fun _ _ e => ?_) w
      obtain ⟨rfl, _⟩ := e
      rcases hx with hx | hx
      · cases c <;> cases hx
      · cases c <;> cases hx
  have run : ∀ (x' y' : Value) (r : Bool) (w : World), ((x' = c.nilv ∧ y' = c.nilv ∧ r = true) ∨ (x' = c.nilv ∧ c.isv y' = true ∧ r = false) ∨ (c.isv x' = true ∧ y' = c.nilv ∧ r = false)) →
      (Op.equal t x' y').run P w = .ok r w ∧ (binOp .eql t x' y' = (do pure (.bool (← Op.equal t x' y')))) ∧ (binOp .neq t x' y' = (do pure (.bool (!(← Op.equal t x' y'))))) := by
    intro x' y' r w hcase
    unfold Op.equal Op.maxDepth
    have hdef : ∀ n, (Op.equalIn (n + 1) t x' y').run P w = .ok r w := fun n => by
      unfold Op.equalIn
      rw [Sem.run_bind, run_underlying hu]
      rcases hcase with ⟨rfl, rfl, rfl⟩ | ⟨rfl, h2, rfl⟩ | ⟨h1, rfl, rfl⟩
      · cases c <;> cases d <;> first | exact Bool.noConfusion ht | rfl
      · cases c <;> cases d <;> first | exact Bool.noConfusion ht | skip
        all_goals (cases y' <;> first | exact Bool.noConfusion h2 | skip)
        · rename_i o _ _; cases o <;> first | exact Bool.noConfusion h2 | rfl
        · rename_i o; cases o <;> first | exact Bool.noConfusion h2 | rfl
        · rfl
        · rfl
      · cases c <;> cases d <;> first | exact Bool.noConfusion ht | skip
        all_goals (cases x' <;> first | exact Bool.noConfusion h1 | skip)
        · rename_i o _ _; cases o <;> first | exact Bool.noConfusion h1 | rfl
        · rename_i o; cases o <;> first | exact Bool.noConfusion h1 | rfl
        · rfl
        · rfl
    refine ⟨hdef 9999, ?_, ?_⟩
    · rcases hcase with ⟨rfl, rfl, _⟩ | ⟨rfl, h2, _⟩ | ⟨h1, rfl, _⟩
      · cases c <;> rfl
      · cases c <;> (cases y' <;> first | exact Bool.noConfusion h2 | rfl)
      · cases c <;> (cases x' <;> first | exact Bool.noConfusion h1 | rfl)
    · rcases hcase with ⟨rfl, rfl, _⟩ | ⟨rfl, h2, _⟩ | ⟨h1, rfl, _⟩
      · cases c <;> rfl
      · cases c <;> (cases y' <;> first | exact Bool.noConfusion h2 | rfl)
      · cases c <;> (cases x' <;> first | exact Bool.noConfusion h1 | rfl)
  have fin : ∀ r : Bool, k (.bool (cond r (Bool.not neg) neg)) = true →
      (∀ E x' y', den E x = some x' → den E y = some y' → (x' = c.nilv ∧ y' = c.nilv ∧ r = true) ∨ (x' = c.nilv ∧ c.isv y' = true ∧ r = false) ∨ (c.isv x' = true ∧ y' = c.nilv ∧ r = false)) →
      ∃ v, k v = true ∧ PuOk P (.binOp (cond neg .neq .eql) t a b u) [x, y] v := fun r hv hr =>
    rd_equal r hv fun E w x' y' h1 h2 op hop => by
      have h3 := hr E x' y' h1 h2
      obtain ⟨h4, h5, h6⟩ := run x' y' r w h3
      exact ⟨grd op x' y' w (h3.elim (fun h => .inl h.1) fun h => h.elim (fun h => .inl h.1) (fun h => .inr h.1)), bin_eq hop h5 h6 h4⟩
  rcases cls_true hk1 with ⟨h1, h2, h3⟩ | ⟨h1, h2, h3⟩ | ⟨h1, h2, h3⟩
  · exact fin true h3 fun E x' y' d1 d2 => .inl ⟨cls_nil h1 d1, cls_nil h2 d2, rfl⟩
  · exact fin false h3 fun E x' y' d1 d2 => .inr (.inl ⟨cls_nil h1 d1, cls_is h2 d2, rfl⟩)
  · exact fin false h3 fun E x' y' d1 d2 => .inr (.inr ⟨cls_is h1 d1, cls_nil h2 d2, rfl⟩)
end
end Go.Ev

/-
  The evaluator of closed calls: a part.
-/
set_option linter.unusedVariables false
set_option linter.unusedSimpArgs false
namespace Go.Ev
section
variable {P : Program} {vs : List V} {h : H} {k : KV}
theorem vo_true {o : Option Operand} {f : Option V → List V → Bool} (hk : vo o vs f = true) :
    ∃ v l, f v l = true ∧ ((o = none ∧ v = none ∧ vs = l) ∨ ∃ a x, o = some a ∧ v = some x ∧ vs = x :: l) := by
  cases o with
  | none => exact ⟨none, vs, hk, .inl ⟨rfl, rfl, rfl⟩⟩
  | some a =>
    obtain ⟨x, l, rfl, hk⟩ := vh_true hk
    exact ⟨some x, l, hk, .inr ⟨a, x, rfl, rfl, rfl⟩⟩
theorem V.onNat_true {v : V} {k : Nat → Bool} (hk : v.onNat k = true) : ∃ j n, v = .int j n ∧ pos j n = true ∧ k n = true := by
  obtain ⟨j, n, rfl, hk⟩ := V.onInt_true hk
  obtain ⟨hp, hk⟩ := onPos_true hk
  exact ⟨j, n, rfl, hp, hk⟩
/-- an optional bound, as a value and as a number -/
def Bd (v : Option Value) (n : Option Nat) : Prop := (v = none ∧ n = none) ∨ ∃ j m, v = some (.int j (m : Nat)) ∧ n = some m
def Bv (v : Option V) (n : Option Nat) : Prop := (v = none ∧ n = none) ∨ ∃ j m, v = some (.int j m) ∧ pos j m = true ∧ n = some m
theorem optK_true {v : Option V} {k : Option Nat → Bool} (hk : optK v k = true) : ∃ n, k n = true ∧ Bv v n := by
  cases v with
  | none => exact ⟨none, hk, .inl ⟨rfl, rfl⟩⟩
  | some v =>
    obtain ⟨j, n, rfl, hp, hk⟩ := V.onNat_true hk
    exact ⟨some n, hk, .inr ⟨j, n, rfl, hp, rfl⟩⟩
theorem bound_run {j : IntKind} {n y : Nat} {code : BoundsCode} (hn : n ≤ y) (w : World) : (Instr.sliceBound (.int j (n : Nat)) y code).run P w = .ok n w := by
  simp [Instr.sliceBound, asIntOf, hn]
theorem bounds_run {isSlice : Bool} {len cap : Nat} {lo hi mx : Option Value} {nlo nhi nmx : Option Nat} {l hh m : Nat} (h1 : Bd lo nlo) (h2 : Bd hi nhi) (h3 : Bd mx nmx) (hx : hi = none → mx = none)
    (e1 : l = nlo.getD 0) (e2 : hh = nhi.getD len) (e3 : m = nmx.getD cap) (b1 : l ≤ hh) (b2 : hh ≤ m) (b3 : m ≤ cap) (w : World) :
    (Instr.sliceBounds isSlice len cap lo hi mx).run P w = .ok (l, hh, m) w := by
  unfold Instr.sliceBounds
  rcases h3 with ⟨rfl, rfl⟩ | ⟨j, q, rfl, rfl⟩
  · rcases h2 with ⟨rfl, rfl⟩ | ⟨j2, q2, rfl, rfl⟩
    · rcases h1 with ⟨rfl, rfl⟩ | ⟨j1, q1, rfl, rfl⟩
      · simp only [Option.getD_none] at e1 e2 e3; subst e1; subst e2; subst e3; rfl
      · simp only [Option.getD_none, Option.getD_some] at e1 e2 e3; subst e1; subst e2; subst e3
        simp [bound_run b1]
    · rcases h1 with ⟨rfl, rfl⟩ | ⟨j1, q1, rfl, rfl⟩
      · simp only [Option.getD_none, Option.getD_some] at e1 e2 e3; subst e1; subst e2; subst e3
        simp [bound_run b2]
      · simp only [Option.getD_none, Option.getD_some] at e1 e2 e3; subst e1; subst e2; subst e3
        simp [bound_run b1, bound_run b2]
  · rcases h2 with ⟨rfl, rfl⟩ | ⟨j2, q2, rfl, rfl⟩
    · cases hx rfl
    · rcases h1 with ⟨rfl, rfl⟩ | ⟨j1, q1, rfl, rfl⟩
      · simp only [Option.getD_none, Option.getD_some] at e1 e2 e3; subst e1; subst e2; subst e3
        simp [bound_run b2, bound_run b3]
      · simp only [Option.getD_some] at e1 e2 e3; subst e1; subst e2; subst e3
        simp [bound_run b1, bound_run b2, bound_run b3]
theorem boundsK_true {len cap : Nat} {lo hi mx : Option Nat} {k : Nat → Nat → Nat → Bool} (hk : boundsK len cap lo hi mx k = true) :
    ∃ l hh m, l = lo.getD 0 ∧ hh = hi.getD len ∧ m = mx.getD cap ∧ l ≤ hh ∧ hh ≤ m ∧ m ≤ cap ∧ k l hh m = true := by
  have or_eq : ∀ (x : Option Nat) (n : Nat) (k : Nat → Bool), orK x n k = k (x.getD n) := fun x n k => by cases x <;> rfl
  unfold boundsK at hk
  rw [or_eq] at hk
  obtain ⟨b1, hk⟩ := condK_true hk
  rw [or_eq] at hk
  obtain ⟨b2, hk⟩ := condK_true hk
  rw [or_eq] at hk
  obtain ⟨b3, hk⟩ := condK_true hk
  exact ⟨_, _, _, rfl, rfl, rfl, ble_iff.1 b3, ble_iff.1 b2, ble_iff.1 b1, hk⟩
theorem cutK_true {b : N} {o s l hh m : Nat} {k : KV} (hk : cutK b o s l hh m k = true) : k (.sl b (if m = l then o else o + l * s) (hh - l) (.n (m - l))) = true := by
  unfold cutK at hk
  rw [natK_eq, natK_eq] at hk
  rcases condK_or hk with ⟨h1, h2⟩ | ⟨h1, h2⟩
  · rw [if_pos (Nat.eq_of_beq_eq_true h1)]; exact h2
  · rw [if_neg (fun e => by rw [e, Nat.beq_refl] at h1; cases h1)]
    rw [natK_eq] at h2; exact h2
theorem add_addr (b o n : Nat) : (⟨b, o, none⟩ : Addr).add n = ⟨b, o + n, none⟩ := Addr.add_mid b o n
/-- the values of a slicing, one by one -/
theorem evSlice_true {lo hi mx : Option Operand} {f : V → Option V → Option V → Option V → Bool} (hk : evSlice lo hi mx vs f = true) :
    ∃ x vlo vhi vmx, f x vlo vhi vmx = true ∧ ∀ (E : Nm) (ρ : Operand → Value) (a : Operand), denL E vs = some ((#[a] ++ lo.toArray ++ hi.toArray ++ mx.toArray).toList.map ρ) →
      den E x = some (ρ a) ∧ (∀ n, Bv vlo n → Bd (lo.map ρ) n) ∧ (∀ n, Bv vhi n → Bd (hi.map ρ) n) ∧ (∀ n, Bv vmx n → Bd (mx.map ρ) n) := by
  obtain ⟨x, l, rfl, k1⟩ := vh_true hk
  obtain ⟨vlo, l1, k2, c1⟩ := vo_true k1
  obtain ⟨vhi, l2, k3, c2⟩ := vo_true k2
  obtain ⟨vmx, l3, k4, c3⟩ := vo_true k3
  have hl3 : l3 = [] ∧ f x vlo vhi vmx = true := by
    cases l3 with
    | nil => exact ⟨rfl, k4⟩
    | cons _ _ => exact Bool.noConfusion k4
  obtain ⟨rfl, k5⟩ := hl3
  refine ⟨x, vlo, vhi, vmx, k5, fun E ρ a hd => ?_⟩
  have one : ∀ {v : V} {y : Value} {n : Option Nat}, den E v = some y → Bv (some v) n → Bd (some y) n := fun {v y n} h1 h2 => by
    rcases h2 with ⟨h2, _⟩ | ⟨j, m, h2, hp, rfl⟩
    · cases h2
    · cases h2
      obtain ⟨_, rfl⟩ := den_int h1
      exact .inr ⟨j, m, by rw [wrap_pos hp], rfl⟩
  have no : ∀ n, Bv none n → Bd none n := fun n h => by
    rcases h with ⟨_, rfl⟩ | ⟨_, _, h, _⟩
    · exact .inl ⟨rfl, rfl⟩
    · cases h
  rcases c1 with ⟨rfl, rfl, rfl⟩ | ⟨a1, x1, rfl, rfl, rfl⟩ <;> rcases c2 with ⟨rfl, rfl, rfl⟩ | ⟨a2, x2, rfl, rfl, rfl⟩ <;> rcases c3 with ⟨rfl, rfl, rfl⟩ | ⟨a3, x3, rfl, rfl, rfl⟩
  · exact ⟨den1 hd, no, no, no⟩
  · obtain ⟨d1, d2⟩ := den2 hd; exact ⟨d1, no, no, fun n => one d2⟩
  · obtain ⟨d1, d2⟩ := den2 hd; exact ⟨d1, no, fun n => one d2, no⟩
  · obtain ⟨d1, d2, d3⟩ := den3 hd; exact ⟨d1, no, fun n => one d2, fun n => one d3⟩
  · obtain ⟨d1, d2⟩ := den2 hd; exact ⟨d1, fun n => one d2, no, no⟩
  · obtain ⟨d1, d2, d3⟩ := den3 hd; exact ⟨d1, fun n => one d2, no, fun n => one d3⟩
  · obtain ⟨d1, d2, d3⟩ := den3 hd; exact ⟨d1, fun n => one d2, fun n => one d3, no⟩
  · obtain ⟨y, z, d1, d4, e⟩ := denL_cons.1 hd
    cases e
    obtain ⟨d1', d2, d3⟩ := den3 d4
    exact ⟨d1, fun n => one d1', fun n => one d2, fun n => one d3⟩
theorem sl_addr (m l b o n : Nat) : (if m = l then some (⟨b, o, none⟩ : Addr) else Option.map (fun a : Addr => a.add n) (some ⟨b, o, none⟩)) = some ⟨b, if m = l then o else o + n, none⟩ := by
  split
  · rfl
  · simp [add_addr]
theorem slice_run {t e : TypeId} {s : Nat} (hu : P.underlying t = some (.slice e)) (hs : szO P e = some s) {ao : Option Addr} {len cap l hh m : Nat} {lo hi mx : Option Value} {w : World}
    (hb : (Instr.sliceBounds true len cap lo hi mx).run P w = .ok (l, hh, m) w) :
    (Instr.sliceAt t (.slice ao len cap) lo hi mx).run P w = .ok (.slice (if m = l then ao else ao.map (·.add (l * s))) (hh - l) (m - l)) w := by
  simp [Instr.sliceAt, run_underlying hu, Instr.slice, hb, size_run hs]
theorem rd_slice {t e : TypeId} {s : Nat} {a : Operand} {lo hi mx : Option Operand} (hu : P.underlying t = some (.slice e)) (hs : szO P e = some s) (hx : hi = none → mx = none)
    (hk : evSlice lo hi mx vs (fun x lo hi mx => r_slice s x lo hi mx k) = true) : ∃ v, k v = true ∧ PuOk P (.slice t a lo hi mx) vs v := by
  obtain ⟨x, vlo, vhi, vmx, hk, hden⟩ := evSlice_true hk
  obtain ⟨nlo, hk, b1⟩ := optK_true hk
  obtain ⟨nhi, hk, b2⟩ := optK_true hk
  obtain ⟨nmx, hk, b3⟩ := optK_true hk
  have hx' : ∀ ρ : Operand → Value, hi.map ρ = none → mx.map ρ = none := fun ρ h => by cases hi <;> simp_all
  cases x with
  | nils =>
    obtain ⟨l, hh, m, e1, e2, e3, c1, c2, c3, hk⟩ := boundsK_true hk
    refine ⟨_, hk, fun E w ρ o ho hd => ?_⟩
    obtain ⟨d1, d2, d3, d4⟩ := hden E ρ a hd
    have d1 : ρ a = .slice none 0 0 := by simp only [den, Option.some.injEq] at d1; exact d1.symm
    have hb := bounds_run (P := P) (isSlice := true) (d2 _ b1) (d3 _ b2) (d4 _ b3) (hx' ρ) e1 e2 e3 c1 c2 c3 w
    have hr := slice_run hu hs (ao := none) hb
    refine ⟨.slice none 0 0, by simp [den], ?_⟩
    obtain rfl : m = 0 := by omega
    obtain rfl : hh = 0 := by omega
    obtain rfl : l = 0 := by omega
    simp only [if_true, Nat.sub_self] at hr
    simp [execOp, ho, d1, hr]
  | sl b o' len c =>
    cases c with
    | n c =>
      obtain ⟨l, hh, m, e1, e2, e3, c1, c2, c3, hk⟩ := boundsK_true hk
      refine ⟨_, cutK_true hk, fun E w ρ o ho hd => ?_⟩
      obtain ⟨d1, d2, d3, d4⟩ := hden E ρ a hd
      obtain ⟨loc, cap, f1, f2, f3, f4⟩ := den_sl d1
      have hc : c = cap := by
        rcases f4 with f4 | ⟨_, f4, _⟩
        · cases f4; rfl
        · cases f4
      subst hc
      have hb := bounds_run (P := P) (isSlice := true) (d2 _ b1) (d3 _ b2) (d4 _ b3) (hx' ρ) e1 e2 e3 c1 c2 c3 w
      have hr := slice_run hu hs (ao := some ⟨loc.bl, loc.of + o', none⟩) hb
      refine ⟨.slice (some ⟨loc.bl, loc.of + (if m = l then o' else o' + l * s), none⟩) (hh - l) (m - l), ?_, ?_⟩
      · simp only [den, f1]
        rw [if_pos (by omega)]
      · rw [sl_addr, show (if m = l then loc.of + o' else loc.of + o' + l * s) = loc.of + (if m = l then o' else o' + l * s) by split <;> omega] at hr
        simp only [execOp, ho, f3, Sem.run_bind, hr, Result.andThen_ok, Sem.run_pure]
    | v d =>
      obtain ⟨l, hh, m, e1, e2, e3, c1, c2, c3, hk⟩ := boundsK_true hk
      cases nmx with
      | some q =>
        simp only [Option.getD_some] at e3
        subst e3
        refine ⟨_, cutK_true hk, fun E w ρ o ho hd => ?_⟩
        obtain ⟨d1, d2, d3, d4⟩ := hden E ρ a hd
        obtain ⟨loc, cap, f1, f2, f3, f4⟩ := den_sl d1
        have hb := bounds_run (P := P) (isSlice := true) (cap := cap) (d2 _ b1) (d3 _ b2) (d4 _ b3) (hx' ρ) e1 e2 (show m = (some m).getD cap from rfl) c1 c2 (by omega) w
        have hr := slice_run hu hs (ao := some ⟨loc.bl, loc.of + o', none⟩) hb
        refine ⟨.slice (some ⟨loc.bl, loc.of + (if m = l then o' else o' + l * s), none⟩) (hh - l) (m - l), ?_, ?_⟩
        · simp only [den, f1]
          rw [if_pos (by omega)]
        · rw [sl_addr, show (if m = l then loc.of + o' else loc.of + o' + l * s) = loc.of + (if m = l then o' else o' + l * s) by split <;> omega] at hr
          simp only [execOp, ho, f3, Sem.run_bind, hr, Result.andThen_ok, Sem.run_pure]
      | none =>
        simp only [Option.getD_none] at e3
        subst e3
        rcases condK_or hk with ⟨h1, h2⟩ | ⟨h1, h2⟩
        · rw [natK_eq, natK_eq, natK_eq] at h2
          have h1 : l + 1 ≤ m := ble_iff.1 h1
          refine ⟨_, h2, fun E w ρ o ho hd => ?_⟩
          obtain ⟨d1, d2, d3, d4⟩ := hden E ρ a hd
          obtain ⟨loc, cap, f1, f2, f3, f4⟩ := den_sl d1
          have hcp : d + cap = loc.cp := by
            rcases f4 with f4 | ⟨d', f4, f5⟩
            · cases f4
            · cases f4; exact f5
          have hb := bounds_run (P := P) (isSlice := true) (cap := cap) (m := cap) (d2 _ b1) (d3 _ b2) (d4 _ b3) (hx' ρ) e1 e2 rfl c1 (by omega) (Nat.le_refl _) w
          have hr := slice_run hu hs (ao := some ⟨loc.bl, loc.of + o', none⟩) hb
          refine ⟨.slice (some ⟨loc.bl, loc.of + (o' + l * s), none⟩) (hh - l) (cap - l), ?_, ?_⟩
          · have e : cap - l = loc.cp - Nat.add d l := by show _ = _ - (d + l); omega
            simp only [den, f1]
            rw [if_pos (by show hh - l + (d + l) ≤ loc.cp; omega), e]
            rfl
          · rw [if_neg (by omega)] at hr
            simp only [execOp, ho, f3, Sem.run_bind, hr, Result.andThen_ok, Sem.run_pure]
            simp [add_addr, Nat.add_assoc]
        · have h1 : ¬ (l + 1 ≤ m) := fun e => by rw [ble_iff.2 e] at h1; cases h1
          cases l with
          | succ l => exact Bool.noConfusion h2
          | zero =>
            refine ⟨_, h2, fun E w ρ o ho hd => ?_⟩
            obtain ⟨d1, d2, d3, d4⟩ := hden E ρ a hd
            obtain ⟨loc, cap, f1, f2, f3, f4⟩ := den_sl d1
            have hcp : d + cap = loc.cp := by
              rcases f4 with f4 | ⟨d', f4, f5⟩
              · cases f4
              · cases f4; exact f5
            have hb := bounds_run (P := P) (isSlice := true) (cap := cap) (m := cap) (d2 _ b1) (d3 _ b2) (d4 _ b3) (hx' ρ) e1 e2 rfl c1 (by omega) (Nat.le_refl _) w
            have hr := slice_run hu hs (ao := some ⟨loc.bl, loc.of + o', none⟩) hb
            refine ⟨.slice (some ⟨loc.bl, loc.of + o', none⟩) hh cap, ?_, ?_⟩
            · have e : cap = loc.cp - d := by omega
              simp only [den, f1]
              rw [if_pos (by omega), ← e]
            · have e0 : (if cap = 0 then loc.of + o' else loc.of + o' + 0 * s) = loc.of + o' := by split <;> omega
              rw [sl_addr, e0] at hr
              simp only [execOp, ho, f3, Sem.run_bind, hr, Result.andThen_ok, Sem.run_pure, Nat.sub_zero]
  | _ => exact Bool.noConfusion hk
end
end Go.Ev

/-
  The evaluator of closed calls: a part.
-/
set_option linter.unusedVariables false
set_option linter.unusedSimpArgs false
namespace Go.Ev
section
variable {P : Program} {vs : List V} {h : H} {k : KV}
theorem slarr_run {t n e : Nat} {s : Nat} {x : Operand} {lo hi mx : Option Operand} {o : Oper} {ρ : Operand → Value} {w : World} {b off l hh m : Nat}
    (hu : P.underlying t = some (.array n e) ∨ ∃ p, P.underlying t = some (.pointer p) ∧ P.underlying p = some (.array n e)) (hs : szO P e = some s) (ho : o.op = .slice t x lo hi mx)
    (hx : ρ x = .pointer (some ⟨b, off, none⟩)) (hb : (Instr.sliceBounds false n n (lo.map ρ) (hi.map ρ) (mx.map ρ)).run P w = .ok (l, hh, m) w) :
    (execOp ρ o).run P w = .ok (.value (.slice (some ⟨b, if m = l then off else off + l * s, none⟩) (hh - l) (m - l))) w := by
  have e0 : (if m = l then (⟨b, off, none⟩ : Addr) else (⟨b, off, none⟩ : Addr).add (l * s)) = ⟨b, if m = l then off else off + l * s, none⟩ := by
    split
    · rfl
    · rw [add_addr]
  rcases hu with hu | ⟨p, hu, hp⟩
  · simp [execOp, ho, hx, Instr.sliceAt, run_underlying hu, Instr.sureAddr, hb, size_run hs, e0]
  · simp [execOp, ho, hx, Instr.sliceAt, run_underlying hu, Instr.slice, asAddr, run_underlying hp, hb, size_run hs, e0]
theorem rd_slarr {t n e : Nat} {s : Nat} {a : Operand} {lo hi mx : Option Operand} (hu : P.underlying t = some (.array n e) ∨ ∃ p, P.underlying t = some (.pointer p) ∧ P.underlying p = some (.array n e))
    (hs : szO P e = some s) (hx : hi = none → mx = none)
    (hk : evSlice lo hi mx vs (fun x lo hi mx => r_slarr n s x lo hi mx k) = true) : ∃ v, k v = true ∧ PuOk P (.slice t a lo hi mx) vs v := by
  obtain ⟨x, vlo, vhi, vmx, k1, hden⟩ := evSlice_true hk
  obtain ⟨nlo, k2, b1⟩ := optK_true k1
  obtain ⟨nhi, k3, b2⟩ := optK_true k2
  obtain ⟨nmx, k4, b3⟩ := optK_true k3
  obtain ⟨b, off, rfl, k5⟩ := V.onPtr_true k4
  obtain ⟨l, hh, m, e1, e2, e3, c1, c2, c3, k6⟩ := boundsK_true k5
  have hx' : ∀ ρ : Operand → Value, hi.map ρ = none → mx.map ρ = none := fun ρ h => by cases hi <;> simp_all
  refine ⟨_, cutK_true k6, fun E w ρ o ho hd => ?_⟩
  obtain ⟨d1, d2, d3, d4⟩ := hden E ρ a hd
  obtain ⟨loc, f1, f2⟩ := den_ptr d1
  have hb := bounds_run (P := P) (isSlice := false) (d2 _ b1) (d3 _ b2) (d4 _ b3) (hx' ρ) e1 e2 e3 c1 c2 c3 w
  have hr := slarr_run hu hs ho f2 hb
  rw [show (if m = l then loc.of + off else loc.of + off + l * s) = loc.of + (if m = l then off else off + l * s) by split <;> omega] at hr
  refine ⟨.slice (some ⟨loc.bl, loc.of + (if m = l then off else off + l * s), none⟩) (hh - l) (m - l), ?_, hr⟩
  simp only [den, f1]
  rw [if_pos (by omega)]
theorem rd_faddr {t : TypeId} {fs : Array Field} {fl : Field} {f : Nat} {s : Nat} {a : Operand} (hu : P.underlying t = some (.struct fs)) (hf : fs.toList[f]? = some fl) (hs : szO P fl.type = some (s + 1))
    (hk : v1 vs (fun x => r_faddr fl.offset x k) = true) : ∃ v, k v = true ∧ PuOk P (.fieldAddr t a f) vs v := by
  obtain ⟨x, rfl, k1⟩ := v1_true hk
  obtain ⟨b, off, rfl, k2⟩ := V.onPtr_true k1
  rw [natK_eq] at k2
  refine ⟨_, k2, fun E w ρ o ho hd => ?_⟩
  obtain ⟨loc, f1, f2⟩ := den_ptr (den1 hd)
  have hf' : fs[f]? = some fl := by rw [← Array.getElem?_toList]; exact hf
  refine ⟨.pointer (some ⟨loc.bl, loc.of + (off + fl.offset), none⟩), by simp only [den, f1]; rfl, ?_⟩
  simp [execOp, ho, f2, Instr.fieldAt, run_underlying hu, hf', Instr.sureAddr, fieldPlace, size_run hs, add_addr, Nat.add_assoc]
theorem part_run {t : TypeId} {w : World} {cs : List Value} {off : Nat} {v : Value} (h : (aggO P t = some false ∧ cs[off]? = some v) ∨ ∃ s, aggO P t = some true ∧ szO P t = some s ∧ v = .agg ((cs.drop off).take s).toArray) :
    (part t cs.toArray off).run P w = .ok v w := by
  unfold part
  rcases h with ⟨h1, h2⟩ | ⟨s, h1, h2, rfl⟩
  · simp [agg_run h1, h2]
  · simp only [Sem.run_bind, agg_run h1, Result.andThen_ok, if_true, size_run h2, Sem.run_pure]
    congr 2
    apply Array.toList_inj.1
    rw [Array.toList_extract, List.extract_eq_take_drop, Nat.add_sub_cancel_left]
theorem all_drop_take {c : List V} (h : c.all V.isOne = true) (o s : Nat) : ((c.drop o).take s).all V.isOne = true :=
  List.all_eq_true.2 fun x hx => List.all_eq_true.1 h x (List.mem_of_mem_drop (List.mem_of_mem_take hx))
theorem rd_field1 {t : TypeId} {fs : Array Field} {fl : Field} {f : Nat} {a : Operand} (hu : P.underlying t = some (.struct fs)) (hf : fs.toList[f]? = some fl) (hs : aggO P fl.type = some false)
    (hk : v1 vs (fun x => r_field1 fl.offset x k) = true) : ∃ v, k v = true ∧ PuOk P (.field t a f) vs v := by
  obtain ⟨x, rfl, k1⟩ := v1_true hk
  obtain ⟨l, rfl, k2⟩ := V.onAgg_true k1
  obtain ⟨v, hv, k3⟩ := nthK_true k2
  refine ⟨v, k3, fun E w ρ o ho hd => ?_⟩
  obtain ⟨cs, f0, f1, f2⟩ := den_agg (den1 hd)
  obtain ⟨y, f3, f4⟩ := denL_get f1 hv
  have hf' : fs[f]? = some fl := by rw [← Array.getElem?_toList]; exact hf
  refine ⟨y, f3, ?_⟩
  simp [execOp, ho, f2, Instr.field, run_underlying hu, hf', asAgg, part_run (P := P) (w := w) (.inl ⟨hs, f4⟩)]
theorem rd_fieldA {t : TypeId} {fs : Array Field} {fl : Field} {f s : Nat} {a : Operand} (hu : P.underlying t = some (.struct fs)) (hf : fs.toList[f]? = some fl) (hs : aggO P fl.type = some true) (hz : szO P fl.type = some s)
    (hk : v1 vs (fun x => r_fieldA s fl.offset x k) = true) : ∃ v, k v = true ∧ PuOk P (.field t a f) vs v := by
  obtain ⟨x, rfl, k1⟩ := v1_true hk
  obtain ⟨l, rfl, k2⟩ := V.onAgg_true k1
  obtain ⟨_, k3⟩ := dropK_true k2
  obtain ⟨_, k4⟩ := takeK_true k3
  refine ⟨_, k4, fun E w ρ o ho hd => ?_⟩
  obtain ⟨cs, f0, f1, f2⟩ := den_agg (den1 hd)
  have hf' : fs[f]? = some fl := by rw [← Array.getElem?_toList]; exact hf
  refine ⟨_, agg_den (all_drop_take f0 _ _) (denL_take s (denL_drop fl.offset f1)), ?_⟩
  simp [execOp, ho, f2, Instr.field, run_underlying hu, hf', asAgg, part_run (P := P) (w := w) (cs := cs) (.inr ⟨s, hs, hz, rfl⟩)]
theorem rd_iaddrS {t e : TypeId} {s : Nat} {a i : Operand} (hu : P.underlying t = some (.slice e)) (hs : szO P e = some s) (hk : v2 vs (fun x i => r_iaddrS s x i k) = true) :
    ∃ v, k v = true ∧ PuOk P (.indexAddr t a i) vs v := by
  obtain ⟨x, y, rfl, k1⟩ := v2_true hk
  rcases V.onSl_true k1 with ⟨_, k2⟩ | ⟨_, _, k2⟩ | ⟨b, off, len, c, rfl, k2⟩
  · exact Bool.noConfusion k2
  · exact Bool.noConfusion k2
  · obtain ⟨j, n, rfl, hp, k3⟩ := V.onNat_true k2
    obtain ⟨hl, k4⟩ := condK_true k3
    rw [natK_eq] at k4
    have hl : n + 1 ≤ len := ble_iff.1 hl
    refine ⟨_, k4, fun E w ρ o ho hd => ?_⟩
    obtain ⟨d1, d2⟩ := den2 hd
    obtain ⟨loc, cap, f1, f2, f3, _⟩ := den_sl d1
    obtain ⟨_, f4⟩ := den_int d2
    rw [wrap_pos hp] at f4
    refine ⟨.pointer (some ⟨loc.bl, loc.of + (off + n * s), none⟩), by simp only [den, f1]; rfl, ?_⟩
    have hn : n < len := hl
    simp [execOp, ho, f3, f4, Instr.indexAt, asIntOf, run_underlying hu, size_run hs, add_addr, hn, Nat.add_assoc]
theorem rd_iaddrA {t n e : Nat} {s : Nat} {a i : Operand} (hu : P.underlying t = some (.array n e)) (hs : szO P e = some s) (hk : v2 vs (fun x i => r_iaddrA n s x i k) = true) :
    ∃ v, k v = true ∧ PuOk P (.indexAddr t a i) vs v := by
  obtain ⟨x, y, rfl, k1⟩ := v2_true hk
  obtain ⟨b, off, rfl, k2⟩ := V.onPtr_true k1
  obtain ⟨j, m, rfl, hp, k3⟩ := V.onNat_true k2
  obtain ⟨hl, k4⟩ := condK_true k3
  rw [natK_eq] at k4
  have hl : m + 1 ≤ n := ble_iff.1 hl
  refine ⟨_, k4, fun E w ρ o ho hd => ?_⟩
  obtain ⟨d1, d2⟩ := den2 hd
  obtain ⟨loc, f1, f3⟩ := den_ptr d1
  obtain ⟨_, f4⟩ := den_int d2
  rw [wrap_pos hp] at f4
  refine ⟨.pointer (some ⟨loc.bl, loc.of + (off + m * s), none⟩), by simp only [den, f1]; rfl, ?_⟩
  have hn : m < n := hl
  simp [execOp, ho, f3, f4, Instr.indexAt, asIntOf, run_underlying hu, size_run hs, add_addr, hn, Instr.sureAddr, Nat.add_assoc]
theorem rd_index1 {t n e : Nat} {s : Nat} {a i : Operand} (hu : P.underlying t = some (.array n e)) (hs : szO P e = some s) (ha : aggO P e = some false) (hk : v2 vs (fun x i => r_index1 n s x i k) = true) :
    ∃ v, k v = true ∧ PuOk P (.index t a i) vs v := by
  obtain ⟨x, y, rfl, k1⟩ := v2_true hk
  obtain ⟨l, rfl, k2⟩ := V.onAgg_true k1
  obtain ⟨j, m, rfl, hp, k3⟩ := V.onNat_true k2
  obtain ⟨hl, k4⟩ := condK_true k3
  obtain ⟨v, hv, k5⟩ := nthK_true k4
  have hl : m + 1 ≤ n := ble_iff.1 hl
  refine ⟨v, k5, fun E w ρ o ho hd => ?_⟩
  obtain ⟨d1, d2⟩ := den2 hd
  obtain ⟨cs, f0, f1, f3⟩ := den_agg d1
  obtain ⟨_, f4⟩ := den_int d2
  rw [wrap_pos hp] at f4
  obtain ⟨y, f5, f6⟩ := denL_get f1 hv
  refine ⟨y, f5, ?_⟩
  have hn : m < n := hl
  simp [execOp, ho, f3, f4, Instr.index, asIntOf, run_underlying hu, size_run hs, hn, part_run (P := P) (w := w) (off := m * s) (.inl ⟨ha, f6⟩)]
theorem rd_indexA {t n e : Nat} {s : Nat} {a i : Operand} (hu : P.underlying t = some (.array n e)) (hs : szO P e = some s) (ha : aggO P e = some true) (hk : v2 vs (fun x i => r_indexA n s x i k) = true) :
    ∃ v, k v = true ∧ PuOk P (.index t a i) vs v := by
  obtain ⟨x, y, rfl, k1⟩ := v2_true hk
  obtain ⟨l, rfl, k2⟩ := V.onAgg_true k1
  obtain ⟨j, m, rfl, hp, k3⟩ := V.onNat_true k2
  obtain ⟨hl, k4⟩ := condK_true k3
  obtain ⟨_, k5⟩ := dropK_true k4
  obtain ⟨_, k6⟩ := takeK_true k5
  have hl : m + 1 ≤ n := ble_iff.1 hl
  refine ⟨_, k6, fun E w ρ o ho hd => ?_⟩
  obtain ⟨d1, d2⟩ := den2 hd
  obtain ⟨cs, f0, f1, f3⟩ := den_agg d1
  obtain ⟨_, f4⟩ := den_int d2
  rw [wrap_pos hp] at f4
  refine ⟨_, agg_den (all_drop_take f0 _ _) (denL_take s (denL_drop (m * s) f1)), ?_⟩
  have hn : m < n := hl
  have hp := part_run (P := P) (w := w) (cs := cs) (off := m * s) (.inr ⟨s, ha, hs, rfl⟩)
  simp [execOp, ho, f3, f4, Instr.index, asIntOf, run_underlying hu, size_run hs, hn, hp]
theorem lenV_true {n : Nat} (hk : lenV n k = true) : n ≤ 4294967296 ∧ k (.int .i64 n) = true := by
  obtain ⟨h1, h2⟩ := condK_true hk
  exact ⟨ble_iff.1 h1, h2⟩
theorem den_len {E : Nm} {n : Nat} (h : n ≤ 4294967296) : den E (.int .i64 n) = some (goInt n) := by
  have hp : pos .i64 n = true := pos_iff.2 (by simp only [full, half]; omega)
  rw [int_den (pos_lt hp), wrap_pos hp]; rfl
theorem call_len {o : Oper} {ρ : Operand → Value} {args : Array Operand} {ts : Array TypeId} {w : World} {v : Value} (ho : o.op = .call { callee := .builtin .len, args := args, argTypes := ts })
    (hr : (Builtin.len_ ts o.type (args.map ρ)).run P w = .ok v w) : (execOp ρ o).run P w = .ok (.value v) w := by
  simp [execOp, ho, resolve, invoke, builtin, hr]
theorem len_args {args : Array Operand} {ρ : Operand → Value} {x : V} {E : Nm} {ts : Array TypeId} (hd : denL E [x] = some ((Op.call { callee := .builtin .len, args := args, argTypes := ts }).operands.toList.map ρ)) :
    ∃ y, den E x = some y ∧ args.map ρ = #[y] := by
  have e : (Op.call { callee := .builtin .len, args := args, argTypes := ts }).operands.toList = args.toList := by simp [Op.operands, Call.operands]
  rw [e] at hd
  obtain ⟨y, z, h1, h2, h3⟩ := denL_cons.1 hd
  simp only [denL, Option.some.injEq] at h2
  subst h2
  exact ⟨y, h1, by apply Array.toList_inj.1; rw [Array.toList_map, h3]⟩
theorem rd_lenS {t e : TypeId} {args : Array Operand} {ts : List TypeId} (hu : P.underlying t = some (.slice e)) (hk : v1 vs (fun x => r_lenS x k) = true) :
    ∃ v, k v = true ∧ PuOk P (.call { callee := .builtin .len, args := args, argTypes := (t :: ts).toArray }) vs v := by
  obtain ⟨x, rfl, k1⟩ := v1_true hk
  cases x with
  | sl b off len c =>
    obtain ⟨hl, k2⟩ := lenV_true k1
    refine ⟨_, k2, fun E w ρ o ho hd => ⟨goInt len, den_len hl, call_len ho ?_⟩⟩
    obtain ⟨y, h1, h2⟩ := len_args hd
    obtain ⟨_, _, _, _, rfl, _⟩ := den_sl h1
    rw [h2]; simp [Builtin.len_, run_underlying hu]
  | nils =>
    refine ⟨_, k1, fun E w ρ o ho hd => ⟨goInt 0, den_len (n := 0) (by omega), call_len ho ?_⟩⟩
    obtain ⟨y, h1, h2⟩ := len_args hd
    simp only [den, Option.some.injEq] at h1; subst h1
    rw [h2]; simp [Builtin.len_, run_underlying hu]
  | slz a =>
    refine ⟨_, k1, fun E w ρ o ho hd => ⟨goInt 0, den_len (n := 0) (by omega), call_len ho ?_⟩⟩
    obtain ⟨y, h1, h2⟩ := len_args hd
    simp only [den] at h1
    split at h1 <;> cases h1
    rw [h2]; simp [Builtin.len_, run_underlying hu]
  | _ => exact Bool.noConfusion k1
theorem rd_lenT {t : TypeId} {args : Array Operand} {ts : List TypeId} (hu : P.underlying t = some .string) (hk : v1 vs (fun x => r_lenT x k) = true) :
    ∃ v, k v = true ∧ PuOk P (.call { callee := .builtin .len, args := args, argTypes := (t :: ts).toArray }) vs v := by
  obtain ⟨x, rfl, k1⟩ := v1_true hk
  obtain ⟨s, rfl, k2⟩ := V.onStr_true k1
  rw [natK_eq] at k2
  obtain ⟨hl, k3⟩ := lenV_true k2
  refine ⟨_, k3, fun E w ρ o ho hd => ⟨goInt s.size, den_len hl, call_len ho ?_⟩⟩
  obtain ⟨y, h1, h2⟩ := len_args hd
  simp only [den, Option.some.injEq] at h1; subst h1
  rw [h2]; simp [Builtin.len_, run_underlying hu]
theorem denM_length {E : Nm} : ∀ {es : List (V × V × Nat)} {es' : List MapEntry}, denM E es = some es' → es'.length = es.length
  | [], _, h => by simp only [denM, Option.some.injEq] at h; subst h; rfl
  | (a, v, n) :: es, es', h => by
    simp only [denM] at h
    split at h
    · rename_i h1 h2 h3; cases h; simp [denM_length h3]
    · cases h
theorem rd_lenM {t e f : TypeId} {args : Array Operand} {ts : List TypeId} (hu : P.underlying t = some (.map e f)) (hk : v1 vs (fun x => r_lenM x h k) = true) :
    ∃ v, k v = true ∧ RdOk P (.call { callee := .builtin .len, args := args, argTypes := (t :: ts).toArray }) vs h v := by
  obtain ⟨x, rfl, k1⟩ := v1_true hk
  rcases V.onMap_true k1 with ⟨rfl, k2⟩ | ⟨r, rfl, k2⟩
  · refine ⟨_, k2, fun E w ρ o g ho hd => ⟨goInt 0, den_len (n := 0) (by omega), call_len ho ?_⟩⟩
    obtain ⟨y, h1, h2⟩ := len_args hd
    simp only [den, Option.some.injEq] at h1; subst h1
    rw [h2]; simp [Builtin.len_, run_underlying hu]
  · obtain ⟨es, c, hg, k3⟩ := H.mapK_true k2
    rw [lenK_eq] at k3
    obtain ⟨hl, k4⟩ := lenV_true k3
    refine ⟨_, k4, fun E w ρ o g ho hd => ⟨goInt es.length, den_len hl, call_len ho ?_⟩⟩
    obtain ⟨y, h1, h2⟩ := len_args hd
    simp only [den] at h1
    cases hE : E r with
    | none => rw [hE] at h1; cases h1
    | some l =>
      rw [hE] at h1; cases h1
      obtain ⟨l', h3, es', h4, h5⟩ := g r _ hg (by simp)
      rw [hE] at h3; cases h3
      have hob : (getObj l.bl).run P w = .ok (.map es'.toArray c) w := by simp [getObj, Sem.run, h5]
      rw [h2]; simp [Builtin.len_, run_underlying hu, hob, denM_length h4]
theorem rd_lenC {t n : Nat} {args : Array Operand} {ts : List TypeId} (hu : (∃ e, P.underlying t = some (.array n e)) ∨ ∃ p e, P.underlying t = some (.pointer p) ∧ P.underlying p = some (.array n e)) (hk : v1 vs (fun _ => lenV n k) = true) :
    ∃ v, k v = true ∧ PuOk P (.call { callee := .builtin .len, args := args, argTypes := (t :: ts).toArray }) vs v := by
  obtain ⟨x, rfl, k1⟩ := v1_true hk
  obtain ⟨hl, k2⟩ := lenV_true k1
  refine ⟨_, k2, fun E w ρ o ho hd => ⟨goInt n, den_len hl, call_len ho ?_⟩⟩
  obtain ⟨y, h1, h2⟩ := len_args hd
  rw [h2]
  rcases hu with ⟨e, hu⟩ | ⟨p, e, hu, hp⟩
  · simp [Builtin.len_, run_underlying hu]
  · simp [Builtin.len_, run_underlying hu, run_underlying hp]
theorem rd_min {args : Array Operand} {ts : Array TypeId} (hk : v2 vs (fun x y => r_min x y k) = true) :
    ∃ v, k v = true ∧ PuOk P (.call { callee := .builtin .min, args := args, argTypes := ts }) vs v := by
  obtain ⟨x, y, rfl, k1⟩ := v2_true hk
  obtain ⟨i, m, rfl, k2⟩ := V.onInt_true k1
  obtain ⟨j, n, rfl, k3⟩ := V.onInt_true k2
  obtain ⟨hij, k4⟩ := condK_true k3
  have hij := same_kind hij
  subst hij
  have key : ∀ q : Nat, (q = if i.wrap n < i.wrap m then n else m) → k (.int i q) = true → ∃ v, k v = true ∧ PuOk P (.call { callee := .builtin .min, args := args, argTypes := ts }) [.int i m, .int i n] v := by
    intro q hq hkq
    refine ⟨_, hkq, fun E w ρ o ho hd => ?_⟩
    have e : (Op.call { callee := .builtin .min, args := args, argTypes := ts }).operands.toList = args.toList := by simp [Op.operands, Call.operands]
    rw [e] at hd
    obtain ⟨a, r, h1, h2, h3⟩ := denL_cons.1 hd
    obtain ⟨b, r', h4, h5, h6⟩ := denL_cons.1 h2
    simp only [denL, Option.some.injEq] at h5
    subst h5
    subst h6
    obtain ⟨hm, rfl⟩ := den_int h1
    obtain ⟨hn, rfl⟩ := den_int h4
    have ha : (args.map ρ).toList = [.int i (i.wrap m), .int i (i.wrap n)] := by rw [Array.toList_map, h3]
    refine ⟨.int i (i.wrap q), int_den ?_, ?_⟩
    · rw [hq]; split <;> assumption
    · have hr : (Builtin.min_ ts o.type (args.map ρ)).run P w = .ok (.int i (i.wrap q)) w := by
        unfold Builtin.min_
        rw [ha]
        simp only [List.foldlM, Builtin.min2, Sem.run_bind, Sem.run_pure, Result.andThen_ok]
        rw [hq]
        split <;> rfl
      simp [execOp, ho, resolve, invoke, builtin, hr]
  rcases condK_or k4 with ⟨h1, k5⟩ | ⟨h1, k5⟩
  · exact key n (by rw [if_pos (ltB_iff.1 h1)]) k5
  · exact key m (by rw [if_neg (fun e => by rw [ltB_iff.2 e] at h1; cases h1)]) k5
end
end Go.Ev

/-
  The evaluator of closed calls: a part.
-/
set_option linter.unusedVariables false
set_option linter.unusedSimpArgs false
namespace Go.Ev
mutual
theorem cV_den : ∀ (n : Nat) (v : Value) (x : V), cV n v = some x → ∀ E, den E x = some v
  | 0, v, x, h, E => by simp [cV] at h
  | n + 1, v, x, h, E => by
    cases v with
    | int k i =>
      simp only [cV] at h
      split at h
      · rename_i hb
        rw [Bool.and_eq_true] at hb
        cases h
        have h1 : k.wrap (fixInt k i : Nat) = i := eq_of_beq hb.1
        have h2 : fixInt k i < full k := by have := hb.2; rw [Nat.blt_eq] at this; exact this
        rw [int_den h2, h1]
      · cases h
    | bool b => simp only [cV, Option.some.injEq] at h; subst h; simp [den]
    | string s => simp only [cV, Option.some.injEq] at h; subst h; simp [den]
    | pointer a => cases a <;> simp only [cV] at h <;> cases h; simp [den]
    | slice a l c =>
      cases a with
      | some a => simp only [cV] at h; cases h
      | none =>
        cases l with
        | succ l => simp only [cV] at h; cases h
        | zero =>
          cases c with
          | succ c => simp only [cV] at h; cases h
          | zero => simp only [cV, Option.some.injEq] at h; subst h; simp [den]
    | map r => cases r <;> simp only [cV] at h <;> cases h; simp [den]
    | func fn a b =>
      cases fn with
      | func f =>
        simp only [cV] at h
        split at h
        · rename_i l m h1 h2
          cases h
          simp only [den, cVs_den n _ l h1 E, cVs_den n _ m h2 E, toN_val]
        · cases h
      | _ => simp only [cV] at h; cases h
    | nilFunc => simp only [cV, Option.some.injEq] at h; subst h; simp [den]
    | nilIface => simp only [cV, Option.some.injEq] at h; subst h; simp [den]
    | agg c =>
      simp only [cV] at h
      split at h
      · rename_i l hl
        split at h
        · rename_i ho
          cases h
          rw [agg_den ho (cVs_den n c.toList l hl E)]
        · cases h
      · cases h
    | tuple c =>
      simp only [cV] at h
      split at h
      · rename_i l hl
        cases h
        simp only [den, cVs_den n c.toList l hl E]
      · cases h
    | _ => simp only [cV] at h; cases h
theorem cVs_den : ∀ (n : Nat) (vs : List Value) (l : List V), cVs n vs = some l → ∀ E, denL E l = some vs
  | 0, vs, l, h, E => by simp [cVs] at h
  | n + 1, [], l, h, E => by simp only [cVs, Option.some.injEq] at h; subst h; simp [denL]
  | n + 1, v :: vs, l, h, E => by
    simp only [cVs] at h
    split at h
    · rename_i x r hx hr
      cases h
      exact denL_cons.2 ⟨v, vs, cV_den n v x hx E, cVs_den n vs r hr E, rfl⟩
    · cases h
end
end Go.Ev

/-
  The evaluator of closed calls: a part.
-/
set_option linter.unusedVariables false
set_option linter.unusedSimpArgs false
namespace Go.Ev
/-- a test tells whether a key of a map is the one that is looked for -/
def TstOk (kind : TypeDesc) (kv : V) (eq : Tst) : Prop :=
  ∀ a no yes, eq a no yes = true → ∃ r : Bool, (∀ E x y, den E kv = some x → den E a = some y → Instr.sameNow kind x y = some r ∧ (r = true → Instr.sameBits 10000 y x = true)) ∧ (cond r yes no) = true
theorem keyI_true {j : IntKind} {kv : V} {k : Tst → Bool} (hk : keyI j kv k = true) : ∃ eq n, kv = .int j n ∧ TstOk (.int j) kv eq ∧ k eq = true := by
  obtain ⟨i, n, rfl, k1⟩ := V.onInt_true hk
  obtain ⟨h1, k2⟩ := condK_true k1
  have h1 := same_kind h1
  subst h1
  refine ⟨_, n, rfl, fun a no yes h => ?_, k2⟩
  obtain ⟨i', m, rfl, q1⟩ := V.onInt_true h
  obtain ⟨q2, q3⟩ := condK_true q1
  have q2 := same_kind q2
  subst q2
  refine ⟨Nat.beq n m, fun E x y hx hy => ?_, by cases hb : Nat.beq n m <;> (rw [hb] at q3; exact q3)⟩
  obtain ⟨hn, rfl⟩ := den_int hx
  obtain ⟨hm, rfl⟩ := den_int hy
  have e : (i'.wrap n == i'.wrap m) = Nat.beq n m := by
    cases hb : Nat.beq n m
    · exact beq_eq_false_iff_ne.2 (fun e => by rw [(wrap_inj hn hm).1 e, Nat.beq_refl] at hb; cases hb)
    · rw [Nat.eq_of_beq_eq_true hb]; exact beq_self_eq_true _
  refine ⟨by simp [Instr.sameNow, e], fun hr => ?_⟩
  rw [Nat.eq_of_beq_eq_true hr]
  simp [Instr.sameBits]
theorem keyS_true {kv : V} {k : Tst → Bool} (hk : keyS kv k = true) : ∃ eq s, kv = .str s ∧ TstOk .string kv eq ∧ k eq = true := by
  obtain ⟨s, rfl, k1⟩ := V.onStr_true hk
  refine ⟨_, s, rfl, fun a no yes h => ?_, k1⟩
  obtain ⟨t, rfl, q1⟩ := V.onStr_true h
  refine ⟨sameStr s t, fun E x y hx hy => ?_, by cases hb : sameStr s t <;> (rw [hb] at q1; exact q1)⟩
  simp only [den, Option.some.injEq] at hx hy
  subst hx; subst hy
  have e : (s == t) = sameStr s t := (sameStr_eq s t).symm
  refine ⟨by simp [Instr.sameNow, e], fun hr => ?_⟩
  have : s.data = t.data := by
    have := eq_of_beq (show (s.data.toList == t.data.toList) = true from hr)
    exact Array.toList_inj.1 this
  have : s = t := by cases s; cases t; simp_all
  subst this
  have hs : (s == s) = true := by rw [← sameStr_eq]; exact hr
  simp [Instr.sameBits, hs]
theorem evKey_true {P : Program} {t : Nat} {f : (V → (Tst → Bool) → Bool) → Bool} (hk : evKey P t f = true) :
    ∃ kind key, P.underlying t = some kind ∧ f key = true ∧ ∀ kv k, key kv k = true → ∃ eq, TstOk kind kv eq ∧ k eq = true ∧
      ∀ E x, den E kv = some x → ∀ (b : Bool) (w : World), (Instr.checkKey b 10000 t x).run P w = .ok () w := by
  unfold evKey at hk
  split at hk
  · rename_i j hu
    refine ⟨_, _, hu, hk, fun kv k h => ?_⟩
    obtain ⟨eq, n, rfl, h1, h2⟩ := keyI_true h
    refine ⟨eq, h1, h2, fun E x hx b w => ?_⟩
    obtain ⟨_, rfl⟩ := den_int hx
    unfold Instr.checkKey
    rw [Sem.run_bind, run_underlying hu]; rfl
  · rename_i hu
    refine ⟨_, _, hu, hk, fun kv k h => ?_⟩
    obtain ⟨eq, n, rfl, h1, h2⟩ := keyS_true h
    refine ⟨eq, h1, h2, fun E x hx b w => ?_⟩
    simp only [den, Option.some.injEq] at hx
    subst hx
    unfold Instr.checkKey
    rw [Sem.run_bind, run_underlying hu]; rfl
  · cases hk
theorem denM_cons {E : Nm} {a v : V} {n : Nat} {es : List (V × V × Nat)} {l : List MapEntry} :
    denM E ((a, v, n) :: es) = some l ↔ ∃ x y r, den E a = some x ∧ den E v = some y ∧ denM E es = some r ∧ l = { key := x, val := y, born := n } :: r := by
  simp only [denM]
  cases den E a <;> cases den E v <;> cases denM E es <;> simp [eq_comm]
theorem findK_true {kind : TypeDesc} {kv : V} {eq : Tst} (he : TstOk kind kv eq) : ∀ {es : List (V × V × Nat)} {k : V → Bool} {no : Bool}, findK eq es k no = true →
    (no = true ∧ ∀ E kx es', den E kv = some kx → denM E es = some es' → ∀ i, Instr.findNow kind kx es' i = some none) ∨
    ∃ v, k v = true ∧ ∀ E kx es', den E kv = some kx → denM E es = some es' → ∃ y, den E v = some y ∧ ∀ i, ∃ j, Instr.findNow kind kx es' i = some (some (j, y))
  | [], k, no, h => .inl ⟨h, fun E kx es' _ h2 i => by simp only [denM, Option.some.injEq] at h2; subst h2; rfl⟩
  | (a, v, s) :: es, k, no, h => by
    obtain ⟨r, hr, h1⟩ := he a _ _ h
    cases r with
    | true =>
      refine .inr ⟨v, h1, fun E kx es' h2 h3 => ?_⟩
      obtain ⟨x, y, l, h4, h5, h6, rfl⟩ := denM_cons.1 h3
      exact ⟨y, h5, fun i => ⟨i, by simp [Instr.findNow, (hr E kx x h2 h4).1]⟩⟩
    | false =>
      rcases findK_true he (es := es) h1 with ⟨h2, h3⟩ | ⟨u, h2, h3⟩
      · refine .inl ⟨h2, fun E kx es' h4 h5 i => ?_⟩
        obtain ⟨x, y, l, h6, h7, h8, rfl⟩ := denM_cons.1 h5
        simp [Instr.findNow, (hr E kx x h4 h6).1, h3 E kx l h4 h8 (i + 1)]
      · refine .inr ⟨u, h2, fun E kx es' h4 h5 => ?_⟩
        obtain ⟨x, y, l, h6, h7, h8, rfl⟩ := denM_cons.1 h5
        obtain ⟨z, h9, h10⟩ := h3 E kx l h4 h8
        refine ⟨z, h9, fun i => ?_⟩
        obtain ⟨j, h11⟩ := h10 (i + 1)
        exact ⟨j, by simp [Instr.findNow, (hr E kx x h4 h6).1, h11]⟩
/-- an entry is written over -/
theorem updK_true {kind : TypeDesc} {kv val : V} {eq : Tst} (he : TstOk kind kv eq) : ∀ {es : List (V × V × Nat)} {k : List (V × V × Nat) → Bool} {no : Bool}, updK eq kv val es k no = true →
    (no = true ∧ ∀ E kx es', den E kv = some kx → denM E es = some es' → ∀ i, Instr.findNow kind kx es' i = some none) ∨
    ∃ es2 j, k es2 = true ∧ ∀ E kx vx es', den E kv = some kx → den E val = some vx → denM E es = some es' →
      (∀ i, ∃ y, Instr.findNow kind kx es' i = some (some (i + j, y))) ∧ (∃ e, es'[j]? = some e ∧ Instr.sameBits 10000 e.key kx = true) ∧
      denM E es2 = some (es'.modify j fun e => { e with key := kx, val := vx })
  | [], k, no, h => .inl ⟨h, fun E kx es' _ h2 i => by simp only [denM, Option.some.injEq] at h2; subst h2; rfl⟩
  | (a, v, s) :: es, k, no, h => by
    obtain ⟨r, hr, h1⟩ := he a _ _ h
    cases r with
    | true =>
      refine .inr ⟨_, 0, h1, fun E kx vx es' h2 h2' h3 => ?_⟩
      obtain ⟨x, y, l, h4, h5, h6, rfl⟩ := denM_cons.1 h3
      refine ⟨fun i => ⟨y, by simp [Instr.findNow, (hr E kx x h2 h4).1]⟩, ⟨_, rfl, (hr E kx x h2 h4).2 rfl⟩, ?_⟩
      exact denM_cons.2 ⟨kx, vx, l, h2, h2', h6, rfl⟩
    | false =>
      rcases updK_true he (es := es) h1 with ⟨h2, h3⟩ | ⟨es2, j, h2, h3⟩
      · refine .inl ⟨h2, fun E kx es' h4 h5 i => ?_⟩
        obtain ⟨x, y, l, h6, h7, h8, rfl⟩ := denM_cons.1 h5
        simp [Instr.findNow, (hr E kx x h4 h6).1, h3 E kx l h4 h8 (i + 1)]
      · refine .inr ⟨_, j + 1, h2, fun E kx vx es' h4 h4' h5 => ?_⟩
        obtain ⟨x, y, l, h6, h7, h8, rfl⟩ := denM_cons.1 h5
        obtain ⟨h9, ⟨e, h10, h11⟩, h12⟩ := h3 E kx vx l h4 h4' h8
        refine ⟨fun i => ?_, ⟨e, by simpa using h10, h11⟩, ?_⟩
        · obtain ⟨z, h13⟩ := h9 (i + 1)
          refine ⟨z, ?_⟩
          simp only [Instr.findNow, (hr E kx x h4 h6).1, h13]
          congr 3; omega
        · exact denM_cons.2 ⟨x, y, _, h6, h7, h12, by simp [List.modify_succ_cons]⟩
/-- an entry is taken out -/
theorem delK_true {kind : TypeDesc} {kv : V} {eq : Tst} (he : TstOk kind kv eq) : ∀ {es : List (V × V × Nat)} {k : List (V × V × Nat) → Bool}, delK eq es k = true →
    ∃ es2, k es2 = true ∧ ∀ E kx es', den E kv = some kx → denM E es = some es' →
      ((∀ i, Instr.findNow kind kx es' i = some none) ∧ denM E es2 = some es') ∨
      ∃ j, (∀ i, ∃ y, Instr.findNow kind kx es' i = some (some (i + j, y))) ∧ j < es'.length ∧ denM E es2 = some (es'.eraseIdx j)
  | [], k, h => ⟨[], h, fun E kx es' _ h2 => .inl ⟨fun i => by simp only [denM, Option.some.injEq] at h2; subst h2; rfl, h2⟩⟩
  | (a, v, s) :: es, k, h => by
    obtain ⟨r, hr, h1⟩ := he a _ _ h
    cases r with
    | true =>
      refine ⟨_, h1, fun E kx es' h2 h3 => .inr ⟨0, ?_⟩⟩
      obtain ⟨x, y, l, h4, h5, h6, rfl⟩ := denM_cons.1 h3
      exact ⟨fun i => ⟨y, by simp [Instr.findNow, (hr E kx x h2 h4).1]⟩, by simp, by simpa using h6⟩
    | false =>
      obtain ⟨es2, h2, h3⟩ := delK_true he (es := es) h1
      refine ⟨_, h2, fun E kx es' h4 h5 => ?_⟩
      obtain ⟨x, y, l, h6, h7, h8, rfl⟩ := denM_cons.1 h5
      rcases h3 E kx l h4 h8 with ⟨h9, h10⟩ | ⟨j, h9, h10, h11⟩
      · exact .inl ⟨fun i => by simp [Instr.findNow, (hr E kx x h4 h6).1, h9 (i + 1)], denM_cons.2 ⟨x, y, l, h6, h7, h10, rfl⟩⟩
      · refine .inr ⟨j + 1, fun i => ?_, by simpa using h10, ?_⟩
        · obtain ⟨z, h13⟩ := h9 (i + 1)
          refine ⟨z, ?_⟩
          simp only [Instr.findNow, (hr E kx x h4 h6).1, h13]
          congr 3; omega
        · exact denM_cons.2 ⟨x, y, _, h6, h7, h11, by simp⟩
section
variable {P : Program} {vs : List V} {h : H} {k : KV}
theorem zval_run {e : TypeId} {z : V} (hz : zval P e = some z) : ∃ x, (∀ E, den E z = some x) ∧ ∀ w, (zeroValue e).run P w = .ok x w := by
  unfold zval at hz
  cases hi : P.info? e with
  | none => rw [hi] at hz; cases hz
  | some i =>
    rw [hi] at hz
    cases hz0 : i.zero with
    | none => simp [hz0] at hz
    | some x =>
      simp only [Option.bind_some, hz0] at hz
      exact ⟨x, cV_den 3000 x z hz, fun w => by simp [zeroValue, typeInfo, hi, hz0]⟩
theorem getObj_run {w : World} {b : Nat} {es : Array MapEntry} {c : Nat} (hw : w.heap[b]? = some (.map es c)) : (getObj b).run P w = .ok (.map es c) w := by
  simp [getObj, Sem.run, hw]
theorem rd_look {t key e : TypeId} {a b : Operand} {ok : Bool} {z : V} (hu : P.underlying t = some (.map key e)) (hz : zval P e = some z)
    (hk : evKey P key (fun key => v2 vs (fun m kv => r_look key z ok m kv h k)) = true) : ∃ v, k v = true ∧ RdOk P (.lookup t a b ok) vs h v := by
  obtain ⟨zx, hz1, hz2⟩ := zval_run hz
  obtain ⟨kind, ke, hkind, k1, hke⟩ := evKey_true hk
  obtain ⟨m, kv, rfl, k2⟩ := v2_true k1
  obtain ⟨eq, heq, k3, hck⟩ := hke _ _ k2
  have fin : ∀ (v : V) (yes : Bool), lookR ok v yes k = true →
      (∀ E w x y, GoodS P E h w → den E m = some x → den E kv = some y → ∃ vx, den E v = some vx ∧ (Instr.lookup t x y ok).run P w = .ok (if ok then .tuple #[vx, .bool yes] else vx) w) →
      ∃ v, k v = true ∧ RdOk P (.lookup t a b ok) [m, kv] h v := by
    intro v yes hl hrun
    cases ok with
    | false =>
      refine ⟨v, hl, fun E w ρ o g ho hd => ?_⟩
      obtain ⟨d1, d2⟩ := den2 hd
      obtain ⟨vx, h1, h2⟩ := hrun E w _ _ g d1 d2
      exact ⟨vx, h1, by simp only [execOp, ho, Sem.run_bind, h2, Result.andThen_ok, Sem.run_pure]; rfl⟩
    | true =>
      refine ⟨.tup [v, .bool yes], hl, fun E w ρ o g ho hd => ?_⟩
      obtain ⟨d1, d2⟩ := den2 hd
      obtain ⟨vx, h1, h2⟩ := hrun E w _ _ g d1 d2
      exact ⟨.tuple #[vx, .bool yes], by simp [den, denL, h1], by simp only [execOp, ho, Sem.run_bind, h2, Result.andThen_ok, Sem.run_pure]; rfl⟩
  rcases V.onMap_true k3 with ⟨rfl, k4⟩ | ⟨r, rfl, k4⟩
  · refine fin z false k4 fun E w x y g d1 d2 => ⟨zx, hz1 E, ?_⟩
    simp only [den, Option.some.injEq] at d1; subst d1
    cases ok <;> simp [Instr.lookup, run_underlying hu, hck E y d2, Instr.findKey, run_underlying hkind, Instr.findNow, hz2]
  · obtain ⟨es, c, hg, k5⟩ := H.mapK_true k4
    have hm : ∀ E w x, GoodS P E h w → den E (.map r) = some x → ∃ l es', x = .map (some l) ∧ denM E es = some es' ∧ (getObj l).run P w = .ok (.map es'.toArray c) w := fun E w x g d1 => by
      simp only [den] at d1
      cases hE : E r with
      | none => rw [hE] at d1; cases d1
      | some l =>
        rw [hE] at d1; cases d1
        obtain ⟨l', h3, es', h4, h5⟩ := g r _ hg (by simp)
        rw [hE] at h3; cases h3
        exact ⟨l.bl, es', rfl, h4, getObj_run h5⟩
    rcases findK_true heq k5 with ⟨k6, hf⟩ | ⟨v, k6, hf⟩
    · refine fin z false k6 fun E w x y g d1 d2 => ⟨zx, hz1 E, ?_⟩
      obtain ⟨l, es', rfl, h4, h5⟩ := hm E w x g d1
      cases ok <;> simp [Instr.lookup, run_underlying hu, h5, hck E y d2, Instr.findKey, run_underlying hkind, hf E y es' d2 h4, hz2]
    · refine fin v true k6 fun E w x y g d1 d2 => ?_
      obtain ⟨l, es', rfl, h4, h5⟩ := hm E w x g d1
      obtain ⟨vx, h6, h7⟩ := hf E y es' d2 h4
      obtain ⟨j, h8⟩ := h7 0
      refine ⟨vx, h6, ?_⟩
      cases ok <;> simp [Instr.lookup, run_underlying hu, h5, hck E y d2, Instr.findKey, run_underlying hkind, h8]
end
end Go.Ev

/-
  The evaluator of closed calls: a part.
-/
set_option linter.unusedVariables false
set_option linter.unusedSimpArgs false
namespace Go.Ev
section
variable {P : Program} {vs : List V} {h : H} {k : KV}
theorem fnK_true {f : N} : ∀ {first : List Operand} {vs : List V} {k : List V → List V → Bool},
    (List.rec (motive := fun _ => List V → (List V → List V → Bool) → Bool) (fun vs k => k [] vs) (fun _ _ ih vs k => vh vs (fun v vs => ih vs (fun r s => k (v :: r) s))) first vs k : Bool) = true →
    ∃ r s, vs = r ++ s ∧ r.length = first.length ∧ k r s = true
  | [], vs, k, h => ⟨[], vs, rfl, rfl, h⟩
  | a :: first, vs, k, h => by
    obtain ⟨v, l, rfl, h1⟩ := vh_true (vs := vs) h
    obtain ⟨r, s, rfl, h2, h3⟩ := fnK_true (f := f) (first := first) h1
    exact ⟨v :: r, s, rfl, by simp [h2], h3⟩
theorem rd_makeFunc {f : FuncId} {first cap : Array Operand} (hk : evR.fnK (toN f) first.toList vs k = true) : ∃ v, k v = true ∧ PuOk P (.makeFunc (.func f) first cap) vs v := by
  unfold evR.fnK at hk
  obtain ⟨r, s, rfl, hl, h1⟩ := fnK_true (f := toN f) hk
  refine ⟨_, h1, fun E w ρ o ho hd => ?_⟩
  obtain ⟨y, z, d1, d2, d3⟩ := denL_append.1 hd
  have e : (Op.makeFunc (.func f) first cap).operands.toList.map ρ = first.toList.map ρ ++ cap.toList.map ρ := by simp [Op.operands]
  rw [e] at d3
  obtain ⟨e1, e2⟩ := List.append_inj d3 (by rw [List.length_map, denL_length d1, hl])
  refine ⟨.func (.func f) (first.map ρ) (cap.map ρ), ?_, by simp [execOp, ho, Instr.makeFunc]⟩
  simp only [den, d1, d2, ← e1, ← e2, toN_val]
  congr 2 <;> apply Array.toList_inj.1 <;> simp

/-! Records and arrays, built of parts -/
theorem zipP_true : ∀ {ps : List (Nat × Operand)} {vs : List V} {k : List (Nat × V) → Bool}, zipP ps vs k = true →
    ∃ qs, k qs = true ∧ qs.map (·.1) = ps.map (·.1) ∧ qs.map (·.2) = vs
  | [], vs, k, h => by
    cases vs with
    | nil => exact ⟨[], h, rfl, rfl⟩
    | cons _ _ => exact Bool.noConfusion h
  | p :: ps, vs, k, h => by
    obtain ⟨v, l, rfl, h1⟩ := vh_true (vs := vs) h
    obtain ⟨qs, h2, h3, h4⟩ := zipP_true (ps := ps) h1
    exact ⟨(p.1, v) :: qs, h2, by simp [h3], by simp [h4]⟩
theorem cells_true {v : V} {k : List V → Bool} (hk : v.cells k = true) : ∃ c, k c = true ∧ ∀ E x, den E v = some x → c.all V.isOne = true ∧ denL E c = some x.cells.toList := by
  have one : v.isOne = true → k [v] = true → ∃ c, k c = true ∧ ∀ E x, den E v = some x → c.all V.isOne = true ∧ denL E c = some x.cells.toList := fun h1 h2 => by
    refine ⟨[v], h2, fun E x hx => ⟨by simp [h1], ?_⟩⟩
    have h3 := isOne_den hx
    rw [h1] at h3
    have : x.cells = #[x] := by cases x <;> first | rfl | cases h3
    rw [this]
    exact denL_cons.2 ⟨x, [], hx, by simp [denL], rfl⟩
  cases v with
  | agg l =>
    refine ⟨l, hk, fun E x hx => ?_⟩
    obtain ⟨cs, h1, h2, rfl⟩ := den_agg hx
    exact ⟨h1, by rw [h2]; rfl⟩
  | tup l => exact Bool.noConfusion hk
  | _ => exact one rfl hk
theorem fold_set : ∀ (us cs : List Value) (off j : Nat), off + j + us.length ≤ cs.length →
    (us.zipIdx j).foldl (fun (a : Array Value) (p : Value × Nat) => a.setIfInBounds (off + p.2) p.1) cs.toArray = (cs.take (off + j) ++ us ++ cs.drop (off + j + us.length)).toArray
  | [], cs, off, j, _ => by simp
  | u :: us, cs, off, j, h => by
    simp only [List.length_cons] at h
    have h1 : cs.toArray.setIfInBounds (off + j) u = (cs.set (off + j) u).toArray := by simp
    rw [List.zipIdx_cons, List.foldl_cons, h1, fold_set us (cs.set (off + j) u) off (j + 1) (by rw [List.length_set]; omega)]
    congr 1
    have e1 : (cs.set (off + j) u).take (off + (j + 1)) = cs.take (off + j) ++ [u] := by
      rw [show off + (j + 1) = off + j + 1 by omega, List.take_add_one, List.take_set_of_le (by omega), List.getElem?_set_self (by omega)]
      rfl
    have e2 : (cs.set (off + j) u).drop (off + (j + 1) + us.length) = cs.drop (off + j + (us.length + 1)) := by
      rw [List.drop_set_of_lt (by omega)]
      congr 1
      omega
    rw [e1, e2, List.length_cons]
    simp
theorem fill_one (x : Value) (cs : List Value) (off : Nat) (h : off + x.cells.size ≤ cs.length) :
    x.cells.zipIdx.foldl (fun cs (c, j) => cs.setIfInBounds (off + j) c) cs.toArray = (cs.take off ++ x.cells.toList ++ cs.drop (off + x.cells.size)).toArray := by
  have := fold_set x.cells.toList cs off 0 (by simpa using h)
  simp only [Nat.add_zero, Array.length_toList] at this
  rw [← this, ← Array.foldl_toList]
  congr 1
  simp
theorem all_app {a b : List V} (h1 : a.all V.isOne = true) (h2 : b.all V.isOne = true) : (a ++ b).all V.isOne = true := by rw [List.all_append, h1, h2]; rfl
theorem all_take {c : List V} (h : c.all V.isOne = true) (n : Nat) : (c.take n).all V.isOne = true := List.all_eq_true.2 fun x hx => List.all_eq_true.1 h x (List.mem_of_mem_take hx)
theorem all_drop {c : List V} (h : c.all V.isOne = true) (n : Nat) : (c.drop n).all V.isOne = true := List.all_eq_true.2 fun x hx => List.all_eq_true.1 h x (List.mem_of_mem_drop hx)
theorem fillK_true {pl : Nat → (Nat → Nat → Bool) → Bool} {place : Nat → Option (Nat × Nat)} (hpl : ∀ i k, pl i k = true → ∃ off size, place i = some (off, size) ∧ k off size = true) :
    ∀ {ps : List (Nat × V)} {zs : List V} {k : List V → Bool}, fillK pl ps zs k = true →
      ∃ c, k c = true ∧ c.length = zs.length ∧ ∀ E zs' ps', zs.all V.isOne = true → denL E zs = some zs' → denL E (ps.map (·.2)) = some (ps'.map (·.2)) → ps.map (·.1) = ps'.map (·.1) →
        ∃ c', c.all V.isOne = true ∧ denL E c = some c' ∧ Instr.fill place zs'.toArray ps' = some c'.toArray
  | [], zs, k, hk => ⟨zs, hk, rfl, fun E zs' ps' h0 h1 h2 h3 => by
      have : ps' = [] := by cases ps' <;> first | rfl | cases h3
      subst this
      exact ⟨zs', h0, h1, rfl⟩⟩
  | (i, v) :: ps, zs, k, hk => by
    obtain ⟨off, size, hp, k1⟩ := hpl i _ hk
    obtain ⟨c, k2, hc⟩ := cells_true k1
    rw [lenK_eq] at k2
    obtain ⟨hn, k3⟩ := condK_true k2
    have hn := Nat.eq_of_beq_eq_true hn
    obtain ⟨hb, k4⟩ := putK_true k3
    obtain ⟨d, k5, hdl, hd⟩ := fillK_true hpl (ps := ps) k4
    refine ⟨d, k5, by rw [hdl]; simp; omega, fun E zs' ps' h0 h1 h2 h3 => ?_⟩
    cases ps' with
    | nil => cases h3
    | cons p ps' =>
      simp only [List.map_cons, List.cons.injEq] at h3
      obtain ⟨x, r, d1, d2, d3⟩ := denL_cons.1 h2
      simp only [List.map_cons, List.cons.injEq] at d3
      obtain ⟨d3, d4⟩ := d3
      obtain ⟨c1, c2⟩ := hc E x d1
      have hxl : x.cells.size = c.length := by rw [← Array.length_toList, denL_length c2]
      have hzl := denL_length h1
      obtain ⟨c', e1, e2, e3⟩ := hd E (zs'.take off ++ x.cells.toList ++ zs'.drop (off + c.length)) ps'
        (all_app (all_app (all_take h0 _) c1) (all_drop h0 _))
        (denL_append.2 ⟨_, _, denL_append.2 ⟨_, _, denL_take off h1, c2, rfl⟩, denL_drop _ h1, rfl⟩) (by rw [d2, d4]) h3.2
      refine ⟨c', e1, e2, ?_⟩
      obtain ⟨p1, p2⟩ := p
      simp only at h3 d3
      obtain ⟨rfl, h3⟩ := h3
      subst d3
      have hfill := fill_one p2 zs' off (by rw [hxl]; omega)
      have hno : ¬ (p2.cells.size ≠ size ∨ off + p2.cells.size > zs'.toArray.size) := by
        rw [hxl, List.size_toArray]
        omega
      have hno' : ¬ ((decide (p2.cells.size ≠ size) || decide (off + p2.cells.size > zs'.toArray.size)) = true) := fun e =>
        hno ((Bool.or_eq_true _ _ ▸ e : _ ∨ _).elim (fun e => .inl (of_decide_eq_true e)) (fun e => .inr (of_decide_eq_true e)))
      simp only [Instr.fill, hp]
      rw [if_neg hno', hfill, hxl]
      exact e3
theorem zcells_run {e : TypeId} {z : List V} (hz : zcells P e = some z) : ∃ x : Value, (∀ E, denL E z = some x.cells.toList) ∧ ∀ w, (zeroValue e).run P w = .ok x w := by
  unfold zcells at hz
  cases hi : P.info? e with
  | none => rw [hi] at hz; cases hz
  | some i =>
    rw [hi] at hz
    cases hz0 : i.zero with
    | none => simp [hz0] at hz
    | some x =>
      simp only [Option.bind_some, hz0] at hz
      exact ⟨x, cVs_den 3000 _ z hz, fun w => by simp [zeroValue, typeInfo, hi, hz0]⟩
theorem szs_get : ∀ {fs : List Field} {pl : List (Nat × Nat)}, szs P fs = some pl → ∀ w, (fs.mapM (m := Sem) fun f => do pure (f.offset, ← sizeOf f.type)).run P w = .ok pl w
  | [], pl, h, w => by simp only [szs, Option.some.injEq] at h; subst h; rfl
  | f :: fs, pl, h, w => by
    simp only [szs] at h
    split at h
    · rename_i s r hs hr
      cases h
      simp only [List.mapM_cons, Sem.run_bind, size_run hs, Result.andThen_ok, Sem.run_pure, szs_get hr]
    · cases h
theorem parts_map {ps : Array (Nat × Operand)} {ρ : Operand → Value} {qs : List (Nat × V)} {E : Nm} (h1 : qs.map (·.1) = ps.toList.map (·.1)) (h2 : denL E (qs.map (·.2)) = some ((ps.toList.map (·.2)).map ρ)) :
    denL E (qs.map (·.2)) = some ((ps.map fun (i, x) => (i, ρ x)).toList.map (·.2)) ∧ qs.map (·.1) = (ps.map fun (i, x) => (i, ρ x)).toList.map (·.1) := by
  constructor
  · rw [h2]; simp [List.map_map, Function.comp_def]
  · rw [h1]; simp [List.map_map, Function.comp_def]
theorem rd_build {t : TypeId} {fs : Array Field} {z : List V} {pl : List (Nat × Nat)} {ps : Array (Nat × Operand)} (hu : P.underlying t = some (.struct fs)) (hz : zcells P t = some z) (hone : z.all V.isOne = true) (hs : szs P fs.toList = some pl)
    (hk : zipP ps.toList vs (fun ps => r_build pl z ps k) = true) : ∃ v, k v = true ∧ PuOk P (.build t ps) vs v := by
  obtain ⟨qs, k1, e1, e2⟩ := zipP_true hk
  have hpl : ∀ i k, (fun i k => nthK pl i (fun p => Prod.rec k p) : Nat → (Nat → Nat → Bool) → Bool) i k = true → ∃ off size, (pl.toArray[·]?) i = some (off, size) ∧ k off size = true := fun i k h => by
    obtain ⟨⟨a, b⟩, h1, h2⟩ := nthK_true h
    exact ⟨a, b, by simpa using h1, h2⟩
  obtain ⟨c, k2, _, hc⟩ := fillK_true hpl k1
  refine ⟨_, k2, fun E w ρ o ho hd => ?_⟩
  obtain ⟨x, hz1, hz2⟩ := zcells_run hz
  have eo : (Op.build t ps).operands.toList = ps.toList.map (·.2) := by simp [Op.operands]
  rw [eo, ← e2] at hd
  obtain ⟨p1, p2⟩ := parts_map e1 hd
  obtain ⟨c', c1, c2, c3⟩ := hc E x.cells.toList _ hone (hz1 E) p1 p2
  refine ⟨.agg c'.toArray, agg_den c1 c2, ?_⟩
  have hm : (fs.mapM (m := Sem) fun f => do pure (f.offset, ← sizeOf f.type)).run P w = .ok pl.toArray w := by
    have e : (fs.mapM (m := Sem) fun f => do pure (f.offset, ← sizeOf f.type)) = Functor.map List.toArray (fs.toList.mapM (m := Sem) fun f => do pure (f.offset, ← sizeOf f.type)) := by
      rw [← List.mapM_toArray, Array.toArray_toList]
    rw [e, Sem.run_map, szs_get hs]
    rfl
  simp only [Array.toArray_toList] at c3
  simp only [execOp, ho, Sem.run_bind, Instr.build, hz2, Result.andThen_ok, run_underlying hu, hm, c3, Sem.run_pure]
theorem rd_buildA {t n e s : Nat} {z : List V} {ps : Array (Nat × Operand)} (hu : P.underlying t = some (.array n e)) (hz : zcells P t = some z) (hone : z.all V.isOne = true) (hs : szO P e = some s)
    (hk : zipP ps.toList vs (fun ps => r_buildA s z ps k) = true) : ∃ v, k v = true ∧ PuOk P (.build t ps) vs v := by
  obtain ⟨qs, k1, e1, e2⟩ := zipP_true hk
  have hpl : ∀ i k, (fun i k => natK (Nat.mul i s) (fun o => k o s) : Nat → (Nat → Nat → Bool) → Bool) i k = true → ∃ off size, (fun i => some (i * s, s)) i = some (off, size) ∧ k off size = true := fun i k h => by
    rw [show (fun i k => natK (Nat.mul i s) (fun o => k o s) : Nat → (Nat → Nat → Bool) → Bool) i k = natK (Nat.mul i s) (fun o => k o s) from rfl, natK_eq] at h
    exact ⟨_, _, rfl, h⟩
  obtain ⟨c, k2, _, hc⟩ := fillK_true hpl k1
  refine ⟨_, k2, fun E w ρ o ho hd => ?_⟩
  obtain ⟨x, hz1, hz2⟩ := zcells_run hz
  have eo : (Op.build t ps).operands.toList = ps.toList.map (·.2) := by simp [Op.operands]
  rw [eo, ← e2] at hd
  obtain ⟨p1, p2⟩ := parts_map e1 hd
  obtain ⟨c', c1, c2, c3⟩ := hc E x.cells.toList _ hone (hz1 E) p1 p2
  refine ⟨.agg c'.toArray, agg_den c1 c2, ?_⟩
  simp only [Array.toArray_toList] at c3
  simp only [execOp, ho, Sem.run_bind, Instr.build, hz2, Result.andThen_ok, run_underlying hu, size_run hs, c3, Sem.run_pure]
end
end Go.Ev

/-
  The evaluator of closed calls: a part.
-/
set_option linter.unusedVariables false
set_option linter.unusedSimpArgs false
namespace Go.Ev
section
variable {P : Program} {vs : List V} {h : H} {k : KV}
theorem eqC1_true {c : Bool} {x y : V} {eq ne : Bool} (hk : eqC1 c x y eq ne = true) :
    ∃ r : Bool, cond r eq ne = true ∧ ∀ (E : Nm) (x' y' : Value), den E x = some x' → den E y = some y' →
      (c = true ∧ ∃ (i : IntKind) (a b : Int), x' = .int i a ∧ y' = .int i b ∧ r = (a == b)) ∨ (c = false ∧ ∃ a b, x' = .bool a ∧ y' = .bool b ∧ r = (a == b)) := by
  cases c with
  | true =>
    obtain ⟨i, a, rfl, k1⟩ := V.onInt_true hk
    obtain ⟨j, b, rfl, k2⟩ := V.onInt_true k1
    obtain ⟨h1, k3⟩ := condK_true k2
    have h1 := same_kind h1
    subst h1
    refine ⟨Nat.beq a b, by cases hb : Nat.beq a b <;> (rw [hb] at k3; exact k3), fun E x' y' h1 h2 => .inl ⟨rfl, ?_⟩⟩
    obtain ⟨hm, rfl⟩ := den_int h1
    obtain ⟨hn, rfl⟩ := den_int h2
    refine ⟨_, _, _, rfl, rfl, ?_⟩
    cases hb : Nat.beq a b
    · exact (beq_eq_false_iff_ne.2 (fun e => by rw [(wrap_inj hm hn).1 e, Nat.beq_refl] at hb; cases hb)).symm
    · rw [Nat.eq_of_beq_eq_true hb]; exact (beq_self_eq_true _).symm
  | false =>
    have main : ∀ p q : Bool, x = .bool p → y = .bool q → cond (p == q) eq ne = true → _ := fun p q hx hy hc =>
      (⟨p == q, hc, fun E x' y' h1 h2 => .inr ⟨rfl, p, q, by subst hx; simp only [den, Option.some.injEq] at h1; exact h1.symm, by subst hy; simp only [den, Option.some.injEq] at h2; exact h2.symm, rfl⟩⟩ :
        ∃ r : Bool, cond r eq ne = true ∧ ∀ (E : Nm) (x' y' : Value), den E x = some x' → den E y = some y' →
          (false = true ∧ ∃ (i : IntKind) (a b : Int), x' = .int i a ∧ y' = .int i b ∧ r = (a == b)) ∨ (false = false ∧ ∃ a b, x' = .bool a ∧ y' = .bool b ∧ r = (a == b)))
    rcases V.onBool_true hk with ⟨h1, k1⟩ | ⟨h1, k1⟩ <;> rcases V.onBool_true k1 with ⟨h2, k2⟩ | ⟨h2, k2⟩ <;> exact main _ _ h1 h2 k2
theorem flatS_cons {i : Nat} {f : Field} {l : List Field} {cs : List Bool} (hf : flatS P i (f :: l) = some cs) :
    ∃ c r, cs = c :: r ∧ flatS P (i + 1) l = some r ∧ f.name ≠ "_" ∧ f.offset = i ∧ ((c = false ∧ P.underlying f.type = some .bool) ∨ (c = true ∧ ∃ j, P.underlying f.type = some (.int j))) := by
  simp only [flatS] at hf
  split at hf
  · rename_i r h1 h2 h3
    have hn : f.name ≠ "_" := fun e => by rw [e] at h1; simp at h1
    split at hf
    · rename_i hu; cases hf; exact ⟨_, _, rfl, h3, hn, Nat.eq_of_beq_eq_true h2, .inl ⟨rfl, hu⟩⟩
    · rename_i j hu; cases hf; exact ⟨_, _, rfl, h3, hn, Nat.eq_of_beq_eq_true h2, .inr ⟨rfl, _, hu⟩⟩
    · cases hf
  · cases hf
theorem eqCs_true : ∀ {fs : List Field} {cs : List Bool} {i : Nat} {l m : List V} {eq ne : Bool}, flatS P i fs = some cs → eqCs cs l m eq ne = true →
    ∃ r : Bool, cond r eq ne = true ∧ ∀ (E : Nm) (xs ys : List Value), denL E l = some (xs.drop i) → denL E m = some (ys.drop i) → ∀ (d : Nat) (w : World),
      (Op.eqFields (d + 1) xs.toArray ys.toArray fs).run P w = .ok r w
  | [], cs, i, l, m, eq, ne, hf, hk => by
    simp only [flatS, Option.some.injEq] at hf
    subst hf
    refine ⟨true, ?_, fun E xs ys _ _ d w => rfl⟩
    cases l with
    | nil => cases m with
      | nil => exact hk
      | cons _ _ => exact Bool.noConfusion hk
    | cons _ _ => exact Bool.noConfusion hk
  | f :: fs, cs, i, l, m, eq, ne, hf, hk => by
    obtain ⟨c, r, rfl, hf1, hn, ho, hc⟩ := flatS_cons hf
    cases l with
    | nil => exact Bool.noConfusion hk
    | cons x l =>
      cases m with
      | nil => exact Bool.noConfusion hk
      | cons y m =>
        have hk : eqC1 c x y (eqCs r l m eq ne) ne = true := hk
        obtain ⟨q, hq, hrun⟩ := eqC1_true hk
        have hone : ∀ (E : Nm) (xs ys : List Value) (d : Nat) (w : World), denL E (x :: l) = some (xs.drop i) → denL E (y :: m) = some (ys.drop i) →
            ∃ x' y', (part f.type xs.toArray f.offset).run P w = .ok x' w ∧ (part f.type ys.toArray f.offset).run P w = .ok y' w ∧ (Op.equalIn (d + 1) f.type x' y').run P w = .ok q w ∧
              denL E l = some (xs.drop (i + 1)) ∧ denL E m = some (ys.drop (i + 1)) := by
          intro E xs ys d w h1 h2
          obtain ⟨x', r1, d1, d2, e1⟩ := denL_cons.1 h1
          obtain ⟨y', r2, d3, d4, e2⟩ := denL_cons.1 h2
          have g1 : xs[i]? = some x' := by have : (xs.drop i)[0]? = some x' := by rw [e1]; rfl
                                           rw [List.getElem?_drop] at this; simpa using this
          have g2 : ys[i]? = some y' := by have : (ys.drop i)[0]? = some y' := by rw [e2]; rfl
                                           rw [List.getElem?_drop] at this; simpa using this
          have t1 : r1 = xs.drop (i + 1) := by rw [← List.drop_drop, e1]; rfl
          have t2 : r2 = ys.drop (i + 1) := by rw [← List.drop_drop, e2]; rfl
          have ha : aggO P f.type = some false := by
            unfold aggO
            rcases hc with ⟨_, hu⟩ | ⟨_, j, hu⟩ <;> rw [hu]
          refine ⟨x', y', part_run (.inl ⟨ha, by rw [ho]; exact g1⟩), part_run (.inl ⟨ha, by rw [ho]; exact g2⟩), ?_, t1 ▸ d2, t2 ▸ d4⟩
          rcases hrun E x' y' d1 d3 with ⟨hct, i', a, b, rfl, rfl, rfl⟩ | ⟨hct, a, b, rfl, rfl, rfl⟩
          · rcases hc with ⟨hcf, _⟩ | ⟨_, j, hu⟩
            · rw [hct] at hcf; cases hcf
            · exact run_equalIn_int w d f.type i' j a b hu
          · rcases hc with ⟨_, hu⟩ | ⟨hcf, _⟩
            · exact run_equalIn_bool' w d f.type a b hu
            · rw [hct] at hcf; cases hcf
        cases q with
        | true =>
          obtain ⟨r', h1, h2⟩ := eqCs_true hf1 hq
          refine ⟨r', h1, fun E xs ys d1 d2 d w => ?_⟩
          obtain ⟨x', y', p1, p2, p3, p4, p5⟩ := hone E xs ys d w d1 d2
          simp only [Op.eqFields]
          rw [if_pos hn]
          simp only [Sem.run_bind, p1, p2, p3, Result.andThen_ok, Bool.not_true, Bool.false_eq_true, if_false]
          exact h2 E xs ys p4 p5 d w
        | false =>
          refine ⟨false, hq, fun E xs ys d1 d2 d w => ?_⟩
          obtain ⟨x', y', p1, p2, p3, p4, p5⟩ := hone E xs ys d w d1 d2
          simp only [Op.eqFields]
          rw [if_pos hn]
          simp only [Sem.run_bind, p1, p2, p3, Result.andThen_ok, Bool.not_false, if_true, Sem.run_pure]
theorem flat_guard : ∀ {fs : List Field} {cs : List Bool} {i : Nat} (d : Nat), flatS P i fs = some cs → fs.any (fun f => f.name != "_" && P.eqGuardType (d + 1) f.type) = false
  | [], _, _, _, _ => rfl
  | f :: fs, cs, i, d, hf => by
    obtain ⟨c, r, rfl, hf1, hn, ho, hc⟩ := flatS_cons hf
    rw [List.any_cons, flat_guard d hf1]
    have : P.eqGuardType (d + 1) f.type = false := by
      unfold Program.eqGuardType
      rcases hc with ⟨_, hu⟩ | ⟨_, j, hu⟩ <;> rw [hu]
    rw [this]
    simp
theorem rd_eqA {neg : Bool} {t u : TypeId} {fs : Array Field} {cs : List Bool} {a b : Operand} (hu : P.underlying t = some (.struct fs)) (hs : P.stoodInHeld t = false) (hf : flatS P 0 fs.toList = some cs)
    (hk : v2 vs (fun x y => r_eqA neg cs x y k) = true) : ∃ v, k v = true ∧ PuOk P (.binOp (cond neg .neq .eql) t a b u) vs v := by
  obtain ⟨x, y, rfl, k1⟩ := v2_true hk
  obtain ⟨l, rfl, k2⟩ := V.onAgg_true k1
  obtain ⟨m, rfl, k3⟩ := V.onAgg_true k2
  obtain ⟨r, hr, hrun⟩ := eqCs_true hf k3
  have hv : k (.bool (cond r (Bool.not neg) neg)) = true := by cases r <;> exact hr
  refine rd_equal r hv fun E w x' y' h1 h2 op hop => ?_
  obtain ⟨xs, _, d1, rfl⟩ := den_agg h1
  obtain ⟨ys, _, d2, rfl⟩ := den_agg h2
  have hq : (Op.equal t (.agg xs.toArray) (.agg ys.toArray)).run P w = .ok r w := by
    show (Op.equalIn (9999 + 1) t _ _).run P w = _
    have hfo : P.fieldsOf t = fs := by unfold Program.fieldsOf; rw [hu]
    rw [run_equalIn_struct w 9999 t xs.toArray ys.toArray (by rw [hfo]; exact hu) hs, hfo]
    exact hrun E xs ys (by simpa using d1) (by simpa using d2) 9998 w
  refine ⟨?_, bin_eq hop rfl rfl hq⟩
  have hg : P.eqGuardType P.depth t = false := by
    obtain ⟨n, hn⟩ : ∃ n, P.depth = n + 2 := ⟨2 * (P.types.size + Made.depth), rfl⟩
    rw [hn]
    unfold Program.eqGuardType
    rw [hu]
    simp only
    rw [← Array.any_toList]
    exact flat_guard n hf
  rcases hop with rfl | rfl
  · simp [eqGuard, hg]
  · simp [eqGuard, hg]
end
end Go.Ev

/-
  The evaluator of closed calls: a part.
-/
set_option linter.unusedVariables false
set_option linter.unusedSimpArgs false
namespace Go.Ev
section
variable {P : Program} {vs : List V} {h : H} {k : KV}
theorem zcells1_some {t : TypeId} {z : List V} (hz : zcells1 P t = some z) : zcells P t = some z ∧ z.all V.isOne = true := by
  unfold zcells1 at hz
  split at hz
  · rename_i l hl
    split at hz
    · rename_i ho; cases hz; exact ⟨hl, ho⟩
    · cases hz
  · cases hz
theorem evEq_sound {neg : Bool} {t u : TypeId} {a b : Operand} (hk : v2 vs (fun x y => evEq P neg t a b x y k) = true) :
    ∃ v, k v = true ∧ PuOk P (.binOp (cond neg .neq .eql) t a b u) vs v := by
  unfold evEq at hk
  cases hu : P.underlying t with
  | none => simp only [hu] at hk; obtain ⟨x, y, rfl, hk⟩ := v2_true hk; cases hk
  | some d =>
    rw [hu] at hk
    cases d with
    | int j =>
      cases neg
      · exact rd_num bk_eql (oq_eq false) (fun i m n => by simp [binOp]) hk
      · exact rd_num bk_neq (oq_eq true) (fun i m n => by simp [binOp]) hk
    | bool => exact rd_eqB hu hk
    | string => exact rd_eqS hk
    | pointer e =>
      simp only at hk
      split at hk
      · obtain ⟨x, y, rfl, hk⟩ := v2_true hk; cases hk
      · obtain ⟨x, y, rfl, hk⟩ := v2_true hk; cases hk
      · rename_i x h1 h2
        cases hs : szO P e with
        | none => exact absurd hs h1
        | some s =>
          cases s with
          | zero => exact absurd hs h2
          | succ s => exact rd_eqP hu hs hk
    | slice e => exact rd_eqC (c := .L) hu rfl (fun e => by cases e) hk
    | map e f => exact rd_eqC (c := .M) hu rfl (fun e => by cases e) hk
    | func p r v => exact rd_eqC (c := .F) hu rfl (fun e => by cases e) hk
    | interface ms =>
      simp only at hk
      split at hk
      · rename_i hc
        exact rd_eqC (c := .N) hu rfl (fun _ => by simpa using hc) hk
      · obtain ⟨x, y, rfl, hk⟩ := v2_true hk; cases hk
    | struct fs =>
      simp only at hk
      split at hk
      · rename_i hs
        cases hf : flatS P 0 fs.toList with
        | none => rw [hf] at hk; obtain ⟨x, y, rfl, hk⟩ := v2_true hk; cases hk
        | some cs => rw [hf] at hk; exact rd_eqA hu hs hf hk
      · obtain ⟨x, y, rfl, hk⟩ := v2_true hk; cases hk
    | _ => obtain ⟨x, y, rfl, hk⟩ := v2_true hk; cases hk
theorem evBin_sound {op : BinOp} {t u : TypeId} {a b : Operand} (hk : v2 vs (fun x y => evBin P op t a b x y k) = true) :
    ∃ v, k v = true ∧ PuOk P (.binOp op t a b u) vs v := by
  cases op with
  | eql => exact evEq_sound (neg := false) hk
  | neq => exact evEq_sound (neg := true) hk
  | add => exact rd_num bk_add oq_add (fun i m n => by simp [binOp]) hk
  | sub => exact rd_num bk_sub oq_sub (fun i m n => by simp [binOp]) hk
  | mul => exact rd_bin1 bk_mul (fun i m n => by simp [binOp]) hk
  | quo => exact rd_bin1 bk_quo (fun i m n => by simp [binOp]) hk
  | rem => exact rd_num bk_rem oq_rem (fun i m n => by simp [binOp]) hk
  | and => exact rd_bin1 bk_and (fun i m n => by simp [binOp]) hk
  | or => exact rd_bin1 bk_or (fun i m n => by simp [binOp]) hk
  | xor => exact rd_bin1 bk_xor (fun i m n => by simp [binOp]) hk
  | andNot => exact rd_bin1 bk_andNot (fun i m n => by simp [binOp]) hk
  | lss => exact rd_bin1 bk_lss (fun i m n => by simp [binOp]) hk
  | leq => exact rd_bin1 bk_leq (fun i m n => by simp [binOp]) hk
  | gtr => exact rd_bin1 bk_gtr (fun i m n => by simp [binOp]) hk
  | geq => exact rd_bin1 bk_geq (fun i m n => by simp [binOp]) hk
  | shl => exact rd_bin2 bk_shl (.inl rfl) (fun i m j n => by simp [binOp]) hk
  | shr => exact rd_bin2 bk_shr (.inr rfl) (fun i m j n => by simp [binOp]) hk
theorem evR_sound {op : Op} (hk : evR P op vs h k = true) : ∃ v, k v = true ∧ RdOk P op vs h v ∧ (heapB P op = false → PuOk P op vs v) := by
  have pu : ∀ {op : Op}, (∃ v, k v = true ∧ PuOk P op vs v) → ∃ v, k v = true ∧ RdOk P op vs h v ∧ (heapB P op = false → PuOk P op vs v) := fun ⟨v, h1, h2⟩ => ⟨v, h1, h2.rd h, fun _ => h2⟩
  have rd : ∀ {op : Op}, heapB P op = true → (∃ v, k v = true ∧ RdOk P op vs h v) → ∃ v, k v = true ∧ RdOk P op vs h v ∧ (heapB P op = false → PuOk P op vs v) := fun hb ⟨v, h1, h2⟩ => ⟨v, h1, h2, fun e => by rw [hb] at e; cases e⟩
  unfold evR at hk
  split at hk
  · exact pu (rd_move hk)
  · exact pu (rd_assign hk)
  · exact pu (rd_pick hk)
  · split at hk
    · rename_i fs hu
      obtain ⟨z, hz, hk⟩ := okK_true hk
      obtain ⟨pl, hp, hk⟩ := okK_true hk
      obtain ⟨hz1, hz2⟩ := zcells1_some hz
      exact pu (rd_build hu hz1 hz2 hp hk)
    · rename_i n e hu
      obtain ⟨z, hz, hk⟩ := okK_true hk
      obtain ⟨s, hs, hk⟩ := okK_true hk
      obtain ⟨hz1, hz2⟩ := zcells1_some hz
      exact pu (rd_buildA hu hz1 hz2 hs hk)
    · cases hk
  · split at hk
    · rename_i ha
      obtain ⟨s, hs, hk⟩ := okK_true hk
      exact rd rfl (rd_loadA ha hs hk)
    · rename_i ha; exact rd rfl (rd_load1 ha hk)
    · cases hk
  · exact pu (rd_nilCheck hk)
  · exact pu (evBin_sound hk)
  · exact pu (rd_not hk)
  · split at hk
    · rename_i i j h1 h2; exact pu (rd_conv h1 h2 hk)
    · cases hk
  · split at hk
    · cases hk
    · cases hk
    · rename_i h1 h2
      refine pu (rd_ifc ?_ hk)
      unfold Program.concrete
      revert h1 h2
      generalize P.underlying _ = d
      intro h1 h2
      cases d with
      | none => exact absurd rfl h1
      | some d => cases d <;> first | rfl | exact absurd rfl (h2 _)
  · exact pu (rd_makeFunc hk)
  · cases hk
  · rename_i t a lo hi mx hno
    have hx : hi = none → mx = none := fun e => by
      cases mx with
      | none => rfl
      | some m => exact (hno m e rfl).elim
    split at hk
    · rename_i e hu
      obtain ⟨s, hs, hk⟩ := okK_true hk
      exact pu (rd_slice hu hs hx hk)
    · rename_i n e hu
      obtain ⟨s, hs, hk⟩ := okK_true hk
      exact pu (rd_slarr (.inl hu) hs hx hk)
    · rename_i p hu
      split at hk
      · rename_i n e hp
        obtain ⟨s, hs, hk⟩ := okK_true hk
        exact pu (rd_slarr (.inr ⟨p, hu, hp⟩) hs hx hk)
      · cases hk
    · cases hk
  · split at hk
    · rename_i fs hu
      obtain ⟨fl, hf, hk⟩ := okK_true hk
      split at hk
      · cases hk
      · cases hk
      · rename_i h1 h2
        cases hs : szO P fl.type with
        | none => exact absurd hs h1
        | some s =>
          cases s with
          | zero => exact absurd hs h2
          | succ s => exact pu (rd_faddr hu hf hs hk)
    · cases hk
  · split at hk
    · rename_i fs hu
      obtain ⟨fl, hf, hk⟩ := okK_true hk
      split at hk
      · rename_i ha
        obtain ⟨s, hs, hk⟩ := okK_true hk
        exact pu (rd_fieldA hu hf ha hs hk)
      · rename_i ha; exact pu (rd_field1 hu hf ha hk)
      · cases hk
    · cases hk
  · split at hk
    · rename_i e hu
      obtain ⟨s, hs, hk⟩ := okK_true hk
      exact pu (rd_iaddrS hu hs hk)
    · rename_i n e hu
      obtain ⟨s, hs, hk⟩ := okK_true hk
      exact pu (rd_iaddrA hu hs hk)
    · cases hk
  · split at hk
    · rename_i n e hu
      obtain ⟨s, hs, hk⟩ := okK_true hk
      split at hk
      · rename_i ha; exact pu (rd_indexA hu hs ha hk)
      · rename_i ha; exact pu (rd_index1 hu hs ha hk)
      · cases hk
    · cases hk
  · split at hk
    · rename_i key e hu
      obtain ⟨z, hz, hk⟩ := okK_true hk
      exact rd rfl (rd_look hu hz hk)
    · cases hk
  · exact pu (rd_ext hk)
  · rename_i args ts
    split at hk
    · rename_i t l hl
      have ht : ts = (t :: l).toArray := by rw [← hl]
      subst ht
      split at hk
      · rename_i e hu; exact pu (rd_lenS hu hk)
      · rename_i hu; exact pu (rd_lenT hu hk)
      · rename_i e f hu; exact rd (by simp [heapB, hu]) (rd_lenM hu hk)
      · rename_i n e hu; exact pu (rd_lenC (.inl ⟨e, hu⟩) hk)
      · rename_i p hu
        split at hk
        · rename_i n e hp; exact pu (rd_lenC (.inr ⟨p, e, hu, hp⟩) hk)
        · cases hk
      · cases hk
    · cases hk
  · exact pu (rd_min hk)
  · cases hk
end
end Go.Ev

/-
  The evaluator of closed calls: a part.
-/
set_option linter.unusedVariables false
set_option linter.unusedSimpArgs false
namespace Go.Ev
/-- an operation makes one new object, and yields a value that names it -/
def MkOk (P : Program) (op : Op) (vs : List V) (mk : N → V) (ob : O) : Prop :=
  ob ≠ .dead ∧ ∀ (E : Nm) (w : World) (ρ : Operand → Value) (o : Oper), o.op = op → denL E vs = some (op.operands.toList.map ρ) →
    ∃ (obj : Obj) (l : Loc) (x : Value), l.bl = w.heap.size ∧ (∀ E' w', Ext E E' → w'.heap[l.bl]? = some obj → Stand P E' w' l ob) ∧
      (∀ E' n, E' n = some l → den E' (mk n) = some x) ∧ (execOp ρ o).run P w = .ok (.value x) (w.alloc obj)
theorem flat_rep (z : List Value) : ∀ n, madeCells z.toArray (n * z.length) = (List.replicate n z).flatten.toArray := by
  intro n
  apply Array.ext'
  apply List.ext_getElem?
  intro i
  have key : ∀ n i, i < n * z.length → (List.replicate n z).flatten[i]? = z[i % z.length]? := by
    intro n
    induction n with
    | zero => intro i h; simp at h
    | succ n ih =>
      intro i h
      rw [List.replicate_succ, List.flatten_cons]
      by_cases hi : i < z.length
      · rw [List.getElem?_append_left hi, Nat.mod_eq_of_lt hi]
      · rw [List.getElem?_append_right (by omega), ih (i - z.length) (by rw [Nat.add_mul] at h; omega)]
        congr 1
        rw [Nat.mod_eq_sub_mod (by omega : i ≥ z.length)]
  have hlen : (List.replicate n z).flatten.length = n * z.length := by simp [List.length_flatten]
  by_cases hi : i < n * z.length
  · have hz : 0 < z.length := by
      rcases Nat.eq_zero_or_pos z.length with h0 | h0
      · rw [h0] at hi; simp at hi
      · exact h0
    have hm := Nat.mod_lt i hz
    show _ = (List.replicate n z).flatten[i]?
    rw [key n i hi]
    simp only [madeCells, Array.toList_map, Array.toList_range, List.getElem?_map, List.getElem?_range hi, Option.map_some, List.size_toArray]
    rw [List.getElem?_eq_getElem hm]
    simp [hm]
  · show _ = (List.replicate n z).flatten[i]?
    rw [List.getElem?_eq_none (by rw [Array.length_toList, size_madeCells]; omega), List.getElem?_eq_none (by rw [hlen]; omega)]
theorem denL_rep {E : Nm} {z : List V} {x : List Value} (hz : denL E z = some x) : ∀ n, denL E (List.replicate n z).flatten = some (List.replicate n x).flatten
  | 0 => by simp [denL]
  | n + 1 => by
    rw [List.replicate_succ, List.flatten_cons, List.replicate_succ, List.flatten_cons]
    exact denL_append.2 ⟨_, _, hz, denL_rep hz n, rfl⟩
theorem all_rep {z : List V} (hz : z.all V.isOne = true) (n : Nat) : (List.replicate n z).flatten.all V.isOne = true := by
  refine List.all_eq_true.2 fun x hx => ?_
  obtain ⟨l, h1, h2⟩ := List.mem_flatten.1 hx
  rw [List.eq_of_mem_replicate h1] at h2
  exact List.all_eq_true.1 hz x h2
theorem zs1_some {P : Program} {t : TypeId} {z : List V} (hz : zs1 P t = some z) :
    ∃ i x, P.info? t = some i ∧ i.zero = some x ∧ z.all V.isOne = true ∧ (∀ E, denL E z = some x.cells.toList) ∧ i.size = z.length ∧ i.bytes ≤ 1000000 ∧ x.cells.size = i.size := by
  unfold zs1 at hz
  split at hz
  · rename_i z' s b h1 h2 h3
    split at hz
    · rename_i hl
      cases hz
      obtain ⟨h4, h5⟩ := zcells1_some h1
      unfold szO at h2
      unfold byO at h3
      unfold zcells at h4
      cases hi : P.info? t with
      | none => rw [hi] at h2; cases h2
      | some i =>
        rw [hi] at h2 h3 h4
        cases h2
        cases hz0 : i.zero with
        | none => simp [hz0] at h4
        | some x =>
          simp only [Option.bind_some, hz0] at h4
          have hd := cVs_den 3000 _ z h4
          simp only at h3
          split at h3
          · rename_i hb
            have hlen := Nat.eq_of_beq_eq_true hl
            refine ⟨i, x, rfl, hz0, h5, hd, hlen.symm, ble_iff.1 hb, ?_⟩
            have := denL_length (hd (fun _ => none))
            rw [Array.length_toList] at this
            omega
          · cases h3
    · cases hz
  · cases hz
section
variable {P : Program} {vs : List V} {h : H} {k : KO}
theorem stand_row {e : Nat} {c : List V} {cs : List Value} {E : Nm} {l : Loc} (h1 : c.all V.isOne = true) (h2 : denL E c = some cs) (h0 : l.of = 0) :
    ∀ E' w', Ext E E' → w'.heap[l.bl]? = some (.cells cs.toArray e) → Stand P E' w' l (.row e c false) := fun E' w' hx hw =>
  ⟨h0, cs, [], h1, denL_ext hx c cs h2, by rw [hw, List.append_nil], rfl⟩
def locOf (n cp : Nat) : Loc := ⟨n, cp, default, .bool false, 0⟩
theorem mk_alloc {e : TypeId} {z : List V} (hz : zcells1 P e = some z) (hk : a_alloc e z k = true) : ∃ mk ob, k mk ob = true ∧ MkOk P (.alloc e) vs mk ob := by
  obtain ⟨hz1, hz2⟩ := zcells1_some hz
  obtain ⟨x, hz3, hz4⟩ := zcells_run hz1
  refine ⟨_, _, hk, (by simp), fun E w ρ o ho hd => ⟨.cells x.cells e, locOf w.heap.size 0, .pointer (some ⟨w.heap.size, 0, none⟩), rfl, fun E' w' hx hw => ?_, fun E' n hn => by simp [den, hn, locOf], ?_⟩⟩
  · exact stand_row hz2 (hz3 E) rfl E' w' hx (by simpa using hw)
  · simp [execOp, ho, Instr.alloc, hz4, newVar, newRow]
theorem mk_box {e : TypeId} {a : Operand} (hk : v1 vs (fun x => a_box e x k) = true) : ∃ mk ob, k mk ob = true ∧ MkOk P (.box e a) vs mk ob := by
  obtain ⟨v, rfl, k1⟩ := v1_true hk
  obtain ⟨c, k2, hc⟩ := cells_true k1
  refine ⟨_, _, k2, (by simp), fun E w ρ o ho hd => ?_⟩
  obtain ⟨c1, c2⟩ := hc E _ (den1 hd)
  refine ⟨.cells (ρ a).cells e, locOf w.heap.size 0, .pointer (some ⟨w.heap.size, 0, none⟩), rfl, fun E' w' hx hw => ?_, fun E' n hn => by simp [den, hn, locOf], ?_⟩
  · exact stand_row c1 c2 rfl E' w' hx (by simpa using hw)
  · simp [execOp, ho, Instr.box, newVar, newRow]
theorem mk_map {t : TypeId} (hk : a_mkmap k = true) : ∃ mk ob, k mk ob = true ∧ MkOk P (.makeMap t none) vs mk ob := by
  refine ⟨_, _, hk, (by simp), fun E w ρ o ho hd => ⟨.map #[] 0, locOf w.heap.size 0, .map (some w.heap.size), rfl, fun E' w' hx hw => ⟨[], by simp [denM], hw⟩, fun E' n hn => by simp [den, hn, locOf], ?_⟩⟩
  simp [execOp, ho, Instr.makeMap]
theorem mk_mksl {t e : TypeId} {z : List V} {a b : Operand} (hu : P.underlying t = some (.slice e)) (hz : zs1 P e = some z) (hk : v2 vs (fun l c => a_mksl e z l c k) = true) :
    ∃ mk ob, k mk ob = true ∧ MkOk P (.makeSlice t a b) vs mk ob := by
  obtain ⟨x, y, rfl, k1⟩ := v2_true hk
  obtain ⟨j, l, rfl, hl, k2⟩ := V.onNat_true k1
  obtain ⟨j', c, rfl, hc, k3⟩ := V.onNat_true k2
  obtain ⟨h1, k4⟩ := condK_true k3
  obtain ⟨h2, k5⟩ := condK_true k4
  rw [repK_eq] at k5
  have h1 := ble_iff.1 h1
  have h2 := ble_iff.1 h2
  obtain ⟨i, zx, hi, hz0, hone, hden, hsz, hby, hcs⟩ := zs1_some hz
  refine ⟨_, _, k5, (by simp), fun E w ρ o ho hd => ?_⟩
  obtain ⟨d1, d2⟩ := den2 hd
  obtain ⟨_, e1⟩ := den_int d1
  obtain ⟨_, e2⟩ := den_int d2
  rw [wrap_pos hl] at e1
  rw [wrap_pos hc] at e2
  have hb : (i.bytes : Int) * (c : Int) ≤ 281474976710656 := by
    have : i.bytes * c ≤ 1000000 * 1000000 := Nat.mul_le_mul hby h2
    have : ((i.bytes * c : Nat) : Int) ≤ 281474976710656 := by omega
    rwa [Int.natCast_mul] at this
  have hr := run_make (P := P) w t e i zx hu hi hz0 j j' (l : Int) (c : Int) (by omega) (by omega) hb (by omega)
  refine ⟨.cells (madeCells zx.cells (c * i.size)) e, locOf w.heap.size c, .slice (some ⟨w.heap.size, 0, none⟩) l c, rfl, fun E' w' hx hw => ?_, fun E' n hn => ?_, ?_⟩
  · refine stand_row (all_rep hone c) (denL_rep (hden E) c) rfl E' w' hx ?_
    have e0 : madeCells zx.cells (c * i.size) = (List.replicate c zx.cells.toList).flatten.toArray := by
      have := flat_rep zx.cells.toList c
      rw [Array.toArray_toList, Array.length_toList, hcs] at this
      exact this
    rw [hw, e0]
  · simp only [den, hn]
    rw [if_pos h1]
    simp [locOf]
  · simp only [execOp, ho, e1, e2, Sem.run_bind, hr, Result.andThen_ok, Sem.run_pure, Int.toNat_natCast]
theorem mk_buildSl {t e s n : Nat} {z : List V} {ps : Array (Nat × Operand)} (hu : P.underlying t = some (.slice e)) (hz : zs1 P e = some z) (hs : szO P e = some s) (hn : Nat.ble (n * s) 16777216 = true)
    (hk : zipP ps.toList vs (fun ps => repK z n (fun z => a_buildSl e s z n ps k)) = true) : ∃ mk ob, k mk ob = true ∧ MkOk P (.buildSlice t n ps) vs mk ob := by
  obtain ⟨qs, k1, e1, e2⟩ := zipP_true hk
  rw [repK_eq] at k1
  have hpl : ∀ i k, (fun i k => natK (Nat.mul i s) (fun o => k o s) : Nat → (Nat → Nat → Bool) → Bool) i k = true → ∃ off size, (fun i => some (i * s, s)) i = some (off, size) ∧ k off size = true := fun i k h => by
    rw [show (fun i k => natK (Nat.mul i s) (fun o => k o s) : Nat → (Nat → Nat → Bool) → Bool) i k = natK (Nat.mul i s) (fun o => k o s) from rfl, natK_eq] at h
    exact ⟨_, _, rfl, h⟩
  obtain ⟨c, k2, _, hc⟩ := fillK_true hpl k1
  obtain ⟨i, zx, hi, hz0, hone, hden, hsz, hby, hcs⟩ := zs1_some hz
  have hsi : s = i.size := by unfold szO at hs; rw [hi] at hs; cases hs; rfl
  have hn := ble_iff.1 hn
  refine ⟨_, _, k2, (by simp), fun E w ρ o ho hd => ?_⟩
  have eo : (Op.buildSlice t n ps).operands.toList = ps.toList.map (·.2) := by simp [Op.operands]
  rw [eo, ← e2] at hd
  obtain ⟨p1, p2⟩ := parts_map e1 hd
  obtain ⟨c', c1, c2, c3⟩ := hc E (List.replicate n zx.cells.toList).flatten _ (all_rep hone n) (denL_rep (hden E) n) p1 p2
  have e0 : (Array.range (n * s)).map (zx.cells[· % zx.cells.size]!) = (List.replicate n zx.cells.toList).flatten.toArray := by
    have := flat_rep zx.cells.toList n
    rw [Array.toArray_toList, Array.length_toList, hcs, ← hsi] at this
    exact this
  rw [← e0] at c3
  refine ⟨.cells c'.toArray e, locOf w.heap.size n, .slice (some ⟨w.heap.size, 0, none⟩) n n, rfl, fun E' w' hx hw => stand_row c1 c2 rfl E' w' hx hw, fun E' m hm => ?_, ?_⟩
  · simp only [den, hm]
    rw [if_pos (Nat.le_refl n)]
    simp [locOf]
  · have hzr : (zeroValue e).run P w = .ok zx w := by simp [zeroValue, typeInfo, hi, hz0]
    have hbs : (Instr.buildSlice t n (ps.map fun (i, x) => (i, ρ x))).run P w = .ok (.slice (some ⟨w.heap.size, 0, none⟩) n n) (w.alloc (.cells c'.toArray e)) := by
      unfold Instr.buildSlice
      simp only [Sem.run_bind, run_underlying hu, Result.andThen_ok, size_run hs]
      rw [if_neg (by omega)]
      by_cases h0 : n * s = 0
      · have e3 : (Array.range (n * s)).map ((#[] : Array Value)[· % (#[] : Array Value).size]!) = (Array.range (n * s)).map (zx.cells[· % zx.cells.size]!) := by rw [h0, Array.range_zero']; simp
        rw [if_pos h0]
        simp only [Sem.run_pure, Sem.run_bind, Result.andThen_ok, e3, c3, newRow, run_newObj]
        rfl
      · rw [if_neg h0]
        simp only [Sem.run_pure, Sem.run_bind, hzr, Result.andThen_ok, c3, newRow, run_newObj]
        rfl
    simp only [execOp, ho, Sem.run_bind, hbs, Result.andThen_ok, Sem.run_pure]
theorem evA_sound {op : Op} (hk : evA P op vs k = true) : ∃ mk ob, k mk ob = true ∧ MkOk P op vs mk ob := by
  unfold evA at hk
  split at hk
  · obtain ⟨z, hz, hk⟩ := okK_true hk
    exact mk_alloc hz hk
  · exact mk_box hk
  · split at hk
    · rename_i e hu
      obtain ⟨z, hz, hk⟩ := okK_true hk
      obtain ⟨s, hs, hk⟩ := okK_true hk
      split at hk
      · rename_i hn; exact mk_buildSl hu hz hs hn hk
      · cases hk
    · cases hk
  · exact mk_map hk
  · split at hk
    · rename_i e hu
      obtain ⟨z, hz, hk⟩ := okK_true hk
      exact mk_mksl hu hz hk
    · cases hk
  · cases hk
end
end Go.Ev

