/-
  Parts of one proof, one behind the other.
-/
import Derived.Test.YtnhocmmgdkiepaaDoorMgb62e9ef65c
/-
  sched.Sched: Del, Sleep.
-/
namespace Go.Proofs.YtnhocmmgdkiepaaDoor
open Go.RowKit Go.Maps

section
variable (w : World) {ops : Array Oper} {rest : List Oper} {o : Oper} {a : Act} {Q : Exit → Act → World → Prop}
theorem wp_delete_mp (hg : o.guard = none) (m x : Operand) (hop : o.op = Op.call { callee := Callee.builtin Builtin.delete, args := #[m, x], argTypes := #[100, 3] }) (mb n : Nat) (F : Int → Option Nat) (hm : a.eval m = .map (some mb)) (h : MpAt w mb n F) (key : Int) (hx : a.eval x = .int .i64 key) (hk : kw key)
    (hK : ∀ w', MpAt w' mb n (updF F key none) → Only (fun k => k = mb) w w' → wpList Tryd.prog ops Q rest (a.put o.dst (.tuple #[])) w') :
    wpList Tryd.prog ops Q (o :: rest) a w := by
  obtain ⟨D, hown, hd⟩ := h
  exact wpList_delete_own w hg m x _ _ hop _ keyI Tryd.underlying100 pR mb n D hm hown _ _ hx (keyOfI hk) fun w' h1 h2 => hK w' ⟨_, h1, dis_del hd key⟩ (only_grown h2.grown rfl)
theorem wp_update_mp (hg : o.guard = none) (m x v : Operand) (hop : o.op = Op.mapUpdate 100 m x v) (mb n : Nat) (hn : n < maxLen) (F : Int → Option Nat) (hm : a.eval m = .map (some mb)) (h : MpAt w mb n F) (key : Int) (hx : a.eval x = .int .i64 key) (hk : kw key) (b : Nat) (hv : a.eval v = .pointer (some ⟨b, 0, none⟩))
    (hK : ∀ w', MpAt w' mb (n + 1) (updF F key (some b)) → Only (fun k => k = mb) w w' → wpList Tryd.prog ops Q rest (a.put o.dst undef) w') :
    wpList Tryd.prog ops Q (o :: rest) a w := by
  obtain ⟨D, hown, hd⟩ := h
  exact wpList_mapUpdate_own w hg m x v _ hop _ _ keyI Tryd.underlying100 pR mb n D hm hown hn _ _ _ hx hv (keyOfI hk) _ _ (pR_mk (some b)) fun w' h1 h2 => hK w' ⟨_, h1, dis_put hown.isMap hd key hk b⟩ (only_grown h2 rfl)
end
theorem kw_in {x : Int} (h : kw x) : -9223372036854775808 ≤ x ∧ x ≤ 9223372036854775807 := by
  unfold kw at h
  simpa [Lit.wf, IntKind.min, IntKind.max, IntKind.signed, IntKind.bits] using h
/-- one is taken out -/
structure OutOk (w : World) (p : Sl) (m : Nat) (F : Int → Option Nat) (R A : List On) (o : On) (w2 : World) (p2 : Sl) (R2 A2 : List On) : Prop where
  mem : ScMem w2 p2 m F R2 A2
  sb : p2.sb = p.sb
  mb : p2.mb = p.mb
  rb : p2.rb = p.rb
  ab : p2.ab = p.ab
  ls : Lists R2 A2
  ins : ∀ z, InS R2 A2 z ↔ (InS R A z ∧ z.id ≠ o.id)
  blk : ∃ pl : Int, w2.heap[o.blk]? = some (.cells (onCells o pl) 109 (0, 0))
  nb : ∀ z, InS R2 A2 z → z.blk ≠ o.blk
  len : R2.length + A2.length + 1 = R.length + A.length
  zn : ∀ b, scz p2 R2 A2 b → scz p R A b
  only : Only (scz p R A) w w2
/-- one is put in -/
structure InOk (w : World) (p : Sl) (m : Nat) (F : Int → Option Nat) (R A : List On) (o : On) (w2 : World) (p2 : Sl) (R2 A2 : List On) : Prop where
  mem : ScMem w2 p2 m F R2 A2
  sb : p2.sb = p.sb
  mb : p2.mb = p.mb
  rb : p2.rb = p.rb
  ab : p2.ab = p.ab
  ls : Lists R2 A2
  ins : ∀ z, InS R2 A2 z ↔ (z = o ∨ InS R A z)
  len : R2.length + A2.length = R.length + A.length + 1
  zn : ∀ b, scz p2 R2 A2 b → scz p R A b ∨ b = o.blk ∨ w.heap.size ≤ b
  only : Only (fun b => scz p R A b ∨ b = o.blk) w w2
theorem out_R {w w2 : World} {p : Sl} {m : Nat} {F : Int → Option Nat} {R A : List On} (h : ScMem w p m F R A) (hp : ScP m F R A) {i : Nat} (hi : i < R.length) {e : Ending} (hq : RemQ p.rb p.rv R i w e w2) : ∃ p2 R2 A2, OutOk w p m F R A (og R i) w2 p2 R2 A2 := by
  obtain ⟨-, v', h2, hv, hb, ho⟩ := hq
  obtain ⟨f1, f2, f3⟩ := rem_lists false R i hi hp.sr hp.hr
  have hL := inL_rem R i hi h.rd.nd
  have hon : ∀ j q, j < ((hRem R i).take (R.length - 1)).length → q < A.length → (og ((hRem R i).take (R.length - 1)) j).blk ≠ (og A q).blk := fun j q hj hq => by
    obtain ⟨⟨c, hc, e⟩, -⟩ := (hL _).1 ⟨j, hj, rfl⟩
    rw [← e]
    exact h.ones c q hc hq
  have hm2 := h.opR (X := fun _ => False) h2 (ho.mono fun b e => .inl (by
    rcases e with e | e
    · exact .inl e
    · exact .inr (.inl e))) (fun b e => e.elim) (fun b hb => .inl (hv b hb)) hon
  have hin : ∀ z, InS ((hRem R i).take (R.length - 1)) A z ↔ (InS R A z ∧ z.id ≠ (og R i).id) := fun z => by
    constructor
    · rintro (h1 | h1)
      · obtain ⟨h3, h4⟩ := (hL z).1 h1
        exact ⟨.inl h3, fun e => h4 (sc_inj h hp (.inl h3) (.r hi) e)⟩
      · refine ⟨.inr h1, fun e => ?_⟩
        have := sc_inj h hp (.inr h1) (.r hi) e
        subst this
        obtain ⟨j, hj, e2⟩ := h1
        exact h.ones i j hi hj (by rw [e2])
    · rintro ⟨h1 | h1, h2⟩
      · exact .inl ((hL z).2 ⟨h1, fun e => h2 (by rw [e])⟩)
      · exact .inr h1
  refine ⟨_, _, _, hm2, rfl, rfl, rfl, rfl, ⟨f1, hp.sa, f2, hp.ha⟩, hin, ⟨_, hb⟩, fun z hz e => ?_, by rw [f3]; omega, fun b hb => ?_, ho.mono fun b hb => .inl (by
    rcases hb with hb | hb
    · rw [hb]; exact .inr (.inl rfl)
    · exact .inr (.inr (.inr (.inl hb))))⟩
  · obtain ⟨h3, h4⟩ := (hin z).1 hz
    have e1 := hp.f1 z h3
    have hz2 : InS R A (og R i) := InS.r hi
    rcases h3 with ⟨c, hc, rfl⟩ | ⟨c, hc, rfl⟩
    · exact h4 (by rw [h.rd.nd c i hc hi e])
    · exact h.ones i c hi hc e.symm
  · rcases hb with hb | hb | hb | hb | hb
    · exact .inl hb
    · exact .inr (.inl hb)
    · exact .inr (.inr (.inl hb))
    · rcases hb with hb | ⟨j, hj, rfl⟩
      · exact .inr (.inr (.inr (.inl (.inl (hv b hb)))))
      · obtain ⟨⟨c, hc, e⟩, -⟩ := (hL _).1 ⟨j, hj, rfl⟩
        rw [← e]
        exact .inr (.inr (.inr (.inl (.inr ⟨c, hc, rfl⟩))))
    · exact .inr (.inr (.inr (.inr hb)))
theorem in_R {w w2 : World} {p : Sl} {m : Nat} {F : Int → Option Nat} {R A : List On} (h : ScMem w p m F R A) (hl : Lists R A) {o : On} (hsl : o.sl = false) {p0 : Int} (hb0 : w.heap[o.blk]? = some (.cells (onCells o p0) 109 (0, 0))) (nb : ∀ z, InS R A z → z.blk ≠ o.blk) {v' : Value} (h2 : HpAt w2 p.rb v' (hPush R o)) (ho : Only (fun b => b = p.rb ∨ hz p.rv R b ∨ b = o.blk) w w2) (hv : ∀ b, inRow v' b → inRow p.rv b ∨ w.heap.size ≤ b) : ∃ p2 R2 A2, InOk w p m F R A o w2 p2 R2 A2 := by
  have hsm := hPush_same R o
  have hL : ∀ z, InL (hPush R o) z ↔ (z = o ∨ InL R z) := fun z => (hsm.inL z).trans (inL_app R o z)
  have hlen : (hPush R o).length = R.length + 1 := by rw [hsm.len]; simp
  have hm2 := h.opR (X := fun b => b = o.blk) h2 ho (fun b e => by
    rw [show b = o.blk from e]
    exact ⟨⟨_, hb0⟩, fun j hj => nb _ (.a hj)⟩) hv (fun j q hj hq => by
    rcases (hL _).1 ⟨j, hj, rfl⟩ with e | ⟨c, hc, e⟩
    · rw [e]; exact fun e2 => nb _ (InS.a (i := q) hq) e2.symm
    · rw [← e]; exact h.ones c q hc hq)
  refine ⟨_, _, _, hm2, rfl, rfl, rfl, rfl, ⟨hsm.sl (fun j hj => by
    rcases (inL_app R o _).1 ⟨j, hj, rfl⟩ with e | ⟨c, hc, e⟩
    · rw [e]; exact hsl
    · rw [← e]; exact hl.sr c hc), hl.sa, by rw [hlen]; exact hPush_heap false R o hl.sr hsl hl.hr, hl.ha⟩, fun z => ?_, by rw [hlen]; omega, fun b hb => ?_, ho.mono fun b hb => .inl (by
    rcases hb with hb | hb | hb
    · rw [hb]; exact .inl (.inr (.inl rfl))
    · exact .inl (.inr (.inr (.inr (.inl hb))))
    · exact .inr hb)⟩
  · show InS (hPush R o) A z ↔ _
    constructor
    · rintro (h1 | h1)
      · rcases (hL z).1 h1 with e | h3
        · exact .inl e
        · exact .inr (.inl h3)
      · exact .inr (.inr h1)
    · rintro (e | h1 | h1)
      · exact .inl ((hL z).2 (.inl e))
      · exact .inl ((hL z).2 (.inr h1))
      · exact .inr h1
  · have hzp : ∀ b, hz v' (hPush R o) b → scz p R A b ∨ b = o.blk ∨ w.heap.size ≤ b := fun b hb => by
      rcases hb with hb | ⟨j, hj, rfl⟩
      · rcases hv b hb with h3 | h3
        · exact .inl (.inr (.inr (.inr (.inl (.inl h3)))))
        · exact .inr (.inr h3)
      · rcases (hL _).1 ⟨j, hj, rfl⟩ with e | ⟨c, hc, e⟩
        · rw [e]; exact .inr (.inl rfl)
        · rw [← e]; exact .inl (.inr (.inr (.inr (.inl (.inr ⟨c, hc, rfl⟩)))))
    rcases hb with hb | hb | hb | hb | hb
    · exact .inl (.inl hb)
    · exact .inl (.inr (.inl hb))
    · exact .inl (.inr (.inr (.inl hb)))
    · exact hzp b hb
    · exact .inl (.inr (.inr (.inr (.inr hb))))
theorem out_A {w w2 : World} {p : Sl} {m : Nat} {F : Int → Option Nat} {R A : List On} (h : ScMem w p m F R A) (hp : ScP m F R A) {i : Nat} (hi : i < A.length) {e : Ending} (hq : RemQ p.ab p.av A i w e w2) : ∃ p2 R2 A2, OutOk w p m F R A (og A i) w2 p2 R2 A2 := by
  obtain ⟨-, v', h2, hv, hb, ho⟩ := hq
  obtain ⟨f1, f2, f3⟩ := rem_lists true A i hi hp.sa hp.ha
  have hL := inL_rem A i hi h.sd.nd
  have hon : ∀ j q, j < ((hRem A i).take (A.length - 1)).length → q < R.length → (og ((hRem A i).take (A.length - 1)) j).blk ≠ (og R q).blk := fun j q hj hq => by
    obtain ⟨⟨c, hc, e⟩, -⟩ := (hL _).1 ⟨j, hj, rfl⟩
    rw [← e]
    exact (h.ones q c hq hc).symm
  have hm2 := h.opA (X := fun _ => False) h2 (ho.mono fun b e => .inl (by
    rcases e with e | e
    · exact .inl e
    · exact .inr (.inl e))) (fun b e => e.elim) (fun b hb => .inl (hv b hb)) hon
  have hin : ∀ z, InS R ((hRem A i).take (A.length - 1)) z ↔ (InS R A z ∧ z.id ≠ (og A i).id) := fun z => by
    constructor
    · rintro (h1 | h1)
      · refine ⟨.inl h1, fun e => ?_⟩
        have := sc_inj h hp (.inl h1) (.a hi) e
        subst this
        obtain ⟨j, hj, e2⟩ := h1
        exact h.ones j i hj hi (by rw [e2])
      · obtain ⟨h3, h4⟩ := (hL z).1 h1
        exact ⟨.inr h3, fun e => h4 (sc_inj h hp (.inr h3) (.a hi) e)⟩
    · rintro ⟨h1 | h1, h2⟩
      · exact .inl h1
      · exact .inr ((hL z).2 ⟨h1, fun e => h2 (by rw [e])⟩)
  refine ⟨_, _, _, hm2, rfl, rfl, rfl, rfl, ⟨hp.sr, f1, hp.hr, f2⟩, hin, ⟨_, hb⟩, fun z hz e => ?_, by rw [f3]; omega, fun b hb => ?_, ho.mono fun b hb => .inl (by
    rcases hb with hb | hb
    · rw [hb]; exact .inr (.inr (.inl rfl))
    · exact .inr (.inr (.inr (.inr hb))))⟩
  · obtain ⟨h3, h4⟩ := (hin z).1 hz
    have e1 := hp.f1 z h3
    have hz2 : InS R A (og A i) := InS.a hi
    rcases h3 with ⟨c, hc, rfl⟩ | ⟨c, hc, rfl⟩
    · exact h.ones c i hc hi e
    · exact h4 (by rw [h.sd.nd c i hc hi e])
  · rcases hb with hb | hb | hb | hb | hb
    · exact .inl hb
    · exact .inr (.inl hb)
    · exact .inr (.inr (.inl hb))
    · exact .inr (.inr (.inr (.inl hb)))
    · rcases hb with hb | ⟨j, hj, rfl⟩
      · exact .inr (.inr (.inr (.inr (.inl (hv b hb)))))
      · obtain ⟨⟨c, hc, e⟩, -⟩ := (hL _).1 ⟨j, hj, rfl⟩
        rw [← e]
        exact .inr (.inr (.inr (.inr (.inr ⟨c, hc, rfl⟩))))
theorem in_A {w w2 : World} {p : Sl} {m : Nat} {F : Int → Option Nat} {R A : List On} (h : ScMem w p m F R A) (hl : Lists R A) {o : On} (hsl : o.sl = true) {p0 : Int} (hb0 : w.heap[o.blk]? = some (.cells (onCells o p0) 109 (0, 0))) (nb : ∀ z, InS R A z → z.blk ≠ o.blk) {v' : Value} (h2 : HpAt w2 p.ab v' (hPush A o)) (ho : Only (fun b => b = p.ab ∨ hz p.av A b ∨ b = o.blk) w w2) (hv : ∀ b, inRow v' b → inRow p.av b ∨ w.heap.size ≤ b) : ∃ p2 R2 A2, InOk w p m F R A o w2 p2 R2 A2 := by
  have hsm := hPush_same A o
  have hL : ∀ z, InL (hPush A o) z ↔ (z = o ∨ InL A z) := fun z => (hsm.inL z).trans (inL_app A o z)
  have hlen : (hPush A o).length = A.length + 1 := by rw [hsm.len]; simp
  have hm2 := h.opA (X := fun b => b = o.blk) h2 ho (fun b e => by
    rw [show b = o.blk from e]
    exact ⟨⟨_, hb0⟩, fun j hj => nb _ (.r hj)⟩) hv (fun j q hj hq => by
    rcases (hL _).1 ⟨j, hj, rfl⟩ with e | ⟨c, hc, e⟩
    · rw [e]; exact fun e2 => nb _ (InS.r (i := q) hq) e2.symm
    · rw [← e]; exact (h.ones q c hq hc).symm)
  refine ⟨_, _, _, hm2, rfl, rfl, rfl, rfl, ⟨hl.sr, hsm.sl (fun j hj => by
    rcases (inL_app A o _).1 ⟨j, hj, rfl⟩ with e | ⟨c, hc, e⟩
    · rw [e]; exact hsl
    · rw [← e]; exact hl.sa c hc), hl.hr, by rw [hlen]; exact hPush_heap true A o hl.sa hsl hl.ha⟩, fun z => ?_, by rw [hlen]; omega, fun b hb => ?_, ho.mono fun b hb => .inl (by
    rcases hb with hb | hb | hb
    · rw [hb]; exact .inl (.inr (.inr (.inl rfl)))
    · exact .inl (.inr (.inr (.inr (.inr hb))))
    · exact .inr hb)⟩
  · show InS R (hPush A o) z ↔ _
    constructor
    · rintro (h1 | h1)
      · exact .inr (.inl h1)
      · rcases (hL z).1 h1 with e | h3
        · exact .inl e
        · exact .inr (.inr h3)
    · rintro (e | h1 | h1)
      · exact .inr ((hL z).2 (.inl e))
      · exact .inl h1
      · exact .inr ((hL z).2 (.inr h1))
  · have hzp : ∀ b, hz v' (hPush A o) b → scz p R A b ∨ b = o.blk ∨ w.heap.size ≤ b := fun b hb => by
      rcases hb with hb | ⟨j, hj, rfl⟩
      · rcases hv b hb with h3 | h3
        · exact .inl (.inr (.inr (.inr (.inr (.inl h3)))))
        · exact .inr (.inr h3)
      · rcases (hL _).1 ⟨j, hj, rfl⟩ with e | ⟨c, hc, e⟩
        · rw [e]; exact .inr (.inl rfl)
        · rw [← e]; exact .inl (.inr (.inr (.inr (.inr (.inr ⟨c, hc, rfl⟩)))))
    rcases hb with hb | hb | hb | hb | hb
    · exact .inl (.inl hb)
    · exact .inl (.inr (.inl hb))
    · exact .inl (.inr (.inr (.inl hb)))
    · exact .inl (.inr (.inr (.inr (.inl hb))))
    · exact hzp b hb
def scDel (st : Int → Option Gu) (x : Int) : (Int → Option Gu) × Int := match st x with
  | none => (st, 107)
  | some _ => (upd st x none, 0)
/-- what taking out does, whichever heap he is in -/
theorem srem_any (w : World) (p : Sl) (m : Nat) (F : Int → Option Nat) (R A : List On) (hm : ScMem w p m F R A) (hp : ScP m F R A) (o : On) (i : Nat) (hb : (i < R.length ∧ og R i = o) ∨ (i < A.length ∧ og A i = o)) :
    Calls Tryd.prog 59 #[.iface 101 (.pointer (some ⟨if o.sl = true then p.ab else p.rb, 0, none⟩)), .int .i64 (i : Int)] w fun e w' => (∃ b : Nat, e = .returned (.iface 107 (.pointer (some ⟨b, 0, none⟩)))) ∧ ∃ p2 R2 A2, OutOk w p m F R A o w' p2 R2 A2 := by
  rcases hb with ⟨hi, rfl⟩ | ⟨hi, rfl⟩
  · rw [hp.sr i hi]
    exact (hremove_any p.rb p.rv R i w hm.rd hi).mono fun e w' hq => ⟨⟨_, hq.1⟩, out_R hm hp hi hq⟩
  · rw [hp.sa i hi]
    exact (hremove_any p.ab p.av A i w hm.sd hi).mono fun e w' hq => ⟨⟨_, hq.1⟩, out_A hm hp hi hq⟩
set_option maxRecDepth 100000 in
set_option maxHeartbeats 6400000 in
theorem sdel_none (E : Nat → Addr) (w : World) (Z : Nat → Prop) (sb m : Nat) (st : Int → Option Gu) (h : ScAt w Z sb m st) (hE : ScErr E w) (x : Int) (hx : kw x) (hno : st x = none) :
    Calls Tryd.prog 18 #[.pointer (some ⟨sb, 0, none⟩), .int .i64 x] w (ScQ E Z sb m (scDel st x) w) := by
  have HR : Hid (scDel st x = (st, 107)) := Lib.hid (by unfold scDel; rw [hno])
  rw [HR.out]
  have HQ : Hid (ScQ E Z sb m (st, 107) w (.returned (errD E 107)) w) := Lib.hid ⟨rfl, h.mono fun b _ hb => .inl hb, Only.refl _ _⟩
  obtain ⟨p, F, R, A, rfl, hm, hp, hs, -⟩ := h
  have c0 : w.cell? ⟨p.sb, 0, none⟩ = some (.map (some p.mb)) := blk_cell hm.row 0
  have lt := blk_lt hm.row
  have hl := mp_look hm.map x hx
  rcases sc_look (w := w) (p := p) hp hs x hx with ⟨h1, h2⟩ | ⟨o, ho, -, -, h2⟩
  · rw [h1] at hl
    unfold optPtr at hl
    obtain ⟨-, -, e6, l6⟩ := hE
    clear hm hp hs h1 h2 hno HR
    go_enter Tryd.func18, Tryd.ntmps18
    go_wp2
    go_ret
    exact HQ.out
  · rw [hno] at h2
    cases h2
set_option maxRecDepth 100000 in
set_option maxHeartbeats 6400000 in
theorem sdel_some (E : Nat → Addr) (w : World) (Z : Nat → Prop) (p : Sl) (m : Nat) (F : Int → Option Nat) (R A : List On) (st : Int → Option Gu) (hm : ScMem w p m F R A) (hp : ScP m F R A) (hs : ScS R A st) (hZ : ∀ b, scz p R A b → Z b) (x : Int) (hx : kw x) (g : Gu) (hg : st x = some g) :
    Calls Tryd.prog 18 #[.pointer (some ⟨p.sb, 0, none⟩), .int .i64 x] w (ScQ E Z p.sb m (scDel st x) w) := by
  have HR : Hid (scDel st x = (upd st x none, 0)) := Lib.hid (by unfold scDel; rw [hg])
  rw [HR.out]
  obtain ⟨o, ho, rfl⟩ := hs.s2 x g hg
  obtain ⟨i, hbl, hix⟩ := hm.one ho
  have hcl := mp_look hm.map _ hx
  rw [hp.f1 _ ho] at hcl
  unfold optPtr at hcl
  have c0 : w.cell? ⟨p.sb, 0, none⟩ = some (.map (some p.mb)) := blk_cell hm.row 0
  have lt := blk_lt hm.row
  have d5 : w.cell? ⟨o.blk, 5, none⟩ = some (.int .i64 (i : Int)) := blk_cell hbl 5
  have ld := blk_lt hbl
  have hmd : ScMem w.drew p m F R A := hm.below (Below.refl _ _).drew
  have HOF := Lib.hid (sof_row w p.sb p.mb p.rb p.ab hm.row o i hbl)
  have HOFD := Lib.hid (sof_row w.drew p.sb p.mb p.rb p.ab hmd.row o i hbl)
  have HRM := Lib.hid (srem_any w p m F R A hm hp o i hix)
  have HRMD := Lib.hid (srem_any w.drew p m F R A hmd hp o i hix)
  obtain ⟨tb, htb⟩ : ∃ t, (if o.sl = true then p.ab else p.rb) = t := ⟨_, rfl⟩
  rw [htb] at HOF HOFD HRM HRMD
  clear htb
  have HFROM : Hid (∀ w2 p2 R2 A2, OutOk w.drew p m F R A o w2 p2 R2 A2 → OutOk w p m F R A o w2 p2 R2 A2) := Lib.hid fun w2 p2 R2 A2 h => ⟨h.mem, h.sb, h.mb, h.rb, h.ab, h.ls, h.ins, h.blk, h.nb, h.len, h.zn, (Only.refl (scz p R A) w).drew.trans (h.only.mono fun _ h => .inl h)⟩
  have HFIN : Hid (∀ w2 p2 R2 A2, OutOk w p m F R A o w2 p2 R2 A2 → ∀ w3, MpAt w3 p.mb m (updF F o.id none) → Only (fun k => k = p.mb) w2 w3 → ScAt w3 (fun b => Z b ∨ w.heap.size ≤ b) p.sb m (upd st o.id none) ∧ Only Z w w3) := Lib.hid fun w2 p2 R2 A2 h w3 h3 ho3 => by
    rw [← h.mb] at h3 ho3
    obtain ⟨q1, q2⟩ := scP_del hp hs ho h.ins h.ls (by have := h.len; omega)
    exact ⟨⟨p2, _, R2, A2, h.sb, h.mem.mapOp h3 ho3, q1, q2, fun b hb => .inl (hZ b (h.zn b hb))⟩, (h.only.mono fun b hb => .inl (hZ b hb)).trans (ho3.mono fun b hb => .inl (hZ b (.inl (by rw [hb, h.mb]))))⟩
  have HMAP : Hid (∀ w2 p2 R2 A2, OutOk w p m F R A o w2 p2 R2 A2 → MpAt w2 p.mb m F ∧ w2.cell? ⟨p.sb, 0, none⟩ = some (.map (some p.mb)) ∧ p.sb < w2.heap.size) := Lib.hid fun w2 p2 R2 A2 h => by
    have h1 := h.mem.map
    have h2 := h.mem.row
    rw [h.mb] at h1
    rw [h.mb, h.sb] at h2
    exact ⟨h1, blk_cell h2 0, blk_lt h2⟩
  obtain ⟨oi, hoi⟩ : ∃ x, o.id = x := ⟨_, rfl⟩
  obtain ⟨ob, hob⟩ : ∃ x, o.blk = x := ⟨_, rfl⟩
  rw [hoi] at hcl HFIN hx ⊢
  rw [hob] at hcl d5 ld HOF HOFD
  have HX := Lib.hid hx
  clear hm hp hs hZ hg HR ho hbl hix hx hmd hoi hob
  go_enter Tryd.func18, Tryd.ntmps18
  go_wp2_with fail
  go_region_with (first
    | (go_at_call 58; refine HOF.out.mono ?_; rintro y wx ⟨rfl, rfl⟩)
    | (go_at_call 58; refine HOFD.out.mono ?_; rintro y wx ⟨rfl, rfl⟩)
    | (go_at_call 59; refine HRM.out.mono ?_; rintro y w2 ⟨⟨bb, rfl⟩, p2, R2, A2, hout⟩)
    | (go_at_call 59; refine HRMD.out.mono ?_; rintro y w2 ⟨⟨bb, rfl⟩, p2, R2, A2, hout'⟩; have hout := HFROM.out _ _ _ _ hout'))
  all_goals
    have HO := Lib.hid hout
    obtain ⟨hmp, e0, l0⟩ := HMAP.out _ _ _ _ hout
    have HMP := Lib.hid hmp
    clear hout hmp c0 lt d5 ld hcl
    go_wp2_with (at_delete; refine wp_delete_mp _ rfl _ _ rfl _ _ _ rfl HMP.out _ rfl HX.out ?_)
    intro w3 h3 ho3
    have HF := Lib.hid (HFIN.out _ _ _ _ HO.out w3 h3 ho3)
    clear h3 ho3
    go_wp2
    go_ret
    exact ⟨rfl, HF.out⟩
theorem sdel_any (E : Nat → Addr) (w : World) (Z : Nat → Prop) (sb m : Nat) (st : Int → Option Gu) (h : ScAt w Z sb m st) (hE : ScErr E w) (x : Int) (hx : kw x) :
    Calls Tryd.prog 18 #[.pointer (some ⟨sb, 0, none⟩), .int .i64 x] w (ScQ E Z sb m (scDel st x) w) := by
  cases hg : st x with
  | none => exact sdel_none E w Z sb m st h hE x hx hg
  | some g =>
    obtain ⟨p, F, R, A, rfl, hm, hp, hs, hZ⟩ := h
    exact sdel_some E w Z p m F R A st hm hp hs hZ x hx g hg
def scSleep (st : Int → Option Gu) (x n : Int) : (Int → Option Gu) × Int := match st x with
  | none => (st, 107)
  | some g => (upd st x (some ⟨g.wt, g.us, true, n⟩), 0)
set_option maxRecDepth 100000 in
set_option maxHeartbeats 6400000 in
theorem ssleep_none (E : Nat → Addr) (w : World) (Z : Nat → Prop) (sb m : Nat) (st : Int → Option Gu) (h : ScAt w Z sb m st) (hE : ScErr E w) (x n : Int) (hx : kw x) (hno : st x = none) :
    Calls Tryd.prog 20 #[.pointer (some ⟨sb, 0, none⟩), .int .i64 x, .int .i64 n] w (ScQ E Z sb m (scSleep st x n) w) := by
  have HR : Hid (scSleep st x n = (st, 107)) := Lib.hid (by unfold scSleep; rw [hno])
  rw [HR.out]
  have HQ : Hid (ScQ E Z sb m (st, 107) w (.returned (errD E 107)) w) := Lib.hid ⟨rfl, h.mono fun b _ hb => .inl hb, Only.refl _ _⟩
  obtain ⟨p, F, R, A, rfl, hm, hp, hs, -⟩ := h
  have c0 : w.cell? ⟨p.sb, 0, none⟩ = some (.map (some p.mb)) := blk_cell hm.row 0
  have lt := blk_lt hm.row
  have hl := mp_look hm.map x hx
  rcases sc_look (w := w) (p := p) hp hs x hx with ⟨h1, h2⟩ | ⟨o, ho, -, -, h2⟩
  · rw [h1] at hl
    unfold optPtr at hl
    obtain ⟨-, -, e6, l6⟩ := hE
    clear hm hp hs h1 h2 hno HR
    go_enter Tryd.func20, Tryd.ntmps20
    go_wp2
    go_ret
    exact HQ.out
  · rw [hno] at h2
    cases h2
set_option maxRecDepth 100000 in
set_option maxHeartbeats 6400000 in
theorem ssleep_some (E : Nat → Addr) (w : World) (Z : Nat → Prop) (p : Sl) (m : Nat) (F : Int → Option Nat) (R A : List On) (st : Int → Option Gu) (hm : ScMem w p m F R A) (hp : ScP m F R A) (hs : ScS R A st) (hZ : ∀ b, scz p R A b → Z b) (x n : Int) (hx : kw x) (hn : kw n) (g : Gu) (hg : st x = some g) :
    Calls Tryd.prog 20 #[.pointer (some ⟨p.sb, 0, none⟩), .int .i64 x, .int .i64 n] w (ScQ E Z p.sb m (scSleep st x n) w) := by
  have HR : Hid (scSleep st x n = (upd st x (some ⟨g.wt, g.us, true, n⟩), 0)) := Lib.hid (by unfold scSleep; rw [hg])
  rw [HR.out]
  obtain ⟨o, ho, rfl⟩ := hs.s2 x g hg
  obtain ⟨i, hbl, hix⟩ := hm.one ho
  have hcl := mp_look hm.map _ hx
  rw [hp.f1 _ ho] at hcl
  unfold optPtr at hcl
  have c0 : w.cell? ⟨p.sb, 0, none⟩ = some (.map (some p.mb)) := blk_cell hm.row 0
  have lt := blk_lt hm.row
  have d5 : w.cell? ⟨o.blk, 5, none⟩ = some (.int .i64 (i : Int)) := blk_cell hbl 5
  have ld := blk_lt hbl
  have hmd : ScMem w.drew p m F R A := hm.below (Below.refl _ _).drew
  have HOF := Lib.hid (sof_row w p.sb p.mb p.rb p.ab hm.row o i hbl)
  have HOFD := Lib.hid (sof_row w.drew p.sb p.mb p.rb p.ab hmd.row o i hbl)
  have HRM := Lib.hid (srem_any w p m F R A hm hp o i hix)
  have HRMD := Lib.hid (srem_any w.drew p m F R A hmd hp o i hix)
  obtain ⟨tb, htb⟩ : ∃ t, (if o.sl = true then p.ab else p.rb) = t := ⟨_, rfl⟩
  rw [htb] at HOF HOFD HRM HRMD
  clear htb
  have HFROM : Hid (∀ w2 p2 R2 A2, OutOk w.drew p m F R A o w2 p2 R2 A2 → OutOk w p m F R A o w2 p2 R2 A2) := Lib.hid fun w2 p2 R2 A2 h => ⟨h.mem, h.sb, h.mb, h.rb, h.ab, h.ls, h.ins, h.blk, h.nb, h.len, h.zn, (Only.refl (scz p R A) w).drew.trans (h.only.mono fun _ h => .inl h)⟩
  have hgo := hs.s1 o ho
  rw [hg] at hgo
  obtain rfl := Option.some.inj hgo
  obtain ⟨o', ho'⟩ : ∃ o' : On, o' = ⟨o.id, o.wt, o.us, true, n, o.blk⟩ := ⟨_, rfl⟩
  have HPUSH : Hid (∀ w2 p2 R2 A2, OutOk w p m F R A o w2 p2 R2 A2 → (∃ pl : Int, w2.heap[o.blk]? = some (.cells (onCells o pl) 109 (0, 0))) ∧ (w2.cell? ⟨p.sb, 2, none⟩ = some (.pointer (some ⟨p.ab, 0, none⟩)) ∧ p.sb < w2.heap.size ∧ o.blk ≠ p.sb) ∧ ∀ w3, (Only (fun b => b = o.blk) w2 w3) → ∀ pl : Int, w3.heap[o.blk]? = some (.cells (onCells o' pl) 109 (0, 0)) →
      Calls Tryd.prog 56 #[.iface 101 (.pointer (some ⟨p.ab, 0, none⟩)), .iface 107 (.pointer (some ⟨o.blk, 0, none⟩))] w3 fun e w4 => e = .returned (.tuple #[]) ∧ ScAt w4 (fun b => Z b ∨ w.heap.size ≤ b) p.sb m (upd st o.id (some ⟨o.wt, o.us, true, n⟩)) ∧ Only Z w w4) := Lib.hid fun w2 p2 R2 A2 h => by
    have hrow := h.mem.row
    rw [h.sb, h.mb, h.rb, h.ab] at hrow
    obtain ⟨pl0, hb0⟩ := h.blk
    have hne : o.blk ≠ p.sb := cells_ne hb0 hrow (by decide)
    refine ⟨⟨pl0, hb0⟩, ⟨blk_cell hrow 2, blk_lt hrow, hne⟩, fun w3 ho3 pl hb3 => ?_⟩
    have nz : ∀ b, scz p2 R2 A2 b → b ≠ o.blk := fun b hb e => by
      subst e
      rcases hb with hb | hb | hb | hb | hb
      · obtain ⟨es, c, hh⟩ := h.mem.map.ty
        exact map_ne hh hb0 hb.symm
      · exact cells_ne hb0 h.mem.rd.hdr (by decide) hb
      · exact cells_ne hb0 h.mem.sd.hdr (by decide) hb
      · rcases hb with hb | ⟨j, hj, e⟩
        · exact one_row h.mem.rd hb hb0
        · exact h.nb _ (.r hj) e.symm
      · rcases hb with hb | ⟨j, hj, e⟩
        · exact one_row h.mem.sd hb hb0
        · exact h.nb _ (.a hj) e.symm
    have hm3 : ScMem w3 p2 m F R2 A2 := h.mem.keep ho3 (by rw [h.sb]; exact fun e => hne e.symm) nz
    have hbk : o'.blk = o.blk := by rw [ho']
    have hlen := h.len
    have hc := hp.cnt
    have hc2 := hp.m100
    have hpu := hpush_any p2.ab p2.av A2 o' pl w3 hm3.sd (by rw [hbk]; exact hb3) (fun j hj => by rw [hbk]; exact h.nb _ (.a hj)) (by omega)
    rw [hbk, h.ab] at hpu
    refine hpu.mono ?_
    rintro e w4 ⟨rfl, v', h4, ho4, hv4⟩
    rw [← h.ab] at h4 ho4
    obtain ⟨p5, R5, A5, h5⟩ := in_A hm3 h.ls (o := o') (by rw [ho']) (by rw [hbk]; exact hb3) (fun z hz => by rw [hbk]; exact h.nb z hz) h4 (by rw [hbk]; exact ho4) hv4
    have hon := (hp.ids o ho)
    have hins : ∀ z, InS R5 A5 z ↔ (z = o' ∨ (InS R A z ∧ z.id ≠ o.id)) := fun z => by
      rw [h5.ins, h.ins]
    obtain ⟨q1, q2⟩ := scP_upd hp hs (fun a b ha hb e => sc_inj hm hp ha hb e) ho (o' := o') (by rw [ho']) hbk (by rw [ho']; exact ⟨hon.1, hon.2.1, hon.2.2.1, kw_in hn⟩) hins h5.ls (by have := h5.len; omega)
    rw [show o'.gu = ⟨o.wt, o.us, true, n⟩ by rw [ho']; rfl] at q2
    have hzo : scz p R A o.blk := by
      rcases ho with ⟨j, hj, e⟩ | ⟨j, hj, e⟩
      · exact .inr (.inr (.inr (.inl (.inr ⟨j, hj, by rw [e]⟩))))
      · exact .inr (.inr (.inr (.inr (.inr ⟨j, hj, by rw [e]⟩))))
    have hsz : w.heap.size ≤ w3.heap.size := Nat.le_trans h.only.size ho3.size
    refine ⟨rfl, ⟨p5, F, R5, A5, h5.sb.trans h.sb, h5.mem, q1, q2, fun b hb => ?_⟩, ((h.only.mono fun b hb => .inl (hZ b hb)).trans (ho3.mono fun b hb => .inl (hZ b (by rw [hb]; exact hzo)))).trans (h5.only.mono fun b hb => .inl (by
      rcases hb with hb | hb
      · exact hZ b (h.zn b hb)
      · rw [hb, hbk]; exact hZ _ hzo))⟩
    rcases h5.zn b hb with h6 | h6 | h6
    · exact .inl (hZ b (h.zn b h6))
    · rw [h6, hbk]; exact .inl (hZ _ hzo)
    · exact .inr (Nat.le_trans hsz h6)
  have HCE : Hid (∀ pl : Int, onCells o' pl = ((onCells o pl).setIfInBounds 3 (.bool true)).setIfInBounds 4 (.int .i64 n)) := Lib.hid fun pl => by rw [ho']; rfl
  obtain ⟨oi, hoi⟩ : ∃ x, o.id = x := ⟨_, rfl⟩
  obtain ⟨ob, hob⟩ : ∃ x, o.blk = x := ⟨_, rfl⟩
  rw [hoi] at hcl HPUSH hx ⊢
  rw [hob] at hcl d5 ld HOF HOFD HPUSH
  clear hm hp hs hZ hg HR ho hbl hix hx hmd hoi hob hgo hn ho'
  go_enter Tryd.func20, Tryd.ntmps20
  go_wp2_with fail
  go_region_with (first
    | (go_at_call 58; refine HOF.out.mono ?_; rintro y wx ⟨rfl, rfl⟩)
    | (go_at_call 58; refine HOFD.out.mono ?_; rintro y wx ⟨rfl, rfl⟩)
    | (go_at_call 59; refine HRM.out.mono ?_; rintro y w2 ⟨⟨bb, rfl⟩, p2, R2, A2, hout⟩)
    | (go_at_call 59; refine HRMD.out.mono ?_; rintro y w2 ⟨⟨bb, rfl⟩, p2, R2, A2, hout'⟩; have hout := HFROM.out _ _ _ _ hout'))
  all_goals
    obtain ⟨⟨pl, hb⟩, ⟨e0, l0, ne⟩, hpp⟩ := HPUSH.out _ _ _ _ hout
    have HB := Lib.hid hb
    have HPP := Lib.hid hpp
    have HNE := Lib.hid ne
    have g3 := blk_free hb 3
    have g4 := blk_free hb 4
    have q3 : w2.cell? ⟨ob, 3, none⟩ = some (.bool o.sl) := blk_cell hb 3
    have q4 : w2.cell? ⟨ob, 4, none⟩ = some (.int .i64 o.un) := blk_cell hb 4
    have lb := blk_lt hb
    clear hout hpp c0 lt d5 ld hcl hb
    go_wp2_with fail
    refine (HPP.out _ (((Only.refl (fun b => b = ob) w2).setCell (p := ⟨ob, 3, none⟩) (.inl rfl) _).setCell (p := ⟨ob, 4, none⟩) (.inl rfl) _) pl (by rw [HCE.out]; exact blk_put (blk_put HB.out 3 _) 4 _)).mono ?_
    rintro y w4 ⟨rfl, hf⟩
    have HF := Lib.hid hf
    clear hf
    go_wp2_with fail
    go_ret
    exact ⟨rfl, HF.out⟩
theorem ssleep_any (E : Nat → Addr) (w : World) (Z : Nat → Prop) (sb m : Nat) (st : Int → Option Gu) (h : ScAt w Z sb m st) (hE : ScErr E w) (x n : Int) (hx : kw x) (hn : kw n) :
    Calls Tryd.prog 20 #[.pointer (some ⟨sb, 0, none⟩), .int .i64 x, .int .i64 n] w (ScQ E Z sb m (scSleep st x n) w) := by
  cases hg : st x with
  | none => exact ssleep_none E w Z sb m st h hE x n hx hg
  | some g =>
    obtain ⟨p, F, R, A, rfl, hm, hp, hs, hZ⟩ := h
    exact ssleep_some E w Z p m F R A st hm hp hs hZ x n hx hn g hg
end Go.Proofs.YtnhocmmgdkiepaaDoor

/-
  sched.Sched: Wake.
-/
namespace Go.Proofs.YtnhocmmgdkiepaaDoor
open Go.RowKit Go.Maps

/-- who is woken, in which order; what is said of each then -/
inductive Woke : (Int → Option Gu) → Int → List Int → (Int → Option Gu) → Prop
  | done (st : Int → Option Gu) (now : Int) (h : ∀ y g', st y = some g' → g'.sl = true → now < g'.un) : Woke st now [] st
  | step (st st' : Int → Option Gu) (now x : Int) (g : Gu) (l : List Int) (hg : st x = some g) (hs : g.sl = true) (hu : g.un ≤ now) (hf : ∀ y g', st y = some g' → g'.sl = true → g.un < g'.un ∨ (g.un = g'.un ∧ x ≤ y)) (h : Woke (upd st x (some ⟨g.wt, g.us, false, 0⟩)) now l st') : Woke st now (x :: l) st'
theorem out_A' {w w2 : World} {p : Sl} {m : Nat} {F : Int → Option Nat} {R A : List On} (h : ScMem w p m F R A) (hp : ScP m F R A) {i : Nat} (hi : i < A.length) {e : Ending} (hq : RemQ p.ab p.av A i w e w2) : ∃ p2 R2 A2, OutOk w p m F R A (og A i) w2 p2 R2 A2 ∧ A2.length + 1 = A.length := by
  obtain ⟨-, v', h2, hv, hb, ho⟩ := hq
  obtain ⟨f1, f2, f3⟩ := rem_lists true A i hi hp.sa hp.ha
  have hL := inL_rem A i hi h.sd.nd
  have hon : ∀ j q, j < ((hRem A i).take (A.length - 1)).length → q < R.length → (og ((hRem A i).take (A.length - 1)) j).blk ≠ (og R q).blk := fun j q hj hq => by
    obtain ⟨⟨c, hc, e⟩, -⟩ := (hL _).1 ⟨j, hj, rfl⟩
    rw [← e]
    exact (h.ones q c hq hc).symm
  have hm2 := h.opA (X := fun _ => False) h2 (ho.mono fun b e => .inl (by
    rcases e with e | e
    · exact .inl e
    · exact .inr (.inl e))) (fun b e => e.elim) (fun b hb => .inl (hv b hb)) hon
  have hin : ∀ z, InS R ((hRem A i).take (A.length - 1)) z ↔ (InS R A z ∧ z.id ≠ (og A i).id) := fun z => by
    constructor
    · rintro (h1 | h1)
      · refine ⟨.inl h1, fun e => ?_⟩
        have := sc_inj h hp (.inl h1) (.a hi) e
        subst this
        obtain ⟨j, hj, e2⟩ := h1
        exact h.ones j i hj hi (by rw [e2])
      · obtain ⟨h3, h4⟩ := (hL z).1 h1
        exact ⟨.inr h3, fun e => h4 (sc_inj h hp (.inr h3) (.a hi) e)⟩
    · rintro ⟨h1 | h1, h2⟩
      · exact .inl h1
      · exact .inr ((hL z).2 ⟨h1, fun e => h2 (by rw [e])⟩)
  refine ⟨_, _, _, ⟨hm2, rfl, rfl, rfl, rfl, ⟨hp.sr, f1, hp.hr, f2⟩, hin, ⟨_, hb⟩, fun z hz e => ?_, by rw [f3]; omega, fun b hb => ?_, ho.mono fun b hb => .inl (by
    rcases hb with hb | hb
    · rw [hb]; exact .inr (.inr (.inl rfl))
    · exact .inr (.inr (.inr (.inr hb))))⟩, by rw [f3]; omega⟩
  · obtain ⟨h3, h4⟩ := (hin z).1 hz
    have e1 := hp.f1 z h3
    have hz2 : InS R A (og A i) := InS.a hi
    rcases h3 with ⟨c, hc, rfl⟩ | ⟨c, hc, rfl⟩
    · exact h.ones c i hc hi e
    · exact h4 (by rw [h.sd.nd c i hc hi e])
  · rcases hb with hb | hb | hb | hb | hb
    · exact .inl hb
    · exact .inr (.inl hb)
    · exact .inr (.inr (.inl hb))
    · exact .inr (.inr (.inr (.inl hb)))
    · rcases hb with hb | ⟨j, hj, rfl⟩
      · exact .inr (.inr (.inr (.inr (.inl (hv b hb)))))
      · obtain ⟨⟨c, hc, e⟩, -⟩ := (hL _).1 ⟨j, hj, rfl⟩
        rw [← e]
        exact .inr (.inr (.inr (.inr (.inr ⟨c, hc, rfl⟩))))
theorem in_R' {w w2 : World} {p : Sl} {m : Nat} {F : Int → Option Nat} {R A : List On} (h : ScMem w p m F R A) (hl : Lists R A) {o : On} (hsl : o.sl = false) {p0 : Int} (hb0 : w.heap[o.blk]? = some (.cells (onCells o p0) 109 (0, 0))) (nb : ∀ z, InS R A z → z.blk ≠ o.blk) {v' : Value} (h2 : HpAt w2 p.rb v' (hPush R o)) (ho : Only (fun b => b = p.rb ∨ hz p.rv R b ∨ b = o.blk) w w2) (hv : ∀ b, inRow v' b → inRow p.rv b ∨ w.heap.size ≤ b) : ∃ p2 R2, InOk w p m F R A o w2 p2 R2 A ∧ InL R2 o := by
  have hsm := hPush_same R o
  have hL : ∀ z, InL (hPush R o) z ↔ (z = o ∨ InL R z) := fun z => (hsm.inL z).trans (inL_app R o z)
  have hlen : (hPush R o).length = R.length + 1 := by rw [hsm.len]; simp
  have hm2 := h.opR (X := fun b => b = o.blk) h2 ho (fun b e => by
    rw [show b = o.blk from e]
    exact ⟨⟨_, hb0⟩, fun j hj => nb _ (.a hj)⟩) hv (fun j q hj hq => by
    rcases (hL _).1 ⟨j, hj, rfl⟩ with e | ⟨c, hc, e⟩
    · rw [e]; exact fun e2 => nb _ (InS.a (i := q) hq) e2.symm
    · rw [← e]; exact h.ones c q hc hq)
  refine ⟨_, _, ⟨hm2, rfl, rfl, rfl, rfl, ⟨hsm.sl (fun j hj => by
    rcases (inL_app R o _).1 ⟨j, hj, rfl⟩ with e | ⟨c, hc, e⟩
    · rw [e]; exact hsl
    · rw [← e]; exact hl.sr c hc), hl.sa, by rw [hlen]; exact hPush_heap false R o hl.sr hsl hl.hr, hl.ha⟩, fun z => ?_, by rw [hlen]; omega, fun b hb => ?_, ho.mono fun b hb => .inl (by
    rcases hb with hb | hb | hb
    · rw [hb]; exact .inl (.inr (.inl rfl))
    · exact .inl (.inr (.inr (.inr (.inl hb))))
    · exact .inr hb)⟩, (hL o).2 (.inl rfl)⟩
  · show InS (hPush R o) A z ↔ _
    constructor
    · rintro (h1 | h1)
      · rcases (hL z).1 h1 with e | h3
        · exact .inl e
        · exact .inr (.inl h3)
      · exact .inr (.inr h1)
    · rintro (e | h1 | h1)
      · exact .inl ((hL z).2 (.inl e))
      · exact .inl ((hL z).2 (.inr h1))
      · exact .inr h1
  · have hzp : ∀ b, hz v' (hPush R o) b → scz p R A b ∨ b = o.blk ∨ w.heap.size ≤ b := fun b hb => by
      rcases hb with hb | ⟨j, hj, rfl⟩
      · rcases hv b hb with h3 | h3
        · exact .inl (.inr (.inr (.inr (.inl (.inl h3)))))
        · exact .inr (.inr h3)
      · rcases (hL _).1 ⟨j, hj, rfl⟩ with e | ⟨c, hc, e⟩
        · rw [e]; exact .inr (.inl rfl)
        · rw [← e]; exact .inl (.inr (.inr (.inr (.inl (.inr ⟨c, hc, rfl⟩)))))
    rcases hb with hb | hb | hb | hb | hb
    · exact .inl (.inl hb)
    · exact .inl (.inr (.inl hb))
    · exact .inl (.inr (.inr (.inl hb)))
    · exact hzp b hb
    · exact .inl (.inr (.inr (.inr (.inr hb))))
theorem wake_push {w w2 w3 : World} {p p2 : Sl} {m : Nat} {F : Int → Option Nat} {R A R2 A2 : List On} {st : Int → Option Gu} {o o' : On} (hm : ScMem w p m F R A) (hp : ScP m F R A) (hs : ScS R A st) (ho : InS R A o) (h : OutOk w p m F R A o w2 p2 R2 A2) (ho' : o' = ⟨o.id, o.wt, o.us, false, 0, o.blk⟩) (ho3 : Only (fun b => b = o.blk) w2 w3) (pl : Int) (hb3 : w3.heap[o.blk]? = some (.cells (onCells o' pl) 109 (0, 0))) :
    Calls Tryd.prog 56 #[.iface 101 (.pointer (some ⟨p.rb, 0, none⟩)), .iface 107 (.pointer (some ⟨o.blk, 0, none⟩))] w3 fun e w4 => e = .returned (.tuple #[]) ∧ ∃ p5 R5, p5.sb = p.sb ∧ p5.rb = p.rb ∧ p5.ab = p.ab ∧ ScMem w4 p5 m F R5 A2 ∧ ScP m F R5 A2 ∧ ScS R5 A2 (upd st o.id (some ⟨o.wt, o.us, false, 0⟩)) ∧ (∀ b, scz p5 R5 A2 b → scz p R A b ∨ w.heap.size ≤ b) ∧ Only (scz p R A) w w4 ∧ InL R5 o' := by
  have hrow := h.mem.row
  rw [h.sb, h.mb, h.rb, h.ab] at hrow
  obtain ⟨pl0, hb0⟩ := h.blk
  have hne : o.blk ≠ p.sb := cells_ne hb0 hrow (by decide)
  have nz : ∀ b, scz p2 R2 A2 b → b ≠ o.blk := fun b hb e => by
    subst e
    rcases hb with hb | hb | hb | hb | hb
    · obtain ⟨es, c, hh⟩ := h.mem.map.ty
      exact map_ne hh hb0 hb.symm
    · exact cells_ne hb0 h.mem.rd.hdr (by decide) hb
    · exact cells_ne hb0 h.mem.sd.hdr (by decide) hb
    · rcases hb with hb | ⟨j, hj, e⟩
      · exact one_row h.mem.rd hb hb0
      · exact h.nb _ (.r hj) e.symm
    · rcases hb with hb | ⟨j, hj, e⟩
      · exact one_row h.mem.sd hb hb0
      · exact h.nb _ (.a hj) e.symm
  have hm3 : ScMem w3 p2 m F R2 A2 := h.mem.keep ho3 (by rw [h.sb]; exact fun e => hne e.symm) nz
  have hbk : o'.blk = o.blk := by rw [ho']
  have hlen := h.len
  have hc := hp.cnt
  have hc2 := hp.m100
  have hpu := hpush_any p2.rb p2.rv R2 o' pl w3 hm3.rd (by rw [hbk]; exact hb3) (fun j hj => by rw [hbk]; exact h.nb _ (.r hj)) (by omega)
  rw [hbk, h.rb] at hpu
  refine hpu.mono ?_
  rintro e w4 ⟨rfl, v', h4, ho4, hv4⟩
  rw [← h.rb] at h4 ho4
  obtain ⟨p5, R5, h5, hr5⟩ := in_R' hm3 h.ls (o := o') (by rw [ho']) (by rw [hbk]; exact hb3) (fun z hz => by rw [hbk]; exact h.nb z hz) h4 (by rw [hbk]; exact ho4) hv4
  have hon := (hp.ids o ho)
  have hins : ∀ z, InS R5 A2 z ↔ (z = o' ∨ (InS R A z ∧ z.id ≠ o.id)) := fun z => by
    rw [h5.ins, h.ins]
  obtain ⟨q1, q2⟩ := scP_upd hp hs (fun a b ha hb e => sc_inj hm hp ha hb e) ho (o' := o') (by rw [ho']) hbk (by rw [ho']; exact ⟨hon.1, hon.2.1, hon.2.2.1, by show (-9223372036854775808 : Int) ≤ 0; decide, by show (0 : Int) ≤ 9223372036854775807; decide⟩) hins h5.ls (by have := h5.len; omega)
  rw [show o'.gu = ⟨o.wt, o.us, false, 0⟩ by rw [ho']; rfl] at q2
  have hzo : scz p R A o.blk := by
    rcases ho with ⟨j, hj, e⟩ | ⟨j, hj, e⟩
    · exact .inr (.inr (.inr (.inl (.inr ⟨j, hj, by rw [e]⟩))))
    · exact .inr (.inr (.inr (.inr (.inr ⟨j, hj, by rw [e]⟩))))
  have hsz : w.heap.size ≤ w3.heap.size := Nat.le_trans h.only.size ho3.size
  refine ⟨rfl, p5, R5, h5.sb.trans h.sb, h5.rb.trans h.rb, h5.ab.trans h.ab, h5.mem, q1, q2, fun b hb => ?_, (h.only.trans (ho3.mono fun b hb => .inl (by rw [hb]; exact hzo))).trans (h5.only.mono fun b hb => .inl (by
    rcases hb with hb | hb
    · exact h.zn b hb
    · rw [hb, hbk]; exact hzo)), hr5⟩
  rcases h5.zn b hb with h6 | h6 | h6
  · exact .inl (h.zn b h6)
  · rw [h6, hbk]; exact .inl hzo
  · exact .inr (Nat.le_trans hsz h6)
/-- how many sleep, read off the world -/
def wkLeft (sb : Nat) (w : World) : Nat := match w.heap[sb]? with
  | some (.cells cs _ _) => (match cs[2]? with
    | some (Value.pointer (some a)) => (match w.heap[a.block]? with
      | some (.cells ds _ _) => (match ds[0]? with
        | some (Value.slice _ n _) => n
        | _ => 0)
      | _ => 0)
    | _ => 0)
  | _ => 0
theorem wkLeft_eq {w : World} {p : Sl} {m : Nat} {F : Int → Option Nat} {R A : List On} (h : ScMem w p m F R A) : wkLeft p.sb w = A.length := by
  obtain ⟨ao, cap, hv⟩ := h.sd.slice
  have h2 := h.sd.hdr
  rw [hv] at h2
  unfold wkLeft
  rw [h.row]
  show (match w.heap[p.ab]? with
      | some (.cells ds _ _) => (match ds[0]? with
        | some (Value.slice _ n _) => n
        | _ => 0)
      | _ => 0) = _
  rw [h2]
  rfl
/-- what Wake does -/
def WakeQ (Z : Nat → Prop) (sb m : Nat) (st : Int → Option Gu) (now : Int) (w : World) (e : Ending) (w' : World) : Prop := ∃ v l st' Zn, e = .returned v ∧ Woke st now l st' ∧ l.length ≤ 100 ∧ ScAt w' Zn sb m st' ∧ (∀ b, Zn b → Z b ∨ w.heap.size ≤ b) ∧ Only Z w w' ∧ w'.ownsRow 0 3 1 v l.length (ints l) ∧ ∀ k, inRow v k → w.heap.size ≤ k ∧ ¬ Zn k ∧ k ≠ sb
def WkTo (Z : Nat → Prop) (sb m : Nat) (st : Int → Option Gu) (now : Int) (w : World) (v : Value) (wr : World) : Prop := ∃ (p : Sl) (F : Int → Option Nat) (R A : List On) (sk : Int → Option Gu) (l : List Int), p.sb = sb ∧ ScMem wr p m F R A ∧ ScP m F R A ∧ ScS R A sk ∧ (∀ b, scz p R A b → Z b ∨ w.heap.size ≤ b) ∧ Only Z w wr ∧ wr.ownsRow 0 3 1 v l.length (ints l) ∧ (∀ k, inRow v k → w.heap.size ≤ k) ∧ l.length + A.length ≤ 100 ∧ (∃ ao cap, v = .slice ao l.length cap) ∧ ∀ l2 s2, Woke sk now l2 s2 → Woke st now (l ++ l2) s2
theorem ScMem.int_row {w : World} {p : Sl} {m : Nat} {F : Int → Option Nat} {R A : List On} (h : ScMem w p m F R A) {v : Value} {n : Nat} {xs : List Value} (ho : w.ownsRow 0 3 1 v n xs) (k : Nat) (hk : inRow v k) : ¬ scz p R A k ∧ k ≠ p.sb := by
  obtain ⟨cur, hh⟩ := own_type ho hk
  refine ⟨fun hz => ?_, cells_ne hh h.row (by decide)⟩
  rcases hz with e | e | e | e | e
  · obtain ⟨es, c, hm⟩ := h.map.ty
    exact map_ne hm hh e.symm
  · exact cells_ne hh h.rd.hdr (by decide) e
  · exact cells_ne hh h.sd.hdr (by decide) e
  · rcases h.rd.ty k e with ⟨c, h1⟩ | ⟨c, h1⟩
    · exact cells_ne hh h1 (by decide) rfl
    · exact cells_ne hh h1 (by decide) rfl
  · rcases h.sd.ty k e with ⟨c, h1⟩ | ⟨c, h1⟩
    · exact cells_ne hh h1 (by decide) rfl
    · exact cells_ne hh h1 (by decide) rfl
theorem infoIntW : (Tryd.prog.info? 3).map (fun i => (i.zero, i.size, i.bytes)) = some (some (.int .i64 0), 1, 8) := by kernel_rfl
set_option maxRecDepth 100000 in
set_option maxHeartbeats 12800000 in
theorem swake_any (w : World) (Z : Nat → Prop) (sb m : Nat) (st : Int → Option Gu) (h : ScAt w Z sb m st) (now : Int) :
    Calls Tryd.prog 22 #[.pointer (some ⟨sb, 0, none⟩), .int .i64 now] w (WakeQ Z sb m st now w) := by
  obtain ⟨i0, hi, hz0, hz1, hz2⟩ := info_parts infoIntW
  have HST : Hid (WkTo Z sb m st now w (.slice none 0 0) w) := Lib.hid (by
    obtain ⟨p, F, R, A, rfl, hm, hp, hs, hZ⟩ := h
    exact ⟨p, F, R, A, st, [], rfl, hm, hp, hs, fun b hb => .inl (hZ b hb), Only.refl _ _, own_nil _ _ _, fun k hk => by simp [inRow, Value.ownBlock] at hk, by have := hp.cnt; have := hp.m100; simp; omega, ⟨none, 0, rfl⟩, fun l2 s2 h => h⟩)
  clear h
  go_enter Tryd.func22, Tryd.ntmps22
  go_wp2_with fail
  go_loopw [5] (fun v wr => WkTo Z sb m st now w v wr) (fun _ wr => wkLeft sb wr)
  case atStart => exact HST.out
  case round =>
    obtain ⟨p, F, R, A, sk, l, rfl, hm, hp, hs, hZ, hO, hown, hfr, hcnt, ⟨vo, vc, rfl⟩, hwk⟩ := hrel
    have HM := Lib.hid hm
    have HP := Lib.hid hp
    have HS := Lib.hid hs
    have HZ := Lib.hid hZ
    have HO := Lib.hid hO
    have HOWN := Lib.hid hown
    have HFR := Lib.hid hfr
    have HCNT := Lib.hid hcnt
    have HWK := Lib.hid hwk
    have HLEFT : Hid (∀ w2 p2 F2 R2 A2, ScMem w2 p2 m F2 R2 A2 → p2.sb = p.sb → wkLeft p.sb w2 = A2.length) := Lib.hid fun w2 p2 F2 R2 A2 h e => by rw [← e]; exact wkLeft_eq h
    have HDONE : Hid ((∀ y g', sk y = some g' → g'.sl = true → now < g'.un) → WakeQ Z p.sb m st now w (.returned (.slice vo l.length vc)) wr) := Lib.hid fun h => ⟨_, l, sk, scz p R A, rfl, by have := hwk [] sk (.done sk now h); rwa [List.append_nil] at this, by omega, ⟨p, F, R, A, rfl, hm, hp, hs, fun b hb => hb⟩, hZ, hO, hown, fun k hk => ⟨hfr k hk, hm.int_row hown k hk⟩⟩
    have c2 : wr.cell? ⟨p.sb, 2, none⟩ = some (.pointer (some ⟨p.ab, 0, none⟩)) := blk_cell hm.row 2
    have lt := blk_lt hm.row
    have HLN := Lib.hid (tlen_any p.ab p.av A wr hm.sd)
    clear hm hp hs hZ hO hown hfr hcnt hwk HST
    by_cases hA : A.length = 0
    · have HD := Lib.hid (HDONE.out fun y g' hg hsl => by
        obtain ⟨o, ho, rfl⟩ := HS.out.s2 y g' hg
        have h2 := HS.out.s1 o ho
        rw [hg] at h2
        obtain rfl := Option.some.inj h2
        rcases ho with ⟨i, hi, rfl⟩ | ⟨i, hi, -⟩
        · have := HP.out.sr i hi
          rw [show (og R i).gu.sl = (og R i).sl from rfl, this] at hsl
          cases hsl
        · omega)
      rw [hA] at HLN
      clear HDONE
      go_wp2_with fail
      refine HLN.out.mono ?_
      rintro y w2 ⟨rfl, rfl⟩
      go_wp2
      go_ret
      exact HD.out
    · have hA1 : 0 < A.length := by omega
      have hAi : (0 : Int) < (A.length : Int) := by omega
      obtain ⟨g, cap, hv⟩ := HM.out.sd.row hA1
      have hsd := HM.out.sd
      rw [hv] at hsd
      have d0 : wr.cell? ⟨p.ab, 0, none⟩ = some (.slice (some ⟨g, 0, none⟩) A.length cap) := blk_cell hsd.hdr 0
      have dl := blk_lt hsd.hdr
      have d1 := hsd.ptr 0 hA1
      have gl : g < wr.heap.size := hsd.lt.2 g (.inl rfl)
      have d4 : wr.cell? ⟨(og A 0).blk, 4, none⟩ = some (.int .i64 (og A 0).un) := blk_cell (hsd.ones 0 hA1) 4
      have ol := blk_lt (hsd.ones 0 hA1)
      have HMINA : Hid (∀ y g', sk y = some g' → g'.sl = true → (og A 0).un < g'.un ∨ ((og A 0).un = g'.un ∧ (og A 0).id ≤ y)) := Lib.hid fun y g' hg hsl => by
        obtain ⟨o, ho, rfl⟩ := HS.out.s2 y g' hg
        have h2 := HS.out.s1 o ho
        rw [hg] at h2
        obtain rfl := Option.some.inj h2
        rcases ho with ⟨i, hi, rfl⟩ | ⟨i, hi, rfl⟩
        · have := HP.out.sr i hi
          rw [show (og R i).gu.sl = (og R i).sl from rfl, this] at hsl
          cases hsl
        · have hr := hp_root true A A.length (Nat.le_refl _) HP.out.sa HP.out.ha i hi
          rw [lt_false true _ (HP.out.sa i hi)] at hr
          unfold On.ky at hr
          simp only [if_true] at hr
          exact hr
      by_cases hun : (og A 0).un ≤ now
      · have HGU : Hid (sk (og A 0).id = some (og A 0).gu ∧ (og A 0).sl = true) := Lib.hid ⟨HS.out.s1 _ (.a hA1), HP.out.sa 0 hA1⟩
        have HRM := Lib.hid (hremove_any p.ab p.av A 0 wr HM.out.sd hA1)
        have HOUT := Lib.hid (fun (w2 : World) (e : Ending) hq => out_A' (e := e) (w2 := w2) HM.out HP.out hA1 hq)
        obtain ⟨o', ho'⟩ : ∃ o' : On, o' = ⟨(og A 0).id, (og A 0).wt, (og A 0).us, false, 0, (og A 0).blk⟩ := ⟨_, rfl⟩
        have HPU := Lib.hid (fun (w2 w3 : World) p2 R2 A2 h ho3 pl hb3 => wake_push (w2 := w2) (w3 := w3) (p2 := p2) (R2 := R2) (A2 := A2) HM.out HP.out HS.out (.a hA1) h ho' ho3 pl hb3)
        have HCE : Hid (∀ pl : Int, onCells o' pl = ((onCells (og A 0) pl).setIfInBounds 3 (.bool false)).setIfInBounds 4 (.int .i64 0)) := Lib.hid fun pl => by rw [ho']; rfl
        have HO'I : Hid (o'.id = (og A 0).id ∧ o'.blk = (og A 0).blk) := Lib.hid (by rw [ho']; exact ⟨rfl, rfl⟩)
        obtain ⟨oi, hoi⟩ : ∃ x, (og A 0).id = x := ⟨_, rfl⟩
        obtain ⟨ob, hob⟩ : ∃ x, (og A 0).blk = x := ⟨_, rfl⟩
        obtain ⟨ou, hou⟩ : ∃ x, (og A 0).un = x := ⟨_, rfl⟩
        have HOI := Lib.hid hoi
        have HOB := Lib.hid hob
        rw [hob] at d1 d4 ol
        rw [hou] at d4 hun
        have HUN : Hid ((og A 0).gu.un ≤ now) := Lib.hid (by show (og A 0).un ≤ now; rw [hou]; exact hun)
        have hun2 : decide (ou ≤ now) = true := decide_eq_true hun
        obtain ⟨n, hn⟩ : ∃ n, A.length = n := ⟨_, rfl⟩
        have HN := Lib.hid hn
        rw [hn] at HLN d0 hA1 hAi
        clear hv hsd hA HDONE ho' hoi hob hou hn
        go_wp2_with fail
        refine HLN.out.mono ?_
        rintro y w2 ⟨rfl, rfl⟩
        go_wp2_with fail
        refine HRM.out.mono ?_
        rintro y w3 hq
        obtain ⟨p2, R2, A2, hout, hlen⟩ := HOUT.out w3 y hq
        obtain ⟨he, -⟩ := hq
        subst he
        have hrow := hout.mem.row
        rw [hout.sb, hout.mb, hout.rb, hout.ab] at hrow
        obtain ⟨pl, hb⟩ := hout.blk
        have hb' := hb
        rw [HOB.out] at hb'
        have q3 : w3.cell? ⟨ob, 3, none⟩ = some (.bool (og A 0).sl) := blk_cell hb' 3
        have q4 : w3.cell? ⟨ob, 4, none⟩ = some (.int .i64 (og A 0).un) := blk_cell hb' 4
        have g3 := blk_free hb' 3
        have g4 := blk_free hb' 4
        have lb := blk_lt hb'
        have e1 : w3.cell? ⟨p.sb, 1, none⟩ = some (.pointer (some ⟨p.rb, 0, none⟩)) := blk_cell hrow 1
        have l1 := blk_lt hrow
        have hne : ob ≠ p.sb := cells_ne hb' hrow (by decide)
        have hne2 : p.sb ≠ ob := hne.symm
        have HPU3 := Lib.hid (HPU.out w3 ((w3.setCell ⟨ob, 3, none⟩ (.bool false)).setCell ⟨ob, 4, none⟩ (.int .i64 0)) p2 R2 A2 hout (by
          rw [HOB.out]
          exact ((Only.refl (fun b => b = ob) w3).setCell (p := ⟨ob, 3, none⟩) (.inl rfl) _).setCell (p := ⟨ob, 4, none⟩) (.inl rfl) _) pl (by
          rw [HOB.out, HCE.out]
          exact blk_put (blk_put hb' 3 _) 4 _))
        rw [HOB.out, HOI.out] at HPU3
        have HLEN := Lib.hid hlen
        clear hout hrow hb hb' hlen c2 lt d0 dl d1 gl d4 ol hun hun2
        go_wp2_with fail
        refine HPU3.out.mono ?_
        rintro y w5 ⟨rfl, p5, R5, e5, -, -, hm5, hp5, hs5, hz5, ho5, hin5⟩
        obtain ⟨i5, hb5, -⟩ := hm5.one (.inl hin5 : InS R5 A2 o')
        rw [HO'I.out.2, HOB.out] at hb5
        have x0 : w5.cell? ⟨ob, 0, none⟩ = some (.int .i64 oi) := (blk_cell hb5 0).trans (by show some (Value.int .i64 o'.id) = _; rw [HO'I.out.1, HOI.out])
        have lx := blk_lt hb5
        have how5 := own_only HOWN.out ho5 (fun k hk => (HM.out.int_row HOWN.out k hk).1)
        have HOW5 := Lib.hid how5
        have HM5 := Lib.hid hm5
        have HP5 := Lib.hid hp5
        have HS5 := Lib.hid hs5
        have HZ5 := Lib.hid hz5
        have HO5 := Lib.hid ho5
        have HE5 := Lib.hid e5
        clear hm5 hp5 hs5 hz5 ho5 hin5 hb5 how5 e5 q3 q4 g3 g4 lb e1 l1 hne hne2
        go_wp2_with (at_builtin; refine wpList_append_sep _ rfl _ _ 35 rfl 3 i0 (.int .i64 0) 1 8 Tryd.underlying35 hi hz0 hz1 hz2 rfl (by decide) _ _ _ rfl (HOW5.out.alloc _) ⟨w5.heap.size, 0, none⟩ 1 1 [.int .i64 oi] rfl rfl (cell_one_new _ _ _) (by simp [Value.oneCell']) (by unfold maxLen; have := HCNT.out; omega) (by have := HCNT.out; omega) ?_)
        intro v' wx ho6 hg6 hs6
        obtain ⟨ao6, cap6, rfl⟩ := own_slice ho6
        have hm6 : ScMem wx p5 m F R5 A2 := by
          have ha : ScMem (w5.alloc (.cells #[.int .i64 oi] 3)) p5 m F R5 A2 := HM5.out.below ((Below.refl _ _).alloc (Nat.le_refl _) _)
          have hg := Only.grown (Only.refl (fun k => inRow (.slice vo l.length vc) k) (w5.alloc (.cells #[.int .i64 oi] 3))) hg6 (fun k hk => .inl hk)
          exact ha.keep hg (fun e => (HM5.out.int_row HOW5.out _ e).2 rfl) (fun b hb e => (HM5.out.int_row HOW5.out _ e).1 hb)
        have HFIN : Hid (WkTo Z p.sb m st now w (.slice ao6 (l.length + 1) cap6) wx ∧ wkLeft p.sb wx < wkLeft p.sb wr) := Lib.hid (by
          have hsz5 : wr.heap.size ≤ w5.heap.size := HO5.out.size
          have hsz : w.heap.size ≤ wr.heap.size := HO.out.size
          refine ⟨⟨p5, F, R5, A2, _, l ++ [oi], HE5.out, hm6, HP5.out, HS5.out, fun b hb => ?_, ?_, ?_, fun k hk => ?_, by have := HCNT.out; have := HLEN.out; have := HN.out; rw [List.length_append]; simp; omega, ⟨ao6, cap6, by rw [List.length_append]; rfl⟩, fun l2 s2 h2 => ?_⟩, ?_⟩
          · rcases HZ5.out b hb with h | h
            · exact HZ.out b h
            · exact .inr (Nat.le_trans hsz h)
          · refine Only.grown (Only.alloc' (HO.out.trans' HO5.out fun b hb => HZ.out b hb) _) hg6 fun k hk => .inr (HFR.out k hk)
          · rw [List.length_append, show ints (l ++ [oi]) = ints l ++ [.int .i64 oi] by simp [ints]]
            exact ho6
          · rcases hs6 k hk with h | h
            · exact HFR.out k h
            · have h' := h
              try simp only [World.size_alloc] at h'
              omega
          · have h3 := HWK.out (oi :: l2) s2 (.step sk s2 now oi (og A 0).gu l2 (by rw [← HOI.out]; exact HGU.out.1) HGU.out.2 (by
              have := HN.out
              exact HUN.out) (fun y g' h4 h5 => by rw [← HOI.out]; exact HMINA.out y g' h4 h5) (by rw [← HOI.out]; rw [← HOI.out] at h2; exact h2))
            rw [List.append_assoc]
            exact h3
          · rw [HLEFT.out wx p5 F R5 A2 hm6 HE5.out, HLEFT.out wr p F R A HM.out rfl]
            have := HLEN.out
            omega)
        clear ho6 hg6 hs6 hm6 x0 lx
        go_wp2_with fail
        go_roundw
        case rel => exact HFIN.out.1
        case measure => exact HFIN.out.2
      · have HD := Lib.hid (HDONE.out fun y g' hg hsl => by
          rcases HMINA.out y g' hg hsl with h | h <;> omega)
        have hun2 : decide ((og A 0).un ≤ now) = false := decide_eq_false hun
        obtain ⟨ob, hob⟩ : ∃ x, (og A 0).blk = x := ⟨_, rfl⟩
        obtain ⟨ou, hou⟩ : ∃ x, (og A 0).un = x := ⟨_, rfl⟩
        rw [hob] at d1 d4 ol
        rw [hou] at d4 hun2 hun
        obtain ⟨n, hn⟩ : ∃ n, A.length = n := ⟨_, rfl⟩
        rw [hn] at HLN d0 hA1 hAi
        clear hv hsd hA HDONE hob hou hn
        go_wp2_with fail
        refine HLN.out.mono ?_
        rintro y w2 ⟨rfl, rfl⟩
        go_wp2
        go_ret
        exact HD.out
end Go.Proofs.YtnhocmmgdkiepaaDoor

