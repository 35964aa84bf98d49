/-
  Parts of one proof, one behind the other.
-/
import Derived.Test.YtnhocmmgdkiepaaDoorMgb62e9ef65c
import Derived.Test.YtnhocmmgdkiepaaDoorRows
import Derived.Test.YtnhocmmgdkiepaaDoorMg891e6fd1b3
/-
  sched.Sched: Del, Sleep.
-/
namespace Go.Proofs.YtnhocmmgdkiepaaDoor
open Go.RowKit Go.Maps

section
variable (w : World) {ops : Array Oper} {rest : List Oper} {o : Oper} {a : Act} {Q : Exit → Act → World → Prop}
theorem wp_delete_mp (hg : o.guard = none) (m x : Operand) (hop : o.op = Op.call { callee := Callee.builtin Builtin.delete, args := #[m, x], argTypes := #[100, 3] }) (mb n : Nat) (F : Int → Option Nat) (hm : a.eval m = .map (some mb)) (h : MpAt w mb n F) (key : Int) (hx : a.eval x = .int .i64 key) (hk : kw key)
    (hK : ∀ w', MpAt w' mb n (updF F key none) → Only (fun k => k = mb) w w' → wpList Tryd.prog ops Q rest (a.put o.dst (.tuple #[])) w') :
    wpList Tryd.prog ops Q (o :: rest) a w := by
  obtain ⟨D, hown, hd⟩ := h
  exact wpList_delete_own w hg m x _ _ hop _ keyI Tryd.underlying100 pR mb n D hm hown _ _ hx (keyOfI hk) fun w' h1 h2 => hK w' ⟨_, h1, dis_del hd key⟩ (only_grown h2.grown rfl)
theorem wp_update_mp (hg : o.guard = none) (m x v : Operand) (hop : o.op = Op.mapUpdate 100 m x v) (mb n : Nat) (hn : n < maxLen) (F : Int → Option Nat) (hm : a.eval m = .map (some mb)) (h : MpAt w mb n F) (key : Int) (hx : a.eval x = .int .i64 key) (hk : kw key) (b : Nat) (hv : a.eval v = .pointer (some ⟨b, 0, none⟩))
    (hK : ∀ w', MpAt w' mb (n + 1) (updF F key (some b)) → Only (fun k => k = mb) w w' → wpList Tryd.prog ops Q rest (a.put o.dst undef) w') :
    wpList Tryd.prog ops Q (o :: rest) a w := by
  obtain ⟨D, hown, hd⟩ := h
  exact wpList_mapUpdate_own w hg m x v _ hop _ _ keyI Tryd.underlying100 pR mb n D hm hown hn _ _ _ hx hv (keyOfI hk) _ _ (pR_mk (some b)) fun w' h1 h2 => hK w' ⟨_, h1, dis_put hown.isMap hd key hk b⟩ (only_grown h2 rfl)
end
theorem kw_in {x : Int} (h : kw x) : -9223372036854775808 ≤ x ∧ x ≤ 9223372036854775807 := by
  unfold kw at h
  simpa [Lit.wf, IntKind.min, IntKind.max, IntKind.signed, IntKind.bits] using h
/-- one is taken out -/
structure OutOk (w : World) (p : Sl) (m : Nat) (F : Int → Option Nat) (R A : List On) (o : On) (w2 : World) (p2 : Sl) (R2 A2 : List On) : Prop where
  mem : ScMem w2 p2 m F R2 A2
  sb : p2.sb = p.sb
  mb : p2.mb = p.mb
  rb : p2.rb = p.rb
  ab : p2.ab = p.ab
  ls : Lists R2 A2
  ins : ∀ z, InS R2 A2 z ↔ (InS R A z ∧ z.id ≠ o.id)
  blk : ∃ pl : Int, w2.heap[o.blk]? = some (.cells (onCells o pl) 109 (0, 0))
  nb : ∀ z, InS R2 A2 z → z.blk ≠ o.blk
  len : R2.length + A2.length + 1 = R.length + A.length
  zn : ∀ b, scz p2 R2 A2 b → scz p R A b
  only : Only (scz p R A) w w2
/-- one is put in -/
structure InOk (w : World) (p : Sl) (m : Nat) (F : Int → Option Nat) (R A : List On) (o : On) (w2 : World) (p2 : Sl) (R2 A2 : List On) : Prop where
  mem : ScMem w2 p2 m F R2 A2
  sb : p2.sb = p.sb
  mb : p2.mb = p.mb
  rb : p2.rb = p.rb
  ab : p2.ab = p.ab
  ls : Lists R2 A2
  ins : ∀ z, InS R2 A2 z ↔ (z = o ∨ InS R A z)
  len : R2.length + A2.length = R.length + A.length + 1
  zn : ∀ b, scz p2 R2 A2 b → scz p R A b ∨ b = o.blk ∨ w.heap.size ≤ b
  only : Only (fun b => scz p R A b ∨ b = o.blk) w w2
theorem out_R {w w2 : World} {p : Sl} {m : Nat} {F : Int → Option Nat} {R A : List On} (h : ScMem w p m F R A) (hp : ScP m F R A) {i : Nat} (hi : i < R.length) {e : Ending} (hq : RemQ p.rb p.rv R i w e w2) : ∃ p2 R2 A2, OutOk w p m F R A (og R i) w2 p2 R2 A2 := by
  obtain ⟨-, v', h2, hv, hb, ho⟩ := hq
  obtain ⟨f1, f2, f3⟩ := rem_lists false R i hi hp.sr hp.hr
  have hL := inL_rem R i hi h.rd.nd
  have hon : ∀ j q, j < ((hRem R i).take (R.length - 1)).length → q < A.length → (og ((hRem R i).take (R.length - 1)) j).blk ≠ (og A q).blk := fun j q hj hq => by
    obtain ⟨⟨c, hc, e⟩, -⟩ := (hL _).1 ⟨j, hj, rfl⟩
    rw [← e]
    exact h.ones c q hc hq
  have hm2 := h.opR (X := fun _ => False) h2 (ho.mono fun b e => .inl (by
    rcases e with e | e
    · exact .inl e
    · exact .inr (.inl e))) (fun b e => e.elim) (fun b hb => .inl (hv b hb)) hon
  have hin : ∀ z, InS ((hRem R i).take (R.length - 1)) A z ↔ (InS R A z ∧ z.id ≠ (og R i).id) := fun z => by
    constructor
    · rintro (h1 | h1)
      · obtain ⟨h3, h4⟩ := (hL z).1 h1
        exact ⟨.inl h3, fun e => h4 (sc_inj h hp (.inl h3) (.r hi) e)⟩
      · refine ⟨.inr h1, fun e => ?_⟩
        have := sc_inj h hp (.inr h1) (.r hi) e
        subst this
        obtain ⟨j, hj, e2⟩ := h1
        exact h.ones i j hi hj (by rw [e2])
    · rintro ⟨h1 | h1, h2⟩
      · exact .inl ((hL z).2 ⟨h1, fun e => h2 (by rw [e])⟩)
      · exact .inr h1
  refine ⟨_, _, _, hm2, rfl, rfl, rfl, rfl, ⟨f1, hp.sa, f2, hp.ha⟩, hin, ⟨_, hb⟩, fun z hz e => ?_, by rw [f3]; omega, fun b hb => ?_, ho.mono fun b hb => .inl (by
    rcases hb with hb | hb
    · rw [hb]; exact .inr (.inl rfl)
    · exact .inr (.inr (.inr (.inl hb))))⟩
  · obtain ⟨h3, h4⟩ := (hin z).1 hz
    have e1 := hp.f1 z h3
    have hz2 : InS R A (og R i) := InS.r hi
    rcases h3 with ⟨c, hc, rfl⟩ | ⟨c, hc, rfl⟩
    · exact h4 (by rw [h.rd.nd c i hc hi e])
    · exact h.ones i c hi hc e.symm
  · rcases hb with hb | hb | hb | hb | hb
    · exact .inl hb
    · exact .inr (.inl hb)
    · exact .inr (.inr (.inl hb))
    · rcases hb with hb | ⟨j, hj, rfl⟩
      · exact .inr (.inr (.inr (.inl (.inl (hv b hb)))))
      · obtain ⟨⟨c, hc, e⟩, -⟩ := (hL _).1 ⟨j, hj, rfl⟩
        rw [← e]
        exact .inr (.inr (.inr (.inl (.inr ⟨c, hc, rfl⟩))))
    · exact .inr (.inr (.inr (.inr hb)))
theorem in_R {w w2 : World} {p : Sl} {m : Nat} {F : Int → Option Nat} {R A : List On} (h : ScMem w p m F R A) (hl : Lists R A) {o : On} (hsl : o.sl = false) {p0 : Int} (hb0 : w.heap[o.blk]? = some (.cells (onCells o p0) 109 (0, 0))) (nb : ∀ z, InS R A z → z.blk ≠ o.blk) {v' : Value} (h2 : HpAt w2 p.rb v' (hPush R o)) (ho : Only (fun b => b = p.rb ∨ hz p.rv R b ∨ b = o.blk) w w2) (hv : ∀ b, inRow v' b → inRow p.rv b ∨ w.heap.size ≤ b) : ∃ p2 R2 A2, InOk w p m F R A o w2 p2 R2 A2 := by
  have hsm := hPush_same R o
  have hL : ∀ z, InL (hPush R o) z ↔ (z = o ∨ InL R z) := fun z => (hsm.inL z).trans (inL_app R o z)
  have hlen : (hPush R o).length = R.length + 1 := by rw [hsm.len]; simp
  have hm2 := h.opR (X := fun b => b = o.blk) h2 ho (fun b e => by
    rw [show b = o.blk from e]
    exact ⟨⟨_, hb0⟩, fun j hj => nb _ (.a hj)⟩) hv (fun j q hj hq => by
    rcases (hL _).1 ⟨j, hj, rfl⟩ with e | ⟨c, hc, e⟩
    · rw [e]; exact fun e2 => nb _ (InS.a (i := q) hq) e2.symm
    · rw [← e]; exact h.ones c q hc hq)
  refine ⟨_, _, _, hm2, rfl, rfl, rfl, rfl, ⟨hsm.sl (fun j hj => by
    rcases (inL_app R o _).1 ⟨j, hj, rfl⟩ with e | ⟨c, hc, e⟩
    · rw [e]; exact hsl
    · rw [← e]; exact hl.sr c hc), hl.sa, by rw [hlen]; exact hPush_heap false R o hl.sr hsl hl.hr, hl.ha⟩, fun z => ?_, by rw [hlen]; omega, fun b hb => ?_, ho.mono fun b hb => .inl (by
    rcases hb with hb | hb | hb
    · rw [hb]; exact .inl (.inr (.inl rfl))
    · exact .inl (.inr (.inr (.inr (.inl hb))))
    · exact .inr hb)⟩
  · show InS (hPush R o) A z ↔ _
    constructor
    · rintro (h1 | h1)
      · rcases (hL z).1 h1 with e | h3
        · exact .inl e
        · exact .inr (.inl h3)
      · exact .inr (.inr h1)
    · rintro (e | h1 | h1)
      · exact .inl ((hL z).2 (.inl e))
      · exact .inl ((hL z).2 (.inr h1))
      · exact .inr h1
  · have hzp : ∀ b, hz v' (hPush R o) b → scz p R A b ∨ b = o.blk ∨ w.heap.size ≤ b := fun b hb => by
      rcases hb with hb | ⟨j, hj, rfl⟩
      · rcases hv b hb with h3 | h3
        · exact .inl (.inr (.inr (.inr (.inl (.inl h3)))))
        · exact .inr (.inr h3)
      · rcases (hL _).1 ⟨j, hj, rfl⟩ with e | ⟨c, hc, e⟩
        · rw [e]; exact .inr (.inl rfl)
        · rw [← e]; exact .inl (.inr (.inr (.inr (.inl (.inr ⟨c, hc, rfl⟩)))))
    rcases hb with hb | hb | hb | hb | hb
    · exact .inl (.inl hb)
    · exact .inl (.inr (.inl hb))
    · exact .inl (.inr (.inr (.inl hb)))
    · exact hzp b hb
    · exact .inl (.inr (.inr (.inr (.inr hb))))
theorem out_A {w w2 : World} {p : Sl} {m : Nat} {F : Int → Option Nat} {R A : List On} (h : ScMem w p m F R A) (hp : ScP m F R A) {i : Nat} (hi : i < A.length) {e : Ending} (hq : RemQ p.ab p.av A i w e w2) : ∃ p2 R2 A2, OutOk w p m F R A (og A i) w2 p2 R2 A2 := by
  obtain ⟨-, v', h2, hv, hb, ho⟩ := hq
  obtain ⟨f1, f2, f3⟩ := rem_lists true A i hi hp.sa hp.ha
  have hL := inL_rem A i hi h.sd.nd
  have hon : ∀ j q, j < ((hRem A i).take (A.length - 1)).length → q < R.length → (og ((hRem A i).take (A.length - 1)) j).blk ≠ (og R q).blk := fun j q hj hq => by
    obtain ⟨⟨c, hc, e⟩, -⟩ := (hL _).1 ⟨j, hj, rfl⟩
    rw [← e]
    exact (h.ones q c hq hc).symm
  have hm2 := h.opA (X := fun _ => False) h2 (ho.mono fun b e => .inl (by
    rcases e with e | e
    · exact .inl e
    · exact .inr (.inl e))) (fun b e => e.elim) (fun b hb => .inl (hv b hb)) hon
  have hin : ∀ z, InS R ((hRem A i).take (A.length - 1)) z ↔ (InS R A z ∧ z.id ≠ (og A i).id) := fun z => by
    constructor
    · rintro (h1 | h1)
      · refine ⟨.inl h1, fun e => ?_⟩
        have := sc_inj h hp (.inl h1) (.a hi) e
        subst this
        obtain ⟨j, hj, e2⟩ := h1
        exact h.ones j i hj hi (by rw [e2])
      · obtain ⟨h3, h4⟩ := (hL z).1 h1
        exact ⟨.inr h3, fun e => h4 (sc_inj h hp (.inr h3) (.a hi) e)⟩
    · rintro ⟨h1 | h1, h2⟩
      · exact .inl h1
      · exact .inr ((hL z).2 ⟨h1, fun e => h2 (by rw [e])⟩)
  refine ⟨_, _, _, hm2, rfl, rfl, rfl, rfl, ⟨hp.sr, f1, hp.hr, f2⟩, hin, ⟨_, hb⟩, fun z hz e => ?_, by rw [f3]; omega, fun b hb => ?_, ho.mono fun b hb => .inl (by
    rcases hb with hb | hb
    · rw [hb]; exact .inr (.inr (.inl rfl))
    · exact .inr (.inr (.inr (.inr hb))))⟩
  · obtain ⟨h3, h4⟩ := (hin z).1 hz
    have e1 := hp.f1 z h3
    have hz2 : InS R A (og A i) := InS.a hi
    rcases h3 with ⟨c, hc, rfl⟩ | ⟨c, hc, rfl⟩
    · exact h.ones c i hc hi e
    · exact h4 (by rw [h.sd.nd c i hc hi e])
  · rcases hb with hb | hb | hb | hb | hb
    · exact .inl hb
    · exact .inr (.inl hb)
    · exact .inr (.inr (.inl hb))
    · exact .inr (.inr (.inr (.inl hb)))
    · rcases hb with hb | ⟨j, hj, rfl⟩
      · exact .inr (.inr (.inr (.inr (.inl (hv b hb)))))
      · obtain ⟨⟨c, hc, e⟩, -⟩ := (hL _).1 ⟨j, hj, rfl⟩
        rw [← e]
        exact .inr (.inr (.inr (.inr (.inr ⟨c, hc, rfl⟩))))
theorem in_A {w w2 : World} {p : Sl} {m : Nat} {F : Int → Option Nat} {R A : List On} (h : ScMem w p m F R A) (hl : Lists R A) {o : On} (hsl : o.sl = true) {p0 : Int} (hb0 : w.heap[o.blk]? = some (.cells (onCells o p0) 109 (0, 0))) (nb : ∀ z, InS R A z → z.blk ≠ o.blk) {v' : Value} (h2 : HpAt w2 p.ab v' (hPush A o)) (ho : Only (fun b => b = p.ab ∨ hz p.av A b ∨ b = o.blk) w w2) (hv : ∀ b, inRow v' b → inRow p.av b ∨ w.heap.size ≤ b) : ∃ p2 R2 A2, InOk w p m F R A o w2 p2 R2 A2 := by
  have hsm := hPush_same A o
  have hL : ∀ z, InL (hPush A o) z ↔ (z = o ∨ InL A z) := fun z => (hsm.inL z).trans (inL_app A o z)
  have hlen : (hPush A o).length = A.length + 1 := by rw [hsm.len]; simp
  have hm2 := h.opA (X := fun b => b = o.blk) h2 ho (fun b e => by
    rw [show b = o.blk from e]
    exact ⟨⟨_, hb0⟩, fun j hj => nb _ (.r hj)⟩) hv (fun j q hj hq => by
    rcases (hL _).1 ⟨j, hj, rfl⟩ with e | ⟨c, hc, e⟩
    · rw [e]; exact fun e2 => nb _ (InS.r (i := q) hq) e2.symm
    · rw [← e]; exact (h.ones q c hq hc).symm)
  refine ⟨_, _, _, hm2, rfl, rfl, rfl, rfl, ⟨hl.sr, hsm.sl (fun j hj => by
    rcases (inL_app A o _).1 ⟨j, hj, rfl⟩ with e | ⟨c, hc, e⟩
    · rw [e]; exact hsl
    · rw [← e]; exact hl.sa c hc), hl.hr, by rw [hlen]; exact hPush_heap true A o hl.sa hsl hl.ha⟩, fun z => ?_, by rw [hlen]; omega, fun b hb => ?_, ho.mono fun b hb => .inl (by
    rcases hb with hb | hb | hb
    · rw [hb]; exact .inl (.inr (.inr (.inl rfl)))
    · exact .inl (.inr (.inr (.inr (.inr hb))))
    · exact .inr hb)⟩
  · show InS R (hPush A o) z ↔ _
    constructor
    · rintro (h1 | h1)
      · exact .inr (.inl h1)
      · rcases (hL z).1 h1 with e | h3
        · exact .inl e
        · exact .inr (.inr h3)
    · rintro (e | h1 | h1)
      · exact .inr ((hL z).2 (.inl e))
      · exact .inl h1
      · exact .inr ((hL z).2 (.inr h1))
  · have hzp : ∀ b, hz v' (hPush A o) b → scz p R A b ∨ b = o.blk ∨ w.heap.size ≤ b := fun b hb => by
      rcases hb with hb | ⟨j, hj, rfl⟩
      · rcases hv b hb with h3 | h3
        · exact .inl (.inr (.inr (.inr (.inr (.inl h3)))))
        · exact .inr (.inr h3)
      · rcases (hL _).1 ⟨j, hj, rfl⟩ with e | ⟨c, hc, e⟩
        · rw [e]; exact .inr (.inl rfl)
        · rw [← e]; exact .inl (.inr (.inr (.inr (.inr (.inr ⟨c, hc, rfl⟩)))))
    rcases hb with hb | hb | hb | hb | hb
    · exact .inl (.inl hb)
    · exact .inl (.inr (.inl hb))
    · exact .inl (.inr (.inr (.inl hb)))
    · exact .inl (.inr (.inr (.inr (.inl hb))))
    · exact hzp b hb
def scDel (st : Int → Option Gu) (x : Int) : (Int → Option Gu) × Int := match st x with
  | none => (st, 107)
  | some _ => (upd st x none, 0)
/-- what taking out does, whichever heap he is in -/
theorem srem_any (w : World) (p : Sl) (m : Nat) (F : Int → Option Nat) (R A : List On) (hm : ScMem w p m F R A) (hp : ScP m F R A) (o : On) (i : Nat) (hb : (i < R.length ∧ og R i = o) ∨ (i < A.length ∧ og A i = o)) :
    Calls Tryd.prog 59 #[.iface 101 (.pointer (some ⟨if o.sl = true then p.ab else p.rb, 0, none⟩)), .int .i64 (i : Int)] w fun e w' => (∃ b : Nat, e = .returned (.iface 107 (.pointer (some ⟨b, 0, none⟩)))) ∧ ∃ p2 R2 A2, OutOk w p m F R A o w' p2 R2 A2 := by
  rcases hb with ⟨hi, rfl⟩ | ⟨hi, rfl⟩
  · rw [hp.sr i hi]
    exact (hremove_any p.rb p.rv R i w hm.rd hi).mono fun e w' hq => ⟨⟨_, hq.1⟩, out_R hm hp hi hq⟩
  · rw [hp.sa i hi]
    exact (hremove_any p.ab p.av A i w hm.sd hi).mono fun e w' hq => ⟨⟨_, hq.1⟩, out_A hm hp hi hq⟩
set_option maxRecDepth 100000 in
set_option maxHeartbeats 6400000 in
theorem sdel_none (E : Nat → Addr) (w : World) (Z : Nat → Prop) (sb m : Nat) (st : Int → Option Gu) (h : ScAt w Z sb m st) (hE : ScErr E w) (x : Int) (hx : kw x) (hno : st x = none) :
    Calls Tryd.prog 18 #[.pointer (some ⟨sb, 0, none⟩), .int .i64 x] w (ScQ E Z sb m (scDel st x) w) := by
  have HR : Hid (scDel st x = (st, 107)) := Lib.hid (by unfold scDel; rw [hno])
  rw [HR.out]
  have HQ : Hid (ScQ E Z sb m (st, 107) w (.returned (errD E 107)) w) := Lib.hid ⟨rfl, h.mono fun b _ hb => .inl hb, Only.refl _ _⟩
  obtain ⟨p, F, R, A, rfl, hm, hp, hs, -⟩ := h
  have c0 : w.cell? ⟨p.sb, 0, none⟩ = some (.map (some p.mb)) := blk_cell hm.row 0
  have lt := blk_lt hm.row
  have hl := mp_look hm.map x hx
  rcases sc_look (w := w) (p := p) hp hs x hx with ⟨h1, h2⟩ | ⟨o, ho, -, -, h2⟩
  · rw [h1] at hl
    unfold optPtr at hl
    obtain ⟨-, -, e6, l6⟩ := hE
    clear hm hp hs h1 h2 hno HR
    go_enter Tryd.func18, Tryd.ntmps18
    go_wp2
    go_ret
    exact HQ.out
  · rw [hno] at h2
    cases h2
set_option maxRecDepth 100000 in
set_option maxHeartbeats 6400000 in
theorem sdel_some (E : Nat → Addr) (w : World) (Z : Nat → Prop) (p : Sl) (m : Nat) (F : Int → Option Nat) (R A : List On) (st : Int → Option Gu) (hm : ScMem w p m F R A) (hp : ScP m F R A) (hs : ScS R A st) (hZ : ∀ b, scz p R A b → Z b) (x : Int) (hx : kw x) (g : Gu) (hg : st x = some g) :
    Calls Tryd.prog 18 #[.pointer (some ⟨p.sb, 0, none⟩), .int .i64 x] w (ScQ E Z p.sb m (scDel st x) w) := by
  have HR : Hid (scDel st x = (upd st x none, 0)) := Lib.hid (by unfold scDel; rw [hg])
  rw [HR.out]
  obtain ⟨o, ho, rfl⟩ := hs.s2 x g hg
  obtain ⟨i, hbl, hix⟩ := hm.one ho
  have hcl := mp_look hm.map _ hx
  rw [hp.f1 _ ho] at hcl
  unfold optPtr at hcl
  have c0 : w.cell? ⟨p.sb, 0, none⟩ = some (.map (some p.mb)) := blk_cell hm.row 0
  have lt := blk_lt hm.row
  have d5 : w.cell? ⟨o.blk, 5, none⟩ = some (.int .i64 (i : Int)) := blk_cell hbl 5
  have ld := blk_lt hbl
  have hmd : ScMem w.drew p m F R A := hm.below (Below.refl _ _).drew
  have HOF := Lib.hid (sof_row w p.sb p.mb p.rb p.ab hm.row o i hbl)
  have HOFD := Lib.hid (sof_row w.drew p.sb p.mb p.rb p.ab hmd.row o i hbl)
  have HRM := Lib.hid (srem_any w p m F R A hm hp o i hix)
  have HRMD := Lib.hid (srem_any w.drew p m F R A hmd hp o i hix)
  obtain ⟨tb, htb⟩ : ∃ t, (if o.sl = true then p.ab else p.rb) = t := ⟨_, rfl⟩
  rw [htb] at HOF HOFD HRM HRMD
  clear htb
  have HFROM : Hid (∀ w2 p2 R2 A2, OutOk w.drew p m F R A o w2 p2 R2 A2 → OutOk w p m F R A o w2 p2 R2 A2) := Lib.hid fun w2 p2 R2 A2 h => ⟨h.mem, h.sb, h.mb, h.rb, h.ab, h.ls, h.ins, h.blk, h.nb, h.len, h.zn, (Only.refl (scz p R A) w).drew.trans (h.only.mono fun _ h => .inl h)⟩
  have HFIN : Hid (∀ w2 p2 R2 A2, OutOk w p m F R A o w2 p2 R2 A2 → ∀ w3, MpAt w3 p.mb m (updF F o.id none) → Only (fun k => k = p.mb) w2 w3 → ScAt w3 (fun b => Z b ∨ w.heap.size ≤ b) p.sb m (upd st o.id none) ∧ Only Z w w3) := Lib.hid fun w2 p2 R2 A2 h w3 h3 ho3 => by
    rw [← h.mb] at h3 ho3
    obtain ⟨q1, q2⟩ := scP_del hp hs ho h.ins h.ls (by have := h.len; omega)
    exact ⟨⟨p2, _, R2, A2, h.sb, h.mem.mapOp h3 ho3, q1, q2, fun b hb => .inl (hZ b (h.zn b hb))⟩, (h.only.mono fun b hb => .inl (hZ b hb)).trans (ho3.mono fun b hb => .inl (hZ b (.inl (by rw [hb, h.mb]))))⟩
  have HMAP : Hid (∀ w2 p2 R2 A2, OutOk w p m F R A o w2 p2 R2 A2 → MpAt w2 p.mb m F ∧ w2.cell? ⟨p.sb, 0, none⟩ = some (.map (some p.mb)) ∧ p.sb < w2.heap.size) := Lib.hid fun w2 p2 R2 A2 h => by
    have h1 := h.mem.map
    have h2 := h.mem.row
    rw [h.mb] at h1
    rw [h.mb, h.sb] at h2
    exact ⟨h1, blk_cell h2 0, blk_lt h2⟩
  obtain ⟨oi, hoi⟩ : ∃ x, o.id = x := ⟨_, rfl⟩
  obtain ⟨ob, hob⟩ : ∃ x, o.blk = x := ⟨_, rfl⟩
  rw [hoi] at hcl HFIN hx ⊢
  rw [hob] at hcl d5 ld HOF HOFD
  have HX := Lib.hid hx
  clear hm hp hs hZ hg HR ho hbl hix hx hmd hoi hob
  go_enter Tryd.func18, Tryd.ntmps18
  go_wp2_with fail
  go_region_with (first
    | (go_at_call 58; refine HOF.out.mono ?_; rintro y wx ⟨rfl, rfl⟩)
    | (go_at_call 58; refine HOFD.out.mono ?_; rintro y wx ⟨rfl, rfl⟩)
    | (go_at_call 59; refine HRM.out.mono ?_; rintro y w2 ⟨⟨bb, rfl⟩, p2, R2, A2, hout⟩)
    | (go_at_call 59; refine HRMD.out.mono ?_; rintro y w2 ⟨⟨bb, rfl⟩, p2, R2, A2, hout'⟩; have hout := HFROM.out _ _ _ _ hout'))
  all_goals
    have HO := Lib.hid hout
    obtain ⟨hmp, e0, l0⟩ := HMAP.out _ _ _ _ hout
    have HMP := Lib.hid hmp
    clear hout hmp c0 lt d5 ld hcl
    go_wp2_with (at_delete; refine wp_delete_mp _ rfl _ _ rfl _ _ _ rfl HMP.out _ rfl HX.out ?_)
    intro w3 h3 ho3
    have HF := Lib.hid (HFIN.out _ _ _ _ HO.out w3 h3 ho3)
    clear h3 ho3
    go_wp2
    go_ret
    exact ⟨rfl, HF.out⟩
theorem sdel_any (E : Nat → Addr) (w : World) (Z : Nat → Prop) (sb m : Nat) (st : Int → Option Gu) (h : ScAt w Z sb m st) (hE : ScErr E w) (x : Int) (hx : kw x) :
    Calls Tryd.prog 18 #[.pointer (some ⟨sb, 0, none⟩), .int .i64 x] w (ScQ E Z sb m (scDel st x) w) := by
  cases hg : st x with
  | none => exact sdel_none E w Z sb m st h hE x hx hg
  | some g =>
    obtain ⟨p, F, R, A, rfl, hm, hp, hs, hZ⟩ := h
    exact sdel_some E w Z p m F R A st hm hp hs hZ x hx g hg
def scSleep (st : Int → Option Gu) (x n : Int) : (Int → Option Gu) × Int := match st x with
  | none => (st, 107)
  | some g => (upd st x (some ⟨g.wt, g.us, true, n⟩), 0)
set_option maxRecDepth 100000 in
set_option maxHeartbeats 6400000 in
theorem ssleep_none (E : Nat → Addr) (w : World) (Z : Nat → Prop) (sb m : Nat) (st : Int → Option Gu) (h : ScAt w Z sb m st) (hE : ScErr E w) (x n : Int) (hx : kw x) (hno : st x = none) :
    Calls Tryd.prog 20 #[.pointer (some ⟨sb, 0, none⟩), .int .i64 x, .int .i64 n] w (ScQ E Z sb m (scSleep st x n) w) := by
  have HR : Hid (scSleep st x n = (st, 107)) := Lib.hid (by unfold scSleep; rw [hno])
  rw [HR.out]
  have HQ : Hid (ScQ E Z sb m (st, 107) w (.returned (errD E 107)) w) := Lib.hid ⟨rfl, h.mono fun b _ hb => .inl hb, Only.refl _ _⟩
  obtain ⟨p, F, R, A, rfl, hm, hp, hs, -⟩ := h
  have c0 : w.cell? ⟨p.sb, 0, none⟩ = some (.map (some p.mb)) := blk_cell hm.row 0
  have lt := blk_lt hm.row
  have hl := mp_look hm.map x hx
  rcases sc_look (w := w) (p := p) hp hs x hx with ⟨h1, h2⟩ | ⟨o, ho, -, -, h2⟩
  · rw [h1] at hl
    unfold optPtr at hl
    obtain ⟨-, -, e6, l6⟩ := hE
    clear hm hp hs h1 h2 hno HR
    go_enter Tryd.func20, Tryd.ntmps20
    go_wp2
    go_ret
    exact HQ.out
  · rw [hno] at h2
    cases h2
set_option maxRecDepth 100000 in
set_option maxHeartbeats 6400000 in
theorem ssleep_some (E : Nat → Addr) (w : World) (Z : Nat → Prop) (p : Sl) (m : Nat) (F : Int → Option Nat) (R A : List On) (st : Int → Option Gu) (hm : ScMem w p m F R A) (hp : ScP m F R A) (hs : ScS R A st) (hZ : ∀ b, scz p R A b → Z b) (x n : Int) (hx : kw x) (hn : kw n) (g : Gu) (hg : st x = some g) :
    Calls Tryd.prog 20 #[.pointer (some ⟨p.sb, 0, none⟩), .int .i64 x, .int .i64 n] w (ScQ E Z p.sb m (scSleep st x n) w) := by
  have HR : Hid (scSleep st x n = (upd st x (some ⟨g.wt, g.us, true, n⟩), 0)) := Lib.hid (by unfold scSleep; rw [hg])
  rw [HR.out]
  obtain ⟨o, ho, rfl⟩ := hs.s2 x g hg
  obtain ⟨i, hbl, hix⟩ := hm.one ho
  have hcl := mp_look hm.map _ hx
  rw [hp.f1 _ ho] at hcl
  unfold optPtr at hcl
  have c0 : w.cell? ⟨p.sb, 0, none⟩ = some (.map (some p.mb)) := blk_cell hm.row 0
  have lt := blk_lt hm.row
  have d5 : w.cell? ⟨o.blk, 5, none⟩ = some (.int .i64 (i : Int)) := blk_cell hbl 5
  have ld := blk_lt hbl
  have hmd : ScMem w.drew p m F R A := hm.below (Below.refl _ _).drew
  have HOF := Lib.hid (sof_row w p.sb p.mb p.rb p.ab hm.row o i hbl)
  have HOFD := Lib.hid (sof_row w.drew p.sb p.mb p.rb p.ab hmd.row o i hbl)
  have HRM := Lib.hid (srem_any w p m F R A hm hp o i hix)
  have HRMD := Lib.hid (srem_any w.drew p m F R A hmd hp o i hix)
  obtain ⟨tb, htb⟩ : ∃ t, (if o.sl = true then p.ab else p.rb) = t := ⟨_, rfl⟩
  rw [htb] at HOF HOFD HRM HRMD
  clear htb
  have HFROM : Hid (∀ w2 p2 R2 A2, OutOk w.drew p m F R A o w2 p2 R2 A2 → OutOk w p m F R A o w2 p2 R2 A2) := Lib.hid fun w2 p2 R2 A2 h => ⟨h.mem, h.sb, h.mb, h.rb, h.ab, h.ls, h.ins, h.blk, h.nb, h.len, h.zn, (Only.refl (scz p R A) w).drew.trans (h.only.mono fun _ h => .inl h)⟩
  have hgo := hs.s1 o ho
  rw [hg] at hgo
  obtain rfl := Option.some.inj hgo
  obtain ⟨o', ho'⟩ : ∃ o' : On, o' = ⟨o.id, o.wt, o.us, true, n, o.blk⟩ := ⟨_, rfl⟩
  have HPUSH : Hid (∀ w2 p2 R2 A2, OutOk w p m F R A o w2 p2 R2 A2 → (∃ pl : Int, w2.heap[o.blk]? = some (.cells (onCells o pl) 109 (0, 0))) ∧ (w2.cell? ⟨p.sb, 2, none⟩ = some (.pointer (some ⟨p.ab, 0, none⟩)) ∧ p.sb < w2.heap.size ∧ o.blk ≠ p.sb) ∧ ∀ w3, (Only (fun b => b = o.blk) w2 w3) → ∀ pl : Int, w3.heap[o.blk]? = some (.cells (onCells o' pl) 109 (0, 0)) →
      Calls Tryd.prog 56 #[.iface 101 (.pointer (some ⟨p.ab, 0, none⟩)), .iface 107 (.pointer (some ⟨o.blk, 0, none⟩))] w3 fun e w4 => e = .returned (.tuple #[]) ∧ ScAt w4 (fun b => Z b ∨ w.heap.size ≤ b) p.sb m (upd st o.id (some ⟨o.wt, o.us, true, n⟩)) ∧ Only Z w w4) := Lib.hid fun w2 p2 R2 A2 h => by
    have hrow := h.mem.row
    rw [h.sb, h.mb, h.rb, h.ab] at hrow
    obtain ⟨pl0, hb0⟩ := h.blk
    have hne : o.blk ≠ p.sb := cells_ne hb0 hrow (by decide)
    refine ⟨⟨pl0, hb0⟩, ⟨blk_cell hrow 2, blk_lt hrow, hne⟩, fun w3 ho3 pl hb3 => ?_⟩
    have nz : ∀ b, scz p2 R2 A2 b → b ≠ o.blk := fun b hb e => by
      subst e
      rcases hb with hb | hb | hb | hb | hb
      · obtain ⟨es, c, hh⟩ := h.mem.map.ty
        exact map_ne hh hb0 hb.symm
      · exact cells_ne hb0 h.mem.rd.hdr (by decide) hb
      · exact cells_ne hb0 h.mem.sd.hdr (by decide) hb
      · rcases hb with hb | ⟨j, hj, e⟩
        · exact one_row h.mem.rd hb hb0
        · exact h.nb _ (.r hj) e.symm
      · rcases hb with hb | ⟨j, hj, e⟩
        · exact one_row h.mem.sd hb hb0
        · exact h.nb _ (.a hj) e.symm
    have hm3 : ScMem w3 p2 m F R2 A2 := h.mem.keep ho3 (by rw [h.sb]; exact fun e => hne e.symm) nz
    have hbk : o'.blk = o.blk := by rw [ho']
    have hlen := h.len
    have hc := hp.cnt
    have hc2 := hp.m100
    have hpu := hpush_any p2.ab p2.av A2 o' pl w3 hm3.sd (by rw [hbk]; exact hb3) (fun j hj => by rw [hbk]; exact h.nb _ (.a hj)) (by omega)
    rw [hbk, h.ab] at hpu
    refine hpu.mono ?_
    rintro e w4 ⟨rfl, v', h4, ho4, hv4⟩
    rw [← h.ab] at h4 ho4
    obtain ⟨p5, R5, A5, h5⟩ := in_A hm3 h.ls (o := o') (by rw [ho']) (by rw [hbk]; exact hb3) (fun z hz => by rw [hbk]; exact h.nb z hz) h4 (by rw [hbk]; exact ho4) hv4
    have hon := (hp.ids o ho)
    have hins : ∀ z, InS R5 A5 z ↔ (z = o' ∨ (InS R A z ∧ z.id ≠ o.id)) := fun z => by
      rw [h5.ins, h.ins]
    obtain ⟨q1, q2⟩ := scP_upd hp hs (fun a b ha hb e => sc_inj hm hp ha hb e) ho (o' := o') (by rw [ho']) hbk (by rw [ho']; exact ⟨hon.1, hon.2.1, hon.2.2.1, kw_in hn⟩) hins h5.ls (by have := h5.len; omega)
    rw [show o'.gu = ⟨o.wt, o.us, true, n⟩ by rw [ho']; rfl] at q2
    have hzo : scz p R A o.blk := by
      rcases ho with ⟨j, hj, e⟩ | ⟨j, hj, e⟩
      · exact .inr (.inr (.inr (.inl (.inr ⟨j, hj, by rw [e]⟩))))
      · exact .inr (.inr (.inr (.inr (.inr ⟨j, hj, by rw [e]⟩))))
    have hsz : w.heap.size ≤ w3.heap.size := Nat.le_trans h.only.size ho3.size
    refine ⟨rfl, ⟨p5, F, R5, A5, h5.sb.trans h.sb, h5.mem, q1, q2, fun b hb => ?_⟩, ((h.only.mono fun b hb => .inl (hZ b hb)).trans (ho3.mono fun b hb => .inl (hZ b (by rw [hb]; exact hzo)))).trans (h5.only.mono fun b hb => .inl (by
      rcases hb with hb | hb
      · exact hZ b (h.zn b hb)
      · rw [hb, hbk]; exact hZ _ hzo))⟩
    rcases h5.zn b hb with h6 | h6 | h6
    · exact .inl (hZ b (h.zn b h6))
    · rw [h6, hbk]; exact .inl (hZ _ hzo)
    · exact .inr (Nat.le_trans hsz h6)
  have HCE : Hid (∀ pl : Int, onCells o' pl = ((onCells o pl).setIfInBounds 3 (.bool true)).setIfInBounds 4 (.int .i64 n)) := Lib.hid fun pl => by rw [ho']; rfl
  obtain ⟨oi, hoi⟩ : ∃ x, o.id = x := ⟨_, rfl⟩
  obtain ⟨ob, hob⟩ : ∃ x, o.blk = x := ⟨_, rfl⟩
  rw [hoi] at hcl HPUSH hx ⊢
  rw [hob] at hcl d5 ld HOF HOFD HPUSH
  clear hm hp hs hZ hg HR ho hbl hix hx hmd hoi hob hgo hn ho'
  go_enter Tryd.func20, Tryd.ntmps20
  go_wp2_with fail
  go_region_with (first
    | (go_at_call 58; refine HOF.out.mono ?_; rintro y wx ⟨rfl, rfl⟩)
    | (go_at_call 58; refine HOFD.out.mono ?_; rintro y wx ⟨rfl, rfl⟩)
    | (go_at_call 59; refine HRM.out.mono ?_; rintro y w2 ⟨⟨bb, rfl⟩, p2, R2, A2, hout⟩)
    | (go_at_call 59; refine HRMD.out.mono ?_; rintro y w2 ⟨⟨bb, rfl⟩, p2, R2, A2, hout'⟩; have hout := HFROM.out _ _ _ _ hout'))
  all_goals
    obtain ⟨⟨pl, hb⟩, ⟨e0, l0, ne⟩, hpp⟩ := HPUSH.out _ _ _ _ hout
    have HB := Lib.hid hb
    have HPP := Lib.hid hpp
    have HNE := Lib.hid ne
    have g3 := blk_free hb 3
    have g4 := blk_free hb 4
    have q3 : w2.cell? ⟨ob, 3, none⟩ = some (.bool o.sl) := blk_cell hb 3
    have q4 : w2.cell? ⟨ob, 4, none⟩ = some (.int .i64 o.un) := blk_cell hb 4
    have lb := blk_lt hb
    clear hout hpp c0 lt d5 ld hcl hb
    go_wp2_with fail
    refine (HPP.out _ (((Only.refl (fun b => b = ob) w2).setCell (p := ⟨ob, 3, none⟩) (.inl rfl) _).setCell (p := ⟨ob, 4, none⟩) (.inl rfl) _) pl (by rw [HCE.out]; exact blk_put (blk_put HB.out 3 _) 4 _)).mono ?_
    rintro y w4 ⟨rfl, hf⟩
    have HF := Lib.hid hf
    clear hf
    go_wp2_with fail
    go_ret
    exact ⟨rfl, HF.out⟩
theorem ssleep_any (E : Nat → Addr) (w : World) (Z : Nat → Prop) (sb m : Nat) (st : Int → Option Gu) (h : ScAt w Z sb m st) (hE : ScErr E w) (x n : Int) (hx : kw x) (hn : kw n) :
    Calls Tryd.prog 20 #[.pointer (some ⟨sb, 0, none⟩), .int .i64 x, .int .i64 n] w (ScQ E Z sb m (scSleep st x n) w) := by
  cases hg : st x with
  | none => exact ssleep_none E w Z sb m st h hE x n hx hg
  | some g =>
    obtain ⟨p, F, R, A, rfl, hm, hp, hs, hZ⟩ := h
    exact ssleep_some E w Z p m F R A st hm hp hs hZ x n hx hn g hg
end Go.Proofs.YtnhocmmgdkiepaaDoor

/-
  sched.Sched: Add.
-/
namespace Go.Proofs.YtnhocmmgdkiepaaDoor
open Go.RowKit Go.Maps

/-- the least that anybody has used -/
def MinU (st : Int → Option Gu) (u : Int) : Prop := ((∀ x, kw x → st x = none) ∧ u = 0) ∨ ((∃ x g, kw x ∧ st x = some g ∧ g.us = u) ∧ ∀ x g, kw x → st x = some g → u ≤ g.us)
def addBad (x wt : Int) : Prop := x < 0 ∨ 8 ≤ x ∨ wt < 1 ∨ 100 < wt
def AddR (st : Int → Option Gu) (x wt c : Int) (st' : Int → Option Gu) : Prop := (addBad x wt ∧ c = 103 ∧ st' = st) ∨ (¬ addBad x wt ∧ (st x).isSome = true ∧ c = 106 ∧ st' = st) ∨ (¬ addBad x wt ∧ st x = none ∧ c = 0 ∧ ∃ u, MinU st u ∧ st' = upd st x (some ⟨wt, u, false, 0⟩))
def ScAddQ (E : Nat → Addr) (Z : Nat → Prop) (sb m : Nat) (st : Int → Option Gu) (x wt : Int) (w : World) (e : Ending) (w' : World) : Prop := ∃ c st', e = .returned (errD E c) ∧ AddR st x wt c st' ∧ ScAt w' (fun b => Z b ∨ w.heap.size ≤ b) sb (m + 1) st' ∧ Only Z w w'
theorem MpAt.up {w : World} {mb n n' : Nat} {F : Int → Option Nat} (h : MpAt w mb n F) (hn : n ≤ n') : MpAt w mb n' F := by
  obtain ⟨D, h1, h2⟩ := h
  exact ⟨D, h1.mono hn, h2⟩
theorem ScAt.up {Z : Nat → Prop} {w : World} {sb m m' : Nat} {st : Int → Option Gu} (h : ScAt w Z sb m st) (h1 : m ≤ m') (h2 : m' ≤ 100) : ScAt w Z sb m' st := by
  obtain ⟨p, F, R, A, rfl, hm, hp, hs, hz⟩ := h
  exact ⟨p, F, R, A, rfl, ⟨hm.row, hm.map.up h1, hm.rd, hm.sd, hm.rne, hm.rows, hm.ones⟩, ⟨hp.ids, hp.f1, hp.f2, hp.sr, hp.sa, hp.hr, hp.ha, Nat.le_trans hp.cnt h1, h2⟩, hs, hz⟩
set_option maxRecDepth 100000 in
set_option maxHeartbeats 12800000 in
theorem sadd_bad (E : Nat → Addr) (w : World) (Z : Nat → Prop) (sb m : Nat) (st : Int → Option Gu) (h : ScAt w Z sb m st) (hE : ScErr E w) (x wt : Int) (hm : m < 100) (hb : addBad x wt) :
    Calls Tryd.prog 15 #[.pointer (some ⟨sb, 0, none⟩), .int .i64 x, .int .i64 wt] w (ScAddQ E Z sb m st x wt w) := by
  have HQ : Hid (ScAddQ E Z sb m st x wt w (.returned (errD E 103)) w) := Lib.hid ⟨103, st, rfl, .inl ⟨hb, rfl, rfl⟩, (h.up (Nat.le_succ m) (by omega)).mono fun b _ hb => .inl hb, Only.refl _ _⟩
  obtain ⟨⟨e2, l2⟩, -⟩ := hE
  have hc : x < 0 ∨ (¬ x < 0 ∧ 8 ≤ x) ∨ (¬ x < 0 ∧ ¬ 8 ≤ x ∧ wt < 1) ∨ (¬ x < 0 ∧ ¬ 8 ≤ x ∧ ¬ wt < 1 ∧ 100 < wt) := by unfold addBad at hb; omega
  clear h hm hb
  rcases hc with h1 | ⟨h1, h2⟩ | ⟨h1, h2, h3⟩ | ⟨h1, h2, h3, h4⟩
  all_goals
    go_enter Tryd.func15, Tryd.ntmps15
    go_wp2
    go_ret
    exact HQ.out
set_option maxRecDepth 100000 in
set_option maxHeartbeats 12800000 in
theorem sadd_twice (E : Nat → Addr) (w : World) (Z : Nat → Prop) (sb m : Nat) (st : Int → Option Gu) (h : ScAt w Z sb m st) (hE : ScErr E w) (x wt : Int) (hm : m < 100) (hb : ¬ addBad x wt) (hx : kw x) (g : Gu) (hg : st x = some g) :
    Calls Tryd.prog 15 #[.pointer (some ⟨sb, 0, none⟩), .int .i64 x, .int .i64 wt] w (ScAddQ E Z sb m st x wt w) := by
  have HQ : Hid (ScAddQ E Z sb m st x wt w (.returned (errD E 106)) w) := Lib.hid ⟨106, st, rfl, .inr (.inl ⟨hb, by rw [hg]; rfl, rfl, rfl⟩), (h.up (Nat.le_succ m) (by omega)).mono fun b _ hb => .inl hb, Only.refl _ _⟩
  obtain ⟨p, F, R, A, rfl, hmm, hp, hs, -⟩ := h
  have c0 : w.cell? ⟨p.sb, 0, none⟩ = some (.map (some p.mb)) := blk_cell hmm.row 0
  have lt := blk_lt hmm.row
  have hl := mp_look hmm.map x hx
  obtain ⟨-, ⟨e2, l2⟩, -⟩ := hE
  unfold addBad at hb
  have k1 : ¬ x < 0 := by omega
  have k2 : ¬ 8 ≤ x := by omega
  have k3 : ¬ wt < 1 := by omega
  have k4 : ¬ 100 < wt := by omega
  rcases sc_look (w := w) (p := p) hp hs x hx with ⟨-, h2⟩ | ⟨o, ho, -, h1, -⟩
  · rw [hg] at h2
    cases h2
  · rw [h1] at hl
    unfold optPtr at hl
    clear hmm hp hs h1 hg hb ho hx hm
    go_enter Tryd.func15, Tryd.ntmps15
    go_wp2
    go_ret
    exact HQ.out
/-- the least so far -/
def AddTo (F : Int → Option Nat) (R A : List On) (mb r m ob : Nat) (x wt : Int) (W0 : World) (f : Value) (wr : World) : Prop := ∃ (left : Int → Bool) (cnt : Nat) (u : Int) (b : Bool), f = .bool b ∧ MpR wr mb r m F left cnt ∧ wr.heap[ob]? = some (.cells (onCells ⟨x, wt, u, false, 0, ob⟩ 0) 109 (0, 0)) ∧ Only (fun k => k = ob ∨ k = r) W0 wr ∧ (0 ≤ u ∧ u ≤ 1152921504606846976) ∧ ((b = true ∧ u = 0 ∧ ∀ z, kw z → left z = (F z).isSome) ∨ (b = false ∧ (∃ o, InS R A o ∧ o.us = u) ∧ ∀ o, InS R A o → left o.id = false → u ≤ o.us)) ∧ ∀ z, kw z → left z = true → (F z).isSome = true
set_option maxRecDepth 100000 in
set_option maxHeartbeats 12800000 in
theorem sadd_ok (E : Nat → Addr) (w : World) (Z : Nat → Prop) (p : Sl) (m : Nat) (F : Int → Option Nat) (R A : List On) (st : Int → Option Gu) (hmm : ScMem w p m F R A) (hp : ScP m F R A) (hs : ScS R A st) (hZ : ∀ b, scz p R A b → Z b) (x wt : Int) (hm : m < 100) (hb : ¬ addBad x wt) (hx : kw x) (hg : st x = none) :
    Calls Tryd.prog 15 #[.pointer (some ⟨p.sb, 0, none⟩), .int .i64 x, .int .i64 wt] w (ScAddQ E Z p.sb m st x wt w) := by
  have hF : F x = none := by
    rcases sc_look (w := w) (p := p) hp hs x hx with ⟨h1, -⟩ | ⟨o, -, -, -, h2⟩
    · exact h1
    · rw [hg] at h2; cases h2
  have hl := mp_look hmm.map x hx
  rw [hF] at hl
  unfold optPtr at hl
  have c0 : w.cell? ⟨p.sb, 0, none⟩ = some (.map (some p.mb)) := blk_cell hmm.row 0
  have lt := blk_lt hmm.row
  have HBAD := Lib.hid hb
  unfold addBad at hb
  have k1 : ¬ x < 0 := by omega
  have k2 : ¬ 8 ≤ x := by omega
  have k3 : ¬ wt < 1 := by omega
  have k4 : ¬ 100 < wt := by omega
  obtain ⟨w1, hw1⟩ : ∃ w1, w.alloc (.cells (onCells ⟨x, wt, 0, false, 0, w.heap.size⟩ 0) 109) = w1 := ⟨_, rfl⟩
  have hb1 : Below w.heap.size w w1 := hw1 ▸ (Below.refl _ _).alloc (Nat.le_refl _) _
  have hk1 : w1.heap[w.heap.size]? = some (.cells (onCells ⟨x, wt, 0, false, 0, w.heap.size⟩ 0) 109 (0, 0)) := hw1 ▸ blk_new w _
  have hmm1 := hmm.below hb1
  have HMP1 := Lib.hid hmm1.map
  have hsz1 : w1.heap.size = w.heap.size + 1 := by rw [← hw1]; simp
  have HB1 := Lib.hid hb1
  have HK1 := Lib.hid hk1
  have HSZ1 := Lib.hid hsz1
  have HMM := Lib.hid hmm
  have HP := Lib.hid hp
  have HS := Lib.hid hs
  have HZ := Lib.hid hZ
  have HM := Lib.hid hm
  have HX := Lib.hid hx
  have HG := Lib.hid hg
  have d0 : w1.cell? ⟨p.sb, 0, none⟩ = some (.map (some p.mb)) := blk_cell hmm1.row 0
  have dl := blk_lt hmm1.row
  have HD := Lib.hid (And.intro d0 dl)
  unfold onCells at hw1
  dsimp only at hw1
  have HW1 := Lib.hid hw1
  clear hmm hp hs hZ hm hb hx hg hF hb1 hk1 hmm1 hsz1 d0 dl hw1
  go_enter Tryd.func15, Tryd.ntmps15
  go_wp2_with (first | (at_range; rw [HW1.out]; refine wp_range_mp _ rfl _ rfl p.mb m F rfl HMP1.out ?_; intro w2 cnt hr2 ho2 hs2) | go_in)
  have hb2 : Below w.heap.size w w2 := HB1.out.trans (ho2.below (B := w.heap.size) HB1.out.size (fun k hk => hk.elim))
  have HB2 := Lib.hid hb2
  have hk2 := ho2.blk HK1.out (fun h => h)
  have HST : Hid (AddTo F R A p.mb w1.heap.size m w.heap.size x wt w2 (.bool true) w2) := Lib.hid ⟨_, cnt, 0, true, rfl, hr2, hk2, Only.refl _ _, ⟨by omega, by omega⟩, .inl ⟨rfl, rfl, fun _ _ => rfl⟩, fun _ _ h => h⟩
  have HRB : Hid (∀ wr, Only (fun k => k = w.heap.size ∨ k = w1.heap.size) w2 wr → ScMem wr p m F R A ∧ Below w.heap.size w wr ∧ Only Z w wr) := Lib.hid fun wr ho => by
    have hbr : Below w.heap.size w wr := HB2.out.trans (ho.below (B := w.heap.size) HB2.out.size (fun k hk => by have := HSZ1.out; omega))
    exact ⟨HMM.out.below hbr, hbr, Only.of_below hbr⟩
  clear hr2 ho2 hs2 hb2 hk2
  go_loopw [8] (fun f wr => AddTo F R A p.mb w1.heap.size m w.heap.size x wt w2 f wr) (fun _ wr => wr.rangeLeft p.mb w1.heap.size)
  case atStart => exact HST.out
  case round =>
    obtain ⟨left, cnt2, u, b, rfl, hr, hk, ho, hu, hcase, hleft⟩ := hrel
    have HR := Lib.hid hr
    have HK := Lib.hid hk
    have HO := Lib.hid ho
    have HU := Lib.hid hu
    have HC := Lib.hid hcase
    have HL := Lib.hid hleft
    have HW := Lib.hid (HRB.out _ ho)
    have hcnt := hr.cnt_eq
    have HCNT := Lib.hid hcnt
    have lob := blk_lt hk
    have q2 : wr.cell? ⟨w.heap.size, 2, none⟩ = some (.int .i64 u) := blk_cell hk 2
    clear hr hk ho hu hcase hleft hcnt HST
    go_wp2_with (first | (at_next; refine wp_next_mp _ rfl _ rfl p.mb w1.heap.size m F left cnt2 rfl HR.out ?_ ?_) | go_in)
    · intro hdone
      have HMIN : Hid (MinU st u) := Lib.hid (by
        rcases HC.out with ⟨-, h2, h3⟩ | ⟨-, ⟨o, ho, h2⟩, h3⟩
        · refine .inl ⟨fun z hz => ?_, h2⟩
          have h4 := h3 z hz
          rw [hdone z hz] at h4
          rcases sc_look (w := w) (p := p) HP.out HS.out z hz with ⟨-, h5⟩ | ⟨o, -, -, h5, -⟩
          · exact h5
          · rw [h5] at h4; cases h4
        · refine .inr ⟨⟨o.id, o.gu, kw_of (by have := (HP.out.ids o ho).1; omega), HS.out.s1 o ho, h2⟩, fun z g hz hg => ?_⟩
          obtain ⟨o2, ho2, rfl⟩ := HS.out.s2 z g hg
          have h6 := HS.out.s1 o2 ho2
          rw [hg] at h6
          obtain rfl := Option.some.inj h6
          exact h3 o2 ho2 (hdone _ hz))
      obtain ⟨o', ho'⟩ : ∃ o' : On, o' = ⟨x, wt, u, false, 0, w.heap.size⟩ := ⟨_, rfl⟩
      have hok : onOk o' := by
        rw [ho']
        exact ⟨⟨by show (0 : Int) ≤ x; omega, by show x < 8; omega⟩, ⟨by show (1 : Int) ≤ wt; omega, by show wt ≤ 100; omega⟩, HU.out, by show (-9223372036854775808 : Int) ≤ 0; decide, by show (0 : Int) ≤ 9223372036854775807; decide⟩
      have HFIN : Hid (∀ w4, MpAt w4 p.mb (m + 1) (updF F x (some w.heap.size)) → Only (fun k => k = p.mb) wr w4 → (w4.cell? ⟨p.sb, 1, none⟩ = some (.pointer (some ⟨p.rb, 0, none⟩)) ∧ p.sb < w4.heap.size) ∧
          Calls Tryd.prog 56 #[.iface 101 (.pointer (some ⟨p.rb, 0, none⟩)), .iface 107 (.pointer (some ⟨w.heap.size, 0, none⟩))] w4 fun e w5 => e = .returned (.tuple #[]) ∧ ScAt w5 (fun b => Z b ∨ w.heap.size ≤ b) p.sb (m + 1) (upd st x (some ⟨wt, u, false, 0⟩)) ∧ Only Z w w5) := Lib.hid fun w4 h4 ho4 => by
        have hm4 := HW.out.1.mapOp h4 ho4
        have hb4 : w4.heap[w.heap.size]? = some (.cells (onCells o' 0) 109 (0, 0)) := by
          obtain ⟨es, c, hh⟩ := HW.out.1.map.ty
          rw [ho']
          exact ho4.blk HK.out (map_ne hh HK.out).symm
        have hbk : o'.blk = w.heap.size := by rw [ho']
        have hnb : ∀ z, InS R A z → z.blk ≠ o'.blk := fun z hz e => by
          obtain ⟨i, hh, -⟩ := HMM.out.one hz
          have := blk_lt hh
          rw [e, hbk] at this
          omega
        refine ⟨⟨blk_cell hm4.row 1, blk_lt hm4.row⟩, ?_⟩
        have hc := HP.out.cnt
        have hmx := HM.out
        have hpu := hpush_any p.rb p.rv R o' 0 w4 hm4.rd (by rw [hbk]; exact hb4) (fun j hj => hnb _ (.r hj)) (by omega)
        rw [hbk] at hpu
        refine hpu.mono ?_
        rintro e w5 ⟨rfl, v', h5, ho5, hv5⟩
        obtain ⟨p5, R5, A5, h6⟩ := in_R hm4 ⟨HP.out.sr, HP.out.sa, HP.out.hr, HP.out.ha⟩ (o := o') (by rw [ho']) (by rw [hbk]; exact hb4) hnb h5 (by rw [hbk]; exact ho5) hv5
        obtain ⟨g1, g2⟩ := scP_add HP.out HS.out (o' := o') hmx hok (by rw [ho']; exact HG.out) h6.ins h6.ls (by have := h6.len; omega)
        rw [show o'.id = x by rw [ho'], hbk] at g1
        rw [show o'.id = x by rw [ho'], show o'.gu = ⟨wt, u, false, 0⟩ by rw [ho']; rfl] at g2
        have hsz : w.heap.size ≤ w4.heap.size := Nat.le_trans HW.out.2.1.size ho4.size
        refine ⟨rfl, ⟨p5, _, R5, A5, h6.sb, h6.mem, g1, g2, fun b hb => ?_⟩, (HW.out.2.2.trans (ho4.mono fun b hb => .inl (HZ.out b (.inl hb)))).trans' h6.only fun b hb => ?_⟩
        · rcases h6.zn b hb with h7 | h7 | h7
          · exact .inl (HZ.out b h7)
          · rw [h7, hbk]; exact .inr (Nat.le_refl _)
          · exact .inr (Nat.le_trans hsz h7)
        · rcases hb with hb | hb
          · exact .inl (HZ.out b hb)
          · rw [hb, hbk]; exact .inr (Nat.le_refl _)
      have HRET : Hid (∀ w5, ScAt w5 (fun b => Z b ∨ w.heap.size ≤ b) p.sb (m + 1) (upd st x (some ⟨wt, u, false, 0⟩)) ∧ Only Z w w5 → ScAddQ E Z p.sb m st x wt w (.returned .nilIface) w5) := Lib.hid fun w5 h => ⟨0, _, rfl, .inr (.inr ⟨HBAD.out, HG.out, rfl, u, HMIN.out, rfl⟩), h.1, h.2⟩
      have e0 : wr.cell? ⟨p.sb, 0, none⟩ = some (.map (some p.mb)) := blk_cell HW.out.1.row 0
      have el := blk_lt HW.out.1.row
      clear hdone ho' hok q2
      go_wp2_with (at_mapUpdate; refine wp_update_mp _ rfl _ _ _ rfl p.mb m (by unfold maxLen; have := HM.out; omega) F rfl HR.out.map x rfl HX.out w.heap.size rfl ?_)
      intro w4 h4 ho4
      obtain ⟨⟨e1, el2⟩, hpu⟩ := HFIN.out w4 h4 ho4
      have HPU := Lib.hid hpu
      clear h4 ho4 hpu e0 el
      go_wp2_with fail
      refine HPU.out.mono ?_
      rintro y w5 ⟨rfl, hf⟩
      have HF := Lib.hid (HRET.out w5 hf)
      clear hf
      go_wp2_with fail
      go_ret
      exact HF.out
    · intro z bz w3 cnt3 hz hlz hFz hr3 hlt3 ho3 hs3 hen
      obtain ⟨oz, hoz, hzid, hzb⟩ := HP.out.f2 z bz hz hFz
      subst hzid
      subst hzb
      obtain ⟨i, hbl, -⟩ := HMM.out.one hoz
      have hlz2 := blk_lt hbl
      have hbw : wr.heap[oz.blk]? = some (.cells (onCells oz (i : Int)) 109 (0, 0)) := blk_below hbl HW.out.2.1 hlz2
      have hb3 := ho3.blk hbw (fun e => by have := HSZ1.out; omega)
      have hk3 := ho3.blk HK.out (fun e => by have := HSZ1.out; omega)
      have x2 : w3.cell? ⟨oz.blk, 2, none⟩ = some (.int .i64 oz.us) := blk_cell hb3 2
      have y2 : w3.cell? ⟨w.heap.size, 2, none⟩ = some (.int .i64 u) := blk_cell hk3 2
      have yf := blk_free hk3 2
      have lx := blk_lt hb3
      have ly := blk_lt hk3
      have HK3 := Lib.hid hk3
      have HR3 := Lib.hid hr3
      have HO3 := Lib.hid (HO.out.trans (ho3.mono fun k hk => .inl (.inr hk)))
      have HOK := Lib.hid (HP.out.ids oz hoz).2.2.1
      have HOZ := Lib.hid hoz
      have HLT := Lib.hid hlt3
      have HLZ := Lib.hid hlz
      have HKZ := Lib.hid hz
      have HNEB : Hid (oz.blk ≠ w.heap.size) := Lib.hid (by omega)
      have HNR : Hid (w.heap.size ≠ p.mb ∧ w.heap.size ≠ w1.heap.size) := Lib.hid ⟨by have := HMM.out.lt.2 _ (.inl rfl); omega, by have := HSZ1.out; omega⟩
      have HREL : Hid (∀ w4 (v : Int), (Only (fun k => k = w.heap.size) w3 w4) → w4.heap[w.heap.size]? = some (.cells (onCells ⟨x, wt, v, false, 0, w.heap.size⟩ 0) 109 (0, 0)) → (v = oz.us ∧ (b = false → oz.us < u)) ∨ (v = u ∧ b = false ∧ u ≤ oz.us) → AddTo F R A p.mb w1.heap.size m w.heap.size x wt w2 (.bool false) w4 ∧ w4.rangeLeft p.mb w1.heap.size < cnt2) := Lib.hid fun w4 v ho4 hk4 hv => by
        have hr4 := HR3.out.keep ho4 (fun e => HNR.out.1 e.symm) (fun e => HNR.out.2 e.symm)
        refine ⟨⟨_, cnt3, v, false, rfl, hr4, hk4, HO3.out.trans (ho4.mono fun k hk => .inl (.inl hk)), ?_, .inr ⟨rfl, ?_, fun o ho hl => ?_⟩, fun y hy hl => ?_⟩, by rw [hr4.cnt_eq]; exact HLT.out⟩
        · rcases hv with ⟨e, -⟩ | ⟨e, -, -⟩
          · rw [e]; exact HOK.out
          · rw [e]; exact HU.out
        · rcases hv with ⟨e, -⟩ | ⟨e, eb, -⟩
          · exact ⟨oz, HOZ.out, e.symm⟩
          · rcases HC.out with ⟨h1, -, -⟩ | ⟨-, ⟨o, ho, h2⟩, -⟩
            · rw [eb] at h1; cases h1
            · exact ⟨o, ho, by rw [e]; exact h2⟩
        · have hmem : o = oz ∨ left o.id = false := by
            by_cases e : o.id = oz.id
            · exact .inl (sc_inj HMM.out HP.out ho HOZ.out e)
            · right
              cases hh : left o.id with
              | false => rfl
              | true =>
                rw [hh] at hl
                have : (o.id == oz.id) = false := by rw [beq_eq_false_iff_ne]; exact e
                rw [this] at hl
                cases hl
          rcases hmem with e | e
          · subst e
            rcases hv with ⟨e2, -⟩ | ⟨e2, -, h3⟩
            · rw [e2]; exact Int.le_refl _
            · rw [e2]; exact h3
          · have hold : b = false ∧ u ≤ o.us := by
              rcases HC.out with ⟨-, -, h3⟩ | ⟨h1, -, h3⟩
              · have hko : kw o.id := kw_of (by have := (HP.out.ids o ho).1; omega)
                rw [h3 _ hko, HP.out.f1 o ho] at e
                cases e
              · exact ⟨h1, h3 o ho e⟩
            rcases hv with ⟨e2, h3⟩ | ⟨e2, -, -⟩
            · rw [e2]
              have := h3 hold.1
              have := hold.2
              omega
            · rw [e2]; exact hold.2
        · refine HL.out y hy ?_
          cases hh : left y with
          | true => rfl
          | false => rw [hh] at hl; cases hl
      have HSELF : Hid (b = false → u ≤ oz.us → AddTo F R A p.mb w1.heap.size m w.heap.size x wt w2 (.bool false) w3 ∧ w3.rangeLeft p.mb w1.heap.size < cnt2) := Lib.hid fun h1 h2 => HREL.out w3 u (Only.refl _ _) HK3.out (.inr ⟨rfl, h1, h2⟩)
      have HPUT : Hid (∀ k, (b = false → oz.us < u) → AddTo F R A p.mb w1.heap.size m w.heap.size x wt w2 (.bool false) ((w3.drewN k).setCell ⟨w.heap.size, 2, none⟩ (.int .i64 oz.us)) ∧ ((w3.drewN k).setCell ⟨w.heap.size, 2, none⟩ (.int .i64 oz.us)).rangeLeft p.mb w1.heap.size < cnt2) := Lib.hid fun k h1 => by
        have hbd : Below w3.heap.size w3 (w3.drewN k) := below_drewN (Below.refl _ _) _
        have hkd := blk_below HK3.out hbd (blk_lt HK3.out)
        exact HREL.out _ oz.us ((Only.of_below (F := fun k => k = w.heap.size) hbd).setCell (p := ⟨w.heap.size, 2, none⟩) (.inl rfl) _) (blk_put hkd 2 _) (.inl ⟨rfl, h1⟩)
      have HSELFD : Hid (∀ k, b = false → u ≤ oz.us → AddTo F R A p.mb w1.heap.size m w.heap.size x wt w2 (.bool false) (w3.drewN k) ∧ (w3.drewN k).rangeLeft p.mb w1.heap.size < cnt2) := Lib.hid fun k h1 h2 => by
        have hbd : Below w3.heap.size w3 (w3.drewN k) := below_drewN (Below.refl _ _) _
        exact HREL.out _ u (Only.of_below hbd) (blk_below HK3.out hbd (blk_lt HK3.out)) (.inr ⟨rfl, h1, h2⟩)
      obtain ⟨zi, hzi⟩ : ∃ q, oz.id = q := ⟨_, rfl⟩
      obtain ⟨zb, hzb2⟩ : ∃ q, oz.blk = q := ⟨_, rfl⟩
      obtain ⟨zu, hzu⟩ : ∃ q, oz.us = q := ⟨_, rfl⟩
      rw [hzi, hzb2] at hen
      rw [hzb2] at x2 lx
      rw [hzu] at x2 HSELF HPUT HSELFD
      rw [hzi, hzb2]
      clear hz hlz hFz hr3 hlt3 ho3 hs3 hoz hbl hlz2 hbw hb3 hk3 q2 hzi hzb2 hzu
      cases b with
      | true =>
        have HP2 := Lib.hid (fun k => HPUT.out k (fun h => by cases h))
        clear HPUT HSELF HSELFD
        go_wp2_with fail
        go_quiet (fail)
        go_wp2_with fail
        go_roundw
        case rel => exact (HP2.out _).1
        case measure => rw [HCNT.out]; exact (HP2.out _).2
      | false =>
        by_cases hlu : zu < u
        · have HP2 := Lib.hid (fun k => HPUT.out k (fun _ => hlu))
          have hld : decide (zu < u) = true := decide_eq_true hlu
          clear HPUT HSELF HSELFD
          go_wp2_with fail
          go_quiet (fail)
          go_wp2_with fail
          go_roundw
          case rel => exact (HP2.out _).1
          case measure => rw [HCNT.out]; exact (HP2.out _).2
        · have HP2 := Lib.hid (fun k => HSELFD.out k rfl (by omega))
          have hld : decide (zu < u) = false := decide_eq_false hlu
          clear HPUT HSELF HSELFD
          go_wp2_with fail
          go_quiet (fail)
          go_wp2_with fail
          go_roundw
          case rel => exact (HP2.out _).1
          case measure => rw [HCNT.out]; exact (HP2.out _).2
theorem sadd_any (E : Nat → Addr) (w : World) (Z : Nat → Prop) (sb m : Nat) (st : Int → Option Gu) (h : ScAt w Z sb m st) (hE : ScErr E w) (x wt : Int) (hm : m < 100) :
    Calls Tryd.prog 15 #[.pointer (some ⟨sb, 0, none⟩), .int .i64 x, .int .i64 wt] w (ScAddQ E Z sb m st x wt w) := by
  by_cases hb : addBad x wt
  · exact sadd_bad E w Z sb m st h hE x wt hm hb
  · have hx : kw x := kw_of (by unfold addBad at hb; omega)
    cases hg : st x with
    | some g => exact sadd_twice E w Z sb m st h hE x wt hm hb hx g hg
    | none =>
      obtain ⟨p, F, R, A, rfl, hmm, hp, hs, hZ⟩ := h
      exact sadd_ok E w Z p m F R A st hmm hp hs hZ x wt hm hb hx hg
end Go.Proofs.YtnhocmmgdkiepaaDoor

/-
  facadeworld.Number: any number as one from 0 to below a bound.
-/
namespace Go.Proofs.YtnhocmmgdkiepaaDoor
open Go.RowKit

set_option maxHeartbeats 400000 in
theorem number_any (n m : Int) (w : World) (h1 : -9223372036854775808 ≤ n) (h2 : n ≤ 9223372036854775807) (hm : 0 < m) (hm2 : m ≤ 1000000000) :
    Calls Tryd.prog 13 #[.int .i64 n, .int .i64 m] w fun e w' => e = .returned (.int .i64 (n % m)) ∧ w = w' := by
  by_cases hn : 0 ≤ n
  · have h3 := Int.emod_nonneg n (show m ≠ 0 by omega)
    have h4 : ¬ n % m < 0 := by omega
    go_enter Tryd.func13, Tryd.ntmps13
    go_wp2
    go_ret
    exact ⟨rfl, rfl⟩
  · obtain ⟨h3, h4, h5, h6⟩ := emod_of_tmod (show n < 0 by omega) hm
    obtain ⟨t, ht⟩ : ∃ t, n.tmod m = t := ⟨_, rfl⟩
    rw [ht] at h3 h4 h5 h6
    have H3 := Lib.hid h3
    have H4 := Lib.hid h4
    have hw := IntWalk.i64_in (t + m) (by omega)
    clear h3 h4
    by_cases hlt : t < 0
    · go_enter Tryd.func13, Tryd.ntmps13
      go_wp2
      go_ret
      exact ⟨by rw [← H3.out hlt]; rfl, rfl⟩
    · go_enter Tryd.func13, Tryd.ntmps13
      go_wp2
      go_ret
      exact ⟨by rw [← H4.out hlt]; rfl, rfl⟩
end Go.Proofs.YtnhocmmgdkiepaaDoor

/-
  One scheduler, step by step; the chapter's examples.
-/
namespace Go.Proofs.YtnhocmmgdkiepaaDoor
open Go.RowKit

structure ScL (w wr : World) (sb m : Nat) (st : Int → Option Gu) : Prop where
  sc : ScAt wr (fun b => w.heap.size ≤ b) sb m st
  b : Below w.heap.size w wr
theorem ScL.below {w wr w' : World} {sb m : Nat} {st : Int → Option Gu} (h : ScL w wr sb m st) (hb : Below wr.heap.size wr w') : ScL w w' sb m st := ⟨h.sc.below hb, h.b.trans (hb.mono h.b.size)⟩
theorem ScL.step {w wr w' : World} {sb m m' : Nat} {st st' : Int → Option Gu} (h : ScL w wr sb m st) (h1 : ScAt w' (fun b => w.heap.size ≤ b ∨ wr.heap.size ≤ b) sb m' st') (ho : Only (fun b => w.heap.size ≤ b) wr w') : ScL w w' sb m' st' :=
  ⟨h1.mono fun b _ hb => by
    rcases hb with hb | hb
    · exact hb
    · exact Nat.le_trans h.b.size hb, h.b.trans (ho.below (B := w.heap.size) h.b.size fun _ h => h)⟩
theorem scErr_of {E : Nat → Addr} {w : World} {l : List Nat} (h : ErrsAt errT gOf w E l) (h2 : 2 ∈ l) (h5 : 5 ∈ l) (h6 : 6 ∈ l) : ScErr E w := by
  have a := (h.1 2 h2).1
  have b := (h.1 5 h5).1
  have c := (h.1 6 h6).1
  exact ⟨⟨a, World.block_lt_of_cell? _ _ a⟩, ⟨b, World.block_lt_of_cell? _ _ b⟩, c, World.block_lt_of_cell? _ _ c⟩
theorem errD_num (E : Nat → Addr) (c : Int) (h : c = 0 ∨ (101 ≤ c ∧ c ≤ 116)) : errNum (errD E c) E c := by
  unfold errD errNum
  by_cases h0 : c = 0
  · rw [if_pos h0]
    exact .inl ⟨rfl, h0⟩
  · rw [if_neg h0]
    exact .inr ⟨(c - 101).toNat, by omega, rfl, by omega⟩
def ErrL (E : Nat → Addr) (w : World) : Prop := ∀ wx, Below w.heap.size w wx → ScErr E wx
theorem addR_ok {st st' : Int → Option Gu} {x wt c : Int} (h : AddR st x wt c st') (hb : ¬ addBad x wt) (hn : st x = none) : c = 0 ∧ ∃ u, MinU st u ∧ st' = upd st x (some ⟨wt, u, false, 0⟩) := by
  rcases h with ⟨h1, -⟩ | ⟨-, h1, -⟩ | ⟨-, -, h1, h2⟩
  · exact absurd h1 hb
  · rw [hn] at h1; cases h1
  · exact ⟨h1, h2⟩
theorem slNew (w wr : World) (hb : Below w.heap.size w wr) : Calls Tryd.prog 14 #[] wr fun e w' => ∃ sb, e = .returned (.pointer (some ⟨sb, 0, none⟩)) ∧ ScL w w' sb 0 noOne :=
  (snew_any wr).mono fun e w' ⟨sb, h1, h2, _, h4⟩ => ⟨sb, h1, h2.mono fun b _ hb2 => Nat.le_trans hb.size hb2, hb.trans (h4.mono hb.size)⟩
theorem slAdd {E : Nat → Addr} {w wr : World} {sb m : Nat} {st : Int → Option Gu} (hE : ErrL E w) (h : ScL w wr sb m st) (hm : m < 100) (x wt : Int) (hb : ¬ addBad x wt) (hn : st x = none) :
    Calls Tryd.prog 15 #[.pointer (some ⟨sb, 0, none⟩), .int .i64 x, .int .i64 wt] wr fun e w' => e = .returned .nilIface ∧ ∃ u, MinU st u ∧ ScL w w' sb (m + 1) (upd st x (some ⟨wt, u, false, 0⟩)) :=
  (sadd_any E wr _ sb m st h.sc (hE _ h.b) x wt hm).mono fun e w' ⟨c, st', h1, h2, h3, h4⟩ => by
    obtain ⟨rfl, u, hu, rfl⟩ := addR_ok h2 hb hn
    exact ⟨h1, u, hu, h.step h3 h4⟩
theorem slAddErr {E : Nat → Addr} {w wr : World} {sb m : Nat} {st : Int → Option Gu} (hE : ErrL E w) (h : ScL w wr sb m st) (hm : m < 100) (x wt : Int) (c : Int) (hc : (addBad x wt ∧ c = 103) ∨ (¬ addBad x wt ∧ (st x).isSome = true ∧ c = 106)) :
    Calls Tryd.prog 15 #[.pointer (some ⟨sb, 0, none⟩), .int .i64 x, .int .i64 wt] wr fun e w' => e = .returned (errD E c) ∧ ScL w w' sb (m + 1) st :=
  (sadd_any E wr _ sb m st h.sc (hE _ h.b) x wt hm).mono fun e w' ⟨c', st', h1, h2, h3, h4⟩ => by
    have : c' = c ∧ st' = st := by
      rcases hc with ⟨a, b⟩ | ⟨a, b, d⟩
      · rcases h2 with ⟨_, e1, e2⟩ | ⟨e0, -⟩ | ⟨e0, -⟩
        · exact ⟨e1.trans b.symm, e2⟩
        · exact absurd a e0
        · exact absurd a e0
      · rcases h2 with ⟨e0, -⟩ | ⟨_, _, e1, e2⟩ | ⟨_, e0, -⟩
        · exact absurd e0 a
        · exact ⟨e1.trans d.symm, e2⟩
        · rw [e0] at b; cases b
    obtain ⟨rfl, rfl⟩ := this
    exact ⟨h1, h.step h3 h4⟩
theorem slRan {E : Nat → Addr} {w wr : World} {sb m : Nat} {st : Int → Option Gu} (hE : ErrL E w) (h : ScL w wr sb m st) (x n : Int) (hx : kw x) (g : Gu) (hg : st x = some g) (hn : 0 ≤ n ∧ n ≤ 1073741824) :
    Calls Tryd.prog 16 #[.pointer (some ⟨sb, 0, none⟩), .int .i64 x, .int .i64 n] wr fun e w' => e = .returned .nilIface ∧ ScL w w' sb m (upd st x (some ⟨g.wt, ranU g.us n g.wt, g.sl, g.un⟩)) :=
  (sran_any E wr _ sb m st h.sc (hE _ h.b) x n hx).mono fun e w' ⟨h1, h3, h4⟩ => by
    have hr : scRan st x n = (upd st x (some ⟨g.wt, ranU g.us n g.wt, g.sl, g.un⟩), 0) := by unfold scRan; rw [hg]; dsimp only; rw [if_neg (by omega)]
    rw [hr] at h1 h3
    exact ⟨h1, h.step h3 h4⟩
theorem slRanErr {E : Nat → Addr} {w wr : World} {sb m : Nat} {st : Int → Option Gu} (hE : ErrL E w) (h : ScL w wr sb m st) (x n : Int) (hx : kw x) (c : Int) (hc : scRan st x n = (st, c)) :
    Calls Tryd.prog 16 #[.pointer (some ⟨sb, 0, none⟩), .int .i64 x, .int .i64 n] wr fun e w' => e = .returned (errD E c) ∧ ScL w w' sb m st :=
  (sran_any E wr _ sb m st h.sc (hE _ h.b) x n hx).mono fun e w' ⟨h1, h3, h4⟩ => by
    rw [hc] at h1 h3
    exact ⟨h1, h.step h3 h4⟩
theorem slDel {E : Nat → Addr} {w wr : World} {sb m : Nat} {st : Int → Option Gu} (hE : ErrL E w) (h : ScL w wr sb m st) (x : Int) (hx : kw x) (g : Gu) (hg : st x = some g) :
    Calls Tryd.prog 18 #[.pointer (some ⟨sb, 0, none⟩), .int .i64 x] wr fun e w' => e = .returned .nilIface ∧ ScL w w' sb m (upd st x none) :=
  (sdel_any E wr _ sb m st h.sc (hE _ h.b) x hx).mono fun e w' ⟨h1, h3, h4⟩ => by
    have hr : scDel st x = (upd st x none, 0) := by unfold scDel; rw [hg]
    rw [hr] at h1 h3
    exact ⟨h1, h.step h3 h4⟩
theorem slSleep {E : Nat → Addr} {w wr : World} {sb m : Nat} {st : Int → Option Gu} (hE : ErrL E w) (h : ScL w wr sb m st) (x n : Int) (hx : kw x) (hn : kw n) (g : Gu) (hg : st x = some g) :
    Calls Tryd.prog 20 #[.pointer (some ⟨sb, 0, none⟩), .int .i64 x, .int .i64 n] wr fun e w' => e = .returned .nilIface ∧ ScL w w' sb m (upd st x (some ⟨g.wt, g.us, true, n⟩)) :=
  (ssleep_any E wr _ sb m st h.sc (hE _ h.b) x n hx hn).mono fun e w' ⟨h1, h3, h4⟩ => by
    have hr : scSleep st x n = (upd st x (some ⟨g.wt, g.us, true, n⟩), 0) := by unfold scSleep; rw [hg]
    rw [hr] at h1 h3
    exact ⟨h1, h.step h3 h4⟩
theorem minU_no {u : Int} (h : MinU noOne u) : u = 0 := by
  rcases h with ⟨-, h⟩ | ⟨⟨x, g, -, h, -⟩, -⟩
  · exact h
  · cases h
theorem upd_same (st : Int → Option Gu) (x : Int) (g : Option Gu) : upd st x g x = g := if_pos rfl
theorem upd_else (st : Int → Option Gu) (x y : Int) (g : Option Gu) (h : y ≠ x) : upd st x g y = st y := if_neg h
theorem kw_lit (x : Int) (h : -1000 ≤ x ∧ x ≤ 1000) : kw x := kw_of (by omega)
theorem pick_no {v : Value} (h : PickQ noOne v) : v = .tuple #[.int .i64 0, .bool false] := by
  rcases h with ⟨-, h⟩ | ⟨x, g, h, -⟩
  · exact h
  · cases h
theorem pick_one {v : Value} {x : Int} {g : Gu} (hg : g.sl = false) (h : PickQ (upd noOne x (some g)) v) : v = .tuple #[.int .i64 x, .bool true] := by
  rcases h with ⟨h, -⟩ | ⟨y, g', h, -, -, hv⟩
  · have := h x g (upd_same _ _ _)
    rw [hg] at this; cases this
  · by_cases e : y = x
    · rw [hv, e]
    · rw [upd_else _ _ _ _ e] at h; cases h
set_option maxRecDepth 100000 in
set_option maxHeartbeats 3200000 in
theorem scfirst_true (E : Nat → Addr) (w : World) (hE : ErrL E w) :
    Calls Tryd.prog 12 #[] w fun e w' => e = .returned (.bool true) ∧ Below w.heap.size w w' := by
  have HE := Lib.hid hE
  have HN := Lib.hid (slNew w w (Below.refl _ _))
  clear hE
  go_enter Tryd.func12, Tryd.ntmps12
  go_wp2_with fail
  refine HN.out.mono ?_
  rintro y w1 ⟨sb, rfl, h1⟩
  have H1 := Lib.hid h1
  have HP1 := Lib.hid (spick_any w1 _ sb 0 noOne h1.sc)
  clear h1
  go_wp2_with fail
  refine HP1.out.mono ?_
  rintro y w2 ⟨⟨v, rfl, hv⟩, rfl⟩
  obtain rfl := pick_no hv
  have HA := Lib.hid (slAdd HE.out H1.out (by decide) 3 10 (by unfold addBad; omega) rfl)
  clear hv
  go_wp2_with fail
  refine HA.out.mono ?_
  rintro y w2 ⟨rfl, u, hu, h2⟩
  obtain rfl := minU_no hu
  have H2 := Lib.hid h2
  have HP2 := Lib.hid (spick_any w2 _ sb _ _ h2.sc)
  clear hu h2
  go_wp2_with fail
  refine HP2.out.mono ?_
  rintro y w3 ⟨⟨v, rfl, hv⟩, rfl⟩
  obtain rfl := pick_one rfl hv
  clear hv
  go_wp2
  go_ret
  exact ⟨rfl, H2.out.b⟩
end Go.Proofs.YtnhocmmgdkiepaaDoor

