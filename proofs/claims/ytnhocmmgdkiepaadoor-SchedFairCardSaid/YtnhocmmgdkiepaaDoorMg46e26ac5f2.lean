/-
  Parts of one proof, one behind the other.
-/
import Derived.Test.YtnhocmmgdkiepaaDoorMgeb868af338
import Derived.Test.YtnhocmmgdkiepaaDoorRows
import Derived.Test.YtnhocmmgdkiepaaDoorMg891e6fd1b3
import Derived.BigQuiet
/-
  sched.Sched: Wake.
-/
namespace Go.Proofs.YtnhocmmgdkiepaaDoor
open Go.RowKit Go.Maps

/-- who is woken, in which order; what is said of each then -/
inductive Woke : (Int → Option Gu) → Int → List Int → (Int → Option Gu) → Prop
  | done (st : Int → Option Gu) (now : Int) (h : ∀ y g', st y = some g' → g'.sl = true → now < g'.un) : Woke st now [] st
  | step (st st' : Int → Option Gu) (now x : Int) (g : Gu) (l : List Int) (hg : st x = some g) (hs : g.sl = true) (hu : g.un ≤ now) (hf : ∀ y g', st y = some g' → g'.sl = true → g.un < g'.un ∨ (g.un = g'.un ∧ x ≤ y)) (h : Woke (upd st x (some ⟨g.wt, g.us, false, 0⟩)) now l st') : Woke st now (x :: l) st'
theorem out_A' {w w2 : World} {p : Sl} {m : Nat} {F : Int → Option Nat} {R A : List On} (h : ScMem w p m F R A) (hp : ScP m F R A) {i : Nat} (hi : i < A.length) {e : Ending} (hq : RemQ p.ab p.av A i w e w2) : ∃ p2 R2 A2, OutOk w p m F R A (og A i) w2 p2 R2 A2 ∧ A2.length + 1 = A.length := by
  obtain ⟨-, v', h2, hv, hb, ho⟩ := hq
  obtain ⟨f1, f2, f3⟩ := rem_lists true A i hi hp.sa hp.ha
  have hL := inL_rem A i hi h.sd.nd
  have hon : ∀ j q, j < ((hRem A i).take (A.length - 1)).length → q < R.length → (og ((hRem A i).take (A.length - 1)) j).blk ≠ (og R q).blk := fun j q hj hq => by
    obtain ⟨⟨c, hc, e⟩, -⟩ := (hL _).1 ⟨j, hj, rfl⟩
    rw [← e]
    exact (h.ones q c hq hc).symm
  have hm2 := h.opA (X := fun _ => False) h2 (ho.mono fun b e => .inl (by
    rcases e with e | e
    · exact .inl e
    · exact .inr (.inl e))) (fun b e => e.elim) (fun b hb => .inl (hv b hb)) hon
  have hin : ∀ z, InS R ((hRem A i).take (A.length - 1)) z ↔ (InS R A z ∧ z.id ≠ (og A i).id) := fun z => by
    constructor
    · rintro (h1 | h1)
      · refine ⟨.inl h1, fun e => ?_⟩
        have := sc_inj h hp (.inl h1) (.a hi) e
        subst this
        obtain ⟨j, hj, e2⟩ := h1
        exact h.ones j i hj hi (by rw [e2])
      · obtain ⟨h3, h4⟩ := (hL z).1 h1
        exact ⟨.inr h3, fun e => h4 (sc_inj h hp (.inr h3) (.a hi) e)⟩
    · rintro ⟨h1 | h1, h2⟩
      · exact .inl h1
      · exact .inr ((hL z).2 ⟨h1, fun e => h2 (by rw [e])⟩)
  refine ⟨_, _, _, ⟨hm2, rfl, rfl, rfl, rfl, ⟨hp.sr, f1, hp.hr, f2⟩, hin, ⟨_, hb⟩, fun z hz e => ?_, by rw [f3]; omega, fun b hb => ?_, ho.mono fun b hb => .inl (by
    rcases hb with hb | hb
    · rw [hb]; exact .inr (.inr (.inl rfl))
    · exact .inr (.inr (.inr (.inr hb))))⟩, by rw [f3]; omega⟩
  · obtain ⟨h3, h4⟩ := (hin z).1 hz
    have e1 := hp.f1 z h3
    have hz2 : InS R A (og A i) := InS.a hi
    rcases h3 with ⟨c, hc, rfl⟩ | ⟨c, hc, rfl⟩
    · exact h.ones c i hc hi e
    · exact h4 (by rw [h.sd.nd c i hc hi e])
  · rcases hb with hb | hb | hb | hb | hb
    · exact .inl hb
    · exact .inr (.inl hb)
    · exact .inr (.inr (.inl hb))
    · exact .inr (.inr (.inr (.inl hb)))
    · rcases hb with hb | ⟨j, hj, rfl⟩
      · exact .inr (.inr (.inr (.inr (.inl (hv b hb)))))
      · obtain ⟨⟨c, hc, e⟩, -⟩ := (hL _).1 ⟨j, hj, rfl⟩
        rw [← e]
        exact .inr (.inr (.inr (.inr (.inr ⟨c, hc, rfl⟩))))
theorem in_R' {w w2 : World} {p : Sl} {m : Nat} {F : Int → Option Nat} {R A : List On} (h : ScMem w p m F R A) (hl : Lists R A) {o : On} (hsl : o.sl = false) {p0 : Int} (hb0 : w.heap[o.blk]? = some (.cells (onCells o p0) 109 (0, 0))) (nb : ∀ z, InS R A z → z.blk ≠ o.blk) {v' : Value} (h2 : HpAt w2 p.rb v' (hPush R o)) (ho : Only (fun b => b = p.rb ∨ hz p.rv R b ∨ b = o.blk) w w2) (hv : ∀ b, inRow v' b → inRow p.rv b ∨ w.heap.size ≤ b) : ∃ p2 R2, InOk w p m F R A o w2 p2 R2 A ∧ InL R2 o := by
  have hsm := hPush_same R o
  have hL : ∀ z, InL (hPush R o) z ↔ (z = o ∨ InL R z) := fun z => (hsm.inL z).trans (inL_app R o z)
  have hlen : (hPush R o).length = R.length + 1 := by rw [hsm.len]; simp
  have hm2 := h.opR (X := fun b => b = o.blk) h2 ho (fun b e => by
    rw [show b = o.blk from e]
    exact ⟨⟨_, hb0⟩, fun j hj => nb _ (.a hj)⟩) hv (fun j q hj hq => by
    rcases (hL _).1 ⟨j, hj, rfl⟩ with e | ⟨c, hc, e⟩
    · rw [e]; exact fun e2 => nb _ (InS.a (i := q) hq) e2.symm
    · rw [← e]; exact h.ones c q hc hq)
  refine ⟨_, _, ⟨hm2, rfl, rfl, rfl, rfl, ⟨hsm.sl (fun j hj => by
    rcases (inL_app R o _).1 ⟨j, hj, rfl⟩ with e | ⟨c, hc, e⟩
    · rw [e]; exact hsl
    · rw [← e]; exact hl.sr c hc), hl.sa, by rw [hlen]; exact hPush_heap false R o hl.sr hsl hl.hr, hl.ha⟩, fun z => ?_, by rw [hlen]; omega, fun b hb => ?_, ho.mono fun b hb => .inl (by
    rcases hb with hb | hb | hb
    · rw [hb]; exact .inl (.inr (.inl rfl))
    · exact .inl (.inr (.inr (.inr (.inl hb))))
    · exact .inr hb)⟩, (hL o).2 (.inl rfl)⟩
  · show InS (hPush R o) A z ↔ _
    constructor
    · rintro (h1 | h1)
      · rcases (hL z).1 h1 with e | h3
        · exact .inl e
        · exact .inr (.inl h3)
      · exact .inr (.inr h1)
    · rintro (e | h1 | h1)
      · exact .inl ((hL z).2 (.inl e))
      · exact .inl ((hL z).2 (.inr h1))
      · exact .inr h1
  · have hzp : ∀ b, hz v' (hPush R o) b → scz p R A b ∨ b = o.blk ∨ w.heap.size ≤ b := fun b hb => by
      rcases hb with hb | ⟨j, hj, rfl⟩
      · rcases hv b hb with h3 | h3
        · exact .inl (.inr (.inr (.inr (.inl (.inl h3)))))
        · exact .inr (.inr h3)
      · rcases (hL _).1 ⟨j, hj, rfl⟩ with e | ⟨c, hc, e⟩
        · rw [e]; exact .inr (.inl rfl)
        · rw [← e]; exact .inl (.inr (.inr (.inr (.inl (.inr ⟨c, hc, rfl⟩)))))
    rcases hb with hb | hb | hb | hb | hb
    · exact .inl (.inl hb)
    · exact .inl (.inr (.inl hb))
    · exact .inl (.inr (.inr (.inl hb)))
    · exact hzp b hb
    · exact .inl (.inr (.inr (.inr (.inr hb))))
theorem wake_push {w w2 w3 : World} {p p2 : Sl} {m : Nat} {F : Int → Option Nat} {R A R2 A2 : List On} {st : Int → Option Gu} {o o' : On} (hm : ScMem w p m F R A) (hp : ScP m F R A) (hs : ScS R A st) (ho : InS R A o) (h : OutOk w p m F R A o w2 p2 R2 A2) (ho' : o' = ⟨o.id, o.wt, o.us, false, 0, o.blk⟩) (ho3 : Only (fun b => b = o.blk) w2 w3) (pl : Int) (hb3 : w3.heap[o.blk]? = some (.cells (onCells o' pl) 109 (0, 0))) :
    Calls Tryd.prog 56 #[.iface 101 (.pointer (some ⟨p.rb, 0, none⟩)), .iface 107 (.pointer (some ⟨o.blk, 0, none⟩))] w3 fun e w4 => e = .returned (.tuple #[]) ∧ ∃ p5 R5, p5.sb = p.sb ∧ p5.rb = p.rb ∧ p5.ab = p.ab ∧ ScMem w4 p5 m F R5 A2 ∧ ScP m F R5 A2 ∧ ScS R5 A2 (upd st o.id (some ⟨o.wt, o.us, false, 0⟩)) ∧ (∀ b, scz p5 R5 A2 b → scz p R A b ∨ w.heap.size ≤ b) ∧ Only (scz p R A) w w4 ∧ InL R5 o' := by
  have hrow := h.mem.row
  rw [h.sb, h.mb, h.rb, h.ab] at hrow
  obtain ⟨pl0, hb0⟩ := h.blk
  have hne : o.blk ≠ p.sb := cells_ne hb0 hrow (by decide)
  have nz : ∀ b, scz p2 R2 A2 b → b ≠ o.blk := fun b hb e => by
    subst e
    rcases hb with hb | hb | hb | hb | hb
    · obtain ⟨es, c, hh⟩ := h.mem.map.ty
      exact map_ne hh hb0 hb.symm
    · exact cells_ne hb0 h.mem.rd.hdr (by decide) hb
    · exact cells_ne hb0 h.mem.sd.hdr (by decide) hb
    · rcases hb with hb | ⟨j, hj, e⟩
      · exact one_row h.mem.rd hb hb0
      · exact h.nb _ (.r hj) e.symm
    · rcases hb with hb | ⟨j, hj, e⟩
      · exact one_row h.mem.sd hb hb0
      · exact h.nb _ (.a hj) e.symm
  have hm3 : ScMem w3 p2 m F R2 A2 := h.mem.keep ho3 (by rw [h.sb]; exact fun e => hne e.symm) nz
  have hbk : o'.blk = o.blk := by rw [ho']
  have hlen := h.len
  have hc := hp.cnt
  have hc2 := hp.m100
  have hpu := hpush_any p2.rb p2.rv R2 o' pl w3 hm3.rd (by rw [hbk]; exact hb3) (fun j hj => by rw [hbk]; exact h.nb _ (.r hj)) (by omega)
  rw [hbk, h.rb] at hpu
  refine hpu.mono ?_
  rintro e w4 ⟨rfl, v', h4, ho4, hv4⟩
  rw [← h.rb] at h4 ho4
  obtain ⟨p5, R5, h5, hr5⟩ := in_R' hm3 h.ls (o := o') (by rw [ho']) (by rw [hbk]; exact hb3) (fun z hz => by rw [hbk]; exact h.nb z hz) h4 (by rw [hbk]; exact ho4) hv4
  have hon := (hp.ids o ho)
  have hins : ∀ z, InS R5 A2 z ↔ (z = o' ∨ (InS R A z ∧ z.id ≠ o.id)) := fun z => by
    rw [h5.ins, h.ins]
  obtain ⟨q1, q2⟩ := scP_upd hp hs (fun a b ha hb e => sc_inj hm hp ha hb e) ho (o' := o') (by rw [ho']) hbk (by rw [ho']; exact ⟨hon.1, hon.2.1, hon.2.2.1, by show (-9223372036854775808 : Int) ≤ 0; decide, by show (0 : Int) ≤ 9223372036854775807; decide⟩) hins h5.ls (by have := h5.len; omega)
  rw [show o'.gu = ⟨o.wt, o.us, false, 0⟩ by rw [ho']; rfl] at q2
  have hzo : scz p R A o.blk := by
    rcases ho with ⟨j, hj, e⟩ | ⟨j, hj, e⟩
    · exact .inr (.inr (.inr (.inl (.inr ⟨j, hj, by rw [e]⟩))))
    · exact .inr (.inr (.inr (.inr (.inr ⟨j, hj, by rw [e]⟩))))
  have hsz : w.heap.size ≤ w3.heap.size := Nat.le_trans h.only.size ho3.size
  refine ⟨rfl, p5, R5, h5.sb.trans h.sb, h5.rb.trans h.rb, h5.ab.trans h.ab, h5.mem, q1, q2, fun b hb => ?_, (h.only.trans (ho3.mono fun b hb => .inl (by rw [hb]; exact hzo))).trans (h5.only.mono fun b hb => .inl (by
    rcases hb with hb | hb
    · exact h.zn b hb
    · rw [hb, hbk]; exact hzo)), hr5⟩
  rcases h5.zn b hb with h6 | h6 | h6
  · exact .inl (h.zn b h6)
  · rw [h6, hbk]; exact .inl hzo
  · exact .inr (Nat.le_trans hsz h6)
/-- how many sleep, read off the world -/
def wkLeft (sb : Nat) (w : World) : Nat := match w.heap[sb]? with
  | some (.cells cs _ _) => (match cs[2]? with
    | some (Value.pointer (some a)) => (match w.heap[a.block]? with
      | some (.cells ds _ _) => (match ds[0]? with
        | some (Value.slice _ n _) => n
        | _ => 0)
      | _ => 0)
    | _ => 0)
  | _ => 0
theorem wkLeft_eq {w : World} {p : Sl} {m : Nat} {F : Int → Option Nat} {R A : List On} (h : ScMem w p m F R A) : wkLeft p.sb w = A.length := by
  obtain ⟨ao, cap, hv⟩ := h.sd.slice
  have h2 := h.sd.hdr
  rw [hv] at h2
  unfold wkLeft
  rw [h.row]
  show (match w.heap[p.ab]? with
      | some (.cells ds _ _) => (match ds[0]? with
        | some (Value.slice _ n _) => n
        | _ => 0)
      | _ => 0) = _
  rw [h2]
  rfl
/-- what Wake does -/
def WakeQ (Z : Nat → Prop) (sb m : Nat) (st : Int → Option Gu) (now : Int) (w : World) (e : Ending) (w' : World) : Prop := ∃ v l st' Zn, e = .returned v ∧ Woke st now l st' ∧ l.length ≤ 100 ∧ ScAt w' Zn sb m st' ∧ (∀ b, Zn b → Z b ∨ w.heap.size ≤ b) ∧ Only Z w w' ∧ w'.ownsRow 0 3 1 v l.length (ints l) ∧ ∀ k, inRow v k → w.heap.size ≤ k ∧ ¬ Zn k ∧ k ≠ sb
def WkTo (Z : Nat → Prop) (sb m : Nat) (st : Int → Option Gu) (now : Int) (w : World) (v : Value) (wr : World) : Prop := ∃ (p : Sl) (F : Int → Option Nat) (R A : List On) (sk : Int → Option Gu) (l : List Int), p.sb = sb ∧ ScMem wr p m F R A ∧ ScP m F R A ∧ ScS R A sk ∧ (∀ b, scz p R A b → Z b ∨ w.heap.size ≤ b) ∧ Only Z w wr ∧ wr.ownsRow 0 3 1 v l.length (ints l) ∧ (∀ k, inRow v k → w.heap.size ≤ k) ∧ l.length + A.length ≤ 100 ∧ (∃ ao cap, v = .slice ao l.length cap) ∧ ∀ l2 s2, Woke sk now l2 s2 → Woke st now (l ++ l2) s2
theorem ScMem.int_row {w : World} {p : Sl} {m : Nat} {F : Int → Option Nat} {R A : List On} (h : ScMem w p m F R A) {v : Value} {n : Nat} {xs : List Value} (ho : w.ownsRow 0 3 1 v n xs) (k : Nat) (hk : inRow v k) : ¬ scz p R A k ∧ k ≠ p.sb := by
  obtain ⟨cur, hh⟩ := own_type ho hk
  refine ⟨fun hz => ?_, cells_ne hh h.row (by decide)⟩
  rcases hz with e | e | e | e | e
  · obtain ⟨es, c, hm⟩ := h.map.ty
    exact map_ne hm hh e.symm
  · exact cells_ne hh h.rd.hdr (by decide) e
  · exact cells_ne hh h.sd.hdr (by decide) e
  · rcases h.rd.ty k e with ⟨c, h1⟩ | ⟨c, h1⟩
    · exact cells_ne hh h1 (by decide) rfl
    · exact cells_ne hh h1 (by decide) rfl
  · rcases h.sd.ty k e with ⟨c, h1⟩ | ⟨c, h1⟩
    · exact cells_ne hh h1 (by decide) rfl
    · exact cells_ne hh h1 (by decide) rfl
theorem infoIntW : (Tryd.prog.info? 3).map (fun i => (i.zero, i.size, i.bytes)) = some (some (.int .i64 0), 1, 8) := by kernel_rfl
set_option maxRecDepth 100000 in
set_option maxHeartbeats 12800000 in
theorem swake_any (w : World) (Z : Nat → Prop) (sb m : Nat) (st : Int → Option Gu) (h : ScAt w Z sb m st) (now : Int) :
    Calls Tryd.prog 22 #[.pointer (some ⟨sb, 0, none⟩), .int .i64 now] w (WakeQ Z sb m st now w) := by
  obtain ⟨i0, hi, hz0, hz1, hz2⟩ := info_parts infoIntW
  have HST : Hid (WkTo Z sb m st now w (.slice none 0 0) w) := Lib.hid (by
    obtain ⟨p, F, R, A, rfl, hm, hp, hs, hZ⟩ := h
    exact ⟨p, F, R, A, st, [], rfl, hm, hp, hs, fun b hb => .inl (hZ b hb), Only.refl _ _, own_nil _ _ _, fun k hk => by simp [inRow, Value.ownBlock] at hk, by have := hp.cnt; have := hp.m100; simp; omega, ⟨none, 0, rfl⟩, fun l2 s2 h => h⟩)
  clear h
  go_enter Tryd.func22, Tryd.ntmps22
  go_wp2_with fail
  go_loopw [5] (fun v wr => WkTo Z sb m st now w v wr) (fun _ wr => wkLeft sb wr)
  case atStart => exact HST.out
  case round =>
    obtain ⟨p, F, R, A, sk, l, rfl, hm, hp, hs, hZ, hO, hown, hfr, hcnt, ⟨vo, vc, rfl⟩, hwk⟩ := hrel
    have HM := Lib.hid hm
    have HP := Lib.hid hp
    have HS := Lib.hid hs
    have HZ := Lib.hid hZ
    have HO := Lib.hid hO
    have HOWN := Lib.hid hown
    have HFR := Lib.hid hfr
    have HCNT := Lib.hid hcnt
    have HWK := Lib.hid hwk
    have HLEFT : Hid (∀ w2 p2 F2 R2 A2, ScMem w2 p2 m F2 R2 A2 → p2.sb = p.sb → wkLeft p.sb w2 = A2.length) := Lib.hid fun w2 p2 F2 R2 A2 h e => by rw [← e]; exact wkLeft_eq h
    have HDONE : Hid ((∀ y g', sk y = some g' → g'.sl = true → now < g'.un) → WakeQ Z p.sb m st now w (.returned (.slice vo l.length vc)) wr) := Lib.hid fun h => ⟨_, l, sk, scz p R A, rfl, by have := hwk [] sk (.done sk now h); rwa [List.append_nil] at this, by omega, ⟨p, F, R, A, rfl, hm, hp, hs, fun b hb => hb⟩, hZ, hO, hown, fun k hk => ⟨hfr k hk, hm.int_row hown k hk⟩⟩
    have c2 : wr.cell? ⟨p.sb, 2, none⟩ = some (.pointer (some ⟨p.ab, 0, none⟩)) := blk_cell hm.row 2
    have lt := blk_lt hm.row
    have HLN := Lib.hid (tlen_any p.ab p.av A wr hm.sd)
    clear hm hp hs hZ hO hown hfr hcnt hwk HST
    by_cases hA : A.length = 0
    · have HD := Lib.hid (HDONE.out fun y g' hg hsl => by
        obtain ⟨o, ho, rfl⟩ := HS.out.s2 y g' hg
        have h2 := HS.out.s1 o ho
        rw [hg] at h2
        obtain rfl := Option.some.inj h2
        rcases ho with ⟨i, hi, rfl⟩ | ⟨i, hi, -⟩
        · have := HP.out.sr i hi
          rw [show (og R i).gu.sl = (og R i).sl from rfl, this] at hsl
          cases hsl
        · omega)
      rw [hA] at HLN
      clear HDONE
      go_wp2_with fail
      refine HLN.out.mono ?_
      rintro y w2 ⟨rfl, rfl⟩
      go_wp2
      go_ret
      exact HD.out
    · have hA1 : 0 < A.length := by omega
      have hAi : (0 : Int) < (A.length : Int) := by omega
      obtain ⟨g, cap, hv⟩ := HM.out.sd.row hA1
      have hsd := HM.out.sd
      rw [hv] at hsd
      have d0 : wr.cell? ⟨p.ab, 0, none⟩ = some (.slice (some ⟨g, 0, none⟩) A.length cap) := blk_cell hsd.hdr 0
      have dl := blk_lt hsd.hdr
      have d1 := hsd.ptr 0 hA1
      have gl : g < wr.heap.size := hsd.lt.2 g (.inl rfl)
      have d4 : wr.cell? ⟨(og A 0).blk, 4, none⟩ = some (.int .i64 (og A 0).un) := blk_cell (hsd.ones 0 hA1) 4
      have ol := blk_lt (hsd.ones 0 hA1)
      have HMINA : Hid (∀ y g', sk y = some g' → g'.sl = true → (og A 0).un < g'.un ∨ ((og A 0).un = g'.un ∧ (og A 0).id ≤ y)) := Lib.hid fun y g' hg hsl => by
        obtain ⟨o, ho, rfl⟩ := HS.out.s2 y g' hg
        have h2 := HS.out.s1 o ho
        rw [hg] at h2
        obtain rfl := Option.some.inj h2
        rcases ho with ⟨i, hi, rfl⟩ | ⟨i, hi, rfl⟩
        · have := HP.out.sr i hi
          rw [show (og R i).gu.sl = (og R i).sl from rfl, this] at hsl
          cases hsl
        · have hr := hp_root true A A.length (Nat.le_refl _) HP.out.sa HP.out.ha i hi
          rw [lt_false true _ (HP.out.sa i hi)] at hr
          unfold On.ky at hr
          simp only [if_true] at hr
          exact hr
      by_cases hun : (og A 0).un ≤ now
      · have HGU : Hid (sk (og A 0).id = some (og A 0).gu ∧ (og A 0).sl = true) := Lib.hid ⟨HS.out.s1 _ (.a hA1), HP.out.sa 0 hA1⟩
        have HRM := Lib.hid (hremove_any p.ab p.av A 0 wr HM.out.sd hA1)
        have HOUT := Lib.hid (fun (w2 : World) (e : Ending) hq => out_A' (e := e) (w2 := w2) HM.out HP.out hA1 hq)
        obtain ⟨o', ho'⟩ : ∃ o' : On, o' = ⟨(og A 0).id, (og A 0).wt, (og A 0).us, false, 0, (og A 0).blk⟩ := ⟨_, rfl⟩
        have HPU := Lib.hid (fun (w2 w3 : World) p2 R2 A2 h ho3 pl hb3 => wake_push (w2 := w2) (w3 := w3) (p2 := p2) (R2 := R2) (A2 := A2) HM.out HP.out HS.out (.a hA1) h ho' ho3 pl hb3)
        have HCE : Hid (∀ pl : Int, onCells o' pl = ((onCells (og A 0) pl).setIfInBounds 3 (.bool false)).setIfInBounds 4 (.int .i64 0)) := Lib.hid fun pl => by rw [ho']; rfl
        have HO'I : Hid (o'.id = (og A 0).id ∧ o'.blk = (og A 0).blk) := Lib.hid (by rw [ho']; exact ⟨rfl, rfl⟩)
        obtain ⟨oi, hoi⟩ : ∃ x, (og A 0).id = x := ⟨_, rfl⟩
        obtain ⟨ob, hob⟩ : ∃ x, (og A 0).blk = x := ⟨_, rfl⟩
        obtain ⟨ou, hou⟩ : ∃ x, (og A 0).un = x := ⟨_, rfl⟩
        have HOI := Lib.hid hoi
        have HOB := Lib.hid hob
        rw [hob] at d1 d4 ol
        rw [hou] at d4 hun
        have HUN : Hid ((og A 0).gu.un ≤ now) := Lib.hid (by show (og A 0).un ≤ now; rw [hou]; exact hun)
        have hun2 : decide (ou ≤ now) = true := decide_eq_true hun
        obtain ⟨n, hn⟩ : ∃ n, A.length = n := ⟨_, rfl⟩
        have HN := Lib.hid hn
        rw [hn] at HLN d0 hA1 hAi
        clear hv hsd hA HDONE ho' hoi hob hou hn
        go_wp2_with fail
        refine HLN.out.mono ?_
        rintro y w2 ⟨rfl, rfl⟩
        go_wp2_with fail
        refine HRM.out.mono ?_
        rintro y w3 hq
        obtain ⟨p2, R2, A2, hout, hlen⟩ := HOUT.out w3 y hq
        obtain ⟨he, -⟩ := hq
        subst he
        have hrow := hout.mem.row
        rw [hout.sb, hout.mb, hout.rb, hout.ab] at hrow
        obtain ⟨pl, hb⟩ := hout.blk
        have hb' := hb
        rw [HOB.out] at hb'
        have q3 : w3.cell? ⟨ob, 3, none⟩ = some (.bool (og A 0).sl) := blk_cell hb' 3
        have q4 : w3.cell? ⟨ob, 4, none⟩ = some (.int .i64 (og A 0).un) := blk_cell hb' 4
        have g3 := blk_free hb' 3
        have g4 := blk_free hb' 4
        have lb := blk_lt hb'
        have e1 : w3.cell? ⟨p.sb, 1, none⟩ = some (.pointer (some ⟨p.rb, 0, none⟩)) := blk_cell hrow 1
        have l1 := blk_lt hrow
        have hne : ob ≠ p.sb := cells_ne hb' hrow (by decide)
        have hne2 : p.sb ≠ ob := hne.symm
        have HPU3 := Lib.hid (HPU.out w3 ((w3.setCell ⟨ob, 3, none⟩ (.bool false)).setCell ⟨ob, 4, none⟩ (.int .i64 0)) p2 R2 A2 hout (by
          rw [HOB.out]
          exact ((Only.refl (fun b => b = ob) w3).setCell (p := ⟨ob, 3, none⟩) (.inl rfl) _).setCell (p := ⟨ob, 4, none⟩) (.inl rfl) _) pl (by
          rw [HOB.out, HCE.out]
          exact blk_put (blk_put hb' 3 _) 4 _))
        rw [HOB.out, HOI.out] at HPU3
        have HLEN := Lib.hid hlen
        clear hout hrow hb hb' hlen c2 lt d0 dl d1 gl d4 ol hun hun2
        go_wp2_with fail
        refine HPU3.out.mono ?_
        rintro y w5 ⟨rfl, p5, R5, e5, -, -, hm5, hp5, hs5, hz5, ho5, hin5⟩
        obtain ⟨i5, hb5, -⟩ := hm5.one (.inl hin5 : InS R5 A2 o')
        rw [HO'I.out.2, HOB.out] at hb5
        have x0 : w5.cell? ⟨ob, 0, none⟩ = some (.int .i64 oi) := (blk_cell hb5 0).trans (by show some (Value.int .i64 o'.id) = _; rw [HO'I.out.1, HOI.out])
        have lx := blk_lt hb5
        have how5 := own_only HOWN.out ho5 (fun k hk => (HM.out.int_row HOWN.out k hk).1)
        have HOW5 := Lib.hid how5
        have HM5 := Lib.hid hm5
        have HP5 := Lib.hid hp5
        have HS5 := Lib.hid hs5
        have HZ5 := Lib.hid hz5
        have HO5 := Lib.hid ho5
        have HE5 := Lib.hid e5
        clear hm5 hp5 hs5 hz5 ho5 hin5 hb5 how5 e5 q3 q4 g3 g4 lb e1 l1 hne hne2
        go_wp2_with (at_builtin; refine wpList_append_sep _ rfl _ _ 35 rfl 3 i0 (.int .i64 0) 1 8 Tryd.underlying35 hi hz0 hz1 hz2 rfl (by decide) _ _ _ rfl (HOW5.out.alloc _) ⟨w5.heap.size, 0, none⟩ 1 1 [.int .i64 oi] rfl rfl (cell_one_new _ _ _) (by simp [Value.oneCell']) (by unfold maxLen; have := HCNT.out; omega) (by have := HCNT.out; omega) ?_)
        intro v' wx ho6 hg6 hs6
        obtain ⟨ao6, cap6, rfl⟩ := own_slice ho6
        have hm6 : ScMem wx p5 m F R5 A2 := by
          have ha : ScMem (w5.alloc (.cells #[.int .i64 oi] 3)) p5 m F R5 A2 := HM5.out.below ((Below.refl _ _).alloc (Nat.le_refl _) _)
          have hg := Only.grown (Only.refl (fun k => inRow (.slice vo l.length vc) k) (w5.alloc (.cells #[.int .i64 oi] 3))) hg6 (fun k hk => .inl hk)
          exact ha.keep hg (fun e => (HM5.out.int_row HOW5.out _ e).2 rfl) (fun b hb e => (HM5.out.int_row HOW5.out _ e).1 hb)
        have HFIN : Hid (WkTo Z p.sb m st now w (.slice ao6 (l.length + 1) cap6) wx ∧ wkLeft p.sb wx < wkLeft p.sb wr) := Lib.hid (by
          have hsz5 : wr.heap.size ≤ w5.heap.size := HO5.out.size
          have hsz : w.heap.size ≤ wr.heap.size := HO.out.size
          refine ⟨⟨p5, F, R5, A2, _, l ++ [oi], HE5.out, hm6, HP5.out, HS5.out, fun b hb => ?_, ?_, ?_, fun k hk => ?_, by have := HCNT.out; have := HLEN.out; have := HN.out; rw [List.length_append]; simp; omega, ⟨ao6, cap6, by rw [List.length_append]; rfl⟩, fun l2 s2 h2 => ?_⟩, ?_⟩
          · rcases HZ5.out b hb with h | h
            · exact HZ.out b h
            · exact .inr (Nat.le_trans hsz h)
          · refine Only.grown (Only.alloc' (HO.out.trans' HO5.out fun b hb => HZ.out b hb) _) hg6 fun k hk => .inr (HFR.out k hk)
          · rw [List.length_append, show ints (l ++ [oi]) = ints l ++ [.int .i64 oi] by simp [ints]]
            exact ho6
          · rcases hs6 k hk with h | h
            · exact HFR.out k h
            · have h' := h
              try simp only [World.size_alloc] at h'
              omega
          · have h3 := HWK.out (oi :: l2) s2 (.step sk s2 now oi (og A 0).gu l2 (by rw [← HOI.out]; exact HGU.out.1) HGU.out.2 (by
              have := HN.out
              exact HUN.out) (fun y g' h4 h5 => by rw [← HOI.out]; exact HMINA.out y g' h4 h5) (by rw [← HOI.out]; rw [← HOI.out] at h2; exact h2))
            rw [List.append_assoc]
            exact h3
          · rw [HLEFT.out wx p5 F R5 A2 hm6 HE5.out, HLEFT.out wr p F R A HM.out rfl]
            have := HLEN.out
            omega)
        clear ho6 hg6 hs6 hm6 x0 lx
        go_wp2_with fail
        go_roundw
        case rel => exact HFIN.out.1
        case measure => exact HFIN.out.2
      · have HD := Lib.hid (HDONE.out fun y g' hg hsl => by
          rcases HMINA.out y g' hg hsl with h | h <;> omega)
        have hun2 : decide ((og A 0).un ≤ now) = false := decide_eq_false hun
        obtain ⟨ob, hob⟩ : ∃ x, (og A 0).blk = x := ⟨_, rfl⟩
        obtain ⟨ou, hou⟩ : ∃ x, (og A 0).un = x := ⟨_, rfl⟩
        rw [hob] at d1 d4 ol
        rw [hou] at d4 hun2 hun
        obtain ⟨n, hn⟩ : ∃ n, A.length = n := ⟨_, rfl⟩
        rw [hn] at HLN d0 hA1 hAi
        clear hv hsd hA HDONE hob hou hn
        go_wp2_with fail
        refine HLN.out.mono ?_
        rintro y w2 ⟨rfl, rfl⟩
        go_wp2
        go_ret
        exact HD.out
end Go.Proofs.YtnhocmmgdkiepaaDoor

/-
  SchedFair: plain laws.
-/
namespace Go.Proofs.YtnhocmmgdkiepaaDoor
open Go.RowKit

structure FairA (k : Nat) (st : Int → Option Gu) : Prop where
  dom : ∀ x g, st x = some g → 0 ≤ x ∧ x < k
  all : ∀ x : Int, 0 ≤ x → x < k → ∃ wt, (1 ≤ wt ∧ wt ≤ 100) ∧ st x = some ⟨wt, 0, false, 0⟩
theorem fairA_zero : FairA 0 noOne := ⟨(fun x g h => by cases h), fun x h0 h1 => absurd h1 (by omega)⟩
theorem FairA.minU {k : Nat} {st : Int → Option Gu} (h : FairA k st) {u : Int} (hu : MinU st u) : u = 0 := by
  rcases hu with ⟨-, hu⟩ | ⟨⟨x, g, -, hg, e⟩, -⟩
  · exact hu
  · obtain ⟨d0, d1⟩ := h.dom x g hg
    obtain ⟨wt, -, hw⟩ := h.all x d0 d1
    rw [hg] at hw
    rw [← e, Option.some.inj hw]
theorem FairA.add {k : Nat} {st : Int → Option Gu} (h : FairA k st) {wt : Int} (hw : 1 ≤ wt ∧ wt ≤ 100) : FairA (k + 1) (upd st (k : Int) (some ⟨wt, 0, false, 0⟩)) := by
  refine ⟨fun x g hg => ?_, fun x h0 h1 => ?_⟩
  · by_cases e : x = (k : Int)
    · omega
    · rw [upd_else _ _ _ _ e] at hg
      have := h.dom x g hg
      omega
  · by_cases e : x = (k : Int)
    · exact ⟨wt, hw, by rw [e]; exact upd_same _ _ _⟩
    · rw [upd_else _ _ _ _ e]
      exact h.all x h0 (by omega)
theorem FairA.no {k : Nat} {st : Int → Option Gu} (h : FairA k st) : st (k : Int) = none := by
  cases hg : st (k : Int) with
  | none => rfl
  | some g =>
    have := h.dom _ g hg
    omega
/-- who does not sleep -/
def aw (n : Nat) (out x : Int) : Prop := (0 ≤ x ∧ x < n) ∧ ¬ (1 < n ∧ x = out)
structure FairB (n : Nat) (out turns : Int) (i : Nat) (st : Int → Option Gu) : Prop where
  n1 : 1 ≤ n
  n8 : n ≤ 8
  outr : 0 ≤ out ∧ out < n
  dom : ∀ x g, st x = some g → 0 ≤ x ∧ x < n
  wk : ∀ x, aw n out x → ∃ wt us, st x = some ⟨wt, us, false, 0⟩ ∧ (1 ≤ wt ∧ wt ≤ 100) ∧ 0 ≤ us ∧ us ≤ 10000 * (i : Int)
  slp : 1 < n → ∃ wt us, st out = some ⟨wt, us, true, turns⟩
  spr : ∀ x y g g', aw n out x → aw n out y → st x = some g → st y = some g' → g.us ≤ g'.us + 10000
theorem fairB_one {st : Int → Option Gu} (h : FairA 1 st) (turns : Int) : FairB 1 0 turns 0 st := by
  refine ⟨by omega, by omega, by omega, fun x g hg => h.dom x g hg, fun x hx => ?_, fun h => absurd h (by omega), fun x y g g' hx hy h1 h2 => ?_⟩
  · obtain ⟨wt, hw, e⟩ := h.all x hx.1.1 hx.1.2
    exact ⟨wt, 0, e, hw, by omega, by omega⟩
  · obtain ⟨wt, -, e⟩ := h.all x hx.1.1 hx.1.2
    obtain ⟨wt', -, e'⟩ := h.all y hy.1.1 hy.1.2
    rw [h1] at e
    rw [h2] at e'
    rw [Option.some.inj e, Option.some.inj e']
    show (0 : Int) ≤ 0 + 10000
    decide
theorem fairB_more {n : Nat} {st : Int → Option Gu} (h : FairA n st) (h1 : 1 < n) (h8 : n ≤ 8) (out turns : Int) (ho : 0 ≤ out ∧ out < n) (g : Gu) : FairB n out turns 0 (upd st out (some ⟨g.wt, g.us, true, turns⟩)) := by
  have hx : ∀ x, aw n out x → upd st out (some ⟨g.wt, g.us, true, turns⟩) x = st x := fun x hx => upd_else _ _ _ _ fun e => hx.2 ⟨h1, e⟩
  refine ⟨by omega, h8, ho, fun x g' hg => ?_, fun x hxx => ?_, fun _ => ⟨_, _, upd_same _ _ _⟩, fun x y g1 g2 hx1 hy1 e1 e2 => ?_⟩
  · by_cases e : x = out
    · omega
    · rw [upd_else _ _ _ _ e] at hg
      exact h.dom x g' hg
  · rw [hx x hxx]
    obtain ⟨wt, hw, e⟩ := h.all x hxx.1.1 hxx.1.2
    exact ⟨wt, 0, e, hw, by omega, by omega⟩
  · rw [hx x hx1] at e1
    rw [hx y hy1] at e2
    obtain ⟨wt, -, e⟩ := h.all x hx1.1.1 hx1.1.2
    obtain ⟨wt', -, e'⟩ := h.all y hy1.1.1 hy1.1.2
    rw [e1] at e
    rw [e2] at e'
    rw [Option.some.inj e, Option.some.inj e']
    show (0 : Int) ≤ 0 + 10000
    decide
theorem FairB.pick {n i : Nat} {out turns : Int} {st : Int → Option Gu} (h : FairB n out turns i st) {v : Value} (hv : PickQ st v) : ∃ x wt us, v = .tuple #[.int .i64 x, .bool true] ∧ aw n out x ∧ st x = some ⟨wt, us, false, 0⟩ ∧ (1 ≤ wt ∧ wt ≤ 100) ∧ (0 ≤ us ∧ us ≤ 10000 * (i : Int)) ∧ ∀ y g, aw n out y → st y = some g → us ≤ g.us := by
  have hsome : ∃ x0, aw n out x0 := by
    have h1 := h.n1
    by_cases e : 1 < n
    · by_cases e2 : out = 0
      · exact ⟨1, ⟨by omega, by omega⟩, by omega⟩
      · exact ⟨0, ⟨by omega, by omega⟩, by omega⟩
    · exact ⟨0, ⟨by omega, by omega⟩, by omega⟩
  have wake : ∀ x g, st x = some g → g.sl = false → aw n out x := fun x g hg hsl => by
    refine ⟨h.dom x g hg, fun hh => ?_⟩
    obtain ⟨wt, us, e⟩ := h.slp hh.1
    rw [hh.2, e] at hg
    rw [← Option.some.inj hg] at hsl
    cases hsl
  rcases hv with ⟨h1, -⟩ | ⟨x, g, hg, hsl, hmin, hv⟩
  · obtain ⟨x0, h0⟩ := hsome
    obtain ⟨wt, us, e, -⟩ := h.wk x0 h0
    have := h1 x0 _ e
    cases this
  · have ha := wake x g hg hsl
    obtain ⟨wt, us, e, hw, hu⟩ := h.wk x ha
    rw [hg] at e
    obtain rfl := Option.some.inj e
    refine ⟨x, wt, us, hv, ha, hg, hw, hu, fun y g' hy hg' => ?_⟩
    obtain ⟨wt', us', e', -⟩ := h.wk y hy
    rw [hg'] at e'
    have hsl' : g'.sl = false := by rw [Option.some.inj e']
    rcases hmin y g' hg' hsl' with h3 | h3
    · exact Int.le_of_lt h3
    · exact Int.le_of_eq h3.1
theorem ran_fair {us wt : Int} {i : Nat} (hw : 1 ≤ wt ∧ wt ≤ 100) (hu : 0 ≤ us ∧ us ≤ 10000 * (i : Int)) (hi : i < 200) : us ≤ ranU us 100 wt ∧ ranU us 100 wt ≤ us + 10000 := by
  unfold ranU
  have h1 : (100 : Int) * 100 = 10000 := rfl
  rw [h1]
  have h2 : (10000 : Int) / wt ≤ 10000 := Int.ediv_le_self _ (by omega)
  have h3 : 0 ≤ (10000 : Int) / wt := Int.ediv_nonneg (by omega) (by omega)
  rw [if_pos (by omega)]
  omega
theorem FairB.ran {n i : Nat} {out turns x wt us : Int} {st : Int → Option Gu} (h : FairB n out turns i st) (hx : aw n out x) (hg : st x = some ⟨wt, us, false, 0⟩) (hw : 1 ≤ wt ∧ wt ≤ 100) (hu : 0 ≤ us ∧ us ≤ 10000 * (i : Int)) (hmin : ∀ y g, aw n out y → st y = some g → us ≤ g.us) (hi : i < 200) : FairB n out turns (i + 1) (upd st x (some ⟨wt, ranU us 100 wt, false, 0⟩)) := by
  obtain ⟨r1, r2⟩ := ran_fair hw hu hi
  refine ⟨h.n1, h.n8, h.outr, fun y g hy => ?_, fun y hy => ?_, fun h1 => ?_, fun a b g g' ha hb e1 e2 => ?_⟩
  · by_cases e : y = x
    · rw [e]; exact hx.1
    · rw [upd_else _ _ _ _ e] at hy
      exact h.dom y g hy
  · by_cases e : y = x
    · exact ⟨wt, _, by rw [e]; exact upd_same _ _ _, hw, by omega, by omega⟩
    · rw [upd_else _ _ _ _ e]
      obtain ⟨wt', us', e', hw', hu'⟩ := h.wk y hy
      exact ⟨wt', us', e', hw', by omega, by omega⟩
  · have e : out ≠ x := fun e => hx.2 ⟨h1, e.symm⟩
    rw [upd_else _ _ _ _ e]
    exact h.slp h1
  · by_cases ea : a = x
    · by_cases eb : b = x
      · rw [ea] at e1
        rw [eb] at e2
        rw [e1] at e2
        rw [Option.some.inj e2]
        omega
      · rw [ea, upd_same] at e1
        rw [upd_else _ _ _ _ eb] at e2
        have := hmin b g' hb e2
        rw [← Option.some.inj e1]
        show ranU us 100 wt ≤ _
        omega
    · by_cases eb : b = x
      · rw [eb, upd_same] at e2
        rw [upd_else _ _ _ _ ea] at e1
        have := h.spr a x g _ ha hx e1 hg
        rw [← Option.some.inj e2]
        show _ ≤ ranU us 100 wt + 10000
        dsimp only at this
        omega
      · rw [upd_else _ _ _ _ ea] at e1
        rw [upd_else _ _ _ _ eb] at e2
        exact h.spr a b g g' ha hb e1 e2
/-- the least and the most, so far -/
def LmOk (n : Nat) (out : Int) (st : Int → Option Gu) (a b : Int) : Prop := (a = -1 ∧ b = 0) ∨ ((∃ y g, aw n out y ∧ st y = some g ∧ g.us = a) ∧ 0 ≤ a ∧ (b = 0 ∨ ∃ x g, aw n out x ∧ st x = some g ∧ g.us = b))
theorem LmOk.near {n i : Nat} {out turns a b : Int} {st : Int → Option Gu} (h : FairB n out turns i st) (hl : LmOk n out st a b) : b - a ≤ 10000 := by
  rcases hl with ⟨rfl, rfl⟩ | ⟨⟨y, g, hy, hg, rfl⟩, h0, rfl | ⟨x, g', hx, hg', rfl⟩⟩
  · omega
  · omega
  · have := h.spr x y g' g hx hy hg' hg
    omega
theorem LmOk.bounds {n i : Nat} {out turns a b : Int} {st : Int → Option Gu} (h : FairB n out turns i st) (hi : i ≤ 200) (hl : LmOk n out st a b) : (-1 ≤ a ∧ a ≤ 2000000) ∧ 0 ≤ b ∧ b ≤ 2000000 := by
  have hb : ∀ x g, aw n out x → st x = some g → 0 ≤ g.us ∧ g.us ≤ 2000000 := fun x g hx hg => by
    obtain ⟨wt, us, e, -, h1, h2⟩ := h.wk x hx
    rw [hg] at e
    rw [Option.some.inj e]
    exact ⟨h1, by show us ≤ _; omega⟩
  rcases hl with ⟨rfl, rfl⟩ | ⟨⟨y, g, hy, hg, rfl⟩, h0, rfl | ⟨x, g', hx, hg', rfl⟩⟩
  · omega
  · have := hb y g hy hg; omega
  · have := hb y g hy hg; have := hb x g' hx hg'; omega
theorem LmOk.next {n i : Nat} {out turns a b x wt us : Int} {st : Int → Option Gu} (_h : FairB n out turns i st) (hx : aw n out x) (hg : st x = some ⟨wt, us, false, 0⟩) (hu : 0 ≤ us) (hl : LmOk n out st a b) (a' b' : Int) (ha : a' = us ∨ (a' = a ∧ 0 ≤ a)) (hb : b' = us ∨ b' = b) : LmOk n out st a' b' := by
  refine .inr ⟨?_, ?_, ?_⟩
  · rcases ha with rfl | ⟨rfl, h0⟩
    · exact ⟨x, _, hx, hg, rfl⟩
    · rcases hl with ⟨h1, -⟩ | ⟨h1, -⟩
      · omega
      · exact h1
  · rcases ha with rfl | ⟨rfl, h0⟩ <;> omega
  · rcases hb with rfl | rfl
    · exact .inr ⟨x, _, hx, hg, rfl⟩
    · rcases hl with ⟨-, h1⟩ | ⟨-, -, h1⟩
      · exact .inl h1
      · exact h1
theorem FairB.sleeper {n i : Nat} {out turns x : Int} {g : Gu} {st : Int → Option Gu} (h : FairB n out turns i st) (hg : st x = some g) (hs : g.sl = true) : 1 < n ∧ x = out ∧ g.un = turns := by
  have hd := h.dom x g hg
  by_cases e : 1 < n ∧ x = out
  · obtain ⟨wt, us, e2⟩ := h.slp e.1
    rw [e.2, e2] at hg
    exact ⟨e.1, e.2, by rw [← Option.some.inj hg]⟩
  · obtain ⟨wt, us, e2, -⟩ := h.wk x ⟨hd, e⟩
    rw [hg] at e2
    rw [Option.some.inj e2] at hs
    cases hs
theorem FairB.early {n i : Nat} {out turns now : Int} {l : List Int} {st st' : Int → Option Gu} (h : FairB n out turns i st) (hn : now < turns) (hw : Woke st now l st') : l = [] ∧ st' = st := by
  cases hw with
  | done _ _ _ => exact ⟨rfl, rfl⟩
  | step _ _ _ x g l hg hs hu _ _ =>
    have := h.sleeper hg hs
    omega
theorem FairB.wake {n i : Nat} {out turns : Int} {l : List Int} {st st' : Int → Option Gu} (h : FairB n out turns i st) (hw : Woke st turns l st') : (n = 1 ∧ l = []) ∨ (1 < n ∧ l = [out]) := by
  cases hw with
  | done _ _ hd =>
    by_cases e : 1 < n
    · obtain ⟨wt, us, e2⟩ := h.slp e
      have := hd out _ e2 rfl
      dsimp only at this
      omega
    · exact .inl ⟨by have := h.n1; omega, rfl⟩
  | step _ _ _ x g l hg hs hu _ hr =>
    obtain ⟨h1, rfl, -⟩ := h.sleeper hg hs
    refine .inr ⟨h1, ?_⟩
    cases hr with
    | done _ _ _ => rfl
    | step _ _ _ y g' l' hg' hs' _ _ _ =>
      by_cases e : y = x
      · rw [e, upd_same] at hg'
        rw [← Option.some.inj hg'] at hs'
        cases hs'
      · rw [upd_else _ _ _ _ e] at hg'
        exact absurd (h.sleeper hg' hs').2.1 e
end Go.Proofs.YtnhocmmgdkiepaaDoor

/-
  facaderef.SameInts: are two lists the same?
-/
namespace Go.Proofs.YtnhocmmgdkiepaaDoor
open Go.RowKit

/-- the first k are the same -/
def SameIntsTo (xs ys : List Int) (w : World) (i : Value) (wr : World) : Prop := ∃ k : Nat, k ≤ xs.length ∧ i = .int .i64 k ∧ xs.take k = ys.take k ∧ ∃ n, wr = w.drewN n

set_option maxHeartbeats 800000 in
theorem sameInts_any (xs ys : List Int) (ao bo : Option Addr) (c1 c2 : Nat) (w : World) (hx : AtL w ao (ints xs)) (hy : AtL w bo (ints ys)) (hl : xs.length ≤ 1000000000) (hl2 : ys.length ≤ 1000000000) :
    Calls Tryd.prog 23 #[.slice ao xs.length c1, .slice bo ys.length c2] w fun e w' => e = .returned (.bool (decide (xs = ys))) ∧ ∃ n, w' = w.drewN n := by
  by_cases hlen : xs.length = ys.length
  · have HX := Lib.hid hx
    have HY := Lib.hid hy
    have HLEN := Lib.hid hlen
    rw [← HLEN.out]
    clear hx hy hlen
    go_enter Tryd.func23, Tryd.ntmps23
    go_wp2_with fail
    go_loopw [5] (fun i wr => SameIntsTo xs ys w i wr) (fun i _ => xs.length - (intOf i).toNat)
    case atStart => exact ⟨0, Nat.zero_le _, rfl, rfl, 0, rfl⟩
    case round =>
      obtain ⟨k, hk, rfl, hs, n, rfl⟩ := hrel
      have HS := Lib.hid hs
      clear hs
      by_cases hlt : k < xs.length
      · have hlt2 : k < ys.length := by have := HLEN.out; omega
        obtain ⟨b, o, rfl, p0, hb⟩ := HX.out k _ (ints_get xs k hlt)
        obtain ⟨b2, o2, rfl, q0, hb2⟩ := HY.out k _ (ints_get ys k hlt2)
        obtain ⟨x, hx⟩ : ∃ x, xs.getD k 0 = x := ⟨_, rfl⟩
        obtain ⟨y, hy⟩ : ∃ y, ys.getD k 0 = y := ⟨_, rfl⟩
        rw [hx] at p0
        rw [hy] at q0
        have HXE := Lib.hid hx
        have HYE := Lib.hid hy
        have hki : (k : Int) < (xs.length : Int) := by omega
        clear hx hy
        by_cases hxy : x = y
        · have hbq : (x == y) = true := by simp [hxy]
          have HXY := Lib.hid hxy
          clear hxy
          go_wp2_with fail
          go_quiet (fail)
          go_wp2
          go_roundw
          case rel => exact ⟨k + 1, by omega, by go_num, take_eq 0 hlt hlt2 HS.out (by rw [HXE.out, HYE.out, HXY.out]), n + nq, rfl⟩
          case measure => simp [intOf]; omega
        · have hbq : (x == y) = false := by simp [hxy]
          have HXY := Lib.hid hxy
          clear hxy
          go_wp2_with fail
          go_quiet (fail)
          go_wp2
          go_ret
          refine ⟨ret_bool ?_, n + nq, rfl⟩
          symm
          rw [decide_eq_false_iff_not]
          intro h
          subst h
          exact HXY.out (HXE.out.symm.trans HYE.out)
      · obtain rfl : k = xs.length := by omega
        go_wp2
        go_ret
        refine ⟨ret_bool ?_, n, rfl⟩
        symm
        rw [decide_eq_true_eq]
        have := HS.out
        rwa [List.take_length, List.take_of_length_le (by rw [HLEN.out]; exact Nat.le_refl _)] at this
  · have hne : ((xs.length : Int) != (ys.length : Int)) = true := by rw [bne_iff_ne]; omega
    have HLEN := Lib.hid hlen
    clear hlen hx hy
    go_enter Tryd.func23, Tryd.ntmps23
    go_wp2
    go_ret
    refine ⟨ret_bool ?_, 0, rfl⟩
    symm
    rw [decide_eq_false_iff_not]
    intro h
    exact HLEN.out (by rw [h])
end Go.Proofs.YtnhocmmgdkiepaaDoor

