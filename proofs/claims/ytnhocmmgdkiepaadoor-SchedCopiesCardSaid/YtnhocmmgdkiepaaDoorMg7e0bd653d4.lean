/-
  Parts of one proof, one behind the other.
-/
import Derived.Test.YtnhocmmgdkiepaaDoorMg6b25a13155
import Derived.Test.YtnhocmmgdkiepaaDoorRows
import Derived.Test.YtnhocmmgdkiepaaDoorMg891e6fd1b3
import Derived.BigQuiet
/-
  SchedCopies: plain laws.
-/
namespace Go.Proofs.YtnhocmmgdkiepaaDoor
open Go.RowKit

structure CpI (k : Nat) (st : Int → Option Gu) : Prop where
  dom : ∀ x g, st x = some g → (0 ≤ x ∧ x < (k : Int)) ∧ g.sl = false
  all : ∀ x : Int, 0 ≤ x → x < (k : Int) → ∃ g, st x = some g
theorem cpI_zero : CpI 0 noOne := ⟨(fun x g h => by cases h), fun x h0 h1 => absurd h1 (by omega)⟩
theorem CpI.add {k : Nat} {st : Int → Option Gu} (h : CpI k st) (wt u : Int) : CpI (k + 1) (upd st (k : Int) (some ⟨wt, u, false, 0⟩)) := by
  refine ⟨fun x g hg => ?_, fun x h0 h1 => ?_⟩
  · by_cases e : x = (k : Int)
    · rw [e, updSame] at hg
      exact ⟨by omega, by rw [← Option.some.inj hg]⟩
    · rw [updElse _ _ _ _ e] at hg
      have := h.dom x g hg
      exact ⟨by omega, this.2⟩
  · by_cases e : x = (k : Int)
    · exact ⟨_, by rw [e]; exact updSame _ _ _⟩
    · rw [updElse _ _ _ _ e]
      exact h.all x h0 (by omega)
theorem CpI.no {k : Nat} {st : Int → Option Gu} (h : CpI k st) : st (k : Int) = none := by
  cases hg : st (k : Int) with
  | none => rfl
  | some g =>
    have := (h.dom _ g hg).1
    omega
theorem CpI.ran {k : Nat} {st : Int → Option Gu} (h : CpI k st) {x : Int} {g : Gu} (hg : st x = some g) (u : Int) : CpI k (upd st x (some ⟨g.wt, u, g.sl, g.un⟩)) := by
  refine ⟨fun y g' hy => ?_, fun y h0 h1 => ?_⟩
  · by_cases e : y = x
    · rw [e, updSame] at hy
      rw [e, ← Option.some.inj hy]
      exact h.dom x g hg
    · rw [updElse _ _ _ _ e] at hy
      exact h.dom y g' hy
  · by_cases e : y = x
    · exact ⟨_, by rw [e]; exact updSame _ _ _⟩
    · rw [updElse _ _ _ _ e]
      exact h.all y h0 h1
theorem pick_uniq {st : Int → Option Gu} {v v' : Value} (h : PickQ st v) (h' : PickQ st v') : v = v' := by
  rcases h with ⟨h1, h2⟩ | ⟨x, g, hg, hsl, hmin, hv⟩
  · rcases h' with ⟨-, h2'⟩ | ⟨y, g', hg', hsl', -, -⟩
    · rw [h2, h2']
    · have := h1 y g' hg'
      rw [hsl'] at this
      cases this
  · rcases h' with ⟨h1, -⟩ | ⟨y, g', hg', hsl', hmin', hv'⟩
    · have := h1 x g hg
      rw [hsl] at this
      cases this
    · have h3 := hmin y g' hg' hsl'
      have h4 := hmin' x g hg hsl
      have : x = y := by omega
      rw [hv, hv', this]
/-- picked and run, so often: who was -/
inductive CpR (st : Int → Option Gu) : Nat → List Int → (Int → Option Gu) → Prop
  | zero : CpR st 0 [] st
  | no (st1 : Int → Option Gu) (k : Nat) (l : List Int) (h : CpR st k l st1) (hv : PickQ st1 (.tuple #[.int .i64 0, .bool false])) : CpR st (k + 1) l st1
  | yes (st1 : Int → Option Gu) (k : Nat) (l : List Int) (x : Int) (g : Gu) (h : CpR st k l st1) (hg : st1 x = some g) (hv : PickQ st1 (.tuple #[.int .i64 x, .bool true])) : CpR st (k + 1) (l ++ [x]) (upd st1 x (some ⟨g.wt, ranU g.us 50 g.wt, g.sl, g.un⟩))
theorem cpR_uniq {st st1 : Int → Option Gu} {k : Nat} {l : List Int} (h : CpR st k l st1) : ∀ {st2 : Int → Option Gu} {l2 : List Int}, CpR st k l2 st2 → l = l2 ∧ st1 = st2 := by
  induction h with
  | zero =>
    intro st2 l2 h2
    cases h2
    exact ⟨rfl, rfl⟩
  | no st1 k l h hv ih =>
    intro st2 l2 h2
    cases h2 with
    | no _ _ _ h3 _ => exact ih h3
    | yes s4 _ l4 x g h3 hg hv2 =>
      obtain ⟨rfl, rfl⟩ := ih h3
      have := Value.tuple.inj (pick_uniq hv hv2)
      simp at this
  | yes st1 k l x g h hg hv ih =>
    intro st2 l2 h2
    cases h2 with
    | no _ _ _ h3 hv2 =>
      obtain ⟨rfl, rfl⟩ := ih h3
      have := Value.tuple.inj (pick_uniq hv hv2)
      simp at this
    | yes s4 _ l4 x2 g2 h3 hg2 hv2 =>
      obtain ⟨rfl, rfl⟩ := ih h3
      have e := Value.tuple.inj (pick_uniq hv hv2)
      have e2 : x = x2 := by simpa using e
      subst e2
      rw [hg] at hg2
      obtain rfl := Option.some.inj hg2
      exact ⟨rfl, rfl⟩
theorem cpR_inv {st st1 : Int → Option Gu} {k n : Nat} {l : List Int} (h : CpR st k l st1) (hi : CpI n st) : CpI n st1 ∧ l.length ≤ k := by
  induction h with
  | zero => exact ⟨hi, Nat.le_refl _⟩
  | no st1 k l h hv ih =>
    have := ih
    exact ⟨this.1, by omega⟩
  | yes st1 k l x g h hg hv ih =>
    have := ih
    exact ⟨this.1.ran hg _, by rw [List.length_append]; simp; omega⟩
theorem CpI.ready {k : Nat} {st : Int → Option Gu} (h : CpI k st) (hk : k ≤ 8) : (rdL st).length = k := by
  have e : rdL st = idx k := sorted_uniq (· < ·) int_asym _ _ (rdL_sorted st) (idx_sorted k) fun x => by
    rw [mem_rdL, mem_idx]
    constructor
    · rintro ⟨-, g, hg, -⟩
      exact (h.dom x g hg).1
    · rintro ⟨h0, h1⟩
      obtain ⟨g, hg⟩ := h.all x h0 h1
      exact ⟨by omega, g, hg, (h.dom x g hg).2⟩
  rw [e]
  unfold idx
  rw [List.length_map, List.length_range]
def cpD (st : Int → Option Gu) : Int → Option Gu := (scDel (scSleep st 0 5).1 1).1
theorem CpI.left {k : Nat} {st : Int → Option Gu} (h : CpI k st) (hk : k ≤ 8) : (rdL (cpD st)).length = k - 2 := by
  have e0 : ∀ x : Int, (cpD st x) = if x = 1 then none else if x = 0 then (st 0).map fun g => ⟨g.wt, g.us, true, 5⟩ else st x := fun x => by
    unfold cpD scDel scSleep
    cases h0 : st 0 with
    | none =>
      dsimp only
      cases h1 : st 1 with
      | none =>
        dsimp only
        by_cases e1 : x = 1
        · rw [if_pos e1, e1, h1]
        · rw [if_neg e1]
          by_cases e2 : x = 0
          · rw [if_pos e2, e2, h0]
            rfl
          · rw [if_neg e2]
      | some g =>
        have h2 := (h.dom 1 g h1).1
        obtain ⟨g0, h3⟩ := h.all 0 (by omega) (by omega)
        rw [h0] at h3
        cases h3
    | some g =>
      dsimp only
      have e3 : upd st 0 (some ⟨g.wt, g.us, true, 5⟩) 1 = st 1 := updElse _ _ _ _ (by decide)
      rw [e3]
      cases h1 : st 1 with
      | none =>
        dsimp only
        by_cases e1 : x = 1
        · rw [if_pos e1, e1, e3, h1]
        · rw [if_neg e1]
          by_cases e2 : x = 0
          · rw [if_pos e2, e2, updSame]
            rfl
          · rw [if_neg e2, updElse _ _ _ _ e2]
      | some g1 =>
        dsimp only
        by_cases e1 : x = 1
        · rw [if_pos e1, e1, updSame]
        · rw [if_neg e1, updElse _ _ _ _ e1]
          by_cases e2 : x = 0
          · rw [if_pos e2, e2, updSame]
            rfl
          · rw [if_neg e2, updElse _ _ _ _ e2]
  have e : rdL (cpD st) = (idx (k - 2)).map (· + 2) := by
    refine sorted_uniq (· < ·) int_asym _ _ (rdL_sorted _) ?_ fun x => ?_
    · rw [List.pairwise_map]
      exact (idx_sorted _).imp fun h => by omega
    · rw [mem_rdL, List.mem_map, e0]
      constructor
      · rintro ⟨h8, g, hg, hsl⟩
        by_cases e1 : x = 1
        · rw [if_pos e1] at hg
          cases hg
        · rw [if_neg e1] at hg
          by_cases e2 : x = 0
          · rw [if_pos e2] at hg
            cases h0 : st 0 with
            | none => rw [h0] at hg; cases hg
            | some g0 =>
              rw [h0] at hg
              rw [← Option.some.inj hg] at hsl
              cases hsl
          · rw [if_neg e2] at hg
            have := (h.dom x g hg).1
            exact ⟨x - 2, (mem_idx _ _).2 (by omega), by omega⟩
      · rintro ⟨y, hy, rfl⟩
        have hy := (mem_idx _ _).1 hy
        obtain ⟨g, hg⟩ := h.all (y + 2) (by omega) (by omega)
        exact ⟨by omega, g, by rw [if_neg (by omega), if_neg (by omega)]; exact hg, (h.dom _ g hg).2⟩
  rw [e, List.length_map]
  unfold idx
  rw [List.length_map, List.length_range]
end Go.Proofs.YtnhocmmgdkiepaaDoor

/-
  sched.Sched: Clone.
-/
namespace Go.Proofs.YtnhocmmgdkiepaaDoor
open Go.RowKit Go.Maps

theorem MpR.cnt_le {w : World} {mb r n : Nat} {F : Int → Option Nat} {left : Int → Bool} {cnt : Nat} (h : MpR w mb r n F left cnt) : cnt ≤ n := by
  obtain ⟨D, lf, ⟨es, clock, since, seen, c0, -, -, hs, -, -, -, hc, -⟩, -⟩ := h
  have : (leftOf es seen).size ≤ es.size := by
    unfold leftOf
    exact Array.size_filter_le
  omega
/-- somebody new, from wherever: the map, then the heap that he is in -/
theorem scIn {w1 : World} {p : Sl} {m : Nat} {F : Int → Option Nat} {R A : List On} {st : Int → Option Gu} (hm : ScMem w1 p m F R A) (hp : ScP m F R A) (hs : ScS R A st) (o : On) (pl : Int) (hok : onOk o) (hno : st o.id = none) (hm1 : m < 100) (hob : w1.heap[o.blk]? = some (.cells (onCells o pl) 109 (0, 0))) (hnb : ∀ z, InS R A z → z.blk ≠ o.blk) :
    (w1.cell? ⟨p.sb, 0, none⟩ = some (.map (some p.mb)) ∧ p.sb < w1.heap.size ∧ MpAt w1 p.mb m F) ∧ ∀ w4, MpAt w4 p.mb (m + 1) (updF F o.id (some o.blk)) → Only (fun k => k = p.mb) w1 w4 →
      (Calls Tryd.prog 58 #[.pointer (some ⟨p.sb, 0, none⟩), .pointer (some ⟨o.blk, 0, none⟩)] w4 fun e w' => e = .returned (.pointer (some ⟨if o.sl = true then p.ab else p.rb, 0, none⟩)) ∧ w4 = w') ∧
      Calls Tryd.prog 56 #[.iface 101 (.pointer (some ⟨if o.sl = true then p.ab else p.rb, 0, none⟩)), .iface 107 (.pointer (some ⟨o.blk, 0, none⟩))] w4 fun e w5 => e = .returned (.tuple #[]) ∧ ScAt w5 (fun b => scz p R A b ∨ b = o.blk ∨ w1.heap.size ≤ b) p.sb (m + 1) (upd st o.id (some o.gu)) ∧ Only (fun b => scz p R A b ∨ b = o.blk) w1 w5 := by
  refine ⟨⟨blk_cell hm.row 0, blk_lt hm.row, hm.map⟩, fun w4 h4 ho4 => ?_⟩
  have hm4 := hm.mapOp h4 ho4
  have hb4 : w4.heap[o.blk]? = some (.cells (onCells o pl) 109 (0, 0)) := by
    obtain ⟨es, c, hh⟩ := hm.map.ty
    exact ho4.blk hob (map_ne hh hob).symm
  refine ⟨sof_row w4 p.sb p.mb p.rb p.ab hm4.row o pl hb4, ?_⟩
  have hc := hp.cnt
  have fin : ∀ w5 p5 R5 A5, InOk w4 p (m + 1) (updF F o.id (some o.blk)) R A o w5 p5 R5 A5 → ScAt w5 (fun b => scz p R A b ∨ b = o.blk ∨ w1.heap.size ≤ b) p.sb (m + 1) (upd st o.id (some o.gu)) ∧ Only (fun b => scz p R A b ∨ b = o.blk) w1 w5 := fun w5 p5 R5 A5 h6 => by
    obtain ⟨g1, g2⟩ := scP_add hp hs (o' := o) hm1 hok hno h6.ins h6.ls (by have := h6.len; omega)
    refine ⟨⟨p5, _, R5, A5, h6.sb, h6.mem, g1, g2, fun b hb => ?_⟩, (ho4.mono fun b hb => .inl (.inl (.inl hb))).trans h6.only⟩
    rcases h6.zn b hb with h7 | h7 | h7
    · exact .inl h7
    · exact .inr (.inl h7)
    · exact .inr (.inr (Nat.le_trans ho4.size h7))
  by_cases hsl : o.sl = true
  · rw [if_pos hsl]
    refine (hpush_any p.ab p.av A o pl w4 hm4.sd hb4 (fun j hj => hnb _ (.a hj)) (by omega)).mono ?_
    rintro e w5 ⟨rfl, v', h5, ho5, hv5⟩
    obtain ⟨p5, R5, A5, h6⟩ := in_A hm4 ⟨hp.sr, hp.sa, hp.hr, hp.ha⟩ (o := o) hsl hb4 hnb h5 ho5 hv5
    exact ⟨rfl, fin w5 p5 R5 A5 h6⟩
  · rw [if_neg hsl]
    refine (hpush_any p.rb p.rv R o pl w4 hm4.rd hb4 (fun j hj => hnb _ (.r hj)) (by omega)).mono ?_
    rintro e w5 ⟨rfl, v', h5, ho5, hv5⟩
    obtain ⟨p5, R5, A5, h6⟩ := in_R hm4 ⟨hp.sr, hp.sa, hp.hr, hp.ha⟩ (o := o) (by simpa using hsl) hb4 hnb h5 ho5 hv5
    exact ⟨rfl, fin w5 p5 R5 A5 h6⟩
/-- what is copied so far -/
def CloTo (F : Int → Option Nat) (st : Int → Option Gu) (mb r m sb : Nat) (w : World) (wr : World) : Prop := ∃ (left : Int → Bool) (cnt m' : Nat) (st' : Int → Option Gu), MpR wr mb r m F left cnt ∧ ScAt wr (fun b => w.heap.size ≤ b ∧ b ≠ r) sb m' st' ∧ m' + cnt ≤ m ∧ (∀ x, kw x → left x = false → st' x = st x) ∧ (∀ x, kw x → left x = true → st' x = none) ∧ (∀ x, ¬ kw x → st' x = none) ∧ Below w.heap.size w wr ∧ r < wr.heap.size
def CloQ (m : Nat) (st : Int → Option Gu) (w : World) (e : Ending) (w' : World) : Prop := ∃ sb, e = .returned (.pointer (some ⟨sb, 0, none⟩)) ∧ ScAt w' (fun b => w.heap.size ≤ b) sb m st ∧ w.heap.size ≤ sb ∧ Below w.heap.size w w'
theorem st_kw {m : Nat} {F : Int → Option Nat} {R A : List On} {st : Int → Option Gu} (hp : ScP m F R A) (hs : ScS R A st) (x : Int) (hx : ¬ kw x) : st x = none := by
  cases hg : st x with
  | none => rfl
  | some g =>
    obtain ⟨o, ho, rfl⟩ := hs.s2 x g hg
    exact absurd (kw_of (by have := (hp.ids o ho).1; omega)) hx
set_option maxRecDepth 100000 in
set_option maxHeartbeats 12800000 in
theorem sclone_any (w : World) (Z : Nat → Prop) (sb m : Nat) (st : Int → Option Gu) (h : ScAt w Z sb m st) :
    Calls Tryd.prog 48 #[.pointer (some ⟨sb, 0, none⟩)] w (CloQ m st w) := by
  obtain ⟨p, F, R, A, rfl, hmm, hp, hs, -⟩ := h
  have HMM := Lib.hid hmm
  have HP := Lib.hid hp
  have HS := Lib.hid hs
  have HN := Lib.hid (snew_any w)
  have lsb := blk_lt hmm.row
  have HSB := Lib.hid lsb
  clear hmm hp hs lsb
  go_enter Tryd.func48, Tryd.ntmps48
  go_wp2_with fail
  refine HN.out.mono ?_
  rintro y w1 ⟨nb, rfl, hn1, hnb, hb1⟩
  have hmm1 := HMM.out.below hb1
  have HMP1 := Lib.hid hmm1.map
  have HN1 := Lib.hid hn1
  have HB1 := Lib.hid hb1
  have HNB := Lib.hid hnb
  have d0 : w1.cell? ⟨p.sb, 0, none⟩ = some (.map (some p.mb)) := blk_cell hmm1.row 0
  have dl := blk_lt hmm1.row
  clear hmm1 hn1 hb1 hnb
  go_wp2_with (first | (at_range; refine wp_range_mp _ rfl _ rfl p.mb m F rfl HMP1.out ?_; intro w2 cnt hr2 ho2 hs2) | go_in)
  have hb2 : Below w1.heap.size w1 w2 := ho2.below (B := w1.heap.size) (Nat.le_refl _) (fun k hk => hk.elim)
  have HST : Hid (CloTo F st p.mb w1.heap.size m nb w w2) := Lib.hid (by
    refine ⟨_, cnt, 0, noOne, hr2, (HN1.out.mono (Z' := fun b => w.heap.size ≤ b ∧ b ≠ w1.heap.size) fun b hlt hb => ⟨hb, by omega⟩).below hb2, by have := hr2.cnt_le; omega, fun x hx h => ?_, fun _ _ _ => rfl, fun _ _ => rfl, HB1.out.trans (hb2.mono HB1.out.size), by omega⟩
    rcases sc_look (w := w) (p := p) HP.out HS.out x hx with ⟨-, h2⟩ | ⟨o, -, -, h2, -⟩
    · exact h2.symm
    · rw [h2] at h
      cases h)
  obtain ⟨r, hr⟩ : ∃ r, w1.heap.size = r := ⟨_, rfl⟩
  have HRR : Hid (w.heap.size ≤ r ∧ nb < r) := Lib.hid (by rw [← hr]; exact ⟨HB1.out.size, HN1.out.lt⟩)
  rw [hr] at HST ⊢
  clear hr2 ho2 hs2 hb2 d0 dl HMP1 HN1 hr HB1
  simp only [Act.put, List.setIfInBounds_toArray, List.set_cons_succ, List.set_cons_zero]
  go_loopw [] (fun wr => CloTo F st p.mb r m nb w wr) (fun wr => wr.rangeLeft p.mb r)
  case atStart => exact HST.out
  case round =>
    obtain ⟨left, cnt, m', st', hr, hsc, hle, hl0, hl1, hl2, hb, hrs⟩ := hrel
    have HR := Lib.hid hr
    have HSC := Lib.hid hsc
    have HLE := Lib.hid hle
    have HL0 := Lib.hid hl0
    have HL1 := Lib.hid hl1
    have HL2 := Lib.hid hl2
    have HB := Lib.hid hb
    have HRS := Lib.hid hrs
    have hcnt := hr.cnt_eq
    have HCNT := Lib.hid hcnt
    have HM100 : Hid (m ≤ 100 ∧ p.mb < w.heap.size) := Lib.hid ⟨HP.out.m100, HMM.out.map.lt⟩
    clear hr hsc hle hl0 hl1 hl2 hb hrs hcnt HST
    go_wp2_with (first | (at_next; refine wp_next_mp _ rfl _ rfl p.mb r m F left cnt rfl HR.out ?_ ?_) | go_in)
    · intro hdone
      have HFIN : Hid (CloQ m st w (.returned (.pointer (some ⟨nb, 0, none⟩))) wr) := Lib.hid (by
        have est : st' = st := by
          funext x
          by_cases hx : kw x
          · exact HL0.out x hx (hdone x hx)
          · rw [HL2.out x hx, st_kw HP.out HS.out x hx]
        have h2 := HSC.out
        rw [est] at h2
        exact ⟨nb, rfl, (h2.up (by have := HLE.out; omega) HM100.out.1).mono fun b _ hb => hb.1, HNB.out, HB.out⟩)
      clear hdone
      go_wp2_with fail
      go_ret
      exact HFIN.out
    · intro z bz w3 cnt3 hz hlz hFz hr3 hlt3 ho3 hs3 hen
      obtain ⟨oz, hoz, hzid, hzb⟩ := HP.out.f2 z bz hz hFz
      subst hzid
      subst hzb
      obtain ⟨i, hbl, -⟩ := HMM.out.one hoz
      have hlz2 := blk_lt hbl
      have hbw : wr.heap[oz.blk]? = some (.cells (onCells oz (i : Int)) 109 (0, 0)) := blk_below hbl HB.out hlz2
      have hb3 := ho3.blk hbw (fun e => by have := HRR.out; omega)
      have c0 : w3.cell? ⟨oz.blk, 0, none⟩ = some (.int .i64 oz.id) := blk_cell hb3 0
      have c1 : w3.cell? ⟨oz.blk, 1, none⟩ = some (.int .i64 oz.wt) := blk_cell hb3 1
      have c2 : w3.cell? ⟨oz.blk, 2, none⟩ = some (.int .i64 oz.us) := blk_cell hb3 2
      have c3 : w3.cell? ⟨oz.blk, 3, none⟩ = some (.bool oz.sl) := blk_cell hb3 3
      have c4 : w3.cell? ⟨oz.blk, 4, none⟩ = some (.int .i64 oz.un) := blk_cell hb3 4
      have c5 : w3.cell? ⟨oz.blk, 5, none⟩ = some (.int .i64 (i : Int)) := blk_cell hb3 5
      have cl := blk_lt hb3
      obtain ⟨p', F', R', A', hpb, hm', hp', hs', hz'⟩ := HSC.out.keep ho3 (fun e => by have := HRR.out; omega) (fun b hb _ e => hb.2 e)
      subst hpb
      have x0 : w3.cell? ⟨p'.sb, 0, none⟩ = some (.map (some p'.mb)) := blk_cell hm'.row 0
      have xl := blk_lt hm'.row
      obtain ⟨o', ho'⟩ : ∃ o' : On, o' = ⟨oz.id, oz.wt, oz.us, oz.sl, oz.un, w3.heap.size⟩ := ⟨_, rfl⟩
      obtain ⟨W3, hW3⟩ : ∃ W3, w3.alloc (.cells (onCells oz (i : Int)) 109) = W3 := ⟨_, rfl⟩
      have hbW : Below w3.heap.size w3 W3 := hW3 ▸ (Below.refl _ _).alloc (Nat.le_refl _) _
      have hkW : W3.heap[o'.blk]? = some (.cells (onCells o' (i : Int)) 109 (0, 0)) := by
        rw [ho', ← hW3]
        exact blk_new w3 _
      have hsW : W3.heap.size = w3.heap.size + 1 := by rw [← hW3]; simp
      have hmW := hm'.below hbW
      have hnbk : ∀ q, InS R' A' q → q.blk ≠ o'.blk := fun q hq e => by
        obtain ⟨k, hh, -⟩ := hm'.one hq
        have := blk_lt hh
        rw [e, ho'] at this
        exact Nat.lt_irrefl _ this
      have hid : o'.id = oz.id := by rw [ho']
      have hbk : o'.blk = w3.heap.size := by rw [ho']
      have hgu : o'.gu = oz.gu := by rw [ho']; rfl
      have hsl : o'.sl = oz.sl := by rw [ho']
      have HXW : Hid (m' < 100 ∧ m' + 1 + cnt3 ≤ m) := Lib.hid (by
        have h1 := HLE.out
        have h2 := HM100.out.1
        omega)
      obtain ⟨-, hin⟩ := scIn hmW hp' hs' o' (i : Int) (by
        have := HP.out.ids oz hoz
        rw [ho']
        exact this) (by rw [hid]; exact HL1.out _ hz hlz) HXW.out.1 hkW hnbk
      rw [hid, hbk, hgu, hsl] at hin
      obtain ⟨hh, hhh⟩ : ∃ x, (if oz.sl = true then p'.ab else p'.rb) = x := ⟨_, rfl⟩
      rw [hhh] at hin
      clear hhh
      have HIN := Lib.hid hin
      have HMAP := Lib.hid hmW.map
      have HFIN : Hid (∀ w5, ScAt w5 (fun b => scz p' R' A' b ∨ b = w3.heap.size ∨ W3.heap.size ≤ b) p'.sb (m' + 1) (upd st' oz.id (some oz.gu)) ∧ Only (fun b => scz p' R' A' b ∨ b = w3.heap.size) W3 w5 → CloTo F st p.mb r m p'.sb w w5 ∧ w5.rangeLeft p.mb r < wr.rangeLeft p.mb r) := Lib.hid fun w5 ⟨h1, h2⟩ => by
        have hsz := HB.out.size
        have hsz3 : wr.heap.size ≤ w3.heap.size := ho3.size
        have hrr := HRR.out
        have hrlt := HRS.out
        have hmr : MpR w5 p.mb r m F (fun q => left q && !(q == oz.id)) cnt3 := by
          refine (hr3.keep (G := fun _ => False) (Only.of_below hbW) (fun h => h) (fun h => h)).keep h2 (fun h => ?_) (fun h => ?_)
          · rcases h with h | h
            · have := (hz' _ h).1; have := HM100.out.2; omega
            · have := HM100.out.2; omega
          · rcases h with h | h
            · exact (hz' _ h).2 rfl
            · omega
        refine ⟨⟨_, cnt3, m' + 1, _, hmr, h1.mono fun b _ hb => ?_, HXW.out.2, fun x hx h => ?_, fun x hx h => ?_, fun x hx => ?_, ?_, ?_⟩, ?_⟩
        · rcases hb with hb | hb | hb
          · exact hz' b hb
          · omega
          · omega
        · by_cases e : x = oz.id
          · rw [e]
            exact (if_pos rfl).trans (HS.out.s1 oz hoz).symm
          · rw [show upd st' oz.id (some oz.gu) x = st' x from if_neg e]
            refine HL0.out x hx ?_
            simpa [e] using h
        · have h3 : left x = true ∧ x ≠ oz.id := by simpa using h
          rw [show upd st' oz.id (some oz.gu) x = st' x from if_neg h3.2]
          exact HL1.out x hx h3.1
        · rw [show upd st' oz.id (some oz.gu) x = st' x from if_neg (fun e => hx (by rw [e]; exact hz))]
          exact HL2.out x hx
        · refine ((HB.out.trans (ho3.below (B := w.heap.size) hsz fun b hb => by have h4 : b = r := hb; omega)).trans (hbW.mono (by omega))).trans (h2.below (B := w.heap.size) (by omega) fun b hb => ?_)
          rcases hb with hb | hb
          · exact (hz' b hb).1
          · omega
        · have := h2.size
          omega
        · rw [hmr.cnt_eq, HCNT.out]
          exact hlt3
      unfold onCells at hW3
      have HW3 := Lib.hid hW3
      obtain ⟨zi, hzi⟩ : ∃ x, oz.id = x := ⟨_, rfl⟩
      rw [hzi] at c0 HIN HFIN HW3 hz hen ⊢
      have HKZ := Lib.hid hz
      obtain ⟨B, hB⟩ : ∃ B, w3.heap.size = B := ⟨_, rfl⟩
      have HBB := Lib.hid hB
      have HM90 : Hid (m' < maxLen) := Lib.hid (by have := HXW.out.1; unfold maxLen; omega)
      clear hFz hlz hoz hbl hlz2 hbw hb3 hr3 hlt3 ho3 hs3 hm' hp' hs' hz' ho' hW3 hbW hkW hsW hmW hnbk hid hbk hgu hsl hin HXW hB hz
      go_wp2_with (at_mapUpdate; rw [HW3.out]; refine wp_update_mp _ rfl _ _ _ rfl p'.mb m' HM90.out F' rfl HMAP.out zi rfl HKZ.out w3.heap.size rfl ?_)
      intro w4 h4 ho4
      obtain ⟨hof, hpu⟩ := HIN.out w4 h4 ho4
      have HOF := Lib.hid hof
      have HPU := Lib.hid hpu
      clear h4 ho4 hof hpu x0 xl c0 c1 c2 c3 c4 c5 cl
      go_wp2_with fail
      refine HOF.out.mono ?_
      rintro y w4' ⟨rfl, rfl⟩
      go_wp2_with fail
      refine HPU.out.mono ?_
      rintro y w5 ⟨rfl, hf⟩
      have HF := Lib.hid (HFIN.out w5 hf)
      clear hf
      go_wp2_with fail
      go_roundw
      case rel => exact HF.out.1
      case measure => exact HF.out.2
end Go.Proofs.YtnhocmmgdkiepaaDoor

/-
  facaderef.SameInts: are two lists the same?
-/
namespace Go.Proofs.YtnhocmmgdkiepaaDoor
open Go.RowKit

/-- the first k are the same -/
def SameIntsTo (xs ys : List Int) (w : World) (i : Value) (wr : World) : Prop := ∃ k : Nat, k ≤ xs.length ∧ i = .int .i64 k ∧ xs.take k = ys.take k ∧ ∃ n, wr = w.drewN n

set_option maxHeartbeats 800000 in
theorem sameInts_any (xs ys : List Int) (ao bo : Option Addr) (c1 c2 : Nat) (w : World) (hx : AtL w ao (ints xs)) (hy : AtL w bo (ints ys)) (hl : xs.length ≤ 1000000000) (hl2 : ys.length ≤ 1000000000) :
    Calls Tryd.prog 23 #[.slice ao xs.length c1, .slice bo ys.length c2] w fun e w' => e = .returned (.bool (decide (xs = ys))) ∧ ∃ n, w' = w.drewN n := by
  by_cases hlen : xs.length = ys.length
  · have HX := Lib.hid hx
    have HY := Lib.hid hy
    have HLEN := Lib.hid hlen
    rw [← HLEN.out]
    clear hx hy hlen
    go_enter Tryd.func23, Tryd.ntmps23
    go_wp2_with fail
    go_loopw [5] (fun i wr => SameIntsTo xs ys w i wr) (fun i _ => xs.length - (intOf i).toNat)
    case atStart => exact ⟨0, Nat.zero_le _, rfl, rfl, 0, rfl⟩
    case round =>
      obtain ⟨k, hk, rfl, hs, n, rfl⟩ := hrel
      have HS := Lib.hid hs
      clear hs
      by_cases hlt : k < xs.length
      · have hlt2 : k < ys.length := by have := HLEN.out; omega
        obtain ⟨b, o, rfl, p0, hb⟩ := HX.out k _ (ints_get xs k hlt)
        obtain ⟨b2, o2, rfl, q0, hb2⟩ := HY.out k _ (ints_get ys k hlt2)
        obtain ⟨x, hx⟩ : ∃ x, xs.getD k 0 = x := ⟨_, rfl⟩
        obtain ⟨y, hy⟩ : ∃ y, ys.getD k 0 = y := ⟨_, rfl⟩
        rw [hx] at p0
        rw [hy] at q0
        have HXE := Lib.hid hx
        have HYE := Lib.hid hy
        have hki : (k : Int) < (xs.length : Int) := by omega
        clear hx hy
        by_cases hxy : x = y
        · have hbq : (x == y) = true := by simp [hxy]
          have HXY := Lib.hid hxy
          clear hxy
          go_wp2_with fail
          go_quiet (fail)
          go_wp2
          go_roundw
          case rel => exact ⟨k + 1, by omega, by go_num, take_eq 0 hlt hlt2 HS.out (by rw [HXE.out, HYE.out, HXY.out]), n + nq, rfl⟩
          case measure => simp [intOf]; omega
        · have hbq : (x == y) = false := by simp [hxy]
          have HXY := Lib.hid hxy
          clear hxy
          go_wp2_with fail
          go_quiet (fail)
          go_wp2
          go_ret
          refine ⟨ret_bool ?_, n + nq, rfl⟩
          symm
          rw [decide_eq_false_iff_not]
          intro h
          subst h
          exact HXY.out (HXE.out.symm.trans HYE.out)
      · obtain rfl : k = xs.length := by omega
        go_wp2
        go_ret
        refine ⟨ret_bool ?_, n, rfl⟩
        symm
        rw [decide_eq_true_eq]
        have := HS.out
        rwa [List.take_length, List.take_of_length_le (by rw [HLEN.out]; exact Nat.le_refl _)] at this
  · have hne : ((xs.length : Int) != (ys.length : Int)) = true := by rw [bne_iff_ne]; omega
    have HLEN := Lib.hid hlen
    clear hlen hx hy
    go_enter Tryd.func23, Tryd.ntmps23
    go_wp2
    go_ret
    refine ⟨ret_bool ?_, 0, rfl⟩
    symm
    rw [decide_eq_false_iff_not]
    intro h
    exact HLEN.out (by rw [h])
end Go.Proofs.YtnhocmmgdkiepaaDoor

/-
  SchedSleeps: the walk. Given where the sentinels lie.
-/
namespace Go.Proofs.YtnhocmmgdkiepaaDoor
open Go.RowKit

theorem ScAt.tight {w : World} {Z : Nat → Prop} {sb m : Nat} {st : Int → Option Gu} (h : ScAt w Z sb m st) : ∃ Zn : Nat → Prop, ScAt w Zn sb m st ∧ (∀ b, Zn b → Z b ∧ b < w.heap.size) ∧ ∀ v n xs, w.ownsRow 0 3 1 v n xs → ∀ k, inRow v k → ¬ Zn k ∧ k ≠ sb := by
  obtain ⟨p, F, R, A, rfl, hm, hp, hs, hz⟩ := h
  exact ⟨scz p R A, ⟨p, F, R, A, rfl, hm, hp, hs, fun b h => h⟩, fun b hb => ⟨hz b hb, hm.lt.2 b hb⟩, fun v n xs ho k hk => hm.int_row ho k hk⟩
theorem slDelErr {E : Nat → Addr} {w wr : World} {sb m : Nat} {st : Int → Option Gu} (hE : ErrL E w) (h : ScL w wr sb m st) (x : Int) (hx : kw x) (hg : st x = none) :
    Calls Tryd.prog 18 #[.pointer (some ⟨sb, 0, none⟩), .int .i64 x] wr fun e w' => e = .returned (errD E 107) ∧ ScL w w' sb m st :=
  (sdel_any E wr _ sb m st h.sc (hE _ h.b) x hx).mono fun e w' ⟨h1, h3, h4⟩ => by
    have hr : scDel st x = (st, 107) := by unfold scDel; rw [hg]
    rw [hr] at h1 h3
    exact ⟨h1, h.step h3 h4⟩
/-- a row of numbers of the call's own, grown since W -/
def RowTo (W : World) (xs : List Int) (v : Value) (wr : World) : Prop := ∃ (vo : Option Addr) (vc : Nat), v = .slice vo xs.length vc ∧ Below W.heap.size W wr ∧ wr.ownsRow 0 3 1 v xs.length (ints xs) ∧ ∀ b, inRow v b → W.heap.size ≤ b
theorem rowTo_grown {W wr wx : World} {xs : List Int} {vo : Option Addr} {vc : Nat} {x : Int} {v' : Value} (hB : Below W.heap.size W wr) (hF : ∀ b, inRow (.slice vo xs.length vc) b → W.heap.size ≤ b)
    (ho : wx.ownsRow 0 3 1 v' (xs.length + 1) (ints xs ++ [.int .i64 x])) (hg : (wr.alloc (.cells #[.int .i64 x] 3)).grownBy wx (Value.slice vo xs.length vc).ownBlock) (hs : ∀ b, inRow v' b → inRow (.slice vo xs.length vc) b ∨ wr.heap.size + 1 ≤ b) :
    RowTo W (xs ++ [x]) v' wx := by
  obtain ⟨ao6, cap6, rfl⟩ := own_slice ho
  have hsz := hB.size
  have ha : Below W.heap.size W (wr.alloc (.cells #[.int .i64 x] 3)) := hB.alloc hsz _
  have hG := Only.grown (Only.refl (fun b => inRow (.slice vo xs.length vc) b) (wr.alloc (.cells #[.int .i64 x] 3))) hg (fun k hk => .inl hk)
  refine ⟨ao6, cap6, by rw [List.length_append]; rfl, ha.trans (hG.below (B := W.heap.size) ha.size fun b hb => hF b hb), ?_, fun b hb => ?_⟩
  · rw [List.length_append, show ints (xs ++ [x]) = ints xs ++ [.int .i64 x] by simp [ints]]
    exact ho
  · rcases hs b hb with h | h
    · exact hF b h
    · have h' := h
      try simp only [World.size_alloc] at h'
      omega
def SlA (l : List Int) (n sb : Nat) (w : World) (i : Value) (wr : World) : Prop := ∃ k : Nat, k ≤ n ∧ i = .int .i64 (k : Int) ∧ ScL w wr sb k (slSt l k)
def SlB (l : List Int) (n tn : Nat) (W : World) (v t : Value) (wr : World) : Prop := ∃ k : Nat, k ≤ tn + 1 ∧ t = .int .i64 (k : Int) ∧ RowTo W (wnT l n k) v wr
def SlC (l : List Int) (n t : Nat) (W : World) (v i : Value) (wr : World) : Prop := ∃ k : Nat, k ≤ n ∧ i = .int .i64 (k : Int) ∧ RowTo W (wnT l n t ++ wnI l (t : Int) k) v wr
def SlE (wl : List Int) (W : World) (z i : Value) (wr : World) : Prop := ∃ (k : Nat) (x : Int), k ≤ wl.length ∧ i = .int .i64 (k : Int) ∧ z = .int .i64 x ∧ LsOk (wl.take k) x ∧ wr = W
theorem slGet (l : List Int) (k : Nat) (h : k < l.length) : (ints l)[k]? = some (.int .i64 (l.getD k 0)) := by
  rw [ints, List.getElem?_map, List.getElem?_eq_getElem h, List.getD_eq_getElem?_getD, List.getElem?_eq_getElem h]
  rfl
theorem takeSucc (l : List Int) (k : Nat) (h : k < l.length) : l.take (k + 1) = l.take k ++ [l.getD k 0] := by
  rw [List.take_add_one, List.getElem?_eq_getElem h, List.getD_eq_getElem?_getD, List.getElem?_eq_getElem h]
  rfl
set_option maxRecDepth 100000 in
set_option maxHeartbeats 32000000 in
theorem schedSleeps_some (E : Nat → Addr) (l : List Int) (ao : Option Addr) (cap : Nat) (x1 : Int) (w : World) (hE : ErrsAt errT gOf w E all16) (hl : AtL w ao (ints l)) (hlz : ∀ z ∈ l, -9223372036854775808 ≤ z ∧ z ≤ 9223372036854775807) (h8 : l.length ≤ 8) (h1 : -9223372036854775808 ≤ x1 ∧ x1 ≤ 9223372036854775807) :
    Calls Tryd.prog 9 #[.slice ao l.length cap, .int .i64 x1] w fun e w' => e = .returned (.bool true) ∧ Below w.heap.size w w' := by
  obtain ⟨i0, hi, hz0, hz1, hz2⟩ := info_parts infoIntW
  have HE16 : Hid (∀ wx, Below w.heap.size w wx → ErrsAt errT gOf wx E all16) := Lib.hid fun wx h => hE.mono h
  have HE : Hid (ErrL E w) := Lib.hid fun wx h => scErr_of (hE.mono h) (by decide) (by decide) (by decide)
  have HF := Lib.hid (scfirst_true E w HE.out)
  have HN1 := Lib.hid (fun wx => number_any x1 20 wx h1.1 h1.2 (by decide) (by decide))
  have HL := Lib.hid hl
  have HLZ := Lib.hid hlz
  obtain ⟨n, hn⟩ : ∃ n, l.length = n := ⟨_, rfl⟩
  have HLN := Lib.hid hn
  obtain ⟨tn, htn⟩ : ∃ t : Nat, x1 % 20 = (t : Int) := ⟨(x1 % 20).toNat, by omega⟩
  have HT : Hid (tn < 20) := Lib.hid (by omega)
  rw [htn] at HN1
  rw [hn] at h8 ⊢
  have k1 : ¬ (8 : Int) < (n : Int) := by omega
  have HNN := Lib.hid h8
  have HRD : Hid (∀ (wr : World) (k : Nat), Below w.heap.size w wr → k < n → ∃ g off, ao = some ⟨g, off, none⟩ ∧ wr.cell? ⟨g, off + k, none⟩ = some (.int .i64 (l.getD k 0)) ∧ g < wr.heap.size ∧ ∀ wx, Calls Tryd.prog 13 #[.int .i64 (l.getD k 0), .int .i64 20] wx fun e w' => e = .returned (.int .i64 (slD l (k : Int))) ∧ wx = w') := Lib.hid fun wr k hb hk => by
    obtain ⟨g, off, e, c0, hg⟩ := HL.out k _ (slGet l k (by omega))
    have hzb : -9223372036854775808 ≤ l.getD k 0 ∧ l.getD k 0 ≤ 9223372036854775807 := HLZ.out _ (by
      rw [List.getD_eq_getElem?_getD, List.getElem?_eq_getElem (by omega)]
      exact List.getElem_mem _)
    refine ⟨g, off, e, (hb.cell (p := ⟨g, off + k, none⟩) hg).trans c0, Nat.lt_of_lt_of_le hg hb.size, fun wx => ?_⟩
    have := number_any (l.getD k 0) 20 wx hzb.1 hzb.2 (by decide) (by decide)
    unfold slD
    rw [Int.toNat_natCast]
    exact this
  have HIS : Hid (∀ c : Int, (c = 0 ∨ (101 ≤ c ∧ c ≤ 116)) → ∀ wx, Below w.heap.size w wx → Calls Tryd.prog 19 #[errD E c, .int .i64 c] wx fun e w' => e = .returned (.bool true) ∧ Below wx.heap.size wx w') := Lib.hid fun c hc wx hx => by
    have := is_any E (errD E c) c c (errD_num E c hc) wx (HE16.out wx hx)
    rwa [decide_eq_true rfl] at this
  clear hE hl hlz h1 hn htn h8
  go_enter Tryd.func9, Tryd.ntmps9
  go_wp2_with fail
  refine HF.out.mono ?_
  rintro y w0 ⟨rfl, hb0⟩
  have HN := Lib.hid (slNew w w0 hb0)
  clear hb0
  go_wp2_with fail
  refine (HN1.out _).mono ?_
  rintro y wq ⟨rfl, rfl⟩
  go_wp2_with fail
  refine HN.out.mono ?_
  rintro y w1 ⟨sb, rfl, s1⟩
  rw [slSt_zero l] at s1
  have HST : Hid (SlA l n sb w (.int .i64 0) w1) := Lib.hid ⟨0, Nat.zero_le _, rfl, s1⟩
  clear s1
  go_wp2_with fail
  go_loopw [8] (fun i wr => SlA l n sb w i wr) (fun i _ => n - (intOf i).toNat)
  case atStart => exact HST.out
  case round =>
    obtain ⟨k, hk, rfl, hs⟩ := hrel
    have HS := Lib.hid hs
    have hk8 : k ≤ 8 := by have := HNN.out; omega
    clear hs HST
    by_cases hlt : k < n
    · have hki : (k : Int) < (n : Int) := by omega
      have wk := IntWalk.i64_in ((k : Int) + 1) (by omega)
      have HKW : Hid (kw (k : Int)) := Lib.hid (kw_of (by omega))
      have HAD := Lib.hid (slAdd HE.out HS.out (by omega) (k : Int) 10 (by unfold addBad; omega) (slSt_out _ _ _ (by omega)))
      go_wp2_with fail
      refine HAD.out.mono ?_
      rintro y w2 ⟨rfl, u, hu, s2⟩
      obtain rfl := slSt_minU hu
      have hsl := slSleep HE.out s2 (k : Int) 1000 HKW.out (kw_of (by omega)) _ (updSame _ _ _)
      rw [upd_upd] at hsl
      have HSL1 := Lib.hid hsl
      clear hu s2 hsl
      go_wp2_with fail
      refine HSL1.out.mono ?_
      rintro y w3 ⟨rfl, s3⟩
      obtain ⟨g, off, rfl, c1, lg, hnu⟩ := HRD.out w3 k s3.b hlt
      have HNU := Lib.hid hnu
      have hsl := slSleep HE.out s3 (k : Int) (slD l (k : Int)) HKW.out (kw_of (by have := slD_range l (k : Int); omega)) _ (updSame _ _ _)
      rw [upd_upd] at hsl
      dsimp only at hsl
      rw [slSt_add] at hsl
      have HSL2 := Lib.hid hsl
      obtain ⟨z, hz⟩ : ∃ z, l.getD k 0 = z := ⟨_, rfl⟩
      rw [hz] at c1 HNU
      clear hnu s3 hsl hz
      go_wp2_with fail
      refine (HNU.out _).mono ?_
      rintro y wy ⟨rfl, rfl⟩
      go_wp2_with fail
      refine HSL2.out.mono ?_
      rintro y w4 ⟨rfl, s4⟩
      have HF2 : Hid (SlA l n sb w (.int .i64 ((k : Int) + 1)) w4) := Lib.hid ⟨k + 1, hlt, by go_num, s4⟩
      clear s4 c1 lg
      go_wp2_with fail
      go_roundw
      case rel => exact HF2.out
      case measure => simp [intOf]; omega
    · have hkn : k = n := by omega
      subst hkn
      have hki : ¬ (k : Int) < (k : Int) := by omega
      obtain ⟨Zn, hsc, hZn, hrw⟩ := HS.out.sc.tight
      have HSC := Lib.hid hsc
      have HZN := Lib.hid hZn
      have HST2 : Hid (SlB l k tn wr (.slice none 0 0) (.int .i64 0) wr) := Lib.hid ⟨0, Nat.zero_le _, rfl, none, 0, rfl, Below.refl _ _, own_nil _ _ _, fun b hb => by simp [inRow, Value.ownBlock] at hb⟩
      have HBW : Hid (Below w.heap.size w wr) := Lib.hid HS.out.b
      obtain ⟨W1, hW1⟩ : ∃ W, W = wr := ⟨_, rfl⟩
      subst hW1
      clear hsc hZn hrw HS
      go_wp2_with fail
      go_loopw [7, 9] (fun v t wr => SlB l k tn W1 v t wr) (fun _ t _ => tn + 1 - (intOf t).toNat)
      case atStart => exact HST2.out
      case round =>
        obtain ⟨t, ht, rfl, vo, vc, rfl, hb, hown, hfr⟩ := hrel
        have HB := Lib.hid hb
        have HOWN := Lib.hid hown
        have HFR := Lib.hid hfr
        clear hb hown hfr HST2
        by_cases htl : t < tn + 1
        · have hti : (t : Int) ≤ (tn : Int) := by omega
          have wt1 := IntWalk.i64_in ((t : Int) + 1) (by have := HT.out; omega)
          have HST3 : Hid (SlC l k t W1 (.slice vo (wnT l k t).length vc) (.int .i64 0) wr) := Lib.hid ⟨0, Nat.zero_le _, rfl, by
            have : wnI l (t : Int) 0 = [] := rfl
            rw [this, List.append_nil]
            exact ⟨vo, vc, rfl, HB.out, HOWN.out, HFR.out⟩⟩
          obtain ⟨a, ha⟩ : ∃ a, (wnT l k t).length = a := ⟨_, rfl⟩
          rw [ha] at HST3 ⊢
          clear HB HOWN HFR ha
          go_wp2_with fail
          go_loopw [7, 10] (fun v i wr => SlC l k t W1 v i wr) (fun _ i _ => k - (intOf i).toNat)
          case atStart => exact HST3.out
          case round =>
            obtain ⟨i, hik, rfl, vo2, vc2, rfl, hb, hown, hfr⟩ := hrel
            have HB := Lib.hid hb
            have HOWN := Lib.hid hown
            have HFR := Lib.hid hfr
            clear hb hown hfr HST3
            by_cases hil : i < k
            · have hii : (i : Int) < (k : Int) := by omega
              have wi1 := IntWalk.i64_in ((i : Int) + 1) (by omega)
              obtain ⟨g, off, rfl, c1, lg, hnu⟩ := HRD.out wr i (HBW.out.trans (HB.out.mono HBW.out.size)) hil
              have HNU := Lib.hid hnu
              have HYES := Lib.hid (fun h => wnI_yes l (t : Int) i h)
              have HNO := Lib.hid (fun h => wnI_no l (t : Int) i h)
              have HCNT : Hid ((wnT l k t ++ wnI l (t : Int) i).length ≤ 1000) := Lib.hid (by
                have h1 := wnT_len l k t
                have h2 := wnI_len l (t : Int) i
                have h3 := HT.out
                have h4 : k * t ≤ 8 * 20 := Nat.mul_le_mul hk8 (by omega)
                rw [List.length_append]
                omega)
              obtain ⟨z, hz⟩ : ∃ z, l.getD i 0 = z := ⟨_, rfl⟩
              rw [hz] at c1 HNU
              obtain ⟨q, hq⟩ : ∃ q, slD l (i : Int) = q := ⟨_, rfl⟩
              rw [hq] at HNU HYES HNO
              obtain ⟨xs, hxs⟩ : ∃ xs, wnT l k t ++ wnI l (t : Int) i = xs := ⟨_, rfl⟩
              rw [hxs] at HOWN HFR HCNT ⊢
              have HXS := Lib.hid hxs
              obtain ⟨a, ha⟩ : ∃ a, xs.length = a := ⟨_, rfl⟩
              have HA := Lib.hid ha
              rw [ha] at HOWN HFR HCNT ⊢
              clear hnu hz hq hxs ha
              by_cases hqt : q = (t : Int)
              · have hqb : (q == (t : Int)) = true := by rw [beq_iff_eq]; exact hqt
                have HAP : Hid (wnT l k t ++ wnI l (t : Int) (i + 1) = xs ++ [(i : Int)]) := Lib.hid (by rw [HYES.out hqt, ← HXS.out, List.append_assoc])
                clear hqt
                go_wp2_with fail
                refine (HNU.out _).mono ?_
                rintro y wy ⟨rfl, rfl⟩
                go_wp2_with (at_builtin; refine wpList_append_sep _ rfl _ _ 35 rfl 3 i0 (.int .i64 0) 1 8 Tryd.underlying35 hi hz0 hz1 hz2 rfl (by decide) _ _ _ rfl (HOWN.out.alloc _) ⟨wr.heap.size, 0, none⟩ 1 1 [.int .i64 (i : Int)] rfl rfl (cell_one_new _ _ _) (by simp [Value.oneCell']) (by unfold maxLen; have := HCNT.out; omega) (by have := HCNT.out; omega) ?_)
                intro v' wx ho6 hg6 hs6
                have HFIN : Hid (SlC l k t W1 v' (.int .i64 ((i : Int) + 1)) wx) := Lib.hid ⟨i + 1, hil, by go_num, by
                  rw [HAP.out]
                  have HAo := HA.out
                  subst HAo
                  exact rowTo_grown HB.out HFR.out ho6 hg6 hs6⟩
                clear ho6 hg6 hs6 c1 lg
                go_wp2_with fail
                go_roundw
                case rel => exact HFIN.out
                case measure => simp [intOf]; omega
              · have hqb : (q == (t : Int)) = false := by rw [beq_eq_false_iff_ne]; exact hqt
                have HFIN : Hid (SlC l k t W1 (.slice vo2 a vc2) (.int .i64 ((i : Int) + 1)) wr) := Lib.hid ⟨i + 1, hil, by go_num, by
                  rw [HNO.out hqt, HXS.out]
                  have HAo := HA.out
                  subst HAo
                  exact ⟨vo2, vc2, rfl, HB.out, HOWN.out, HFR.out⟩⟩
                clear hqt
                go_wp2_with fail
                refine (HNU.out _).mono ?_
                rintro y wy ⟨rfl, rfl⟩
                go_wp2_with fail
                go_roundw
                case rel => exact HFIN.out
                case measure => simp [intOf]; omega
            · have hik2 : i = k := by omega
              subst hik2
              have hii : ¬ (i : Int) < (i : Int) := by omega
              have HFIN : Hid (SlB l i tn W1 (.slice vo2 (wnT l i t ++ wnI l (t : Int) i).length vc2) (.int .i64 ((t : Int) + 1)) wr) := Lib.hid ⟨t + 1, by omega, by go_num, by
                rw [wnT_succ]
                exact ⟨vo2, vc2, rfl, HB.out, HOWN.out, HFR.out⟩⟩
              obtain ⟨a, ha⟩ : ∃ a, (wnT l i t ++ wnI l (t : Int) i).length = a := ⟨_, rfl⟩
              rw [ha] at HFIN ⊢
              clear HB HOWN HFR ha
              go_wp2_with fail
              go_roundw
              case rel => exact HFIN.out
              case measure => simp [intOf]; omega
        · have htn : t = tn + 1 := by omega
          have hti : ¬ (t : Int) ≤ (tn : Int) := by omega
          have hwl0 := wnT_len l k t
          obtain ⟨wl, hwl⟩ : ∃ wl, wnT l k t = wl := ⟨_, rfl⟩
          have HWL : Hid (wl = wnT l k (tn + 1)) := Lib.hid (by rw [← hwl, htn])
          have HWLEN : Hid (wl.length ≤ 1000) := Lib.hid (by
            have h3 := HT.out
            have h4 : k * t ≤ 8 * 20 := Nat.mul_le_mul hk8 (by omega)
            rw [← hwl]
            omega)
          have HWP : Hid (∀ x ∈ wl, -9223372036854775808 ≤ x ∧ x ≤ 9223372036854775807 ∧ 0 ≤ x) := Lib.hid fun x hx => by
            have h3 := HWL.out
            rw [h3] at hx
            have := (mem_wnT l k (tn + 1) x).1 hx
            omega
          rw [hwl] at HOWN HFR ⊢
          clear hwl hwl0
          have hsc2 := HSC.out.below HB.out
          have HPK := Lib.hid (spick_any _ _ sb k _ hsc2)
          have HWK := Lib.hid (swake_any wr Zn sb k _ hsc2 (tn : Int))
          have HB0 : Hid (Below w.heap.size w wr) := Lib.hid (HBW.out.trans (HB.out.mono HBW.out.size))
          have HWZ : Hid (∀ b, inRow (.slice vo wl.length vc) b → ¬ Zn b) := Lib.hid fun b hb hz => by
            have h2 := HFR.out b hb
            have h3 := (HZN.out b hz).2
            omega
          clear hsc2
          go_wp2_with fail
          refine HPK.out.mono ?_
          rintro y w2 ⟨⟨v, rfl, hv⟩, rfl⟩
          obtain rfl := sleeps_none hv
          clear hv
          go_wp2_with fail
          refine HWK.out.mono ?_
          rintro y w3 ⟨gv, lw, st', Zn', rfl, hwk, -, h4, h5, ho3, hown3, hfr3⟩
          obtain rfl : lw = wl := (sleeps_got hwk).trans HWL.out.symm
          have HWOK := Lib.hid hwk
          have hwant3 := own_only HOWN.out ho3 HWZ.out
          have HB3 : Hid (Below w.heap.size w w3) := Lib.hid (HB0.out.trans (ho3.below (B := w.heap.size) HB0.out.size fun b hb => (HZN.out b hb).1))
          have HWK2 := Lib.hid (swake_any w3 Zn' sb k _ h4 (tn : Int))
          have HZ' : Hid (∀ b, Zn' b → w.heap.size ≤ b) := Lib.hid fun b hb => by
            rcases h5 b hb with h | h
            · exact (HZN.out b h).1
            · exact Nat.le_trans HB0.out.size h
          have HWZ' : Hid (∀ b, inRow (.slice vo lw.length vc) b → ¬ Zn' b) := Lib.hid fun b hb hz => by
            rcases h5 b hz with h | h
            · exact HWZ.out b hb h
            · have := own_lt HOWN.out hb
              omega
          have HW3 := Lib.hid hwant3
          have HG3 := Lib.hid hown3
          have HGF := Lib.hid hfr3
          clear hwk h4 h5 ho3 hown3 hfr3 hwant3
          go_wp2_with fail
          refine HWK2.out.mono ?_
          rintro y w4 ⟨av, l2, st2, Zn2, rfl, hwk2, -, h42, h52, ho4, hown4, -⟩
          obtain ⟨rfl, est⟩ := sleeps_again HWOK.out hwk2
          rw [est] at h42
          clear est hwk2
          have hW4 := own_only HW3.out ho4 HWZ'.out
          have hG4 := own_only HG3.out ho4 fun b hb => (HGF.out b hb).2.1
          obtain ⟨aov, acap, rfl⟩ := own_slice hown4
          obtain ⟨gov, gcap, hgv, hatg⟩ := atL_of_own hG4
          obtain ⟨wov, wcap, hwv, hatw⟩ := atL_of_own hW4
          obtain ⟨e1, -, e2⟩ := Value.slice.inj hwv
          subst e1 e2 hgv
          have HSI := Lib.hid (sameInts_any lw lw gov vo gcap vc w4 hatg hatw (by have := HWLEN.out; omega) (by have := HWLEN.out; omega))
          rw [decide_eq_true (rfl : lw = lw)] at HSI
          have HB4 : Hid (Below w.heap.size w w4) := Lib.hid (HB3.out.trans (ho4.below (B := w.heap.size) HB3.out.size fun b hb => HZ'.out b hb))
          have HSC4 := Lib.hid h42
          have HZ2 : Hid (∀ b, Zn2 b → w.heap.size ≤ b) := Lib.hid fun b hb => by
            rcases h52 b hb with h | h
            · exact HZ'.out b h
            · exact Nat.le_trans HB3.out.size h
          have HATW := Lib.hid hatw
          clear h42 h52 ho4 hown4 hW4 hG4 hatg hatw hwv
          obtain ⟨m, hm⟩ : ∃ m, lw.length = m := ⟨_, rfl⟩
          have HM := Lib.hid hm
          rw [hm] at HSI HWLEN ⊢
          clear hm
          go_wp2_with fail
          refine HSI.out.mono ?_
          rintro y w5 ⟨rfl, d, rfl⟩
          have hb5 : Below w4.heap.size w4 (w4.drewN d) := below_drewN (Below.refl _ _) d
          have hsc5 := HSC4.out.below hb5
          have HRDY := Lib.hid (sready_any _ _ sb k _ hsc5)
          have HRL : Hid ((rdL st').length = m) := Lib.hid ((sleeps_ready HWOK.out hk8).trans HM.out)
          have HAT5 : Hid (AtL (w4.drewN d) vo (ints lw)) := Lib.hid (HATW.out.mono hb5)
          have HB5 : Hid (Below w.heap.size w (w4.drewN d)) := Lib.hid (below_drewN HB4.out d)
          obtain ⟨w5, hw5⟩ : ∃ x, w4.drewN d = x := ⟨_, rfl⟩
          rw [hw5] at hsc5 HRDY HAT5 HB5 ⊢
          have HSC5 := Lib.hid hsc5
          clear hb5 hsc5 hw5
          go_wp2_with fail
          refine HRDY.out.mono ?_
          rintro y w6 ⟨rv, rfl, hown6, hb6, -⟩
          rw [HRL.out] at hown6
          obtain ⟨ro, rc, rfl⟩ := own_slice hown6
          have hmm : ((m : Int) == (m : Int)) = true := by rw [beq_iff_eq]
          have HB6 : Hid (Below w.heap.size w w6) := Lib.hid (HB5.out.trans (hb6.mono HB5.out.size))
          have hsc6 := HSC5.out.below hb6
          have HPK6 := Lib.hid (spick_any _ _ sb k _ hsc6)
          have HAT6 : Hid (AtL w6 vo (ints lw)) := Lib.hid (HAT5.out.mono hb6)
          have HS6 : Hid (ScL w w6 sb k st') := Lib.hid ⟨hsc6.mono fun b _ hb => HZ2.out b hb, HB6.out⟩
          have HDL := Lib.hid (slDelErr HE.out HS6.out 9 (kw_lit 9 (by omega)) (sleeps_nine HWOK.out hk8))
          have HNIL : Hid (lw = [] ↔ m = 0) := Lib.hid (by rw [← HM.out]; exact List.length_eq_zero_iff.symm)
          clear hown6 hb6 hsc6
          go_wp2_with fail
          refine HPK6.out.mono ?_
          rintro y w7 ⟨⟨v, rfl, hv⟩, rfl⟩
          have HV := Lib.hid (fun z hz => sleeps_pick HWOK.out hv (z := z) hz)
          have HST4 : Hid (SlE lw w6 (.int .i64 (-1)) (.int .i64 0) w6) := Lib.hid ⟨0, -1, Nat.zero_le _, rfl, rfl, .inl ⟨rfl, rfl⟩, rfl⟩
          have hvs : (∃ id b, v = .tuple #[.int .i64 id, .bool b]) := by
            rcases hv with ⟨-, h⟩ | ⟨x, g, -, -, -, h⟩
            · exact ⟨_, _, h⟩
            · exact ⟨_, _, h⟩
          obtain ⟨id, b, rfl⟩ := hvs
          clear hv
          go_wp2_with fail
          go_loopw [17, 18] (fun z i wr => SlE lw w6 z i wr) (fun _ i _ => m - (intOf i).toNat)
          case atStart => exact HST4.out
          case round =>
            obtain ⟨i, z, hi2, rfl, rfl, hls, rfl⟩ := hrel
            have HLS := Lib.hid hls
            clear hls HST4
            have him : i ≤ m := by rw [← HM.out]; exact hi2
            have hm1000 := HWLEN.out
            by_cases hil : i < m
            · have hii : (i : Int) < (m : Int) := by omega
              have wi1 := IntWalk.i64_in ((i : Int) + 1) (by omega)
              have hil2 : i < lw.length := by rw [HM.out]; exact hil
              obtain ⟨g, off, rfl, c1, lg⟩ := HAT6.out i _ (slGet lw i hil2)
              have hx0 : 0 ≤ lw.getD i 0 := (HWP.out _ (by
                rw [List.getD_eq_getElem?_getD, List.getElem?_eq_getElem hil2]
                exact List.getElem_mem _)).2.2
              have HNX := Lib.hid (fun z' h => HLS.out.next hx0 (z' := z') h)
              rw [← takeSucc lw i hil2] at HNX
              obtain ⟨x, hx⟩ : ∃ x, lw.getD i 0 = x := ⟨_, rfl⟩
              rw [hx] at c1 HNX
              have HI2 := Lib.hid hil2
              clear hx hx0 hil2 hi2
              have hcs : (z < 0 ∧ x ≤ x) ∨ (¬ z < 0 ∧ x < z) ∨ (¬ z < 0 ∧ ¬ x < z) := by omega
              rcases hcs with ⟨h1, -⟩ | ⟨h1, h2⟩ | ⟨h1, h2⟩
              · go_wp2_with fail
                go_roundw
                case rel => exact ⟨i + 1, _, HI2.out, by go_num, rfl, HNX.out _ (.inl ⟨.inl h1, rfl⟩), rfl⟩
                case measure => simp [intOf]; omega
              · go_wp2_with fail
                go_roundw
                case rel => exact ⟨i + 1, _, HI2.out, by go_num, rfl, HNX.out _ (.inl ⟨.inr h2, rfl⟩), rfl⟩
                case measure => simp [intOf]; omega
              · go_wp2_with fail
                go_roundw
                case rel => exact ⟨i + 1, _, HI2.out, by go_num, rfl, HNX.out _ (.inr ⟨h1, h2, rfl⟩), rfl⟩
                case measure => simp [intOf]; omega
            · have hii : ¬ (i : Int) < (m : Int) := by omega
              have hls := HLS.out
              rw [List.take_of_length_le (by rw [HM.out]; omega)] at hls
              have hfin : (m = 0 ∧ b = false) ∨ (0 < m ∧ id = z ∧ b = true) := by
                rcases HV.out z hls with ⟨e1, e2⟩ | ⟨e1, e2⟩
                · have e3 := Value.tuple.inj e2
                  simp at e3
                  exact .inl ⟨HNIL.out.1 e1, e3.2⟩
                · have e3 := Value.tuple.inj e2
                  simp at e3
                  exact .inr ⟨Nat.pos_of_ne_zero fun e => e1 (HNIL.out.2 e), e3.1, e3.2⟩
              clear hls HV hi2
              rcases hfin with ⟨rfl, rfl⟩ | ⟨hm0, rfl, rfl⟩
              · go_wp2_with fail
                refine HDL.out.mono ?_
                rintro y w7 ⟨rfl, s7⟩
                have HI := Lib.hid (HIS.out 107 (by omega) w7 s7.b)
                have S7 := Lib.hid s7
                clear s7
                go_wp2_with fail
                refine HI.out.mono ?_
                rintro y w8 ⟨rfl, hb8⟩
                have HB8 := Lib.hid hb8
                clear hb8
                go_wp2
                go_ret
                exact ⟨rfl, (S7.out.below HB8.out).b⟩
              · have hm1 : (0 : Int) < (m : Int) := by omega
                have hzz : (id == id) = true := by rw [beq_iff_eq]
                go_wp2_with fail
                refine HDL.out.mono ?_
                rintro y w7 ⟨rfl, s7⟩
                have HI := Lib.hid (HIS.out 107 (by omega) w7 s7.b)
                have S7 := Lib.hid s7
                clear s7
                go_wp2_with fail
                refine HI.out.mono ?_
                rintro y w8 ⟨rfl, hb8⟩
                have HB8 := Lib.hid hb8
                clear hb8
                go_wp2
                go_ret
                exact ⟨rfl, (S7.out.below HB8.out).b⟩
theorem schedSleeps_walk (E : Nat → Addr) (l : List Int) (v : Value) (x1 : Int) (w : World) (hE : ErrsAt errT gOf w E all16) (hr : Reads w v l.length (ints l)) (hlz : ∀ z ∈ l, -9223372036854775808 ≤ z ∧ z ≤ 9223372036854775807) (h1 : -9223372036854775808 ≤ x1 ∧ x1 ≤ 9223372036854775807) :
    Calls Tryd.prog 9 #[v, .int .i64 x1] w fun e w' => e = .returned (.bool true) ∧ Below w.heap.size w w' := by
  obtain ⟨ao, cap, rfl, hl⟩ := atL_of_reads hr
  by_cases hle : l.length ≤ 8
  · exact schedSleeps_some E l ao cap x1 w hE hl hlz hle h1
  · have HE : Hid (ErrL E w) := Lib.hid fun wx h => scErr_of (hE.mono h) (by decide) (by decide) (by decide)
    have HF1 := Lib.hid (scfirst_true E w HE.out)
    obtain ⟨n, hn⟩ : ∃ n, l.length = n := ⟨_, rfl⟩
    rw [hn] at hle ⊢
    have hlen2 : (8 : Int) < (n : Int) := by omega
    clear hE hr hl hlz h1 hn hle HE
    go_enter Tryd.func9, Tryd.ntmps9
    go_wp2_with fail
    refine HF1.out.mono ?_
    rintro y w0 ⟨rfl, hb0⟩
    have HB0 := Lib.hid hb0
    clear hb0
    go_wp2
    go_ret
    exact ⟨rfl, HB0.out⟩
end Go.Proofs.YtnhocmmgdkiepaaDoor

