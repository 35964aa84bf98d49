/-
  queue.Queue.Flush: those that wait are done, till one is refused.
-/
import Derived.Test.YtnhocmmgdkiepaaDoorQu
import Derived.Test.YtnhocmmgdkiepaaDoorPtPut
namespace Go.Proofs.YtnhocmmgdkiepaaDoor
open Go.RowKit

/-- tables, the first k of a list done -/
def qS (s : Ts) (l : List Up) : Nat → Ts
  | 0 => s
  | k + 1 => if (ofA (l.getD k default).word).2 = true then (tPut (qS s l k) (l.getD k default).page (ofA (l.getD k default).word).1).1 else qS s l k
/-- what the one at k is told -/
def qC (s : Ts) (l : List Up) (k : Nat) : Int := if (ofA (l.getD k default).word).2 = true then (tPut (qS s l k) (l.getD k default).page (ofA (l.getD k default).word).1).2 else 102
theorem tDrop_same (s : Ts) (page : Int) (h : (tDrop s page).2 ≠ 0) : (tDrop s page).1 = s := by
  unfold tDrop at h ⊢
  split
  · rename_i hp
    rw [if_pos hp] at h
    split at h <;> exact absurd rfl h
  · rfl
theorem tSet_same (s : Ts) (page frame : Int) (w : Bool) (h : (tSet s page frame w).2 ≠ 0) : (tSet s page frame w).1 = s := by
  unfold tSet at h ⊢
  split
  · rename_i hc
    rw [if_pos hc] at h
    exact absurd rfl h
  · rfl
theorem tPut_same (s : Ts) (page : Int) (e : Ent) (h : (tPut s page e).2 ≠ 0) : (tPut s page e).1 = s := by
  unfold tPut at h ⊢
  by_cases h1 : isPage page = true
  · rw [if_pos h1] at h ⊢
    by_cases h2 : e.t = true
    · rw [if_pos h2] at h ⊢
      by_cases h3 : 0 ≤ e.f ∧ e.f < (s.P.length : Int)
      · rw [if_pos h3] at h ⊢
        by_cases h4 : (s.F.getD (s.P.getD e.f.toNat 0).toNat default).owner = s.who
        · rw [if_pos h4] at h ⊢
          exact tSet_same _ _ _ _ h
        · rw [if_neg h4]
      · rw [if_neg h3]
    · rw [if_neg h2] at h ⊢
      by_cases h3 : e.f = 0 ∧ e.w = false ∧ e.u = false
      · rw [if_pos h3] at h ⊢
        exact tDrop_same _ _ h
      · rw [if_neg h3]
  · rw [if_neg h1]
theorem qS_inv {m : Int} {s : Ts} (h : TInv m s) (l : List Up) : ∀ k : Nat, TInv (m + 2 * (k : Int)) (qS s l k)
  | 0 => by simpa [qS] using h
  | k + 1 => by
    have ih := qS_inv h l k
    rw [show m + 2 * ((k + 1 : Nat) : Int) = m + 2 * (k : Int) + 1 + 1 by omega]
    unfold qS
    split
    · exact tPut_inv ih _ _
    · exact ih.mono.mono
/-- what Flush answers: how many, the error's number -/
def FlIs (s : Ts) (l : List Up) (k : Nat) (c : Int) : Prop := (∀ i, i < k → qC s l i = 0) ∧ ((k = l.length ∧ c = 0) ∨ (k < l.length ∧ c = qC s l k ∧ c ≠ 0))
def Pl.zq (p : Pl) (qb : Nat) (k : Nat) : Prop := p.zw k ∨ k = qb
def FlTo (s : Ts) (l : List Up) (p : Pl) (qb : Nat) (w : World) (i : Value) (wr : World) : Prop := ∃ k : Nat, k ≤ l.length ∧ i = .int .i64 (k : Int) ∧ (∀ i, i < k → qC s l i = 0) ∧ PtAt wr p (qS s l k) ∧ Only (p.zq qb) w wr
def FlQ (E : Nat → Addr) (s : Ts) (l : List Up) (p : Pl) (qb : Nat) (w : World) (e : Ending) (w' : World) : Prop := ∃ k c, FlIs s l k c ∧ e = .returned (.tuple #[.int .i64 (k : Int), errC E c]) ∧ PtAt w' p (qS s l k) ∧ Only (p.zq qb) w w' ∧ QuAt w' qb (.slice none 0 0) []
theorem up_cell {w : World} {g cap : Nat} {l : List Up} (h : w.ownsRow 0 48 2 (.slice (some ⟨g, 0, none⟩) l.length cap) l.length (upCells l)) (k : Nat) (hk : k < l.length) : w.cell? ⟨g, k * 2, none⟩ = some (.int .i64 (l.getD k default).page) ∧ w.cell? ⟨g, k * 2 + 1, none⟩ = some (.int .u32 (l.getD k default).word) :=
  ⟨(own_cell h (k * 2) (by omega)).trans (rec_get upOne 2 upOne_len l k 0 hk (by decide)), (own_cell h (k * 2 + 1) (by omega)).trans (rec_get upOne 2 upOne_len l k 1 hk (by decide))⟩

set_option maxRecDepth 100000 in
set_option maxHeartbeats 16000000 in
theorem qflush_any (E : Nat → Addr) (p : Pl) (s : Ts) (m : Int) (l : List Up) (qb : Nat) (qv : Value) (w : World) (hE : ∀ wx, Only (p.zq qb) w wx → ErrsAt errT gOf wx E nine) (h : PtAt w p s) (hi : TInv m s) (hm : m + 2 * (l.length : Int) + 1 ≤ 1000000) (hll : l.length ≤ 100000) (hq : QuAt w qb qv l) (hw : ∀ u ∈ l, W32 u.word)
    (hap : (∀ k, inRow qv k → ¬ p.zw k) ∧ ¬ p.zw qb ∧ ¬ p.z0 qb) :
    Calls Tryd.prog 36 #[.pointer (some ⟨qb, 0, none⟩), .pointer (some ⟨p.tb, 0, none⟩)] w (FlQ E s l p qb w) := by
  have HEE := Lib.hid hE
  have HCL := Lib.hid (qclear_any l qb qv w hq)
  have HQN := Lib.hid hq.not
  have HAP := Lib.hid hap
  have HI := Lib.hid (qS_inv hi l)
  have c := hq.cell
  have lqb := blk_lt hq.1
  have HPT : Hid (∀ wx, Only (fun k => k = qb) w wx → PtAt wx p s) := Lib.hid fun wx ho => h.keep ho (fun k h0 e => hap.2.2 (e ▸ h0)) (fun k h1 e => hap.2.1 (e ▸ .inl h1)) (fun k h2 e => hap.2.1 (e ▸ .inr (.inl h2))) (fun k h3 e => hap.2.1 (e ▸ (by rcases h3 with h3 | h3; exact .inr (.inr (.inl h3)); exact .inr (.inr (.inr h3)))))
  have HOWN : Hid (∀ wx, Only (p.zq qb) w wx → wx.ownsRow 0 48 2 qv l.length (upCells l)) := Lib.hid fun wx ho => own_only hq.2 ho fun k hk hz => by
    rcases hz with hz | hz
    · exact hap.1 k hk hz
    · exact HQN.out (hz ▸ hk)
  have HW32 : Hid (∀ k, k < l.length → W32 (l.getD k default).word) := Lib.hid fun k hk => by
    rw [List.getD_eq_getElem?_getD, List.getElem?_eq_getElem hk]
    exact hw _ (List.getElem_mem hk)
  have hsh := own_shape hq.2
  obtain ⟨ao, cap, rfl⟩ := hq.slice
  clear hE h hi hq hw hap
  go_enter Tryd.func36, Tryd.ntmps36
  go_wp2_with fail
  refine HCL.out.mono ?_
  rintro y w1 ⟨rfl, hq1, ho1⟩
  have HQ1 := Lib.hid hq1
  have HP1 := Lib.hid (HPT.out _ ho1)
  have HO1 : Hid (Only (p.zq qb) w w1) := Lib.hid (ho1.mono fun _ h => .inl (.inr h))
  have HST : Hid (FlTo s l p qb w (.int .i64 0) w1) := Lib.hid ⟨0, Nat.zero_le _, rfl, fun i hi => absurd hi (by omega), HP1.out, HO1.out⟩
  have HQK : Hid (∀ wx, Only p.zw w1 wx → QuAt wx qb (.slice none 0 0) []) := Lib.hid fun wx ho => HQ1.out.only ho HAP.out.2.1 (fun k hk => by cases hk)
  have HST : Hid (FlTo s l p qb w (.int .i64 0) w1 ∧ Only p.zw w1 w1) := Lib.hid ⟨HST.out, Only.refl _ _⟩
  clear hq1 ho1 c lqb
  go_wp2_with fail
  go_loopw [20] (fun i wr => FlTo s l p qb w i wr ∧ Only p.zw w1 wr) (fun i _ => l.length - (intOf i).toNat)
  case atStart => exact HST.out
  case round =>
    obtain ⟨⟨k, hk, rfl, hok, hp, ho⟩, ho1⟩ := hrel
    have HP := Lib.hid hp
    have HO := Lib.hid ho
    have HOZ := Lib.hid ho1
    have HOK := Lib.hid hok
    have hE1 : ErrsK E p wr := fun wx hx => HEE.out wx (ho.trans (hx.mono fun _ h => .inl (.inl h)))
    have HEK := Lib.hid hE1
    clear HST hp ho ho1 hok hE1
    by_cases hlt : k < l.length
    · have hki : (k : Int) < (l.length : Int) := by omega
      have wk := IntWalk.i64_in ((k : Int) + 1) (by omega)
      rcases hsh with ⟨-, hz, -⟩ | ⟨g, cap2, hv, -⟩
      · omega
      cases hv
      obtain ⟨x0, x1⟩ := up_cell (HOWN.out wr HO.out) k hlt
      have hu := HW32.out k hlt
      have HQS : Hid (qS s l (k + 1) = if (ofA (l.getD k default).word).2 = true then (tPut (qS s l k) (l.getD k default).page (ofA (l.getD k default).word).1).1 else qS s l k) := Lib.hid rfl
      have HQC : Hid (qC s l k = if (ofA (l.getD k default).word).2 = true then (tPut (qS s l k) (l.getD k default).page (ofA (l.getD k default).word).1).2 else 102) := Lib.hid rfl
      have HTP := Lib.hid (fun wx (hx : Only p.zw wr wx) (hh : PtAt wx p (qS s l k)) => tput_any E p (qS s l k) (m + 2 * (k : Int)) (l.getD k default).page (ofA (l.getD k default).word).1 wx (HEK.out.next hx) hh (HI.out k) (by omega))
      have HSM := Lib.hid (tPut_same (qS s l k) (l.getD k default).page (ofA (l.getD k default).word).1)
      have HOF := Lib.hid (fun wx => of_any (l.getD k default).word wx hu)
      obtain ⟨⟨up, uw⟩, hue⟩ : ∃ u, l.getD k default = u := ⟨_, rfl⟩
      rw [hue] at x0 x1 HQS HQC HTP HOF HSM
      dsimp only at x0 x1 HQS HQC HTP HOF HSM
      obtain ⟨⟨⟨ef, et, ew, eu⟩, ok⟩, hoe⟩ : ∃ r, ofA uw = r := ⟨_, rfl⟩
      rw [hoe] at HQS HQC HTP HOF HSM
      unfold Ent.v at HTP HOF
      dsimp only at HQS HQC HTP HOF HSM
      have e1 : wr.cell? ⟨5, 0, none⟩ = some (errV (E 1)) := ((HEK.out wr (Only.refl _ _)).1 1 (by decide)).1
      have HES : Hid (∀ wx, Below wr.heap.size wr wx → wx.cell? ⟨5, 0, none⟩ = some (errV (E 1)) ∧ 5 < wx.heap.size) := Lib.hid fun wx hx => by
        have := ((HEK.out wx (Only.of_below hx)).1 1 (by decide)).1
        exact ⟨this, World.block_lt_of_cell? _ _ this⟩
      clear hu hue hoe e1
      go_wp2_with fail
      refine (HOF.out _).mono ?_
      rintro y w2 ⟨rfl, hb2⟩
      have hbu := blk_new wr (.cells #[.int .i64 up, .int .u32 uw] 48)
      have hku := blk_below hbu hb2 (blk_lt hbu)
      have HB2 : Hid (Below wr.heap.size wr (w2.alloc (.cells #[.int .i64 ef, .bool et, .bool ew, .bool eu] 42))) := Lib.hid ((((Below.refl _ _).alloc (Nat.le_refl _) _).trans (hb2.mono (by simp))).alloc (by have := hb2.size; simp at this; omega) _)
      have hku2 := blk_old hku (.cells #[.int .i64 ef, .bool et, .bool ew, .bool eu] 42)
      have y0 := blk_cell hku2 0
      have lku := blk_lt hku
      obtain ⟨e1, g1⟩ := HES.out _ HB2.out
      have HPW := Lib.hid (HP.out.below HB2.out)
      have HOW := Lib.hid (Only.of_below (F := p.zw) HB2.out)
      clear hbu hku hku2 hb2 x0 x1
      cases ok with
      | false =>
        have HC : Hid (qC s l k = 102) := Lib.hid (by rw [HQC.out, if_neg (by decide)])
        go_wp2
        go_ret2
        exact ⟨k, 102, ⟨HOK.out, .inr ⟨hlt, HC.out.symm, by decide⟩⟩, rfl, HPW.out, HO.out.trans (HOW.out.mono fun _ h => .inl (.inl h)), HQK.out _ (HOZ.out.trans HOW.out)⟩
      | true =>
        have HC : Hid (qC s l k = (tPut (qS s l k) up ⟨ef, et, ew, eu⟩).2) := Lib.hid (by rw [HQC.out, if_pos rfl])
        have HS1 : Hid (qS s l (k + 1) = (tPut (qS s l k) up ⟨ef, et, ew, eu⟩).1) := Lib.hid (by rw [HQS.out, if_pos rfl])
        have HT := Lib.hid (HTP.out _ HOW.out HPW.out)
        obtain ⟨⟨S1, c1⟩, hR⟩ : ∃ R, tPut (qS s l k) up ⟨ef, et, ew, eu⟩ = R := ⟨_, rfl⟩
        rw [hR] at HT HC HS1 HSM
        dsimp only at HC HS1 HSM
        clear hR HTP HQC HQS
        by_cases hc : c1 = 0
        · subst hc
          go_wp2_with fail
          refine HT.out.mono ?_
          rintro y w3 ⟨rfl, hp3, ho3⟩
          have HP3 := Lib.hid hp3
          have HO3 := Lib.hid (HOW.out.trans ho3)
          clear hp3 ho3 e1 g1 y0
          unfold errC
          rw [if_pos rfl]
          go_wp2_with fail
          go_roundw
          case rel => exact ⟨⟨k + 1, by omega, by go_num, fun i hi => by
              by_cases h : i = k
              · rw [h]; exact HC.out
              · exact HOK.out i (by omega), by rw [HS1.out]; exact HP3.out, HO.out.trans (HO3.out.mono fun _ h => .inl (.inl h))⟩, HOZ.out.trans HO3.out⟩
          case measure => simp [intOf]; omega
        · have HEC : Hid (errC E c1 = errV (E (c1 - 101).toNat)) := Lib.hid (by unfold errC; rw [if_neg hc])
          go_wp2_with fail
          refine HT.out.mono ?_
          rintro y w3 ⟨rfl, hp3, ho3⟩
          have HP3 : Hid (PtAt w3 p (qS s l k)) := Lib.hid (by have := hp3; rw [HSM.out hc] at this; exact this)
          have HO3 := Lib.hid (HOW.out.trans ho3)
          have HCN := Lib.hid hc
          clear hp3 ho3 e1 g1 y0 hc
          dsimp only
          rw [HEC.out]
          go_wp2
          go_ret2
          exact ⟨k, c1, ⟨HOK.out, .inr ⟨hlt, HC.out.symm, HCN.out⟩⟩, by rw [HEC.out]; rfl, HP3.out, HO.out.trans (HO3.out.mono fun _ h => .inl (.inl h)), HQK.out _ (HOZ.out.trans HO3.out)⟩
    · obtain rfl : k = l.length := by omega
      go_wp2
      go_ret2
      exact ⟨l.length, 0, ⟨HOK.out, .inl ⟨rfl, rfl⟩⟩, rfl, HP.out, HO.out, HQK.out _ HOZ.out⟩
end Go.Proofs.YtnhocmmgdkiepaaDoor
