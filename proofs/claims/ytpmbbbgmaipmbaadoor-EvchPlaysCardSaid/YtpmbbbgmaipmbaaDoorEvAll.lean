/-
  evch.Net and facaderef16.Net: one told thing, whatever its numbers; both do the same.
-/
import Derived.Test.YtpmbbbgmaipmbaaDoorEvRef3
import Derived.Test.YtpmbbbgmaipmbaaDoorStructs
namespace Go.Proofs.YtpmbbbgmaipmbaaDoor
open Go.RowKit

def codeO : Option Nat → Int
  | none => 0
  | some k => ((101 + k : Nat) : Int)
theorem errO_code (E : Nat → Addr) (o : Option Nat) (h : ∀ k, o = some k → k < 16) : errNum (errO E o) E (codeO o) := by
  cases o with
  | none => exact .inl ⟨rfl, rfl⟩
  | some k => exact .inr ⟨k, h k rfl, rfl, rfl⟩
def inG (g : Int) : Prop := 0 ≤ g ∧ g < 8
instance (g : Int) : Decidable (inG g) := by unfold inG; infer_instance
/-- what is told, plain: the ports then, the error's number -/
def alE (l : List Pe) (g : Int) : List Pe × Option Nat × Int :=
  if inG g then (match allocP l g.toNat with
    | some i => (l.set (g.toNat * 16 + i) { live := true }, none, (i : Int))
    | none => (l, some 3, 0)) else (l, some 2, 0)
def bdE (l : List Pe) (g p o q : Int) : List Pe × Option Nat :=
  if inG g ∧ inG o then (match atP l g.toNat p, atP l o.toNat q with
    | some r, some s => if busyB l g.toNat r o.toNat s then (l, some 11) else (bindTo (bindTo l (g.toNat * 16 + r) o.toNat s) (o.toNat * 16 + s) g.toNat r, none)
    | _, _ => (l, some 6)) else (l, some 2)
def snE (l : List Pe) (g p : Int) : List Pe × Option Nat :=
  if inG g then (match sendP l g.toNat p with
    | some r => (l.set ((l.getD (g.toNat * 16 + r) default).guest.toNat * 16 + (l.getD (g.toNat * 16 + r) default).port.toNat) { l.getD ((l.getD (g.toNat * 16 + r) default).guest.toNat * 16 + (l.getD (g.toNat * 16 + r) default).port.toNat) default with pend := true }, none)
    | none => (l, some 6)) else (l, some 2)
def mkE (l : List Pe) (g p : Int) (v : Bool) : List Pe × Option Nat :=
  if inG g then (match atP l g.toNat p with
    | some r => (l.set (g.toNat * 16 + r) { l.getD (g.toNat * 16 + r) default with masked := v }, none)
    | none => (l, some 6)) else (l, some 2)
def bpE (l : List Pe) (g : Int) : Nat := if inG g then orN (pendB l g.toNat) 16 else 0
def bmE (l : List Pe) (g : Int) : Nat := if inG g then orN (maskB l g.toNat) 16 else 0
def anE (l : List Pe) (g : Int) : Nat := if inG g then anyE l g.toNat else 0
def tkE (l : List Pe) (g : Int) : List Pe := if inG g then takeE l g.toNat 16 else l

def EPost (E : Nat → Addr) (b : Nat) (r : List Pe × Option Nat) (w : World) (e : Ending) (w' : World) : Prop := e = .returned (errO E r.2) ∧ NAt w' b r.1 ∧ Only (fun k => k = b) w w'
def REPost (b : Nat) (r : List Pe × Option Nat) (w : World) (e : Ending) (w' : World) : Prop := e = .returned (.int .i64 (codeO r.2)) ∧ RNAt w' b r.1 ∧ Only (fun k => k = b) w w'
def APost (E : Nat → Addr) (b : Nat) (r : List Pe × Option Nat × Int) (w : World) (e : Ending) (w' : World) : Prop := e = .returned (.tuple #[.int .i64 r.2.2, errO E r.2.1]) ∧ NAt w' b r.1 ∧ Only (fun k => k = b) w w'
def RAPost (b : Nat) (r : List Pe × Option Nat × Int) (w : World) (e : Ending) (w' : World) : Prop := e = .returned (.tuple #[.int .i64 r.2.2, .int .i64 (codeO r.2.1)]) ∧ RNAt w' b r.1 ∧ Only (fun k => k = b) w w'
theorem nat_of {g : Int} (h : inG g) : ∃ n : Nat, g = (n : Int) ∧ n < 8 ∧ g.toNat = n := ⟨g.toNat, by unfold inG at h; omega, by unfold inG at h; omega, rfl⟩
theorem notG {g : Int} (h : ¬ inG g) : ¬ (0 ≤ g ∧ g < 8) := h

theorem al_all (E : Nat → Addr) (l : List Pe) (b : Nat) (g : Int) (w : World) (hE : ErrsAt errT gOf w E all16) (h : NAt w b l) (hi : Inv l) :
    Calls Tryd.prog 19 #[.pointer (some ⟨b, 0, none⟩), .int .i64 g] w (APost E b (alE l g) w) := by
  unfold alE
  by_cases hg : inG g
  · rw [if_pos hg]
    obtain ⟨n, rfl, hn, e1⟩ := nat_of hg
    rw [e1]
    refine (alloc_any E l b n w all16 (by decide) hE h hn).mono ?_
    rintro e w' ⟨h1, h2⟩
    cases hq : allocP l n with
    | none =>
      obtain ⟨rfl, hb⟩ := h2 hq
      exact ⟨rfl, h.below hb, Only.of_below hb⟩
    | some i =>
      obtain ⟨rfl, hn', ho⟩ := h1 i hq
      obtain ⟨hi16, hlv⟩ := allocP_lt hq
      rw [(hi.alloc (n * 16 + i) (by omega) hlv).1] at hn'
      exact ⟨rfl, hn', ho⟩
  · rw [if_neg hg]
    refine (alloc_bad E b g w all16 (by decide) hE hg).mono ?_
    rintro e w' ⟨rfl, hb⟩
    exact ⟨rfl, h.below hb, Only.of_below hb⟩
theorem ral_all (l : List Pe) (b : Nat) (g : Int) (w : World) (h : RNAt w b l) :
    Calls Tryd.prog 40 #[.pointer (some ⟨b, 0, none⟩), .int .i64 g] w (RAPost b (alE l g) w) := by
  unfold alE
  by_cases hg : inG g
  · rw [if_pos hg]
    obtain ⟨n, rfl, hn, e1⟩ := nat_of hg
    rw [e1]
    refine (ralloc_any l b n w h hn).mono ?_
    rintro e w' ⟨h1, h2⟩
    cases hq : allocP l n with
    | none =>
      obtain ⟨rfl, rfl⟩ := h2 hq
      exact ⟨rfl, h, Only.refl _ _⟩
    | some i =>
      obtain ⟨rfl, hn', ho⟩ := h1 i hq
      exact ⟨rfl, hn', ho⟩
  · rw [if_neg hg]
    refine (ralloc_bad b g w hg).mono ?_
    rintro e w' ⟨rfl, rfl⟩
    exact ⟨rfl, h, Only.refl _ _⟩
theorem alE_inv (l : List Pe) (g : Int) (hi : Inv l) : Inv (alE l g).1 := by
  unfold alE
  by_cases hg : inG g
  · rw [if_pos hg]
    obtain ⟨n, rfl, hn, e1⟩ := nat_of hg
    rw [e1]
    cases hq : allocP l n with
    | none => exact hi
    | some i =>
      obtain ⟨hi16, hlv⟩ := allocP_lt hq
      exact (hi.alloc (n * 16 + i) (by omega) hlv).2
  · rw [if_neg hg]; exact hi
theorem alE_small (l : List Pe) (g : Int) : ∀ k, (alE l g).2.1 = some k → k < 16 := by
  intro k
  unfold alE
  split
  · split
    · intro h; cases h
    · intro h; obtain rfl := Option.some.inj h; decide
  · intro h; obtain rfl := Option.some.inj h; decide

theorem bd_all (E : Nat → Addr) (l : List Pe) (b : Nat) (g p o q : Int) (w : World) (hE : ErrsAt errT gOf w E all16) (h : NAt w b l) :
    Calls Tryd.prog 20 #[.pointer (some ⟨b, 0, none⟩), .int .i64 g, .int .i64 p, .int .i64 o, .int .i64 q] w (EPost E b (bdE l g p o q) w) := by
  unfold bdE
  by_cases hg : inG g ∧ inG o
  · rw [if_pos hg]
    obtain ⟨hg1, ho1⟩ := hg
    obtain ⟨n, rfl, hn, e1⟩ := nat_of hg1
    obtain ⟨m, rfl, hm, e2⟩ := nat_of ho1
    rw [e1, e2]
    cases hq : atP l n p with
    | none =>
      refine (bind_none E l b n m p q w all16 (by decide) hE h hn hm (.inl hq)).mono ?_
      rintro e w' ⟨rfl, rfl⟩
      exact ⟨rfl, h, Only.refl _ _⟩
    | some r =>
      cases hq2 : atP l m q with
      | none =>
        refine (bind_none E l b n m p q w all16 (by decide) hE h hn hm (.inr hq2)).mono ?_
        rintro e w' ⟨rfl, rfl⟩
        exact ⟨rfl, h, Only.refl _ _⟩
      | some s =>
        dsimp only
        by_cases hb : busyB l n r m s
        · rw [if_pos hb]
          refine (bind_busy E l b n m r s p q w all16 (by decide) hE h hn hm hq hq2 hb).mono ?_
          rintro e w' ⟨rfl, rfl⟩
          exact ⟨rfl, h, Only.refl _ _⟩
        · rw [if_neg hb]
          obtain ⟨-, rfl, -⟩ := atP_lt hq
          obtain ⟨-, rfl, -⟩ := atP_lt hq2
          refine (bind_ok l b n m r s w h hn hm hq hq2 hb).mono ?_
          rintro e w' ⟨rfl, h1, h2⟩
          exact ⟨rfl, h1, h2⟩
  · rw [if_neg hg]
    refine (bind_bad E b g p o q w all16 (by decide) hE (Decidable.not_and_iff_or_not.1 hg)).mono ?_
    rintro e w' ⟨rfl, rfl⟩
    exact ⟨rfl, h, Only.refl _ _⟩
theorem rbd_all (l : List Pe) (b : Nat) (g p o q : Int) (w : World) (h : RNAt w b l) (hi : Inv l) :
    Calls Tryd.prog 41 #[.pointer (some ⟨b, 0, none⟩), .int .i64 g, .int .i64 p, .int .i64 o, .int .i64 q] w (REPost b (bdE l g p o q) w) := by
  unfold bdE
  by_cases hg : inG g ∧ inG o
  · rw [if_pos hg]
    obtain ⟨hg1, ho1⟩ := hg
    obtain ⟨n, rfl, hn, e1⟩ := nat_of hg1
    obtain ⟨m, rfl, hm, e2⟩ := nat_of ho1
    rw [e1, e2]
    cases hq : atP l n p with
    | none =>
      refine (rbind_none l b n m p q w h hn hm (.inl hq)).mono ?_
      rintro e w' ⟨rfl, rfl⟩
      exact ⟨rfl, h, Only.refl _ _⟩
    | some r =>
      cases hq2 : atP l m q with
      | none =>
        refine (rbind_none l b n m p q w h hn hm (.inr hq2)).mono ?_
        rintro e w' ⟨rfl, rfl⟩
        exact ⟨rfl, h, Only.refl _ _⟩
      | some s =>
        dsimp only
        obtain ⟨-, rfl, -⟩ := atP_lt hq
        obtain ⟨-, rfl, -⟩ := atP_lt hq2
        by_cases hb : busyB l n r m s
        · rw [if_pos hb]
          refine (rbind_busy l b n m r s w h hi hn hm hq hq2 hb).mono ?_
          rintro e w' ⟨rfl, rfl⟩
          exact ⟨rfl, h, Only.refl _ _⟩
        · rw [if_neg hb]
          refine (rbind_ok l b n m r s w h hi hn hm hq hq2 hb).mono ?_
          rintro e w' ⟨rfl, h1, h2⟩
          exact ⟨rfl, h1, h2⟩
  · rw [if_neg hg]
    refine (rbind_bad b g p o q w (Decidable.not_and_iff_or_not.1 hg)).mono ?_
    rintro e w' ⟨rfl, rfl⟩
    exact ⟨rfl, h, Only.refl _ _⟩
theorem bdE_inv (l : List Pe) (g p o q : Int) (hi : Inv l) : Inv (bdE l g p o q).1 := by
  unfold bdE
  by_cases hg : inG g ∧ inG o
  · rw [if_pos hg]
    obtain ⟨hg1, ho1⟩ := hg
    obtain ⟨n, rfl, hn, e1⟩ := nat_of hg1
    obtain ⟨m, rfl, hm, e2⟩ := nat_of ho1
    rw [e1, e2]
    cases hq : atP l n p with
    | none => exact hi
    | some r =>
      cases hq2 : atP l m q with
      | none => exact hi
      | some s =>
        dsimp only
        obtain ⟨hr, -, hl1⟩ := atP_lt hq
        obtain ⟨hs, -, hl2⟩ := atP_lt hq2
        by_cases hb : busyB l n r m s
        · rw [if_pos hb]; exact hi
        · rw [if_neg hb]
          have hne : ¬ m * 16 + s = n * 16 + r := fun e => hb (.inr (.inr ⟨by omega, by omega⟩))
          have hl := hi.1
          refine (hi.bind n r m s hn hr hm hs hl1 hl2).bind m s n r hm hs hn hr ?_ ?_
          · unfold bindTo; rw [set_getD _ _ _ _ (by omega), if_neg hne]; exact hl2
          · unfold bindTo; rw [set_getD _ _ _ _ (by omega), if_pos rfl]; exact hl1
  · rw [if_neg hg]; exact hi
theorem bdE_small (l : List Pe) (g p o q : Int) : ∀ k, (bdE l g p o q).2 = some k → k < 16 := by
  intro k
  unfold bdE
  split
  · split
    · split
      · intro h; obtain rfl := Option.some.inj h; decide
      · intro h; cases h
    · intro h; obtain rfl := Option.some.inj h; decide
  · intro h; obtain rfl := Option.some.inj h; decide

theorem send_far {l : List Pe} (hi : Inv l) {n r : Nat} {p : Int} (hn : n < 8) (h : sendP l n p = some r) : ∃ og op : Nat, p = (r : Int) ∧ r < 16 ∧ (l.getD (n * 16 + r) default).guest = (og : Int) ∧ (l.getD (n * 16 + r) default).port = (op : Int) ∧ og < 8 ∧ op < 16 ∧ (l.getD (og * 16 + op) default).live = true ∧ (l.getD (n * 16 + r) default).guest.toNat = og ∧ (l.getD (n * 16 + r) default).port.toNat = op := by
  unfold sendP at h
  cases hq : atP l n p with
  | none => rw [hq] at h; cases h
  | some r' =>
    rw [hq] at h
    dsimp only at h
    split at h
    · rename_i hb
      obtain rfl := Option.some.inj h
      obtain ⟨hr, hp, -⟩ := atP_lt hq
      obtain ⟨og, op, a1, a2, a3, a4, a5⟩ := (hi.2 (n * 16 + r') (by omega)).2 hb
      exact ⟨og, op, hp, hr, a1, a2, a3, a4, a5, by rw [a1]; rfl, by rw [a2]; rfl⟩
    · cases h
theorem sn_all (E : Nat → Addr) (l : List Pe) (b : Nat) (g p : Int) (w : World) (hE : ErrsAt errT gOf w E all16) (h : NAt w b l) (hi : Inv l) :
    Calls Tryd.prog 21 #[.pointer (some ⟨b, 0, none⟩), .int .i64 g, .int .i64 p] w (EPost E b (snE l g p) w) := by
  unfold snE
  by_cases hg : inG g
  · rw [if_pos hg]
    obtain ⟨n, rfl, hn, e1⟩ := nat_of hg
    rw [e1]
    cases hq : sendP l n p with
    | none =>
      refine (send_none E l b n p w all16 (by decide) hE h hn hq).mono ?_
      rintro e w' ⟨rfl, rfl⟩
      exact ⟨rfl, h, Only.refl _ _⟩
    | some r =>
      obtain ⟨og, op, -, -, a1, a2, a3, a4, -, a6, a7⟩ := send_far hi hn hq
      dsimp only
      rw [a6, a7]
      refine (send_ok l b n r og op p w h hn hq a1 a2 a3 a4).mono ?_
      rintro e w' ⟨rfl, h1, h2⟩
      exact ⟨rfl, h1, h2⟩
  · rw [if_neg hg]
    refine (send_bad E b g p w all16 (by decide) hE hg).mono ?_
    rintro e w' ⟨rfl, rfl⟩
    exact ⟨rfl, h, Only.refl _ _⟩
theorem rsn_all (l : List Pe) (b : Nat) (g p : Int) (w : World) (h : RNAt w b l) (hi : Inv l) :
    Calls Tryd.prog 42 #[.pointer (some ⟨b, 0, none⟩), .int .i64 g, .int .i64 p] w (REPost b (snE l g p) w) := by
  unfold snE
  by_cases hg : inG g
  · rw [if_pos hg]
    obtain ⟨n, rfl, hn, e1⟩ := nat_of hg
    rw [e1]
    cases hq : sendP l n p with
    | none =>
      refine (rsend_none l b n p w h hi hn hq).mono ?_
      rintro e w' ⟨rfl, rfl⟩
      exact ⟨rfl, h, Only.refl _ _⟩
    | some r =>
      obtain ⟨og, op, rfl, -, a1, a2, a3, a4, -, a6, a7⟩ := send_far hi hn hq
      dsimp only
      rw [a6, a7]
      refine (rsend_ok l b n r og op w h hn hq a1 a2 a3 a4).mono ?_
      rintro e w' ⟨rfl, h1, h2⟩
      exact ⟨rfl, h1, h2⟩
  · rw [if_neg hg]
    refine (rsend_bad b g p w hg).mono ?_
    rintro e w' ⟨rfl, rfl⟩
    exact ⟨rfl, h, Only.refl _ _⟩
theorem snE_inv (l : List Pe) (g p : Int) (hi : Inv l) : Inv (snE l g p).1 := by
  unfold snE
  by_cases hg : inG g
  · rw [if_pos hg]
    obtain ⟨n, rfl, hn, e1⟩ := nat_of hg
    rw [e1]
    cases hq : sendP l n p with
    | none => exact hi
    | some r =>
      obtain ⟨og, op, -, -, a1, a2, a3, a4, a5, a6, a7⟩ := send_far hi hn hq
      dsimp only
      rw [a6, a7]
      exact hi.keep _ (by omega) _ a5 a5 rfl rfl rfl
  · rw [if_neg hg]; exact hi
theorem snE_small (l : List Pe) (g p : Int) : ∀ k, (snE l g p).2 = some k → k < 16 := by
  intro k
  unfold snE
  split
  · split
    · intro h; cases h
    · intro h; obtain rfl := Option.some.inj h; decide
  · intro h; obtain rfl := Option.some.inj h; decide

theorem mk_all (E : Nat → Addr) (l : List Pe) (b : Nat) (g p : Int) (v : Bool) (w : World) (hE : ErrsAt errT gOf w E all16) (h : NAt w b l) :
    Calls Tryd.prog 29 #[.pointer (some ⟨b, 0, none⟩), .int .i64 g, .int .i64 p, .bool v] w (EPost E b (mkE l g p v) w) := by
  unfold mkE
  by_cases hg : inG g
  · rw [if_pos hg]
    obtain ⟨n, rfl, hn, e1⟩ := nat_of hg
    rw [e1]
    cases hq : atP l n p with
    | none =>
      refine (mask_none E l b n p v w all16 (by decide) hE h hn hq).mono ?_
      rintro e w' ⟨rfl, rfl⟩
      exact ⟨rfl, h, Only.refl _ _⟩
    | some r =>
      refine (mask_ok l b n r p v w h hn hq).mono ?_
      rintro e w' ⟨rfl, h1, h2⟩
      exact ⟨rfl, h1, h2⟩
  · rw [if_neg hg]
    refine (mask_bad E b g p v w all16 (by decide) hE hg).mono ?_
    rintro e w' ⟨rfl, rfl⟩
    exact ⟨rfl, h, Only.refl _ _⟩
theorem rmk_all (l : List Pe) (b : Nat) (g p : Int) (v : Bool) (w : World) (h : RNAt w b l) :
    Calls Tryd.prog 43 #[.pointer (some ⟨b, 0, none⟩), .int .i64 g, .int .i64 p, .bool v] w (REPost b (mkE l g p v) w) := by
  unfold mkE
  by_cases hg : inG g
  · rw [if_pos hg]
    obtain ⟨n, rfl, hn, e1⟩ := nat_of hg
    rw [e1]
    cases hq : atP l n p with
    | none =>
      refine (rmask_none l b n p v w h hn hq).mono ?_
      rintro e w' ⟨rfl, rfl⟩
      exact ⟨rfl, h, Only.refl _ _⟩
    | some r =>
      obtain ⟨-, rfl, -⟩ := atP_lt hq
      refine (rmask_ok l b n r v w h hn hq).mono ?_
      rintro e w' ⟨rfl, h1, h2⟩
      exact ⟨rfl, h1, h2⟩
  · rw [if_neg hg]
    refine (rmask_bad b g p v w hg).mono ?_
    rintro e w' ⟨rfl, rfl⟩
    exact ⟨rfl, h, Only.refl _ _⟩
theorem mkE_inv (l : List Pe) (g p : Int) (v : Bool) (hi : Inv l) : Inv (mkE l g p v).1 := by
  unfold mkE
  by_cases hg : inG g
  · rw [if_pos hg]
    obtain ⟨n, rfl, hn, e1⟩ := nat_of hg
    rw [e1]
    cases hq : atP l n p with
    | none => exact hi
    | some r =>
      obtain ⟨hr, -, hl⟩ := atP_lt hq
      exact hi.keep _ (by omega) _ hl hl rfl rfl rfl
  · rw [if_neg hg]; exact hi
theorem mkE_small (l : List Pe) (g p : Int) (v : Bool) : ∀ k, (mkE l g p v).2 = some k → k < 16 := by
  intro k
  unfold mkE
  split
  · split
    · intro h; cases h
    · intro h; obtain rfl := Option.some.inj h; decide
  · intro h; obtain rfl := Option.some.inj h; decide

theorem bits_all (l : List Pe) (b : Nat) (g : Int) (w : World) (h : NAt w b l) :
    Calls Tryd.prog 23 #[.pointer (some ⟨b, 0, none⟩), .int .i64 g] w fun e w' => e = .returned (.tuple #[.int .u32 (bpE l g : Nat), .int .u32 (bmE l g : Nat)]) ∧ Below w.heap.size w w' := by
  unfold bpE bmE
  by_cases hg : inG g
  · rw [if_pos hg, if_pos hg]
    obtain ⟨n, rfl, hn, e1⟩ := nat_of hg
    rw [e1]
    exact ebits_any l b n w h hn
  · rw [if_neg hg, if_neg hg]
    refine (ebits_bad b g w hg).mono ?_
    rintro e w' ⟨rfl, rfl⟩
    exact ⟨rfl, Below.refl _ _⟩
theorem rbits_all (l : List Pe) (b : Nat) (g : Int) (w : World) (h : RNAt w b l) :
    Calls Tryd.prog 46 #[.pointer (some ⟨b, 0, none⟩), .int .i64 g] w fun e w' => e = .returned (.tuple #[.int .u32 (bpE l g : Nat), .int .u32 (bmE l g : Nat)]) ∧ w = w' := by
  unfold bpE bmE
  by_cases hg : inG g
  · rw [if_pos hg, if_pos hg]
    obtain ⟨n, rfl, hn, e1⟩ := nat_of hg
    rw [e1]
    exact rbits_any l b n w h hn
  · rw [if_neg hg, if_neg hg]
    exact rbits_bad b g w hg
theorem any_all (l : List Pe) (b : Nat) (g : Int) (w : World) (h : NAt w b l) :
    Calls Tryd.prog 31 #[.pointer (some ⟨b, 0, none⟩), .int .i64 g] w fun e w' => e = .returned (.bool (decide (anE l g ≠ 0))) ∧ Below w.heap.size w w' := by
  unfold anE
  by_cases hg : inG g
  · rw [if_pos hg]
    obtain ⟨n, rfl, hn, e1⟩ := nat_of hg
    rw [e1]
    exact any_any l b n w h hn
  · rw [if_neg hg]
    refine (any_bad b g w hg).mono ?_
    rintro e w' ⟨rfl, rfl⟩
    exact ⟨rfl, Below.refl _ _⟩
theorem look_all (l : List Pe) (b : Nat) (g : Int) (w : World) (h : RNAt w b l) :
    Calls Tryd.prog 44 #[.pointer (some ⟨b, 0, none⟩), .int .i64 g] w fun e w' => e = .returned (.int .u32 (anE l g : Nat)) ∧ w = w' := by
  unfold anE
  by_cases hg : inG g
  · rw [if_pos hg]
    obtain ⟨n, rfl, hn, e1⟩ := nat_of hg
    rw [e1]
    exact rlook_any l b n w h hn
  · rw [if_neg hg]
    exact rlook_bad b g w hg
theorem take_all (l : List Pe) (b : Nat) (g : Int) (w : World) (h : NAt w b l) :
    Calls Tryd.prog 22 #[.pointer (some ⟨b, 0, none⟩), .int .i64 g] w fun e w' => e = .returned (.int .u32 (anE l g : Nat)) ∧ NAt w' b (tkE l g) ∧ Only (fun k => k = b) w w' := by
  unfold anE tkE
  by_cases hg : inG g
  · rw [if_pos hg, if_pos hg]
    obtain ⟨n, rfl, hn, e1⟩ := nat_of hg
    rw [e1]
    exact take_any' l b n w h hn
  · rw [if_neg hg, if_neg hg]
    refine (take_bad b g w hg).mono ?_
    rintro e w' ⟨rfl, rfl⟩
    exact ⟨rfl, h, Only.refl _ _⟩
theorem rtake_all (l : List Pe) (b : Nat) (g : Int) (w : World) (h : RNAt w b l) :
    Calls Tryd.prog 45 #[.pointer (some ⟨b, 0, none⟩), .int .i64 g] w fun e w' => e = .returned (.int .u32 (anE l g : Nat)) ∧ RNAt w' b (tkE l g) ∧ Only (fun k => k = b) w w' := by
  unfold anE tkE
  by_cases hg : inG g
  · rw [if_pos hg, if_pos hg]
    obtain ⟨n, rfl, hn, e1⟩ := nat_of hg
    rw [e1]
    exact rtake_any l b n w h hn
  · rw [if_neg hg, if_neg hg]
    refine (rtake_bad b g w hg).mono ?_
    rintro e w' ⟨rfl, rfl⟩
    exact ⟨rfl, h, Only.refl _ _⟩
theorem tkE_inv (l : List Pe) (g : Int) (hi : Inv l) : Inv (tkE l g) := by
  unfold tkE
  by_cases hg : inG g
  · rw [if_pos hg]
    obtain ⟨n, rfl, hn, e1⟩ := nat_of hg
    rw [e1]
    exact hi.take n hn
  · rw [if_neg hg]; exact hi
/-- a port as it is told -/
def portV (x : Pe) : Value := .agg #[.bool x.live, .bool x.masked, .bool x.pend, .int .i64 (gP x), .int .i64 (pP x)]
set_option maxHeartbeats 800000 in
theorem samePort_refl (l m p : Bool) (g q : Int) (w : World) : Calls Tryd.prog 47 #[.agg #[.bool l, .bool m, .bool p, .int .i64 g, .int .i64 q], .agg #[.bool l, .bool m, .bool p, .int .i64 g, .int .i64 q]] w fun e w' => e = .returned (.bool true) ∧ Below w.heap.size w w' := by
  go_enter Tryd.func47, Tryd.ntmps47
  go_wp2
  go_ret
  exact ⟨rfl, by repeat (first | exact Below.refl _ _ | refine Below.alloc ?_ (by simp) _)⟩
theorem atP_of' (l : List Pe) (g r : Nat) (hr : r < 16) (h : (l.getD (g * 16 + r) default).live = true) : atP l g (r : Int) = some r := by
  unfold atP
  rw [if_pos ⟨by omega, by omega, by rw [Int.toNat_natCast]; exact h⟩, Int.toNat_natCast]
theorem get_live (l : List Pe) (b g r : Nat) (w : World) (h : NAt w b l) (hg : g < 8) (hr : r < 16) (hl : (l.getD (g * 16 + r) default).live = true) :
    Calls Tryd.prog 30 #[.pointer (some ⟨b, 0, none⟩), .int .i64 g, .int .i64 r] w fun e w' => e = .returned (.tuple #[.agg #[.bool true, .bool (l.getD (g * 16 + r) default).masked, .bool (l.getD (g * 16 + r) default).pend, .int .i64 (gP (l.getD (g * 16 + r) default)), .int .i64 (pP (l.getD (g * 16 + r) default))], .bool true]) ∧ Below w.heap.size w w' := by
  have := eget_some l b g r r w h hg (atP_of' l g r hr hl)
  refine this.mono ?_
  rintro e w' ⟨rfl, hb⟩
  refine ⟨?_, hb⟩
  unfold gP pP
  rw [hl]
  rfl
end Go.Proofs.YtpmbbbgmaipmbaaDoor
