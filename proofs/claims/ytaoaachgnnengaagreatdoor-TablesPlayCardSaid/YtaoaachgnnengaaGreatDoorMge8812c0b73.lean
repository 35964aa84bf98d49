/-
  Parts of one proof, one behind the other.
-/
import Derived.Test.YtaoaachgnnengaaGreatDoorMg93357b2e1a
import Derived.Test.YtaoaachgnnengaaGreatDoorMg46ad1761f3
import Derived.Deep.Slices
import Derived.Test.YtaoaachgnnengaaGreatDoorMg0168c28601
import Derived.Test.YtaoaachgnnengaaGreatDoorMga85010b3ec
import Derived.Test.YtaoaachgnnengaaGreatDoorMga6fdb5c765
/-
  Slices of structs that came in: each element's cells. Over any program.
-/
namespace Go.Proofs.YtaoaachgnnengaaGreatDoor
open Go.ChangeShapes Go.WideShapes Go.ChangeAt Go.RowKit Go.Joins Go.Deep

theorem flat_get {α : Type} (cells : α → List Value) (C : Nat) (h0 : 0 < C) : ∀ (l : List α) (k : Nat) (u : Value), (∀ x ∈ l, (cells x).length = C) → (l.flatMap cells)[k]? = some u → ∃ x, l[k / C]? = some x ∧ (cells x)[k % C]? = some u
  | [], k, u, _, h => by simp at h
  | x :: l, k, u, hl, h => by
    rw [List.flatMap_cons, List.getElem?_append, hl x (by simp)] at h
    by_cases hk : k < C
    · rw [if_pos hk] at h
      exact ⟨x, by rw [Nat.div_eq_of_lt hk]; rfl, by rw [Nat.mod_eq_of_lt hk]; exact h⟩
    · rw [if_neg hk] at h
      obtain ⟨y, h1, h2⟩ := flat_get cells C h0 l (k - C) u (fun x hx => hl x (by simp [hx])) h
      refine ⟨y, ?_, ?_⟩
      · rw [Nat.div_eq_sub_div h0 (by omega), List.getElem?_cons_succ]
        exact h1
      · rw [Nat.mod_eq_sub_mod (by omega)]
        exact h2

theorem open_structs {H : Type} {enc : TypeId × Value → H} {P : Program} {W : World} {t e : TypeId} {C : Nat} {v : Value} {d : DataW H} {p : List MemPlace} {r : Reach} {b0 : Nat}
    (ht : P.underlying t = some (.slice e)) (hC : P.cellsOf e = C) (h0 : 0 < C) {α : Type} [Inhabited α] (cells : α → List Value) (ok : α → Prop) (hv : Value.okWide P W r b0 t v) (h : DataW.Trod enc P W 0 (fun _ => true) true t v d p)
    (hK : ∀ n cs y, cs.length = C → DataW.trod enc P W 0 (fun _ => true) true n e cs = some y → ∃ x, cs = cells x ∧ ok x) :
    ∃ (ao : Option Addr) (cap : Nat) (l : List α), v = .slice ao l.length cap ∧ l.length ≤ maxLen ∧ (∀ x ∈ l, ok x) ∧ AtL W ao (l.flatMap cells) ∧ l.length ≤ cap := by
  obtain ⟨a0, len, cap, rfl⟩ := okWide_slice ht hv
  obtain ⟨fuel, hf⟩ := h
  rcases open_slice ht hf with ⟨hcs, _⟩ | ⟨a, l, c, m, n, D, Pl, hcs, _, hl, hm, hmm, _, hi⟩
  · simp [Value.cells] at hcs
    obtain ⟨rfl, rfl, rfl⟩ := hcs
    exact ⟨none, 0, [], rfl, by simp, by simp, atL_nil _ _, by simp⟩
  · simp [Value.cells] at hcs
    obtain ⟨rfl, rfl, rfl⟩ := hcs
    have hmc : m = cap := by simpa using hmm
    subst hmc
    have hx : ∀ i, i < m → ∃ x : α, ok x ∧ (cells x).length = C ∧ ∀ j u, (cells x)[j]? = some u → W.cell? (a.add (i * C + j)) = some u := fun i him => by
      obtain ⟨cs, hc, hd⟩ := hi i him
      rw [hC] at hc
      obtain ⟨_, hcl, hat⟩ := World.cells?_some hc
      obtain ⟨x, rfl, hok⟩ := hK _ _ _ hcl hd
      refine ⟨x, hok, hcl, fun j u hj => ?_⟩
      have hjl := (List.getElem?_eq_some_iff.1 hj).1
      rw [← Go.Deep.add_add, hat j (by omega)]
      exact hj
    obtain ⟨f, hfx⟩ := choose_lt (α := α) hx
    have hlen : ((List.range len).map f).length = len := by simp
    refine ⟨some a, m, (List.range len).map f, by rw [hlen], by rw [hlen]; omega, ?_, ?_, by rw [hlen]; exact hl⟩
    · intro x hx
      simp only [List.mem_map, List.mem_range] at hx
      obtain ⟨i, hil, rfl⟩ := hx
      exact (hfx i (by omega)).1
    · intro k u hk
      obtain ⟨x, h1, h2⟩ := flat_get cells C h0 _ k u (fun x hx => by
        simp only [List.mem_map, List.mem_range] at hx
        obtain ⟨i, hil, rfl⟩ := hx
        exact (hfx i (by omega)).2.1) hk
      have hkl := (List.getElem?_eq_some_iff.1 h1).1
      rw [hlen] at hkl
      simp only [List.getElem?_map, List.getElem?_range hkl, Option.map_some, Option.some.injEq] at h1
      subst h1
      have hcell := (hfx (k / C) (Nat.lt_of_lt_of_le hkl hl)).2.2 _ u h2
      have e : k / C * C + k % C = k := by rw [Nat.mul_comm]; exact Nat.div_add_mod k C
      rw [e] at hcell
      have hspot : a.spot = none := by
        have h2 := (hfx 0 (Nat.lt_of_lt_of_le (Nat.lt_of_le_of_lt (Nat.zero_le _) hkl) hl)).2
        obtain ⟨u0, hu0⟩ : ∃ u0, (cells (f 0))[0]? = some u0 := ⟨_, List.getElem?_eq_getElem (by rw [h2.1]; exact h0)⟩
        have hs := World.cell?_spot (h2.2 0 u0 hu0)
        simpa [Addr.add] using hs
      obtain ⟨b, off, spot⟩ := a
      have hspot' : spot = none := hspot
      subst hspot'
      rw [Addr.add_lit] at hcell
      exact ⟨b, off, rfl, hcell, World.block_lt_of_cell? W ⟨b, off + k, none⟩ hcell⟩

/-- one field of a struct's cells -/
theorem one_of {cs : List Value} {o : Nat} {v : Value} (h : cs[o]? = some v) (hl : o < cs.length) : cs[o] = v := by
  rw [List.getElem?_eq_getElem hl] at h
  exact Option.some.inj h

theorem bls_flat (l : List Bool) : (l.flatMap fun b : Bool => [Value.bool b]) = bls l := by
  induction l with
  | nil => rfl
  | cons x l ih =>
    rw [List.flatMap_cons, ih]
    rfl

theorem open_bools {H : Type} {enc : TypeId × Value → H} {P : Program} {W : World} {t e : TypeId} {v : Value} {d : DataW H} {p : List MemPlace} {r : Reach} {b0 : Nat}
    (ht : P.underlying t = some (.slice e)) (he : P.underlying e = some .bool) (hC : P.cellsOf e = 1) (hv : Value.okWide P W r b0 t v) (h : DataW.Trod enc P W 0 (fun _ => true) true t v d p) :
    ∃ (ao : Option Addr) (cap : Nat) (l : List Bool), v = .slice ao l.length cap ∧ l.length ≤ maxLen ∧ AtL W ao (bls l) ∧ l.length ≤ cap := by
  obtain ⟨ao, cap, l, e1, e2, -, e3, e4⟩ := open_structs ht hC (by decide) (fun b : Bool => [.bool b]) (fun _ => True) hv h (fun n cs y hl hd => by
    obtain ⟨b, e, -⟩ := DataW.trod_bool he hd
    exact ⟨b, e, trivial⟩)
  refine ⟨ao, cap, l, e1, e2, ?_, e4⟩
  rw [← bls_flat]
  exact e3
end Go.Proofs.YtaoaachgnnengaaGreatDoor

/-
  Tables of which it is known who has each frame, and each page's entry: plain laws.
-/
namespace Go.Proofs.YtaoaachgnnengaaGreatDoor
open Go.RowKit

/-- whose a frame is, and what -/
def okF (F : List Fr) (j : Nat) : Int × Int := ((F.getD j default).owner, (F.getD j default).kind)
theorem frThere_ok (l : List Fr) (i : Int) (k : Fr → Fr × Int) (hk : ∀ x, ((k x).1.owner, (k x).1.kind) = (x.owner, x.kind)) (j : Nat) : okF (frThere l i k).l j = okF l j := by
  unfold frThere
  cases hN : frAt l i with
  | none => rfl
  | some n =>
    obtain ⟨-, hn, -⟩ := frAt_some hN
    show okF (l.set n (k (l.getD n default)).1) j = _
    unfold okF
    rw [fr_setD _ _ _ _ hn]
    by_cases h : j = n
    · rw [if_pos h, h]
      exact hk _
    · rw [if_neg h]
theorem kUnwrite_ok (x : Fr) : ((kUnwrite x).1.owner, (kUnwrite x).1.kind) = (x.owner, x.kind) := by unfold kUnwrite; split <;> rfl
theorem kUnuse_ok (x : Fr) : ((kUnuse x).1.owner, (kUnuse x).1.kind) = (x.owner, x.kind) := by unfold kUnuse; split <;> rfl
theorem kWrite_ok (x : Fr) : ((kWrite x).1.owner, (kWrite x).1.kind) = (x.owner, x.kind) := by unfold kWrite; split <;> rfl
theorem kUse_ok (x : Fr) : ((kUse x).1.owner, (kUse x).1.kind) = (x.owner, x.kind) := rfl
theorem tDropF_ok (s : Ts) (page : Int) (j : Nat) : okF (tDropF s page) j = okF s.F j := by
  unfold tDropF
  split
  · exact frThere_ok _ _ _ kUnwrite_ok j
  · exact frThere_ok _ _ _ kUnuse_ok j
theorem tDrop_ok (s : Ts) (page : Int) (j : Nat) : okF (tDrop s page).1.F j = okF s.F j := by
  unfold tDrop
  split
  · split
    · exact tDropF_ok s page j
    · rfl
  · rfl
theorem tSetR_ok (s : Ts) (frame : Int) (w : Bool) (j : Nat) : okF (tSetR s frame w).l j = okF s.F j := by
  unfold tSetR
  split
  · exact frThere_ok _ _ _ kWrite_ok j
  · exact frThere_ok _ _ _ kUse_ok j
theorem tSet_ok (s : Ts) (page frame : Int) (w : Bool) (j : Nat) : okF (tSet s page frame w).1.F j = okF s.F j := by
  unfold tSet
  split
  · exact (tDrop_ok { s with F := (tSetR s frame w).l } page j).trans (tSetR_ok s frame w j)
  · rfl
theorem tSet_P (s : Ts) (page frame : Int) (w : Bool) : (tSet s page frame w).1.P = s.P ∧ (tSet s page frame w).1.n = s.n ∧ (tSet s page frame w).1.who = s.who := by
  unfold tSet
  split
  · exact tDrop_P { s with F := (tSetR s frame w).l } page
  · exact ⟨rfl, rfl, rfl⟩
/-- another frame changes no entry -/
theorem tEnt_add {m : Int} {s : Ts} (h : TInv m s) (p : Int) : tEnt (tAdd s).1 p = tEnt s p := by
  unfold tAdd
  split
  · rfl
  · split
    · rename_i hc
      obtain ⟨i, hi, ho, hR⟩ := frAlloc_ok hc
      have hRR : tAddR s = _ := hR
      rw [hRR]
      cases hq : isPage p with
      | false => rw [tEnt_none _ p hq, tEnt_none _ p hq]
      | true =>
        have hpq : 0 ≤ p ∧ p < 256 := by simpa [isPage] using hq
        have h1 := h.pin (1 + p.toNat / 16) (by have := h.p17; omega)
        have hne : (s.P.getD (1 + p.toNat / 16) 0).toNat ≠ i := fun e => h1.2.2 (by rw [e]; exact ho)
        have hg : (s.P ++ [(i : Int)]).getD (1 + p.toNat / 16) 0 = s.P.getD (1 + p.toNat / 16) 0 := by
          rw [List.getD_eq_getElem?_getD, List.getElem?_append_left (by have := h.p17; omega), ← List.getD_eq_getElem?_getD]
        have hlf := h.lf
        rw [tEnt_word _ p hq (s.M.getD (tWord s p.toNat) 0) (by
          show (fillL s.M ((i : Nat) : Int).toNat []).getD (16 * ((s.P ++ [(i : Int)]).getD (1 + p.toNat / 16) 0).toNat + p.toNat % 16) 0 = _
          rw [hg, Int.toNat_natCast, fillL_get s.M s.n i [] _ h.lm (by omega) (by decide), if_neg (by omega)]
          rfl), tEnt_word s p hq _ rfl]
    · rfl
theorem tAdd_P (s : Ts) (h : (tAdd s).2.2 = 0) : (tAdd s).1.n = s.n ∧ (tAdd s).1.who = s.who := by
  unfold tAdd
  split
  · exact ⟨rfl, rfl⟩
  · split
    · exact ⟨rfl, rfl⟩
    · exact ⟨rfl, rfl⟩

/-- tables, n frames, of which o another one's; a more are the guest's -/
structure TbAt (m : Int) (S : Ts) (n o a : Nat) (who : Int) (f : Int → Ent) : Prop where
  inv : TInv m S
  sn : S.n = n
  sP : S.P = rngF o (17 + a)
  sw : S.who = who
  own : frOwns who
  sF : ∀ j, j < n → okF S.F j = if j < o then (3, 0) else if j = o then (who, 1) else if j < o + 17 then (who, 2) else if j < o + 17 + a then (who, 0) else (-1, 0)
  ent : ∀ p, tEnt S p = f p
  room : o + 17 + a ≤ n ∧ n ≤ 1024 ∧ 17 + a ≤ 512
set_option maxRecDepth 100000 in
theorem tb_new (n o : Nat) (who : Int) (hw : frOwns who) (hn : o + 17 ≤ n) (hn2 : n ≤ 1024) : TbAt 1 (tNew n o who) n o 0 who fun _ => Ent.z := by
  refine ⟨tNew_inv n o who hw hn hn2, rfl, rfl, rfl, hw, fun j hj => ?_, fun p => ?_, hn, hn2, by decide⟩
  · show okF (frM n o 17 who) j = _
    unfold okF
    rw [frM_get n o 17 j who hj]
    by_cases h1 : j < o
    · rw [if_pos h1, if_pos h1]
    · rw [if_neg h1, if_neg h1]
      by_cases h2 : j < o + 17
      · rw [if_pos h2, if_pos h2]
        by_cases h3 : j = o
        · rw [if_pos h3, if_pos h3]
        · rw [if_neg h3, if_neg h3, if_pos h2]
      · rw [if_neg h2, if_neg (by omega), if_neg h2, if_neg (by omega)]
        rfl
  · cases hq : isPage p with
    | false => exact tEnt_none _ p hq
    | true =>
      have hpq : 0 ≤ p ∧ p < 256 := by simpa [isPage] using hq
      rw [tEnt_word _ p hq 0 (by
        show (tM (List.replicate (16 * n) 0) o 17).getD (16 * ((rngF o 17).getD (1 + p.toNat / 16) 0).toNat + p.toNat % 16) 0 = 0
        rw [rngF_get o 17 _ (by omega), Int.toNat_natCast, tM_get _ n o _ List.length_replicate hn2 17 (by omega) hn, if_neg (by omega), if_pos (by omega)]), ofA_zero'']
      rfl
theorem TbAt.get {m : Int} {S : Ts} {n o a : Nat} {who : Int} {f : Int → Ent} (h : TbAt m S n o a who f) (i : Nat) (hi : i < 17 + a) : S.P.getD i 0 = ((o + i : Nat) : Int) ∧ S.P.length = 17 + a := by
  rw [h.sP]
  exact ⟨rngF_get _ _ _ hi, rngF_len _ _⟩
theorem tb_alloc {m : Int} {S : Ts} {n o a : Nat} {who : Int} {f : Int → Ent} (h : TbAt m S n o a who f) (hn : o + 17 + a < n) : ∃ w u, frAlloc S.F who = ⟨S.F.set (o + 17 + a) ⟨who, 0, w, u⟩, ((o + 17 + a : Nat) : Int), 0⟩ := by
  have hl : S.F.length = n := h.inv.lf.trans h.sn
  have hne := frOwns_ne h.own
  have hx : okF S.F (o + 17 + a) = (-1, 0) := by rw [h.sF _ hn, if_neg (by omega), if_neg (by omega), if_neg (by omega), if_neg (by omega)]
  have hx1 : (S.F.getD (o + 17 + a) default).owner = -1 := (Prod.mk.inj hx).1
  have hx2 : (S.F.getD (o + 17 + a) default).kind = 0 := (Prod.mk.inj hx).2
  have hf : frFree S.F = some (o + 17 + a) := frFree_is (by omega) hx1 fun i hi => by
    have hi' := congrArg Prod.fst (h.sF i (by omega))
    show (okF S.F i).1 ≠ -1
    rw [hi']
    by_cases h1 : i < o
    · rw [if_pos h1]; decide
    · rw [if_neg h1]
      by_cases h2 : i = o
      · rw [if_pos h2]; exact hne
      · rw [if_neg h2]
        by_cases h3 : i < o + 17
        · rw [if_pos h3]; exact hne
        · rw [if_neg h3, if_pos hi]; exact hne
  refine ⟨(S.F.getD (o + 17 + a) default).wr, (S.F.getD (o + 17 + a) default).us, ?_⟩
  unfold frAlloc
  rw [if_pos h.own, hf]
  dsimp only
  rw [hx2]
theorem tb_add {m : Int} {S : Ts} {n o a : Nat} {who : Int} {f : Int → Ent} (h : TbAt m S n o a who f) (hn : o + 17 + a < n) (ha : 17 + a < 512) : (tAdd S).2.1 = ((17 + a : Nat) : Int) ∧ (tAdd S).2.2 = 0 ∧ TbAt (m + 1) (tAdd S).1 n o (a + 1) who f := by
  obtain ⟨w, u, hA⟩ := tb_alloc h hn
  have hR : tAddR S = ⟨S.F.set (o + 17 + a) ⟨who, 0, w, u⟩, ((o + 17 + a : Nat) : Int), 0⟩ := by unfold tAddR; rw [h.sw]; exact hA
  have hl : S.F.length = n := h.inv.lf.trans h.sn
  have hlen : S.P.length = 17 + a := by rw [h.sP]; exact rngF_len _ _
  have hT : tAdd S = ({ S with F := S.F.set (o + 17 + a) ⟨who, 0, w, u⟩, M := fillL S.M ((o + 17 + a : Nat) : Int).toNat [], P := S.P ++ [((o + 17 + a : Nat) : Int)] }, ((17 + a : Nat) : Int), 0) := by
    unfold tAdd
    rw [if_neg (by omega), hR, if_pos rfl, hlen]
  refine ⟨by rw [hT], by rw [hT], tAdd_inv h.inv (by rw [h.sw]; exact frOwns_ne h.own), by rw [hT]; exact h.sn, ?_, by rw [hT]; exact h.sw, h.own, fun j hj => ?_, fun p => by rw [tEnt_add h.inv]; exact h.ent p, by have := h.room; omega, h.room.2.1, by omega⟩
  · rw [hT]
    show S.P ++ [((o + 17 + a : Nat) : Int)] = rngF o (17 + (a + 1))
    rw [h.sP, show 17 + (a + 1) = (17 + a) + 1 by omega, rngF_succ, Nat.add_assoc]
  · rw [hT]
    show okF (S.F.set (o + 17 + a) ⟨who, 0, w, u⟩) j = _
    have hj' := h.sF j hj
    unfold okF at hj' ⊢
    rw [fr_setD _ _ _ _ (by omega)]
    by_cases e : j = o + 17 + a
    · rw [if_pos e, if_neg (by omega), if_neg (by omega), if_neg (by omega), if_pos (by omega)]
    · rw [if_neg e, hj']
      by_cases h1 : j < o
      · rw [if_pos h1, if_pos h1]
      · rw [if_neg h1, if_neg h1]
        by_cases h2 : j = o
        · rw [if_pos h2, if_pos h2]
        · rw [if_neg h2, if_neg h2]
          by_cases h3 : j < o + 17
          · rw [if_pos h3, if_pos h3]
          · rw [if_neg h3, if_neg h3]
            by_cases h4 : j < o + 17 + a
            · rw [if_pos h4, if_pos (by omega)]
            · rw [if_neg h4, if_neg (by omega)]
theorem TbAt.frame {m : Int} {S : Ts} {n o a : Nat} {who : Int} {f : Int → Ent} (h : TbAt m S n o a who f) (i : Nat) (h1 : 17 ≤ i) (h2 : i < 17 + a) : (S.F.getD (o + i) default).owner = who ∧ (S.F.getD (o + i) default).kind = 0 ∧ frAt S.F ((o + i : Nat) : Int) = some (o + i) := by
  have hr := h.room
  have hj := h.sF (o + i) (by omega)
  rw [if_neg (by omega), if_neg (by omega), if_neg (by omega), if_pos (by omega)] at hj
  have ho : (S.F.getD (o + i) default).owner = who := (Prod.mk.inj hj).1
  refine ⟨ho, (Prod.mk.inj hj).2, ?_⟩
  unfold frAt
  rw [if_pos ⟨by omega, by have := h.inv.lf; have := h.sn; omega, by rw [Int.toNat_natCast, ho]; exact frOwns_ne h.own⟩, Int.toNat_natCast]
theorem tb_setR {m : Int} {S : Ts} {n o a : Nat} {who : Int} {f : Int → Ent} (h : TbAt m S n o a who f) (i : Nat) (h1 : 17 ≤ i) (h2 : i < 17 + a) (w : Bool) : (tSetR S ((o + i : Nat) : Int) w).c = 0 := by
  obtain ⟨e1, e2, e3⟩ := h.frame i h1 h2
  unfold tSetR frThere
  rw [e3]
  cases w
  · rfl
  · show (kWrite (S.F.getD (o + i) default)).2 = 0
    unfold kWrite
    rw [if_neg (by rw [e2]; decide)]
theorem tb_put {m : Int} {S : Ts} {n o a : Nat} {who : Int} {f : Int → Ent} (h : TbAt m S n o a who f) (page : Int) (hp : isPage page = true) (i : Nat) (h1 : 17 ≤ i) (h2 : i < 17 + a) (w u : Bool) : tPut S page ⟨(i : Int), true, w, u⟩ = tSet S page ((o + i : Nat) : Int) w ∧ (tPut S page ⟨(i : Int), true, w, u⟩).2 = 0 ∧ TbAt (m + 1 + 1) (tPut S page ⟨(i : Int), true, w, u⟩).1 n o a who fun p => if p = page then ⟨((o + i : Nat) : Int), true, w, true⟩ else f p := by
  obtain ⟨e1, e2, e3⟩ := h.frame i h1 h2
  have hg := h.get i h2
  have hr := h.room
  have hc := tb_setR h i h1 h2 w
  have hput : tPut S page ⟨(i : Int), true, w, u⟩ = tSet S page ((o + i : Nat) : Int) w := by
    unfold tPut
    rw [if_pos hp, if_pos rfl, if_pos (show (0 : Int) ≤ (i : Int) ∧ (i : Int) < (S.P.length : Int) by omega)]
    show (if (S.F.getD (S.P.getD ((i : Nat) : Int).toNat 0).toNat default).owner = S.who then tSet S page (S.P.getD ((i : Nat) : Int).toNat 0) w else (S, 110)) = _
    rw [Int.toNat_natCast, hg.1, Int.toNat_natCast, if_pos (by rw [h.sw]; exact e1)]
  have hinv := tPut_inv h.inv page ⟨(i : Int), true, w, u⟩
  refine ⟨hput, ?_, ?_⟩
  · rw [hput]
    unfold tSet
    rw [if_pos hc]
  · rw [hput] at hinv ⊢
    obtain ⟨p1, p2, p3⟩ := tSet_P S page ((o + i : Nat) : Int) w
    refine ⟨hinv, p2.trans h.sn, p1.trans h.sP, p3.trans h.sw, h.own, fun j hj => (tSet_ok _ _ _ _ j).trans (h.sF j hj), fun p => ?_, h.room⟩
    rw [tEnt_set h.inv page _ w hp hc (by omega), h.ent p]
theorem tb_drop {m : Int} {S : Ts} {n o a : Nat} {who : Int} {f : Int → Ent} (h : TbAt m S n o a who f) (page : Int) (hp : isPage page = true) : (tDrop S page).2 = 0 ∧ TbAt (m + 1) (tDrop S page).1 n o a who fun p => if p = page then Ent.z else f p := by
  refine ⟨?_, ?_⟩
  · unfold tDrop
    rw [if_pos hp]
    split <;> rfl
  · obtain ⟨p1, p2, p3⟩ := tDrop_P S page
    exact ⟨tDrop_inv h.inv page, p2.trans h.sn, p1.trans h.sP, p3.trans h.sw, h.own, fun j hj => (tDrop_ok _ _ j).trans (h.sF j hj), fun p => by rw [tEnt_drop h.inv page hp p, h.ent p], h.room⟩
theorem tb_put0 (S : Ts) (page : Int) (hp : isPage page = true) : tPut S page Ent.z = tDrop S page := by
  unfold tPut
  rw [if_pos hp, if_neg (by decide), if_pos ⟨rfl, rfl, rfl⟩]
end Go.Proofs.YtaoaachgnnengaaGreatDoor

/-
  TablesSafe: plain laws: each frame's writers and uses are as many as the entries that name it.
-/
namespace Go.Proofs.YtaoaachgnnengaaGreatDoor
open Go.RowKit

/-- an entry that names frame k so -/
def entIs (e : Ent) (b : Bool) (k : Int) : Nat := if e.t = true ∧ e.w = b ∧ e.f = k then 1 else 0
/-- how many of the first n pages name frame k so -/
def cntN (f : Int → Ent) (b : Bool) (k : Int) : Nat → Nat
  | 0 => 0
  | n + 1 => cntN f b k n + entIs (f (n : Int)) b k
theorem cntN_out (f g : Int → Ent) (b : Bool) (k page : Int) (e : Ent) (hg : ∀ p, g p = if p = page then e else f p) : ∀ n : Nat, (n : Int) ≤ page → cntN g b k n = cntN f b k n
  | 0, _ => rfl
  | n + 1, h => by
    unfold cntN
    rw [cntN_out f g b k page e hg n (by omega), hg, if_neg (by omega)]
theorem cntN_set (f g : Int → Ent) (b : Bool) (k page : Int) (e : Ent) (hg : ∀ p, g p = if p = page then e else f p) (h0 : 0 ≤ page) : ∀ n : Nat, page < (n : Int) → cntN g b k n + entIs (f page) b k = cntN f b k n + entIs e b k
  | 0, h => absurd h (by omega)
  | n + 1, h => by
    unfold cntN
    by_cases hp : (n : Int) = page
    · rw [cntN_out f g b k page e hg n (by omega), hg, if_pos hp, hp]
      omega
    · have := cntN_set f g b k page e hg h0 n (by omega)
      rw [hg, if_neg hp]
      omega
theorem cntN_pos (f : Int → Ent) (b : Bool) (k page : Int) (h0 : 0 ≤ page) : ∀ n : Nat, page < (n : Int) → entIs (f page) b k ≤ cntN f b k n
  | 0, h => absurd h (by omega)
  | n + 1, h => by
    unfold cntN
    by_cases hp : (n : Int) = page
    · rw [hp]; omega
    · have := cntN_pos f b k page h0 n (by omega)
      omega
theorem cntN_ext (f g : Int → Ent) (b : Bool) (k : Int) (h : ∀ p, f p = g p) : ∀ n, cntN f b k n = cntN g b k n
  | 0 => rfl
  | n + 1 => by unfold cntN; rw [cntN_ext f g b k h n, h]
theorem cntN_zero (f : Int → Ent) (b : Bool) (k : Int) (h : ∀ p : Nat, p < 256 → entIs (f (p : Int)) b k = 0) : ∀ n, n ≤ 256 → cntN f b k n = 0
  | 0, _ => rfl
  | n + 1, hn => by unfold cntN; rw [cntN_zero f b k h n (by omega), h n (by omega)]
theorem entIs_z (b : Bool) (k : Int) : entIs Ent.z b k = 0 := rfl
theorem entIs_le (e : Ent) (b : Bool) (k : Int) : entIs e b k ≤ 1 := by unfold entIs; split <;> omega

/-- how a frame is counted, and how much more -/
def TCnt (S : Ts) (off : Bool → Int → Int) : Prop := ∀ k : Nat, k < S.n → (S.F.getD k default).wr = (cntN (tEnt S) true (k : Int) 256 : Int) + off true (k : Int) ∧ (S.F.getD k default).us = (cntN (tEnt S) false (k : Int) 256 : Int) + off false (k : Int) + (if (S.F.getD k default).kind ≠ 0 then 1 else 0)
structure TSafe (m : Int) (S : Ts) : Prop where
  inv : TInv m S
  own : frOwns S.who
  ent : ∀ p, (tEnt S p).t = true → (tEnt S p).u = true ∧ 0 ≤ (tEnt S p).f ∧ (tEnt S p).f < (S.n : Int) ∧ (S.F.getD (tEnt S p).f.toNat default).owner = S.who ∧ ((tEnt S p).w = true → (S.F.getD (tEnt S p).f.toNat default).kind = 0)
  cnt : TCnt S fun _ _ => 0

theorem frThere_get (l : List Fr) (i : Int) (k : Fr → Fr × Int) (n : Nat) (h : frAt l i = some n) (j : Nat) : (frThere l i k).l.getD j default = if j = n then (k (l.getD n default)).1 else l.getD j default := by
  obtain ⟨-, hn, -⟩ := frAt_some h
  unfold frThere
  rw [h]
  exact fr_setD _ _ _ _ hn
theorem frAt_is (l : List Fr) (n : Nat) (hn : n < l.length) (ho : (l.getD n default).owner ≠ -1) : frAt l (n : Int) = some n := by
  unfold frAt
  rw [if_pos ⟨by omega, by omega, by rw [Int.toNat_natCast]; exact ho⟩, Int.toNat_natCast]
theorem kUnwrite_us (x : Fr) : (kUnwrite x).1.us = x.us ∧ (kUnwrite x).1.kind = x.kind := by unfold kUnwrite; split <;> exact ⟨rfl, rfl⟩
theorem kUnuse_wr (x : Fr) : (kUnuse x).1.wr = x.wr ∧ (kUnuse x).1.kind = x.kind := by unfold kUnuse; split <;> exact ⟨rfl, rfl⟩
theorem tDrop_cnt {m : Int} {S : Ts} (h : TInv m S) (page : Int) (hp : isPage page = true) (off : Bool → Int → Int) (hoff : ∀ b k, 0 ≤ off b k)
    (he : (tEnt S page).t = true → 0 ≤ (tEnt S page).f ∧ (tEnt S page).f < (S.n : Int) ∧ (S.F.getD (tEnt S page).f.toNat default).owner ≠ -1) (hc : TCnt S off) : TCnt (tDrop S page).1 off := by
  have hpg : 0 ≤ page ∧ page < 256 := by simpa [isPage] using hp
  intro k hk
  have hk' : k < S.n := by rw [(tDrop_P S page).2.1] at hk; exact hk
  have hset := fun b => cntN_set (tEnt S) (tEnt (tDrop S page).1) b (k : Int) page Ent.z (fun p => tEnt_drop h page hp p) hpg.1 256 hpg.2
  have h1 := hset true
  have h2 := hset false
  rw [entIs_z] at h1 h2
  obtain ⟨c1, c2⟩ := hc k hk'
  by_cases ht : (tEnt S page).t = true
  · obtain ⟨f0, f1, fo⟩ := he ht
    obtain ⟨n, hn⟩ : ∃ n : Nat, (tEnt S page).f = (n : Int) := ⟨(tEnt S page).f.toNat, by omega⟩
    rw [hn, Int.toNat_natCast] at fo
    have hat := frAt_is S.F n (by rw [h.lf]; omega) fo
    have hF : (tDrop S page).1.F = tDropF S page := by unfold tDrop; rw [if_pos hp, if_pos ht]
    rw [hF]
    unfold tDropF
    rw [hn]
    cases hw : (tEnt S page).w with
    | true =>
      rw [if_pos rfl, frThere_get _ _ _ n hat]
      have e2 : entIs (tEnt S page) false (k : Int) = 0 := by unfold entIs; rw [if_neg (by rw [hw]; simp)]
      by_cases hkn : k = n
      · subst hkn
        have e1 : entIs (tEnt S page) true (k : Int) = 1 := by unfold entIs; rw [if_pos ⟨ht, hw, hn⟩]
        rw [if_pos rfl]
        obtain ⟨q1, q2⟩ := kUnwrite_us (S.F.getD k default)
        have hpos := cntN_pos (tEnt S) true (k : Int) page hpg.1 256 hpg.2
        have ho := hoff true (k : Int)
        have q3 : (kUnwrite (S.F.getD k default)).1.wr = (S.F.getD k default).wr - 1 := by
          unfold kUnwrite
          rw [if_neg (by omega)]
        rw [q1, q2, q3]
        exact ⟨by omega, by omega⟩
      · have e1 : entIs (tEnt S page) true (k : Int) = 0 := by unfold entIs; rw [if_neg (by rw [hn]; omega)]
        rw [if_neg hkn]
        exact ⟨by omega, by omega⟩
    | false =>
      rw [if_neg (by simp), frThere_get _ _ _ n hat]
      have e2 : entIs (tEnt S page) true (k : Int) = 0 := by unfold entIs; rw [if_neg (by rw [hw]; simp)]
      by_cases hkn : k = n
      · subst hkn
        have e1 : entIs (tEnt S page) false (k : Int) = 1 := by unfold entIs; rw [if_pos ⟨ht, hw, hn⟩]
        rw [if_pos rfl]
        obtain ⟨q1, q2⟩ := kUnuse_wr (S.F.getD k default)
        have hpos := cntN_pos (tEnt S) false (k : Int) page hpg.1 256 hpg.2
        have ho := hoff false (k : Int)
        have hkd : (0 : Int) ≤ (if (S.F.getD k default).kind ≠ 0 then 1 else 0) := by split <;> omega
        have q3 : (kUnuse (S.F.getD k default)).1.us = (S.F.getD k default).us - 1 := by
          unfold kUnuse
          rw [if_neg (by omega)]
        rw [q1, q2, q3]
        exact ⟨by omega, by omega⟩
      · have e1 : entIs (tEnt S page) false (k : Int) = 0 := by unfold entIs; rw [if_neg (by rw [hn]; omega)]
        rw [if_neg hkn]
        exact ⟨by omega, by omega⟩
  · have hS : (tDrop S page).1 = S := by unfold tDrop; rw [if_pos hp, if_neg ht]
    rw [hS]
    exact ⟨c1, c2⟩
theorem okF_parts {F F' : List Fr} {j : Nat} (h : okF F' j = okF F j) : (F'.getD j default).owner = (F.getD j default).owner ∧ (F'.getD j default).kind = (F.getD j default).kind := Prod.mk.inj h
theorem tDrop_safe {m : Int} {S : Ts} (h : TSafe m S) (page : Int) : TSafe (m + 1) (tDrop S page).1 := by
  by_cases hp : isPage page = true
  · obtain ⟨p1, p2, p3⟩ := tDrop_P S page
    refine ⟨tDrop_inv h.inv page, by rw [p3]; exact h.own, fun p ht => ?_, tDrop_cnt h.inv page hp _ (fun _ _ => Int.le_refl 0) (fun ht => ?_) h.cnt⟩
    · rw [tEnt_drop h.inv page hp p] at ht ⊢
      by_cases e : p = page
      · rw [if_pos e] at ht
        cases ht
      · rw [if_neg e] at ht ⊢
        obtain ⟨a1, a2, a3, a4, a5⟩ := h.ent p ht
        obtain ⟨o1, o2⟩ := okF_parts (tDrop_ok S page (tEnt S p).f.toNat)
        rw [p2, p3, o1, o2]
        exact ⟨a1, a2, a3, a4, a5⟩
    · obtain ⟨a1, a2, a3, a4, a5⟩ := h.ent page ht
      exact ⟨a2, a3, by rw [a4]; exact frOwns_ne h.own⟩
  · have hS : (tDrop S page).1 = S := by unfold tDrop; rw [if_neg hp]
    rw [hS]
    exact ⟨h.inv.mono, h.own, h.ent, h.cnt⟩
theorem tSet_safe {m : Int} {S : Ts} (h : TSafe m S) (page : Int) (hp : isPage page = true) (g : Nat) (hg : g < S.n) (ho : (S.F.getD g default).owner = S.who) (w : Bool) : TSafe (m + 1 + 1) (tSet S page (g : Int) w).1 := by
  by_cases hc : (tSetR S (g : Int) w).c = 0
  · have hpg : 0 ≤ page ∧ page < 256 := by simpa [isPage] using hp
    have hn1 := h.inv.n1
    have hlf := h.inv.lf
    have hon : (S.F.getD g default).owner ≠ -1 := by rw [ho]; exact frOwns_ne h.own
    have hat := frAt_is S.F g (by omega) hon
    obtain ⟨p1, p2, p3⟩ := tSet_P S page (g : Int) w
    have hE := tEnt_set h.inv page (g : Int) w hp hc (by omega)
    have hkd : w = true → (S.F.getD g default).kind = 0 := fun hw => by
      subst hw
      unfold tSetR frThere at hc
      rw [hat] at hc
      dsimp only at hc
      rw [if_pos rfl] at hc
      unfold kWrite at hc
      by_cases hk : (S.F.getD g default).kind ≠ 0
      · rw [if_pos hk] at hc
        exact absurd hc (show ¬ ((111 : Int) = 0) by decide)
      · exact Classical.not_not.1 hk
    have hI1 := tSetR_inv h.inv (g : Int) w
    have hget : ∀ j, (tSetR S (g : Int) w).l.getD j default = if j = g then ⟨(S.F.getD g default).owner, (S.F.getD g default).kind, (S.F.getD g default).wr + (if w = true then 1 else 0), (S.F.getD g default).us + (if w = true then 0 else 1)⟩ else S.F.getD j default := fun j => by
      unfold tSetR
      rw [frThere_get _ _ _ g hat]
      by_cases hj : j = g
      · rw [if_pos hj, if_pos hj]
        cases w
        · show (⟨_, _, (S.F.getD g default).wr, (S.F.getD g default).us + 1⟩ : Fr) = ⟨_, _, (S.F.getD g default).wr + 0, (S.F.getD g default).us + 1⟩
          rw [Int.add_zero]
        · show (kWrite (S.F.getD g default)).1 = ⟨_, _, (S.F.getD g default).wr + 1, (S.F.getD g default).us + 0⟩
          unfold kWrite
          rw [if_neg (fun hk => hk (hkd rfl)), Int.add_zero]
      · rw [if_neg hj, if_neg hj]
    have hc1 : TCnt { S with F := (tSetR S (g : Int) w).l } fun b k => if b = w ∧ k = (g : Int) then 1 else 0 := fun k hk => by
      obtain ⟨c1, c2⟩ := h.cnt k hk
      dsimp only at c1 c2
      show ((tSetR S (g : Int) w).l.getD k default).wr = (cntN (tEnt S) true (k : Int) 256 : Int) + (if true = w ∧ (k : Int) = (g : Int) then 1 else 0) ∧ ((tSetR S (g : Int) w).l.getD k default).us = (cntN (tEnt S) false (k : Int) 256 : Int) + (if false = w ∧ (k : Int) = (g : Int) then 1 else 0) + (if ((tSetR S (g : Int) w).l.getD k default).kind ≠ 0 then 1 else 0)
      rw [hget k]
      by_cases hk : k = g
      · subst hk
        rw [if_pos (show k = k from rfl)]
        have e1 : (if true = w ∧ (k : Int) = (k : Int) then (1 : Int) else 0) = if w = true then 1 else 0 := by cases w <;> simp
        have e2 : (if false = w ∧ (k : Int) = (k : Int) then (1 : Int) else 0) = if w = true then 0 else 1 := by cases w <;> simp
        rw [e1, e2]
        dsimp only
        exact ⟨by omega, by omega⟩
      · have hkg : ¬ ((k : Int) = (g : Int)) := by omega
        rw [if_neg hk, if_neg (fun h => hkg h.2), if_neg (fun h => hkg h.2)]
        exact ⟨by omega, by omega⟩
    have hc2 := tDrop_cnt hI1 page hp _ (fun b k => by split <;> omega) (fun ht => by
      obtain ⟨a1, a2, a3, a4, a5⟩ := h.ent page ht
      refine ⟨a2, a3, ?_⟩
      show ((tSetR S (g : Int) w).l.getD (tEnt S page).f.toNat default).owner ≠ -1
      rw [(okF_parts (tSetR_ok S (g : Int) w _)).1, a4]
      exact frOwns_ne h.own) hc1
    refine ⟨tSet_inv h.inv page _ w hp, by rw [p3]; exact h.own, fun p ht => ?_, fun k hk => ?_⟩
    · rw [hE p] at ht ⊢
      by_cases e : p = page
      · rw [if_pos e]
        obtain ⟨o1, o2⟩ := okF_parts (tSet_ok S page (g : Int) w g)
        rw [p2, p3]
        dsimp only
        rw [Int.toNat_natCast, o1, o2]
        exact ⟨rfl, by omega, by omega, ho, hkd⟩
      · rw [if_neg e] at ht ⊢
        obtain ⟨a1, a2, a3, a4, a5⟩ := h.ent p ht
        obtain ⟨o1, o2⟩ := okF_parts (tSet_ok S page (g : Int) w (tEnt S p).f.toNat)
        rw [p2, p3, o1, o2]
        exact ⟨a1, a2, a3, a4, a5⟩
    · have hk' : k < S.n := by rw [p2] at hk; exact hk
      have hF : (tSet S page (g : Int) w).1.F = (tDrop { S with F := (tSetR S (g : Int) w).l } page).1.F := by unfold tSet; rw [if_pos hc]
      rw [hF]
      obtain ⟨c1, c2⟩ := hc2 k (by rw [(tDrop_P { S with F := (tSetR S (g : Int) w).l } page).2.1]; exact hk')
      have s1 := fun b => cntN_set (tEnt S) (tEnt (tDrop { S with F := (tSetR S (g : Int) w).l } page).1) b (k : Int) page Ent.z (fun p => tEnt_drop hI1 page hp p) hpg.1 256 hpg.2
      have s2 := fun b => cntN_set (tEnt S) (tEnt (tSet S page (g : Int) w).1) b (k : Int) page ⟨(g : Int), true, w, true⟩ hE hpg.1 256 hpg.2
      have t1 := s1 true
      have t2 := s1 false
      have u1 := s2 true
      have u2 := s2 false
      rw [entIs_z] at t1 t2
      have v : ∀ b, (entIs ⟨(g : Int), true, w, true⟩ b (k : Int) : Int) = if b = w ∧ (k : Int) = (g : Int) then 1 else 0 := fun b => by
        unfold entIs
        by_cases hb : b = w ∧ (k : Int) = (g : Int)
        · rw [if_pos hb, if_pos ⟨rfl, hb.1.symm, hb.2.symm⟩]; rfl
        · rw [if_neg hb, if_neg (fun hh => hb ⟨hh.2.1.symm, hh.2.2.symm⟩)]; rfl
      dsimp only at c1 c2
      dsimp only
      rw [← v true] at c1
      rw [← v false] at c2
      exact ⟨by omega, by omega⟩
  · have hS : (tSet S page (g : Int) w).1 = S := by unfold tSet; rw [if_neg hc]
    rw [hS]
    exact ⟨h.inv.mono.mono, h.own, h.ent, h.cnt⟩
theorem TSafe.mono {m : Int} {S : Ts} (h : TSafe m S) : TSafe (m + 1) S := ⟨h.inv.mono, h.own, h.ent, h.cnt⟩
theorem tPut_safe {m : Int} {S : Ts} (h : TSafe m S) (page : Int) (e : Ent) : TSafe (m + 1 + 1) (tPut S page e).1 := by
  unfold tPut
  by_cases hp : isPage page = true
  · rw [if_pos hp]
    by_cases ht : e.t = true
    · rw [if_pos ht]
      by_cases hf : 0 ≤ e.f ∧ e.f < (S.P.length : Int)
      · rw [if_pos hf]
        by_cases ho : (S.F.getD (S.P.getD e.f.toNat 0).toNat default).owner = S.who
        · rw [if_pos ho]
          have hpin := h.inv.pin e.f.toNat (by omega)
          obtain ⟨g, hg⟩ : ∃ g : Nat, S.P.getD e.f.toNat 0 = (g : Int) := ⟨(S.P.getD e.f.toNat 0).toNat, by omega⟩
          rw [hg] at ho hpin ⊢
          rw [Int.toNat_natCast] at ho
          exact tSet_safe h page hp g (by omega) ho e.w
        · rw [if_neg ho]; exact h.mono.mono
      · rw [if_neg hf]; exact h.mono.mono
    · rw [if_neg ht]
      by_cases hz : e.f = 0 ∧ e.w = false ∧ e.u = false
      · rw [if_pos hz]; exact (tDrop_safe h page).mono
      · rw [if_neg hz]; exact h.mono.mono
  · rw [if_neg hp]; exact h.mono.mono
theorem tAdd_safe {m : Int} {S : Ts} (h : TSafe m S) : TSafe (m + 1) (tAdd S).1 := by
  have hinv := tAdd_inv h.inv (frOwns_ne h.own)
  have hE := tEnt_add h.inv
  unfold tAdd at hinv hE ⊢
  by_cases hl : 512 ≤ S.P.length
  · rw [if_pos hl]; exact h.mono
  · rw [if_neg hl] at hinv hE ⊢
    by_cases hc : (tAddR S).c = 0
    · rw [if_pos hc] at hinv hE ⊢
      obtain ⟨i, hi, hoi, hR0⟩ := frAlloc_ok hc
      have hR : tAddR S = _ := hR0
      have hz : S.F.getD i default = frNo := (frOk_get h.inv.fok i hi).1 hoi
      have hlf := h.inv.lf
      have hget : ∀ j, (tAddR S).l.getD j default = if j = i then ⟨S.who, 0, 0, 0⟩ else S.F.getD j default := fun j => by
        rw [hR, fr_setD _ _ _ _ hi, hz]
        rfl
      have hne : ∀ p, (tEnt S p).t = true → (tEnt S p).f.toNat ≠ i := fun p ht e => by
        have := (h.ent p ht).2.2.2.1
        rw [e, hoi] at this
        exact frOwns_ne h.own this.symm
      refine ⟨hinv, h.own, fun p ht => ?_, fun k hk => ?_⟩
      · dsimp only at hE
        rw [hE p] at ht ⊢
        show _ ∧ _ ∧ _ ∧ ((tAddR S).l.getD (tEnt S p).f.toNat default).owner = S.who ∧ (_ → ((tAddR S).l.getD (tEnt S p).f.toNat default).kind = 0)
        rw [hget, if_neg (hne p ht)]
        exact h.ent p ht
      · obtain ⟨c1, c2⟩ := h.cnt k hk
        have e1 := fun b => cntN_ext _ _ b (k : Int) hE 256
        show ((tAddR S).l.getD k default).wr = (cntN _ true (k : Int) 256 : Int) + 0 ∧ ((tAddR S).l.getD k default).us = (cntN _ false (k : Int) 256 : Int) + 0 + (if ((tAddR S).l.getD k default).kind ≠ 0 then 1 else 0)
        rw [e1 true, e1 false, hget]
        by_cases hki : k = i
        · subst hki
          have hz0 : ∀ b, cntN (tEnt S) b (k : Int) 256 = 0 := fun b => cntN_zero _ b _ (fun p hp => by
            unfold entIs
            rw [if_neg]
            rintro ⟨ht, -, hf⟩
            exact hne _ ht (by rw [hf, Int.toNat_natCast])) 256 (Nat.le_refl _)
          rw [if_pos rfl, hz0, hz0]
          exact ⟨rfl, rfl⟩
        · rw [if_neg hki]
          exact ⟨c1, c2⟩
    · rw [if_neg hc]; exact h.mono
theorem ts_new (n o : Nat) (who : Int) (hw : frOwns who) (hn : o + 17 ≤ n) (hn2 : n ≤ 1024) : TSafe 1 (tNew n o who) := by
  have h := tb_new n o who hw hn hn2
  refine ⟨h.inv, hw, fun p ht => ?_, fun k hk => ?_⟩
  · rw [h.ent p] at ht
    cases ht
  · have hz : ∀ b, cntN (tEnt (tNew n o who)) b (k : Int) 256 = 0 := fun b => cntN_zero _ b _ (fun p _ => by rw [h.ent]; rfl) 256 (Nat.le_refl _)
    rw [hz, hz]
    show ((frM n o 17 who).getD k default).wr = _ ∧ ((frM n o 17 who).getD k default).us = _ + (if ((frM n o 17 who).getD k default).kind ≠ 0 then 1 else 0)
    rw [frM_get n o 17 k who hk]
    by_cases h1 : k < o
    · rw [if_pos h1]; exact ⟨rfl, rfl⟩
    · rw [if_neg h1]
      by_cases h2 : k < o + 17
      · rw [if_pos h2, if_pos h2]
        refine ⟨rfl, ?_⟩
        show (1 : Int) = _
        rw [if_pos (by dsimp only; split <;> decide)]
        rfl
      · rw [if_neg h2]; exact ⟨rfl, rfl⟩
end Go.Proofs.YtaoaachgnnengaaGreatDoor

/-
  Things that tables are told: what they make of them.
-/
namespace Go.Proofs.YtaoaachgnnengaaGreatDoor
open Go.ChangeShapes Go.WideShapes Go.ChangeAt Go.RowKit Go.Joins Go.Deep

structure TDo where
  kind : Int
  a : Int
  b : Int
  e : Ent
  is : Bool
instance : Inhabited TDo := ⟨⟨0, 0, 0, Ent.z, false⟩⟩
def tdoCells (d : TDo) : List Value := [.int .i64 d.kind, .int .i64 d.a, .int .i64 d.b, .int .i64 d.e.f, .bool d.e.t, .bool d.e.w, .bool d.e.u, .bool d.is]
theorem tdo_len (d : TDo) : (tdoCells d).length = 8 := rfl
set_option maxRecDepth 100000 in
theorem open_tdo {H : Type} {enc : TypeId × Value → H} {W : World} {v : Value} {d : DataW H} {p : List MemPlace} {r : Reach} {b0 : Nat}
    (hv : Value.okWide Tryz.prog W r b0 22 v) (h : DataW.Trod enc Tryz.prog W 0 (fun _ => true) true 22 v d p) :
    ∃ (ao : Option Addr) (cap : Nat) (l : List TDo), v = .slice ao l.length cap ∧ l.length ≤ maxLen ∧ (∀ x ∈ l, True) ∧ AtL W ao (l.flatMap tdoCells) ∧ l.length ≤ cap :=
  open_structs (C := 8) Tryz.underlying22 (by kernel_rfl) (by decide) tdoCells (fun _ => True) hv h fun n cs y hl hd => by
    obtain ⟨xs, n', -, -, hxl, hx, hi⟩ := DataW.trod_struct Tryz.underlying36 hd
    have hx5 : xs.length = 5 := hx
    have get : ∀ i, i < 5 → ∃ y, xs[i]? = some y := fun i hi => ⟨_, List.getElem?_eq_getElem (by omega)⟩
    obtain ⟨y0, g0⟩ := get 0 (by omega)
    obtain ⟨y1, g1⟩ := get 1 (by omega)
    obtain ⟨y2, g2⟩ := get 2 (by omega)
    obtain ⟨y3, g3⟩ := get 3 (by omega)
    obtain ⟨y4, g4⟩ := get 4 (by omega)
    obtain ⟨a, e0, -⟩ := fld_int Tryz.underlying3 (by kernel_rfl) ((hi 0 _ rfl).trans g0)
    obtain ⟨b, e1, -⟩ := fld_int Tryz.underlying3 (by kernel_rfl) ((hi 1 _ rfl).trans g1)
    obtain ⟨c, e2, -⟩ := fld_int Tryz.underlying3 (by kernel_rfl) ((hi 2 _ rfl).trans g2)
    obtain ⟨zs, n2, -, -, hzl, hz, hj⟩ := DataW.trod_struct Tryz.underlying34 ((hi 3 _ rfl).trans g3)
    have hz4 : zs.length = 4 := hz
    have getz : ∀ i, i < 4 → ∃ y, zs[i]? = some y := fun i hi => ⟨_, List.getElem?_eq_getElem (by omega)⟩
    obtain ⟨z0, k0⟩ := getz 0 (by omega)
    obtain ⟨z1, k1⟩ := getz 1 (by omega)
    obtain ⟨z2, k2⟩ := getz 2 (by omega)
    obtain ⟨z3, k3⟩ := getz 3 (by omega)
    obtain ⟨ef, e3, -⟩ := fld_int Tryz.underlying3 (by kernel_rfl) ((hj 0 _ rfl).trans k0)
    obtain ⟨et, e4⟩ := fld_bool Tryz.underlying4 (by kernel_rfl) ((hj 1 _ rfl).trans k1)
    obtain ⟨ew, e5⟩ := fld_bool Tryz.underlying4 (by kernel_rfl) ((hj 2 _ rfl).trans k2)
    obtain ⟨eu, e6⟩ := fld_bool Tryz.underlying4 (by kernel_rfl) ((hj 3 _ rfl).trans k3)
    obtain ⟨g, e7⟩ := fld_bool Tryz.underlying4 (by kernel_rfl) ((hi 4 _ rfl).trans g4)
    refine ⟨⟨a, b, c, ⟨ef, et, ew, eu⟩, g⟩, ?_, trivial⟩
    match cs, hl with
    | [b0, b1, b2, b3, b4, b5, b6, b7], _ =>
      have q0 : some b0 = some _ := e0
      have q1 : some b1 = some _ := e1
      have q2 : some b2 = some _ := e2
      have q3 : some b3 = some _ := e3
      have q4 : some b4 = some _ := e4
      have q5 : some b5 = some _ := e5
      have q6 : some b6 = some _ := e6
      have q7 : some b7 = some _ := e7
      cases q0
      cases q1
      cases q2
      cases q3
      cases q4
      cases q5
      cases q6
      cases q7
      rfl

def tDo (s : Ts) (d : TDo) : Ts := if d.kind = 1 then (tAdd s).1 else if d.kind = 2 then (tPut s d.a d.e).1 else if d.kind = 3 then (tLend s d.a d.b d.is).1 else (tDrop s d.a).1
theorem tDo_inv {m : Int} {s : Ts} (h : TInv m s) (hw : s.who ≠ -1) (d : TDo) : TInv (m + 1 + 1) (tDo s d) := by
  unfold tDo
  split
  · exact (tAdd_inv h hw).mono
  · split
    · exact tPut_inv h d.a d.e
    · split
      · exact tLend_inv h d.a d.b d.is
      · exact (tDrop_inv h d.a).mono
theorem tDo_safe {m : Int} {s : Ts} (h : TSafe m s) (d : TDo) (h3 : d.kind ≠ 3) : TSafe (m + 1 + 1) (tDo s d) := by
  unfold tDo
  split
  · exact (tAdd_safe h).mono
  · split
    · exact tPut_safe h d.a d.e
    · exact (tDrop_safe h d.a).mono
theorem tDo_who (s : Ts) (d : TDo) : (tDo s d).who = s.who ∧ (tDo s d).n = s.n := by
  have hd := fun s page => (tDrop_P s page).2
  have hs : ∀ s page f w, (tSet s page f w).1.who = s.who ∧ (tSet s page f w).1.n = s.n := fun s page f w => ⟨(tSet_P s page f w).2.2, (tSet_P s page f w).2.1⟩
  unfold tDo
  split
  · unfold tAdd
    split
    · exact ⟨rfl, rfl⟩
    · split <;> exact ⟨rfl, rfl⟩
  · split
    · unfold tPut
      split
      · split
        · split
          · split
            · exact hs _ _ _ _
            · exact ⟨rfl, rfl⟩
          · exact ⟨rfl, rfl⟩
        · split
          · exact ⟨(hd _ _).2, (hd _ _).1⟩
          · exact ⟨rfl, rfl⟩
      · exact ⟨rfl, rfl⟩
    · split
      · unfold tLend
        split
        · split
          · exact hs _ _ _ _
          · exact ⟨rfl, rfl⟩
        · exact ⟨rfl, rfl⟩
      · exact ⟨(hd _ _).2, (hd _ _).1⟩
/-- the first k that were told -/
def tDos (s : Ts) (l : List TDo) : Nat → Ts
  | 0 => s
  | k + 1 => tDo (tDos s l k) (l.getD k default)
theorem tDos_inv {m : Int} {s : Ts} (h : TInv m s) (hw : s.who ≠ -1) (l : List TDo) : ∀ k : Nat, TInv (m + 2 * (k : Int)) (tDos s l k) ∧ (tDos s l k).who = s.who ∧ (tDos s l k).n = s.n
  | 0 => ⟨by rw [show m + 2 * ((0 : Nat) : Int) = m by omega]; exact h, rfl, rfl⟩
  | k + 1 => by
    obtain ⟨h1, h2, h3⟩ := tDos_inv h hw l k
    have hd := tDo_who (tDos s l k) (l.getD k default)
    refine ⟨?_, hd.1.trans h2, hd.2.trans h3⟩
    rw [show m + 2 * ((k + 1 : Nat) : Int) = m + 2 * (k : Int) + 1 + 1 by omega]
    exact tDo_inv h1 (by rw [h2]; exact hw) _
/-- the same, but what is lent is left out -/
def tDosN (s : Ts) (l : List TDo) : Nat → Ts
  | 0 => s
  | k + 1 => if (l.getD k default).kind = 3 then tDosN s l k else tDo (tDosN s l k) (l.getD k default)
theorem tDosN_safe {m : Int} {s : Ts} (h : TSafe m s) (l : List TDo) : ∀ k : Nat, TSafe (m + 2 * (k : Int)) (tDosN s l k) ∧ (tDosN s l k).who = s.who ∧ (tDosN s l k).n = s.n
  | 0 => ⟨by rw [show m + 2 * ((0 : Nat) : Int) = m by omega]; exact h, rfl, rfl⟩
  | k + 1 => by
    obtain ⟨h1, h2, h3⟩ := tDosN_safe h l k
    have hd := tDo_who (tDosN s l k) (l.getD k default)
    rw [show m + 2 * ((k + 1 : Nat) : Int) = m + 2 * (k : Int) + 1 + 1 by omega]
    unfold tDosN
    split
    · exact ⟨h1.mono.mono, h2, h3⟩
    · rename_i hk
      exact ⟨tDo_safe h1 _ hk, hd.1.trans h2, hd.2.trans h3⟩
end Go.Proofs.YtaoaachgnnengaaGreatDoor

