/-
  What each operation makes of tables: plain laws.
-/
import Derived.Test.YtnhocmmgdkiepaaDoorPt
namespace Go.Proofs.YtnhocmmgdkiepaaDoor
open Go.RowKit

def tDropF (s : Ts) (page : Int) : List Fr := (frThere s.F (tEnt s page).f (if (tEnt s page).w = true then kUnwrite else kUnuse)).l
/-- Drop -/
def tDrop (s : Ts) (page : Int) : Ts × Int :=
  if isPage page = true then (if (tEnt s page).t = true then ({ s with F := tDropF s page, M := writeL s.M (tWord s page.toNat : Int) 0 }, 0) else (s, 0)) else (s, 103)
def tSetR (s : Ts) (frame : Int) (w : Bool) : FrR := frThere s.F frame (if w = true then kWrite else kUse)
/-- set, of a page -/
def tSet (s : Ts) (page frame : Int) (w : Bool) : Ts × Int :=
  if (tSetR s frame w).c = 0 then ({ (tDrop { s with F := (tSetR s frame w).l } page).1 with M := putE (tDrop { s with F := (tSetR s frame w).l } page).1.M (s.P.getD (1 + page.toNat / 16) 0) ((page.toNat % 16 : Nat) : Int) ⟨frame, true, w, true⟩ }, 0) else (s, (tSetR s frame w).c)
def tPut (s : Ts) (page : Int) (e : Ent) : Ts × Int :=
  if isPage page = true then (if e.t = true then (if 0 ≤ e.f ∧ e.f < (s.P.length : Int) then (if (s.F.getD (s.P.getD e.f.toNat 0).toNat default).owner = s.who then tSet s page (s.P.getD e.f.toNat 0) e.w else (s, 110)) else (s, 107)) else (if e.f = 0 ∧ e.w = false ∧ e.u = false then tDrop s page else (s, 103))) else (s, 103)
def tLend (s : Ts) (page frame : Int) (w : Bool) : Ts × Int :=
  if isPage page = true then (if (frAt s.F frame).isSome = true then tSet s page frame w else (s, 107)) else (s, 103)
def tAddR (s : Ts) : FrR := frAlloc s.F s.who
def tAdd (s : Ts) : Ts × Int × Int :=
  if 512 ≤ s.P.length then (s, 0, 104) else if (tAddR s).c = 0 then ({ s with F := (tAddR s).l, M := fillL s.M (tAddR s).n.toNat [], P := s.P ++ [(tAddR s).n] }, (s.P.length : Int), 0) else (s, 0, (tAddR s).c)

/-- words of the tables of the second level may be put -/
theorem TInv.word {m : Int} {s : Ts} (h : TInv m s) (page : Int) (hp : isPage page = true) (x : Int) (hx : W32 x) : TInv m { s with M := writeL s.M (tWord s page.toNat : Int) x } := by
  have hpg : 0 ≤ page ∧ page < 256 := by simpa [isPage] using hp
  have h1 := h.pin (1 + page.toNat / 16) (by have := h.p17; omega)
  have hlt : tWord s page.toNat < s.M.length := by rw [h.lm]; unfold tWord; omega
  have hg : ∀ t, (writeL s.M (tWord s page.toNat : Int) x).getD t 0 = if t = tWord s page.toNat then x else s.M.getD t 0 := fun t => by
    unfold writeL
    rw [if_pos (by omega), Int.toNat_natCast, setD_get _ _ _ _ hlt]
  refine ⟨h.n1, ?_, h.lf, fun j => ?_, h.fok, h.p17, h.p512, h.pin, h.pne, fun k hk => ?_⟩
  · show (writeL s.M _ x).length = _
    unfold writeL
    split
    · rw [List.length_set]; exact h.lm
    · exact h.lm
  · show W32 ((writeL s.M _ x).getD j 0)
    rw [hg j]
    split
    · exact hx
    · exact h.w32 j
  · show (writeL s.M _ x).getD _ 0 = _
    have h0 := h.pin 0 (by have := h.p17; omega)
    have hne : (s.P.getD (1 + page.toNat / 16) 0) ≠ s.P.getD 0 0 := fun e => by
      have := h.pne _ _ (by have := h.p17; omega) (by have := h.p17; omega) e
      omega
    rw [hg, if_neg (by unfold tWord; show ¬ 16 * (s.P.getD 0 0).toNat + k = _; omega)]
    exact h.root k hk
/-- counts may turn -/
theorem TInv.frames {m m' : Int} {s : Ts} (h : TInv m s) {F : List Fr} (hl : F.length = s.F.length) (hok : FrOk m' F) (ho : ∀ i, i < s.F.length → (F.getD i default).owner = (s.F.getD i default).owner) : TInv m' { s with F := F } :=
  ⟨h.n1, h.lm, hl.trans h.lf, h.w32, hok, h.p17, h.p512, fun i hi => by
    have := h.pin i hi
    refine ⟨this.1, this.2.1, ?_⟩
    show (F.getD (s.P.getD i 0).toNat default).owner ≠ -1
    rw [ho (s.P.getD i 0).toNat (by rw [h.lf]; omega)]
    exact this.2.2, h.pne, h.root⟩
theorem frThere_owner (l : List Fr) (i : Int) (k : Fr → Fr × Int) (hk : ∀ x, (k x).1.owner = x.owner) (j : Nat) : ((frThere l i k).l.getD j default).owner = (l.getD j default).owner := by
  unfold frThere
  cases hN : frAt l i with
  | none => rfl
  | some n =>
    obtain ⟨-, hn, -⟩ := frAt_some hN
    show ((l.set n (k (l.getD n default)).1).getD j default).owner = _
    rw [List.getD_eq_getElem?_getD, List.getElem?_set]
    by_cases h : n = j
    · subst h
      rw [if_pos rfl, if_pos hn]
      exact hk _
    · rw [if_neg h, ← List.getD_eq_getElem?_getD]
theorem kUnwrite_owner (x : Fr) : (kUnwrite x).1.owner = x.owner := by unfold kUnwrite; split <;> rfl
theorem kUnuse_owner (x : Fr) : (kUnuse x).1.owner = x.owner := by unfold kUnuse; split <;> rfl
theorem kWrite_owner (x : Fr) : (kWrite x).1.owner = x.owner := by unfold kWrite; split <;> rfl
theorem kUse_owner (x : Fr) : (kUse x).1.owner = x.owner := rfl
theorem TInv.there {m : Int} {s : Ts} (h : TInv m s) (i : Int) (k : Fr → Fr × Int) (hk : ∀ x, (k x).1.owner = x.owner) (hin : ∀ x, frIn m x → x.owner ≠ -1 → frIn (m + 1) (k x).1) : TInv (m + 1) { s with F := (frThere s.F i k).l } :=
  h.frames (frThere_len _ _ _) (frThere_in h.fok i k hin) fun j _ => frThere_owner _ _ _ hk j
theorem TInv.mono {m : Int} {s : Ts} (h : TInv m s) : TInv (m + 1) s := ⟨h.n1, h.lm, h.lf, h.w32, frOk_mono h.fok, h.p17, h.p512, h.pin, h.pne, h.root⟩
theorem w32_zero : W32 0 := ⟨by decide, by decide⟩
theorem tDrop_inv {m : Int} {s : Ts} (h : TInv m s) (page : Int) : TInv (m + 1) (tDrop s page).1 := by
  unfold tDrop
  by_cases hp : isPage page = true
  · rw [if_pos hp]
    by_cases ht : (tEnt s page).t = true
    · rw [if_pos ht]
      have h1 : TInv (m + 1) { s with F := tDropF s page } := by
        unfold tDropF
        by_cases hw : (tEnt s page).w = true
        · rw [if_pos hw]; exact h.there _ _ kUnwrite_owner (fun x h1 h2 => kUnwrite_in h1 h2)
        · rw [if_neg hw]; exact h.there _ _ kUnuse_owner (fun x h1 h2 => kUnuse_in h1 h2)
      exact h1.word page hp 0 w32_zero
    · rw [if_neg ht]; exact h.mono
  · rw [if_neg hp]; exact h.mono
theorem frOk_b {m : Int} {l : List Fr} (h : FrOk m l) (hm : m ≤ 1000000) : ∀ n, n < l.length → (0 ≤ (l.getD n default).wr ∧ (l.getD n default).wr ≤ 1000000) ∧ (0 ≤ (l.getD n default).us ∧ (l.getD n default).us ≤ 1000000) := fun n hn => by
  have := frOk_get h n hn
  exact ⟨⟨this.2.1, Int.le_trans this.2.2.1 hm⟩, ⟨this.2.2.2.1, Int.le_trans this.2.2.2.2.1 hm⟩⟩
end Go.Proofs.YtnhocmmgdkiepaaDoor
