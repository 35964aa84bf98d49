/-
  Tables stay as they are behind set, Put, Lend.
-/
import Derived.Test.YtnhocmmgdkiepaaDoorPtLaw
namespace Go.Proofs.YtnhocmmgdkiepaaDoor
open Go.RowKit

theorem page_parts (j : Nat) (hj : j < 256) : ∃ a k r : Nat, j / 16 = a ∧ 1 + a = k ∧ j % 16 = r ∧ wrap64 ((j : Int).tdiv 16) = (a : Int) ∧ IntKind.i64.wrap ((j : Int) / 16) = (a : Int) ∧ IntKind.i64.wrap (1 + (a : Int)) = (k : Int) ∧ (j : Int).tmod 16 = (r : Int) ∧ (0 : Int) ≤ (k : Int) ∧ (k : Int) < 17 ∧ r < 16 :=
  ⟨j / 16, 1 + j / 16, j % 16, rfl, rfl, rfl, by rw [Int.tdiv_eq_ediv_of_nonneg (by omega)]; exact (IntWalk.wrap64_in _ (by omega)).trans (by omega), (IntWalk.i64_in _ (by omega)).trans (by omega), (IntWalk.i64_in _ (by omega)).trans (by omega), by rw [Int.tmod_eq_emod_of_nonneg (by omega)]; omega, by omega, by omega, by omega⟩
theorem tDrop_P (s : Ts) (page : Int) : (tDrop s page).1.P = s.P ∧ (tDrop s page).1.n = s.n ∧ (tDrop s page).1.who = s.who := by
  unfold tDrop
  split
  · split
    · exact ⟨rfl, rfl, rfl⟩
    · exact ⟨rfl, rfl, rfl⟩
  · exact ⟨rfl, rfl, rfl⟩
theorem bitsA_w32 (e : Ent) : W32 (bitsA e).1 := by
  unfold bitsA
  split
  · rename_i h
    have hok := (entOkB_iff _ _ _ _).1 h
    exact ⟨(entW_range hok).1, by have := (entW_range hok).2; omega⟩
  · exact w32_zero
theorem TInv.putE {m : Int} {s : Ts} (h : TInv m s) (page : Int) (hp : isPage page = true) (e : Ent) : TInv m { s with M := putE s.M (s.P.getD (1 + page.toNat / 16) 0) ((page.toNat % 16 : Nat) : Int) e } := by
  unfold Go.Proofs.YtnhocmmgdkiepaaDoor.putE
  split
  · have hpg : 0 ≤ page ∧ page < 256 := by simpa [isPage] using hp
    have h1 := h.pin (1 + page.toNat / 16) (by have := h.p17; omega)
    have hw : s.P.getD (1 + page.toNat / 16) 0 * 16 + ((page.toNat % 16 : Nat) : Int) = ((tWord s page.toNat : Nat) : Int) := by unfold tWord; omega
    rw [hw]
    exact h.word page hp _ (bitsA_w32 e)
  · exact h
theorem TInv.putE' {m : Int} {S : Ts} {P : List Int} (h : TInv m S) (hP : S.P = P) (page : Int) (hp : isPage page = true) (e : Ent) : TInv m { S with M := Go.Proofs.YtnhocmmgdkiepaaDoor.putE S.M (P.getD (1 + page.toNat / 16) 0) ((page.toNat % 16 : Nat) : Int) e } := by
  subst hP
  exact h.putE page hp e
theorem tSetR_inv {m : Int} {s : Ts} (h : TInv m s) (frame : Int) (w : Bool) : TInv (m + 1) { s with F := (tSetR s frame w).l } := by
  unfold tSetR
  by_cases hw : w = true
  · rw [if_pos hw]; exact h.there _ _ kWrite_owner (fun x h1 h2 => kWrite_in h1 h2)
  · rw [if_neg hw]; exact h.there _ _ kUse_owner (fun x h1 h2 => kUse_in h1 h2)
theorem tSetR_same (s : Ts) (frame : Int) (w : Bool) (hc : (tSetR s frame w).c ≠ 0) : (tSetR s frame w).l = s.F := by
  unfold tSetR frThere at hc ⊢
  cases hN : frAt s.F frame with
  | none => rfl
  | some n =>
    obtain ⟨-, hn, -⟩ := frAt_some hN
    rw [hN] at hc
    dsimp only at hc ⊢
    cases w
    · exact absurd rfl hc
    · rw [if_pos rfl] at hc ⊢
      unfold kWrite at hc ⊢
      split
      · exact fr_set_same s.F n hn
      · rename_i hk
        rw [if_neg hk] at hc
        exact absurd rfl hc
theorem tSet_inv {m : Int} {s : Ts} (h : TInv m s) (page frame : Int) (w : Bool) (hp : isPage page = true) : TInv (m + 1 + 1) (tSet s page frame w).1 := by
  unfold tSet
  split
  · have h2 := tDrop_inv (tSetR_inv h frame w) page
    have hP := (tDrop_P { s with F := (tSetR s frame w).l } page).1
    exact h2.putE' hP page hp ⟨frame, true, w, true⟩
  · exact h.mono.mono
theorem tPut_inv {m : Int} {s : Ts} (h : TInv m s) (page : Int) (e : Ent) : TInv (m + 1 + 1) (tPut s page e).1 := by
  unfold tPut
  by_cases hp : isPage page = true
  · rw [if_pos hp]
    split
    · split
      · split
        · exact tSet_inv h page _ _ hp
        · exact h.mono.mono
      · exact h.mono.mono
    · split
      · exact (tDrop_inv h page).mono
      · exact h.mono.mono
  · rw [if_neg hp]; exact h.mono.mono
theorem tLend_inv {m : Int} {s : Ts} (h : TInv m s) (page frame : Int) (w : Bool) : TInv (m + 1 + 1) (tLend s page frame w).1 := by
  unfold tLend
  by_cases hp : isPage page = true
  · rw [if_pos hp]
    split
    · exact tSet_inv h page _ _ hp
    · exact h.mono.mono
  · rw [if_neg hp]; exact h.mono.mono
end Go.Proofs.YtnhocmmgdkiepaaDoor
