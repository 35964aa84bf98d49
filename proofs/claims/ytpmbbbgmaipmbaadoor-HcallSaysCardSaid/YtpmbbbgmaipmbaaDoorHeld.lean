/-
  A region that draws its order, walked by hand: one operation is taken first; one whose guard says no is passed over. Over any program.
-/
import Derived.Test.YtpmbbbgmaipmbaaDoorPlain
import Derived.Deep.RegionHeld3
namespace Go.Proofs.YtpmbbbgmaipmbaaDoor
open Go.RowKit

section
variable {P : Program} {ops : Array Oper} {Q : Exit → Act → World → Prop} {md : Region.Mode} {S : World → Prop} {fuel : Nat} {listed : Array Bool} {a : Act} {w : World}
theorem heldTake (i : Nat) {v : Value} (hs : Region.noSelect ops = true) (hf : Region.free md ops listed i = true) (hr : (Region.ready md ops listed).contains i = true) (hi : (ops[i]?).isSome = true)
    (hQ : ∀ (d : Option Tmp) (u : Value) c a w, Q (.panic c) (a.put d u) w → Q (.panic c) a w) (hS : S w)
    (hw : ∀ oi, ops[i]? = some oi → Region.wanted oi (yielded ops a.tmps) = true) (hy : ∀ oi, ops[i]? = some oi → ∀ w, S w → (execOp a.eval oi).run P w = .ok (.value v) w)
    (h : ∀ oi, ops[i]? = some oi → wpAnyH P md ops Q S fuel (listed.setIfInBounds i true) (a.put oi.dst v) w) : wpAnyH P md ops Q S (fuel + 1) listed a w := by
  obtain ⟨oi, ho⟩ := Option.isSome_iff_exists.1 hi
  exact wpAnyH_take ho hs hf hr (hQ oi.dst _) (Or.inl ⟨hw oi ho, hy oi ho⟩) hS (h oi ho)
theorem heldSkip (i : Nat) (hs : Region.noSelect ops = true) (hf : Region.free md ops listed i = true) (hr : (Region.ready md ops listed).contains i = true) (hi : (ops[i]?).isSome = true)
    (hQ : ∀ (d : Option Tmp) (u : Value) c a w, Q (.panic c) (a.put d u) w → Q (.panic c) a w) (hS : S w)
    (hw : ∀ oi, ops[i]? = some oi → Region.wanted oi (yielded ops a.tmps) = false)
    (h : ∀ oi, ops[i]? = some oi → wpAnyH P md ops Q S fuel (listed.setIfInBounds i true) (a.put oi.dst undef) w) : wpAnyH P md ops Q S (fuel + 1) listed a w := by
  obtain ⟨oi, ho⟩ := Option.isSome_iff_exists.1 hi
  exact wpAnyH_take ho hs hf hr (hQ oi.dst _) (Or.inr ⟨hw oi ho, rfl⟩) hS (h oi ho)
theorem heldOne {i : Nat} {rs : List Nat} (hi : (ops[i]?).isSome = true)
    (h : ∀ o, ops[i]? = some o → ∀ K' : Act → World → Prop, Shut (∀ a w, S w → (S w → wpAnyH P md ops Q S fuel (listed.setIfInBounds i true) a w) → K' a w) → if Region.wanted o (yielded ops a.tmps) = true then Oper.wp P o a w K' Q else K' (a.put o.dst undef) w)
    (hs : AllReadyH P md ops Q S fuel listed a w rs) : AllReadyH P md ops Q S fuel listed a w (i :: rs) := by
  obtain ⟨o, ho⟩ := Option.isSome_iff_exists.1 hi
  exact AllReadyH.cons ho (h o ho) hs
end
end Go.Proofs.YtpmbbbgmaipmbaaDoor
