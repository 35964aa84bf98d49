/-
  info.Info that came in by value; a slice of words that came in, with its room.
-/
import Derived.Test.YtpmbbbgmaipmbaaDoorStructs
import Derived.Test.YtpmbbbgmaipmbaaDoorFields
import Derived.Test.YtpmbbbgmaipmbaaDoorInf
namespace Go.Proofs.YtpmbbbgmaipmbaaDoor
open Go.ChangeShapes Go.WideShapes Go.ChangeAt Go.RowKit Go.Joins Go.Deep

theorem flat_one (l : List Int) : l.flatMap (fun x => [Value.int .u32 x]) = u32s l := by
  induction l with
  | nil => rfl
  | cons x l ih => exact congrArg (Value.int .u32 x :: ·) ih
set_option maxRecDepth 100000 in
theorem open_words {H : Type} {enc : TypeId × Value → H} {W : World} {v : Value} {d : DataW H} {p : List MemPlace} {r : Reach} {b0 : Nat}
    (hv : Value.okWide Tryd.prog W r b0 63 v) (h : DataW.Trod enc Tryd.prog W 0 (fun _ => true) true 63 v d p) :
    ∃ (ao : Option Addr) (cap : Nat) (l : List Int), v = .slice ao l.length cap ∧ l.length ≤ maxLen ∧ (∀ x ∈ l, 0 ≤ x ∧ x ≤ 4294967295) ∧ AtL W ao (u32s l) ∧ l.length ≤ cap := by
  obtain ⟨ao, cap, l, e, h1, h2, h3, h4⟩ := open_structs (C := 1) Tryd.underlying63 (by kernel_rfl) (by decide) (fun x : Int => [Value.int .u32 x]) (fun x => 0 ≤ x ∧ x ≤ 4294967295) hv h fun n cs y hl hd => by
    obtain ⟨z, e, -, wz⟩ := DataW.trod_int Tryd.underlying22 hd
    exact ⟨z, e, by simpa [Lit.wf, IntKind.min, IntKind.max, IntKind.signed, IntKind.bits] using wz⟩
  rw [flat_one] at h3
  exact ⟨ao, cap, l, e, h1, h2, h3, h4⟩