/-
  Parts of one proof, one behind the other.
-/
import Derived.Test.YtbigilbbbmanjaaGreatDoorRows
import Derived.Test.YtbigilbbbmanjaaGreatDoorCards
import Derived.KernelRfl
import Derived.JoinedOf
import Derived.SevenTiedAt
import Derived.ProofKit
import Derived.LaidMore
import Derived.LaidHandle
import Derived.Lay
/-
  WholeRings: closed facts of the program's text.
-/
set_option maxRecDepth 100000
namespace Go.Proofs.YtbigilbbbmanjaaGreatDoor.wholeRings
theorem f_wide (os : Os) : Input.okWideB Tryz.checked.prog ((World.doorLaid Tryz.prog 2000 os).forCall (fun _ _ => 0) ⟨#[], #[.slice none 0 0, .bool false, .int .u32 0], []⟩) 8 ⟨#[], #[.slice none 0 0, .bool false, .int .u32 0], []⟩ = true := by kernel_rfl
theorem f_pre (os : Os) (H : Type) (enc : TypeId × Value → H) : ChangeSpec.preB enc Tryz.checked.prog Tryz.f8 Rows.wholeRingsSpec [] false ((World.doorLaid Tryz.prog 2000 os).forCall (fun _ _ => 0) ⟨#[], #[.slice none 0 0, .bool false, .int .u32 0], []⟩).memory #[.slice none 0 0, .bool false, .int .u32 0] 8 = true := by kernel_rfl
theorem f_sized (os : Os) (H : Type) (enc : TypeId × Value → H) : ChangeSpec.sizedB enc Tryz.checked.prog Tryz.f8 Rows.wholeRingsSpec false ((World.doorLaid Tryz.prog 2000 os).forCall (fun _ _ => 0) ⟨#[], #[.slice none 0 0, .bool false, .int .u32 0], []⟩).memory #[.slice none 0 0, .bool false, .int .u32 0] 8 = true := by kernel_rfl
end Go.Proofs.YtbigilbbbmanjaaGreatDoor.wholeRings

