/-
  DERIVED. GIVEN WITH THE SEED: THE CARDS: each row of YtehmpdgpjpifoaaDoorRows.lean that lists a variable, with what it lists TIED to the program's text (the seventh form; the later family's looks); each row that meets fmt, with fmt's text TOLD by the authors' own Lean function (tested against real Go, not proved from fmt's source: count such statements apart). THE CARD IS WHAT COUNTS. Prove the row's statement (the work); the ties are given (YtehmpdgpjpifoaaDoorTie.lean); close each card by the builder's one call (the guide's Derived/Test/ToyasCard.lean, 'card_holds'). Laid BY PROGRAM, IN A SANDBOX (cutbox-door.mjs). By AI agents, Wed Nov 11 2026. No macro, syntax, notation, axiom, sorry.
-/
import Derived.Test.YtehmpdgpjpifoaaDoorRows
import GoSem.ClaimSeven
namespace Go.Proofs.YtehmpdgpjpifoaaDoor
namespace Rows

/-- THE TIED CARD OF 'facadelaw14.LoadBounds'. -/
def loadBoundsCard : Claim7 := { stood := { row := loadBoundsRow, standIns := [], harness := (true, "2903308c7cebeb703c5b8c8e59ed84c3e35594ecc64ebbe5c62738f8609f6472"), looks := true }, kinds := [], alts := [], laidByText := true, laidKinds := [.sentinel, .sentinel, .sentinel, .sentinel, .sentinel, .sentinel, .sentinel, .sentinel, .sentinel, .sentinel, .sentinel, .sentinel, .sentinel, .sentinel, .sentinel, .sentinel], laidTests := true, laidLooks := .later }
def LoadBoundsCardSaid : Prop := Claim7.holds Tryd.pinned (.plain (OpenSpec.ofChange loadBoundsSpec)) loadBoundsCard

/-- THE TIED CARD OF 'facadelaw14.LoadLies'. -/
def loadLiesCard : Claim7 := { stood := { row := loadLiesRow, standIns := [], harness := (true, "2903308c7cebeb703c5b8c8e59ed84c3e35594ecc64ebbe5c62738f8609f6472"), looks := true }, kinds := [], alts := [], laidByText := true, laidKinds := [.sentinel, .sentinel], laidTests := true, laidLooks := .later }
def LoadLiesCardSaid : Prop := Claim7.holds Tryd.pinned (.plain (OpenSpec.ofChange loadLiesSpec)) loadLiesCard

/-- THE TIED CARD OF 'facadelaw14.LoadSays'. -/
def loadSaysCard : Claim7 := { stood := { row := loadSaysRow, standIns := [], harness := (true, "2903308c7cebeb703c5b8c8e59ed84c3e35594ecc64ebbe5c62738f8609f6472"), looks := true }, kinds := [], alts := [], laidByText := true, laidKinds := [.sentinel, .sentinel, .sentinel, .sentinel, .sentinel, .sentinel, .sentinel, .sentinel, .sentinel, .sentinel, .sentinel, .sentinel, .sentinel, .sentinel, .sentinel, .sentinel], laidTests := true, laidLooks := .later }
def LoadSaysCardSaid : Prop := Claim7.holds Tryd.pinned (.plain (OpenSpec.ofChange loadSaysSpec)) loadSaysCard

/-- THE SECOND FORM's CARD OF 'facadelaw14.LoadBounds'. -/
def loadBoundsUptoCard : Claim7 := { stood := { row := loadBoundsUptoRow, standIns := [], harness := (true, "2903308c7cebeb703c5b8c8e59ed84c3e35594ecc64ebbe5c62738f8609f6472"), looks := true }, kinds := [], alts := [], laidByText := true, laidKinds := [.sentinel, .sentinel, .sentinel, .sentinel, .sentinel, .sentinel, .sentinel, .sentinel, .sentinel, .sentinel, .sentinel, .sentinel, .sentinel, .sentinel, .sentinel, .sentinel], laidTests := true, laidLooks := .later }
def LoadBoundsUptoCardSaid : Prop := Claim7.holds Tryd.pinned (.plain (OpenSpec.upto loadBoundsSpec)) loadBoundsUptoCard

/-- THE SECOND FORM's CARD OF 'facadelaw14.LoadLies'. -/
def loadLiesUptoCard : Claim7 := { stood := { row := loadLiesUptoRow, standIns := [], harness := (true, "2903308c7cebeb703c5b8c8e59ed84c3e35594ecc64ebbe5c62738f8609f6472"), looks := true }, kinds := [], alts := [], laidByText := true, laidKinds := [.sentinel, .sentinel], laidTests := true, laidLooks := .later }
def LoadLiesUptoCardSaid : Prop := Claim7.holds Tryd.pinned (.plain (OpenSpec.upto loadLiesSpec)) loadLiesUptoCard

/-- THE SECOND FORM's CARD OF 'facadelaw14.LoadSays'. -/
def loadSaysUptoCard : Claim7 := { stood := { row := loadSaysUptoRow, standIns := [], harness := (true, "2903308c7cebeb703c5b8c8e59ed84c3e35594ecc64ebbe5c62738f8609f6472"), looks := true }, kinds := [], alts := [], laidByText := true, laidKinds := [.sentinel, .sentinel, .sentinel, .sentinel, .sentinel, .sentinel, .sentinel, .sentinel, .sentinel, .sentinel, .sentinel, .sentinel, .sentinel, .sentinel, .sentinel, .sentinel], laidTests := true, laidLooks := .later }
def LoadSaysUptoCardSaid : Prop := Claim7.holds Tryd.pinned (.plain (OpenSpec.upto loadSaysSpec)) loadSaysUptoCard
end Rows
end Go.Proofs.YtehmpdgpjpifoaaDoor
