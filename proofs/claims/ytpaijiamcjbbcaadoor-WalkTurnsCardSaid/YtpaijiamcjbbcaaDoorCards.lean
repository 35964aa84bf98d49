/-
  DERIVED. GIVEN WITH THE SEED: THE CARDS: each row of YtpaijiamcjbbcaaDoorRows.lean that lists a variable, with what it lists TIED to the program's text (the seventh form; the later family's looks); each row that meets fmt, with fmt's text TOLD by the authors' own Lean function (tested against real Go, not proved from fmt's source: count such statements apart). THE CARD IS WHAT COUNTS. Prove the row's statement (the work); the ties are given (YtpaijiamcjbbcaaDoorTie.lean); close each card by the builder's one call (the guide's Derived/Test/ToyasCard.lean, 'card_holds'). Laid BY PROGRAM, IN A SANDBOX (cutbox-door.mjs). By AI agents, Wed Nov 11 2026. No macro, syntax, notation, axiom, sorry.
-/
import Derived.Test.YtpaijiamcjbbcaaDoorRows
import GoSem.ClaimSeven
namespace Go.Proofs.YtpaijiamcjbbcaaDoor
namespace Rows

/-- THE TIED CARD OF 'facadelaw3.WalkShares'. -/
def walkSharesCard : Claim7 := { stood := { row := walkSharesRow, standIns := [], harness := (true, "35dd514613494cc695963c6b5a3c0e71a6b5bc44da4302ccbeda515b9b5eb274"), looks := false }, kinds := [], alts := [], laidByText := true, laidKinds := [.sentinel], laidTests := true, laidLooks := .later }
def WalkSharesCardSaid : Prop := Claim7.holds Tryd.pinned (.plain (OpenSpec.ofChange walkSharesSpec)) walkSharesCard

/-- THE TIED CARD OF 'facadelaw3.WalkSays'. -/
def walkSaysCard : Claim7 := { stood := { row := walkSaysRow, standIns := [], harness := (true, "35dd514613494cc695963c6b5a3c0e71a6b5bc44da4302ccbeda515b9b5eb274"), looks := false }, kinds := [], alts := [], laidByText := true, laidKinds := [.sentinel], laidTests := true, laidLooks := .later }
def WalkSaysCardSaid : Prop := Claim7.holds Tryd.pinned (.plain (OpenSpec.ofChange walkSaysSpec)) walkSaysCard

/-- THE TIED CARD OF 'facadelaw3.WalkPlaces'. -/
def walkPlacesCard : Claim7 := { stood := { row := walkPlacesRow, standIns := [], harness := (true, "35dd514613494cc695963c6b5a3c0e71a6b5bc44da4302ccbeda515b9b5eb274"), looks := false }, kinds := [], alts := [], laidByText := true, laidKinds := [.sentinel], laidTests := true, laidLooks := .later }
def WalkPlacesCardSaid : Prop := Claim7.holds Tryd.pinned (.plain (OpenSpec.ofChange walkPlacesSpec)) walkPlacesCard

/-- THE TIED CARD OF 'facadelaw3.WalkTurns'. -/
def walkTurnsCard : Claim7 := { stood := { row := walkTurnsRow, standIns := [], harness := (true, "35dd514613494cc695963c6b5a3c0e71a6b5bc44da4302ccbeda515b9b5eb274"), looks := false }, kinds := [], alts := [], laidByText := true, laidKinds := [.sentinel], laidTests := true, laidLooks := .later }
def WalkTurnsCardSaid : Prop := Claim7.holds Tryd.pinned (.plain (OpenSpec.ofChange walkTurnsSpec)) walkTurnsCard

/-- THE SECOND FORM's CARD OF 'facadelaw3.WalkShares'. -/
def walkSharesUptoCard : Claim7 := { stood := { row := walkSharesUptoRow, standIns := [], harness := (true, "35dd514613494cc695963c6b5a3c0e71a6b5bc44da4302ccbeda515b9b5eb274"), looks := false }, kinds := [], alts := [], laidByText := true, laidKinds := [.sentinel], laidTests := true, laidLooks := .later }
def WalkSharesUptoCardSaid : Prop := Claim7.holds Tryd.pinned (.plain (OpenSpec.upto walkSharesSpec)) walkSharesUptoCard

/-- THE SECOND FORM's CARD OF 'facadelaw3.WalkSays'. -/
def walkSaysUptoCard : Claim7 := { stood := { row := walkSaysUptoRow, standIns := [], harness := (true, "35dd514613494cc695963c6b5a3c0e71a6b5bc44da4302ccbeda515b9b5eb274"), looks := false }, kinds := [], alts := [], laidByText := true, laidKinds := [.sentinel], laidTests := true, laidLooks := .later }
def WalkSaysUptoCardSaid : Prop := Claim7.holds Tryd.pinned (.plain (OpenSpec.upto walkSaysSpec)) walkSaysUptoCard

/-- THE SECOND FORM's CARD OF 'facadelaw3.WalkPlaces'. -/
def walkPlacesUptoCard : Claim7 := { stood := { row := walkPlacesUptoRow, standIns := [], harness := (true, "35dd514613494cc695963c6b5a3c0e71a6b5bc44da4302ccbeda515b9b5eb274"), looks := false }, kinds := [], alts := [], laidByText := true, laidKinds := [.sentinel], laidTests := true, laidLooks := .later }
def WalkPlacesUptoCardSaid : Prop := Claim7.holds Tryd.pinned (.plain (OpenSpec.upto walkPlacesSpec)) walkPlacesUptoCard

/-- THE SECOND FORM's CARD OF 'facadelaw3.WalkTurns'. -/
def walkTurnsUptoCard : Claim7 := { stood := { row := walkTurnsUptoRow, standIns := [], harness := (true, "35dd514613494cc695963c6b5a3c0e71a6b5bc44da4302ccbeda515b9b5eb274"), looks := false }, kinds := [], alts := [], laidByText := true, laidKinds := [.sentinel], laidTests := true, laidLooks := .later }
def WalkTurnsUptoCardSaid : Prop := Claim7.holds Tryd.pinned (.plain (OpenSpec.upto walkTurnsSpec)) walkTurnsUptoCard
end Rows
end Go.Proofs.YtpaijiamcjbbcaaDoor
