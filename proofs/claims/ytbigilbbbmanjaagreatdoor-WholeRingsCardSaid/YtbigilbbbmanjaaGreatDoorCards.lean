/-
  DERIVED. GIVEN WITH THE SEED: THE CARDS: each row of YtbigilbbbmanjaaGreatDoorRows.lean that lists a variable, with what it lists TIED to the program's text (the seventh form; the later family's looks); each row that meets fmt, with fmt's text TOLD by the authors' own Lean function (tested against real Go, not proved from fmt's source: count such statements apart). THE CARD IS WHAT COUNTS. Prove the row's statement (the work); the ties are given (YtbigilbbbmanjaaGreatDoorTie.lean); close each card by the builder's one call (the guide's Derived/Test/ToyasCard.lean, 'card_holds'). Laid BY PROGRAM, IN A SANDBOX (cutbox-door.mjs). By AI agents, Wed Nov 11 2026. No macro, syntax, notation, axiom, sorry.
-/
import Derived.Test.YtbigilbbbmanjaaGreatDoorRows
import GoSem.ClaimSeven
namespace Go.Proofs.YtbigilbbbmanjaaGreatDoor
namespace Rows

/-- THE TIED CARD OF 'facadetop.WholeTables'. -/
def wholeTablesCard : Claim7 := { stood := { row := wholeTablesRow, standIns := [], harness := (true, "d05a48b607b4cc5a4bbdb6bdf7069cbda915e1ac08253de21b204d9674194492"), looks := true }, kinds := [], alts := [], laidByText := true, laidKinds := [.handle, .sentinel, .sentinel, .sentinel, .sentinel, .sentinel, .sentinel, .sentinel, .sentinel, .sentinel, .sentinel, .sentinel, .sentinel, .sentinel, .sentinel, .sentinel, .sentinel], laidTests := true, laidLooks := .later }
def WholeTablesCardSaid : Prop := Claim7.holds Tryz.pinned (.plain (OpenSpec.ofChange wholeTablesSpec)) wholeTablesCard

/-- THE TIED CARD OF 'facadetop.WholePadded'. -/
def wholePaddedCard : Claim7 := { stood := { row := wholePaddedRow, standIns := [], harness := (true, "d05a48b607b4cc5a4bbdb6bdf7069cbda915e1ac08253de21b204d9674194492"), looks := true }, kinds := [], alts := [], laidByText := true, laidKinds := [.handle, .sentinel, .sentinel, .sentinel, .sentinel, .sentinel, .sentinel, .sentinel, .sentinel, .sentinel, .sentinel, .sentinel, .sentinel, .sentinel, .sentinel, .sentinel, .sentinel], laidTests := true, laidLooks := .later }
def WholePaddedCardSaid : Prop := Claim7.holds Tryz.pinned (.plain (OpenSpec.ofChange wholePaddedSpec)) wholePaddedCard

/-- THE TIED CARD OF 'facadetop.WholeEvents'. -/
def wholeEventsCard : Claim7 := { stood := { row := wholeEventsRow, standIns := [], harness := (true, "d05a48b607b4cc5a4bbdb6bdf7069cbda915e1ac08253de21b204d9674194492"), looks := true }, kinds := [], alts := [], laidByText := true, laidKinds := [.handle, .sentinel, .sentinel, .sentinel, .sentinel, .sentinel, .sentinel, .sentinel, .sentinel, .sentinel, .sentinel, .sentinel, .sentinel, .sentinel, .sentinel, .sentinel, .sentinel], laidTests := true, laidLooks := .later }
def WholeEventsCardSaid : Prop := Claim7.holds Tryz.pinned (.plain (OpenSpec.ofChange wholeEventsSpec)) wholeEventsCard

/-- THE TIED CARD OF 'facadetop.WholeParted'. -/
def wholePartedCard : Claim7 := { stood := { row := wholePartedRow, standIns := [], harness := (true, "d05a48b607b4cc5a4bbdb6bdf7069cbda915e1ac08253de21b204d9674194492"), looks := true }, kinds := [], alts := [], laidByText := true, laidKinds := [.handle, .sentinel, .sentinel, .sentinel, .sentinel, .sentinel, .sentinel, .sentinel, .sentinel, .sentinel, .sentinel, .sentinel, .sentinel, .sentinel, .sentinel, .sentinel, .sentinel], laidTests := true, laidLooks := .later }
def WholePartedCardSaid : Prop := Claim7.holds Tryz.pinned (.plain (OpenSpec.ofChange wholePartedSpec)) wholePartedCard

/-- THE TIED CARD OF 'facadetop.WholeAlone'. -/
def wholeAloneCard : Claim7 := { stood := { row := wholeAloneRow, standIns := [], harness := (true, "d05a48b607b4cc5a4bbdb6bdf7069cbda915e1ac08253de21b204d9674194492"), looks := true }, kinds := [], alts := [], laidByText := true, laidKinds := [.handle, .sentinel, .sentinel, .sentinel, .sentinel, .sentinel, .sentinel, .sentinel, .sentinel, .sentinel, .sentinel, .sentinel, .sentinel, .sentinel, .sentinel, .sentinel, .sentinel], laidTests := true, laidLooks := .later }
def WholeAloneCardSaid : Prop := Claim7.holds Tryz.pinned (.plain (OpenSpec.ofChange wholeAloneSpec)) wholeAloneCard

/-- THE TIED CARD OF 'facadetop.WholeRings'. -/
def wholeRingsCard : Claim7 := { stood := { row := wholeRingsRow, standIns := [], harness := (true, "d05a48b607b4cc5a4bbdb6bdf7069cbda915e1ac08253de21b204d9674194492"), looks := true }, kinds := [], alts := [], laidByText := true, laidKinds := [.handle, .sentinel, .sentinel, .sentinel, .sentinel, .sentinel, .sentinel, .sentinel, .sentinel, .sentinel, .sentinel, .sentinel, .sentinel, .sentinel, .sentinel, .sentinel, .sentinel], laidTests := true, laidLooks := .later }
def WholeRingsCardSaid : Prop := Claim7.holds Tryz.pinned (.plain (OpenSpec.ofChange wholeRingsSpec)) wholeRingsCard

/-- THE TIED CARD OF 'facadetop.WholeAlike'. -/
def wholeAlikeCard : Claim7 := { stood := { row := wholeAlikeRow, standIns := [], harness := (true, "d05a48b607b4cc5a4bbdb6bdf7069cbda915e1ac08253de21b204d9674194492"), looks := true }, kinds := [], alts := [], laidByText := true, laidKinds := [.handle, .sentinel, .sentinel, .sentinel, .sentinel, .sentinel, .sentinel, .sentinel, .sentinel, .sentinel, .sentinel, .sentinel, .sentinel, .sentinel, .sentinel, .sentinel, .sentinel], laidTests := true, laidLooks := .later }
def WholeAlikeCardSaid : Prop := Claim7.holds Tryz.pinned (.plain (OpenSpec.ofChange wholeAlikeSpec)) wholeAlikeCard

/-- THE SECOND FORM's CARD OF 'facadetop.WholeTables'. -/
def wholeTablesUptoCard : Claim7 := { stood := { row := wholeTablesUptoRow, standIns := [], harness := (true, "d05a48b607b4cc5a4bbdb6bdf7069cbda915e1ac08253de21b204d9674194492"), looks := true }, kinds := [], alts := [], laidByText := true, laidKinds := [.handle, .sentinel, .sentinel, .sentinel, .sentinel, .sentinel, .sentinel, .sentinel, .sentinel, .sentinel, .sentinel, .sentinel, .sentinel, .sentinel, .sentinel, .sentinel, .sentinel], laidTests := true, laidLooks := .later }
def WholeTablesUptoCardSaid : Prop := Claim7.holds Tryz.pinned (.plain (OpenSpec.upto wholeTablesSpec)) wholeTablesUptoCard

/-- THE SECOND FORM's CARD OF 'facadetop.WholePadded'. -/
def wholePaddedUptoCard : Claim7 := { stood := { row := wholePaddedUptoRow, standIns := [], harness := (true, "d05a48b607b4cc5a4bbdb6bdf7069cbda915e1ac08253de21b204d9674194492"), looks := true }, kinds := [], alts := [], laidByText := true, laidKinds := [.handle, .sentinel, .sentinel, .sentinel, .sentinel, .sentinel, .sentinel, .sentinel, .sentinel, .sentinel, .sentinel, .sentinel, .sentinel, .sentinel, .sentinel, .sentinel, .sentinel], laidTests := true, laidLooks := .later }
def WholePaddedUptoCardSaid : Prop := Claim7.holds Tryz.pinned (.plain (OpenSpec.upto wholePaddedSpec)) wholePaddedUptoCard

/-- THE SECOND FORM's CARD OF 'facadetop.WholeEvents'. -/
def wholeEventsUptoCard : Claim7 := { stood := { row := wholeEventsUptoRow, standIns := [], harness := (true, "d05a48b607b4cc5a4bbdb6bdf7069cbda915e1ac08253de21b204d9674194492"), looks := true }, kinds := [], alts := [], laidByText := true, laidKinds := [.handle, .sentinel, .sentinel, .sentinel, .sentinel, .sentinel, .sentinel, .sentinel, .sentinel, .sentinel, .sentinel, .sentinel, .sentinel, .sentinel, .sentinel, .sentinel, .sentinel], laidTests := true, laidLooks := .later }
def WholeEventsUptoCardSaid : Prop := Claim7.holds Tryz.pinned (.plain (OpenSpec.upto wholeEventsSpec)) wholeEventsUptoCard

/-- THE SECOND FORM's CARD OF 'facadetop.WholeParted'. -/
def wholePartedUptoCard : Claim7 := { stood := { row := wholePartedUptoRow, standIns := [], harness := (true, "d05a48b607b4cc5a4bbdb6bdf7069cbda915e1ac08253de21b204d9674194492"), looks := true }, kinds := [], alts := [], laidByText := true, laidKinds := [.handle, .sentinel, .sentinel, .sentinel, .sentinel, .sentinel, .sentinel, .sentinel, .sentinel, .sentinel, .sentinel, .sentinel, .sentinel, .sentinel, .sentinel, .sentinel, .sentinel], laidTests := true, laidLooks := .later }
def WholePartedUptoCardSaid : Prop := Claim7.holds Tryz.pinned (.plain (OpenSpec.upto wholePartedSpec)) wholePartedUptoCard

/-- THE SECOND FORM's CARD OF 'facadetop.WholeAlone'. -/
def wholeAloneUptoCard : Claim7 := { stood := { row := wholeAloneUptoRow, standIns := [], harness := (true, "d05a48b607b4cc5a4bbdb6bdf7069cbda915e1ac08253de21b204d9674194492"), looks := true }, kinds := [], alts := [], laidByText := true, laidKinds := [.handle, .sentinel, .sentinel, .sentinel, .sentinel, .sentinel, .sentinel, .sentinel, .sentinel, .sentinel, .sentinel, .sentinel, .sentinel, .sentinel, .sentinel, .sentinel, .sentinel], laidTests := true, laidLooks := .later }
def WholeAloneUptoCardSaid : Prop := Claim7.holds Tryz.pinned (.plain (OpenSpec.upto wholeAloneSpec)) wholeAloneUptoCard

/-- THE SECOND FORM's CARD OF 'facadetop.WholeRings'. -/
def wholeRingsUptoCard : Claim7 := { stood := { row := wholeRingsUptoRow, standIns := [], harness := (true, "d05a48b607b4cc5a4bbdb6bdf7069cbda915e1ac08253de21b204d9674194492"), looks := true }, kinds := [], alts := [], laidByText := true, laidKinds := [.handle, .sentinel, .sentinel, .sentinel, .sentinel, .sentinel, .sentinel, .sentinel, .sentinel, .sentinel, .sentinel, .sentinel, .sentinel, .sentinel, .sentinel, .sentinel, .sentinel], laidTests := true, laidLooks := .later }
def WholeRingsUptoCardSaid : Prop := Claim7.holds Tryz.pinned (.plain (OpenSpec.upto wholeRingsSpec)) wholeRingsUptoCard

/-- THE SECOND FORM's CARD OF 'facadetop.WholeAlike'. -/
def wholeAlikeUptoCard : Claim7 := { stood := { row := wholeAlikeUptoRow, standIns := [], harness := (true, "d05a48b607b4cc5a4bbdb6bdf7069cbda915e1ac08253de21b204d9674194492"), looks := true }, kinds := [], alts := [], laidByText := true, laidKinds := [.handle, .sentinel, .sentinel, .sentinel, .sentinel, .sentinel, .sentinel, .sentinel, .sentinel, .sentinel, .sentinel, .sentinel, .sentinel, .sentinel, .sentinel, .sentinel, .sentinel], laidTests := true, laidLooks := .later }
def WholeAlikeUptoCardSaid : Prop := Claim7.holds Tryz.pinned (.plain (OpenSpec.upto wholeAlikeSpec)) wholeAlikeUptoCard
end Rows
end Go.Proofs.YtbigilbbbmanjaaGreatDoor
