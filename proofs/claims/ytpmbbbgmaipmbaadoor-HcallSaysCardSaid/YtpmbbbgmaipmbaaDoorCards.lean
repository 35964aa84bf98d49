/-
  DERIVED. GIVEN WITH THE SEED: THE CARDS: each row of YtpmbbbgmaipmbaaDoorRows.lean that lists a variable, with what it lists TIED to the program's text (the seventh form; the later family's looks); each row that meets fmt, with fmt's text TOLD by the authors' own Lean function (tested against real Go, not proved from fmt's source: count such statements apart). THE CARD IS WHAT COUNTS. Prove the row's statement (the work); the ties are given (YtpmbbbgmaipmbaaDoorTie.lean); close each card by the builder's one call (the guide's Derived/Test/ToyasCard.lean, 'card_holds'). Laid BY PROGRAM, IN A SANDBOX (cutbox-door.mjs). By AI agents, Wed Nov 11 2026. No macro, syntax, notation, axiom, sorry.
-/
import Derived.Test.YtpmbbbgmaipmbaaDoorRows
import GoSem.ClaimSeven
namespace Go.Proofs.YtpmbbbgmaipmbaaDoor
namespace Rows

/-- THE TIED CARD OF 'facadelaw25.HcallCodes'. -/
def hcallCodesCard : Claim7 := { stood := { row := hcallCodesRow, standIns := [], harness := (true, "797c7b2b8a96d75ac2405bcf83ae6c108a5e8f679e4dcf9c715771a8b279fd6e"), looks := true }, kinds := [], alts := [], laidByText := true, laidKinds := [.sentinel, .sentinel, .sentinel, .sentinel, .sentinel, .sentinel, .sentinel, .sentinel, .sentinel, .sentinel, .sentinel, .sentinel, .sentinel, .sentinel, .sentinel, .sentinel], laidTests := true, laidLooks := .later }
def HcallCodesCardSaid : Prop := Claim7.holds Tryd.pinned (.plain (OpenSpec.ofChange hcallCodesSpec)) hcallCodesCard

/-- THE TIED CARD OF 'facadelaw21.EvchLoops'. -/
def evchLoopsCard : Claim7 := { stood := { row := evchLoopsRow, standIns := [], harness := (true, "797c7b2b8a96d75ac2405bcf83ae6c108a5e8f679e4dcf9c715771a8b279fd6e"), looks := true }, kinds := [], alts := [], laidByText := true, laidKinds := [.sentinel, .sentinel, .sentinel, .sentinel, .sentinel, .sentinel, .sentinel, .sentinel, .sentinel, .sentinel, .sentinel, .sentinel, .sentinel, .sentinel, .sentinel, .sentinel], laidTests := true, laidLooks := .later }
def EvchLoopsCardSaid : Prop := Claim7.holds Tryd.pinned (.plain (OpenSpec.ofChange evchLoopsSpec)) evchLoopsCard

/-- THE TIED CARD OF 'facadelaw25.HcallRegs'. -/
def hcallRegsCard : Claim7 := { stood := { row := hcallRegsRow, standIns := [], harness := (true, "797c7b2b8a96d75ac2405bcf83ae6c108a5e8f679e4dcf9c715771a8b279fd6e"), looks := true }, kinds := [], alts := [], laidByText := true, laidKinds := [.sentinel, .sentinel, .sentinel, .sentinel, .sentinel, .sentinel, .sentinel, .sentinel, .sentinel, .sentinel, .sentinel, .sentinel, .sentinel, .sentinel, .sentinel, .sentinel], laidTests := true, laidLooks := .later }
def HcallRegsCardSaid : Prop := Claim7.holds Tryd.pinned (.plain (OpenSpec.ofChange hcallRegsSpec)) hcallRegsCard

/-- THE TIED CARD OF 'facadelaw21.EvchMany'. -/
def evchManyCard : Claim7 := { stood := { row := evchManyRow, standIns := [], harness := (true, "797c7b2b8a96d75ac2405bcf83ae6c108a5e8f679e4dcf9c715771a8b279fd6e"), looks := true }, kinds := [], alts := [], laidByText := true, laidKinds := [.sentinel, .sentinel, .sentinel, .sentinel, .sentinel, .sentinel, .sentinel, .sentinel, .sentinel, .sentinel, .sentinel, .sentinel, .sentinel, .sentinel, .sentinel, .sentinel], laidTests := true, laidLooks := .later }
def EvchManyCardSaid : Prop := Claim7.holds Tryd.pinned (.plain (OpenSpec.ofChange evchManySpec)) evchManyCard

/-- THE TIED CARD OF 'facadelaw21.EvchBits'. -/
def evchBitsCard : Claim7 := { stood := { row := evchBitsRow, standIns := [], harness := (true, "797c7b2b8a96d75ac2405bcf83ae6c108a5e8f679e4dcf9c715771a8b279fd6e"), looks := true }, kinds := [], alts := [], laidByText := true, laidKinds := [.sentinel, .sentinel, .sentinel, .sentinel, .sentinel, .sentinel, .sentinel, .sentinel, .sentinel, .sentinel, .sentinel, .sentinel, .sentinel, .sentinel, .sentinel, .sentinel], laidTests := true, laidLooks := .later }
def EvchBitsCardSaid : Prop := Claim7.holds Tryd.pinned (.plain (OpenSpec.ofChange evchBitsSpec)) evchBitsCard

/-- THE TIED CARD OF 'facadelaw21.EvchOnce'. -/
def evchOnceCard : Claim7 := { stood := { row := evchOnceRow, standIns := [], harness := (true, "797c7b2b8a96d75ac2405bcf83ae6c108a5e8f679e4dcf9c715771a8b279fd6e"), looks := true }, kinds := [], alts := [], laidByText := true, laidKinds := [.sentinel, .sentinel, .sentinel, .sentinel, .sentinel, .sentinel, .sentinel, .sentinel, .sentinel, .sentinel, .sentinel, .sentinel, .sentinel, .sentinel, .sentinel, .sentinel], laidTests := true, laidLooks := .later }
def EvchOnceCardSaid : Prop := Claim7.holds Tryd.pinned (.plain (OpenSpec.ofChange evchOnceSpec)) evchOnceCard

/-- THE TIED CARD OF 'facadelaw25.HcallBounds'. -/
def hcallBoundsCard : Claim7 := { stood := { row := hcallBoundsRow, standIns := [], harness := (true, "797c7b2b8a96d75ac2405bcf83ae6c108a5e8f679e4dcf9c715771a8b279fd6e"), looks := true }, kinds := [], alts := [], laidByText := true, laidKinds := [.sentinel, .sentinel, .sentinel, .sentinel, .sentinel, .sentinel, .sentinel, .sentinel, .sentinel, .sentinel, .sentinel, .sentinel, .sentinel, .sentinel, .sentinel, .sentinel], laidTests := true, laidLooks := .later }
def HcallBoundsCardSaid : Prop := Claim7.holds Tryd.pinned (.plain (OpenSpec.ofChange hcallBoundsSpec)) hcallBoundsCard

/-- THE TIED CARD OF 'facadelaw25.HcallBack'. -/
def hcallBackCard : Claim7 := { stood := { row := hcallBackRow, standIns := [], harness := (true, "797c7b2b8a96d75ac2405bcf83ae6c108a5e8f679e4dcf9c715771a8b279fd6e"), looks := true }, kinds := [], alts := [], laidByText := true, laidKinds := [.sentinel, .sentinel, .sentinel, .sentinel, .sentinel, .sentinel, .sentinel, .sentinel, .sentinel, .sentinel, .sentinel, .sentinel, .sentinel, .sentinel, .sentinel, .sentinel], laidTests := true, laidLooks := .later }
def HcallBackCardSaid : Prop := Claim7.holds Tryd.pinned (.plain (OpenSpec.ofChange hcallBackSpec)) hcallBackCard

/-- THE TIED CARD OF 'facadelaw25.HcallSays'. -/
def hcallSaysCard : Claim7 := { stood := { row := hcallSaysRow, standIns := [], harness := (true, "797c7b2b8a96d75ac2405bcf83ae6c108a5e8f679e4dcf9c715771a8b279fd6e"), looks := true }, kinds := [], alts := [], laidByText := true, laidKinds := [.sentinel, .sentinel, .sentinel, .sentinel, .sentinel, .sentinel, .sentinel, .sentinel, .sentinel, .sentinel, .sentinel, .sentinel, .sentinel, .sentinel, .sentinel, .sentinel], laidTests := true, laidLooks := .later }
def HcallSaysCardSaid : Prop := Claim7.holds Tryd.pinned (.plain (OpenSpec.ofChange hcallSaysSpec)) hcallSaysCard

/-- THE TIED CARD OF 'facadelaw21.EvchPlays'. -/
def evchPlaysCard : Claim7 := { stood := { row := evchPlaysRow, standIns := [], harness := (true, "797c7b2b8a96d75ac2405bcf83ae6c108a5e8f679e4dcf9c715771a8b279fd6e"), looks := true }, kinds := [], alts := [], laidByText := true, laidKinds := [.sentinel, .sentinel, .sentinel, .sentinel, .sentinel, .sentinel, .sentinel, .sentinel, .sentinel, .sentinel, .sentinel, .sentinel, .sentinel, .sentinel, .sentinel, .sentinel], laidTests := true, laidLooks := .later }
def EvchPlaysCardSaid : Prop := Claim7.holds Tryd.pinned (.plain (OpenSpec.ofChange evchPlaysSpec)) evchPlaysCard

/-- THE SECOND FORM's CARD OF 'facadelaw25.HcallCodes'. -/
def hcallCodesUptoCard : Claim7 := { stood := { row := hcallCodesUptoRow, standIns := [], harness := (true, "797c7b2b8a96d75ac2405bcf83ae6c108a5e8f679e4dcf9c715771a8b279fd6e"), looks := true }, kinds := [], alts := [], laidByText := true, laidKinds := [.sentinel, .sentinel, .sentinel, .sentinel, .sentinel, .sentinel, .sentinel, .sentinel, .sentinel, .sentinel, .sentinel, .sentinel, .sentinel, .sentinel, .sentinel, .sentinel], laidTests := true, laidLooks := .later }
def HcallCodesUptoCardSaid : Prop := Claim7.holds Tryd.pinned (.plain (OpenSpec.upto hcallCodesSpec)) hcallCodesUptoCard

/-- THE SECOND FORM's CARD OF 'facadelaw21.EvchLoops'. -/
def evchLoopsUptoCard : Claim7 := { stood := { row := evchLoopsUptoRow, standIns := [], harness := (true, "797c7b2b8a96d75ac2405bcf83ae6c108a5e8f679e4dcf9c715771a8b279fd6e"), looks := true }, kinds := [], alts := [], laidByText := true, laidKinds := [.sentinel, .sentinel, .sentinel, .sentinel, .sentinel, .sentinel, .sentinel, .sentinel, .sentinel, .sentinel, .sentinel, .sentinel, .sentinel, .sentinel, .sentinel, .sentinel], laidTests := true, laidLooks := .later }
def EvchLoopsUptoCardSaid : Prop := Claim7.holds Tryd.pinned (.plain (OpenSpec.upto evchLoopsSpec)) evchLoopsUptoCard

/-- THE SECOND FORM's CARD OF 'facadelaw25.HcallRegs'. -/
def hcallRegsUptoCard : Claim7 := { stood := { row := hcallRegsUptoRow, standIns := [], harness := (true, "797c7b2b8a96d75ac2405bcf83ae6c108a5e8f679e4dcf9c715771a8b279fd6e"), looks := true }, kinds := [], alts := [], laidByText := true, laidKinds := [.sentinel, .sentinel, .sentinel, .sentinel, .sentinel, .sentinel, .sentinel, .sentinel, .sentinel, .sentinel, .sentinel, .sentinel, .sentinel, .sentinel, .sentinel, .sentinel], laidTests := true, laidLooks := .later }
def HcallRegsUptoCardSaid : Prop := Claim7.holds Tryd.pinned (.plain (OpenSpec.upto hcallRegsSpec)) hcallRegsUptoCard

/-- THE SECOND FORM's CARD OF 'facadelaw21.EvchMany'. -/
def evchManyUptoCard : Claim7 := { stood := { row := evchManyUptoRow, standIns := [], harness := (true, "797c7b2b8a96d75ac2405bcf83ae6c108a5e8f679e4dcf9c715771a8b279fd6e"), looks := true }, kinds := [], alts := [], laidByText := true, laidKinds := [.sentinel, .sentinel, .sentinel, .sentinel, .sentinel, .sentinel, .sentinel, .sentinel, .sentinel, .sentinel, .sentinel, .sentinel, .sentinel, .sentinel, .sentinel, .sentinel], laidTests := true, laidLooks := .later }
def EvchManyUptoCardSaid : Prop := Claim7.holds Tryd.pinned (.plain (OpenSpec.upto evchManySpec)) evchManyUptoCard

/-- THE SECOND FORM's CARD OF 'facadelaw21.EvchBits'. -/
def evchBitsUptoCard : Claim7 := { stood := { row := evchBitsUptoRow, standIns := [], harness := (true, "797c7b2b8a96d75ac2405bcf83ae6c108a5e8f679e4dcf9c715771a8b279fd6e"), looks := true }, kinds := [], alts := [], laidByText := true, laidKinds := [.sentinel, .sentinel, .sentinel, .sentinel, .sentinel, .sentinel, .sentinel, .sentinel, .sentinel, .sentinel, .sentinel, .sentinel, .sentinel, .sentinel, .sentinel, .sentinel], laidTests := true, laidLooks := .later }
def EvchBitsUptoCardSaid : Prop := Claim7.holds Tryd.pinned (.plain (OpenSpec.upto evchBitsSpec)) evchBitsUptoCard

/-- THE SECOND FORM's CARD OF 'facadelaw21.EvchOnce'. -/
def evchOnceUptoCard : Claim7 := { stood := { row := evchOnceUptoRow, standIns := [], harness := (true, "797c7b2b8a96d75ac2405bcf83ae6c108a5e8f679e4dcf9c715771a8b279fd6e"), looks := true }, kinds := [], alts := [], laidByText := true, laidKinds := [.sentinel, .sentinel, .sentinel, .sentinel, .sentinel, .sentinel, .sentinel, .sentinel, .sentinel, .sentinel, .sentinel, .sentinel, .sentinel, .sentinel, .sentinel, .sentinel], laidTests := true, laidLooks := .later }
def EvchOnceUptoCardSaid : Prop := Claim7.holds Tryd.pinned (.plain (OpenSpec.upto evchOnceSpec)) evchOnceUptoCard

/-- THE SECOND FORM's CARD OF 'facadelaw25.HcallBounds'. -/
def hcallBoundsUptoCard : Claim7 := { stood := { row := hcallBoundsUptoRow, standIns := [], harness := (true, "797c7b2b8a96d75ac2405bcf83ae6c108a5e8f679e4dcf9c715771a8b279fd6e"), looks := true }, kinds := [], alts := [], laidByText := true, laidKinds := [.sentinel, .sentinel, .sentinel, .sentinel, .sentinel, .sentinel, .sentinel, .sentinel, .sentinel, .sentinel, .sentinel, .sentinel, .sentinel, .sentinel, .sentinel, .sentinel], laidTests := true, laidLooks := .later }
def HcallBoundsUptoCardSaid : Prop := Claim7.holds Tryd.pinned (.plain (OpenSpec.upto hcallBoundsSpec)) hcallBoundsUptoCard

/-- THE SECOND FORM's CARD OF 'facadelaw25.HcallBack'. -/
def hcallBackUptoCard : Claim7 := { stood := { row := hcallBackUptoRow, standIns := [], harness := (true, "797c7b2b8a96d75ac2405bcf83ae6c108a5e8f679e4dcf9c715771a8b279fd6e"), looks := true }, kinds := [], alts := [], laidByText := true, laidKinds := [.sentinel, .sentinel, .sentinel, .sentinel, .sentinel, .sentinel, .sentinel, .sentinel, .sentinel, .sentinel, .sentinel, .sentinel, .sentinel, .sentinel, .sentinel, .sentinel], laidTests := true, laidLooks := .later }
def HcallBackUptoCardSaid : Prop := Claim7.holds Tryd.pinned (.plain (OpenSpec.upto hcallBackSpec)) hcallBackUptoCard

/-- THE SECOND FORM's CARD OF 'facadelaw25.HcallSays'. -/
def hcallSaysUptoCard : Claim7 := { stood := { row := hcallSaysUptoRow, standIns := [], harness := (true, "797c7b2b8a96d75ac2405bcf83ae6c108a5e8f679e4dcf9c715771a8b279fd6e"), looks := true }, kinds := [], alts := [], laidByText := true, laidKinds := [.sentinel, .sentinel, .sentinel, .sentinel, .sentinel, .sentinel, .sentinel, .sentinel, .sentinel, .sentinel, .sentinel, .sentinel, .sentinel, .sentinel, .sentinel, .sentinel], laidTests := true, laidLooks := .later }
def HcallSaysUptoCardSaid : Prop := Claim7.holds Tryd.pinned (.plain (OpenSpec.upto hcallSaysSpec)) hcallSaysUptoCard

/-- THE SECOND FORM's CARD OF 'facadelaw21.EvchPlays'. -/
def evchPlaysUptoCard : Claim7 := { stood := { row := evchPlaysUptoRow, standIns := [], harness := (true, "797c7b2b8a96d75ac2405bcf83ae6c108a5e8f679e4dcf9c715771a8b279fd6e"), looks := true }, kinds := [], alts := [], laidByText := true, laidKinds := [.sentinel, .sentinel, .sentinel, .sentinel, .sentinel, .sentinel, .sentinel, .sentinel, .sentinel, .sentinel, .sentinel, .sentinel, .sentinel, .sentinel, .sentinel, .sentinel], laidTests := true, laidLooks := .later }
def EvchPlaysUptoCardSaid : Prop := Claim7.holds Tryd.pinned (.plain (OpenSpec.upto evchPlaysSpec)) evchPlaysUptoCard
end Rows
end Go.Proofs.YtpmbbbgmaipmbaaDoor
