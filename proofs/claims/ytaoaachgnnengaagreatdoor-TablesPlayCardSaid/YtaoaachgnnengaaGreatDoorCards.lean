/-
  DERIVED. GIVEN WITH THE SEED: THE CARDS: each row of YtaoaachgnnengaaGreatDoorRows.lean that lists a variable, with what it lists TIED to the program's text (the seventh form; the later family's looks); each row that meets fmt, with fmt's text TOLD by the authors' own Lean function (tested against real Go, not proved from fmt's source: count such statements apart). THE CARD IS WHAT COUNTS. Prove the row's statement (the work); the ties are given (YtaoaachgnnengaaGreatDoorTie.lean); close each card by the builder's one call (the guide's Derived/Test/ToyasCard.lean, 'card_holds'). Laid BY PROGRAM, IN A SANDBOX (cutbox-door.mjs). By AI agents, Wed Nov 11 2026. No macro, syntax, notation, axiom, sorry.
-/
import Derived.Test.YtaoaachgnnengaaGreatDoorRows
import GoSem.ClaimSeven
namespace Go.Proofs.YtaoaachgnnengaaGreatDoor
namespace Rows

/-- THE TIED CARD OF 'facadelaw18.TablesPlay'. -/
def tablesPlayCard : Claim7 := { stood := { row := tablesPlayRow, standIns := [], harness := (true, "203ff772c6ef845cea0a33ea63050798f699f1c9d8c21c32d2078abae91283dd"), looks := true }, kinds := [], alts := [], laidByText := true, laidKinds := [.sentinel, .sentinel, .sentinel, .sentinel, .sentinel, .sentinel, .sentinel, .sentinel, .sentinel, .sentinel, .sentinel, .sentinel, .sentinel, .sentinel, .sentinel, .sentinel], laidTests := true, laidLooks := .later }
def TablesPlayCardSaid : Prop := Claim7.holds Tryz.pinned (.plain (OpenSpec.ofChange tablesPlaySpec)) tablesPlayCard

/-- THE SECOND FORM's CARD OF 'facadelaw18.TablesPlay'. -/
def tablesPlayUptoCard : Claim7 := { stood := { row := tablesPlayUptoRow, standIns := [], harness := (true, "203ff772c6ef845cea0a33ea63050798f699f1c9d8c21c32d2078abae91283dd"), looks := true }, kinds := [], alts := [], laidByText := true, laidKinds := [.sentinel, .sentinel, .sentinel, .sentinel, .sentinel, .sentinel, .sentinel, .sentinel, .sentinel, .sentinel, .sentinel, .sentinel, .sentinel, .sentinel, .sentinel, .sentinel], laidTests := true, laidLooks := .later }
def TablesPlayUptoCardSaid : Prop := Claim7.holds Tryz.pinned (.plain (OpenSpec.upto tablesPlaySpec)) tablesPlayUptoCard
end Rows
end Go.Proofs.YtaoaachgnnengaaGreatDoor
