/-
  DERIVED. GIVEN WITH THE SEED: THE CARDS: each row of YtnhocmmgdkiepaaDoorRows.lean that lists a variable, with what it lists TIED to the program's text (the seventh form; the later family's looks); each row that meets fmt, with fmt's text TOLD by the authors' own Lean function (tested against real Go, not proved from fmt's source: count such statements apart). THE CARD IS WHAT COUNTS. Prove the row's statement (the work); the ties are given (YtnhocmmgdkiepaaDoorTie.lean); close each card by the builder's one call (the guide's Derived/Test/ToyasCard.lean, 'card_holds'). Laid BY PROGRAM, IN A SANDBOX (cutbox-door.mjs). By AI agents, Wed Nov 11 2026. No macro, syntax, notation, axiom, sorry.
-/
import Derived.Test.YtnhocmmgdkiepaaDoorRows
import GoSem.ClaimSeven
namespace Go.Proofs.YtnhocmmgdkiepaaDoor
namespace Rows

/-- THE TIED CARD OF 'facadelaw24.SchedLate'. -/
def schedLateCard : Claim7 := { stood := { row := schedLateRow, standIns := [], harness := (true, "a05ce7a3c0d4bf0e2206312b51554d9679d4d05bdce0b990ed54b3f01b2ee87d"), looks := true }, kinds := [], alts := [], laidByText := true, laidKinds := [.sentinel, .sentinel, .sentinel, .sentinel, .sentinel, .sentinel, .sentinel, .sentinel, .sentinel, .sentinel, .sentinel, .sentinel, .sentinel, .sentinel, .sentinel, .sentinel], laidTests := true, laidLooks := .later }
def SchedLateCardSaid : Prop := Claim7.holds Tryd.pinned (.plain (OpenSpec.ofChange schedLateSpec)) schedLateCard

/-- THE TIED CARD OF 'facadelaw24.SchedFair'. -/
def schedFairCard : Claim7 := { stood := { row := schedFairRow, standIns := [], harness := (true, "a05ce7a3c0d4bf0e2206312b51554d9679d4d05bdce0b990ed54b3f01b2ee87d"), looks := true }, kinds := [], alts := [], laidByText := true, laidKinds := [.sentinel, .sentinel, .sentinel], laidTests := true, laidLooks := .later }
def SchedFairCardSaid : Prop := Claim7.holds Tryd.pinned (.plain (OpenSpec.ofChange schedFairSpec)) schedFairCard

/-- THE TIED CARD OF 'facadelaw19.QueueMay'. -/
def queueMayCard : Claim7 := { stood := { row := queueMayRow, standIns := [], harness := (true, "a05ce7a3c0d4bf0e2206312b51554d9679d4d05bdce0b990ed54b3f01b2ee87d"), looks := true }, kinds := [], alts := [], laidByText := true, laidKinds := [.sentinel, .sentinel, .sentinel, .sentinel, .sentinel, .sentinel, .sentinel, .sentinel, .sentinel], laidTests := true, laidLooks := .later }
def QueueMayCardSaid : Prop := Claim7.holds Tryd.pinned (.plain (OpenSpec.ofChange queueMaySpec)) queueMayCard

/-- THE TIED CARD OF 'facadelaw19.QueueStops'. -/
def queueStopsCard : Claim7 := { stood := { row := queueStopsRow, standIns := [], harness := (true, "a05ce7a3c0d4bf0e2206312b51554d9679d4d05bdce0b990ed54b3f01b2ee87d"), looks := true }, kinds := [], alts := [], laidByText := true, laidKinds := [.sentinel, .sentinel, .sentinel, .sentinel, .sentinel, .sentinel, .sentinel, .sentinel, .sentinel, .sentinel, .sentinel, .sentinel, .sentinel, .sentinel, .sentinel, .sentinel], laidTests := true, laidLooks := .later }
def QueueStopsCardSaid : Prop := Claim7.holds Tryd.pinned (.plain (OpenSpec.ofChange queueStopsSpec)) queueStopsCard

/-- THE TIED CARD OF 'facadelaw19.QueueLast'. -/
def queueLastCard : Claim7 := { stood := { row := queueLastRow, standIns := [], harness := (true, "a05ce7a3c0d4bf0e2206312b51554d9679d4d05bdce0b990ed54b3f01b2ee87d"), looks := true }, kinds := [], alts := [], laidByText := true, laidKinds := [.sentinel, .sentinel, .sentinel, .sentinel, .sentinel, .sentinel, .sentinel, .sentinel, .sentinel], laidTests := true, laidLooks := .later }
def QueueLastCardSaid : Prop := Claim7.holds Tryd.pinned (.plain (OpenSpec.ofChange queueLastSpec)) queueLastCard

/-- THE TIED CARD OF 'facadelaw19.QueuePlays'. -/
def queuePlaysCard : Claim7 := { stood := { row := queuePlaysRow, standIns := [], harness := (true, "a05ce7a3c0d4bf0e2206312b51554d9679d4d05bdce0b990ed54b3f01b2ee87d"), looks := true }, kinds := [], alts := [], laidByText := true, laidKinds := [.sentinel, .sentinel, .sentinel, .sentinel, .sentinel, .sentinel, .sentinel, .sentinel, .sentinel, .sentinel, .sentinel, .sentinel, .sentinel, .sentinel, .sentinel, .sentinel], laidTests := true, laidLooks := .later }
def QueuePlaysCardSaid : Prop := Claim7.holds Tryd.pinned (.plain (OpenSpec.ofChange queuePlaysSpec)) queuePlaysCard

/-- THE TIED CARD OF 'facadelaw24.SchedSleeps'. -/
def schedSleepsCard : Claim7 := { stood := { row := schedSleepsRow, standIns := [], harness := (true, "a05ce7a3c0d4bf0e2206312b51554d9679d4d05bdce0b990ed54b3f01b2ee87d"), looks := true }, kinds := [], alts := [], laidByText := true, laidKinds := [.sentinel, .sentinel, .sentinel, .sentinel, .sentinel, .sentinel, .sentinel, .sentinel, .sentinel, .sentinel, .sentinel, .sentinel, .sentinel, .sentinel, .sentinel, .sentinel], laidTests := true, laidLooks := .later }
def SchedSleepsCardSaid : Prop := Claim7.holds Tryd.pinned (.plain (OpenSpec.ofChange schedSleepsSpec)) schedSleepsCard

/-- THE TIED CARD OF 'facadelaw24.SchedCopies'. -/
def schedCopiesCard : Claim7 := { stood := { row := schedCopiesRow, standIns := [], harness := (true, "a05ce7a3c0d4bf0e2206312b51554d9679d4d05bdce0b990ed54b3f01b2ee87d"), looks := true }, kinds := [], alts := [], laidByText := true, laidKinds := [.sentinel, .sentinel, .sentinel], laidTests := true, laidLooks := .later }
def SchedCopiesCardSaid : Prop := Claim7.holds Tryd.pinned (.plain (OpenSpec.ofChange schedCopiesSpec)) schedCopiesCard

/-- THE TIED CARD OF 'facadelaw24.SchedPlays'. -/
def schedPlaysCard : Claim7 := { stood := { row := schedPlaysRow, standIns := [], harness := (true, "a05ce7a3c0d4bf0e2206312b51554d9679d4d05bdce0b990ed54b3f01b2ee87d"), looks := true }, kinds := [], alts := [], laidByText := true, laidKinds := [.sentinel, .sentinel, .sentinel, .sentinel, .sentinel, .sentinel, .sentinel, .sentinel, .sentinel, .sentinel, .sentinel, .sentinel, .sentinel, .sentinel, .sentinel, .sentinel], laidTests := true, laidLooks := .later }
def SchedPlaysCardSaid : Prop := Claim7.holds Tryd.pinned (.plain (OpenSpec.ofChange schedPlaysSpec)) schedPlaysCard

/-- THE SECOND FORM's CARD OF 'facadelaw24.SchedLate'. -/
def schedLateUptoCard : Claim7 := { stood := { row := schedLateUptoRow, standIns := [], harness := (true, "a05ce7a3c0d4bf0e2206312b51554d9679d4d05bdce0b990ed54b3f01b2ee87d"), looks := true }, kinds := [], alts := [], laidByText := true, laidKinds := [.sentinel, .sentinel, .sentinel, .sentinel, .sentinel, .sentinel, .sentinel, .sentinel, .sentinel, .sentinel, .sentinel, .sentinel, .sentinel, .sentinel, .sentinel, .sentinel], laidTests := true, laidLooks := .later }
def SchedLateUptoCardSaid : Prop := Claim7.holds Tryd.pinned (.plain (OpenSpec.upto schedLateSpec)) schedLateUptoCard

/-- THE SECOND FORM's CARD OF 'facadelaw24.SchedFair'. -/
def schedFairUptoCard : Claim7 := { stood := { row := schedFairUptoRow, standIns := [], harness := (true, "a05ce7a3c0d4bf0e2206312b51554d9679d4d05bdce0b990ed54b3f01b2ee87d"), looks := true }, kinds := [], alts := [], laidByText := true, laidKinds := [.sentinel, .sentinel, .sentinel], laidTests := true, laidLooks := .later }
def SchedFairUptoCardSaid : Prop := Claim7.holds Tryd.pinned (.plain (OpenSpec.upto schedFairSpec)) schedFairUptoCard

/-- THE SECOND FORM's CARD OF 'facadelaw19.QueueMay'. -/
def queueMayUptoCard : Claim7 := { stood := { row := queueMayUptoRow, standIns := [], harness := (true, "a05ce7a3c0d4bf0e2206312b51554d9679d4d05bdce0b990ed54b3f01b2ee87d"), looks := true }, kinds := [], alts := [], laidByText := true, laidKinds := [.sentinel, .sentinel, .sentinel, .sentinel, .sentinel, .sentinel, .sentinel, .sentinel, .sentinel], laidTests := true, laidLooks := .later }
def QueueMayUptoCardSaid : Prop := Claim7.holds Tryd.pinned (.plain (OpenSpec.upto queueMaySpec)) queueMayUptoCard

/-- THE SECOND FORM's CARD OF 'facadelaw19.QueueStops'. -/
def queueStopsUptoCard : Claim7 := { stood := { row := queueStopsUptoRow, standIns := [], harness := (true, "a05ce7a3c0d4bf0e2206312b51554d9679d4d05bdce0b990ed54b3f01b2ee87d"), looks := true }, kinds := [], alts := [], laidByText := true, laidKinds := [.sentinel, .sentinel, .sentinel, .sentinel, .sentinel, .sentinel, .sentinel, .sentinel, .sentinel, .sentinel, .sentinel, .sentinel, .sentinel, .sentinel, .sentinel, .sentinel], laidTests := true, laidLooks := .later }
def QueueStopsUptoCardSaid : Prop := Claim7.holds Tryd.pinned (.plain (OpenSpec.upto queueStopsSpec)) queueStopsUptoCard

/-- THE SECOND FORM's CARD OF 'facadelaw19.QueueLast'. -/
def queueLastUptoCard : Claim7 := { stood := { row := queueLastUptoRow, standIns := [], harness := (true, "a05ce7a3c0d4bf0e2206312b51554d9679d4d05bdce0b990ed54b3f01b2ee87d"), looks := true }, kinds := [], alts := [], laidByText := true, laidKinds := [.sentinel, .sentinel, .sentinel, .sentinel, .sentinel, .sentinel, .sentinel, .sentinel, .sentinel], laidTests := true, laidLooks := .later }
def QueueLastUptoCardSaid : Prop := Claim7.holds Tryd.pinned (.plain (OpenSpec.upto queueLastSpec)) queueLastUptoCard

/-- THE SECOND FORM's CARD OF 'facadelaw19.QueuePlays'. -/
def queuePlaysUptoCard : Claim7 := { stood := { row := queuePlaysUptoRow, standIns := [], harness := (true, "a05ce7a3c0d4bf0e2206312b51554d9679d4d05bdce0b990ed54b3f01b2ee87d"), looks := true }, kinds := [], alts := [], laidByText := true, laidKinds := [.sentinel, .sentinel, .sentinel, .sentinel, .sentinel, .sentinel, .sentinel, .sentinel, .sentinel, .sentinel, .sentinel, .sentinel, .sentinel, .sentinel, .sentinel, .sentinel], laidTests := true, laidLooks := .later }
def QueuePlaysUptoCardSaid : Prop := Claim7.holds Tryd.pinned (.plain (OpenSpec.upto queuePlaysSpec)) queuePlaysUptoCard

/-- THE SECOND FORM's CARD OF 'facadelaw24.SchedSleeps'. -/
def schedSleepsUptoCard : Claim7 := { stood := { row := schedSleepsUptoRow, standIns := [], harness := (true, "a05ce7a3c0d4bf0e2206312b51554d9679d4d05bdce0b990ed54b3f01b2ee87d"), looks := true }, kinds := [], alts := [], laidByText := true, laidKinds := [.sentinel, .sentinel, .sentinel, .sentinel, .sentinel, .sentinel, .sentinel, .sentinel, .sentinel, .sentinel, .sentinel, .sentinel, .sentinel, .sentinel, .sentinel, .sentinel], laidTests := true, laidLooks := .later }
def SchedSleepsUptoCardSaid : Prop := Claim7.holds Tryd.pinned (.plain (OpenSpec.upto schedSleepsSpec)) schedSleepsUptoCard

/-- THE SECOND FORM's CARD OF 'facadelaw24.SchedCopies'. -/
def schedCopiesUptoCard : Claim7 := { stood := { row := schedCopiesUptoRow, standIns := [], harness := (true, "a05ce7a3c0d4bf0e2206312b51554d9679d4d05bdce0b990ed54b3f01b2ee87d"), looks := true }, kinds := [], alts := [], laidByText := true, laidKinds := [.sentinel, .sentinel, .sentinel], laidTests := true, laidLooks := .later }
def SchedCopiesUptoCardSaid : Prop := Claim7.holds Tryd.pinned (.plain (OpenSpec.upto schedCopiesSpec)) schedCopiesUptoCard

/-- THE SECOND FORM's CARD OF 'facadelaw24.SchedPlays'. -/
def schedPlaysUptoCard : Claim7 := { stood := { row := schedPlaysUptoRow, standIns := [], harness := (true, "a05ce7a3c0d4bf0e2206312b51554d9679d4d05bdce0b990ed54b3f01b2ee87d"), looks := true }, kinds := [], alts := [], laidByText := true, laidKinds := [.sentinel, .sentinel, .sentinel, .sentinel, .sentinel, .sentinel, .sentinel, .sentinel, .sentinel, .sentinel, .sentinel, .sentinel, .sentinel, .sentinel, .sentinel, .sentinel], laidTests := true, laidLooks := .later }
def SchedPlaysUptoCardSaid : Prop := Claim7.holds Tryd.pinned (.plain (OpenSpec.upto schedPlaysSpec)) schedPlaysUptoCard
end Rows
end Go.Proofs.YtnhocmmgdkiepaaDoor
