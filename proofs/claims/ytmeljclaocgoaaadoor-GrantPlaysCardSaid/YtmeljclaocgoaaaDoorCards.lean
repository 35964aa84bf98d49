/-
  DERIVED. GIVEN WITH THE SEED: THE CARDS: each row of YtmeljclaocgoaaaDoorRows.lean that lists a variable, with what it lists TIED to the program's text (the seventh form; the later family's looks); each row that meets fmt, with fmt's text TOLD by the authors' own Lean function (tested against real Go, not proved from fmt's source: count such statements apart). THE CARD IS WHAT COUNTS. Prove the row's statement (the work); the ties are given (YtmeljclaocgoaaaDoorTie.lean); close each card by the builder's one call (the guide's Derived/Test/ToyasCard.lean, 'card_holds'). Laid BY PROGRAM, IN A SANDBOX (cutbox-door.mjs). By AI agents, Wed Nov 11 2026. No macro, syntax, notation, axiom, sorry.
-/
import Derived.Test.YtmeljclaocgoaaaDoorRows
import GoSem.ClaimSeven
namespace Go.Proofs.YtmeljclaocgoaaaDoor
namespace Rows

/-- THE TIED CARD OF 'facadelaw23.InfoSays'. -/
def infoSaysCard : Claim7 := { stood := { row := infoSaysRow, standIns := [], harness := (true, "e0211ab73c4e428f924df5ace2b808718afd99b9fb8aed699d3132d8f7daef38"), looks := true }, kinds := [], alts := [], laidByText := true, laidKinds := [.sentinel, .sentinel, .sentinel, .sentinel, .sentinel, .sentinel, .sentinel, .sentinel, .sentinel, .sentinel, .sentinel, .sentinel, .sentinel, .sentinel, .sentinel, .sentinel], laidTests := true, laidLooks := .later }
def InfoSaysCardSaid : Prop := Claim7.holds Tryd.pinned (.plain (OpenSpec.ofChange infoSaysSpec)) infoSaysCard

/-- THE TIED CARD OF 'facadelaw23.InfoBack'. -/
def infoBackCard : Claim7 := { stood := { row := infoBackRow, standIns := [], harness := (true, "e0211ab73c4e428f924df5ace2b808718afd99b9fb8aed699d3132d8f7daef38"), looks := true }, kinds := [], alts := [], laidByText := true, laidKinds := [.sentinel], laidTests := true, laidLooks := .later }
def InfoBackCardSaid : Prop := Claim7.holds Tryd.pinned (.plain (OpenSpec.ofChange infoBackSpec)) infoBackCard

/-- THE TIED CARD OF 'facadelaw17.MapMany'. -/
def mapManyCard : Claim7 := { stood := { row := mapManyRow, standIns := [], harness := (true, "e0211ab73c4e428f924df5ace2b808718afd99b9fb8aed699d3132d8f7daef38"), looks := true }, kinds := [], alts := [], laidByText := true, laidKinds := [.sentinel, .sentinel, .sentinel, .sentinel, .sentinel, .sentinel, .sentinel, .sentinel, .sentinel, .sentinel, .sentinel, .sentinel, .sentinel, .sentinel, .sentinel, .sentinel], laidTests := true, laidLooks := .later }
def MapManyCardSaid : Prop := Claim7.holds Tryd.pinned (.plain (OpenSpec.ofChange mapManySpec)) mapManyCard

/-- THE TIED CARD OF 'facadelaw20.GrantLent'. -/
def grantLentCard : Claim7 := { stood := { row := grantLentRow, standIns := [], harness := (true, "e0211ab73c4e428f924df5ace2b808718afd99b9fb8aed699d3132d8f7daef38"), looks := true }, kinds := [], alts := [], laidByText := true, laidKinds := [.sentinel, .sentinel, .sentinel, .sentinel, .sentinel, .sentinel, .sentinel, .sentinel, .sentinel, .sentinel, .sentinel, .sentinel, .sentinel, .sentinel, .sentinel, .sentinel], laidTests := true, laidLooks := .later }
def GrantLentCardSaid : Prop := Claim7.holds Tryd.pinned (.plain (OpenSpec.ofChange grantLentSpec)) grantLentCard

/-- THE TIED CARD OF 'facadelaw2.MemCopies'. -/
def memCopiesCard : Claim7 := { stood := { row := memCopiesRow, standIns := [], harness := (true, "e0211ab73c4e428f924df5ace2b808718afd99b9fb8aed699d3132d8f7daef38"), looks := true }, kinds := [], alts := [], laidByText := true, laidKinds := [.sentinel], laidTests := true, laidLooks := .later }
def MemCopiesCardSaid : Prop := Claim7.holds Tryd.pinned (.plain (OpenSpec.ofChange memCopiesSpec)) memCopiesCard

/-- THE TIED CARD OF 'facadelaw2.MemWords'. -/
def memWordsCard : Claim7 := { stood := { row := memWordsRow, standIns := [], harness := (true, "e0211ab73c4e428f924df5ace2b808718afd99b9fb8aed699d3132d8f7daef38"), looks := true }, kinds := [], alts := [], laidByText := true, laidKinds := [.sentinel], laidTests := true, laidLooks := .later }
def MemWordsCardSaid : Prop := Claim7.holds Tryd.pinned (.plain (OpenSpec.ofChange memWordsSpec)) memWordsCard

/-- THE TIED CARD OF 'facadelaw17.MapOnce'. -/
def mapOnceCard : Claim7 := { stood := { row := mapOnceRow, standIns := [], harness := (true, "e0211ab73c4e428f924df5ace2b808718afd99b9fb8aed699d3132d8f7daef38"), looks := true }, kinds := [], alts := [], laidByText := true, laidKinds := [.sentinel, .sentinel, .sentinel, .sentinel], laidTests := true, laidLooks := .later }
def MapOnceCardSaid : Prop := Claim7.holds Tryd.pinned (.plain (OpenSpec.ofChange mapOnceSpec)) mapOnceCard

/-- THE TIED CARD OF 'facadelaw17.MapPlays'. -/
def mapPlaysCard : Claim7 := { stood := { row := mapPlaysRow, standIns := [], harness := (true, "e0211ab73c4e428f924df5ace2b808718afd99b9fb8aed699d3132d8f7daef38"), looks := true }, kinds := [], alts := [], laidByText := true, laidKinds := [.sentinel, .sentinel, .sentinel, .sentinel, .sentinel, .sentinel, .sentinel, .sentinel, .sentinel, .sentinel, .sentinel, .sentinel, .sentinel, .sentinel, .sentinel, .sentinel], laidTests := true, laidLooks := .later }
def MapPlaysCardSaid : Prop := Claim7.holds Tryd.pinned (.plain (OpenSpec.ofChange mapPlaysSpec)) mapPlaysCard

/-- THE TIED CARD OF 'facadelaw2.MemFills'. -/
def memFillsCard : Claim7 := { stood := { row := memFillsRow, standIns := [], harness := (true, "e0211ab73c4e428f924df5ace2b808718afd99b9fb8aed699d3132d8f7daef38"), looks := true }, kinds := [], alts := [], laidByText := true, laidKinds := [.sentinel], laidTests := true, laidLooks := .later }
def MemFillsCardSaid : Prop := Claim7.holds Tryd.pinned (.plain (OpenSpec.ofChange memFillsSpec)) memFillsCard

/-- THE TIED CARD OF 'facadelaw20.GrantOnce'. -/
def grantOnceCard : Claim7 := { stood := { row := grantOnceRow, standIns := [], harness := (true, "e0211ab73c4e428f924df5ace2b808718afd99b9fb8aed699d3132d8f7daef38"), looks := true }, kinds := [], alts := [], laidByText := true, laidKinds := [.sentinel, .sentinel, .sentinel, .sentinel, .sentinel, .sentinel, .sentinel, .sentinel, .sentinel, .sentinel, .sentinel, .sentinel, .sentinel, .sentinel, .sentinel, .sentinel], laidTests := true, laidLooks := .later }
def GrantOnceCardSaid : Prop := Claim7.holds Tryd.pinned (.plain (OpenSpec.ofChange grantOnceSpec)) grantOnceCard

/-- THE TIED CARD OF 'facadelaw2.MemPlays'. -/
def memPlaysCard : Claim7 := { stood := { row := memPlaysRow, standIns := [], harness := (true, "e0211ab73c4e428f924df5ace2b808718afd99b9fb8aed699d3132d8f7daef38"), looks := true }, kinds := [], alts := [], laidByText := true, laidKinds := [.sentinel, .sentinel, .sentinel, .sentinel, .sentinel, .sentinel, .sentinel, .sentinel, .sentinel, .sentinel, .sentinel, .sentinel, .sentinel, .sentinel, .sentinel, .sentinel], laidTests := true, laidLooks := .later }
def MemPlaysCardSaid : Prop := Claim7.holds Tryd.pinned (.plain (OpenSpec.ofChange memPlaysSpec)) memPlaysCard

/-- THE TIED CARD OF 'facadelaw20.GrantPlays'. -/
def grantPlaysCard : Claim7 := { stood := { row := grantPlaysRow, standIns := [], harness := (true, "e0211ab73c4e428f924df5ace2b808718afd99b9fb8aed699d3132d8f7daef38"), looks := true }, kinds := [], alts := [], laidByText := true, laidKinds := [.sentinel, .sentinel, .sentinel, .sentinel, .sentinel, .sentinel, .sentinel, .sentinel, .sentinel, .sentinel, .sentinel, .sentinel, .sentinel, .sentinel, .sentinel, .sentinel], laidTests := true, laidLooks := .later }
def GrantPlaysCardSaid : Prop := Claim7.holds Tryd.pinned (.plain (OpenSpec.ofChange grantPlaysSpec)) grantPlaysCard

/-- THE SECOND FORM's CARD OF 'facadelaw23.InfoSays'. -/
def infoSaysUptoCard : Claim7 := { stood := { row := infoSaysUptoRow, standIns := [], harness := (true, "e0211ab73c4e428f924df5ace2b808718afd99b9fb8aed699d3132d8f7daef38"), looks := true }, kinds := [], alts := [], laidByText := true, laidKinds := [.sentinel, .sentinel, .sentinel, .sentinel, .sentinel, .sentinel, .sentinel, .sentinel, .sentinel, .sentinel, .sentinel, .sentinel, .sentinel, .sentinel, .sentinel, .sentinel], laidTests := true, laidLooks := .later }
def InfoSaysUptoCardSaid : Prop := Claim7.holds Tryd.pinned (.plain (OpenSpec.upto infoSaysSpec)) infoSaysUptoCard

/-- THE SECOND FORM's CARD OF 'facadelaw23.InfoBack'. -/
def infoBackUptoCard : Claim7 := { stood := { row := infoBackUptoRow, standIns := [], harness := (true, "e0211ab73c4e428f924df5ace2b808718afd99b9fb8aed699d3132d8f7daef38"), looks := true }, kinds := [], alts := [], laidByText := true, laidKinds := [.sentinel], laidTests := true, laidLooks := .later }
def InfoBackUptoCardSaid : Prop := Claim7.holds Tryd.pinned (.plain (OpenSpec.upto infoBackSpec)) infoBackUptoCard

/-- THE SECOND FORM's CARD OF 'facadelaw17.MapMany'. -/
def mapManyUptoCard : Claim7 := { stood := { row := mapManyUptoRow, standIns := [], harness := (true, "e0211ab73c4e428f924df5ace2b808718afd99b9fb8aed699d3132d8f7daef38"), looks := true }, kinds := [], alts := [], laidByText := true, laidKinds := [.sentinel, .sentinel, .sentinel, .sentinel, .sentinel, .sentinel, .sentinel, .sentinel, .sentinel, .sentinel, .sentinel, .sentinel, .sentinel, .sentinel, .sentinel, .sentinel], laidTests := true, laidLooks := .later }
def MapManyUptoCardSaid : Prop := Claim7.holds Tryd.pinned (.plain (OpenSpec.upto mapManySpec)) mapManyUptoCard

/-- THE SECOND FORM's CARD OF 'facadelaw20.GrantLent'. -/
def grantLentUptoCard : Claim7 := { stood := { row := grantLentUptoRow, standIns := [], harness := (true, "e0211ab73c4e428f924df5ace2b808718afd99b9fb8aed699d3132d8f7daef38"), looks := true }, kinds := [], alts := [], laidByText := true, laidKinds := [.sentinel, .sentinel, .sentinel, .sentinel, .sentinel, .sentinel, .sentinel, .sentinel, .sentinel, .sentinel, .sentinel, .sentinel, .sentinel, .sentinel, .sentinel, .sentinel], laidTests := true, laidLooks := .later }
def GrantLentUptoCardSaid : Prop := Claim7.holds Tryd.pinned (.plain (OpenSpec.upto grantLentSpec)) grantLentUptoCard

/-- THE SECOND FORM's CARD OF 'facadelaw2.MemCopies'. -/
def memCopiesUptoCard : Claim7 := { stood := { row := memCopiesUptoRow, standIns := [], harness := (true, "e0211ab73c4e428f924df5ace2b808718afd99b9fb8aed699d3132d8f7daef38"), looks := true }, kinds := [], alts := [], laidByText := true, laidKinds := [.sentinel], laidTests := true, laidLooks := .later }
def MemCopiesUptoCardSaid : Prop := Claim7.holds Tryd.pinned (.plain (OpenSpec.upto memCopiesSpec)) memCopiesUptoCard

/-- THE SECOND FORM's CARD OF 'facadelaw2.MemWords'. -/
def memWordsUptoCard : Claim7 := { stood := { row := memWordsUptoRow, standIns := [], harness := (true, "e0211ab73c4e428f924df5ace2b808718afd99b9fb8aed699d3132d8f7daef38"), looks := true }, kinds := [], alts := [], laidByText := true, laidKinds := [.sentinel], laidTests := true, laidLooks := .later }
def MemWordsUptoCardSaid : Prop := Claim7.holds Tryd.pinned (.plain (OpenSpec.upto memWordsSpec)) memWordsUptoCard

/-- THE SECOND FORM's CARD OF 'facadelaw17.MapOnce'. -/
def mapOnceUptoCard : Claim7 := { stood := { row := mapOnceUptoRow, standIns := [], harness := (true, "e0211ab73c4e428f924df5ace2b808718afd99b9fb8aed699d3132d8f7daef38"), looks := true }, kinds := [], alts := [], laidByText := true, laidKinds := [.sentinel, .sentinel, .sentinel, .sentinel], laidTests := true, laidLooks := .later }
def MapOnceUptoCardSaid : Prop := Claim7.holds Tryd.pinned (.plain (OpenSpec.upto mapOnceSpec)) mapOnceUptoCard

/-- THE SECOND FORM's CARD OF 'facadelaw17.MapPlays'. -/
def mapPlaysUptoCard : Claim7 := { stood := { row := mapPlaysUptoRow, standIns := [], harness := (true, "e0211ab73c4e428f924df5ace2b808718afd99b9fb8aed699d3132d8f7daef38"), looks := true }, kinds := [], alts := [], laidByText := true, laidKinds := [.sentinel, .sentinel, .sentinel, .sentinel, .sentinel, .sentinel, .sentinel, .sentinel, .sentinel, .sentinel, .sentinel, .sentinel, .sentinel, .sentinel, .sentinel, .sentinel], laidTests := true, laidLooks := .later }
def MapPlaysUptoCardSaid : Prop := Claim7.holds Tryd.pinned (.plain (OpenSpec.upto mapPlaysSpec)) mapPlaysUptoCard

/-- THE SECOND FORM's CARD OF 'facadelaw2.MemFills'. -/
def memFillsUptoCard : Claim7 := { stood := { row := memFillsUptoRow, standIns := [], harness := (true, "e0211ab73c4e428f924df5ace2b808718afd99b9fb8aed699d3132d8f7daef38"), looks := true }, kinds := [], alts := [], laidByText := true, laidKinds := [.sentinel], laidTests := true, laidLooks := .later }
def MemFillsUptoCardSaid : Prop := Claim7.holds Tryd.pinned (.plain (OpenSpec.upto memFillsSpec)) memFillsUptoCard

/-- THE SECOND FORM's CARD OF 'facadelaw20.GrantOnce'. -/
def grantOnceUptoCard : Claim7 := { stood := { row := grantOnceUptoRow, standIns := [], harness := (true, "e0211ab73c4e428f924df5ace2b808718afd99b9fb8aed699d3132d8f7daef38"), looks := true }, kinds := [], alts := [], laidByText := true, laidKinds := [.sentinel, .sentinel, .sentinel, .sentinel, .sentinel, .sentinel, .sentinel, .sentinel, .sentinel, .sentinel, .sentinel, .sentinel, .sentinel, .sentinel, .sentinel, .sentinel], laidTests := true, laidLooks := .later }
def GrantOnceUptoCardSaid : Prop := Claim7.holds Tryd.pinned (.plain (OpenSpec.upto grantOnceSpec)) grantOnceUptoCard

/-- THE SECOND FORM's CARD OF 'facadelaw2.MemPlays'. -/
def memPlaysUptoCard : Claim7 := { stood := { row := memPlaysUptoRow, standIns := [], harness := (true, "e0211ab73c4e428f924df5ace2b808718afd99b9fb8aed699d3132d8f7daef38"), looks := true }, kinds := [], alts := [], laidByText := true, laidKinds := [.sentinel, .sentinel, .sentinel, .sentinel, .sentinel, .sentinel, .sentinel, .sentinel, .sentinel, .sentinel, .sentinel, .sentinel, .sentinel, .sentinel, .sentinel, .sentinel], laidTests := true, laidLooks := .later }
def MemPlaysUptoCardSaid : Prop := Claim7.holds Tryd.pinned (.plain (OpenSpec.upto memPlaysSpec)) memPlaysUptoCard

/-- THE SECOND FORM's CARD OF 'facadelaw20.GrantPlays'. -/
def grantPlaysUptoCard : Claim7 := { stood := { row := grantPlaysUptoRow, standIns := [], harness := (true, "e0211ab73c4e428f924df5ace2b808718afd99b9fb8aed699d3132d8f7daef38"), looks := true }, kinds := [], alts := [], laidByText := true, laidKinds := [.sentinel, .sentinel, .sentinel, .sentinel, .sentinel, .sentinel, .sentinel, .sentinel, .sentinel, .sentinel, .sentinel, .sentinel, .sentinel, .sentinel, .sentinel, .sentinel], laidTests := true, laidLooks := .later }
def GrantPlaysUptoCardSaid : Prop := Claim7.holds Tryd.pinned (.plain (OpenSpec.upto grantPlaysSpec)) grantPlaysUptoCard
end Rows
end Go.Proofs.YtmeljclaocgoaaaDoor
