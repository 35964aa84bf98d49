/-
  DERIVED. GIVEN WITH THE SEED: THE CARDS: each row of YtaoaachgnnengaaDoorRows.lean that lists a variable, with what it lists TIED to the program's text (the seventh form; the later family's looks); each row that meets fmt, with fmt's text TOLD by the authors' own Lean function (tested against real Go, not proved from fmt's source: count such statements apart). THE CARD IS WHAT COUNTS. Prove the row's statement (the work); the ties are given (YtaoaachgnnengaaDoorTie.lean); close each card by the builder's one call (the guide's Derived/Test/ToyasCard.lean, 'card_holds'). Laid BY PROGRAM, IN A SANDBOX (cutbox-door.mjs). By AI agents, Wed Nov 11 2026. No macro, syntax, notation, axiom, sorry.
-/
import Derived.Test.YtaoaachgnnengaaDoorRows
import GoSem.ClaimSeven
namespace Go.Proofs.YtaoaachgnnengaaDoor
namespace Rows

/-- THE TIED CARD OF 'facadelaw16.FramesFull'. -/
def framesFullCard : Claim7 := { stood := { row := framesFullRow, standIns := [], harness := (true, "0df08e0516024b147ff174e9084b733801335459356f81c70d1ebb07a7d94202"), looks := true }, kinds := [], alts := [], laidByText := true, laidKinds := [.sentinel, .sentinel, .sentinel, .sentinel, .sentinel, .sentinel, .sentinel, .sentinel, .sentinel, .sentinel, .sentinel, .sentinel, .sentinel, .sentinel, .sentinel, .sentinel], laidTests := true, laidLooks := .later }
def FramesFullCardSaid : Prop := Claim7.holds Tryd.pinned (.plain (OpenSpec.ofChange framesFullSpec)) framesFullCard

/-- THE TIED CARD OF 'facadelaw16.FramesSafe'. -/
def framesSafeCard : Claim7 := { stood := { row := framesSafeRow, standIns := [], harness := (true, "0df08e0516024b147ff174e9084b733801335459356f81c70d1ebb07a7d94202"), looks := true }, kinds := [], alts := [], laidByText := true, laidKinds := [.sentinel, .sentinel, .sentinel, .sentinel, .sentinel, .sentinel, .sentinel, .sentinel, .sentinel, .sentinel, .sentinel, .sentinel, .sentinel, .sentinel, .sentinel, .sentinel], laidTests := true, laidLooks := .later }
def FramesSafeCardSaid : Prop := Claim7.holds Tryd.pinned (.plain (OpenSpec.ofChange framesSafeSpec)) framesSafeCard

/-- THE TIED CARD OF 'facadelaw16.FramesTurn'. -/
def framesTurnCard : Claim7 := { stood := { row := framesTurnRow, standIns := [], harness := (true, "0df08e0516024b147ff174e9084b733801335459356f81c70d1ebb07a7d94202"), looks := true }, kinds := [], alts := [], laidByText := true, laidKinds := [.sentinel, .sentinel, .sentinel, .sentinel, .sentinel, .sentinel, .sentinel, .sentinel, .sentinel, .sentinel, .sentinel, .sentinel, .sentinel, .sentinel, .sentinel, .sentinel], laidTests := true, laidLooks := .later }
def FramesTurnCardSaid : Prop := Claim7.holds Tryd.pinned (.plain (OpenSpec.ofChange framesTurnSpec)) framesTurnCard

/-- THE TIED CARD OF 'facadelaw16.FramesPlay'. -/
def framesPlayCard : Claim7 := { stood := { row := framesPlayRow, standIns := [], harness := (true, "0df08e0516024b147ff174e9084b733801335459356f81c70d1ebb07a7d94202"), looks := true }, kinds := [], alts := [], laidByText := true, laidKinds := [.sentinel, .sentinel, .sentinel, .sentinel, .sentinel, .sentinel, .sentinel, .sentinel, .sentinel, .sentinel, .sentinel, .sentinel, .sentinel, .sentinel, .sentinel, .sentinel], laidTests := true, laidLooks := .later }
def FramesPlayCardSaid : Prop := Claim7.holds Tryd.pinned (.plain (OpenSpec.ofChange framesPlaySpec)) framesPlayCard

/-- THE TIED CARD OF 'facadelaw18.TablesNew'. -/
def tablesNewCard : Claim7 := { stood := { row := tablesNewRow, standIns := [], harness := (true, "0df08e0516024b147ff174e9084b733801335459356f81c70d1ebb07a7d94202"), looks := true }, kinds := [], alts := [], laidByText := true, laidKinds := [.sentinel, .sentinel, .sentinel, .sentinel, .sentinel, .sentinel, .sentinel, .sentinel, .sentinel, .sentinel, .sentinel, .sentinel, .sentinel, .sentinel, .sentinel, .sentinel], laidTests := true, laidLooks := .later }
def TablesNewCardSaid : Prop := Claim7.holds Tryd.pinned (.plain (OpenSpec.ofChange tablesNewSpec)) tablesNewCard

/-- THE TIED CARD OF 'facadelaw18.TablesSafe'. -/
def tablesSafeCard : Claim7 := { stood := { row := tablesSafeRow, standIns := [], harness := (true, "0df08e0516024b147ff174e9084b733801335459356f81c70d1ebb07a7d94202"), looks := true }, kinds := [], alts := [], laidByText := true, laidKinds := [.sentinel, .sentinel, .sentinel, .sentinel, .sentinel, .sentinel, .sentinel, .sentinel, .sentinel, .sentinel, .sentinel, .sentinel, .sentinel, .sentinel, .sentinel, .sentinel], laidTests := true, laidLooks := .later }
def TablesSafeCardSaid : Prop := Claim7.holds Tryd.pinned (.plain (OpenSpec.ofChange tablesSafeSpec)) tablesSafeCard

/-- THE TIED CARD OF 'facadelaw18.TablesTwice'. -/
def tablesTwiceCard : Claim7 := { stood := { row := tablesTwiceRow, standIns := [], harness := (true, "0df08e0516024b147ff174e9084b733801335459356f81c70d1ebb07a7d94202"), looks := true }, kinds := [], alts := [], laidByText := true, laidKinds := [.sentinel, .sentinel, .sentinel, .sentinel, .sentinel, .sentinel, .sentinel, .sentinel, .sentinel, .sentinel, .sentinel, .sentinel, .sentinel, .sentinel, .sentinel, .sentinel], laidTests := true, laidLooks := .later }
def TablesTwiceCardSaid : Prop := Claim7.holds Tryd.pinned (.plain (OpenSpec.ofChange tablesTwiceSpec)) tablesTwiceCard

/-- THE TIED CARD OF 'facadelaw18.TablesRefuse'. -/
def tablesRefuseCard : Claim7 := { stood := { row := tablesRefuseRow, standIns := [], harness := (true, "0df08e0516024b147ff174e9084b733801335459356f81c70d1ebb07a7d94202"), looks := true }, kinds := [], alts := [], laidByText := true, laidKinds := [.sentinel, .sentinel, .sentinel, .sentinel, .sentinel, .sentinel, .sentinel, .sentinel, .sentinel, .sentinel, .sentinel, .sentinel, .sentinel, .sentinel, .sentinel, .sentinel], laidTests := true, laidLooks := .later }
def TablesRefuseCardSaid : Prop := Claim7.holds Tryd.pinned (.plain (OpenSpec.ofChange tablesRefuseSpec)) tablesRefuseCard

/-- THE SECOND FORM's CARD OF 'facadelaw16.FramesFull'. -/
def framesFullUptoCard : Claim7 := { stood := { row := framesFullUptoRow, standIns := [], harness := (true, "0df08e0516024b147ff174e9084b733801335459356f81c70d1ebb07a7d94202"), looks := true }, kinds := [], alts := [], laidByText := true, laidKinds := [.sentinel, .sentinel, .sentinel, .sentinel, .sentinel, .sentinel, .sentinel, .sentinel, .sentinel, .sentinel, .sentinel, .sentinel, .sentinel, .sentinel, .sentinel, .sentinel], laidTests := true, laidLooks := .later }
def FramesFullUptoCardSaid : Prop := Claim7.holds Tryd.pinned (.plain (OpenSpec.upto framesFullSpec)) framesFullUptoCard

/-- THE SECOND FORM's CARD OF 'facadelaw16.FramesSafe'. -/
def framesSafeUptoCard : Claim7 := { stood := { row := framesSafeUptoRow, standIns := [], harness := (true, "0df08e0516024b147ff174e9084b733801335459356f81c70d1ebb07a7d94202"), looks := true }, kinds := [], alts := [], laidByText := true, laidKinds := [.sentinel, .sentinel, .sentinel, .sentinel, .sentinel, .sentinel, .sentinel, .sentinel, .sentinel, .sentinel, .sentinel, .sentinel, .sentinel, .sentinel, .sentinel, .sentinel], laidTests := true, laidLooks := .later }
def FramesSafeUptoCardSaid : Prop := Claim7.holds Tryd.pinned (.plain (OpenSpec.upto framesSafeSpec)) framesSafeUptoCard

/-- THE SECOND FORM's CARD OF 'facadelaw16.FramesTurn'. -/
def framesTurnUptoCard : Claim7 := { stood := { row := framesTurnUptoRow, standIns := [], harness := (true, "0df08e0516024b147ff174e9084b733801335459356f81c70d1ebb07a7d94202"), looks := true }, kinds := [], alts := [], laidByText := true, laidKinds := [.sentinel, .sentinel, .sentinel, .sentinel, .sentinel, .sentinel, .sentinel, .sentinel, .sentinel, .sentinel, .sentinel, .sentinel, .sentinel, .sentinel, .sentinel, .sentinel], laidTests := true, laidLooks := .later }
def FramesTurnUptoCardSaid : Prop := Claim7.holds Tryd.pinned (.plain (OpenSpec.upto framesTurnSpec)) framesTurnUptoCard

/-- THE SECOND FORM's CARD OF 'facadelaw16.FramesPlay'. -/
def framesPlayUptoCard : Claim7 := { stood := { row := framesPlayUptoRow, standIns := [], harness := (true, "0df08e0516024b147ff174e9084b733801335459356f81c70d1ebb07a7d94202"), looks := true }, kinds := [], alts := [], laidByText := true, laidKinds := [.sentinel, .sentinel, .sentinel, .sentinel, .sentinel, .sentinel, .sentinel, .sentinel, .sentinel, .sentinel, .sentinel, .sentinel, .sentinel, .sentinel, .sentinel, .sentinel], laidTests := true, laidLooks := .later }
def FramesPlayUptoCardSaid : Prop := Claim7.holds Tryd.pinned (.plain (OpenSpec.upto framesPlaySpec)) framesPlayUptoCard

/-- THE SECOND FORM's CARD OF 'facadelaw18.TablesNew'. -/
def tablesNewUptoCard : Claim7 := { stood := { row := tablesNewUptoRow, standIns := [], harness := (true, "0df08e0516024b147ff174e9084b733801335459356f81c70d1ebb07a7d94202"), looks := true }, kinds := [], alts := [], laidByText := true, laidKinds := [.sentinel, .sentinel, .sentinel, .sentinel, .sentinel, .sentinel, .sentinel, .sentinel, .sentinel, .sentinel, .sentinel, .sentinel, .sentinel, .sentinel, .sentinel, .sentinel], laidTests := true, laidLooks := .later }
def TablesNewUptoCardSaid : Prop := Claim7.holds Tryd.pinned (.plain (OpenSpec.upto tablesNewSpec)) tablesNewUptoCard

/-- THE SECOND FORM's CARD OF 'facadelaw18.TablesSafe'. -/
def tablesSafeUptoCard : Claim7 := { stood := { row := tablesSafeUptoRow, standIns := [], harness := (true, "0df08e0516024b147ff174e9084b733801335459356f81c70d1ebb07a7d94202"), looks := true }, kinds := [], alts := [], laidByText := true, laidKinds := [.sentinel, .sentinel, .sentinel, .sentinel, .sentinel, .sentinel, .sentinel, .sentinel, .sentinel, .sentinel, .sentinel, .sentinel, .sentinel, .sentinel, .sentinel, .sentinel], laidTests := true, laidLooks := .later }
def TablesSafeUptoCardSaid : Prop := Claim7.holds Tryd.pinned (.plain (OpenSpec.upto tablesSafeSpec)) tablesSafeUptoCard

/-- THE SECOND FORM's CARD OF 'facadelaw18.TablesTwice'. -/
def tablesTwiceUptoCard : Claim7 := { stood := { row := tablesTwiceUptoRow, standIns := [], harness := (true, "0df08e0516024b147ff174e9084b733801335459356f81c70d1ebb07a7d94202"), looks := true }, kinds := [], alts := [], laidByText := true, laidKinds := [.sentinel, .sentinel, .sentinel, .sentinel, .sentinel, .sentinel, .sentinel, .sentinel, .sentinel, .sentinel, .sentinel, .sentinel, .sentinel, .sentinel, .sentinel, .sentinel], laidTests := true, laidLooks := .later }
def TablesTwiceUptoCardSaid : Prop := Claim7.holds Tryd.pinned (.plain (OpenSpec.upto tablesTwiceSpec)) tablesTwiceUptoCard

/-- THE SECOND FORM's CARD OF 'facadelaw18.TablesRefuse'. -/
def tablesRefuseUptoCard : Claim7 := { stood := { row := tablesRefuseUptoRow, standIns := [], harness := (true, "0df08e0516024b147ff174e9084b733801335459356f81c70d1ebb07a7d94202"), looks := true }, kinds := [], alts := [], laidByText := true, laidKinds := [.sentinel, .sentinel, .sentinel, .sentinel, .sentinel, .sentinel, .sentinel, .sentinel, .sentinel, .sentinel, .sentinel, .sentinel, .sentinel, .sentinel, .sentinel, .sentinel], laidTests := true, laidLooks := .later }
def TablesRefuseUptoCardSaid : Prop := Claim7.holds Tryd.pinned (.plain (OpenSpec.upto tablesRefuseSpec)) tablesRefuseUptoCard
end Rows
end Go.Proofs.YtaoaachgnnengaaDoor
