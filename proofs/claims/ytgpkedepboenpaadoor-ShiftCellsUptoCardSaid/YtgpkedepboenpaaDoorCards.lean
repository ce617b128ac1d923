/-
  DERIVED. GIVEN WITH THE SEED: THE CARDS: each row of YtgpkedepboenpaaDoorRows.lean that lists a variable, with what it lists TIED to the program's text (the seventh form; the later family's looks); each row that meets fmt, with fmt's text TOLD by the authors' own Lean function (tested against real Go, not proved from fmt's source: count such statements apart). THE CARD IS WHAT COUNTS. Prove the row's statement (the work); the ties are given (YtgpkedepboenpaaDoorTie.lean); close each card by the builder's one call (the guide's Derived/Test/ToyasCard.lean, 'card_holds'). Laid BY PROGRAM, IN A SANDBOX (cutbox-door.mjs). By AI agents, Wed Nov 11 2026. No macro, syntax, notation, axiom, sorry.
-/
import Derived.Test.YtgpkedepboenpaaDoorRows
import GoSem.ClaimSeven
namespace Go.Proofs.YtgpkedepboenpaaDoor
namespace Rows

/-- THE TIED CARD OF 'trellislaw.MoveRows'. -/
def moveRowsCard : Claim7 := { stood := { row := moveRowsRow, standIns := [], harness := (true, "546664f7596e1e0887444a6ea6277aec5f1d86e420362840a429b83ac00444c0"), looks := false }, kinds := [], alts := [], laidByText := true, laidKinds := [.data, .pinned], laidTests := true, laidLooks := .later }
def MoveRowsCardSaid : Prop := Claim7.holds Tryd.pinned (.plain (OpenSpec.ofChange moveRowsSpec)) moveRowsCard

/-- THE TIED CARD OF 'trellislaw.MoveTo'. -/
def moveToCard : Claim7 := { stood := { row := moveToRow, standIns := [], harness := (true, "546664f7596e1e0887444a6ea6277aec5f1d86e420362840a429b83ac00444c0"), looks := false }, kinds := [], alts := [], laidByText := true, laidKinds := [.data, .pinned], laidTests := true, laidLooks := .later }
def MoveToCardSaid : Prop := Claim7.holds Tryd.pinned (.plain (OpenSpec.ofChange moveToSpec)) moveToCard

/-- THE TIED CARD OF 'trellislaw.ShiftGone'. -/
def shiftGoneCard : Claim7 := { stood := { row := shiftGoneRow, standIns := [], harness := (true, "546664f7596e1e0887444a6ea6277aec5f1d86e420362840a429b83ac00444c0"), looks := false }, kinds := [], alts := [], laidByText := true, laidKinds := [.data, .pinned], laidTests := true, laidLooks := .later }
def ShiftGoneCardSaid : Prop := Claim7.holds Tryd.pinned (.plain (OpenSpec.ofChange shiftGoneSpec)) shiftGoneCard

/-- THE TIED CARD OF 'trellislaw.ModeKeeps'. -/
def modeKeepsCard : Claim7 := { stood := { row := modeKeepsRow, standIns := [], harness := (true, "546664f7596e1e0887444a6ea6277aec5f1d86e420362840a429b83ac00444c0"), looks := false }, kinds := [], alts := [], laidByText := true, laidKinds := [.data, .pinned], laidTests := true, laidLooks := .later }
def ModeKeepsCardSaid : Prop := Claim7.holds Tryd.pinned (.plain (OpenSpec.ofChange modeKeepsSpec)) modeKeepsCard

/-- THE TIED CARD OF 'trellislaw.PutRow'. -/
def putRowCard : Claim7 := { stood := { row := putRowRow, standIns := [], harness := (true, "546664f7596e1e0887444a6ea6277aec5f1d86e420362840a429b83ac00444c0"), looks := false }, kinds := [], alts := [], laidByText := true, laidKinds := [.data, .pinned], laidTests := true, laidLooks := .later }
def PutRowCardSaid : Prop := Claim7.holds Tryd.pinned (.plain (OpenSpec.ofChange putRowSpec)) putRowCard

/-- THE TIED CARD OF 'trellislaw.MoveTabs'. -/
def moveTabsCard : Claim7 := { stood := { row := moveTabsRow, standIns := [], harness := (true, "546664f7596e1e0887444a6ea6277aec5f1d86e420362840a429b83ac00444c0"), looks := false }, kinds := [], alts := [], laidByText := true, laidKinds := [.data, .pinned], laidTests := true, laidLooks := .later }
def MoveTabsCardSaid : Prop := Claim7.holds Tryd.pinned (.plain (OpenSpec.ofChange moveTabsSpec)) moveTabsCard

/-- THE TIED CARD OF 'trellislaw.ShiftRegion'. -/
def shiftRegionCard : Claim7 := { stood := { row := shiftRegionRow, standIns := [], harness := (true, "546664f7596e1e0887444a6ea6277aec5f1d86e420362840a429b83ac00444c0"), looks := false }, kinds := [], alts := [], laidByText := true, laidKinds := [.data, .pinned], laidTests := true, laidLooks := .later }
def ShiftRegionCardSaid : Prop := Claim7.holds Tryd.pinned (.plain (OpenSpec.ofChange shiftRegionSpec)) shiftRegionCard

/-- THE TIED CARD OF 'trellislaw.ModeSet'. -/
def modeSetCard : Claim7 := { stood := { row := modeSetRow, standIns := [], harness := (true, "546664f7596e1e0887444a6ea6277aec5f1d86e420362840a429b83ac00444c0"), looks := false }, kinds := [], alts := [], laidByText := true, laidKinds := [.data, .pinned], laidTests := true, laidLooks := .later }
def ModeSetCardSaid : Prop := Claim7.holds Tryd.pinned (.plain (OpenSpec.ofChange modeSetSpec)) modeSetCard

/-- THE TIED CARD OF 'trellislaw.WipeLine'. -/
def wipeLineCard : Claim7 := { stood := { row := wipeLineRow, standIns := [], harness := (true, "546664f7596e1e0887444a6ea6277aec5f1d86e420362840a429b83ac00444c0"), looks := false }, kinds := [], alts := [], laidByText := true, laidKinds := [.data, .pinned], laidTests := true, laidLooks := .later }
def WipeLineCardSaid : Prop := Claim7.holds Tryd.pinned (.plain (OpenSpec.ofChange wipeLineSpec)) wipeLineCard

/-- THE TIED CARD OF 'trellislaw.ShiftCells'. -/
def shiftCellsCard : Claim7 := { stood := { row := shiftCellsRow, standIns := [], harness := (true, "546664f7596e1e0887444a6ea6277aec5f1d86e420362840a429b83ac00444c0"), looks := false }, kinds := [], alts := [], laidByText := true, laidKinds := [.data, .pinned], laidTests := true, laidLooks := .later }
def ShiftCellsCardSaid : Prop := Claim7.holds Tryd.pinned (.plain (OpenSpec.ofChange shiftCellsSpec)) shiftCellsCard

/-- THE TIED CARD OF 'trellislaw.ModeLook'. -/
def modeLookCard : Claim7 := { stood := { row := modeLookRow, standIns := [], harness := (true, "546664f7596e1e0887444a6ea6277aec5f1d86e420362840a429b83ac00444c0"), looks := false }, kinds := [], alts := [], laidByText := true, laidKinds := [.data, .pinned], laidTests := true, laidLooks := .later }
def ModeLookCardSaid : Prop := Claim7.holds Tryd.pinned (.plain (OpenSpec.ofChange modeLookSpec)) modeLookCard

/-- THE TIED CARD OF 'trellislaw.PutStands'. -/
def putStandsCard : Claim7 := { stood := { row := putStandsRow, standIns := [], harness := (true, "546664f7596e1e0887444a6ea6277aec5f1d86e420362840a429b83ac00444c0"), looks := false }, kinds := [], alts := [], laidByText := true, laidKinds := [.data, .pinned], laidTests := true, laidLooks := .later }
def PutStandsCardSaid : Prop := Claim7.holds Tryd.pinned (.plain (OpenSpec.ofChange putStandsSpec)) putStandsCard

/-- THE SECOND FORM's CARD OF 'trellislaw.MoveRows'. -/
def moveRowsUptoCard : Claim7 := { stood := { row := moveRowsUptoRow, standIns := [], harness := (true, "546664f7596e1e0887444a6ea6277aec5f1d86e420362840a429b83ac00444c0"), looks := false }, kinds := [], alts := [], laidByText := true, laidKinds := [.data, .pinned], laidTests := true, laidLooks := .later }
def MoveRowsUptoCardSaid : Prop := Claim7.holds Tryd.pinned (.plain (OpenSpec.upto moveRowsSpec)) moveRowsUptoCard

/-- THE SECOND FORM's CARD OF 'trellislaw.MoveTo'. -/
def moveToUptoCard : Claim7 := { stood := { row := moveToUptoRow, standIns := [], harness := (true, "546664f7596e1e0887444a6ea6277aec5f1d86e420362840a429b83ac00444c0"), looks := false }, kinds := [], alts := [], laidByText := true, laidKinds := [.data, .pinned], laidTests := true, laidLooks := .later }
def MoveToUptoCardSaid : Prop := Claim7.holds Tryd.pinned (.plain (OpenSpec.upto moveToSpec)) moveToUptoCard

/-- THE SECOND FORM's CARD OF 'trellislaw.ShiftGone'. -/
def shiftGoneUptoCard : Claim7 := { stood := { row := shiftGoneUptoRow, standIns := [], harness := (true, "546664f7596e1e0887444a6ea6277aec5f1d86e420362840a429b83ac00444c0"), looks := false }, kinds := [], alts := [], laidByText := true, laidKinds := [.data, .pinned], laidTests := true, laidLooks := .later }
def ShiftGoneUptoCardSaid : Prop := Claim7.holds Tryd.pinned (.plain (OpenSpec.upto shiftGoneSpec)) shiftGoneUptoCard

/-- THE SECOND FORM's CARD OF 'trellislaw.ModeKeeps'. -/
def modeKeepsUptoCard : Claim7 := { stood := { row := modeKeepsUptoRow, standIns := [], harness := (true, "546664f7596e1e0887444a6ea6277aec5f1d86e420362840a429b83ac00444c0"), looks := false }, kinds := [], alts := [], laidByText := true, laidKinds := [.data, .pinned], laidTests := true, laidLooks := .later }
def ModeKeepsUptoCardSaid : Prop := Claim7.holds Tryd.pinned (.plain (OpenSpec.upto modeKeepsSpec)) modeKeepsUptoCard

/-- THE SECOND FORM's CARD OF 'trellislaw.PutRow'. -/
def putRowUptoCard : Claim7 := { stood := { row := putRowUptoRow, standIns := [], harness := (true, "546664f7596e1e0887444a6ea6277aec5f1d86e420362840a429b83ac00444c0"), looks := false }, kinds := [], alts := [], laidByText := true, laidKinds := [.data, .pinned], laidTests := true, laidLooks := .later }
def PutRowUptoCardSaid : Prop := Claim7.holds Tryd.pinned (.plain (OpenSpec.upto putRowSpec)) putRowUptoCard

/-- THE SECOND FORM's CARD OF 'trellislaw.MoveTabs'. -/
def moveTabsUptoCard : Claim7 := { stood := { row := moveTabsUptoRow, standIns := [], harness := (true, "546664f7596e1e0887444a6ea6277aec5f1d86e420362840a429b83ac00444c0"), looks := false }, kinds := [], alts := [], laidByText := true, laidKinds := [.data, .pinned], laidTests := true, laidLooks := .later }
def MoveTabsUptoCardSaid : Prop := Claim7.holds Tryd.pinned (.plain (OpenSpec.upto moveTabsSpec)) moveTabsUptoCard

/-- THE SECOND FORM's CARD OF 'trellislaw.ShiftRegion'. -/
def shiftRegionUptoCard : Claim7 := { stood := { row := shiftRegionUptoRow, standIns := [], harness := (true, "546664f7596e1e0887444a6ea6277aec5f1d86e420362840a429b83ac00444c0"), looks := false }, kinds := [], alts := [], laidByText := true, laidKinds := [.data, .pinned], laidTests := true, laidLooks := .later }
def ShiftRegionUptoCardSaid : Prop := Claim7.holds Tryd.pinned (.plain (OpenSpec.upto shiftRegionSpec)) shiftRegionUptoCard

/-- THE SECOND FORM's CARD OF 'trellislaw.ModeSet'. -/
def modeSetUptoCard : Claim7 := { stood := { row := modeSetUptoRow, standIns := [], harness := (true, "546664f7596e1e0887444a6ea6277aec5f1d86e420362840a429b83ac00444c0"), looks := false }, kinds := [], alts := [], laidByText := true, laidKinds := [.data, .pinned], laidTests := true, laidLooks := .later }
def ModeSetUptoCardSaid : Prop := Claim7.holds Tryd.pinned (.plain (OpenSpec.upto modeSetSpec)) modeSetUptoCard

/-- THE SECOND FORM's CARD OF 'trellislaw.WipeLine'. -/
def wipeLineUptoCard : Claim7 := { stood := { row := wipeLineUptoRow, standIns := [], harness := (true, "546664f7596e1e0887444a6ea6277aec5f1d86e420362840a429b83ac00444c0"), looks := false }, kinds := [], alts := [], laidByText := true, laidKinds := [.data, .pinned], laidTests := true, laidLooks := .later }
def WipeLineUptoCardSaid : Prop := Claim7.holds Tryd.pinned (.plain (OpenSpec.upto wipeLineSpec)) wipeLineUptoCard

/-- THE SECOND FORM's CARD OF 'trellislaw.ShiftCells'. -/
def shiftCellsUptoCard : Claim7 := { stood := { row := shiftCellsUptoRow, standIns := [], harness := (true, "546664f7596e1e0887444a6ea6277aec5f1d86e420362840a429b83ac00444c0"), looks := false }, kinds := [], alts := [], laidByText := true, laidKinds := [.data, .pinned], laidTests := true, laidLooks := .later }
def ShiftCellsUptoCardSaid : Prop := Claim7.holds Tryd.pinned (.plain (OpenSpec.upto shiftCellsSpec)) shiftCellsUptoCard

/-- THE SECOND FORM's CARD OF 'trellislaw.ModeLook'. -/
def modeLookUptoCard : Claim7 := { stood := { row := modeLookUptoRow, standIns := [], harness := (true, "546664f7596e1e0887444a6ea6277aec5f1d86e420362840a429b83ac00444c0"), looks := false }, kinds := [], alts := [], laidByText := true, laidKinds := [.data, .pinned], laidTests := true, laidLooks := .later }
def ModeLookUptoCardSaid : Prop := Claim7.holds Tryd.pinned (.plain (OpenSpec.upto modeLookSpec)) modeLookUptoCard

/-- THE SECOND FORM's CARD OF 'trellislaw.PutStands'. -/
def putStandsUptoCard : Claim7 := { stood := { row := putStandsUptoRow, standIns := [], harness := (true, "546664f7596e1e0887444a6ea6277aec5f1d86e420362840a429b83ac00444c0"), looks := false }, kinds := [], alts := [], laidByText := true, laidKinds := [.data, .pinned], laidTests := true, laidLooks := .later }
def PutStandsUptoCardSaid : Prop := Claim7.holds Tryd.pinned (.plain (OpenSpec.upto putStandsSpec)) putStandsUptoCard
end Rows
end Go.Proofs.YtgpkedepboenpaaDoor
