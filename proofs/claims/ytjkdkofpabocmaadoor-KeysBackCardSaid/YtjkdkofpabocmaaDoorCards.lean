/-
  DERIVED. GIVEN WITH THE SEED: THE CARDS: each row of YtjkdkofpabocmaaDoorRows.lean that lists a variable, with what it lists TIED to the program's text (the seventh form; the later family's looks); each row that meets fmt, with fmt's text TOLD by the authors' own Lean function (tested against real Go, not proved from fmt's source: count such statements apart). THE CARD IS WHAT COUNTS. Prove the row's statement (the work); the ties are given (YtjkdkofpabocmaaDoorTie.lean); close each card by the builder's one call (the guide's Derived/Test/ToyasCard.lean, 'card_holds'). Laid BY PROGRAM, IN A SANDBOX (cutbox-door.mjs). By AI agents, Wed Nov 11 2026. No macro, syntax, notation, axiom, sorry.
-/
import Derived.Test.YtjkdkofpabocmaaDoorRows
import GoSem.ClaimSeven
namespace Go.Proofs.YtjkdkofpabocmaaDoor
namespace Rows

/-- THE TIED CARD OF 'trellislaw.ComposeShows'. -/
def composeShowsCard : Claim7 := { stood := { row := composeShowsRow, standIns := [], harness := (true, "29960c064be679394fe81c276d746360d59a62409f3f5890444fbed7c7827d6b"), looks := true }, kinds := [], alts := [], laidByText := true, laidKinds := [.data, .pinned], laidTests := true, laidLooks := .later }
def ComposeShowsCardSaid : Prop := Claim7.holds Tryd.pinned (.plain (OpenSpec.ofChange composeShowsSpec)) composeShowsCard

/-- THE TIED CARD OF 'trellislaw.KeysWrite'. -/
def keysWriteCard : Claim7 := { stood := { row := keysWriteRow, standIns := [], harness := (true, "29960c064be679394fe81c276d746360d59a62409f3f5890444fbed7c7827d6b"), looks := true }, kinds := [], alts := [], laidByText := true, laidKinds := [.data, .data, .data, .data, .sentinel, .sentinel, .pinned], laidTests := true, laidLooks := .later }
def KeysWriteCardSaid : Prop := Claim7.holds Tryd.pinned (.plain (OpenSpec.ofChange keysWriteSpec)) keysWriteCard

/-- THE TIED CARD OF 'trellislaw.KeysRead'. -/
def keysReadCard : Claim7 := { stood := { row := keysReadRow, standIns := [], harness := (true, "29960c064be679394fe81c276d746360d59a62409f3f5890444fbed7c7827d6b"), looks := true }, kinds := [], alts := [], laidByText := true, laidKinds := [.data, .data, .data, .data, .sentinel, .sentinel, .pinned], laidTests := true, laidLooks := .later }
def KeysReadCardSaid : Prop := Claim7.holds Tryd.pinned (.plain (OpenSpec.ofChange keysReadSpec)) keysReadCard

/-- THE TIED CARD OF 'trellislaw.KeysCuts'. -/
def keysCutsCard : Claim7 := { stood := { row := keysCutsRow, standIns := [], harness := (true, "29960c064be679394fe81c276d746360d59a62409f3f5890444fbed7c7827d6b"), looks := true }, kinds := [], alts := [], laidByText := true, laidKinds := [.data, .data, .data, .data, .sentinel, .sentinel, .pinned], laidTests := true, laidLooks := .later }
def KeysCutsCardSaid : Prop := Claim7.holds Tryd.pinned (.plain (OpenSpec.ofChange keysCutsSpec)) keysCutsCard

/-- THE TIED CARD OF 'trellislaw.KeysBack'. -/
def keysBackCard : Claim7 := { stood := { row := keysBackRow, standIns := [], harness := (true, "29960c064be679394fe81c276d746360d59a62409f3f5890444fbed7c7827d6b"), looks := true }, kinds := [], alts := [], laidByText := true, laidKinds := [.data, .data, .data, .data, .sentinel, .sentinel, .pinned], laidTests := true, laidLooks := .later }
def KeysBackCardSaid : Prop := Claim7.holds Tryd.pinned (.plain (OpenSpec.ofChange keysBackSpec)) keysBackCard

/-- THE TIED CARD OF 'trellislaw.KeysName'. -/
def keysNameCard : Claim7 := { stood := { row := keysNameRow, standIns := [], harness := (true, "29960c064be679394fe81c276d746360d59a62409f3f5890444fbed7c7827d6b"), looks := true }, kinds := [], alts := [], laidByText := true, laidKinds := [.data, .data, .data, .data, .sentinel, .sentinel, .listed, .data, .pinned], laidTests := true, laidLooks := .later }
def KeysNameCardSaid : Prop := Claim7.holds Tryd.pinned (.plain (OpenSpec.ofChange keysNameSpec)) keysNameCard

/-- THE SECOND FORM's CARD OF 'trellislaw.ComposeShows'. -/
def composeShowsUptoCard : Claim7 := { stood := { row := composeShowsUptoRow, standIns := [], harness := (true, "29960c064be679394fe81c276d746360d59a62409f3f5890444fbed7c7827d6b"), looks := true }, kinds := [], alts := [], laidByText := true, laidKinds := [.data, .pinned], laidTests := true, laidLooks := .later }
def ComposeShowsUptoCardSaid : Prop := Claim7.holds Tryd.pinned (.plain (OpenSpec.upto composeShowsSpec)) composeShowsUptoCard

/-- THE SECOND FORM's CARD OF 'trellislaw.KeysWrite'. -/
def keysWriteUptoCard : Claim7 := { stood := { row := keysWriteUptoRow, standIns := [], harness := (true, "29960c064be679394fe81c276d746360d59a62409f3f5890444fbed7c7827d6b"), looks := true }, kinds := [], alts := [], laidByText := true, laidKinds := [.data, .data, .data, .data, .sentinel, .sentinel, .pinned], laidTests := true, laidLooks := .later }
def KeysWriteUptoCardSaid : Prop := Claim7.holds Tryd.pinned (.plain (OpenSpec.upto keysWriteSpec)) keysWriteUptoCard

/-- THE SECOND FORM's CARD OF 'trellislaw.KeysRead'. -/
def keysReadUptoCard : Claim7 := { stood := { row := keysReadUptoRow, standIns := [], harness := (true, "29960c064be679394fe81c276d746360d59a62409f3f5890444fbed7c7827d6b"), looks := true }, kinds := [], alts := [], laidByText := true, laidKinds := [.data, .data, .data, .data, .sentinel, .sentinel, .pinned], laidTests := true, laidLooks := .later }
def KeysReadUptoCardSaid : Prop := Claim7.holds Tryd.pinned (.plain (OpenSpec.upto keysReadSpec)) keysReadUptoCard

/-- THE SECOND FORM's CARD OF 'trellislaw.KeysCuts'. -/
def keysCutsUptoCard : Claim7 := { stood := { row := keysCutsUptoRow, standIns := [], harness := (true, "29960c064be679394fe81c276d746360d59a62409f3f5890444fbed7c7827d6b"), looks := true }, kinds := [], alts := [], laidByText := true, laidKinds := [.data, .data, .data, .data, .sentinel, .sentinel, .pinned], laidTests := true, laidLooks := .later }
def KeysCutsUptoCardSaid : Prop := Claim7.holds Tryd.pinned (.plain (OpenSpec.upto keysCutsSpec)) keysCutsUptoCard

/-- THE SECOND FORM's CARD OF 'trellislaw.KeysBack'. -/
def keysBackUptoCard : Claim7 := { stood := { row := keysBackUptoRow, standIns := [], harness := (true, "29960c064be679394fe81c276d746360d59a62409f3f5890444fbed7c7827d6b"), looks := true }, kinds := [], alts := [], laidByText := true, laidKinds := [.data, .data, .data, .data, .sentinel, .sentinel, .pinned], laidTests := true, laidLooks := .later }
def KeysBackUptoCardSaid : Prop := Claim7.holds Tryd.pinned (.plain (OpenSpec.upto keysBackSpec)) keysBackUptoCard

/-- THE SECOND FORM's CARD OF 'trellislaw.KeysName'. -/
def keysNameUptoCard : Claim7 := { stood := { row := keysNameUptoRow, standIns := [], harness := (true, "29960c064be679394fe81c276d746360d59a62409f3f5890444fbed7c7827d6b"), looks := true }, kinds := [], alts := [], laidByText := true, laidKinds := [.data, .data, .data, .data, .sentinel, .sentinel, .listed, .data, .pinned], laidTests := true, laidLooks := .later }
def KeysNameUptoCardSaid : Prop := Claim7.holds Tryd.pinned (.plain (OpenSpec.upto keysNameSpec)) keysNameUptoCard
end Rows
end Go.Proofs.YtjkdkofpabocmaaDoor
