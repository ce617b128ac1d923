/-
  DERIVED. GIVEN WITH THE SEED: THE CARDS: each row of YtkcldifniomfoaaDoorRows.lean that lists a variable, with what it lists TIED to the program's text (the seventh form; the later family's looks); each row that meets fmt, with fmt's text TOLD by the authors' own Lean function (tested against real Go, not proved from fmt's source: count such statements apart). THE CARD IS WHAT COUNTS. Prove the row's statement (the work); the ties are given (YtkcldifniomfoaaDoorTie.lean); close each card by the builder's one call (the guide's Derived/Test/ToyasCard.lean, 'card_holds'). Laid BY PROGRAM, IN A SANDBOX (cutbox-door.mjs). By AI agents, Wed Nov 11 2026. No macro, syntax, notation, axiom, sorry.
-/
import Derived.Test.YtkcldifniomfoaaDoorRows
import GoSem.ClaimSeven
namespace Go.Proofs.YtkcldifniomfoaaDoor
namespace Rows

/-- THE TIED CARD OF 'trellislaw.ParseAlways'. -/
def parseAlwaysCard : Claim7 := { stood := { row := parseAlwaysRow, standIns := [], harness := (true, "c1e049ed082b41742b9d99a0c0cb77e508fab37b84d0ba4c75526260cf809470"), looks := true }, kinds := [], alts := [], laidByText := true, laidKinds := [.data, .pinned], laidTests := true, laidLooks := .later }
def ParseAlwaysCardSaid : Prop := Claim7.holds Tryd.pinned (.plain (OpenSpec.ofChange parseAlwaysSpec)) parseAlwaysCard

/-- THE TIED CARD OF 'trellislaw.ParseCuts'. -/
def parseCutsCard : Claim7 := { stood := { row := parseCutsRow, standIns := [], harness := (true, "c1e049ed082b41742b9d99a0c0cb77e508fab37b84d0ba4c75526260cf809470"), looks := true }, kinds := [], alts := [], laidByText := true, laidKinds := [.data, .pinned], laidTests := true, laidLooks := .later }
def ParseCutsCardSaid : Prop := Claim7.holds Tryd.pinned (.plain (OpenSpec.ofChange parseCutsSpec)) parseCutsCard

/-- THE TIED CARD OF 'trellislaw.ParseWrite'. -/
def parseWriteCard : Claim7 := { stood := { row := parseWriteRow, standIns := [], harness := (true, "c1e049ed082b41742b9d99a0c0cb77e508fab37b84d0ba4c75526260cf809470"), looks := true }, kinds := [], alts := [], laidByText := true, laidKinds := [.data, .data, .data, .data, .pinned], laidTests := true, laidLooks := .later }
def ParseWriteCardSaid : Prop := Claim7.holds Tryd.pinned (.plain (OpenSpec.ofChange parseWriteSpec)) parseWriteCard

/-- THE TIED CARD OF 'trellislaw.ParseBack'. -/
def parseBackCard : Claim7 := { stood := { row := parseBackRow, standIns := [], harness := (true, "c1e049ed082b41742b9d99a0c0cb77e508fab37b84d0ba4c75526260cf809470"), looks := true }, kinds := [], alts := [], laidByText := true, laidKinds := [.data, .data, .data, .data, .pinned], laidTests := true, laidLooks := .later }
def ParseBackCardSaid : Prop := Claim7.holds Tryd.pinned (.plain (OpenSpec.ofChange parseBackSpec)) parseBackCard

/-- THE TIED CARD OF 'trellislaw.ParseFeed'. -/
def parseFeedCard : Claim7 := { stood := { row := parseFeedRow, standIns := [], harness := (true, "c1e049ed082b41742b9d99a0c0cb77e508fab37b84d0ba4c75526260cf809470"), looks := true }, kinds := [], alts := [], laidByText := true, laidKinds := [.data, .pinned], laidTests := true, laidLooks := .later }
def ParseFeedCardSaid : Prop := Claim7.holds Tryd.pinned (.plain (OpenSpec.ofChange parseFeedSpec)) parseFeedCard

/-- THE SECOND FORM's CARD OF 'trellislaw.ParseAlways'. -/
def parseAlwaysUptoCard : Claim7 := { stood := { row := parseAlwaysUptoRow, standIns := [], harness := (true, "c1e049ed082b41742b9d99a0c0cb77e508fab37b84d0ba4c75526260cf809470"), looks := true }, kinds := [], alts := [], laidByText := true, laidKinds := [.data, .pinned], laidTests := true, laidLooks := .later }
def ParseAlwaysUptoCardSaid : Prop := Claim7.holds Tryd.pinned (.plain (OpenSpec.upto parseAlwaysSpec)) parseAlwaysUptoCard

/-- THE SECOND FORM's CARD OF 'trellislaw.ParseCuts'. -/
def parseCutsUptoCard : Claim7 := { stood := { row := parseCutsUptoRow, standIns := [], harness := (true, "c1e049ed082b41742b9d99a0c0cb77e508fab37b84d0ba4c75526260cf809470"), looks := true }, kinds := [], alts := [], laidByText := true, laidKinds := [.data, .pinned], laidTests := true, laidLooks := .later }
def ParseCutsUptoCardSaid : Prop := Claim7.holds Tryd.pinned (.plain (OpenSpec.upto parseCutsSpec)) parseCutsUptoCard

/-- THE SECOND FORM's CARD OF 'trellislaw.ParseWrite'. -/
def parseWriteUptoCard : Claim7 := { stood := { row := parseWriteUptoRow, standIns := [], harness := (true, "c1e049ed082b41742b9d99a0c0cb77e508fab37b84d0ba4c75526260cf809470"), looks := true }, kinds := [], alts := [], laidByText := true, laidKinds := [.data, .data, .data, .data, .pinned], laidTests := true, laidLooks := .later }
def ParseWriteUptoCardSaid : Prop := Claim7.holds Tryd.pinned (.plain (OpenSpec.upto parseWriteSpec)) parseWriteUptoCard

/-- THE SECOND FORM's CARD OF 'trellislaw.ParseBack'. -/
def parseBackUptoCard : Claim7 := { stood := { row := parseBackUptoRow, standIns := [], harness := (true, "c1e049ed082b41742b9d99a0c0cb77e508fab37b84d0ba4c75526260cf809470"), looks := true }, kinds := [], alts := [], laidByText := true, laidKinds := [.data, .data, .data, .data, .pinned], laidTests := true, laidLooks := .later }
def ParseBackUptoCardSaid : Prop := Claim7.holds Tryd.pinned (.plain (OpenSpec.upto parseBackSpec)) parseBackUptoCard

/-- THE SECOND FORM's CARD OF 'trellislaw.ParseFeed'. -/
def parseFeedUptoCard : Claim7 := { stood := { row := parseFeedUptoRow, standIns := [], harness := (true, "c1e049ed082b41742b9d99a0c0cb77e508fab37b84d0ba4c75526260cf809470"), looks := true }, kinds := [], alts := [], laidByText := true, laidKinds := [.data, .pinned], laidTests := true, laidLooks := .later }
def ParseFeedUptoCardSaid : Prop := Claim7.holds Tryd.pinned (.plain (OpenSpec.upto parseFeedSpec)) parseFeedUptoCard
end Rows
end Go.Proofs.YtkcldifniomfoaaDoor
