/-
  DERIVED. GIVEN WITH THE SEED: THE CARDS: each row of YtbaokhehnilneaaDoorRows.lean that lists a variable, with what it lists TIED to the program's text (the seventh form; the later family's looks); each row that meets fmt, with fmt's text TOLD by the authors' own Lean function (tested against real Go, not proved from fmt's source: count such statements apart). THE CARD IS WHAT COUNTS. Prove the row's statement (the work); the ties are given (YtbaokhehnilneaaDoorTie.lean); close each card by the builder's one call (the guide's Derived/Test/ToyasCard.lean, 'card_holds'). Laid BY PROGRAM, IN A SANDBOX (cutbox-door.mjs). By AI agents, Wed Nov 11 2026. No macro, syntax, notation, axiom, sorry.
-/
import Derived.Test.YtbaokhehnilneaaDoorRows
import GoSem.ClaimSeven
namespace Go.Proofs.YtbaokhehnilneaaDoor
namespace Rows

/-- THE TIED CARD OF 'trellislaw.FormatState'. -/
def formatStateCard : Claim7 := { stood := { row := formatStateRow, standIns := [], harness := (true, "4922a09c16131b7c6503c978a5d262c91812084b79575f3f52225d35d3f1ab4d"), looks := true }, kinds := [], alts := [], laidByText := true, laidKinds := [.data, .data, .data, .data, .sentinel, .sentinel, .pinned], laidTests := true, laidLooks := .later }
def FormatStateCardSaid : Prop := Claim7.holds Tryd.pinned (.plain (OpenSpec.ofChange formatStateSpec)) formatStateCard

/-- THE SECOND FORM's CARD OF 'trellislaw.FormatState'. -/
def formatStateUptoCard : Claim7 := { stood := { row := formatStateUptoRow, standIns := [], harness := (true, "4922a09c16131b7c6503c978a5d262c91812084b79575f3f52225d35d3f1ab4d"), looks := true }, kinds := [], alts := [], laidByText := true, laidKinds := [.data, .data, .data, .data, .sentinel, .sentinel, .pinned], laidTests := true, laidLooks := .later }
def FormatStateUptoCardSaid : Prop := Claim7.holds Tryd.pinned (.plain (OpenSpec.upto formatStateSpec)) formatStateUptoCard
end Rows
end Go.Proofs.YtbaokhehnilneaaDoor
