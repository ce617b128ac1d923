/-
  DERIVED. GIVEN WITH THE SEED: THE CARDS: each row of YtkenlcaifhffoaaDoorRows.lean that lists a variable, with what it lists TIED to the program's text (the seventh form; the later family's looks); each row that meets fmt, with fmt's text TOLD by the authors' own Lean function (tested against real Go, not proved from fmt's source: count such statements apart). THE CARD IS WHAT COUNTS. Prove the row's statement (the work); the ties are given (YtkenlcaifhffoaaDoorTie.lean); close each card by the builder's one call (the guide's Derived/Test/ToyasCard.lean, 'card_holds'). Laid BY PROGRAM, IN A SANDBOX (cutbox-door.mjs). By AI agents, Wed Nov 11 2026. No macro, syntax, notation, axiom, sorry.
-/
import Derived.Test.YtkenlcaifhffoaaDoorRows
import GoSem.ClaimSeven
namespace Go.Proofs.YtkenlcaifhffoaaDoor
namespace Rows

/-- THE TIED CARD OF 'trellislaw.HouseClose'. -/
def houseCloseCard : Claim7 := { stood := { row := houseCloseRow, standIns := [], harness := (true, "1413b771a40f3696a96c7b7fd5bdfb886ba2cfefbcfb0b68be9c7274b3e10747"), looks := true }, kinds := [], alts := [], laidByText := true, laidKinds := [.data, .pinned], laidTests := true, laidLooks := .later }
def HouseCloseCardSaid : Prop := Claim7.holds Tryd.pinned (.plain (OpenSpec.ofChange houseCloseSpec)) houseCloseCard

/-- THE TIED CARD OF 'trellislaw.HouseRight'. -/
def houseRightCard : Claim7 := { stood := { row := houseRightRow, standIns := [], harness := (true, "1413b771a40f3696a96c7b7fd5bdfb886ba2cfefbcfb0b68be9c7274b3e10747"), looks := true }, kinds := [], alts := [], laidByText := true, laidKinds := [.data, .pinned], laidTests := true, laidLooks := .later }
def HouseRightCardSaid : Prop := Claim7.holds Tryd.pinned (.plain (OpenSpec.ofChange houseRightSpec)) houseRightCard

/-- THE TIED CARD OF 'trellislaw.FormatExpand'. -/
def formatExpandCard : Claim7 := { stood := { row := formatExpandRow, standIns := [], harness := (true, "1413b771a40f3696a96c7b7fd5bdfb886ba2cfefbcfb0b68be9c7274b3e10747"), looks := true }, kinds := [], alts := [], laidByText := true, laidKinds := [.data, .data, .data, .data, .sentinel, .sentinel, .pinned], laidTests := true, laidLooks := .later }
def FormatExpandCardSaid : Prop := Claim7.holds Tryd.pinned (.plain (OpenSpec.ofChange formatExpandSpec)) formatExpandCard

/-- THE SECOND FORM's CARD OF 'trellislaw.HouseClose'. -/
def houseCloseUptoCard : Claim7 := { stood := { row := houseCloseUptoRow, standIns := [], harness := (true, "1413b771a40f3696a96c7b7fd5bdfb886ba2cfefbcfb0b68be9c7274b3e10747"), looks := true }, kinds := [], alts := [], laidByText := true, laidKinds := [.data, .pinned], laidTests := true, laidLooks := .later }
def HouseCloseUptoCardSaid : Prop := Claim7.holds Tryd.pinned (.plain (OpenSpec.upto houseCloseSpec)) houseCloseUptoCard

/-- THE SECOND FORM's CARD OF 'trellislaw.HouseRight'. -/
def houseRightUptoCard : Claim7 := { stood := { row := houseRightUptoRow, standIns := [], harness := (true, "1413b771a40f3696a96c7b7fd5bdfb886ba2cfefbcfb0b68be9c7274b3e10747"), looks := true }, kinds := [], alts := [], laidByText := true, laidKinds := [.data, .pinned], laidTests := true, laidLooks := .later }
def HouseRightUptoCardSaid : Prop := Claim7.holds Tryd.pinned (.plain (OpenSpec.upto houseRightSpec)) houseRightUptoCard

/-- THE SECOND FORM's CARD OF 'trellislaw.FormatExpand'. -/
def formatExpandUptoCard : Claim7 := { stood := { row := formatExpandUptoRow, standIns := [], harness := (true, "1413b771a40f3696a96c7b7fd5bdfb886ba2cfefbcfb0b68be9c7274b3e10747"), looks := true }, kinds := [], alts := [], laidByText := true, laidKinds := [.data, .data, .data, .data, .sentinel, .sentinel, .pinned], laidTests := true, laidLooks := .later }
def FormatExpandUptoCardSaid : Prop := Claim7.holds Tryd.pinned (.plain (OpenSpec.upto formatExpandSpec)) formatExpandUptoCard
end Rows
end Go.Proofs.YtkenlcaifhffoaaDoor
