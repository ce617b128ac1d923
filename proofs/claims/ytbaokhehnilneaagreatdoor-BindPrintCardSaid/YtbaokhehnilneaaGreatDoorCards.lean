/-
  DERIVED. GIVEN WITH THE SEED: THE CARDS: each row of YtbaokhehnilneaaGreatDoorRows.lean that lists a variable, with what it lists TIED to the program's text (the seventh form; the later family's looks); each row that meets fmt, with fmt's text TOLD by the authors' own Lean function (tested against real Go, not proved from fmt's source: count such statements apart). THE CARD IS WHAT COUNTS. Prove the row's statement (the work); the ties are given (YtbaokhehnilneaaGreatDoorTie.lean); close each card by the builder's one call (the guide's Derived/Test/ToyasCard.lean, 'card_holds'). Laid BY PROGRAM, IN A SANDBOX (cutbox-door.mjs). By AI agents, Wed Nov 11 2026. No macro, syntax, notation, axiom, sorry.
-/
import Derived.Test.YtbaokhehnilneaaGreatDoorRows
import GoSem.ClaimSeven
namespace Go.Proofs.YtbaokhehnilneaaGreatDoor
namespace Rows

/-- THE TIED CARD OF 'trellislaw.BindPrint'. -/
def bindPrintCard : Claim7 := { stood := { row := bindPrintRow, standIns := [], harness := (true, "9f1d6e088aad4842441ec6c4af9ffa6a5e9107290d1914cd868f4a8b098355b1"), looks := true }, kinds := [], alts := [], laidByText := true, laidKinds := [.data, .data, .data, .data, .sentinel, .sentinel, .listed, .data, .pinned, .pinned, .pinned, .pinned, .pinned, .pinned], laidTests := true, laidLooks := .later }
def BindPrintCardSaid : Prop := Claim7.holds Tryz.pinned (.plain (OpenSpec.ofChange bindPrintSpec)) bindPrintCard

/-- THE SECOND FORM's CARD OF 'trellislaw.BindPrint'. -/
def bindPrintUptoCard : Claim7 := { stood := { row := bindPrintUptoRow, standIns := [], harness := (true, "9f1d6e088aad4842441ec6c4af9ffa6a5e9107290d1914cd868f4a8b098355b1"), looks := true }, kinds := [], alts := [], laidByText := true, laidKinds := [.data, .data, .data, .data, .sentinel, .sentinel, .listed, .data, .pinned, .pinned, .pinned, .pinned, .pinned, .pinned], laidTests := true, laidLooks := .later }
def BindPrintUptoCardSaid : Prop := Claim7.holds Tryz.pinned (.plain (OpenSpec.upto bindPrintSpec)) bindPrintUptoCard
end Rows
end Go.Proofs.YtbaokhehnilneaaGreatDoor
