/-
  DERIVED. GIVEN WITH THE SEED: THE CARDS: each row of YtbpkkiekbmeboaaDoorRows.lean that lists a variable, with what it lists TIED to the program's text (the seventh form; the later family's looks); each row that meets fmt, with fmt's text TOLD by the authors' own Lean function (tested against real Go, not proved from fmt's source: count such statements apart). THE CARD IS WHAT COUNTS. Prove the row's statement (the work); the ties are given (YtbpkkiekbmeboaaDoorTie.lean); close each card by the builder's one call (the guide's Derived/Test/ToyasCard.lean, 'card_holds'). Laid BY PROGRAM, IN A SANDBOX (cutbox-door.mjs). By AI agents, Wed Nov 11 2026. No macro, syntax, notation, axiom, sorry.
-/
import Derived.Test.YtbpkkiekbmeboaaDoorRows
import GoSem.ClaimSeven
namespace Go.Proofs.YtbpkkiekbmeboaaDoor
namespace Rows

/-- THE TIED CARD OF 'trellislaw.RecordPrint'. -/
def recordPrintCard : Claim7 := { stood := { row := recordPrintRow, standIns := [], harness := (true, "5d84749ff01d40cbcf33acbbc748028aa4b256853adec983b8c0af758ea4c44c"), looks := false }, kinds := [], alts := [], laidByText := true, laidKinds := [.data, .data, .data], laidTests := true, laidLooks := .later }
def RecordPrintCardSaid : Prop := Claim7.holds Tryd.pinned (.plain (OpenSpec.ofChange recordPrintSpec)) recordPrintCard

/-- THE TIED CARD OF 'trellislaw.CopyTake'. -/
def copyTakeCard : Claim7 := { stood := { row := copyTakeRow, standIns := [], harness := (true, "5d84749ff01d40cbcf33acbbc748028aa4b256853adec983b8c0af758ea4c44c"), looks := false }, kinds := [], alts := [], laidByText := true, laidKinds := [.data, .pinned], laidTests := true, laidLooks := .later }
def CopyTakeCardSaid : Prop := Claim7.holds Tryd.pinned (.plain (OpenSpec.ofChange copyTakeSpec)) copyTakeCard

/-- THE TIED CARD OF 'trellislaw.CopyMove'. -/
def copyMoveCard : Claim7 := { stood := { row := copyMoveRow, standIns := [], harness := (true, "5d84749ff01d40cbcf33acbbc748028aa4b256853adec983b8c0af758ea4c44c"), looks := false }, kinds := [], alts := [], laidByText := true, laidKinds := [.data, .pinned], laidTests := true, laidLooks := .later }
def CopyMoveCardSaid : Prop := Claim7.holds Tryd.pinned (.plain (OpenSpec.ofChange copyMoveSpec)) copyMoveCard

/-- THE SECOND FORM's CARD OF 'trellislaw.RecordPrint'. -/
def recordPrintUptoCard : Claim7 := { stood := { row := recordPrintUptoRow, standIns := [], harness := (true, "5d84749ff01d40cbcf33acbbc748028aa4b256853adec983b8c0af758ea4c44c"), looks := false }, kinds := [], alts := [], laidByText := true, laidKinds := [.data, .data, .data], laidTests := true, laidLooks := .later }
def RecordPrintUptoCardSaid : Prop := Claim7.holds Tryd.pinned (.plain (OpenSpec.upto recordPrintSpec)) recordPrintUptoCard

/-- THE SECOND FORM's CARD OF 'trellislaw.CopyTake'. -/
def copyTakeUptoCard : Claim7 := { stood := { row := copyTakeUptoRow, standIns := [], harness := (true, "5d84749ff01d40cbcf33acbbc748028aa4b256853adec983b8c0af758ea4c44c"), looks := false }, kinds := [], alts := [], laidByText := true, laidKinds := [.data, .pinned], laidTests := true, laidLooks := .later }
def CopyTakeUptoCardSaid : Prop := Claim7.holds Tryd.pinned (.plain (OpenSpec.upto copyTakeSpec)) copyTakeUptoCard

/-- THE SECOND FORM's CARD OF 'trellislaw.CopyMove'. -/
def copyMoveUptoCard : Claim7 := { stood := { row := copyMoveUptoRow, standIns := [], harness := (true, "5d84749ff01d40cbcf33acbbc748028aa4b256853adec983b8c0af758ea4c44c"), looks := false }, kinds := [], alts := [], laidByText := true, laidKinds := [.data, .pinned], laidTests := true, laidLooks := .later }
def CopyMoveUptoCardSaid : Prop := Claim7.holds Tryd.pinned (.plain (OpenSpec.upto copyMoveSpec)) copyMoveUptoCard
end Rows
end Go.Proofs.YtbpkkiekbmeboaaDoor
