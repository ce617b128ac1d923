/-
  DERIVED. GIVEN WITH THE SEED: THE CARDS: each row of YtlffjmnnoceakaaDoorRows.lean that lists a variable, with what it lists TIED to the program's text (the seventh form; the later family's looks); each row that meets fmt, with fmt's text TOLD by the authors' own Lean function (tested against real Go, not proved from fmt's source: count such statements apart). THE CARD IS WHAT COUNTS. Prove the row's statement (the work); the ties are given (YtlffjmnnoceakaaDoorTie.lean); close each card by the builder's one call (the guide's Derived/Test/ToyasCard.lean, 'card_holds'). Laid BY PROGRAM, IN A SANDBOX (cutbox-door.mjs). By AI agents, Wed Nov 11 2026. No macro, syntax, notation, axiom, sorry.
-/
import Derived.Test.YtlffjmnnoceakaaDoorRows
import GoSem.ClaimSeven
namespace Go.Proofs.YtlffjmnnoceakaaDoor
namespace Rows

/-- THE TIED CARD OF 'trellislaw.RecordBack'. -/
def recordBackCard : Claim7 := { stood := { row := recordBackRow, standIns := [], harness := (true, "74ff92a2d736dd5f9c9e60309d668ac5a0c81f759f0f55e4d644480940a63e66"), looks := true }, kinds := [], alts := [], laidByText := true, laidKinds := [.data, .data, .data, .data, .sentinel, .sentinel, .pinned], laidTests := true, laidLooks := .later }
def RecordBackCardSaid : Prop := Claim7.holds Tryd.pinned (.plain (OpenSpec.ofChange recordBackSpec)) recordBackCard

/-- THE TIED CARD OF 'trellislaw.RecordParse'. -/
def recordParseCard : Claim7 := { stood := { row := recordParseRow, standIns := [], harness := (true, "74ff92a2d736dd5f9c9e60309d668ac5a0c81f759f0f55e4d644480940a63e66"), looks := true }, kinds := [], alts := [], laidByText := true, laidKinds := [.data, .data, .data, .data, .sentinel, .sentinel, .pinned], laidTests := true, laidLooks := .later }
def RecordParseCardSaid : Prop := Claim7.holds Tryd.pinned (.plain (OpenSpec.ofChange recordParseSpec)) recordParseCard

/-- THE SECOND FORM's CARD OF 'trellislaw.RecordBack'. -/
def recordBackUptoCard : Claim7 := { stood := { row := recordBackUptoRow, standIns := [], harness := (true, "74ff92a2d736dd5f9c9e60309d668ac5a0c81f759f0f55e4d644480940a63e66"), looks := true }, kinds := [], alts := [], laidByText := true, laidKinds := [.data, .data, .data, .data, .sentinel, .sentinel, .pinned], laidTests := true, laidLooks := .later }
def RecordBackUptoCardSaid : Prop := Claim7.holds Tryd.pinned (.plain (OpenSpec.upto recordBackSpec)) recordBackUptoCard

/-- THE SECOND FORM's CARD OF 'trellislaw.RecordParse'. -/
def recordParseUptoCard : Claim7 := { stood := { row := recordParseUptoRow, standIns := [], harness := (true, "74ff92a2d736dd5f9c9e60309d668ac5a0c81f759f0f55e4d644480940a63e66"), looks := true }, kinds := [], alts := [], laidByText := true, laidKinds := [.data, .data, .data, .data, .sentinel, .sentinel, .pinned], laidTests := true, laidLooks := .later }
def RecordParseUptoCardSaid : Prop := Claim7.holds Tryd.pinned (.plain (OpenSpec.upto recordParseSpec)) recordParseUptoCard
end Rows
end Go.Proofs.YtlffjmnnoceakaaDoor
