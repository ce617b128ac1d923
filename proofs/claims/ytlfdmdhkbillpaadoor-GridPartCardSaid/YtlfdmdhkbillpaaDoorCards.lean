/-
  DERIVED. GIVEN WITH THE SEED: THE CARDS: each row of YtlfdmdhkbillpaaDoorRows.lean that lists a variable, with what it lists TIED to the program's text (the seventh form; the later family's looks); each row that meets fmt, with fmt's text TOLD by the authors' own Lean function (tested against real Go, not proved from fmt's source: count such statements apart). THE CARD IS WHAT COUNTS. Prove the row's statement (the work); the ties are given (YtlfdmdhkbillpaaDoorTie.lean); close each card by the builder's one call (the guide's Derived/Test/ToyasCard.lean, 'card_holds'). Laid BY PROGRAM, IN A SANDBOX (cutbox-door.mjs). By AI agents, Wed Nov 11 2026. No macro, syntax, notation, axiom, sorry.
-/
import Derived.Test.YtlfdmdhkbillpaaDoorRows
import GoSem.ClaimSeven
namespace Go.Proofs.YtlfdmdhkbillpaaDoor
namespace Rows

/-- THE TIED CARD OF 'trellislaw.TextClean'. -/
def textCleanCard : Claim7 := { stood := { row := textCleanRow, standIns := [], harness := (true, "20d3d1180459a56a7e6b28152a775e23d4312f6a271aa54b2cfb29e337c3923d"), looks := false }, kinds := [], alts := [], laidByText := true, laidKinds := [.data, .pinned], laidTests := true, laidLooks := .later }
def TextCleanCardSaid : Prop := Claim7.holds Tryd.pinned (.plain (OpenSpec.ofChange textCleanSpec)) textCleanCard

/-- THE TIED CARD OF 'trellislaw.TextColumns'. -/
def textColumnsCard : Claim7 := { stood := { row := textColumnsRow, standIns := [], harness := (true, "20d3d1180459a56a7e6b28152a775e23d4312f6a271aa54b2cfb29e337c3923d"), looks := false }, kinds := [], alts := [], laidByText := true, laidKinds := [.data, .pinned], laidTests := true, laidLooks := .later }
def TextColumnsCardSaid : Prop := Claim7.holds Tryd.pinned (.plain (OpenSpec.ofChange textColumnsSpec)) textColumnsCard

/-- THE TIED CARD OF 'trellislaw.StyleApply'. -/
def styleApplyCard : Claim7 := { stood := { row := styleApplyRow, standIns := [], harness := (true, "20d3d1180459a56a7e6b28152a775e23d4312f6a271aa54b2cfb29e337c3923d"), looks := false }, kinds := [], alts := [], laidByText := true, laidKinds := [.data, .data, .data], laidTests := true, laidLooks := .later }
def StyleApplyCardSaid : Prop := Claim7.holds Tryd.pinned (.plain (OpenSpec.ofChange styleApplySpec)) styleApplyCard

/-- THE TIED CARD OF 'trellislaw.GridFill'. -/
def gridFillCard : Claim7 := { stood := { row := gridFillRow, standIns := [], harness := (true, "20d3d1180459a56a7e6b28152a775e23d4312f6a271aa54b2cfb29e337c3923d"), looks := false }, kinds := [], alts := [], laidByText := true, laidKinds := [.data, .pinned], laidTests := true, laidLooks := .later }
def GridFillCardSaid : Prop := Claim7.holds Tryd.pinned (.plain (OpenSpec.ofChange gridFillSpec)) gridFillCard

/-- THE TIED CARD OF 'trellislaw.GridWrite'. -/
def gridWriteCard : Claim7 := { stood := { row := gridWriteRow, standIns := [], harness := (true, "20d3d1180459a56a7e6b28152a775e23d4312f6a271aa54b2cfb29e337c3923d"), looks := false }, kinds := [], alts := [], laidByText := true, laidKinds := [.data, .pinned], laidTests := true, laidLooks := .later }
def GridWriteCardSaid : Prop := Claim7.holds Tryd.pinned (.plain (OpenSpec.ofChange gridWriteSpec)) gridWriteCard

/-- THE TIED CARD OF 'trellislaw.GridLines'. -/
def gridLinesCard : Claim7 := { stood := { row := gridLinesRow, standIns := [], harness := (true, "20d3d1180459a56a7e6b28152a775e23d4312f6a271aa54b2cfb29e337c3923d"), looks := false }, kinds := [], alts := [], laidByText := true, laidKinds := [.data, .pinned], laidTests := true, laidLooks := .later }
def GridLinesCardSaid : Prop := Claim7.holds Tryd.pinned (.plain (OpenSpec.ofChange gridLinesSpec)) gridLinesCard

/-- THE TIED CARD OF 'trellislaw.GridLay'. -/
def gridLayCard : Claim7 := { stood := { row := gridLayRow, standIns := [], harness := (true, "20d3d1180459a56a7e6b28152a775e23d4312f6a271aa54b2cfb29e337c3923d"), looks := false }, kinds := [], alts := [], laidByText := true, laidKinds := [.data, .pinned], laidTests := true, laidLooks := .later }
def GridLayCardSaid : Prop := Claim7.holds Tryd.pinned (.plain (OpenSpec.ofChange gridLaySpec)) gridLayCard

/-- THE TIED CARD OF 'trellislaw.GridBack'. -/
def gridBackCard : Claim7 := { stood := { row := gridBackRow, standIns := [], harness := (true, "20d3d1180459a56a7e6b28152a775e23d4312f6a271aa54b2cfb29e337c3923d"), looks := false }, kinds := [], alts := [], laidByText := true, laidKinds := [.data, .pinned], laidTests := true, laidLooks := .later }
def GridBackCardSaid : Prop := Claim7.holds Tryd.pinned (.plain (OpenSpec.ofChange gridBackSpec)) gridBackCard

/-- THE TIED CARD OF 'trellislaw.GridRight'. -/
def gridRightCard : Claim7 := { stood := { row := gridRightRow, standIns := [], harness := (true, "20d3d1180459a56a7e6b28152a775e23d4312f6a271aa54b2cfb29e337c3923d"), looks := false }, kinds := [], alts := [], laidByText := true, laidKinds := [.data, .pinned], laidTests := true, laidLooks := .later }
def GridRightCardSaid : Prop := Claim7.holds Tryd.pinned (.plain (OpenSpec.ofChange gridRightSpec)) gridRightCard

/-- THE TIED CARD OF 'trellislaw.GridCheck'. -/
def gridCheckCard : Claim7 := { stood := { row := gridCheckRow, standIns := [], harness := (true, "20d3d1180459a56a7e6b28152a775e23d4312f6a271aa54b2cfb29e337c3923d"), looks := false }, kinds := [], alts := [], laidByText := true, laidKinds := [.data, .pinned], laidTests := true, laidLooks := .later }
def GridCheckCardSaid : Prop := Claim7.holds Tryd.pinned (.plain (OpenSpec.ofChange gridCheckSpec)) gridCheckCard

/-- THE TIED CARD OF 'trellislaw.GridPart'. -/
def gridPartCard : Claim7 := { stood := { row := gridPartRow, standIns := [], harness := (true, "20d3d1180459a56a7e6b28152a775e23d4312f6a271aa54b2cfb29e337c3923d"), looks := false }, kinds := [], alts := [], laidByText := true, laidKinds := [.data, .pinned], laidTests := true, laidLooks := .later }
def GridPartCardSaid : Prop := Claim7.holds Tryd.pinned (.plain (OpenSpec.ofChange gridPartSpec)) gridPartCard

/-- THE SECOND FORM's CARD OF 'trellislaw.TextClean'. -/
def textCleanUptoCard : Claim7 := { stood := { row := textCleanUptoRow, standIns := [], harness := (true, "20d3d1180459a56a7e6b28152a775e23d4312f6a271aa54b2cfb29e337c3923d"), looks := false }, kinds := [], alts := [], laidByText := true, laidKinds := [.data, .pinned], laidTests := true, laidLooks := .later }
def TextCleanUptoCardSaid : Prop := Claim7.holds Tryd.pinned (.plain (OpenSpec.upto textCleanSpec)) textCleanUptoCard

/-- THE SECOND FORM's CARD OF 'trellislaw.TextColumns'. -/
def textColumnsUptoCard : Claim7 := { stood := { row := textColumnsUptoRow, standIns := [], harness := (true, "20d3d1180459a56a7e6b28152a775e23d4312f6a271aa54b2cfb29e337c3923d"), looks := false }, kinds := [], alts := [], laidByText := true, laidKinds := [.data, .pinned], laidTests := true, laidLooks := .later }
def TextColumnsUptoCardSaid : Prop := Claim7.holds Tryd.pinned (.plain (OpenSpec.upto textColumnsSpec)) textColumnsUptoCard

/-- THE SECOND FORM's CARD OF 'trellislaw.StyleApply'. -/
def styleApplyUptoCard : Claim7 := { stood := { row := styleApplyUptoRow, standIns := [], harness := (true, "20d3d1180459a56a7e6b28152a775e23d4312f6a271aa54b2cfb29e337c3923d"), looks := false }, kinds := [], alts := [], laidByText := true, laidKinds := [.data, .data, .data], laidTests := true, laidLooks := .later }
def StyleApplyUptoCardSaid : Prop := Claim7.holds Tryd.pinned (.plain (OpenSpec.upto styleApplySpec)) styleApplyUptoCard

/-- THE SECOND FORM's CARD OF 'trellislaw.GridFill'. -/
def gridFillUptoCard : Claim7 := { stood := { row := gridFillUptoRow, standIns := [], harness := (true, "20d3d1180459a56a7e6b28152a775e23d4312f6a271aa54b2cfb29e337c3923d"), looks := false }, kinds := [], alts := [], laidByText := true, laidKinds := [.data, .pinned], laidTests := true, laidLooks := .later }
def GridFillUptoCardSaid : Prop := Claim7.holds Tryd.pinned (.plain (OpenSpec.upto gridFillSpec)) gridFillUptoCard

/-- THE SECOND FORM's CARD OF 'trellislaw.GridWrite'. -/
def gridWriteUptoCard : Claim7 := { stood := { row := gridWriteUptoRow, standIns := [], harness := (true, "20d3d1180459a56a7e6b28152a775e23d4312f6a271aa54b2cfb29e337c3923d"), looks := false }, kinds := [], alts := [], laidByText := true, laidKinds := [.data, .pinned], laidTests := true, laidLooks := .later }
def GridWriteUptoCardSaid : Prop := Claim7.holds Tryd.pinned (.plain (OpenSpec.upto gridWriteSpec)) gridWriteUptoCard

/-- THE SECOND FORM's CARD OF 'trellislaw.GridLines'. -/
def gridLinesUptoCard : Claim7 := { stood := { row := gridLinesUptoRow, standIns := [], harness := (true, "20d3d1180459a56a7e6b28152a775e23d4312f6a271aa54b2cfb29e337c3923d"), looks := false }, kinds := [], alts := [], laidByText := true, laidKinds := [.data, .pinned], laidTests := true, laidLooks := .later }
def GridLinesUptoCardSaid : Prop := Claim7.holds Tryd.pinned (.plain (OpenSpec.upto gridLinesSpec)) gridLinesUptoCard

/-- THE SECOND FORM's CARD OF 'trellislaw.GridLay'. -/
def gridLayUptoCard : Claim7 := { stood := { row := gridLayUptoRow, standIns := [], harness := (true, "20d3d1180459a56a7e6b28152a775e23d4312f6a271aa54b2cfb29e337c3923d"), looks := false }, kinds := [], alts := [], laidByText := true, laidKinds := [.data, .pinned], laidTests := true, laidLooks := .later }
def GridLayUptoCardSaid : Prop := Claim7.holds Tryd.pinned (.plain (OpenSpec.upto gridLaySpec)) gridLayUptoCard

/-- THE SECOND FORM's CARD OF 'trellislaw.GridBack'. -/
def gridBackUptoCard : Claim7 := { stood := { row := gridBackUptoRow, standIns := [], harness := (true, "20d3d1180459a56a7e6b28152a775e23d4312f6a271aa54b2cfb29e337c3923d"), looks := false }, kinds := [], alts := [], laidByText := true, laidKinds := [.data, .pinned], laidTests := true, laidLooks := .later }
def GridBackUptoCardSaid : Prop := Claim7.holds Tryd.pinned (.plain (OpenSpec.upto gridBackSpec)) gridBackUptoCard

/-- THE SECOND FORM's CARD OF 'trellislaw.GridRight'. -/
def gridRightUptoCard : Claim7 := { stood := { row := gridRightUptoRow, standIns := [], harness := (true, "20d3d1180459a56a7e6b28152a775e23d4312f6a271aa54b2cfb29e337c3923d"), looks := false }, kinds := [], alts := [], laidByText := true, laidKinds := [.data, .pinned], laidTests := true, laidLooks := .later }
def GridRightUptoCardSaid : Prop := Claim7.holds Tryd.pinned (.plain (OpenSpec.upto gridRightSpec)) gridRightUptoCard

/-- THE SECOND FORM's CARD OF 'trellislaw.GridCheck'. -/
def gridCheckUptoCard : Claim7 := { stood := { row := gridCheckUptoRow, standIns := [], harness := (true, "20d3d1180459a56a7e6b28152a775e23d4312f6a271aa54b2cfb29e337c3923d"), looks := false }, kinds := [], alts := [], laidByText := true, laidKinds := [.data, .pinned], laidTests := true, laidLooks := .later }
def GridCheckUptoCardSaid : Prop := Claim7.holds Tryd.pinned (.plain (OpenSpec.upto gridCheckSpec)) gridCheckUptoCard

/-- THE SECOND FORM's CARD OF 'trellislaw.GridPart'. -/
def gridPartUptoCard : Claim7 := { stood := { row := gridPartUptoRow, standIns := [], harness := (true, "20d3d1180459a56a7e6b28152a775e23d4312f6a271aa54b2cfb29e337c3923d"), looks := false }, kinds := [], alts := [], laidByText := true, laidKinds := [.data, .pinned], laidTests := true, laidLooks := .later }
def GridPartUptoCardSaid : Prop := Claim7.holds Tryd.pinned (.plain (OpenSpec.upto gridPartSpec)) gridPartUptoCard
end Rows
end Go.Proofs.YtlfdmdhkbillpaaDoor
