/-
  DERIVED. GIVEN WITH THE SEED: THE CARDS: each row of YtecafnhnkklboaaDoorRows.lean that lists a variable, with what it lists TIED to the program's text (the seventh form; the later family's looks); each row that meets fmt, with fmt's text TOLD by the authors' own Lean function (tested against real Go, not proved from fmt's source: count such statements apart). THE CARD IS WHAT COUNTS. Prove the row's statement (the work); the ties are given (YtecafnhnkklboaaDoorTie.lean); close each card by the builder's one call (the guide's Derived/Test/ToyasCard.lean, 'card_holds'). Laid BY PROGRAM, IN A SANDBOX (cutbox-door.mjs). By AI agents, Wed Nov 11 2026. No macro, syntax, notation, axiom, sorry.
-/
import Derived.Test.YtecafnhnkklboaaDoorRows
import GoSem.ClaimSeven
namespace Go.Proofs.YtecafnhnkklboaaDoor
namespace Rows

/-- THE TIED CARD OF 'trellislaw.BindRow'. -/
def bindRowCard : Claim7 := { stood := { row := bindRowRow, standIns := [], harness := (true, "5afe8689246fb0e6a9f89e503259f526758bec9c4e8773ccc038397bc9dc31e0"), looks := true }, kinds := [], alts := [], laidByText := true, laidKinds := [.data, .data, .data, .data, .sentinel, .sentinel, .pinned], laidTests := true, laidLooks := .later }
def BindRowCardSaid : Prop := Claim7.holds Tryd.pinned (.plain (OpenSpec.ofChange bindRowSpec)) bindRowCard

/-- THE TIED CARD OF 'trellislaw.BindWords'. -/
def bindWordsCard : Claim7 := { stood := { row := bindWordsRow, standIns := [], harness := (true, "5afe8689246fb0e6a9f89e503259f526758bec9c4e8773ccc038397bc9dc31e0"), looks := true }, kinds := [], alts := [], laidByText := true, laidKinds := [.data, .data, .data, .data, .sentinel, .sentinel, .pinned], laidTests := true, laidLooks := .later }
def BindWordsCardSaid : Prop := Claim7.holds Tryd.pinned (.plain (OpenSpec.ofChange bindWordsSpec)) bindWordsCard

/-- THE TIED CARD OF 'trellislaw.BindStruck'. -/
def bindStruckCard : Claim7 := { stood := { row := bindStruckRow, standIns := [], harness := (true, "5afe8689246fb0e6a9f89e503259f526758bec9c4e8773ccc038397bc9dc31e0"), looks := true }, kinds := [], alts := [], laidByText := true, laidKinds := [.data, .data, .data, .data, .sentinel, .sentinel, .pinned], laidTests := true, laidLooks := .later }
def BindStruckCardSaid : Prop := Claim7.holds Tryd.pinned (.plain (OpenSpec.ofChange bindStruckSpec)) bindStruckCard

/-- THE TIED CARD OF 'trellislaw.BindTable'. -/
def bindTableCard : Claim7 := { stood := { row := bindTableRow, standIns := [], harness := (true, "5afe8689246fb0e6a9f89e503259f526758bec9c4e8773ccc038397bc9dc31e0"), looks := true }, kinds := [], alts := [], laidByText := true, laidKinds := [.data, .data, .data, .data, .sentinel, .sentinel, .listed, .data, .pinned], laidTests := true, laidLooks := .later }
def BindTableCardSaid : Prop := Claim7.holds Tryd.pinned (.plain (OpenSpec.ofChange bindTableSpec)) bindTableCard

/-- THE SECOND FORM's CARD OF 'trellislaw.BindRow'. -/
def bindRowUptoCard : Claim7 := { stood := { row := bindRowUptoRow, standIns := [], harness := (true, "5afe8689246fb0e6a9f89e503259f526758bec9c4e8773ccc038397bc9dc31e0"), looks := true }, kinds := [], alts := [], laidByText := true, laidKinds := [.data, .data, .data, .data, .sentinel, .sentinel, .pinned], laidTests := true, laidLooks := .later }
def BindRowUptoCardSaid : Prop := Claim7.holds Tryd.pinned (.plain (OpenSpec.upto bindRowSpec)) bindRowUptoCard

/-- THE SECOND FORM's CARD OF 'trellislaw.BindWords'. -/
def bindWordsUptoCard : Claim7 := { stood := { row := bindWordsUptoRow, standIns := [], harness := (true, "5afe8689246fb0e6a9f89e503259f526758bec9c4e8773ccc038397bc9dc31e0"), looks := true }, kinds := [], alts := [], laidByText := true, laidKinds := [.data, .data, .data, .data, .sentinel, .sentinel, .pinned], laidTests := true, laidLooks := .later }
def BindWordsUptoCardSaid : Prop := Claim7.holds Tryd.pinned (.plain (OpenSpec.upto bindWordsSpec)) bindWordsUptoCard

/-- THE SECOND FORM's CARD OF 'trellislaw.BindStruck'. -/
def bindStruckUptoCard : Claim7 := { stood := { row := bindStruckUptoRow, standIns := [], harness := (true, "5afe8689246fb0e6a9f89e503259f526758bec9c4e8773ccc038397bc9dc31e0"), looks := true }, kinds := [], alts := [], laidByText := true, laidKinds := [.data, .data, .data, .data, .sentinel, .sentinel, .pinned], laidTests := true, laidLooks := .later }
def BindStruckUptoCardSaid : Prop := Claim7.holds Tryd.pinned (.plain (OpenSpec.upto bindStruckSpec)) bindStruckUptoCard

/-- THE SECOND FORM's CARD OF 'trellislaw.BindTable'. -/
def bindTableUptoCard : Claim7 := { stood := { row := bindTableUptoRow, standIns := [], harness := (true, "5afe8689246fb0e6a9f89e503259f526758bec9c4e8773ccc038397bc9dc31e0"), looks := true }, kinds := [], alts := [], laidByText := true, laidKinds := [.data, .data, .data, .data, .sentinel, .sentinel, .listed, .data, .pinned], laidTests := true, laidLooks := .later }
def BindTableUptoCardSaid : Prop := Claim7.holds Tryd.pinned (.plain (OpenSpec.upto bindTableSpec)) bindTableUptoCard
end Rows
end Go.Proofs.YtecafnhnkklboaaDoor
