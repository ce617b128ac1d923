/-
  DERIVED. GIVEN WITH THE SEED: THE CARDS: each row of YtphoefglfbifdaaDoorRows.lean that lists a variable, with what it lists TIED to the program's text (the seventh form; the later family's looks); each row that meets fmt, with fmt's text TOLD by the authors' own Lean function (tested against real Go, not proved from fmt's source: count such statements apart). THE CARD IS WHAT COUNTS. Prove the row's statement (the work); the ties are given (YtphoefglfbifdaaDoorTie.lean); close each card by the builder's one call (the guide's Derived/Test/ToyasCard.lean, 'card_holds'). Laid BY PROGRAM, IN A SANDBOX (cutbox-door.mjs). By AI agents, Wed Nov 11 2026. No macro, syntax, notation, axiom, sorry.
-/
import Derived.Test.YtphoefglfbifdaaDoorRows
import GoSem.ClaimSeven
namespace Go.Proofs.YtphoefglfbifdaaDoor
namespace Rows

/-- THE TIED CARD OF 'trellislaw.PutText'. -/
def putTextCard : Claim7 := { stood := { row := putTextRow, standIns := [], harness := (true, "81ab956e72f0c3ab61f8d86abb787f23a9aacff26c60aaaa351952ab538f7ad2"), looks := false }, kinds := [], alts := [], laidByText := true, laidKinds := [.data, .pinned], laidTests := true, laidLooks := .later }
def PutTextCardSaid : Prop := Claim7.holds Tryd.pinned (.plain (OpenSpec.ofChange putTextSpec)) putTextCard

/-- THE TIED CARD OF 'trellislaw.PutAgain'. -/
def putAgainCard : Claim7 := { stood := { row := putAgainRow, standIns := [], harness := (true, "81ab956e72f0c3ab61f8d86abb787f23a9aacff26c60aaaa351952ab538f7ad2"), looks := false }, kinds := [], alts := [], laidByText := true, laidKinds := [.data, .pinned], laidTests := true, laidLooks := .later }
def PutAgainCardSaid : Prop := Claim7.holds Tryd.pinned (.plain (OpenSpec.ofChange putAgainSpec)) putAgainCard

/-- THE TIED CARD OF 'trellislaw.ShiftLines'. -/
def shiftLinesCard : Claim7 := { stood := { row := shiftLinesRow, standIns := [], harness := (true, "81ab956e72f0c3ab61f8d86abb787f23a9aacff26c60aaaa351952ab538f7ad2"), looks := false }, kinds := [], alts := [], laidByText := true, laidKinds := [.data, .pinned], laidTests := true, laidLooks := .later }
def ShiftLinesCardSaid : Prop := Claim7.holds Tryd.pinned (.plain (OpenSpec.ofChange shiftLinesSpec)) shiftLinesCard

/-- THE TIED CARD OF 'trellislaw.ShiftFeed'. -/
def shiftFeedCard : Claim7 := { stood := { row := shiftFeedRow, standIns := [], harness := (true, "81ab956e72f0c3ab61f8d86abb787f23a9aacff26c60aaaa351952ab538f7ad2"), looks := false }, kinds := [], alts := [], laidByText := true, laidKinds := [.data, .pinned], laidTests := true, laidLooks := .later }
def ShiftFeedCardSaid : Prop := Claim7.holds Tryd.pinned (.plain (OpenSpec.ofChange shiftFeedSpec)) shiftFeedCard

/-- THE SECOND FORM's CARD OF 'trellislaw.PutText'. -/
def putTextUptoCard : Claim7 := { stood := { row := putTextUptoRow, standIns := [], harness := (true, "81ab956e72f0c3ab61f8d86abb787f23a9aacff26c60aaaa351952ab538f7ad2"), looks := false }, kinds := [], alts := [], laidByText := true, laidKinds := [.data, .pinned], laidTests := true, laidLooks := .later }
def PutTextUptoCardSaid : Prop := Claim7.holds Tryd.pinned (.plain (OpenSpec.upto putTextSpec)) putTextUptoCard

/-- THE SECOND FORM's CARD OF 'trellislaw.PutAgain'. -/
def putAgainUptoCard : Claim7 := { stood := { row := putAgainUptoRow, standIns := [], harness := (true, "81ab956e72f0c3ab61f8d86abb787f23a9aacff26c60aaaa351952ab538f7ad2"), looks := false }, kinds := [], alts := [], laidByText := true, laidKinds := [.data, .pinned], laidTests := true, laidLooks := .later }
def PutAgainUptoCardSaid : Prop := Claim7.holds Tryd.pinned (.plain (OpenSpec.upto putAgainSpec)) putAgainUptoCard

/-- THE SECOND FORM's CARD OF 'trellislaw.ShiftLines'. -/
def shiftLinesUptoCard : Claim7 := { stood := { row := shiftLinesUptoRow, standIns := [], harness := (true, "81ab956e72f0c3ab61f8d86abb787f23a9aacff26c60aaaa351952ab538f7ad2"), looks := false }, kinds := [], alts := [], laidByText := true, laidKinds := [.data, .pinned], laidTests := true, laidLooks := .later }
def ShiftLinesUptoCardSaid : Prop := Claim7.holds Tryd.pinned (.plain (OpenSpec.upto shiftLinesSpec)) shiftLinesUptoCard

/-- THE SECOND FORM's CARD OF 'trellislaw.ShiftFeed'. -/
def shiftFeedUptoCard : Claim7 := { stood := { row := shiftFeedUptoRow, standIns := [], harness := (true, "81ab956e72f0c3ab61f8d86abb787f23a9aacff26c60aaaa351952ab538f7ad2"), looks := false }, kinds := [], alts := [], laidByText := true, laidKinds := [.data, .pinned], laidTests := true, laidLooks := .later }
def ShiftFeedUptoCardSaid : Prop := Claim7.holds Tryd.pinned (.plain (OpenSpec.upto shiftFeedSpec)) shiftFeedUptoCard
end Rows
end Go.Proofs.YtphoefglfbifdaaDoor
