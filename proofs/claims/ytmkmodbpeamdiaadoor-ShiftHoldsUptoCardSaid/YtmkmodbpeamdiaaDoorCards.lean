/-
  DERIVED. GIVEN WITH THE SEED: THE CARDS: each row of YtmkmodbpeamdiaaDoorRows.lean that lists a variable, with what it lists TIED to the program's text (the seventh form; the later family's looks); each row that meets fmt, with fmt's text TOLD by the authors' own Lean function (tested against real Go, not proved from fmt's source: count such statements apart). THE CARD IS WHAT COUNTS. Prove the row's statement (the work); the ties are given (YtmkmodbpeamdiaaDoorTie.lean); close each card by the builder's one call (the guide's Derived/Test/ToyasCard.lean, 'card_holds'). Laid BY PROGRAM, IN A SANDBOX (cutbox-door.mjs). By AI agents, Wed Nov 11 2026. No macro, syntax, notation, axiom, sorry.
-/
import Derived.Test.YtmkmodbpeamdiaaDoorRows
import GoSem.ClaimSeven
namespace Go.Proofs.YtmkmodbpeamdiaaDoor
namespace Rows

/-- THE TIED CARD OF 'trellislaw.ShiftHolds'. -/
def shiftHoldsCard : Claim7 := { stood := { row := shiftHoldsRow, standIns := [], harness := (true, "be16ca24aad0a2a6951aa73894c28fb720bf2413e431ce4846304176cccd3215"), looks := false }, kinds := [], alts := [], laidByText := true, laidKinds := [.data, .pinned], laidTests := true, laidLooks := .later }
def ShiftHoldsCardSaid : Prop := Claim7.holds Tryd.pinned (.plain (OpenSpec.ofChange shiftHoldsSpec)) shiftHoldsCard

/-- THE TIED CARD OF 'trellislaw.ShiftGone'. -/
def shiftGoneCard : Claim7 := { stood := { row := shiftGoneRow, standIns := [], harness := (true, "be16ca24aad0a2a6951aa73894c28fb720bf2413e431ce4846304176cccd3215"), looks := false }, kinds := [], alts := [], laidByText := true, laidKinds := [.data, .pinned], laidTests := true, laidLooks := .later }
def ShiftGoneCardSaid : Prop := Claim7.holds Tryd.pinned (.plain (OpenSpec.ofChange shiftGoneSpec)) shiftGoneCard

/-- THE TIED CARD OF 'trellislaw.MoveBack'. -/
def moveBackCard : Claim7 := { stood := { row := moveBackRow, standIns := [], harness := (true, "be16ca24aad0a2a6951aa73894c28fb720bf2413e431ce4846304176cccd3215"), looks := false }, kinds := [], alts := [], laidByText := true, laidKinds := [.data, .pinned], laidTests := true, laidLooks := .later }
def MoveBackCardSaid : Prop := Claim7.holds Tryd.pinned (.plain (OpenSpec.ofChange moveBackSpec)) moveBackCard

/-- THE TIED CARD OF 'trellislaw.WipeAll'. -/
def wipeAllCard : Claim7 := { stood := { row := wipeAllRow, standIns := [], harness := (true, "be16ca24aad0a2a6951aa73894c28fb720bf2413e431ce4846304176cccd3215"), looks := false }, kinds := [], alts := [], laidByText := true, laidKinds := [.data, .pinned], laidTests := true, laidLooks := .later }
def WipeAllCardSaid : Prop := Claim7.holds Tryd.pinned (.plain (OpenSpec.ofChange wipeAllSpec)) wipeAllCard

/-- THE TIED CARD OF 'trellislaw.PutRow'. -/
def putRowCard : Claim7 := { stood := { row := putRowRow, standIns := [], harness := (true, "be16ca24aad0a2a6951aa73894c28fb720bf2413e431ce4846304176cccd3215"), looks := false }, kinds := [], alts := [], laidByText := true, laidKinds := [.data, .pinned], laidTests := true, laidLooks := .later }
def PutRowCardSaid : Prop := Claim7.holds Tryd.pinned (.plain (OpenSpec.ofChange putRowSpec)) putRowCard

/-- THE TIED CARD OF 'trellislaw.ModeKeeps'. -/
def modeKeepsCard : Claim7 := { stood := { row := modeKeepsRow, standIns := [], harness := (true, "be16ca24aad0a2a6951aa73894c28fb720bf2413e431ce4846304176cccd3215"), looks := false }, kinds := [], alts := [], laidByText := true, laidKinds := [.data, .pinned], laidTests := true, laidLooks := .later }
def ModeKeepsCardSaid : Prop := Claim7.holds Tryd.pinned (.plain (OpenSpec.ofChange modeKeepsSpec)) modeKeepsCard

/-- THE TIED CARD OF 'trellislaw.PutStands'. -/
def putStandsCard : Claim7 := { stood := { row := putStandsRow, standIns := [], harness := (true, "be16ca24aad0a2a6951aa73894c28fb720bf2413e431ce4846304176cccd3215"), looks := false }, kinds := [], alts := [], laidByText := true, laidKinds := [.data, .pinned], laidTests := true, laidLooks := .later }
def PutStandsCardSaid : Prop := Claim7.holds Tryd.pinned (.plain (OpenSpec.ofChange putStandsSpec)) putStandsCard

/-- THE SECOND FORM's CARD OF 'trellislaw.ShiftHolds'. -/
def shiftHoldsUptoCard : Claim7 := { stood := { row := shiftHoldsUptoRow, standIns := [], harness := (true, "be16ca24aad0a2a6951aa73894c28fb720bf2413e431ce4846304176cccd3215"), looks := false }, kinds := [], alts := [], laidByText := true, laidKinds := [.data, .pinned], laidTests := true, laidLooks := .later }
def ShiftHoldsUptoCardSaid : Prop := Claim7.holds Tryd.pinned (.plain (OpenSpec.upto shiftHoldsSpec)) shiftHoldsUptoCard

/-- THE SECOND FORM's CARD OF 'trellislaw.ShiftGone'. -/
def shiftGoneUptoCard : Claim7 := { stood := { row := shiftGoneUptoRow, standIns := [], harness := (true, "be16ca24aad0a2a6951aa73894c28fb720bf2413e431ce4846304176cccd3215"), looks := false }, kinds := [], alts := [], laidByText := true, laidKinds := [.data, .pinned], laidTests := true, laidLooks := .later }
def ShiftGoneUptoCardSaid : Prop := Claim7.holds Tryd.pinned (.plain (OpenSpec.upto shiftGoneSpec)) shiftGoneUptoCard

/-- THE SECOND FORM's CARD OF 'trellislaw.MoveBack'. -/
def moveBackUptoCard : Claim7 := { stood := { row := moveBackUptoRow, standIns := [], harness := (true, "be16ca24aad0a2a6951aa73894c28fb720bf2413e431ce4846304176cccd3215"), looks := false }, kinds := [], alts := [], laidByText := true, laidKinds := [.data, .pinned], laidTests := true, laidLooks := .later }
def MoveBackUptoCardSaid : Prop := Claim7.holds Tryd.pinned (.plain (OpenSpec.upto moveBackSpec)) moveBackUptoCard

/-- THE SECOND FORM's CARD OF 'trellislaw.WipeAll'. -/
def wipeAllUptoCard : Claim7 := { stood := { row := wipeAllUptoRow, standIns := [], harness := (true, "be16ca24aad0a2a6951aa73894c28fb720bf2413e431ce4846304176cccd3215"), looks := false }, kinds := [], alts := [], laidByText := true, laidKinds := [.data, .pinned], laidTests := true, laidLooks := .later }
def WipeAllUptoCardSaid : Prop := Claim7.holds Tryd.pinned (.plain (OpenSpec.upto wipeAllSpec)) wipeAllUptoCard

/-- THE SECOND FORM's CARD OF 'trellislaw.PutRow'. -/
def putRowUptoCard : Claim7 := { stood := { row := putRowUptoRow, standIns := [], harness := (true, "be16ca24aad0a2a6951aa73894c28fb720bf2413e431ce4846304176cccd3215"), looks := false }, kinds := [], alts := [], laidByText := true, laidKinds := [.data, .pinned], laidTests := true, laidLooks := .later }
def PutRowUptoCardSaid : Prop := Claim7.holds Tryd.pinned (.plain (OpenSpec.upto putRowSpec)) putRowUptoCard

/-- THE SECOND FORM's CARD OF 'trellislaw.ModeKeeps'. -/
def modeKeepsUptoCard : Claim7 := { stood := { row := modeKeepsUptoRow, standIns := [], harness := (true, "be16ca24aad0a2a6951aa73894c28fb720bf2413e431ce4846304176cccd3215"), looks := false }, kinds := [], alts := [], laidByText := true, laidKinds := [.data, .pinned], laidTests := true, laidLooks := .later }
def ModeKeepsUptoCardSaid : Prop := Claim7.holds Tryd.pinned (.plain (OpenSpec.upto modeKeepsSpec)) modeKeepsUptoCard

/-- THE SECOND FORM's CARD OF 'trellislaw.PutStands'. -/
def putStandsUptoCard : Claim7 := { stood := { row := putStandsUptoRow, standIns := [], harness := (true, "be16ca24aad0a2a6951aa73894c28fb720bf2413e431ce4846304176cccd3215"), looks := false }, kinds := [], alts := [], laidByText := true, laidKinds := [.data, .pinned], laidTests := true, laidLooks := .later }
def PutStandsUptoCardSaid : Prop := Claim7.holds Tryd.pinned (.plain (OpenSpec.upto putStandsSpec)) putStandsUptoCard
end Rows
end Go.Proofs.YtmkmodbpeamdiaaDoor
