/-
  DERIVED. GIVEN WITH THE SEED: THE CARDS: each row of YtdepccblnhkmkabDoorRows.lean that lists a variable, with what it lists TIED to the program's text (the seventh form; the later family's looks); each row that meets fmt, with fmt's text TOLD by the authors' own Lean function (tested against real Go, not proved from fmt's source: count such statements apart). THE CARD IS WHAT COUNTS. Prove the row's statement (the work); the ties are given (YtdepccblnhkmkabDoorTie.lean); close each card by the builder's one call (the guide's Derived/Test/ToyasCard.lean, 'card_holds'). Laid BY PROGRAM, IN A SANDBOX (cutbox-door.mjs). By AI agents, Wed Nov 11 2026. No macro, syntax, notation, axiom, sorry.
-/
import Derived.Test.YtdepccblnhkmkabDoorRows
import GoSem.ClaimSeven
namespace Go.Proofs.YtdepccblnhkmkabDoor
namespace Rows

/-- THE TIED CARD OF 'trellislaw.PutCheck'. -/
def putCheckCard : Claim7 := { stood := { row := putCheckRow, standIns := [], harness := (true, "d1e2ee7dc23b091fe75ddab69aec75cb0c45a7a8310e10dd20accd7d6892e6a3"), looks := false }, kinds := [], alts := [], laidByText := true, laidKinds := [.data, .pinned], laidTests := true, laidLooks := .later }
def PutCheckCardSaid : Prop := Claim7.holds Tryd.pinned (.plain (OpenSpec.ofChange putCheckSpec)) putCheckCard

/-- THE TIED CARD OF 'trellislaw.MoveBack'. -/
def moveBackCard : Claim7 := { stood := { row := moveBackRow, standIns := [], harness := (true, "d1e2ee7dc23b091fe75ddab69aec75cb0c45a7a8310e10dd20accd7d6892e6a3"), looks := false }, kinds := [], alts := [], laidByText := true, laidKinds := [.data, .pinned], laidTests := true, laidLooks := .later }
def MoveBackCardSaid : Prop := Claim7.holds Tryd.pinned (.plain (OpenSpec.ofChange moveBackSpec)) moveBackCard

/-- THE TIED CARD OF 'trellislaw.WipeAll'. -/
def wipeAllCard : Claim7 := { stood := { row := wipeAllRow, standIns := [], harness := (true, "d1e2ee7dc23b091fe75ddab69aec75cb0c45a7a8310e10dd20accd7d6892e6a3"), looks := false }, kinds := [], alts := [], laidByText := true, laidKinds := [.data, .pinned], laidTests := true, laidLooks := .later }
def WipeAllCardSaid : Prop := Claim7.holds Tryd.pinned (.plain (OpenSpec.ofChange wipeAllSpec)) wipeAllCard

/-- THE TIED CARD OF 'trellislaw.ShiftHolds'. -/
def shiftHoldsCard : Claim7 := { stood := { row := shiftHoldsRow, standIns := [], harness := (true, "d1e2ee7dc23b091fe75ddab69aec75cb0c45a7a8310e10dd20accd7d6892e6a3"), looks := false }, kinds := [], alts := [], laidByText := true, laidKinds := [.data, .pinned], laidTests := true, laidLooks := .later }
def ShiftHoldsCardSaid : Prop := Claim7.holds Tryd.pinned (.plain (OpenSpec.ofChange shiftHoldsSpec)) shiftHoldsCard

/-- THE TIED CARD OF 'trellislaw.ShiftGone'. -/
def shiftGoneCard : Claim7 := { stood := { row := shiftGoneRow, standIns := [], harness := (true, "d1e2ee7dc23b091fe75ddab69aec75cb0c45a7a8310e10dd20accd7d6892e6a3"), looks := false }, kinds := [], alts := [], laidByText := true, laidKinds := [.data, .pinned], laidTests := true, laidLooks := .later }
def ShiftGoneCardSaid : Prop := Claim7.holds Tryd.pinned (.plain (OpenSpec.ofChange shiftGoneSpec)) shiftGoneCard

/-- THE SECOND FORM's CARD OF 'trellislaw.PutCheck'. -/
def putCheckUptoCard : Claim7 := { stood := { row := putCheckUptoRow, standIns := [], harness := (true, "d1e2ee7dc23b091fe75ddab69aec75cb0c45a7a8310e10dd20accd7d6892e6a3"), looks := false }, kinds := [], alts := [], laidByText := true, laidKinds := [.data, .pinned], laidTests := true, laidLooks := .later }
def PutCheckUptoCardSaid : Prop := Claim7.holds Tryd.pinned (.plain (OpenSpec.upto putCheckSpec)) putCheckUptoCard

/-- THE SECOND FORM's CARD OF 'trellislaw.MoveBack'. -/
def moveBackUptoCard : Claim7 := { stood := { row := moveBackUptoRow, standIns := [], harness := (true, "d1e2ee7dc23b091fe75ddab69aec75cb0c45a7a8310e10dd20accd7d6892e6a3"), looks := false }, kinds := [], alts := [], laidByText := true, laidKinds := [.data, .pinned], laidTests := true, laidLooks := .later }
def MoveBackUptoCardSaid : Prop := Claim7.holds Tryd.pinned (.plain (OpenSpec.upto moveBackSpec)) moveBackUptoCard

/-- THE SECOND FORM's CARD OF 'trellislaw.WipeAll'. -/
def wipeAllUptoCard : Claim7 := { stood := { row := wipeAllUptoRow, standIns := [], harness := (true, "d1e2ee7dc23b091fe75ddab69aec75cb0c45a7a8310e10dd20accd7d6892e6a3"), looks := false }, kinds := [], alts := [], laidByText := true, laidKinds := [.data, .pinned], laidTests := true, laidLooks := .later }
def WipeAllUptoCardSaid : Prop := Claim7.holds Tryd.pinned (.plain (OpenSpec.upto wipeAllSpec)) wipeAllUptoCard

/-- THE SECOND FORM's CARD OF 'trellislaw.ShiftHolds'. -/
def shiftHoldsUptoCard : Claim7 := { stood := { row := shiftHoldsUptoRow, standIns := [], harness := (true, "d1e2ee7dc23b091fe75ddab69aec75cb0c45a7a8310e10dd20accd7d6892e6a3"), looks := false }, kinds := [], alts := [], laidByText := true, laidKinds := [.data, .pinned], laidTests := true, laidLooks := .later }
def ShiftHoldsUptoCardSaid : Prop := Claim7.holds Tryd.pinned (.plain (OpenSpec.upto shiftHoldsSpec)) shiftHoldsUptoCard

/-- THE SECOND FORM's CARD OF 'trellislaw.ShiftGone'. -/
def shiftGoneUptoCard : Claim7 := { stood := { row := shiftGoneUptoRow, standIns := [], harness := (true, "d1e2ee7dc23b091fe75ddab69aec75cb0c45a7a8310e10dd20accd7d6892e6a3"), looks := false }, kinds := [], alts := [], laidByText := true, laidKinds := [.data, .pinned], laidTests := true, laidLooks := .later }
def ShiftGoneUptoCardSaid : Prop := Claim7.holds Tryd.pinned (.plain (OpenSpec.upto shiftGoneSpec)) shiftGoneUptoCard
end Rows
end Go.Proofs.YtdepccblnhkmkabDoor
