/-
  DERIVED. GIVEN WITH THE SEED: THE CARDS: each row of YtdepccblnhkmkaaDoorRows.lean that lists a variable, with what it lists TIED to the program's text (the seventh form; the later family's looks); each row that meets fmt, with fmt's text TOLD by the authors' own Lean function (tested against real Go, not proved from fmt's source: count such statements apart). THE CARD IS WHAT COUNTS. Prove the row's statement (the work); the ties are given (YtdepccblnhkmkaaDoorTie.lean); close each card by the builder's one call (the guide's Derived/Test/ToyasCard.lean, 'card_holds'). Laid BY PROGRAM, IN A SANDBOX (cutbox-door.mjs). By AI agents, Wed Nov 11 2026. No macro, syntax, notation, axiom, sorry.
-/
import Derived.Test.YtdepccblnhkmkaaDoorRows
import GoSem.ClaimSeven
namespace Go.Proofs.YtdepccblnhkmkaaDoor
namespace Rows

/-- THE TIED CARD OF 'trellislaw.CopyTake'. -/
def copyTakeCard : Claim7 := { stood := { row := copyTakeRow, standIns := [], harness := (true, "f4ee07ab1523737c31bc06589389407882987b6cd674699608f582471618ae67"), looks := false }, kinds := [], alts := [], laidByText := true, laidKinds := [.data, .pinned], laidTests := true, laidLooks := .later }
def CopyTakeCardSaid : Prop := Claim7.holds Tryd.pinned (.plain (OpenSpec.ofChange copyTakeSpec)) copyTakeCard

/-- THE TIED CARD OF 'trellislaw.CopySeek'. -/
def copySeekCard : Claim7 := { stood := { row := copySeekRow, standIns := [], harness := (true, "f4ee07ab1523737c31bc06589389407882987b6cd674699608f582471618ae67"), looks := false }, kinds := [], alts := [], laidByText := true, laidKinds := [.data, .pinned], laidTests := true, laidLooks := .later }
def CopySeekCardSaid : Prop := Claim7.holds Tryd.pinned (.plain (OpenSpec.ofChange copySeekSpec)) copySeekCard

/-- THE TIED CARD OF 'trellislaw.CopyFinds'. -/
def copyFindsCard : Claim7 := { stood := { row := copyFindsRow, standIns := [], harness := (true, "f4ee07ab1523737c31bc06589389407882987b6cd674699608f582471618ae67"), looks := false }, kinds := [], alts := [], laidByText := true, laidKinds := [.data, .pinned], laidTests := true, laidLooks := .later }
def CopyFindsCardSaid : Prop := Claim7.holds Tryd.pinned (.plain (OpenSpec.ofChange copyFindsSpec)) copyFindsCard

/-- THE TIED CARD OF 'trellislaw.CopyMove'. -/
def copyMoveCard : Claim7 := { stood := { row := copyMoveRow, standIns := [], harness := (true, "f4ee07ab1523737c31bc06589389407882987b6cd674699608f582471618ae67"), looks := false }, kinds := [], alts := [], laidByText := true, laidKinds := [.data, .pinned], laidTests := true, laidLooks := .later }
def CopyMoveCardSaid : Prop := Claim7.holds Tryd.pinned (.plain (OpenSpec.ofChange copyMoveSpec)) copyMoveCard

/-- THE TIED CARD OF 'trellislaw.CopyKeep'. -/
def copyKeepCard : Claim7 := { stood := { row := copyKeepRow, standIns := [], harness := (true, "f4ee07ab1523737c31bc06589389407882987b6cd674699608f582471618ae67"), looks := false }, kinds := [], alts := [], laidByText := true, laidKinds := [.data, .pinned], laidTests := true, laidLooks := .later }
def CopyKeepCardSaid : Prop := Claim7.holds Tryd.pinned (.plain (OpenSpec.ofChange copyKeepSpec)) copyKeepCard

/-- THE SECOND FORM's CARD OF 'trellislaw.CopyTake'. -/
def copyTakeUptoCard : Claim7 := { stood := { row := copyTakeUptoRow, standIns := [], harness := (true, "f4ee07ab1523737c31bc06589389407882987b6cd674699608f582471618ae67"), looks := false }, kinds := [], alts := [], laidByText := true, laidKinds := [.data, .pinned], laidTests := true, laidLooks := .later }
def CopyTakeUptoCardSaid : Prop := Claim7.holds Tryd.pinned (.plain (OpenSpec.upto copyTakeSpec)) copyTakeUptoCard

/-- THE SECOND FORM's CARD OF 'trellislaw.CopySeek'. -/
def copySeekUptoCard : Claim7 := { stood := { row := copySeekUptoRow, standIns := [], harness := (true, "f4ee07ab1523737c31bc06589389407882987b6cd674699608f582471618ae67"), looks := false }, kinds := [], alts := [], laidByText := true, laidKinds := [.data, .pinned], laidTests := true, laidLooks := .later }
def CopySeekUptoCardSaid : Prop := Claim7.holds Tryd.pinned (.plain (OpenSpec.upto copySeekSpec)) copySeekUptoCard

/-- THE SECOND FORM's CARD OF 'trellislaw.CopyFinds'. -/
def copyFindsUptoCard : Claim7 := { stood := { row := copyFindsUptoRow, standIns := [], harness := (true, "f4ee07ab1523737c31bc06589389407882987b6cd674699608f582471618ae67"), looks := false }, kinds := [], alts := [], laidByText := true, laidKinds := [.data, .pinned], laidTests := true, laidLooks := .later }
def CopyFindsUptoCardSaid : Prop := Claim7.holds Tryd.pinned (.plain (OpenSpec.upto copyFindsSpec)) copyFindsUptoCard

/-- THE SECOND FORM's CARD OF 'trellislaw.CopyMove'. -/
def copyMoveUptoCard : Claim7 := { stood := { row := copyMoveUptoRow, standIns := [], harness := (true, "f4ee07ab1523737c31bc06589389407882987b6cd674699608f582471618ae67"), looks := false }, kinds := [], alts := [], laidByText := true, laidKinds := [.data, .pinned], laidTests := true, laidLooks := .later }
def CopyMoveUptoCardSaid : Prop := Claim7.holds Tryd.pinned (.plain (OpenSpec.upto copyMoveSpec)) copyMoveUptoCard

/-- THE SECOND FORM's CARD OF 'trellislaw.CopyKeep'. -/
def copyKeepUptoCard : Claim7 := { stood := { row := copyKeepUptoRow, standIns := [], harness := (true, "f4ee07ab1523737c31bc06589389407882987b6cd674699608f582471618ae67"), looks := false }, kinds := [], alts := [], laidByText := true, laidKinds := [.data, .pinned], laidTests := true, laidLooks := .later }
def CopyKeepUptoCardSaid : Prop := Claim7.holds Tryd.pinned (.plain (OpenSpec.upto copyKeepSpec)) copyKeepUptoCard
end Rows
end Go.Proofs.YtdepccblnhkmkaaDoor
