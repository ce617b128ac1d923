/-
  DERIVED. GIVEN WITH THE SEED: THE CARDS: each row of YtimpfhokacfobaaDoorRows.lean that lists a variable, with what it lists TIED to the program's text (the seventh form; the later family's looks); each row that meets fmt, with fmt's text TOLD by the authors' own Lean function (tested against real Go, not proved from fmt's source: count such statements apart). THE CARD IS WHAT COUNTS. Prove the row's statement (the work); the ties are given (YtimpfhokacfobaaDoorTie.lean); close each card by the builder's one call (the guide's Derived/Test/ToyasCard.lean, 'card_holds'). Laid BY PROGRAM, IN A SANDBOX (cutbox-door.mjs). By AI agents, Wed Nov 11 2026. No macro, syntax, notation, axiom, sorry.
-/
import Derived.Test.YtimpfhokacfobaaDoorRows
import GoSem.ClaimSeven
namespace Go.Proofs.YtimpfhokacfobaaDoor
namespace Rows

/-- THE TIED CARD OF 'trellislaw.SplitBack'. -/
def splitBackCard : Claim7 := { stood := { row := splitBackRow, standIns := [], harness := (true, "1bb7a559de95c3320a84bc539bc9653266ce9bbb40cecbdea50375eb026bbf13"), looks := true }, kinds := [], alts := [], laidByText := true, laidKinds := [.data, .data, .data], laidTests := true, laidLooks := .later }
def SplitBackCardSaid : Prop := Claim7.holds Tryd.pinned (.plain (OpenSpec.ofChange splitBackSpec)) splitBackCard

/-- THE TIED CARD OF 'trellislaw.KeysRead'. -/
def keysReadCard : Claim7 := { stood := { row := keysReadRow, standIns := [], harness := (true, "1bb7a559de95c3320a84bc539bc9653266ce9bbb40cecbdea50375eb026bbf13"), looks := true }, kinds := [], alts := [], laidByText := true, laidKinds := [.data, .data, .data, .data, .sentinel, .sentinel, .pinned], laidTests := true, laidLooks := .later }
def KeysReadCardSaid : Prop := Claim7.holds Tryd.pinned (.plain (OpenSpec.ofChange keysReadSpec)) keysReadCard

/-- THE SECOND FORM's CARD OF 'trellislaw.SplitBack'. -/
def splitBackUptoCard : Claim7 := { stood := { row := splitBackUptoRow, standIns := [], harness := (true, "1bb7a559de95c3320a84bc539bc9653266ce9bbb40cecbdea50375eb026bbf13"), looks := true }, kinds := [], alts := [], laidByText := true, laidKinds := [.data, .data, .data], laidTests := true, laidLooks := .later }
def SplitBackUptoCardSaid : Prop := Claim7.holds Tryd.pinned (.plain (OpenSpec.upto splitBackSpec)) splitBackUptoCard

/-- THE SECOND FORM's CARD OF 'trellislaw.KeysRead'. -/
def keysReadUptoCard : Claim7 := { stood := { row := keysReadUptoRow, standIns := [], harness := (true, "1bb7a559de95c3320a84bc539bc9653266ce9bbb40cecbdea50375eb026bbf13"), looks := true }, kinds := [], alts := [], laidByText := true, laidKinds := [.data, .data, .data, .data, .sentinel, .sentinel, .pinned], laidTests := true, laidLooks := .later }
def KeysReadUptoCardSaid : Prop := Claim7.holds Tryd.pinned (.plain (OpenSpec.upto keysReadSpec)) keysReadUptoCard
end Rows
end Go.Proofs.YtimpfhokacfobaaDoor
