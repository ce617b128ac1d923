/-
  NARROWER THAN 'FOR EVERY INPUT', by the rows' own cells (each row's printed sentence says how): MoveRows: laid · MoveTo: laid · ShiftGone: laid · ModeKeeps: laid · PutRow: laid · MoveTabs: laid · ShiftRegion: laid · ModeSet: laid · WipeLine: laid · ShiftCells: laid · ModeLook: laid · PutStands: laid.
  DERIVED. THE GIVEN ROWS OF THIS SEAT. 12 by the template 'for every input the law returns true; each argument reads behind the call as it read before'; 0 by the template 'total and deterministic' (their statements: YtgpkedepboenpaaDoorTotals.lean).
  GIVEN WITH THE SEED: the statements are not yours to turn. If you find one false, say at which input.
  Laid BY PROGRAM, IN A SANDBOX (cutbox-rows.mjs): the forced cells as the released guide's own fill.sh prints them over the translation a1daeaf25e3cd91a… (all of the seat's roots in one cut). By AI agents, Wed Nov 11 2026. No macro, syntax, notation, axiom, sorry.
-/
import Derived.Test.YtgpkedepboenpaaDoorChecked
import GoSem.PinnedTables
import GoSem.Claim
import GoSem.ClaimJoined
import GoSem.ClaimMapViews
import Derived.JoinedTies
import Derived.KernelRfl
namespace Go.Proofs.YtgpkedepboenpaaDoor
/- THE CELL 'sum', in the pinned program and in every row, IS THE sha256 OF THE DUMP (.gsa) THAT YtgpkedepboenpaaDoorProg.lean LOADS. Nothing in Lean hashes anything: it is a label: what it is worth is what the hold of that sum in a sandbox is worth. -/
noncomputable def Tryd.pinned : Pinned := { name := "ytgpkedepboenpaadoor", sum := "a1daeaf25e3cd91a0d23d7a2399f2f378bd408e90f9e8849e0594a5aaff4c9c0", checked := Tryd.checked }
namespace Rows
def none {H : Type} : Left H := { results := [], args := [] }

/- WHAT THE LISTED PACKAGE-LEVEL VARIABLES READ AS WHEN THE CALL BEGINS. Each datum BY PROGRAM (the guide's laid-datum.mjs) off the statement by which the dump's own 'gosem.cut.vars' lays the variable. In a bare row this is a premise. The card (YtgpkedepboenpaaDoorCards.lean) ties it to the program's text. -/
def laid_unicode_utf8_acceptRanges {H : Type} : DataW H := .agg [.agg [.lit (.int .u8 128), .lit (.int .u8 191)], .agg [.lit (.int .u8 160), .lit (.int .u8 191)], .agg [.lit (.int .u8 128), .lit (.int .u8 159)], .agg [.lit (.int .u8 144), .lit (.int .u8 191)], .agg [.lit (.int .u8 128), .lit (.int .u8 143)], .agg [.lit (.int .u8 0), .lit (.int .u8 0)], .agg [.lit (.int .u8 0), .lit (.int .u8 0)], .agg [.lit (.int .u8 0), .lit (.int .u8 0)], .agg [.lit (.int .u8 0), .lit (.int .u8 0)], .agg [.lit (.int .u8 0), .lit (.int .u8 0)], .agg [.lit (.int .u8 0), .lit (.int .u8 0)], .agg [.lit (.int .u8 0), .lit (.int .u8 0)], .agg [.lit (.int .u8 0), .lit (.int .u8 0)], .agg [.lit (.int .u8 0), .lit (.int .u8 0)], .agg [.lit (.int .u8 0), .lit (.int .u8 0)], .agg [.lit (.int .u8 0), .lit (.int .u8 0)]]
/-- One of Go's own tables, pinned by name: the form's constant. -/
def laid_unicode_utf8_first : DataW Unit := Go.Pinned.utf8First

/-- 'trellislaw.MoveRows': WHATEVER THE INPUT: true; the input reads as it did. -/
def moveRowsSpec : ChangeSpec := { name := "moveRows", fn := fun _ => fun
  | [d1, d2] => { results := [.lit (.bool true)], args := [d1, d2] }
  | _ => none }
def moveRowsRow : OpenClaim := { program := "ytgpkedepboenpaadoor", sum := "a1daeaf25e3cd91a0d23d7a2399f2f378bd408e90f9e8849e0594a5aaff4c9c0", func := "trellis/trellislaw.MoveRows", spec := "moveRows", inPlace := ["slices.overlaps[[]trellis/api.Cell]", "internal/abi.NoEscape"], unfollowed := true, recurses := true, named := ["unicode/utf8.first", "unicode/utf8.acceptRanges"], apart := false, laid := [("unicode/utf8.acceptRanges", laid_unicode_utf8_acceptRanges), ("unicode/utf8.first", laid_unicode_utf8_first)] }
def MoveRowsSaid : Prop := moveRowsRow.holds Tryd.pinned (OpenSpec.ofChange moveRowsSpec)

/-- ITS FALSE NEIGHBOUR: 'it returns false'. Refute it at one input. -/
def moveRowsWrong : ChangeSpec := { name := "moveRows", fn := fun _ => fun
  | [d1, d2] => { results := [.lit (.bool false)], args := [d1, d2] }
  | _ => none }
def MoveRowsWrongFalsely : Prop := moveRowsRow.holds Tryd.pinned (OpenSpec.ofChange moveRowsWrong)

/-- 'trellislaw.MoveTo': WHATEVER THE INPUT: true; the input reads as it did. -/
def moveToSpec : ChangeSpec := { name := "moveTo", fn := fun _ => fun
  | [d1, d2, d3] => { results := [.lit (.bool true)], args := [d1, d2, d3] }
  | _ => none }
def moveToRow : OpenClaim := { program := "ytgpkedepboenpaadoor", sum := "a1daeaf25e3cd91a0d23d7a2399f2f378bd408e90f9e8849e0594a5aaff4c9c0", func := "trellis/trellislaw.MoveTo", spec := "moveTo", inPlace := ["internal/abi.NoEscape", "slices.overlaps[[]trellis/api.Cell]"], unfollowed := true, recurses := true, named := ["unicode/utf8.first", "unicode/utf8.acceptRanges"], apart := false, laid := [("unicode/utf8.acceptRanges", laid_unicode_utf8_acceptRanges), ("unicode/utf8.first", laid_unicode_utf8_first)] }
def MoveToSaid : Prop := moveToRow.holds Tryd.pinned (OpenSpec.ofChange moveToSpec)

/-- ITS FALSE NEIGHBOUR: 'it returns false'. Refute it at one input. -/
def moveToWrong : ChangeSpec := { name := "moveTo", fn := fun _ => fun
  | [d1, d2, d3] => { results := [.lit (.bool false)], args := [d1, d2, d3] }
  | _ => none }
def MoveToWrongFalsely : Prop := moveToRow.holds Tryd.pinned (OpenSpec.ofChange moveToWrong)

/-- 'trellislaw.ShiftGone': WHATEVER THE INPUT: true; the input reads as it did. -/
def shiftGoneSpec : ChangeSpec := { name := "shiftGone", fn := fun _ => fun
  | [d1, d2] => { results := [.lit (.bool true)], args := [d1, d2] }
  | _ => none }
def shiftGoneRow : OpenClaim := { program := "ytgpkedepboenpaadoor", sum := "a1daeaf25e3cd91a0d23d7a2399f2f378bd408e90f9e8849e0594a5aaff4c9c0", func := "trellis/trellislaw.ShiftGone", spec := "shiftGone", inPlace := ["internal/abi.NoEscape"], unfollowed := true, recurses := true, named := ["unicode/utf8.first", "unicode/utf8.acceptRanges"], apart := false, laid := [("unicode/utf8.acceptRanges", laid_unicode_utf8_acceptRanges), ("unicode/utf8.first", laid_unicode_utf8_first)] }
def ShiftGoneSaid : Prop := shiftGoneRow.holds Tryd.pinned (OpenSpec.ofChange shiftGoneSpec)

/-- ITS FALSE NEIGHBOUR: 'it returns false'. Refute it at one input. -/
def shiftGoneWrong : ChangeSpec := { name := "shiftGone", fn := fun _ => fun
  | [d1, d2] => { results := [.lit (.bool false)], args := [d1, d2] }
  | _ => none }
def ShiftGoneWrongFalsely : Prop := shiftGoneRow.holds Tryd.pinned (OpenSpec.ofChange shiftGoneWrong)

/-- 'trellislaw.ModeKeeps': WHATEVER THE INPUT: true; the input reads as it did. -/
def modeKeepsSpec : ChangeSpec := { name := "modeKeeps", fn := fun _ => fun
  | [d1, d2, d3, d4, d5] => { results := [.lit (.bool true)], args := [d1, d2, d3, d4, d5] }
  | _ => none }
def modeKeepsRow : OpenClaim := { program := "ytgpkedepboenpaadoor", sum := "a1daeaf25e3cd91a0d23d7a2399f2f378bd408e90f9e8849e0594a5aaff4c9c0", func := "trellis/trellislaw.ModeKeeps", spec := "modeKeeps", inPlace := ["internal/abi.NoEscape"], unfollowed := true, recurses := true, named := ["unicode/utf8.first", "unicode/utf8.acceptRanges"], apart := false, laid := [("unicode/utf8.acceptRanges", laid_unicode_utf8_acceptRanges), ("unicode/utf8.first", laid_unicode_utf8_first)] }
def ModeKeepsSaid : Prop := modeKeepsRow.holds Tryd.pinned (OpenSpec.ofChange modeKeepsSpec)

/-- ITS FALSE NEIGHBOUR: 'it returns false'. Refute it at one input. -/
def modeKeepsWrong : ChangeSpec := { name := "modeKeeps", fn := fun _ => fun
  | [d1, d2, d3, d4, d5] => { results := [.lit (.bool false)], args := [d1, d2, d3, d4, d5] }
  | _ => none }
def ModeKeepsWrongFalsely : Prop := modeKeepsRow.holds Tryd.pinned (OpenSpec.ofChange modeKeepsWrong)

/-- 'trellislaw.PutRow': WHATEVER THE INPUT: true; the input reads as it did. -/
def putRowSpec : ChangeSpec := { name := "putRow", fn := fun _ => fun
  | [d1, d2, d3] => { results := [.lit (.bool true)], args := [d1, d2, d3] }
  | _ => none }
def putRowRow : OpenClaim := { program := "ytgpkedepboenpaadoor", sum := "a1daeaf25e3cd91a0d23d7a2399f2f378bd408e90f9e8849e0594a5aaff4c9c0", func := "trellis/trellislaw.PutRow", spec := "putRow", inPlace := ["internal/abi.NoEscape"], unfollowed := true, recurses := true, named := ["unicode/utf8.first", "unicode/utf8.acceptRanges"], apart := false, laid := [("unicode/utf8.acceptRanges", laid_unicode_utf8_acceptRanges), ("unicode/utf8.first", laid_unicode_utf8_first)] }
def PutRowSaid : Prop := putRowRow.holds Tryd.pinned (OpenSpec.ofChange putRowSpec)

/-- ITS FALSE NEIGHBOUR: 'it returns false'. Refute it at one input. -/
def putRowWrong : ChangeSpec := { name := "putRow", fn := fun _ => fun
  | [d1, d2, d3] => { results := [.lit (.bool false)], args := [d1, d2, d3] }
  | _ => none }
def PutRowWrongFalsely : Prop := putRowRow.holds Tryd.pinned (OpenSpec.ofChange putRowWrong)

/-- 'trellislaw.MoveTabs': WHATEVER THE INPUT: true; the input reads as it did. -/
def moveTabsSpec : ChangeSpec := { name := "moveTabs", fn := fun _ => fun
  | [d1, d2] => { results := [.lit (.bool true)], args := [d1, d2] }
  | _ => none }
def moveTabsRow : OpenClaim := { program := "ytgpkedepboenpaadoor", sum := "a1daeaf25e3cd91a0d23d7a2399f2f378bd408e90f9e8849e0594a5aaff4c9c0", func := "trellis/trellislaw.MoveTabs", spec := "moveTabs", inPlace := ["slices.overlaps[[]trellis/api.Cell]", "internal/abi.NoEscape"], unfollowed := true, recurses := true, named := ["unicode/utf8.first", "unicode/utf8.acceptRanges"], apart := false, laid := [("unicode/utf8.acceptRanges", laid_unicode_utf8_acceptRanges), ("unicode/utf8.first", laid_unicode_utf8_first)] }
def MoveTabsSaid : Prop := moveTabsRow.holds Tryd.pinned (OpenSpec.ofChange moveTabsSpec)

/-- ITS FALSE NEIGHBOUR: 'it returns false'. Refute it at one input. -/
def moveTabsWrong : ChangeSpec := { name := "moveTabs", fn := fun _ => fun
  | [d1, d2] => { results := [.lit (.bool false)], args := [d1, d2] }
  | _ => none }
def MoveTabsWrongFalsely : Prop := moveTabsRow.holds Tryd.pinned (OpenSpec.ofChange moveTabsWrong)

/-- 'trellislaw.ShiftRegion': WHATEVER THE INPUT: true; the input reads as it did. -/
def shiftRegionSpec : ChangeSpec := { name := "shiftRegion", fn := fun _ => fun
  | [d1, d2, d3] => { results := [.lit (.bool true)], args := [d1, d2, d3] }
  | _ => none }
def shiftRegionRow : OpenClaim := { program := "ytgpkedepboenpaadoor", sum := "a1daeaf25e3cd91a0d23d7a2399f2f378bd408e90f9e8849e0594a5aaff4c9c0", func := "trellis/trellislaw.ShiftRegion", spec := "shiftRegion", inPlace := ["internal/abi.NoEscape", "slices.overlaps[[]trellis/api.Cell]"], unfollowed := true, recurses := true, named := ["unicode/utf8.first", "unicode/utf8.acceptRanges"], apart := false, laid := [("unicode/utf8.acceptRanges", laid_unicode_utf8_acceptRanges), ("unicode/utf8.first", laid_unicode_utf8_first)] }
def ShiftRegionSaid : Prop := shiftRegionRow.holds Tryd.pinned (OpenSpec.ofChange shiftRegionSpec)

/-- ITS FALSE NEIGHBOUR: 'it returns false'. Refute it at one input. -/
def shiftRegionWrong : ChangeSpec := { name := "shiftRegion", fn := fun _ => fun
  | [d1, d2, d3] => { results := [.lit (.bool false)], args := [d1, d2, d3] }
  | _ => none }
def ShiftRegionWrongFalsely : Prop := shiftRegionRow.holds Tryd.pinned (OpenSpec.ofChange shiftRegionWrong)

/-- 'trellislaw.ModeSet': WHATEVER THE INPUT: true; the input reads as it did. -/
def modeSetSpec : ChangeSpec := { name := "modeSet", fn := fun _ => fun
  | [d1, d2, d3] => { results := [.lit (.bool true)], args := [d1, d2, d3] }
  | _ => none }
def modeSetRow : OpenClaim := { program := "ytgpkedepboenpaadoor", sum := "a1daeaf25e3cd91a0d23d7a2399f2f378bd408e90f9e8849e0594a5aaff4c9c0", func := "trellis/trellislaw.ModeSet", spec := "modeSet", inPlace := ["internal/abi.NoEscape", "slices.overlaps[[]trellis/api.Cell]"], unfollowed := true, recurses := true, named := ["unicode/utf8.first", "unicode/utf8.acceptRanges"], apart := false, laid := [("unicode/utf8.acceptRanges", laid_unicode_utf8_acceptRanges), ("unicode/utf8.first", laid_unicode_utf8_first)] }
def ModeSetSaid : Prop := modeSetRow.holds Tryd.pinned (OpenSpec.ofChange modeSetSpec)

/-- ITS FALSE NEIGHBOUR: 'it returns false'. Refute it at one input. -/
def modeSetWrong : ChangeSpec := { name := "modeSet", fn := fun _ => fun
  | [d1, d2, d3] => { results := [.lit (.bool false)], args := [d1, d2, d3] }
  | _ => none }
def ModeSetWrongFalsely : Prop := modeSetRow.holds Tryd.pinned (OpenSpec.ofChange modeSetWrong)

/-- 'trellislaw.WipeLine': WHATEVER THE INPUT: true; the input reads as it did. -/
def wipeLineSpec : ChangeSpec := { name := "wipeLine", fn := fun _ => fun
  | [d1, d2, d3] => { results := [.lit (.bool true)], args := [d1, d2, d3] }
  | _ => none }
def wipeLineRow : OpenClaim := { program := "ytgpkedepboenpaadoor", sum := "a1daeaf25e3cd91a0d23d7a2399f2f378bd408e90f9e8849e0594a5aaff4c9c0", func := "trellis/trellislaw.WipeLine", spec := "wipeLine", inPlace := ["slices.overlaps[[]trellis/api.Cell]", "internal/abi.NoEscape"], unfollowed := true, recurses := true, named := ["unicode/utf8.first", "unicode/utf8.acceptRanges"], apart := false, laid := [("unicode/utf8.acceptRanges", laid_unicode_utf8_acceptRanges), ("unicode/utf8.first", laid_unicode_utf8_first)] }
def WipeLineSaid : Prop := wipeLineRow.holds Tryd.pinned (OpenSpec.ofChange wipeLineSpec)

/-- ITS FALSE NEIGHBOUR: 'it returns false'. Refute it at one input. -/
def wipeLineWrong : ChangeSpec := { name := "wipeLine", fn := fun _ => fun
  | [d1, d2, d3] => { results := [.lit (.bool false)], args := [d1, d2, d3] }
  | _ => none }
def WipeLineWrongFalsely : Prop := wipeLineRow.holds Tryd.pinned (OpenSpec.ofChange wipeLineWrong)

/-- 'trellislaw.ShiftCells': WHATEVER THE INPUT: true; the input reads as it did. -/
def shiftCellsSpec : ChangeSpec := { name := "shiftCells", fn := fun _ => fun
  | [d1, d2] => { results := [.lit (.bool true)], args := [d1, d2] }
  | _ => none }
def shiftCellsRow : OpenClaim := { program := "ytgpkedepboenpaadoor", sum := "a1daeaf25e3cd91a0d23d7a2399f2f378bd408e90f9e8849e0594a5aaff4c9c0", func := "trellis/trellislaw.ShiftCells", spec := "shiftCells", inPlace := ["slices.overlaps[[]trellis/api.Cell]", "internal/abi.NoEscape"], unfollowed := true, recurses := true, named := ["unicode/utf8.first", "unicode/utf8.acceptRanges"], apart := false, laid := [("unicode/utf8.acceptRanges", laid_unicode_utf8_acceptRanges), ("unicode/utf8.first", laid_unicode_utf8_first)] }
def ShiftCellsSaid : Prop := shiftCellsRow.holds Tryd.pinned (OpenSpec.ofChange shiftCellsSpec)

/-- ITS FALSE NEIGHBOUR: 'it returns false'. Refute it at one input. -/
def shiftCellsWrong : ChangeSpec := { name := "shiftCells", fn := fun _ => fun
  | [d1, d2] => { results := [.lit (.bool false)], args := [d1, d2] }
  | _ => none }
def ShiftCellsWrongFalsely : Prop := shiftCellsRow.holds Tryd.pinned (OpenSpec.ofChange shiftCellsWrong)

/-- 'trellislaw.ModeLook': WHATEVER THE INPUT: true; the input reads as it did. -/
def modeLookSpec : ChangeSpec := { name := "modeLook", fn := fun _ => fun
  | [d1, d2, d3] => { results := [.lit (.bool true)], args := [d1, d2, d3] }
  | _ => none }
def modeLookRow : OpenClaim := { program := "ytgpkedepboenpaadoor", sum := "a1daeaf25e3cd91a0d23d7a2399f2f378bd408e90f9e8849e0594a5aaff4c9c0", func := "trellis/trellislaw.ModeLook", spec := "modeLook", inPlace := ["internal/abi.NoEscape", "slices.overlaps[[]trellis/api.Cell]"], unfollowed := true, recurses := true, named := ["unicode/utf8.first", "unicode/utf8.acceptRanges"], apart := false, laid := [("unicode/utf8.acceptRanges", laid_unicode_utf8_acceptRanges), ("unicode/utf8.first", laid_unicode_utf8_first)] }
def ModeLookSaid : Prop := modeLookRow.holds Tryd.pinned (OpenSpec.ofChange modeLookSpec)

/-- ITS FALSE NEIGHBOUR: 'it returns false'. Refute it at one input. -/
def modeLookWrong : ChangeSpec := { name := "modeLook", fn := fun _ => fun
  | [d1, d2, d3] => { results := [.lit (.bool false)], args := [d1, d2, d3] }
  | _ => none }
def ModeLookWrongFalsely : Prop := modeLookRow.holds Tryd.pinned (OpenSpec.ofChange modeLookWrong)

/-- 'trellislaw.PutStands': WHATEVER THE INPUT: true; the input reads as it did. -/
def putStandsSpec : ChangeSpec := { name := "putStands", fn := fun _ => fun
  | [d1, d2] => { results := [.lit (.bool true)], args := [d1, d2] }
  | _ => none }
def putStandsRow : OpenClaim := { program := "ytgpkedepboenpaadoor", sum := "a1daeaf25e3cd91a0d23d7a2399f2f378bd408e90f9e8849e0594a5aaff4c9c0", func := "trellis/trellislaw.PutStands", spec := "putStands", inPlace := ["internal/abi.NoEscape", "internal/bytealg.IndexByteString", "internal/bytealg.IndexString"], unfollowed := true, recurses := true, named := ["unicode/utf8.first", "unicode/utf8.acceptRanges", "internal/bytealg.MaxLen"], apart := false, laid := [("unicode/utf8.acceptRanges", laid_unicode_utf8_acceptRanges), ("unicode/utf8.first", laid_unicode_utf8_first)] }
def PutStandsSaid : Prop := putStandsRow.holds Tryd.pinned (OpenSpec.ofChange putStandsSpec)

/-- ITS FALSE NEIGHBOUR: 'it returns false'. Refute it at one input. -/
def putStandsWrong : ChangeSpec := { name := "putStands", fn := fun _ => fun
  | [d1, d2] => { results := [.lit (.bool false)], args := [d1, d2] }
  | _ => none }
def PutStandsWrongFalsely : Prop := putStandsRow.holds Tryd.pinned (OpenSpec.ofChange putStandsWrong)

/- THE SECOND FORM. 'bulk': how many values and letters a reading holds, each counted each time it is reached (what is shared counts as often as it is met; a slice's spare places count too). A statement '..UptoSaid' is the law's where the arguments, and the package variables that the reading takes, are together of bulk at most 1048576: NARROWER than '..Said'. Prove '..Said' where nothing that the law and all that it calls make is longer than what came in: it says more and counts as full. Else prove '..UptoSaid'. A law counts once. -/
mutual
def uptoBulk {H : Type} : DataW H → Nat
  | .lit (.string bytes) => bytes.length + 1
  | .lit _ => 1
  | .nil => 1
  | .ptr d => uptoBulk d + 1
  | .slice elems spare => uptoBulkAll elems + uptoBulkAll spare + 1
  | .agg parts => uptoBulkAll parts + 1
  | .iface _ d => uptoBulk d + 1
  | .map entries => uptoBulkEntries entries + 1
  | .held _ => 1
def uptoBulkAll {H : Type} : List (DataW H) → Nat
  | [] => 0
  | d :: r => uptoBulk d + uptoBulkAll r
def uptoBulkEntries {H : Type} : List (Lit × DataW H) → Nat
  | [] => 0
  | x :: r => uptoBulkEntry x + uptoBulkEntries r
def uptoBulkEntry {H : Type} : Lit × DataW H → Nat
  | (.string bytes, d) => bytes.length + uptoBulk d + 1
  | (_, d) => uptoBulk d + 1
 end
def uptoSmall : (H : Type) → List (DataW H) → Bool := fun _ ds => decide (uptoBulkAll ds ≤ 1048576)
def OpenSpec.upto (s : _root_.Go.ChangeSpec) : _root_.Go.OpenSpec := { _root_.Go.OpenSpec.ofChange s with cond := some uptoSmall }

/-- 'trellislaw.MoveRows', WHERE WHAT IT READS IS OF BULK AT MOST 1048576: true; the input reads as it did. -/
def moveRowsUptoRow : OpenClaim := { program := "ytgpkedepboenpaadoor", sum := "a1daeaf25e3cd91a0d23d7a2399f2f378bd408e90f9e8849e0594a5aaff4c9c0", func := "trellis/trellislaw.MoveRows", spec := "moveRows", inPlace := ["slices.overlaps[[]trellis/api.Cell]", "internal/abi.NoEscape"], unfollowed := true, recurses := true, named := ["unicode/utf8.first", "unicode/utf8.acceptRanges"], apart := false, laid := [("unicode/utf8.acceptRanges", laid_unicode_utf8_acceptRanges), ("unicode/utf8.first", laid_unicode_utf8_first)], narrowed := true }
def MoveRowsUptoSaid : Prop := moveRowsUptoRow.holds Tryd.pinned (OpenSpec.upto moveRowsSpec)

/-- 'trellislaw.MoveTo', WHERE WHAT IT READS IS OF BULK AT MOST 1048576: true; the input reads as it did. -/
def moveToUptoRow : OpenClaim := { program := "ytgpkedepboenpaadoor", sum := "a1daeaf25e3cd91a0d23d7a2399f2f378bd408e90f9e8849e0594a5aaff4c9c0", func := "trellis/trellislaw.MoveTo", spec := "moveTo", inPlace := ["internal/abi.NoEscape", "slices.overlaps[[]trellis/api.Cell]"], unfollowed := true, recurses := true, named := ["unicode/utf8.first", "unicode/utf8.acceptRanges"], apart := false, laid := [("unicode/utf8.acceptRanges", laid_unicode_utf8_acceptRanges), ("unicode/utf8.first", laid_unicode_utf8_first)], narrowed := true }
def MoveToUptoSaid : Prop := moveToUptoRow.holds Tryd.pinned (OpenSpec.upto moveToSpec)

/-- 'trellislaw.ShiftGone', WHERE WHAT IT READS IS OF BULK AT MOST 1048576: true; the input reads as it did. -/
def shiftGoneUptoRow : OpenClaim := { program := "ytgpkedepboenpaadoor", sum := "a1daeaf25e3cd91a0d23d7a2399f2f378bd408e90f9e8849e0594a5aaff4c9c0", func := "trellis/trellislaw.ShiftGone", spec := "shiftGone", inPlace := ["internal/abi.NoEscape"], unfollowed := true, recurses := true, named := ["unicode/utf8.first", "unicode/utf8.acceptRanges"], apart := false, laid := [("unicode/utf8.acceptRanges", laid_unicode_utf8_acceptRanges), ("unicode/utf8.first", laid_unicode_utf8_first)], narrowed := true }
def ShiftGoneUptoSaid : Prop := shiftGoneUptoRow.holds Tryd.pinned (OpenSpec.upto shiftGoneSpec)

/-- 'trellislaw.ModeKeeps', WHERE WHAT IT READS IS OF BULK AT MOST 1048576: true; the input reads as it did. -/
def modeKeepsUptoRow : OpenClaim := { program := "ytgpkedepboenpaadoor", sum := "a1daeaf25e3cd91a0d23d7a2399f2f378bd408e90f9e8849e0594a5aaff4c9c0", func := "trellis/trellislaw.ModeKeeps", spec := "modeKeeps", inPlace := ["internal/abi.NoEscape"], unfollowed := true, recurses := true, named := ["unicode/utf8.first", "unicode/utf8.acceptRanges"], apart := false, laid := [("unicode/utf8.acceptRanges", laid_unicode_utf8_acceptRanges), ("unicode/utf8.first", laid_unicode_utf8_first)], narrowed := true }
def ModeKeepsUptoSaid : Prop := modeKeepsUptoRow.holds Tryd.pinned (OpenSpec.upto modeKeepsSpec)

/-- 'trellislaw.PutRow', WHERE WHAT IT READS IS OF BULK AT MOST 1048576: true; the input reads as it did. -/
def putRowUptoRow : OpenClaim := { program := "ytgpkedepboenpaadoor", sum := "a1daeaf25e3cd91a0d23d7a2399f2f378bd408e90f9e8849e0594a5aaff4c9c0", func := "trellis/trellislaw.PutRow", spec := "putRow", inPlace := ["internal/abi.NoEscape"], unfollowed := true, recurses := true, named := ["unicode/utf8.first", "unicode/utf8.acceptRanges"], apart := false, laid := [("unicode/utf8.acceptRanges", laid_unicode_utf8_acceptRanges), ("unicode/utf8.first", laid_unicode_utf8_first)], narrowed := true }
def PutRowUptoSaid : Prop := putRowUptoRow.holds Tryd.pinned (OpenSpec.upto putRowSpec)

/-- 'trellislaw.MoveTabs', WHERE WHAT IT READS IS OF BULK AT MOST 1048576: true; the input reads as it did. -/
def moveTabsUptoRow : OpenClaim := { program := "ytgpkedepboenpaadoor", sum := "a1daeaf25e3cd91a0d23d7a2399f2f378bd408e90f9e8849e0594a5aaff4c9c0", func := "trellis/trellislaw.MoveTabs", spec := "moveTabs", inPlace := ["slices.overlaps[[]trellis/api.Cell]", "internal/abi.NoEscape"], unfollowed := true, recurses := true, named := ["unicode/utf8.first", "unicode/utf8.acceptRanges"], apart := false, laid := [("unicode/utf8.acceptRanges", laid_unicode_utf8_acceptRanges), ("unicode/utf8.first", laid_unicode_utf8_first)], narrowed := true }
def MoveTabsUptoSaid : Prop := moveTabsUptoRow.holds Tryd.pinned (OpenSpec.upto moveTabsSpec)

/-- 'trellislaw.ShiftRegion', WHERE WHAT IT READS IS OF BULK AT MOST 1048576: true; the input reads as it did. -/
def shiftRegionUptoRow : OpenClaim := { program := "ytgpkedepboenpaadoor", sum := "a1daeaf25e3cd91a0d23d7a2399f2f378bd408e90f9e8849e0594a5aaff4c9c0", func := "trellis/trellislaw.ShiftRegion", spec := "shiftRegion", inPlace := ["internal/abi.NoEscape", "slices.overlaps[[]trellis/api.Cell]"], unfollowed := true, recurses := true, named := ["unicode/utf8.first", "unicode/utf8.acceptRanges"], apart := false, laid := [("unicode/utf8.acceptRanges", laid_unicode_utf8_acceptRanges), ("unicode/utf8.first", laid_unicode_utf8_first)], narrowed := true }
def ShiftRegionUptoSaid : Prop := shiftRegionUptoRow.holds Tryd.pinned (OpenSpec.upto shiftRegionSpec)

/-- 'trellislaw.ModeSet', WHERE WHAT IT READS IS OF BULK AT MOST 1048576: true; the input reads as it did. -/
def modeSetUptoRow : OpenClaim := { program := "ytgpkedepboenpaadoor", sum := "a1daeaf25e3cd91a0d23d7a2399f2f378bd408e90f9e8849e0594a5aaff4c9c0", func := "trellis/trellislaw.ModeSet", spec := "modeSet", inPlace := ["internal/abi.NoEscape", "slices.overlaps[[]trellis/api.Cell]"], unfollowed := true, recurses := true, named := ["unicode/utf8.first", "unicode/utf8.acceptRanges"], apart := false, laid := [("unicode/utf8.acceptRanges", laid_unicode_utf8_acceptRanges), ("unicode/utf8.first", laid_unicode_utf8_first)], narrowed := true }
def ModeSetUptoSaid : Prop := modeSetUptoRow.holds Tryd.pinned (OpenSpec.upto modeSetSpec)

/-- 'trellislaw.WipeLine', WHERE WHAT IT READS IS OF BULK AT MOST 1048576: true; the input reads as it did. -/
def wipeLineUptoRow : OpenClaim := { program := "ytgpkedepboenpaadoor", sum := "a1daeaf25e3cd91a0d23d7a2399f2f378bd408e90f9e8849e0594a5aaff4c9c0", func := "trellis/trellislaw.WipeLine", spec := "wipeLine", inPlace := ["slices.overlaps[[]trellis/api.Cell]", "internal/abi.NoEscape"], unfollowed := true, recurses := true, named := ["unicode/utf8.first", "unicode/utf8.acceptRanges"], apart := false, laid := [("unicode/utf8.acceptRanges", laid_unicode_utf8_acceptRanges), ("unicode/utf8.first", laid_unicode_utf8_first)], narrowed := true }
def WipeLineUptoSaid : Prop := wipeLineUptoRow.holds Tryd.pinned (OpenSpec.upto wipeLineSpec)

/-- 'trellislaw.ShiftCells', WHERE WHAT IT READS IS OF BULK AT MOST 1048576: true; the input reads as it did. -/
def shiftCellsUptoRow : OpenClaim := { program := "ytgpkedepboenpaadoor", sum := "a1daeaf25e3cd91a0d23d7a2399f2f378bd408e90f9e8849e0594a5aaff4c9c0", func := "trellis/trellislaw.ShiftCells", spec := "shiftCells", inPlace := ["slices.overlaps[[]trellis/api.Cell]", "internal/abi.NoEscape"], unfollowed := true, recurses := true, named := ["unicode/utf8.first", "unicode/utf8.acceptRanges"], apart := false, laid := [("unicode/utf8.acceptRanges", laid_unicode_utf8_acceptRanges), ("unicode/utf8.first", laid_unicode_utf8_first)], narrowed := true }
def ShiftCellsUptoSaid : Prop := shiftCellsUptoRow.holds Tryd.pinned (OpenSpec.upto shiftCellsSpec)

/-- 'trellislaw.ModeLook', WHERE WHAT IT READS IS OF BULK AT MOST 1048576: true; the input reads as it did. -/
def modeLookUptoRow : OpenClaim := { program := "ytgpkedepboenpaadoor", sum := "a1daeaf25e3cd91a0d23d7a2399f2f378bd408e90f9e8849e0594a5aaff4c9c0", func := "trellis/trellislaw.ModeLook", spec := "modeLook", inPlace := ["internal/abi.NoEscape", "slices.overlaps[[]trellis/api.Cell]"], unfollowed := true, recurses := true, named := ["unicode/utf8.first", "unicode/utf8.acceptRanges"], apart := false, laid := [("unicode/utf8.acceptRanges", laid_unicode_utf8_acceptRanges), ("unicode/utf8.first", laid_unicode_utf8_first)], narrowed := true }
def ModeLookUptoSaid : Prop := modeLookUptoRow.holds Tryd.pinned (OpenSpec.upto modeLookSpec)

/-- 'trellislaw.PutStands', WHERE WHAT IT READS IS OF BULK AT MOST 1048576: true; the input reads as it did. -/
def putStandsUptoRow : OpenClaim := { program := "ytgpkedepboenpaadoor", sum := "a1daeaf25e3cd91a0d23d7a2399f2f378bd408e90f9e8849e0594a5aaff4c9c0", func := "trellis/trellislaw.PutStands", spec := "putStands", inPlace := ["internal/abi.NoEscape", "internal/bytealg.IndexByteString", "internal/bytealg.IndexString"], unfollowed := true, recurses := true, named := ["unicode/utf8.first", "unicode/utf8.acceptRanges", "internal/bytealg.MaxLen"], apart := false, laid := [("unicode/utf8.acceptRanges", laid_unicode_utf8_acceptRanges), ("unicode/utf8.first", laid_unicode_utf8_first)], narrowed := true }
def PutStandsUptoSaid : Prop := putStandsUptoRow.holds Tryd.pinned (OpenSpec.upto putStandsSpec)

end Rows
end Go.Proofs.YtgpkedepboenpaaDoor
