/-
  NARROWER THAN 'FOR EVERY INPUT', by the rows' own cells (each row's printed sentence says how): ShiftHolds: laid · ShiftGone: laid · MoveBack: laid · WipeAll: laid · PutRow: laid · ModeKeeps: laid · PutStands: laid.
  DERIVED. THE GIVEN ROWS OF THIS SEAT. 7 by the template 'for every input the law returns true; each argument reads behind the call as it read before'; 0 by the template 'total and deterministic' (their statements: YtmkmodbpeamdiaaDoorTotals.lean).
  GIVEN WITH THE SEED: the statements are not yours to turn. If you find one false, say at which input.
  Laid BY PROGRAM, IN A SANDBOX (cutbox-rows.mjs): the forced cells as the released guide's own fill.sh prints them over the translation f6c97fd987f24bb1… (all of the seat's roots in one cut). By AI agents, Wed Nov 11 2026. No macro, syntax, notation, axiom, sorry.
-/
import Derived.Test.YtmkmodbpeamdiaaDoorChecked
import GoSem.PinnedTables
import GoSem.Claim
import GoSem.ClaimJoined
import GoSem.ClaimMapViews
import Derived.JoinedTies
import Derived.KernelRfl
namespace Go.Proofs.YtmkmodbpeamdiaaDoor
/- THE CELL 'sum', in the pinned program and in every row, IS THE sha256 OF THE DUMP (.gsa) THAT YtmkmodbpeamdiaaDoorProg.lean LOADS. Nothing in Lean hashes anything: it is a label: what it is worth is what the hold of that sum in a sandbox is worth. -/
noncomputable def Tryd.pinned : Pinned := { name := "ytmkmodbpeamdiaadoor", sum := "f6c97fd987f24bb1b3204c8765982ac317fb67557fcc22f90d125dd2932dc4e0", checked := Tryd.checked }
namespace Rows
def none {H : Type} : Left H := { results := [], args := [] }

/- WHAT THE LISTED PACKAGE-LEVEL VARIABLES READ AS WHEN THE CALL BEGINS. Each datum BY PROGRAM (the guide's laid-datum.mjs) off the statement by which the dump's own 'gosem.cut.vars' lays the variable. In a bare row this is a premise. The card (YtmkmodbpeamdiaaDoorCards.lean) ties it to the program's text. -/
def laid_unicode_utf8_acceptRanges {H : Type} : DataW H := .agg [.agg [.lit (.int .u8 128), .lit (.int .u8 191)], .agg [.lit (.int .u8 160), .lit (.int .u8 191)], .agg [.lit (.int .u8 128), .lit (.int .u8 159)], .agg [.lit (.int .u8 144), .lit (.int .u8 191)], .agg [.lit (.int .u8 128), .lit (.int .u8 143)], .agg [.lit (.int .u8 0), .lit (.int .u8 0)], .agg [.lit (.int .u8 0), .lit (.int .u8 0)], .agg [.lit (.int .u8 0), .lit (.int .u8 0)], .agg [.lit (.int .u8 0), .lit (.int .u8 0)], .agg [.lit (.int .u8 0), .lit (.int .u8 0)], .agg [.lit (.int .u8 0), .lit (.int .u8 0)], .agg [.lit (.int .u8 0), .lit (.int .u8 0)], .agg [.lit (.int .u8 0), .lit (.int .u8 0)], .agg [.lit (.int .u8 0), .lit (.int .u8 0)], .agg [.lit (.int .u8 0), .lit (.int .u8 0)], .agg [.lit (.int .u8 0), .lit (.int .u8 0)]]
/-- One of Go's own tables, pinned by name: the form's constant. -/
def laid_unicode_utf8_first : DataW Unit := Go.Pinned.utf8First

/-- 'trellislaw.ShiftHolds': WHATEVER THE INPUT: true; the input reads as it did. -/
def shiftHoldsSpec : ChangeSpec := { name := "shiftHolds", fn := fun _ => fun
  | [d1, d2] => { results := [.lit (.bool true)], args := [d1, d2] }
  | _ => none }
def shiftHoldsRow : OpenClaim := { program := "ytmkmodbpeamdiaadoor", sum := "f6c97fd987f24bb1b3204c8765982ac317fb67557fcc22f90d125dd2932dc4e0", func := "trellis/trellislaw.ShiftHolds", spec := "shiftHolds", inPlace := ["internal/abi.NoEscape"], unfollowed := true, recurses := true, named := ["unicode/utf8.first", "unicode/utf8.acceptRanges"], apart := false, laid := [("unicode/utf8.acceptRanges", laid_unicode_utf8_acceptRanges), ("unicode/utf8.first", laid_unicode_utf8_first)] }
def ShiftHoldsSaid : Prop := shiftHoldsRow.holds Tryd.pinned (OpenSpec.ofChange shiftHoldsSpec)

/-- ITS FALSE NEIGHBOUR: 'it returns false'. Refute it at one input. -/
def shiftHoldsWrong : ChangeSpec := { name := "shiftHolds", fn := fun _ => fun
  | [d1, d2] => { results := [.lit (.bool false)], args := [d1, d2] }
  | _ => none }
def ShiftHoldsWrongFalsely : Prop := shiftHoldsRow.holds Tryd.pinned (OpenSpec.ofChange shiftHoldsWrong)

/-- 'trellislaw.ShiftGone': WHATEVER THE INPUT: true; the input reads as it did. -/
def shiftGoneSpec : ChangeSpec := { name := "shiftGone", fn := fun _ => fun
  | [d1, d2] => { results := [.lit (.bool true)], args := [d1, d2] }
  | _ => none }
def shiftGoneRow : OpenClaim := { program := "ytmkmodbpeamdiaadoor", sum := "f6c97fd987f24bb1b3204c8765982ac317fb67557fcc22f90d125dd2932dc4e0", func := "trellis/trellislaw.ShiftGone", spec := "shiftGone", inPlace := ["internal/abi.NoEscape"], unfollowed := true, recurses := true, named := ["unicode/utf8.first", "unicode/utf8.acceptRanges"], apart := false, laid := [("unicode/utf8.acceptRanges", laid_unicode_utf8_acceptRanges), ("unicode/utf8.first", laid_unicode_utf8_first)] }
def ShiftGoneSaid : Prop := shiftGoneRow.holds Tryd.pinned (OpenSpec.ofChange shiftGoneSpec)

/-- ITS FALSE NEIGHBOUR: 'it returns false'. Refute it at one input. -/
def shiftGoneWrong : ChangeSpec := { name := "shiftGone", fn := fun _ => fun
  | [d1, d2] => { results := [.lit (.bool false)], args := [d1, d2] }
  | _ => none }
def ShiftGoneWrongFalsely : Prop := shiftGoneRow.holds Tryd.pinned (OpenSpec.ofChange shiftGoneWrong)

/-- 'trellislaw.MoveBack': WHATEVER THE INPUT: true; the input reads as it did. -/
def moveBackSpec : ChangeSpec := { name := "moveBack", fn := fun _ => fun
  | [d1, d2, d3, d4] => { results := [.lit (.bool true)], args := [d1, d2, d3, d4] }
  | _ => none }
def moveBackRow : OpenClaim := { program := "ytmkmodbpeamdiaadoor", sum := "f6c97fd987f24bb1b3204c8765982ac317fb67557fcc22f90d125dd2932dc4e0", func := "trellis/trellislaw.MoveBack", spec := "moveBack", inPlace := ["internal/abi.NoEscape"], unfollowed := true, recurses := true, named := ["unicode/utf8.first", "unicode/utf8.acceptRanges"], apart := false, laid := [("unicode/utf8.acceptRanges", laid_unicode_utf8_acceptRanges), ("unicode/utf8.first", laid_unicode_utf8_first)] }
def MoveBackSaid : Prop := moveBackRow.holds Tryd.pinned (OpenSpec.ofChange moveBackSpec)

/-- ITS FALSE NEIGHBOUR: 'it returns false'. Refute it at one input. -/
def moveBackWrong : ChangeSpec := { name := "moveBack", fn := fun _ => fun
  | [d1, d2, d3, d4] => { results := [.lit (.bool false)], args := [d1, d2, d3, d4] }
  | _ => none }
def MoveBackWrongFalsely : Prop := moveBackRow.holds Tryd.pinned (OpenSpec.ofChange moveBackWrong)

/-- 'trellislaw.WipeAll': WHATEVER THE INPUT: true; the input reads as it did. -/
def wipeAllSpec : ChangeSpec := { name := "wipeAll", fn := fun _ => fun
  | [d1, d2] => { results := [.lit (.bool true)], args := [d1, d2] }
  | _ => none }
def wipeAllRow : OpenClaim := { program := "ytmkmodbpeamdiaadoor", sum := "f6c97fd987f24bb1b3204c8765982ac317fb67557fcc22f90d125dd2932dc4e0", func := "trellis/trellislaw.WipeAll", spec := "wipeAll", inPlace := ["internal/abi.NoEscape"], unfollowed := true, recurses := true, named := ["unicode/utf8.first", "unicode/utf8.acceptRanges"], apart := false, laid := [("unicode/utf8.acceptRanges", laid_unicode_utf8_acceptRanges), ("unicode/utf8.first", laid_unicode_utf8_first)] }
def WipeAllSaid : Prop := wipeAllRow.holds Tryd.pinned (OpenSpec.ofChange wipeAllSpec)

/-- ITS FALSE NEIGHBOUR: 'it returns false'. Refute it at one input. -/
def wipeAllWrong : ChangeSpec := { name := "wipeAll", fn := fun _ => fun
  | [d1, d2] => { results := [.lit (.bool false)], args := [d1, d2] }
  | _ => none }
def WipeAllWrongFalsely : Prop := wipeAllRow.holds Tryd.pinned (OpenSpec.ofChange wipeAllWrong)

/-- 'trellislaw.PutRow': WHATEVER THE INPUT: true; the input reads as it did. -/
def putRowSpec : ChangeSpec := { name := "putRow", fn := fun _ => fun
  | [d1, d2, d3] => { results := [.lit (.bool true)], args := [d1, d2, d3] }
  | _ => none }
def putRowRow : OpenClaim := { program := "ytmkmodbpeamdiaadoor", sum := "f6c97fd987f24bb1b3204c8765982ac317fb67557fcc22f90d125dd2932dc4e0", func := "trellis/trellislaw.PutRow", spec := "putRow", inPlace := ["internal/abi.NoEscape"], unfollowed := true, recurses := true, named := ["unicode/utf8.first", "unicode/utf8.acceptRanges"], apart := false, laid := [("unicode/utf8.acceptRanges", laid_unicode_utf8_acceptRanges), ("unicode/utf8.first", laid_unicode_utf8_first)] }
def PutRowSaid : Prop := putRowRow.holds Tryd.pinned (OpenSpec.ofChange putRowSpec)

/-- ITS FALSE NEIGHBOUR: 'it returns false'. Refute it at one input. -/
def putRowWrong : ChangeSpec := { name := "putRow", fn := fun _ => fun
  | [d1, d2, d3] => { results := [.lit (.bool false)], args := [d1, d2, d3] }
  | _ => none }
def PutRowWrongFalsely : Prop := putRowRow.holds Tryd.pinned (OpenSpec.ofChange putRowWrong)

/-- 'trellislaw.ModeKeeps': WHATEVER THE INPUT: true; the input reads as it did. -/
def modeKeepsSpec : ChangeSpec := { name := "modeKeeps", fn := fun _ => fun
  | [d1, d2, d3, d4, d5] => { results := [.lit (.bool true)], args := [d1, d2, d3, d4, d5] }
  | _ => none }
def modeKeepsRow : OpenClaim := { program := "ytmkmodbpeamdiaadoor", sum := "f6c97fd987f24bb1b3204c8765982ac317fb67557fcc22f90d125dd2932dc4e0", func := "trellis/trellislaw.ModeKeeps", spec := "modeKeeps", inPlace := ["internal/abi.NoEscape"], unfollowed := true, recurses := true, named := ["unicode/utf8.first", "unicode/utf8.acceptRanges"], apart := false, laid := [("unicode/utf8.acceptRanges", laid_unicode_utf8_acceptRanges), ("unicode/utf8.first", laid_unicode_utf8_first)] }
def ModeKeepsSaid : Prop := modeKeepsRow.holds Tryd.pinned (OpenSpec.ofChange modeKeepsSpec)

/-- ITS FALSE NEIGHBOUR: 'it returns false'. Refute it at one input. -/
def modeKeepsWrong : ChangeSpec := { name := "modeKeeps", fn := fun _ => fun
  | [d1, d2, d3, d4, d5] => { results := [.lit (.bool false)], args := [d1, d2, d3, d4, d5] }
  | _ => none }
def ModeKeepsWrongFalsely : Prop := modeKeepsRow.holds Tryd.pinned (OpenSpec.ofChange modeKeepsWrong)

/-- 'trellislaw.PutStands': WHATEVER THE INPUT: true; the input reads as it did. -/
def putStandsSpec : ChangeSpec := { name := "putStands", fn := fun _ => fun
  | [d1, d2] => { results := [.lit (.bool true)], args := [d1, d2] }
  | _ => none }
def putStandsRow : OpenClaim := { program := "ytmkmodbpeamdiaadoor", sum := "f6c97fd987f24bb1b3204c8765982ac317fb67557fcc22f90d125dd2932dc4e0", func := "trellis/trellislaw.PutStands", spec := "putStands", inPlace := ["internal/abi.NoEscape", "internal/bytealg.IndexByteString", "internal/bytealg.IndexString"], unfollowed := true, recurses := true, named := ["unicode/utf8.first", "unicode/utf8.acceptRanges", "internal/bytealg.MaxLen"], apart := false, laid := [("unicode/utf8.acceptRanges", laid_unicode_utf8_acceptRanges), ("unicode/utf8.first", laid_unicode_utf8_first)] }
def PutStandsSaid : Prop := putStandsRow.holds Tryd.pinned (OpenSpec.ofChange putStandsSpec)

/-- ITS FALSE NEIGHBOUR: 'it returns false'. Refute it at one input. -/
def putStandsWrong : ChangeSpec := { name := "putStands", fn := fun _ => fun
  | [d1, d2] => { results := [.lit (.bool false)], args := [d1, d2] }
  | _ => none }
def PutStandsWrongFalsely : Prop := putStandsRow.holds Tryd.pinned (OpenSpec.ofChange putStandsWrong)

/- THE SECOND FORM. 'bulk': how many values and letters a reading holds, each counted each time it is reached (what is shared counts as often as it is met; a slice's spare places count too). A statement '..UptoSaid' is the law's where the arguments, and the package variables that the reading takes, are together of bulk at most 1048576: NARROWER than '..Said'. Prove '..Said' where nothing that the law and all that it calls make is longer than what came in: it says more and counts as full. Else prove '..UptoSaid'. A law counts once. -/
mutual
def uptoBulk {H : Type} : DataW H → Nat
  | .lit (.string bytes) => bytes.length + 1
  | .lit _ => 1
  | .nil => 1
  | .ptr d => uptoBulk d + 1
  | .slice elems spare => uptoBulkAll elems + uptoBulkAll spare + 1
  | .agg parts => uptoBulkAll parts + 1
  | .iface _ d => uptoBulk d + 1
  | .map entries => uptoBulkEntries entries + 1
  | .held _ => 1
def uptoBulkAll {H : Type} : List (DataW H) → Nat
  | [] => 0
  | d :: r => uptoBulk d + uptoBulkAll r
def uptoBulkEntries {H : Type} : List (Lit × DataW H) → Nat
  | [] => 0
  | x :: r => uptoBulkEntry x + uptoBulkEntries r
def uptoBulkEntry {H : Type} : Lit × DataW H → Nat
  | (.string bytes, d) => bytes.length + uptoBulk d + 1
  | (_, d) => uptoBulk d + 1
 end
def uptoSmall : (H : Type) → List (DataW H) → Bool := fun _ ds => decide (uptoBulkAll ds ≤ 1048576)
def OpenSpec.upto (s : _root_.Go.ChangeSpec) : _root_.Go.OpenSpec := { _root_.Go.OpenSpec.ofChange s with cond := some uptoSmall }

/-- 'trellislaw.ShiftHolds', WHERE WHAT IT READS IS OF BULK AT MOST 1048576: true; the input reads as it did. -/
def shiftHoldsUptoRow : OpenClaim := { program := "ytmkmodbpeamdiaadoor", sum := "f6c97fd987f24bb1b3204c8765982ac317fb67557fcc22f90d125dd2932dc4e0", func := "trellis/trellislaw.ShiftHolds", spec := "shiftHolds", inPlace := ["internal/abi.NoEscape"], unfollowed := true, recurses := true, named := ["unicode/utf8.first", "unicode/utf8.acceptRanges"], apart := false, laid := [("unicode/utf8.acceptRanges", laid_unicode_utf8_acceptRanges), ("unicode/utf8.first", laid_unicode_utf8_first)], narrowed := true }
def ShiftHoldsUptoSaid : Prop := shiftHoldsUptoRow.holds Tryd.pinned (OpenSpec.upto shiftHoldsSpec)

/-- 'trellislaw.ShiftGone', WHERE WHAT IT READS IS OF BULK AT MOST 1048576: true; the input reads as it did. -/
def shiftGoneUptoRow : OpenClaim := { program := "ytmkmodbpeamdiaadoor", sum := "f6c97fd987f24bb1b3204c8765982ac317fb67557fcc22f90d125dd2932dc4e0", func := "trellis/trellislaw.ShiftGone", spec := "shiftGone", inPlace := ["internal/abi.NoEscape"], unfollowed := true, recurses := true, named := ["unicode/utf8.first", "unicode/utf8.acceptRanges"], apart := false, laid := [("unicode/utf8.acceptRanges", laid_unicode_utf8_acceptRanges), ("unicode/utf8.first", laid_unicode_utf8_first)], narrowed := true }
def ShiftGoneUptoSaid : Prop := shiftGoneUptoRow.holds Tryd.pinned (OpenSpec.upto shiftGoneSpec)

/-- 'trellislaw.MoveBack', WHERE WHAT IT READS IS OF BULK AT MOST 1048576: true; the input reads as it did. -/
def moveBackUptoRow : OpenClaim := { program := "ytmkmodbpeamdiaadoor", sum := "f6c97fd987f24bb1b3204c8765982ac317fb67557fcc22f90d125dd2932dc4e0", func := "trellis/trellislaw.MoveBack", spec := "moveBack", inPlace := ["internal/abi.NoEscape"], unfollowed := true, recurses := true, named := ["unicode/utf8.first", "unicode/utf8.acceptRanges"], apart := false, laid := [("unicode/utf8.acceptRanges", laid_unicode_utf8_acceptRanges), ("unicode/utf8.first", laid_unicode_utf8_first)], narrowed := true }
def MoveBackUptoSaid : Prop := moveBackUptoRow.holds Tryd.pinned (OpenSpec.upto moveBackSpec)

/-- 'trellislaw.WipeAll', WHERE WHAT IT READS IS OF BULK AT MOST 1048576: true; the input reads as it did. -/
def wipeAllUptoRow : OpenClaim := { program := "ytmkmodbpeamdiaadoor", sum := "f6c97fd987f24bb1b3204c8765982ac317fb67557fcc22f90d125dd2932dc4e0", func := "trellis/trellislaw.WipeAll", spec := "wipeAll", inPlace := ["internal/abi.NoEscape"], unfollowed := true, recurses := true, named := ["unicode/utf8.first", "unicode/utf8.acceptRanges"], apart := false, laid := [("unicode/utf8.acceptRanges", laid_unicode_utf8_acceptRanges), ("unicode/utf8.first", laid_unicode_utf8_first)], narrowed := true }
def WipeAllUptoSaid : Prop := wipeAllUptoRow.holds Tryd.pinned (OpenSpec.upto wipeAllSpec)

/-- 'trellislaw.PutRow', WHERE WHAT IT READS IS OF BULK AT MOST 1048576: true; the input reads as it did. -/
def putRowUptoRow : OpenClaim := { program := "ytmkmodbpeamdiaadoor", sum := "f6c97fd987f24bb1b3204c8765982ac317fb67557fcc22f90d125dd2932dc4e0", func := "trellis/trellislaw.PutRow", spec := "putRow", inPlace := ["internal/abi.NoEscape"], unfollowed := true, recurses := true, named := ["unicode/utf8.first", "unicode/utf8.acceptRanges"], apart := false, laid := [("unicode/utf8.acceptRanges", laid_unicode_utf8_acceptRanges), ("unicode/utf8.first", laid_unicode_utf8_first)], narrowed := true }
def PutRowUptoSaid : Prop := putRowUptoRow.holds Tryd.pinned (OpenSpec.upto putRowSpec)

/-- 'trellislaw.ModeKeeps', WHERE WHAT IT READS IS OF BULK AT MOST 1048576: true; the input reads as it did. -/
def modeKeepsUptoRow : OpenClaim := { program := "ytmkmodbpeamdiaadoor", sum := "f6c97fd987f24bb1b3204c8765982ac317fb67557fcc22f90d125dd2932dc4e0", func := "trellis/trellislaw.ModeKeeps", spec := "modeKeeps", inPlace := ["internal/abi.NoEscape"], unfollowed := true, recurses := true, named := ["unicode/utf8.first", "unicode/utf8.acceptRanges"], apart := false, laid := [("unicode/utf8.acceptRanges", laid_unicode_utf8_acceptRanges), ("unicode/utf8.first", laid_unicode_utf8_first)], narrowed := true }
def ModeKeepsUptoSaid : Prop := modeKeepsUptoRow.holds Tryd.pinned (OpenSpec.upto modeKeepsSpec)

/-- 'trellislaw.PutStands', WHERE WHAT IT READS IS OF BULK AT MOST 1048576: true; the input reads as it did. -/
def putStandsUptoRow : OpenClaim := { program := "ytmkmodbpeamdiaadoor", sum := "f6c97fd987f24bb1b3204c8765982ac317fb67557fcc22f90d125dd2932dc4e0", func := "trellis/trellislaw.PutStands", spec := "putStands", inPlace := ["internal/abi.NoEscape", "internal/bytealg.IndexByteString", "internal/bytealg.IndexString"], unfollowed := true, recurses := true, named := ["unicode/utf8.first", "unicode/utf8.acceptRanges", "internal/bytealg.MaxLen"], apart := false, laid := [("unicode/utf8.acceptRanges", laid_unicode_utf8_acceptRanges), ("unicode/utf8.first", laid_unicode_utf8_first)], narrowed := true }
def PutStandsUptoSaid : Prop := putStandsUptoRow.holds Tryd.pinned (OpenSpec.upto putStandsSpec)

end Rows
end Go.Proofs.YtmkmodbpeamdiaaDoor
