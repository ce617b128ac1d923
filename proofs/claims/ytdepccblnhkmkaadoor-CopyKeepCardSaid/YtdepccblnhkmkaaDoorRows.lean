/-
  NARROWER THAN 'FOR EVERY INPUT', by the rows' own cells (each row's printed sentence says how): CopyTake: laid · CopySeek: laid · CopyFinds: laid · CopyMove: laid · CopyKeep: laid.
  DERIVED. THE GIVEN ROWS OF THIS SEAT. 5 by the template 'for every input the law returns true; each argument reads behind the call as it read before'; 0 by the template 'total and deterministic' (their statements: YtdepccblnhkmkaaDoorTotals.lean).
  GIVEN WITH THE SEED: the statements are not yours to turn. If you find one false, say at which input.
  Laid BY PROGRAM, IN A SANDBOX (cutbox-rows.mjs): the forced cells as the released guide's own fill.sh prints them over the translation 4baac2988c24d923… (all of the seat's roots in one cut). By AI agents, Wed Nov 11 2026. No macro, syntax, notation, axiom, sorry.
-/
import Derived.Test.YtdepccblnhkmkaaDoorChecked
import GoSem.PinnedTables
import GoSem.Claim
import GoSem.ClaimJoined
import GoSem.ClaimMapViews
import Derived.JoinedTies
import Derived.KernelRfl
namespace Go.Proofs.YtdepccblnhkmkaaDoor
/- THE CELL 'sum', in the pinned program and in every row, IS THE sha256 OF THE DUMP (.gsa) THAT YtdepccblnhkmkaaDoorProg.lean LOADS. Nothing in Lean hashes anything: it is a label: what it is worth is what the hold of that sum in a sandbox is worth. -/
noncomputable def Tryd.pinned : Pinned := { name := "ytdepccblnhkmkaadoor", sum := "4baac2988c24d923158053e411c66fe08e5ade3a722c4f6001151d16889857ee", checked := Tryd.checked }
namespace Rows
def none {H : Type} : Left H := { results := [], args := [] }

/- WHAT THE LISTED PACKAGE-LEVEL VARIABLES READ AS WHEN THE CALL BEGINS. Each datum BY PROGRAM (the guide's laid-datum.mjs) off the statement by which the dump's own 'gosem.cut.vars' lays the variable. In a bare row this is a premise. The card (YtdepccblnhkmkaaDoorCards.lean) ties it to the program's text. -/
def laid_unicode_utf8_acceptRanges {H : Type} : DataW H := .agg [.agg [.lit (.int .u8 128), .lit (.int .u8 191)], .agg [.lit (.int .u8 160), .lit (.int .u8 191)], .agg [.lit (.int .u8 128), .lit (.int .u8 159)], .agg [.lit (.int .u8 144), .lit (.int .u8 191)], .agg [.lit (.int .u8 128), .lit (.int .u8 143)], .agg [.lit (.int .u8 0), .lit (.int .u8 0)], .agg [.lit (.int .u8 0), .lit (.int .u8 0)], .agg [.lit (.int .u8 0), .lit (.int .u8 0)], .agg [.lit (.int .u8 0), .lit (.int .u8 0)], .agg [.lit (.int .u8 0), .lit (.int .u8 0)], .agg [.lit (.int .u8 0), .lit (.int .u8 0)], .agg [.lit (.int .u8 0), .lit (.int .u8 0)], .agg [.lit (.int .u8 0), .lit (.int .u8 0)], .agg [.lit (.int .u8 0), .lit (.int .u8 0)], .agg [.lit (.int .u8 0), .lit (.int .u8 0)], .agg [.lit (.int .u8 0), .lit (.int .u8 0)]]
/-- One of Go's own tables, pinned by name: the form's constant. -/
def laid_unicode_utf8_first : DataW Unit := Go.Pinned.utf8First

/-- 'trellislaw.CopyTake': WHATEVER THE INPUT: true; the input reads as it did. -/
def copyTakeSpec : ChangeSpec := { name := "copyTake", fn := fun _ => fun
  | [d1, d2, d3] => { results := [.lit (.bool true)], args := [d1, d2, d3] }
  | _ => none }
def copyTakeRow : OpenClaim := { program := "ytdepccblnhkmkaadoor", sum := "4baac2988c24d923158053e411c66fe08e5ade3a722c4f6001151d16889857ee", func := "trellis/trellislaw.CopyTake", spec := "copyTake", inPlace := ["internal/abi.NoEscape", "internal/bytealg.MakeNoZero"], named := ["unicode/utf8.first", "unicode/utf8.acceptRanges"], apart := false, laid := [("unicode/utf8.acceptRanges", laid_unicode_utf8_acceptRanges), ("unicode/utf8.first", laid_unicode_utf8_first)] }
def CopyTakeSaid : Prop := copyTakeRow.holds Tryd.pinned (OpenSpec.ofChange copyTakeSpec)

/-- ITS FALSE NEIGHBOUR: 'it returns false'. Refute it at one input. -/
def copyTakeWrong : ChangeSpec := { name := "copyTake", fn := fun _ => fun
  | [d1, d2, d3] => { results := [.lit (.bool false)], args := [d1, d2, d3] }
  | _ => none }
def CopyTakeWrongFalsely : Prop := copyTakeRow.holds Tryd.pinned (OpenSpec.ofChange copyTakeWrong)

/-- 'trellislaw.CopySeek': WHATEVER THE INPUT: true; the input reads as it did. -/
def copySeekSpec : ChangeSpec := { name := "copySeek", fn := fun _ => fun
  | [d1, d2, d3] => { results := [.lit (.bool true)], args := [d1, d2, d3] }
  | _ => none }
def copySeekRow : OpenClaim := { program := "ytdepccblnhkmkaadoor", sum := "4baac2988c24d923158053e411c66fe08e5ade3a722c4f6001151d16889857ee", func := "trellis/trellislaw.CopySeek", spec := "copySeek", inPlace := ["internal/abi.NoEscape", "internal/bytealg.MakeNoZero"], named := ["unicode/utf8.first", "unicode/utf8.acceptRanges"], apart := false, laid := [("unicode/utf8.acceptRanges", laid_unicode_utf8_acceptRanges), ("unicode/utf8.first", laid_unicode_utf8_first)] }
def CopySeekSaid : Prop := copySeekRow.holds Tryd.pinned (OpenSpec.ofChange copySeekSpec)

/-- ITS FALSE NEIGHBOUR: 'it returns false'. Refute it at one input. -/
def copySeekWrong : ChangeSpec := { name := "copySeek", fn := fun _ => fun
  | [d1, d2, d3] => { results := [.lit (.bool false)], args := [d1, d2, d3] }
  | _ => none }
def CopySeekWrongFalsely : Prop := copySeekRow.holds Tryd.pinned (OpenSpec.ofChange copySeekWrong)

/-- 'trellislaw.CopyFinds': WHATEVER THE INPUT: true; the input reads as it did. -/
def copyFindsSpec : ChangeSpec := { name := "copyFinds", fn := fun _ => fun
  | [d1, d2, d3] => { results := [.lit (.bool true)], args := [d1, d2, d3] }
  | _ => none }
def copyFindsRow : OpenClaim := { program := "ytdepccblnhkmkaadoor", sum := "4baac2988c24d923158053e411c66fe08e5ade3a722c4f6001151d16889857ee", func := "trellis/trellislaw.CopyFinds", spec := "copyFinds", inPlace := ["internal/abi.NoEscape", "internal/bytealg.MakeNoZero"], named := ["unicode/utf8.first", "unicode/utf8.acceptRanges"], apart := false, laid := [("unicode/utf8.acceptRanges", laid_unicode_utf8_acceptRanges), ("unicode/utf8.first", laid_unicode_utf8_first)] }
def CopyFindsSaid : Prop := copyFindsRow.holds Tryd.pinned (OpenSpec.ofChange copyFindsSpec)

/-- ITS FALSE NEIGHBOUR: 'it returns false'. Refute it at one input. -/
def copyFindsWrong : ChangeSpec := { name := "copyFinds", fn := fun _ => fun
  | [d1, d2, d3] => { results := [.lit (.bool false)], args := [d1, d2, d3] }
  | _ => none }
def CopyFindsWrongFalsely : Prop := copyFindsRow.holds Tryd.pinned (OpenSpec.ofChange copyFindsWrong)

/-- 'trellislaw.CopyMove': WHATEVER THE INPUT: true; the input reads as it did. -/
def copyMoveSpec : ChangeSpec := { name := "copyMove", fn := fun _ => fun
  | [d1, d2, d3] => { results := [.lit (.bool true)], args := [d1, d2, d3] }
  | _ => none }
def copyMoveRow : OpenClaim := { program := "ytdepccblnhkmkaadoor", sum := "4baac2988c24d923158053e411c66fe08e5ade3a722c4f6001151d16889857ee", func := "trellis/trellislaw.CopyMove", spec := "copyMove", inPlace := ["internal/abi.NoEscape", "internal/bytealg.MakeNoZero"], unfollowed := true, recurses := true, named := ["unicode/utf8.first", "unicode/utf8.acceptRanges"], apart := false, laid := [("unicode/utf8.acceptRanges", laid_unicode_utf8_acceptRanges), ("unicode/utf8.first", laid_unicode_utf8_first)] }
def CopyMoveSaid : Prop := copyMoveRow.holds Tryd.pinned (OpenSpec.ofChange copyMoveSpec)

/-- ITS FALSE NEIGHBOUR: 'it returns false'. Refute it at one input. -/
def copyMoveWrong : ChangeSpec := { name := "copyMove", fn := fun _ => fun
  | [d1, d2, d3] => { results := [.lit (.bool false)], args := [d1, d2, d3] }
  | _ => none }
def CopyMoveWrongFalsely : Prop := copyMoveRow.holds Tryd.pinned (OpenSpec.ofChange copyMoveWrong)

/-- 'trellislaw.CopyKeep': WHATEVER THE INPUT: true; the input reads as it did. -/
def copyKeepSpec : ChangeSpec := { name := "copyKeep", fn := fun _ => fun
  | [d1, d2, d3] => { results := [.lit (.bool true)], args := [d1, d2, d3] }
  | _ => none }
def copyKeepRow : OpenClaim := { program := "ytdepccblnhkmkaadoor", sum := "4baac2988c24d923158053e411c66fe08e5ade3a722c4f6001151d16889857ee", func := "trellis/trellislaw.CopyKeep", spec := "copyKeep", inPlace := ["internal/bytealg.CountString", "internal/bytealg.IndexByteString", "internal/bytealg.IndexString", "internal/abi.NoEscape", "internal/bytealg.MakeNoZero"], named := ["internal/bytealg.MaxLen", "unicode/utf8.first", "unicode/utf8.acceptRanges"], apart := false, laid := [("unicode/utf8.acceptRanges", laid_unicode_utf8_acceptRanges), ("unicode/utf8.first", laid_unicode_utf8_first)] }
def CopyKeepSaid : Prop := copyKeepRow.holds Tryd.pinned (OpenSpec.ofChange copyKeepSpec)

/-- ITS FALSE NEIGHBOUR: 'it returns false'. Refute it at one input. -/
def copyKeepWrong : ChangeSpec := { name := "copyKeep", fn := fun _ => fun
  | [d1, d2, d3] => { results := [.lit (.bool false)], args := [d1, d2, d3] }
  | _ => none }
def CopyKeepWrongFalsely : Prop := copyKeepRow.holds Tryd.pinned (OpenSpec.ofChange copyKeepWrong)

/- THE SECOND FORM. 'bulk': how many values and letters a reading holds, each counted each time it is reached (what is shared counts as often as it is met; a slice's spare places count too). A statement '..UptoSaid' is the law's where the arguments, and the package variables that the reading takes, are together of bulk at most 1048576: NARROWER than '..Said'. Prove '..Said' where nothing that the law and all that it calls make is longer than what came in: it says more and counts as full. Else prove '..UptoSaid'. A law counts once. -/
mutual
def uptoBulk {H : Type} : DataW H → Nat
  | .lit (.string bytes) => bytes.length + 1
  | .lit _ => 1
  | .nil => 1
  | .ptr d => uptoBulk d + 1
  | .slice elems spare => uptoBulkAll elems + uptoBulkAll spare + 1
  | .agg parts => uptoBulkAll parts + 1
  | .iface _ d => uptoBulk d + 1
  | .map entries => uptoBulkEntries entries + 1
  | .held _ => 1
def uptoBulkAll {H : Type} : List (DataW H) → Nat
  | [] => 0
  | d :: r => uptoBulk d + uptoBulkAll r
def uptoBulkEntries {H : Type} : List (Lit × DataW H) → Nat
  | [] => 0
  | x :: r => uptoBulkEntry x + uptoBulkEntries r
def uptoBulkEntry {H : Type} : Lit × DataW H → Nat
  | (.string bytes, d) => bytes.length + uptoBulk d + 1
  | (_, d) => uptoBulk d + 1
 end
def uptoSmall : (H : Type) → List (DataW H) → Bool := fun _ ds => decide (uptoBulkAll ds ≤ 1048576)
def OpenSpec.upto (s : _root_.Go.ChangeSpec) : _root_.Go.OpenSpec := { _root_.Go.OpenSpec.ofChange s with cond := some uptoSmall }

/-- 'trellislaw.CopyTake', WHERE WHAT IT READS IS OF BULK AT MOST 1048576: true; the input reads as it did. -/
def copyTakeUptoRow : OpenClaim := { program := "ytdepccblnhkmkaadoor", sum := "4baac2988c24d923158053e411c66fe08e5ade3a722c4f6001151d16889857ee", func := "trellis/trellislaw.CopyTake", spec := "copyTake", inPlace := ["internal/abi.NoEscape", "internal/bytealg.MakeNoZero"], named := ["unicode/utf8.first", "unicode/utf8.acceptRanges"], apart := false, laid := [("unicode/utf8.acceptRanges", laid_unicode_utf8_acceptRanges), ("unicode/utf8.first", laid_unicode_utf8_first)], narrowed := true }
def CopyTakeUptoSaid : Prop := copyTakeUptoRow.holds Tryd.pinned (OpenSpec.upto copyTakeSpec)

/-- 'trellislaw.CopySeek', WHERE WHAT IT READS IS OF BULK AT MOST 1048576: true; the input reads as it did. -/
def copySeekUptoRow : OpenClaim := { program := "ytdepccblnhkmkaadoor", sum := "4baac2988c24d923158053e411c66fe08e5ade3a722c4f6001151d16889857ee", func := "trellis/trellislaw.CopySeek", spec := "copySeek", inPlace := ["internal/abi.NoEscape", "internal/bytealg.MakeNoZero"], named := ["unicode/utf8.first", "unicode/utf8.acceptRanges"], apart := false, laid := [("unicode/utf8.acceptRanges", laid_unicode_utf8_acceptRanges), ("unicode/utf8.first", laid_unicode_utf8_first)], narrowed := true }
def CopySeekUptoSaid : Prop := copySeekUptoRow.holds Tryd.pinned (OpenSpec.upto copySeekSpec)

/-- 'trellislaw.CopyFinds', WHERE WHAT IT READS IS OF BULK AT MOST 1048576: true; the input reads as it did. -/
def copyFindsUptoRow : OpenClaim := { program := "ytdepccblnhkmkaadoor", sum := "4baac2988c24d923158053e411c66fe08e5ade3a722c4f6001151d16889857ee", func := "trellis/trellislaw.CopyFinds", spec := "copyFinds", inPlace := ["internal/abi.NoEscape", "internal/bytealg.MakeNoZero"], named := ["unicode/utf8.first", "unicode/utf8.acceptRanges"], apart := false, laid := [("unicode/utf8.acceptRanges", laid_unicode_utf8_acceptRanges), ("unicode/utf8.first", laid_unicode_utf8_first)], narrowed := true }
def CopyFindsUptoSaid : Prop := copyFindsUptoRow.holds Tryd.pinned (OpenSpec.upto copyFindsSpec)

/-- 'trellislaw.CopyMove', WHERE WHAT IT READS IS OF BULK AT MOST 1048576: true; the input reads as it did. -/
def copyMoveUptoRow : OpenClaim := { program := "ytdepccblnhkmkaadoor", sum := "4baac2988c24d923158053e411c66fe08e5ade3a722c4f6001151d16889857ee", func := "trellis/trellislaw.CopyMove", spec := "copyMove", inPlace := ["internal/abi.NoEscape", "internal/bytealg.MakeNoZero"], unfollowed := true, recurses := true, named := ["unicode/utf8.first", "unicode/utf8.acceptRanges"], apart := false, laid := [("unicode/utf8.acceptRanges", laid_unicode_utf8_acceptRanges), ("unicode/utf8.first", laid_unicode_utf8_first)], narrowed := true }
def CopyMoveUptoSaid : Prop := copyMoveUptoRow.holds Tryd.pinned (OpenSpec.upto copyMoveSpec)

/-- 'trellislaw.CopyKeep', WHERE WHAT IT READS IS OF BULK AT MOST 1048576: true; the input reads as it did. -/
def copyKeepUptoRow : OpenClaim := { program := "ytdepccblnhkmkaadoor", sum := "4baac2988c24d923158053e411c66fe08e5ade3a722c4f6001151d16889857ee", func := "trellis/trellislaw.CopyKeep", spec := "copyKeep", inPlace := ["internal/bytealg.CountString", "internal/bytealg.IndexByteString", "internal/bytealg.IndexString", "internal/abi.NoEscape", "internal/bytealg.MakeNoZero"], named := ["internal/bytealg.MaxLen", "unicode/utf8.first", "unicode/utf8.acceptRanges"], apart := false, laid := [("unicode/utf8.acceptRanges", laid_unicode_utf8_acceptRanges), ("unicode/utf8.first", laid_unicode_utf8_first)], narrowed := true }
def CopyKeepUptoSaid : Prop := copyKeepUptoRow.holds Tryd.pinned (OpenSpec.upto copyKeepSpec)

end Rows
end Go.Proofs.YtdepccblnhkmkaaDoor
