/-
  NARROWER THAN 'FOR EVERY INPUT', by the rows' own cells (each row's printed sentence says how): TextClean: laid · TextColumns: laid · StyleApply: laid · GridFill: laid · GridWrite: laid · GridLines: laid · GridLay: laid · GridBack: laid · GridRight: laid · GridCheck: laid · GridPart: laid.
  DERIVED. THE GIVEN ROWS OF THIS SEAT. 11 by the template 'for every input the law returns true; each argument reads behind the call as it read before'; 0 by the template 'total and deterministic' (their statements: YtlfdmdhkbillpaaDoorTotals.lean).
  GIVEN WITH THE SEED: the statements are not yours to turn. If you find one false, say at which input.
  Laid BY PROGRAM, IN A SANDBOX (cutbox-rows.mjs): the forced cells as the released guide's own fill.sh prints them over the translation 87707eed7703d450… (all of the seat's roots in one cut). By AI agents, Wed Nov 11 2026. No macro, syntax, notation, axiom, sorry.
-/
import Derived.Test.YtlfdmdhkbillpaaDoorChecked
import GoSem.PinnedTables
import GoSem.Claim
import GoSem.ClaimJoined
import GoSem.ClaimMapViews
import Derived.JoinedTies
import Derived.KernelRfl
namespace Go.Proofs.YtlfdmdhkbillpaaDoor
/- THE CELL 'sum', in the pinned program and in every row, IS THE sha256 OF THE DUMP (.gsa) THAT YtlfdmdhkbillpaaDoorProg.lean LOADS. Nothing in Lean hashes anything: it is a label: what it is worth is what the hold of that sum in a sandbox is worth. -/
noncomputable def Tryd.pinned : Pinned := { name := "ytlfdmdhkbillpaadoor", sum := "87707eed7703d450a6106b1aeebb2e29b75f6fdd49612a810d5f0acfc0d00edb", checked := Tryd.checked }
namespace Rows
def none {H : Type} : Left H := { results := [], args := [] }

/- WHAT THE LISTED PACKAGE-LEVEL VARIABLES READ AS WHEN THE CALL BEGINS. Each datum BY PROGRAM (the guide's laid-datum.mjs) off the statement by which the dump's own 'gosem.cut.vars' lays the variable. In a bare row this is a premise. The card (YtlfdmdhkbillpaaDoorCards.lean) ties it to the program's text. -/
def laid_unicode_utf8_acceptRanges {H : Type} : DataW H := .agg [.agg [.lit (.int .u8 128), .lit (.int .u8 191)], .agg [.lit (.int .u8 160), .lit (.int .u8 191)], .agg [.lit (.int .u8 128), .lit (.int .u8 159)], .agg [.lit (.int .u8 144), .lit (.int .u8 191)], .agg [.lit (.int .u8 128), .lit (.int .u8 143)], .agg [.lit (.int .u8 0), .lit (.int .u8 0)], .agg [.lit (.int .u8 0), .lit (.int .u8 0)], .agg [.lit (.int .u8 0), .lit (.int .u8 0)], .agg [.lit (.int .u8 0), .lit (.int .u8 0)], .agg [.lit (.int .u8 0), .lit (.int .u8 0)], .agg [.lit (.int .u8 0), .lit (.int .u8 0)], .agg [.lit (.int .u8 0), .lit (.int .u8 0)], .agg [.lit (.int .u8 0), .lit (.int .u8 0)], .agg [.lit (.int .u8 0), .lit (.int .u8 0)], .agg [.lit (.int .u8 0), .lit (.int .u8 0)], .agg [.lit (.int .u8 0), .lit (.int .u8 0)]]
/-- One of Go's own tables, pinned by name: the form's constant. -/
def laid_unicode_utf8_first : DataW Unit := Go.Pinned.utf8First
def laid_math_bits_deBruijn32tab {H : Type} : DataW H := .agg [.lit (.int .u8 0), .lit (.int .u8 1), .lit (.int .u8 28), .lit (.int .u8 2), .lit (.int .u8 29), .lit (.int .u8 14), .lit (.int .u8 24), .lit (.int .u8 3), .lit (.int .u8 30), .lit (.int .u8 22), .lit (.int .u8 20), .lit (.int .u8 15), .lit (.int .u8 25), .lit (.int .u8 17), .lit (.int .u8 4), .lit (.int .u8 8), .lit (.int .u8 31), .lit (.int .u8 27), .lit (.int .u8 13), .lit (.int .u8 23), .lit (.int .u8 21), .lit (.int .u8 19), .lit (.int .u8 16), .lit (.int .u8 7), .lit (.int .u8 26), .lit (.int .u8 12), .lit (.int .u8 18), .lit (.int .u8 6), .lit (.int .u8 11), .lit (.int .u8 5), .lit (.int .u8 10), .lit (.int .u8 9)]
def laid_math_bits_deBruijn64tab {H : Type} : DataW H := .agg [.lit (.int .u8 0), .lit (.int .u8 1), .lit (.int .u8 56), .lit (.int .u8 2), .lit (.int .u8 57), .lit (.int .u8 49), .lit (.int .u8 28), .lit (.int .u8 3), .lit (.int .u8 61), .lit (.int .u8 58), .lit (.int .u8 42), .lit (.int .u8 50), .lit (.int .u8 38), .lit (.int .u8 29), .lit (.int .u8 17), .lit (.int .u8 4), .lit (.int .u8 62), .lit (.int .u8 47), .lit (.int .u8 59), .lit (.int .u8 36), .lit (.int .u8 45), .lit (.int .u8 43), .lit (.int .u8 51), .lit (.int .u8 22), .lit (.int .u8 53), .lit (.int .u8 39), .lit (.int .u8 33), .lit (.int .u8 30), .lit (.int .u8 24), .lit (.int .u8 18), .lit (.int .u8 12), .lit (.int .u8 5), .lit (.int .u8 63), .lit (.int .u8 55), .lit (.int .u8 48), .lit (.int .u8 27), .lit (.int .u8 60), .lit (.int .u8 41), .lit (.int .u8 37), .lit (.int .u8 16), .lit (.int .u8 46), .lit (.int .u8 35), .lit (.int .u8 44), .lit (.int .u8 21), .lit (.int .u8 52), .lit (.int .u8 32), .lit (.int .u8 23), .lit (.int .u8 11), .lit (.int .u8 54), .lit (.int .u8 26), .lit (.int .u8 40), .lit (.int .u8 15), .lit (.int .u8 34), .lit (.int .u8 20), .lit (.int .u8 31), .lit (.int .u8 10), .lit (.int .u8 25), .lit (.int .u8 14), .lit (.int .u8 19), .lit (.int .u8 9), .lit (.int .u8 13), .lit (.int .u8 8), .lit (.int .u8 7), .lit (.int .u8 6)]
def laid_internal_strconv_uint64pow10 {H : Type} : DataW H := .agg [.lit (.int .u64 1), .lit (.int .u64 10), .lit (.int .u64 100), .lit (.int .u64 1000), .lit (.int .u64 10000), .lit (.int .u64 100000), .lit (.int .u64 1000000), .lit (.int .u64 10000000), .lit (.int .u64 100000000), .lit (.int .u64 1000000000), .lit (.int .u64 10000000000), .lit (.int .u64 100000000000), .lit (.int .u64 1000000000000), .lit (.int .u64 10000000000000), .lit (.int .u64 100000000000000), .lit (.int .u64 1000000000000000), .lit (.int .u64 10000000000000000), .lit (.int .u64 100000000000000000), .lit (.int .u64 1000000000000000000), .lit (.int .u64 10000000000000000000)]

/-- 'trellislaw.TextClean': WHATEVER THE INPUT: true; the input reads as it did. -/
def textCleanSpec : ChangeSpec := { name := "textClean", fn := fun _ => fun
  | [d] => { results := [.lit (.bool true)], args := [d] }
  | _ => none }
def textCleanRow : OpenClaim := { program := "ytlfdmdhkbillpaadoor", sum := "87707eed7703d450a6106b1aeebb2e29b75f6fdd49612a810d5f0acfc0d00edb", func := "trellis/trellislaw.TextClean", spec := "textClean", inPlace := ["internal/abi.NoEscape", "internal/bytealg.MakeNoZero"], named := ["unicode/utf8.first", "unicode/utf8.acceptRanges"], apart := false, laid := [("unicode/utf8.acceptRanges", laid_unicode_utf8_acceptRanges), ("unicode/utf8.first", laid_unicode_utf8_first)] }
def TextCleanSaid : Prop := textCleanRow.holds Tryd.pinned (OpenSpec.ofChange textCleanSpec)

/-- ITS FALSE NEIGHBOUR: 'it returns false'. Refute it at one input. -/
def textCleanWrong : ChangeSpec := { name := "textClean", fn := fun _ => fun
  | [d] => { results := [.lit (.bool false)], args := [d] }
  | _ => none }
def TextCleanWrongFalsely : Prop := textCleanRow.holds Tryd.pinned (OpenSpec.ofChange textCleanWrong)

/-- 'trellislaw.TextColumns': WHATEVER THE INPUT: true; the input reads as it did. -/
def textColumnsSpec : ChangeSpec := { name := "textColumns", fn := fun _ => fun
  | [d] => { results := [.lit (.bool true)], args := [d] }
  | _ => none }
def textColumnsRow : OpenClaim := { program := "ytlfdmdhkbillpaadoor", sum := "87707eed7703d450a6106b1aeebb2e29b75f6fdd49612a810d5f0acfc0d00edb", func := "trellis/trellislaw.TextColumns", spec := "textColumns", inPlace := ["internal/abi.NoEscape", "internal/bytealg.MakeNoZero"], named := ["unicode/utf8.first", "unicode/utf8.acceptRanges"], apart := false, laid := [("unicode/utf8.acceptRanges", laid_unicode_utf8_acceptRanges), ("unicode/utf8.first", laid_unicode_utf8_first)] }
def TextColumnsSaid : Prop := textColumnsRow.holds Tryd.pinned (OpenSpec.ofChange textColumnsSpec)

/-- ITS FALSE NEIGHBOUR: 'it returns false'. Refute it at one input. -/
def textColumnsWrong : ChangeSpec := { name := "textColumns", fn := fun _ => fun
  | [d] => { results := [.lit (.bool false)], args := [d] }
  | _ => none }
def TextColumnsWrongFalsely : Prop := textColumnsRow.holds Tryd.pinned (OpenSpec.ofChange textColumnsWrong)

/-- 'trellislaw.StyleApply': WHATEVER THE INPUT: true; the input reads as it did. -/
def styleApplySpec : ChangeSpec := { name := "styleApply", fn := fun _ => fun
  | [d1, d2] => { results := [.lit (.bool true)], args := [d1, d2] }
  | _ => none }
def styleApplyRow : OpenClaim := { program := "ytlfdmdhkbillpaadoor", sum := "87707eed7703d450a6106b1aeebb2e29b75f6fdd49612a810d5f0acfc0d00edb", func := "trellis/trellislaw.StyleApply", spec := "styleApply", inPlace := ["internal/abi.NoEscape", "internal/bytealg.MakeNoZero"], named := ["internal/strconv.uint64pow10", "math/bits.deBruijn32tab", "math/bits.deBruijn64tab"], apart := false, laid := [("math/bits.deBruijn32tab", laid_math_bits_deBruijn32tab), ("math/bits.deBruijn64tab", laid_math_bits_deBruijn64tab), ("internal/strconv.uint64pow10", laid_internal_strconv_uint64pow10)] }
def StyleApplySaid : Prop := styleApplyRow.holds Tryd.pinned (OpenSpec.ofChange styleApplySpec)

/-- ITS FALSE NEIGHBOUR: 'it returns false'. Refute it at one input. -/
def styleApplyWrong : ChangeSpec := { name := "styleApply", fn := fun _ => fun
  | [d1, d2] => { results := [.lit (.bool false)], args := [d1, d2] }
  | _ => none }
def StyleApplyWrongFalsely : Prop := styleApplyRow.holds Tryd.pinned (OpenSpec.ofChange styleApplyWrong)

/-- 'trellislaw.GridFill': WHATEVER THE INPUT: true; the input reads as it did. -/
def gridFillSpec : ChangeSpec := { name := "gridFill", fn := fun _ => fun
  | [d1, d2, d3] => { results := [.lit (.bool true)], args := [d1, d2, d3] }
  | _ => none }
def gridFillRow : OpenClaim := { program := "ytlfdmdhkbillpaadoor", sum := "87707eed7703d450a6106b1aeebb2e29b75f6fdd49612a810d5f0acfc0d00edb", func := "trellis/trellislaw.GridFill", spec := "gridFill", inPlace := ["internal/abi.NoEscape", "internal/bytealg.IndexByteString", "internal/bytealg.IndexString"], named := ["unicode/utf8.first", "unicode/utf8.acceptRanges", "internal/bytealg.MaxLen"], apart := false, laid := [("unicode/utf8.acceptRanges", laid_unicode_utf8_acceptRanges), ("unicode/utf8.first", laid_unicode_utf8_first)] }
def GridFillSaid : Prop := gridFillRow.holds Tryd.pinned (OpenSpec.ofChange gridFillSpec)

/-- ITS FALSE NEIGHBOUR: 'it returns false'. Refute it at one input. -/
def gridFillWrong : ChangeSpec := { name := "gridFill", fn := fun _ => fun
  | [d1, d2, d3] => { results := [.lit (.bool false)], args := [d1, d2, d3] }
  | _ => none }
def GridFillWrongFalsely : Prop := gridFillRow.holds Tryd.pinned (OpenSpec.ofChange gridFillWrong)

/-- 'trellislaw.GridWrite': WHATEVER THE INPUT: true; the input reads as it did. -/
def gridWriteSpec : ChangeSpec := { name := "gridWrite", fn := fun _ => fun
  | [d1, d2, d3, d4, d5] => { results := [.lit (.bool true)], args := [d1, d2, d3, d4, d5] }
  | _ => none }
def gridWriteRow : OpenClaim := { program := "ytlfdmdhkbillpaadoor", sum := "87707eed7703d450a6106b1aeebb2e29b75f6fdd49612a810d5f0acfc0d00edb", func := "trellis/trellislaw.GridWrite", spec := "gridWrite", inPlace := ["internal/abi.NoEscape", "internal/bytealg.IndexByteString", "internal/bytealg.IndexString"], named := ["unicode/utf8.first", "unicode/utf8.acceptRanges", "internal/bytealg.MaxLen"], apart := false, laid := [("unicode/utf8.acceptRanges", laid_unicode_utf8_acceptRanges), ("unicode/utf8.first", laid_unicode_utf8_first)] }
def GridWriteSaid : Prop := gridWriteRow.holds Tryd.pinned (OpenSpec.ofChange gridWriteSpec)

/-- ITS FALSE NEIGHBOUR: 'it returns false'. Refute it at one input. -/
def gridWriteWrong : ChangeSpec := { name := "gridWrite", fn := fun _ => fun
  | [d1, d2, d3, d4, d5] => { results := [.lit (.bool false)], args := [d1, d2, d3, d4, d5] }
  | _ => none }
def GridWriteWrongFalsely : Prop := gridWriteRow.holds Tryd.pinned (OpenSpec.ofChange gridWriteWrong)

/-- 'trellislaw.GridLines': WHATEVER THE INPUT: true; the input reads as it did. -/
def gridLinesSpec : ChangeSpec := { name := "gridLines", fn := fun _ => fun
  | [d] => { results := [.lit (.bool true)], args := [d] }
  | _ => none }
def gridLinesRow : OpenClaim := { program := "ytlfdmdhkbillpaadoor", sum := "87707eed7703d450a6106b1aeebb2e29b75f6fdd49612a810d5f0acfc0d00edb", func := "trellis/trellislaw.GridLines", spec := "gridLines", inPlace := ["internal/abi.NoEscape", "internal/bytealg.IndexByteString", "internal/bytealg.IndexString"], named := ["unicode/utf8.first", "unicode/utf8.acceptRanges", "internal/bytealg.MaxLen"], apart := false, laid := [("unicode/utf8.acceptRanges", laid_unicode_utf8_acceptRanges), ("unicode/utf8.first", laid_unicode_utf8_first)] }
def GridLinesSaid : Prop := gridLinesRow.holds Tryd.pinned (OpenSpec.ofChange gridLinesSpec)

/-- ITS FALSE NEIGHBOUR: 'it returns false'. Refute it at one input. -/
def gridLinesWrong : ChangeSpec := { name := "gridLines", fn := fun _ => fun
  | [d] => { results := [.lit (.bool false)], args := [d] }
  | _ => none }
def GridLinesWrongFalsely : Prop := gridLinesRow.holds Tryd.pinned (OpenSpec.ofChange gridLinesWrong)

/-- 'trellislaw.GridLay': WHATEVER THE INPUT: true; the input reads as it did. -/
def gridLaySpec : ChangeSpec := { name := "gridLay", fn := fun _ => fun
  | [d1, d2, d3, d4] => { results := [.lit (.bool true)], args := [d1, d2, d3, d4] }
  | _ => none }
def gridLayRow : OpenClaim := { program := "ytlfdmdhkbillpaadoor", sum := "87707eed7703d450a6106b1aeebb2e29b75f6fdd49612a810d5f0acfc0d00edb", func := "trellis/trellislaw.GridLay", spec := "gridLay", inPlace := ["internal/abi.NoEscape", "internal/bytealg.IndexByteString", "internal/bytealg.IndexString"], named := ["unicode/utf8.first", "unicode/utf8.acceptRanges", "internal/bytealg.MaxLen"], apart := false, laid := [("unicode/utf8.acceptRanges", laid_unicode_utf8_acceptRanges), ("unicode/utf8.first", laid_unicode_utf8_first)] }
def GridLaySaid : Prop := gridLayRow.holds Tryd.pinned (OpenSpec.ofChange gridLaySpec)

/-- ITS FALSE NEIGHBOUR: 'it returns false'. Refute it at one input. -/
def gridLayWrong : ChangeSpec := { name := "gridLay", fn := fun _ => fun
  | [d1, d2, d3, d4] => { results := [.lit (.bool false)], args := [d1, d2, d3, d4] }
  | _ => none }
def GridLayWrongFalsely : Prop := gridLayRow.holds Tryd.pinned (OpenSpec.ofChange gridLayWrong)

/-- 'trellislaw.GridBack': WHATEVER THE INPUT: true; the input reads as it did. -/
def gridBackSpec : ChangeSpec := { name := "gridBack", fn := fun _ => fun
  | [d1, d2, d3, d4] => { results := [.lit (.bool true)], args := [d1, d2, d3, d4] }
  | _ => none }
def gridBackRow : OpenClaim := { program := "ytlfdmdhkbillpaadoor", sum := "87707eed7703d450a6106b1aeebb2e29b75f6fdd49612a810d5f0acfc0d00edb", func := "trellis/trellislaw.GridBack", spec := "gridBack", inPlace := ["internal/abi.NoEscape", "internal/bytealg.IndexByteString", "internal/bytealg.IndexString"], named := ["unicode/utf8.first", "unicode/utf8.acceptRanges", "internal/bytealg.MaxLen"], apart := false, laid := [("unicode/utf8.acceptRanges", laid_unicode_utf8_acceptRanges), ("unicode/utf8.first", laid_unicode_utf8_first)] }
def GridBackSaid : Prop := gridBackRow.holds Tryd.pinned (OpenSpec.ofChange gridBackSpec)

/-- ITS FALSE NEIGHBOUR: 'it returns false'. Refute it at one input. -/
def gridBackWrong : ChangeSpec := { name := "gridBack", fn := fun _ => fun
  | [d1, d2, d3, d4] => { results := [.lit (.bool false)], args := [d1, d2, d3, d4] }
  | _ => none }
def GridBackWrongFalsely : Prop := gridBackRow.holds Tryd.pinned (OpenSpec.ofChange gridBackWrong)

/-- 'trellislaw.GridRight': WHATEVER THE INPUT: true; the input reads as it did. -/
def gridRightSpec : ChangeSpec := { name := "gridRight", fn := fun _ => fun
  | [d1, d2, d3, d4, d5, d6, d7] => { results := [.lit (.bool true)], args := [d1, d2, d3, d4, d5, d6, d7] }
  | _ => none }
def gridRightRow : OpenClaim := { program := "ytlfdmdhkbillpaadoor", sum := "87707eed7703d450a6106b1aeebb2e29b75f6fdd49612a810d5f0acfc0d00edb", func := "trellis/trellislaw.GridRight", spec := "gridRight", inPlace := ["internal/abi.NoEscape", "internal/bytealg.IndexByteString", "internal/bytealg.IndexString"], unfollowed := true, recurses := true, named := ["unicode/utf8.first", "unicode/utf8.acceptRanges", "internal/bytealg.MaxLen"], apart := false, laid := [("unicode/utf8.acceptRanges", laid_unicode_utf8_acceptRanges), ("unicode/utf8.first", laid_unicode_utf8_first)] }
def GridRightSaid : Prop := gridRightRow.holds Tryd.pinned (OpenSpec.ofChange gridRightSpec)

/-- ITS FALSE NEIGHBOUR: 'it returns false'. Refute it at one input. -/
def gridRightWrong : ChangeSpec := { name := "gridRight", fn := fun _ => fun
  | [d1, d2, d3, d4, d5, d6, d7] => { results := [.lit (.bool false)], args := [d1, d2, d3, d4, d5, d6, d7] }
  | _ => none }
def GridRightWrongFalsely : Prop := gridRightRow.holds Tryd.pinned (OpenSpec.ofChange gridRightWrong)

/-- 'trellislaw.GridCheck': WHATEVER THE INPUT: true; the input reads as it did. -/
def gridCheckSpec : ChangeSpec := { name := "gridCheck", fn := fun _ => fun
  | [d1, d2, d3] => { results := [.lit (.bool true)], args := [d1, d2, d3] }
  | _ => none }
def gridCheckRow : OpenClaim := { program := "ytlfdmdhkbillpaadoor", sum := "87707eed7703d450a6106b1aeebb2e29b75f6fdd49612a810d5f0acfc0d00edb", func := "trellis/trellislaw.GridCheck", spec := "gridCheck", inPlace := ["internal/abi.NoEscape", "internal/bytealg.IndexByteString", "internal/bytealg.IndexString"], named := ["unicode/utf8.first", "unicode/utf8.acceptRanges", "internal/bytealg.MaxLen"], apart := false, laid := [("unicode/utf8.acceptRanges", laid_unicode_utf8_acceptRanges), ("unicode/utf8.first", laid_unicode_utf8_first)] }
def GridCheckSaid : Prop := gridCheckRow.holds Tryd.pinned (OpenSpec.ofChange gridCheckSpec)

/-- ITS FALSE NEIGHBOUR: 'it returns false'. Refute it at one input. -/
def gridCheckWrong : ChangeSpec := { name := "gridCheck", fn := fun _ => fun
  | [d1, d2, d3] => { results := [.lit (.bool false)], args := [d1, d2, d3] }
  | _ => none }
def GridCheckWrongFalsely : Prop := gridCheckRow.holds Tryd.pinned (OpenSpec.ofChange gridCheckWrong)

/-- 'trellislaw.GridPart': WHATEVER THE INPUT: true; the input reads as it did. -/
def gridPartSpec : ChangeSpec := { name := "gridPart", fn := fun _ => fun
  | [d1, d2, d3, d4] => { results := [.lit (.bool true)], args := [d1, d2, d3, d4] }
  | _ => none }
def gridPartRow : OpenClaim := { program := "ytlfdmdhkbillpaadoor", sum := "87707eed7703d450a6106b1aeebb2e29b75f6fdd49612a810d5f0acfc0d00edb", func := "trellis/trellislaw.GridPart", spec := "gridPart", inPlace := ["internal/abi.NoEscape", "internal/bytealg.IndexByteString", "internal/bytealg.IndexString"], named := ["unicode/utf8.first", "unicode/utf8.acceptRanges", "internal/bytealg.MaxLen"], apart := false, laid := [("unicode/utf8.acceptRanges", laid_unicode_utf8_acceptRanges), ("unicode/utf8.first", laid_unicode_utf8_first)] }
def GridPartSaid : Prop := gridPartRow.holds Tryd.pinned (OpenSpec.ofChange gridPartSpec)

/-- ITS FALSE NEIGHBOUR: 'it returns false'. Refute it at one input. -/
def gridPartWrong : ChangeSpec := { name := "gridPart", fn := fun _ => fun
  | [d1, d2, d3, d4] => { results := [.lit (.bool false)], args := [d1, d2, d3, d4] }
  | _ => none }
def GridPartWrongFalsely : Prop := gridPartRow.holds Tryd.pinned (OpenSpec.ofChange gridPartWrong)

/- THE SECOND FORM. 'bulk': how many values and letters a reading holds, each counted each time it is reached (what is shared counts as often as it is met; a slice's spare places count too). A statement '..UptoSaid' is the law's where the arguments, and the package variables that the reading takes, are together of bulk at most 1048576: NARROWER than '..Said'. Prove '..Said' where nothing that the law and all that it calls make is longer than what came in: it says more and counts as full. Else prove '..UptoSaid'. A law counts once. -/
mutual
def uptoBulk {H : Type} : DataW H → Nat
  | .lit (.string bytes) => bytes.length + 1
  | .lit _ => 1
  | .nil => 1
  | .ptr d => uptoBulk d + 1
  | .slice elems spare => uptoBulkAll elems + uptoBulkAll spare + 1
  | .agg parts => uptoBulkAll parts + 1
  | .iface _ d => uptoBulk d + 1
  | .map entries => uptoBulkEntries entries + 1
  | .held _ => 1
def uptoBulkAll {H : Type} : List (DataW H) → Nat
  | [] => 0
  | d :: r => uptoBulk d + uptoBulkAll r
def uptoBulkEntries {H : Type} : List (Lit × DataW H) → Nat
  | [] => 0
  | x :: r => uptoBulkEntry x + uptoBulkEntries r
def uptoBulkEntry {H : Type} : Lit × DataW H → Nat
  | (.string bytes, d) => bytes.length + uptoBulk d + 1
  | (_, d) => uptoBulk d + 1
 end
def uptoSmall : (H : Type) → List (DataW H) → Bool := fun _ ds => decide (uptoBulkAll ds ≤ 1048576)
def OpenSpec.upto (s : _root_.Go.ChangeSpec) : _root_.Go.OpenSpec := { _root_.Go.OpenSpec.ofChange s with cond := some uptoSmall }

/-- 'trellislaw.TextClean', WHERE WHAT IT READS IS OF BULK AT MOST 1048576: true; the input reads as it did. -/
def textCleanUptoRow : OpenClaim := { program := "ytlfdmdhkbillpaadoor", sum := "87707eed7703d450a6106b1aeebb2e29b75f6fdd49612a810d5f0acfc0d00edb", func := "trellis/trellislaw.TextClean", spec := "textClean", inPlace := ["internal/abi.NoEscape", "internal/bytealg.MakeNoZero"], named := ["unicode/utf8.first", "unicode/utf8.acceptRanges"], apart := false, laid := [("unicode/utf8.acceptRanges", laid_unicode_utf8_acceptRanges), ("unicode/utf8.first", laid_unicode_utf8_first)], narrowed := true }
def TextCleanUptoSaid : Prop := textCleanUptoRow.holds Tryd.pinned (OpenSpec.upto textCleanSpec)

/-- 'trellislaw.TextColumns', WHERE WHAT IT READS IS OF BULK AT MOST 1048576: true; the input reads as it did. -/
def textColumnsUptoRow : OpenClaim := { program := "ytlfdmdhkbillpaadoor", sum := "87707eed7703d450a6106b1aeebb2e29b75f6fdd49612a810d5f0acfc0d00edb", func := "trellis/trellislaw.TextColumns", spec := "textColumns", inPlace := ["internal/abi.NoEscape", "internal/bytealg.MakeNoZero"], named := ["unicode/utf8.first", "unicode/utf8.acceptRanges"], apart := false, laid := [("unicode/utf8.acceptRanges", laid_unicode_utf8_acceptRanges), ("unicode/utf8.first", laid_unicode_utf8_first)], narrowed := true }
def TextColumnsUptoSaid : Prop := textColumnsUptoRow.holds Tryd.pinned (OpenSpec.upto textColumnsSpec)

/-- 'trellislaw.StyleApply', WHERE WHAT IT READS IS OF BULK AT MOST 1048576: true; the input reads as it did. -/
def styleApplyUptoRow : OpenClaim := { program := "ytlfdmdhkbillpaadoor", sum := "87707eed7703d450a6106b1aeebb2e29b75f6fdd49612a810d5f0acfc0d00edb", func := "trellis/trellislaw.StyleApply", spec := "styleApply", inPlace := ["internal/abi.NoEscape", "internal/bytealg.MakeNoZero"], named := ["internal/strconv.uint64pow10", "math/bits.deBruijn32tab", "math/bits.deBruijn64tab"], apart := false, laid := [("math/bits.deBruijn32tab", laid_math_bits_deBruijn32tab), ("math/bits.deBruijn64tab", laid_math_bits_deBruijn64tab), ("internal/strconv.uint64pow10", laid_internal_strconv_uint64pow10)], narrowed := true }
def StyleApplyUptoSaid : Prop := styleApplyUptoRow.holds Tryd.pinned (OpenSpec.upto styleApplySpec)

/-- 'trellislaw.GridFill', WHERE WHAT IT READS IS OF BULK AT MOST 1048576: true; the input reads as it did. -/
def gridFillUptoRow : OpenClaim := { program := "ytlfdmdhkbillpaadoor", sum := "87707eed7703d450a6106b1aeebb2e29b75f6fdd49612a810d5f0acfc0d00edb", func := "trellis/trellislaw.GridFill", spec := "gridFill", inPlace := ["internal/abi.NoEscape", "internal/bytealg.IndexByteString", "internal/bytealg.IndexString"], named := ["unicode/utf8.first", "unicode/utf8.acceptRanges", "internal/bytealg.MaxLen"], apart := false, laid := [("unicode/utf8.acceptRanges", laid_unicode_utf8_acceptRanges), ("unicode/utf8.first", laid_unicode_utf8_first)], narrowed := true }
def GridFillUptoSaid : Prop := gridFillUptoRow.holds Tryd.pinned (OpenSpec.upto gridFillSpec)

/-- 'trellislaw.GridWrite', WHERE WHAT IT READS IS OF BULK AT MOST 1048576: true; the input reads as it did. -/
def gridWriteUptoRow : OpenClaim := { program := "ytlfdmdhkbillpaadoor", sum := "87707eed7703d450a6106b1aeebb2e29b75f6fdd49612a810d5f0acfc0d00edb", func := "trellis/trellislaw.GridWrite", spec := "gridWrite", inPlace := ["internal/abi.NoEscape", "internal/bytealg.IndexByteString", "internal/bytealg.IndexString"], named := ["unicode/utf8.first", "unicode/utf8.acceptRanges", "internal/bytealg.MaxLen"], apart := false, laid := [("unicode/utf8.acceptRanges", laid_unicode_utf8_acceptRanges), ("unicode/utf8.first", laid_unicode_utf8_first)], narrowed := true }
def GridWriteUptoSaid : Prop := gridWriteUptoRow.holds Tryd.pinned (OpenSpec.upto gridWriteSpec)

/-- 'trellislaw.GridLines', WHERE WHAT IT READS IS OF BULK AT MOST 1048576: true; the input reads as it did. -/
def gridLinesUptoRow : OpenClaim := { program := "ytlfdmdhkbillpaadoor", sum := "87707eed7703d450a6106b1aeebb2e29b75f6fdd49612a810d5f0acfc0d00edb", func := "trellis/trellislaw.GridLines", spec := "gridLines", inPlace := ["internal/abi.NoEscape", "internal/bytealg.IndexByteString", "internal/bytealg.IndexString"], named := ["unicode/utf8.first", "unicode/utf8.acceptRanges", "internal/bytealg.MaxLen"], apart := false, laid := [("unicode/utf8.acceptRanges", laid_unicode_utf8_acceptRanges), ("unicode/utf8.first", laid_unicode_utf8_first)], narrowed := true }
def GridLinesUptoSaid : Prop := gridLinesUptoRow.holds Tryd.pinned (OpenSpec.upto gridLinesSpec)

/-- 'trellislaw.GridLay', WHERE WHAT IT READS IS OF BULK AT MOST 1048576: true; the input reads as it did. -/
def gridLayUptoRow : OpenClaim := { program := "ytlfdmdhkbillpaadoor", sum := "87707eed7703d450a6106b1aeebb2e29b75f6fdd49612a810d5f0acfc0d00edb", func := "trellis/trellislaw.GridLay", spec := "gridLay", inPlace := ["internal/abi.NoEscape", "internal/bytealg.IndexByteString", "internal/bytealg.IndexString"], named := ["unicode/utf8.first", "unicode/utf8.acceptRanges", "internal/bytealg.MaxLen"], apart := false, laid := [("unicode/utf8.acceptRanges", laid_unicode_utf8_acceptRanges), ("unicode/utf8.first", laid_unicode_utf8_first)], narrowed := true }
def GridLayUptoSaid : Prop := gridLayUptoRow.holds Tryd.pinned (OpenSpec.upto gridLaySpec)

/-- 'trellislaw.GridBack', WHERE WHAT IT READS IS OF BULK AT MOST 1048576: true; the input reads as it did. -/
def gridBackUptoRow : OpenClaim := { program := "ytlfdmdhkbillpaadoor", sum := "87707eed7703d450a6106b1aeebb2e29b75f6fdd49612a810d5f0acfc0d00edb", func := "trellis/trellislaw.GridBack", spec := "gridBack", inPlace := ["internal/abi.NoEscape", "internal/bytealg.IndexByteString", "internal/bytealg.IndexString"], named := ["unicode/utf8.first", "unicode/utf8.acceptRanges", "internal/bytealg.MaxLen"], apart := false, laid := [("unicode/utf8.acceptRanges", laid_unicode_utf8_acceptRanges), ("unicode/utf8.first", laid_unicode_utf8_first)], narrowed := true }
def GridBackUptoSaid : Prop := gridBackUptoRow.holds Tryd.pinned (OpenSpec.upto gridBackSpec)

/-- 'trellislaw.GridRight', WHERE WHAT IT READS IS OF BULK AT MOST 1048576: true; the input reads as it did. -/
def gridRightUptoRow : OpenClaim := { program := "ytlfdmdhkbillpaadoor", sum := "87707eed7703d450a6106b1aeebb2e29b75f6fdd49612a810d5f0acfc0d00edb", func := "trellis/trellislaw.GridRight", spec := "gridRight", inPlace := ["internal/abi.NoEscape", "internal/bytealg.IndexByteString", "internal/bytealg.IndexString"], unfollowed := true, recurses := true, named := ["unicode/utf8.first", "unicode/utf8.acceptRanges", "internal/bytealg.MaxLen"], apart := false, laid := [("unicode/utf8.acceptRanges", laid_unicode_utf8_acceptRanges), ("unicode/utf8.first", laid_unicode_utf8_first)], narrowed := true }
def GridRightUptoSaid : Prop := gridRightUptoRow.holds Tryd.pinned (OpenSpec.upto gridRightSpec)

/-- 'trellislaw.GridCheck', WHERE WHAT IT READS IS OF BULK AT MOST 1048576: true; the input reads as it did. -/
def gridCheckUptoRow : OpenClaim := { program := "ytlfdmdhkbillpaadoor", sum := "87707eed7703d450a6106b1aeebb2e29b75f6fdd49612a810d5f0acfc0d00edb", func := "trellis/trellislaw.GridCheck", spec := "gridCheck", inPlace := ["internal/abi.NoEscape", "internal/bytealg.IndexByteString", "internal/bytealg.IndexString"], named := ["unicode/utf8.first", "unicode/utf8.acceptRanges", "internal/bytealg.MaxLen"], apart := false, laid := [("unicode/utf8.acceptRanges", laid_unicode_utf8_acceptRanges), ("unicode/utf8.first", laid_unicode_utf8_first)], narrowed := true }
def GridCheckUptoSaid : Prop := gridCheckUptoRow.holds Tryd.pinned (OpenSpec.upto gridCheckSpec)

/-- 'trellislaw.GridPart', WHERE WHAT IT READS IS OF BULK AT MOST 1048576: true; the input reads as it did. -/
def gridPartUptoRow : OpenClaim := { program := "ytlfdmdhkbillpaadoor", sum := "87707eed7703d450a6106b1aeebb2e29b75f6fdd49612a810d5f0acfc0d00edb", func := "trellis/trellislaw.GridPart", spec := "gridPart", inPlace := ["internal/abi.NoEscape", "internal/bytealg.IndexByteString", "internal/bytealg.IndexString"], named := ["unicode/utf8.first", "unicode/utf8.acceptRanges", "internal/bytealg.MaxLen"], apart := false, laid := [("unicode/utf8.acceptRanges", laid_unicode_utf8_acceptRanges), ("unicode/utf8.first", laid_unicode_utf8_first)], narrowed := true }
def GridPartUptoSaid : Prop := gridPartUptoRow.holds Tryd.pinned (OpenSpec.upto gridPartSpec)

end Rows
end Go.Proofs.YtlfdmdhkbillpaaDoor
