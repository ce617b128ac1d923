/-
  NARROWER THAN 'FOR EVERY INPUT', by the rows' own cells (each row's printed sentence says how): SplitEven: loops · SplitLay: loops · SplitCut: loops · SplitSwap: loops · SplitFills: loops.
  DERIVED. THE GIVEN ROWS OF THIS SEAT. 5 by the template 'for every input the law returns true; each argument reads behind the call as it read before'; 0 by the template 'total and deterministic' (their statements: YtkbfojigbbokcaaTotals.lean).
  GIVEN WITH THE SEED: the statements are not yours to turn. If you find one false, say at which input.
  Laid BY PROGRAM, IN A SANDBOX (cutbox-rows.mjs): the forced cells as the released guide's own fill.sh prints them over the translation 9ae84173202c425c… (all of the seat's roots in one cut). By AI agents, Wed Nov 11 2026. No macro, syntax, notation, axiom, sorry.
-/
import Derived.Test.YtkbfojigbbokcaaChecked
import GoSem.Claim
import GoSem.ClaimJoined
import GoSem.ClaimMapViews
import Derived.JoinedTies
import Derived.KernelRfl
namespace Go.Proofs.Ytkbfojigbbokcaa
/- THE CELL 'sum', in the pinned program and in every row, IS THE sha256 OF THE DUMP (.gsa) THAT YtkbfojigbbokcaaProg.lean LOADS. Nothing in Lean hashes anything: it is a label: what it is worth is what the hold of that sum in a sandbox is worth. -/
noncomputable def Try.pinned : Pinned := { name := "ytkbfojigbbokcaa", sum := "9ae84173202c425c3a2354e22218b386758691ca71e24bbf2eaad78305b63753", checked := Try.checked }
namespace Rows
def none {H : Type} : Left H := { results := [], args := [] }

/-- 'trellislaw.SplitEven': WHATEVER THE INPUT: true; the input reads as it did. -/
def splitEvenSpec : ChangeSpec := { name := "splitEven", fn := fun _ => fun
  | [d1, d2] => { results := [.lit (.bool true)], args := [d1, d2] }
  | _ => none }
def splitEvenRow : OpenClaim := { program := "ytkbfojigbbokcaa", sum := "9ae84173202c425c3a2354e22218b386758691ca71e24bbf2eaad78305b63753", func := "trellis/trellislaw.SplitEven", spec := "splitEven", inPlace := ["internal/bytealg.IndexByteString"], unfollowed := true, recurses := true, loops := true, apart := false }
def SplitEvenSaid : Prop := splitEvenRow.holds Try.pinned (OpenSpec.ofChange splitEvenSpec)

/-- ITS FALSE NEIGHBOUR: 'it returns false'. Refute it at one input. -/
def splitEvenWrong : ChangeSpec := { name := "splitEven", fn := fun _ => fun
  | [d1, d2] => { results := [.lit (.bool false)], args := [d1, d2] }
  | _ => none }
def SplitEvenWrongFalsely : Prop := splitEvenRow.holds Try.pinned (OpenSpec.ofChange splitEvenWrong)

/-- 'trellislaw.SplitLay': WHATEVER THE INPUT: true; the input reads as it did. -/
def splitLaySpec : ChangeSpec := { name := "splitLay", fn := fun _ => fun
  | [d1, d2, d3] => { results := [.lit (.bool true)], args := [d1, d2, d3] }
  | _ => none }
def splitLayRow : OpenClaim := { program := "ytkbfojigbbokcaa", sum := "9ae84173202c425c3a2354e22218b386758691ca71e24bbf2eaad78305b63753", func := "trellis/trellislaw.SplitLay", spec := "splitLay", inPlace := ["internal/bytealg.IndexByteString"], unfollowed := true, recurses := true, loops := true, apart := false }
def SplitLaySaid : Prop := splitLayRow.holds Try.pinned (OpenSpec.ofChange splitLaySpec)

/-- ITS FALSE NEIGHBOUR: 'it returns false'. Refute it at one input. -/
def splitLayWrong : ChangeSpec := { name := "splitLay", fn := fun _ => fun
  | [d1, d2, d3] => { results := [.lit (.bool false)], args := [d1, d2, d3] }
  | _ => none }
def SplitLayWrongFalsely : Prop := splitLayRow.holds Try.pinned (OpenSpec.ofChange splitLayWrong)

/-- 'trellislaw.SplitCut': WHATEVER THE INPUT: true; the input reads as it did. -/
def splitCutSpec : ChangeSpec := { name := "splitCut", fn := fun _ => fun
  | [d1, d2, d3, d4] => { results := [.lit (.bool true)], args := [d1, d2, d3, d4] }
  | _ => none }
def splitCutRow : OpenClaim := { program := "ytkbfojigbbokcaa", sum := "9ae84173202c425c3a2354e22218b386758691ca71e24bbf2eaad78305b63753", func := "trellis/trellislaw.SplitCut", spec := "splitCut", inPlace := ["internal/bytealg.IndexByteString"], unfollowed := true, recurses := true, loops := true, apart := false }
def SplitCutSaid : Prop := splitCutRow.holds Try.pinned (OpenSpec.ofChange splitCutSpec)

/-- ITS FALSE NEIGHBOUR: 'it returns false'. Refute it at one input. -/
def splitCutWrong : ChangeSpec := { name := "splitCut", fn := fun _ => fun
  | [d1, d2, d3, d4] => { results := [.lit (.bool false)], args := [d1, d2, d3, d4] }
  | _ => none }
def SplitCutWrongFalsely : Prop := splitCutRow.holds Try.pinned (OpenSpec.ofChange splitCutWrong)

/-- 'trellislaw.SplitSwap': WHATEVER THE INPUT: true; the input reads as it did. -/
def splitSwapSpec : ChangeSpec := { name := "splitSwap", fn := fun _ => fun
  | [d1, d2, d3, d4] => { results := [.lit (.bool true)], args := [d1, d2, d3, d4] }
  | _ => none }
def splitSwapRow : OpenClaim := { program := "ytkbfojigbbokcaa", sum := "9ae84173202c425c3a2354e22218b386758691ca71e24bbf2eaad78305b63753", func := "trellis/trellislaw.SplitSwap", spec := "splitSwap", inPlace := ["internal/bytealg.IndexByteString"], unfollowed := true, recurses := true, loops := true, apart := false }
def SplitSwapSaid : Prop := splitSwapRow.holds Try.pinned (OpenSpec.ofChange splitSwapSpec)

/-- ITS FALSE NEIGHBOUR: 'it returns false'. Refute it at one input. -/
def splitSwapWrong : ChangeSpec := { name := "splitSwap", fn := fun _ => fun
  | [d1, d2, d3, d4] => { results := [.lit (.bool false)], args := [d1, d2, d3, d4] }
  | _ => none }
def SplitSwapWrongFalsely : Prop := splitSwapRow.holds Try.pinned (OpenSpec.ofChange splitSwapWrong)

/-- 'trellislaw.SplitFills': WHATEVER THE INPUT: true; the input reads as it did. -/
def splitFillsSpec : ChangeSpec := { name := "splitFills", fn := fun _ => fun
  | [d1, d2, d3] => { results := [.lit (.bool true)], args := [d1, d2, d3] }
  | _ => none }
def splitFillsRow : OpenClaim := { program := "ytkbfojigbbokcaa", sum := "9ae84173202c425c3a2354e22218b386758691ca71e24bbf2eaad78305b63753", func := "trellis/trellislaw.SplitFills", spec := "splitFills", inPlace := ["internal/bytealg.IndexByteString"], unfollowed := true, recurses := true, loops := true, apart := false }
def SplitFillsSaid : Prop := splitFillsRow.holds Try.pinned (OpenSpec.ofChange splitFillsSpec)

/-- ITS FALSE NEIGHBOUR: 'it returns false'. Refute it at one input. -/
def splitFillsWrong : ChangeSpec := { name := "splitFills", fn := fun _ => fun
  | [d1, d2, d3] => { results := [.lit (.bool false)], args := [d1, d2, d3] }
  | _ => none }
def SplitFillsWrongFalsely : Prop := splitFillsRow.holds Try.pinned (OpenSpec.ofChange splitFillsWrong)

/- THE SECOND FORM. 'bulk': how many values and letters a reading holds, each counted each time it is reached (what is shared counts as often as it is met; a slice's spare places count too). A statement '..UptoSaid' is the law's where the arguments, and the package variables that the reading takes, are together of bulk at most 1048576: NARROWER than '..Said'. Prove '..Said' where nothing that the law and all that it calls make is longer than what came in: it says more and counts as full. Else prove '..UptoSaid'. A law counts once. -/
mutual
def uptoBulk {H : Type} : DataW H → Nat
  | .lit (.string bytes) => bytes.length + 1
  | .lit _ => 1
  | .nil => 1
  | .ptr d => uptoBulk d + 1
  | .slice elems spare => uptoBulkAll elems + uptoBulkAll spare + 1
  | .agg parts => uptoBulkAll parts + 1
  | .iface _ d => uptoBulk d + 1
  | .map entries => uptoBulkEntries entries + 1
  | .held _ => 1
def uptoBulkAll {H : Type} : List (DataW H) → Nat
  | [] => 0
  | d :: r => uptoBulk d + uptoBulkAll r
def uptoBulkEntries {H : Type} : List (Lit × DataW H) → Nat
  | [] => 0
  | x :: r => uptoBulkEntry x + uptoBulkEntries r
def uptoBulkEntry {H : Type} : Lit × DataW H → Nat
  | (.string bytes, d) => bytes.length + uptoBulk d + 1
  | (_, d) => uptoBulk d + 1
 end
def uptoSmall : (H : Type) → List (DataW H) → Bool := fun _ ds => decide (uptoBulkAll ds ≤ 1048576)
def OpenSpec.upto (s : _root_.Go.ChangeSpec) : _root_.Go.OpenSpec := { _root_.Go.OpenSpec.ofChange s with cond := some uptoSmall }

/-- 'trellislaw.SplitEven', WHERE WHAT IT READS IS OF BULK AT MOST 1048576: true; the input reads as it did. -/
def splitEvenUptoRow : OpenClaim := { program := "ytkbfojigbbokcaa", sum := "9ae84173202c425c3a2354e22218b386758691ca71e24bbf2eaad78305b63753", func := "trellis/trellislaw.SplitEven", spec := "splitEven", inPlace := ["internal/bytealg.IndexByteString"], unfollowed := true, recurses := true, loops := true, apart := false, narrowed := true }
def SplitEvenUptoSaid : Prop := splitEvenUptoRow.holds Try.pinned (OpenSpec.upto splitEvenSpec)

/-- 'trellislaw.SplitLay', WHERE WHAT IT READS IS OF BULK AT MOST 1048576: true; the input reads as it did. -/
def splitLayUptoRow : OpenClaim := { program := "ytkbfojigbbokcaa", sum := "9ae84173202c425c3a2354e22218b386758691ca71e24bbf2eaad78305b63753", func := "trellis/trellislaw.SplitLay", spec := "splitLay", inPlace := ["internal/bytealg.IndexByteString"], unfollowed := true, recurses := true, loops := true, apart := false, narrowed := true }
def SplitLayUptoSaid : Prop := splitLayUptoRow.holds Try.pinned (OpenSpec.upto splitLaySpec)

/-- 'trellislaw.SplitCut', WHERE WHAT IT READS IS OF BULK AT MOST 1048576: true; the input reads as it did. -/
def splitCutUptoRow : OpenClaim := { program := "ytkbfojigbbokcaa", sum := "9ae84173202c425c3a2354e22218b386758691ca71e24bbf2eaad78305b63753", func := "trellis/trellislaw.SplitCut", spec := "splitCut", inPlace := ["internal/bytealg.IndexByteString"], unfollowed := true, recurses := true, loops := true, apart := false, narrowed := true }
def SplitCutUptoSaid : Prop := splitCutUptoRow.holds Try.pinned (OpenSpec.upto splitCutSpec)

/-- 'trellislaw.SplitSwap', WHERE WHAT IT READS IS OF BULK AT MOST 1048576: true; the input reads as it did. -/
def splitSwapUptoRow : OpenClaim := { program := "ytkbfojigbbokcaa", sum := "9ae84173202c425c3a2354e22218b386758691ca71e24bbf2eaad78305b63753", func := "trellis/trellislaw.SplitSwap", spec := "splitSwap", inPlace := ["internal/bytealg.IndexByteString"], unfollowed := true, recurses := true, loops := true, apart := false, narrowed := true }
def SplitSwapUptoSaid : Prop := splitSwapUptoRow.holds Try.pinned (OpenSpec.upto splitSwapSpec)

/-- 'trellislaw.SplitFills', WHERE WHAT IT READS IS OF BULK AT MOST 1048576: true; the input reads as it did. -/
def splitFillsUptoRow : OpenClaim := { program := "ytkbfojigbbokcaa", sum := "9ae84173202c425c3a2354e22218b386758691ca71e24bbf2eaad78305b63753", func := "trellis/trellislaw.SplitFills", spec := "splitFills", inPlace := ["internal/bytealg.IndexByteString"], unfollowed := true, recurses := true, loops := true, apart := false, narrowed := true }
def SplitFillsUptoSaid : Prop := splitFillsUptoRow.holds Try.pinned (OpenSpec.upto splitFillsSpec)

end Rows
end Go.Proofs.Ytkbfojigbbokcaa
