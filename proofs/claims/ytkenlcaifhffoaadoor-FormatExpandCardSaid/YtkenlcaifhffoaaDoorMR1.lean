/- Texts put together: Rec, RecP. -/
import Derived.Test.YtkenlcaifhffoaaDoorMT1
import Derived.Test.YtkenlcaifhffoaaDoorMS1
/- Recordings: happenings, told as texts. -/
section
namespace Go.Eng.YtkenlcaifhffoaaDoor
open Go Go.Eng Go.Proofs
variable (W : World)
set_option linter.unusedSimpArgs false
set_option maxRecDepth 100000
set_option linter.unusedVariables false
set_option maxHeartbeats 4000000
structure Hap where
  kind : Int
  who : Int
  bytes : List UInt8
  w : Int
  h : Int
  deriving DecidableEq
def encHap (x : Hap) : PV := .agg [.int .i64 x.kind, .int .i64 x.who, .str x.bytes, .int .i64 x.w, .int .i64 x.h]
def Hap.ok (x : Hap) : Prop := i64ok x.kind ∧ i64ok x.who ∧ i64ok x.w ∧ i64ok x.h
/-- Can a happening be told? -/
def checkH (x : Hap) : Bool :=
  if x.kind = 1 ∨ x.kind = 2 then decide (x.w = 0 ∧ x.h = 0 ∧ 0 ≤ x.who ∧ x.bytes.length ≤ 4000)
  else if x.kind = 3 then decide (x.bytes = [] ∧ 0 ≤ x.who ∧ 0 < x.w ∧ 0 < x.h)
  else if x.kind = 4 then decide (x.bytes = [] ∧ 0 ≤ x.who ∧ x.w = 0 ∧ x.h = 0)
  else false
/-- A byte, as it is told. -/
def hexL : List UInt8 := [48, 49, 50, 51, 52, 53, 54, 55, 56, 57, 97, 98, 99, 100, 101, 102]
def hexD (n : Nat) : UInt8 := hexL.getD n 0
def quoteB (c : UInt8) : List UInt8 := if 32 < c.toNat ∧ c.toNat < 127 ∧ c.toNat ≠ 37 then [c] else [37, hexD (c.toNat / 16), hexD (c.toNat % 16)]
def quoteL (s : List UInt8) : List UInt8 := s.flatMap quoteB
/-- A happening's line. -/
def lineH (x : Hap) : List UInt8 :=
  if x.kind = 1 then [115, 97, 121, 115] ++ ([32] ++ Lib.itoa x.who) ++ [32] ++ quoteL x.bytes
  else if x.kind = 2 then [115, 116, 114, 105, 107, 101, 115] ++ ([32] ++ Lib.itoa x.who) ++ [32] ++ quoteL x.bytes
  else if x.kind = 3 then [115, 105, 122, 101, 115] ++ ([32] ++ Lib.itoa x.who) ++ [32] ++ Lib.itoa x.w ++ [32] ++ Lib.itoa x.h
  else [100, 114, 97, 105, 110, 115] ++ ([32] ++ Lib.itoa x.who)
end Go.Eng.YtkenlcaifhffoaaDoor
end

/- Recordings printed; the law RecordPrint. -/
section
namespace Go.Eng.YtkenlcaifhffoaaDoor
open Go Go.Eng Go.Proofs
variable (W : World)
set_option linter.unusedSimpArgs false
set_option maxRecDepth 100000
set_option linter.unusedVariables false
set_option maxHeartbeats 4000000
def printL (l : List Hap) : List UInt8 := l.flatMap fun x => lineH x ++ [10]
def printE (l : List Hap) : List UInt8 × Int := if 200 < l.length then ([], 2) else if l.all checkH then (printL l, 0) else ([], 5)
theorem check_kind {x : Hap} (h : checkH x = true) : x.kind = 1 ∨ x.kind = 2 ∨ x.kind = 3 ∨ x.kind = 4 := by
  unfold checkH at h
  split at h
  · omega
  · split at h
    · omega
    · split at h
      · omega
      · cases h
end Go.Eng.YtkenlcaifhffoaaDoor
end
