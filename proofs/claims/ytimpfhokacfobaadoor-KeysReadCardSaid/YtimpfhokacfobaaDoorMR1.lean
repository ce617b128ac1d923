/- Texts put together: Rec, RecP. -/
import Derived.Test.YtimpfhokacfobaaDoorMT1
import Derived.Test.YtimpfhokacfobaaDoorMS1
/- Recordings: happenings, told as texts. -/
section
namespace Go.Eng.YtimpfhokacfobaaDoor
open Go Go.Eng Go.Proofs
variable (W : World)
set_option linter.unusedSimpArgs false
set_option maxRecDepth 100000
set_option linter.unusedVariables false
set_option maxHeartbeats 4000000
structure Hap where
  kind : Int
  who : Int
  bytes : List UInt8
  w : Int
  h : Int
  deriving DecidableEq
def encHap (x : Hap) : PV := .agg [.int .i64 x.kind, .int .i64 x.who, .str x.bytes, .int .i64 x.w, .int .i64 x.h]
def Hap.ok (x : Hap) : Prop := i64ok x.kind ∧ i64ok x.who ∧ i64ok x.w ∧ i64ok x.h
/-- Can a happening be told? -/
def checkH (x : Hap) : Bool :=
  if x.kind = 1 ∨ x.kind = 2 then decide (x.w = 0 ∧ x.h = 0 ∧ 0 ≤ x.who ∧ x.bytes.length ≤ 4000)
  else if x.kind = 3 then decide (x.bytes = [] ∧ 0 ≤ x.who ∧ 0 < x.w ∧ 0 < x.h)
  else if x.kind = 4 then decide (x.bytes = [] ∧ 0 ≤ x.who ∧ x.w = 0 ∧ x.h = 0)
  else false
/-- A byte, as it is told. -/
def hexL : List UInt8 := [48, 49, 50, 51, 52, 53, 54, 55, 56, 57, 97, 98, 99, 100, 101, 102]
def hexD (n : Nat) : UInt8 := hexL.getD n 0
def quoteB (c : UInt8) : List UInt8 := if 32 < c.toNat ∧ c.toNat < 127 ∧ c.toNat ≠ 37 then [c] else [37, hexD (c.toNat / 16), hexD (c.toNat % 16)]
def quoteL (s : List UInt8) : List UInt8 := s.flatMap quoteB
theorem quoteB_len (c : UInt8) : (quoteB c).length ≤ 3 := by unfold quoteB; split <;> simp
theorem quoteL_len : ∀ s : List UInt8, (quoteL s).length ≤ 3 * s.length
  | [] => by simp [quoteL]
  | c :: s => by
    have h1 := quoteB_len c
    have h2 := quoteL_len s
    rw [quoteL] at h2 ⊢
    rw [List.flatMap_cons, List.length_append, List.length_cons]; omega
theorem and15 : ∀ x ∈ List.range 256, bitop .and .u8 x 15 = x % 16 := by decide +kernel
theorem and15' (c : UInt8) : bitop .and .u8 c.toNat 15 = ((c.toNat % 16 : Nat) : Int) := by
  have := and15 c.toNat (List.mem_range.2 c.toNat_lt)
  rw [this]; omega
theorem shr4 (c : UInt8) : ((c.toNat : Int)).fdiv (2 ^ min (Int.toNat 4) IntKind.u8.bits) = ((c.toNat / 16 : Nat) : Int) := by
  rw [show (2 : Int) ^ min (Int.toNat 4) IntKind.u8.bits = 16 from rfl, Int.fdiv_eq_ediv_of_nonneg _ (by decide)]; omega
theorem hexS : ∀ n < 16, List.drop n (List.take (n + 1) (ByteArray.mk #[48, 49, 50, 51, 52, 53, 54, 55, 56, 57, 97, 98, 99, 100, 101, 102]).data.toList) = [hexD n] := by decide +kernel
theorem hexX : ∀ n < 16, (ByteArray.mk #[48, 49, 50, 51, 52, 53, 54, 55, 56, 57, 97, 98, 99, 100, 101, 102]).data.toList[n]? = some (hexD n) := by decide +kernel
/-- A happening's line. -/
def lineH (x : Hap) : List UInt8 :=
  if x.kind = 1 then [115, 97, 121, 115] ++ ([32] ++ Lib.itoa x.who) ++ [32] ++ quoteL x.bytes
  else if x.kind = 2 then [115, 116, 114, 105, 107, 101, 115] ++ ([32] ++ Lib.itoa x.who) ++ [32] ++ quoteL x.bytes
  else if x.kind = 3 then [115, 105, 122, 101, 115] ++ ([32] ++ Lib.itoa x.who) ++ [32] ++ Lib.itoa x.w ++ [32] ++ Lib.itoa x.h
  else [100, 114, 97, 105, 110, 115] ++ ([32] ++ Lib.itoa x.who)
theorem itoa_len (n : Int) (hn : i64ok n) : (Lib.itoa n).length ≤ 21 := Lib.itoa_length_le n hn.1 hn.2
end Go.Eng.YtimpfhokacfobaaDoor
end

/- Recordings printed; the law RecordPrint. -/
section
namespace Go.Eng.YtimpfhokacfobaaDoor
open Go Go.Eng Go.Proofs
variable (W : World)
set_option linter.unusedSimpArgs false
set_option maxRecDepth 100000
set_option linter.unusedVariables false
set_option maxHeartbeats 4000000
def printL (l : List Hap) : List UInt8 := l.flatMap fun x => lineH x ++ [10]
def printE (l : List Hap) : List UInt8 × Int := if 200 < l.length then ([], 2) else if l.all checkH then (printL l, 0) else ([], 5)
theorem check_small {x : Hap} (h : checkH x = true) : x.bytes.length ≤ 4000 := by
  unfold checkH at h
  split at h
  · have := of_decide_eq_true h; exact this.2.2.2
  · split at h
    · have := (of_decide_eq_true h).1; rw [this]; decide
    · split at h
      · have := (of_decide_eq_true h).1; rw [this]; decide
      · cases h
theorem check_kind {x : Hap} (h : checkH x = true) : x.kind = 1 ∨ x.kind = 2 ∨ x.kind = 3 ∨ x.kind = 4 := by
  unfold checkH at h
  split at h
  · omega
  · split at h
    · omega
    · split at h
      · omega
      · cases h
theorem lineH_len {x : Hap} (hx : x.ok) (h : checkH x = true) : (lineH x).length ≤ 12100 := by
  have h1 := check_small h
  have h2 := quoteL_len x.bytes
  have l1 := itoa_len x.who hx.2.1
  have l2 := itoa_len x.w hx.2.2.1
  have l3 := itoa_len x.h hx.2.2.2
  unfold lineH
  (repeat' split) <;> simp <;> omega
theorem printL_len : ∀ (l : List Hap), (∀ x ∈ l, x.ok) → (l.all checkH = true) → (printL l).length ≤ 12101 * l.length
  | [], _, _ => by simp [printL]
  | x :: l, h1, h2 => by
    simp only [List.all_cons, Bool.and_eq_true] at h2
    have h3 := lineH_len (h1 x (by simp)) h2.1
    have h4 := printL_len l (fun y hy => h1 y (by simp [hy])) h2.2
    rw [printL] at h4 ⊢
    rw [List.flatMap_cons, List.length_append, List.length_append, List.length_cons]
    simp only [List.length_cons, List.length_nil]
    omega
theorem haps_all (l : List Hap) : (l.map encHap).all cellsB = true := by simp [cellsB, PV.flat, cellB, encHap]
theorem printL_filter : ∀ (l : List Hap), (∀ x ∈ l, x.ok) → (printL (l.filter checkH)).length ≤ 12101 * l.length := fun l h => by
  have := printL_len (l.filter checkH) (fun x hx => h x (List.mem_filter.1 hx).1) (by simp)
  have h2 := List.length_filter_le checkH l
  omega
end Go.Eng.YtimpfhokacfobaaDoor
end
