/- The numbers of styles: plain definitions. -/
import Derived.Test.YtndieejbamlbhaaDoorStyle
namespace Go.Eng.YtndieejbamlbhaaDoor
open Go Go.Eng Go.Proofs
set_option linter.unusedSimpArgs false
set_option linter.unusedVariables false
def colourL (c base : Int) : List Int := if c = 0 then [base + 9] else if c ≤ 8 then [base + c - 1] else if c ≤ 16 then [base + 60 + c - 9] else [base + 8, 5, c - 1]
theorem colourL_cons (c base : Int) : ∃ x r, colourL c base = x :: r := by
  unfold colourL
  by_cases h1 : c = 0
  · rw [if_pos h1]; exact ⟨_, _, rfl⟩
  rw [if_neg h1]
  by_cases h2 : c ≤ 8
  · rw [if_pos h2]; exact ⟨_, _, rfl⟩
  rw [if_neg h2]
  by_cases h3 : c ≤ 16
  · rw [if_pos h3]; exact ⟨_, _, rfl⟩
  rw [if_neg h3]; exact ⟨_, _, rfl⟩
theorem colourL_len (c base : Int) : (colourL c base).length ≤ 3 := by
  unfold colourL
  by_cases h1 : c = 0
  · rw [if_pos h1]; simp
  rw [if_neg h1]
  by_cases h2 : c ≤ 8
  · rw [if_pos h2]; simp
  rw [if_neg h2]
  by_cases h3 : c ≤ 16
  · rw [if_pos h3]; simp
  rw [if_neg h3]; simp
def eachL : List Int := [1, 2, 3, 4, 5, 0, 7, 0, 9]
/-- The numbers of the bits that are asked for. -/
def bitNums (p : Int → Bool) (l : List Int) : List Int := l.filter fun n => decide ((bitsF n).1 ≠ 0) && p (bitsF n).1
def hasBits (b : Int) (k : Int) : Bool := decide (bitop .and .i64 b k ≠ 0)
def numbersL (s : Style) : List Int :=
  if checkStyle s then bitNums (hasBits s.bits) eachL ++ (if s.fore ≠ 0 then colourL s.fore 30 else []) ++ (if s.back ≠ 0 then colourL s.back 40 else []) else []
theorem bitNums_cons (p : Int → Bool) (n : Int) (l : List Int) : bitNums p (n :: l) = if (decide ((bitsF n).1 ≠ 0) && p (bitsF n).1) = true then n :: bitNums p l else bitNums p l := by
  simp only [bitNums, List.filter_cons]
def more (a b : Int) : Int := bitop .andNot .i64 b a
def turnL (a b : Style) : List Int :=
  if checkStyle a = false ∨ checkStyle b = false ∨ a = b then []
  else if more b.bits a.bits ≠ 0 ∨ b = .none then 0 :: numbersL b
  else bitNums (hasBits (more a.bits b.bits)) eachL ++ (if a.fore ≠ b.fore then colourL b.fore 30 else []) ++ (if a.back ≠ b.back then colourL b.back 40 else [])
theorem numbersL_len (b : Style) : (numbersL b).length ≤ 15 := by
  have h0 : ∀ p, (bitNums p eachL).length ≤ 9 := fun p => List.length_filter_le _ _
  have h1 := colourL_len b.fore 30
  have h2 := colourL_len b.back 40
  have h3 := h0 (hasBits b.bits)
  unfold numbersL
  split
  · simp only [List.length_append]
    split <;> split <;> simp <;> omega
  · simp
/-! ### The document's way -/
def bitR (b : Int) (i : Nat) : Bool := decide (bitop .and .i64 (b.fdiv (2 ^ min i 64)) 1 = 1)
def bitsRF (b : Int) : Nat → List Int → List Int
  | _, [] => []
  | i, n :: r => if bitR b i = true then n :: bitsRF b (i + 1) r else bitsRF b (i + 1) r
def bitNs : List Int := [1, 2, 3, 4, 5, 7, 9]
theorem bits_same : ∀ b ∈ List.range 128, bitsRF (b : Nat) 0 bitNs = bitNums (hasBits (b : Nat)) eachL := by decide +kernel
theorem bitsR_len (b : Int) : ∀ (l : List Int) (i : Nat), (bitsRF b i l).length ≤ l.length
  | [], i => Nat.le_refl _
  | n :: r, i => by
    have := bitsR_len b r (i + 1)
    rw [bitsRF]
    split <;> simp <;> omega
theorem more_same : ∀ x ∈ List.range 128, ∀ y ∈ List.range 128, bitop .and .i64 (x : Nat) (127 - (y : Nat)) = more (y : Nat) (x : Nat) ∧ 0 ≤ more (y : Nat) (x : Nat) ∧ more (y : Nat) (x : Nat) < 128 := by decide +kernel
end Go.Eng.YtndieejbamlbhaaDoor
