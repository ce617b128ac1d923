/- Whatever numbers are applied to a style, it is one: a plain law; StyleKeeps. -/
import Derived.Test.YtndieejbamlbhaaDoorStyle5
namespace Go.Eng.YtndieejbamlbhaaDoor
open Go Go.Eng Go.Proofs
variable (W : World)
set_option linter.unusedSimpArgs false
set_option maxRecDepth 100000
set_option linter.unusedVariables false
set_option maxHeartbeats 4000000
def Style.is (s : Style) : Prop := 0 ≤ s.fore ∧ s.fore ≤ 256 ∧ 0 ≤ s.back ∧ s.back ≤ 256 ∧ 0 ≤ s.bits ∧ s.bits < 128
theorem check_is (s : Style) : checkStyle s = true ↔ s.is := by
  simp only [checkStyle, Style.is, Bool.and_eq_true, decide_eq_true_eq, and_assoc]
def pairs : List (Int × Int) := [(1, 0), (2, 0), (4, 0), (8, 0), (16, 0), (32, 0), (64, 0), (0, 3), (0, 4), (0, 8), (0, 16), (0, 32), (0, 64), (0, 0)]
theorem bitsF_mem (n : Int) : bitsF n ∈ pairs := by
  unfold bitsF
  by_cases h1 : n = 1
  · rw [if_pos h1]; decide
  rw [if_neg h1]
  by_cases h2 : n = 2
  · rw [if_pos h2]; decide
  rw [if_neg h2]
  by_cases h3 : n = 3
  · rw [if_pos h3]; decide
  rw [if_neg h3]
  by_cases h4 : n = 4
  · rw [if_pos h4]; decide
  rw [if_neg h4]
  by_cases h5 : n = 5
  · rw [if_pos h5]; decide
  rw [if_neg h5]
  by_cases h7 : n = 7
  · rw [if_pos h7]; decide
  rw [if_neg h7]
  by_cases h9 : n = 9
  · rw [if_pos h9]; decide
  rw [if_neg h9]
  by_cases h22 : n = 22
  · rw [if_pos h22]; decide
  rw [if_neg h22]
  by_cases h23 : n = 23
  · rw [if_pos h23]; decide
  rw [if_neg h23]
  by_cases h24 : n = 24
  · rw [if_pos h24]; decide
  rw [if_neg h24]
  by_cases h25 : n = 25
  · rw [if_pos h25]; decide
  rw [if_neg h25]
  by_cases h27 : n = 27
  · rw [if_pos h27]; decide
  rw [if_neg h27]
  by_cases h29 : n = 29
  · rw [if_pos h29]; decide
  rw [if_neg h29]
  decide
theorem mask_all : ∀ b ∈ List.range 128, ∀ p ∈ pairs, 0 ≤ bitop .or .i64 (bitop .andNot .i64 (b : Nat) p.2) p.1 ∧ bitop .or .i64 (bitop .andNot .i64 (b : Nat) p.2) p.1 < 128 := by decide +kernel
theorem mask_is {s : Style} (h : s.is) (n : Int) : (s.mask n).is := by
  obtain ⟨h1, h2, h3, h4, h5, h6⟩ := h
  obtain ⟨b, hb⟩ : ∃ b : Nat, s.bits = b := ⟨s.bits.toNat, by omega⟩
  have := mask_all b (List.mem_range.2 (by omega)) _ (bitsF_mem n)
  rw [← hb] at this
  exact ⟨h1, h2, h3, h4, this.1, this.2⟩
theorem num_is {s : Style} (h : s.is) (n : Int) : (s.num n).is := by
  obtain ⟨h1, h2, h3, h4, h5, h6⟩ := h
  unfold Style.num
  repeat' split
  all_goals refine ⟨?_, ?_, ?_, ?_, ?_, ?_⟩ <;> first | omega | (simp only [Style.none]; omega) | (dsimp only; omega)
theorem colour_is {s : Style} (h : s.is) (n c : Int) : (s.colour n c).is := by
  obtain ⟨h1, h2, h3, h4, h5, h6⟩ := h
  unfold Style.colour
  repeat' split
  all_goals refine ⟨?_, ?_, ?_, ?_, ?_, ?_⟩ <;> first | omega | (dsimp only; omega)
theorem applyL_is : ∀ (k : Nat) (l : List Int) (s : Style), l.length ≤ k → s.is → (applyL s l).is
  | _, [], s, _, h => by rw [applyL]; exact h
  | _, [n], s, _, h => by rw [applyL]; exact num_is (mask_is h n) n
  | 0, _ :: _, s, hk, h => by simp at hk
  | k + 1, [n, m], s, hk, h => by
    rw [applyL]
    exact applyL_is k [m] _ (by simp at hk ⊢; omega) (num_is (mask_is h n) n)
  | k + 1, n :: m :: c :: r, s, hk, h => by
    rw [applyL]
    simp only [List.length_cons] at hk
    split
    · exact applyL_is k r _ (by omega) (colour_is (mask_is h n) n c)
    · exact applyL_is k (m :: c :: r) _ (by simp only [List.length_cons]; omega) (num_is (mask_is h n) n)
theorem applyTo_is {s : Style} (h : s.is) (l : List Int) : (applyTo s l).is := by
  unfold applyTo
  split
  · exact ⟨by decide, by decide, by decide, by decide, by decide, by decide⟩
  · exact applyL_is _ l s (Nat.le_refl _) h
end Go.Eng.YtndieejbamlbhaaDoor
