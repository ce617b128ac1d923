/- What a style's numbers do: plain laws. -/
import Derived.Test.YtndieejbamlbhaaDoorStyle8
namespace Go.Eng.YtndieejbamlbhaaDoor
open Go Go.Eng Go.Proofs
set_option linter.unusedSimpArgs false
set_option maxRecDepth 100000
set_option linter.unusedVariables false
theorem mask_none : ∀ b ∈ List.range 128, bitop .or .i64 (bitop .andNot .i64 (b : Nat) 0) 0 = (b : Nat) := by decide +kernel
theorem mask_id {s : Style} (h : s.is) {n : Int} (hn : bitsF n = (0, 0)) : s.mask n = s := by
  obtain ⟨h1, h2, h3, h4, h5, h6⟩ := h
  obtain ⟨b, hb⟩ : ∃ b : Nat, s.bits = b := ⟨s.bits.toNat, by omega⟩
  have := mask_none b (List.mem_range.2 (by omega))
  obtain ⟨f, g, bt⟩ := s
  simp only [Style.mask, hn]
  simp only at hb
  rw [hb, this]
theorem bitsF_none {n : Int} (h : 29 < n) : bitsF n = (0, 0) := by
  have : ∀ k : Int, k ≤ 29 → n ≠ k := fun k hk => by omega
  simp [bitsF, this]
/-- A colour's numbers set it. -/
theorem apply_fore {s : Style} (h : s.is) (c : Int) (hc : 0 ≤ c ∧ c ≤ 256) (r : List Int) : applyL s (colourL c 30 ++ r) = applyL { s with fore := c } r := by
  have step : ∀ n : Int, 29 < n → n ≠ 38 → n ≠ 48 → applyL s (n :: r) = applyL (s.num n) r := fun n h1 h2 h3 => by
    rw [applyL_cons _ _ _ (by simp [h2, h3]), mask_id h (bitsF_none h1)]
  unfold colourL
  by_cases h1 : c = 0
  · rw [if_pos h1, List.singleton_append, step _ (by omega) (by omega) (by omega)]
    subst h1; congr 1
  rw [if_neg h1]
  by_cases h2 : c ≤ 8
  · rw [if_pos h2, List.singleton_append, step _ (by omega) (by omega) (by omega)]
    congr 1
    rw [Style.num, if_neg (by omega), if_pos (by omega)]
    simp only [Style.mk.injEq, and_true]; omega
  rw [if_neg h2]
  by_cases h3 : c ≤ 16
  · rw [if_pos h3, List.singleton_append, step _ (by omega) (by omega) (by omega)]
    congr 1
    rw [Style.num, if_neg (by omega), if_neg (by omega), if_neg (by omega), if_neg (by omega), if_neg (by omega), if_pos (by omega)]
    simp only [Style.mk.injEq, and_true]; omega
  rw [if_neg h3]
  show applyL s (38 :: 5 :: (c - 1) :: r) = _
  rw [applyL, if_pos (by decide), mask_id h (by decide), Style.colour, if_neg (by omega), if_pos rfl]
  congr 1
  simp only [Style.mk.injEq, and_true]; omega
theorem apply_back {s : Style} (h : s.is) (c : Int) (hc : 0 ≤ c ∧ c ≤ 256) (r : List Int) : applyL s (colourL c 40 ++ r) = applyL { s with back := c } r := by
  have step : ∀ n : Int, 29 < n → n ≠ 38 → n ≠ 48 → applyL s (n :: r) = applyL (s.num n) r := fun n h1 h2 h3 => by
    rw [applyL_cons _ _ _ (by simp [h2, h3]), mask_id h (bitsF_none h1)]
  unfold colourL
  by_cases h1 : c = 0
  · rw [if_pos h1, List.singleton_append, step _ (by omega) (by omega) (by omega)]
    subst h1; congr 1
  rw [if_neg h1]
  by_cases h2 : c ≤ 8
  · rw [if_pos h2, List.singleton_append, step _ (by omega) (by omega) (by omega)]
    congr 1
    rw [Style.num, if_neg (by omega), if_neg (by omega), if_neg (by omega), if_pos (by omega)]
    simp only [Style.mk.injEq, and_true, true_and]; omega
  rw [if_neg h2]
  by_cases h3 : c ≤ 16
  · rw [if_pos h3, List.singleton_append, step _ (by omega) (by omega) (by omega)]
    congr 1
    rw [Style.num, if_neg (by omega), if_neg (by omega), if_neg (by omega), if_neg (by omega), if_neg (by omega), if_neg (by omega), if_pos (by omega)]
    simp only [Style.mk.injEq, and_true, true_and]; omega
  rw [if_neg h3]
  show applyL s (48 :: 5 :: (c - 1) :: r) = _
  rw [applyL, if_pos (by decide), mask_id h (by decide), Style.colour, if_neg (by omega), if_neg (by decide)]
  congr 1
  simp only [Style.mk.injEq, and_true, true_and]; omega
def maskAll (s : Style) (l : List Int) : Style := l.foldl Style.mask s
theorem num_bit (s : Style) : ∀ n ∈ eachL, (bitsF n).1 ≠ 0 → s.num n = s ∧ n ≠ 38 ∧ n ≠ 48 := by
  intro n hn hb
  simp only [eachL, List.mem_cons, List.not_mem_nil, or_false] at hn
  rcases hn with rfl | rfl | rfl | rfl | rfl | rfl | rfl | rfl | rfl <;> first | exact absurd (by decide) hb | exact ⟨by simp [Style.num], by decide, by decide⟩
theorem apply_bits (p : Int → Bool) (r : List Int) : ∀ (l : List Int) (s : Style), (∀ n ∈ l, n ∈ eachL) → applyL s (bitNums p l ++ r) = applyL (maskAll s (bitNums p l)) r
  | [], s, _ => rfl
  | n :: l, s, h => by
    have ih := fun s => apply_bits p r l s fun m hm => h m (List.mem_cons_of_mem _ hm)
    rw [bitNums_cons]
    split
    · rename_i hc
      simp only [Bool.and_eq_true, decide_eq_true_eq] at hc
      obtain ⟨h1, h2, h3⟩ := num_bit (s.mask n) n (h n (List.mem_cons_self ..)) hc.1
      rw [List.cons_append, applyL_cons _ _ _ (by simp [h2, h3]), h1, ih]; rfl
    · exact ih s
theorem bits_back : ∀ b ∈ List.range 128, (maskAll .none (bitNums (hasBits (b : Nat)) eachL)) = ⟨0, 0, (b : Nat)⟩ := by decide +kernel
/-- The numbers of a style make it of none. -/
theorem numbers_back (a : Style) (h : a.is) : applyL .none (numbersL a) = a := by
  have hck : checkStyle a = true := (check_is a).2 h
  obtain ⟨h1, h2, h3, h4, h5, h6⟩ := h
  obtain ⟨b, hb⟩ : ∃ b : Nat, a.bits = b := ⟨a.bits.toNat, by omega⟩
  have hbb := bits_back b (List.mem_range.2 (by omega))
  rw [numbersL, if_pos hck, List.append_assoc, apply_bits _ _ _ _ (fun n hn => hn), hb, hbb]
  have e0 : (⟨0, 0, (b : Nat)⟩ : Style).is := ⟨by simp, by simp, by simp, by simp, by simp, by simp only; omega⟩
  obtain ⟨f, g, bt⟩ := a
  simp only at h1 h2 h3 h4 hb ⊢
  subst hb
  have fin : ∀ s : Style, s.is → s.back = 0 → applyL s (if g ≠ 0 then colourL g 40 else []) = { s with back := g } := fun s hs h0 => by
    by_cases hg : g = 0
    · rw [if_neg (by simp [hg]), applyL]
      obtain ⟨s1, s2, s3⟩ := s
      simp only at h0
      simp [h0, hg]
    · rw [if_pos hg]
      have := apply_back hs g ⟨h3, h4⟩ []
      rw [List.append_nil] at this
      rw [this, applyL]
  by_cases hf : f = 0
  · rw [if_neg (by simp [hf]), List.nil_append, fin _ e0 rfl, hf]
  · rw [if_pos hf, apply_fore e0 f ⟨h1, h2⟩, fin _ ⟨h1, h2, by simp, by simp, by simp, by simp only; omega⟩ rfl]
end Go.Eng.YtndieejbamlbhaaDoor
