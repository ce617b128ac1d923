/- The numbers that make one style of another: a plain law. -/
import Derived.Test.YtndieejbamlbhaaDoorStyle9
namespace Go.Eng.YtndieejbamlbhaaDoor
open Go Go.Eng Go.Proofs
set_option linter.unusedSimpArgs false
set_option maxRecDepth 100000
set_option linter.unusedVariables false
theorem maskAll_bits : ∀ (l : List Int) (f g b : Int), maskAll ⟨f, g, b⟩ l = ⟨f, g, (maskAll ⟨0, 0, b⟩ l).bits⟩
  | [], f, g, b => rfl
  | n :: l, f, g, b => by
    show maskAll (Style.mask ⟨f, g, b⟩ n) l = ⟨f, g, (maskAll (Style.mask ⟨0, 0, b⟩ n) l).bits⟩
    rw [Style.mask, Style.mask, maskAll_bits l f g, maskAll_bits l 0 0]
theorem bits_turn : ∀ x ∈ List.range 128, ∀ y ∈ List.range 128, more (y : Nat) (x : Nat) = 0 → (maskAll ⟨0, 0, (x : Nat)⟩ (bitNums (hasBits (more (x : Nat) (y : Nat))) eachL)).bits = (y : Nat) := by decide +kernel
theorem numbers_nil (b : Style) : applyL b [] = b := by rw [applyL]
/-- Turning one style into another: nothing where they are one, else numbers that do it. -/
theorem turn_back (a b : Style) (ha : a.is) (hb : b.is) (hne : a ≠ b) : applyL a (turnL a b) = b := by
  have hca : checkStyle a = true := (check_is a).2 ha
  have hcb : checkStyle b = true := (check_is b).2 hb
  rw [turnL, if_neg (by simp [hca, hcb, hne])]
  split
  · rw [applyL_cons _ _ _ (by simp), mask_id ha (by decide)]
    have : Style.num a 0 = .none := by rw [Style.num, if_pos (by decide)]
    rw [this, numbers_back b hb]
  · rename_i hc
    have hm : more b.bits a.bits = 0 := by
      by_cases h : more b.bits a.bits = 0
      · exact h
      · exact absurd (.inl h) hc
    obtain ⟨h1, h2, h3, h4, h5, h6⟩ := ha
    obtain ⟨k1, k2, k3, k4, k5, k6⟩ := hb
    obtain ⟨x, hx⟩ : ∃ x : Nat, a.bits = x := ⟨a.bits.toNat, by omega⟩
    obtain ⟨y, hy⟩ : ∃ y : Nat, b.bits = y := ⟨b.bits.toNat, by omega⟩
    have hbt := bits_turn x (List.mem_range.2 (by omega)) y (List.mem_range.2 (by omega)) (by rw [hx, hy] at hm; exact hm)
    rw [hx, hy, List.append_assoc, apply_bits _ _ _ _ (fun n hn => hn)]
    obtain ⟨fa, ga, ba⟩ := a
    obtain ⟨fb, gb, bb⟩ := b
    simp only at h1 h2 h3 h4 k1 k2 k3 k4 hx hy ⊢
    subst hx hy
    rw [maskAll_bits, hbt]
    have fin : ∀ s : Style, s.is → s.back = ga → applyL s (if ga ≠ gb then colourL gb 40 else []) = { s with back := gb } := fun s hs h0 => by
      by_cases hg : ga = gb
      · rw [if_neg (by simp [hg]), applyL]
        obtain ⟨s1, s2, s3⟩ := s
        simp only at h0
        simp [h0, hg]
      · rw [if_pos hg]
        have := apply_back hs gb ⟨k3, k4⟩ []
        rw [List.append_nil] at this
        rw [this, applyL]
    by_cases hf : fa = fb
    · rw [if_neg (by simp [hf]), List.nil_append, fin _ ⟨h1, h2, h3, h4, by simp, by simp only; omega⟩ rfl, hf]
    · rw [if_pos hf, apply_fore ⟨h1, h2, h3, h4, by simp, by simp only; omega⟩ fb ⟨k1, k2⟩, fin _ ⟨k1, k2, h3, h4, by simp, by simp only; omega⟩ rfl]
end Go.Eng.YtndieejbamlbhaaDoor
