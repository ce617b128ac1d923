/- Texts put together: ParseL. -/
import Derived.Test.YtimpfhokacfobaaDoorMT1
import Derived.Lib.DecodeN
/- The reader of escape sequences: plain. -/
section
namespace Go.Eng.YtimpfhokacfobaaDoor
open Go Go.Eng Go.Proofs
set_option linter.unusedSimpArgs false
set_option linter.unusedVariables false
/-! ### Runes that are whole -/
def gB (s : List UInt8) (i : Nat) : Nat := (s.getD i 0).toNat
theorem gB_lt (s : List UInt8) (i : Nat) : gB s i < 256 := UInt8.toNat_lt _
theorem dec_P {s : List UInt8} (h : s ≠ []) : dec s = Lib.decodeN s.length (gB s 0) (gB s 1) (gB s 2) (gB s 3) := by
  have hn : ¬ (⟨s.toArray⟩ : ByteArray).size = 0 := by simpa [ByteArray.size] using h
  rw [dec, Lib.decodeGo, if_neg hn, Lib.decode_at]
  have hg : ∀ i, (ByteArray.get! ⟨s.toArray⟩ i) = s.getD i 0 := fun i => by
    simp [ByteArray.get!, Array.getElem!_eq_getD, List.getD_eq_getElem?_getD, Array.getD_eq_getD_getElem?]
    rfl
  rw [hg, hg, hg, hg]
  rfl
/-- utf8.FullRuneInString. -/
def fullL (s : List UInt8) : Bool :=
  if s.length = 0 then false
  else if Lib.firstT (gB s 0) % 8 ≤ s.length then true
  else decide ((1 < s.length ∧ (gB s 1 < Lib.accLo (Lib.firstT (gB s 0) / 16) ∨ Lib.accHi (Lib.firstT (gB s 0) / 16) < gB s 1)) ∨ (2 < s.length ∧ (gB s 2 < 128 ∨ 191 < gB s 2)))
theorem full_ascii {s : List UInt8} (h : s ≠ []) (h0 : gB s 0 < 128) : fullL s = true := by
  have hl : s.length ≠ 0 := fun e => h (List.length_eq_zero_iff.1 e)
  rw [fullL, if_neg hl, if_pos]
  rw [Lib.firstT, if_pos h0]; omega
/-- A continuation byte at the head: it is whole, and wrong. -/
theorem full_cont {s : List UInt8} (h : s ≠ []) (h0 : 128 ≤ gB s 0) (h1 : gB s 0 < 194) : fullL s = true ∧ dec s = (65533, 1) := by
  have hl : s.length ≠ 0 := fun e => h (List.length_eq_zero_iff.1 e)
  constructor
  · rw [fullL, if_neg hl, if_pos]
    rw [Lib.firstT, if_neg (by omega), if_pos h1]; omega
  · rw [dec_P h, Lib.decodeN]
    repeat' split
    all_goals first | rfl | (exfalso; omega)
theorem len_eq {s : List UInt8} {n : Nat} (h : s.length = n + 1) : ∃ c r, s = c :: r ∧ r.length = n := by
  cases s with
  | nil => simp at h
  | cons c r => exact ⟨c, r, rfl, by simpa using h⟩
theorem first_spec (b : Nat) : Lib.firstT b % 8 ≤ 1 ∨ (Lib.firstT b / 16 ≤ 4 ∧ Lib.firstT b % 8 ≤ 4 ∧ 194 ≤ b) := by
  unfold Lib.firstT
  repeat' split
  all_goals omega
theorem first_big (b : Nat) : (2 < Lib.firstT b % 8 → 224 ≤ b) ∧ (3 < Lib.firstT b % 8 → 240 ≤ b) := by
  unfold Lib.firstT
  repeat' split
  all_goals omega
theorem acc_ge (i : Nat) (hi : i ≤ 4) : 128 ≤ Lib.accLo i ∧ Lib.accHi i ≤ 191 := by
  unfold Lib.accLo Lib.accHi
  repeat' split
  all_goals omega
/-- What is not whole is short, and of bytes from 128 on. -/
theorem part_spec {s : List UInt8} (h : s ≠ []) (hf : fullL s = false) : s.length ≤ 3 ∧ (1 < s.length → 224 ≤ gB s 0) ∧ (2 < s.length → 240 ≤ gB s 0) ∧ 194 ≤ gB s 0 ∧ (1 < s.length → 128 ≤ gB s 1 ∧ gB s 1 ≤ 191) ∧ (2 < s.length → 128 ≤ gB s 2 ∧ gB s 2 ≤ 191) := by
  have hl : s.length ≠ 0 := fun e => h (List.length_eq_zero_iff.1 e)
  rw [fullL, if_neg hl] at hf
  split at hf
  · cases hf
  rename_i h8
  have hd := of_decide_eq_false hf
  have hi : Lib.firstT (gB s 0) / 16 ≤ 4 ∧ Lib.firstT (gB s 0) % 8 ≤ 4 ∧ 194 ≤ gB s 0 := by
    rcases first_spec (gB s 0) with h1 | h1
    · omega
    · exact h1
  have ha := acc_ge _ hi.1
  have hb := first_big (gB s 0)
  refine ⟨by omega, fun h => hb.1 (by omega), fun h => hb.2 (by omega), hi.2.2, fun h1 => ?_, fun h2 => ?_⟩
  · constructor
    · refine Decidable.byContradiction fun hc => hd (.inl ⟨h1, .inl (by omega)⟩)
    · refine Decidable.byContradiction fun hc => hd (.inl ⟨h1, .inr (by omega)⟩)
  · constructor
    · refine Decidable.byContradiction fun hc => hd (.inr ⟨h2, .inl (by omega)⟩)
    · refine Decidable.byContradiction fun hc => hd (.inr ⟨h2, .inr (by omega)⟩)
theorem gB_cons (c : UInt8) (r : List UInt8) (i : Nat) : gB (c :: r) (i + 1) = gB r i := rfl
theorem gB_head (c : UInt8) (r : List UInt8) : gB (c :: r) 0 = c.toNat := rfl
theorem part_all {s : List UInt8} (hf : fullL s = false) : ∀ c ∈ s, 128 ≤ c.toNat := by
  by_cases h : s = []
  · subst h; intro c hc; cases hc
  obtain ⟨h1, k1, k2, h2, h3, h4⟩ := part_spec h hf
  intro c hc
  obtain ⟨i, hi, rfl⟩ := List.getElem_of_mem hc
  have e : s[i].toNat = gB s i := by rw [gB, List.getD_eq_getElem?_getD, List.getElem?_eq_getElem hi]; rfl
  rw [e]
  match i, hi with
  | 0, _ => omega
  | 1, hi => exact (h3 hi).1
  | 2, hi => exact (h4 hi).1
  | i + 3, hi => omega
/-- What is not whole, and behind it a byte below 128: it is whole, and wrong. -/
theorem part_ctl {s : List UInt8} (h : s ≠ []) (hf : fullL s = false) {c : UInt8} (hc : c.toNat < 128) : fullL (s ++ [c]) = true ∧ dec (s ++ [c]) = (65533, 1) := by
  obtain ⟨h1, k1, k2, h2, h3, h4⟩ := part_spec h hf
  have hn : s ++ [c] ≠ [] := by simp
  have hl : (s ++ [c]).length ≠ 0 := by simp
  have hln : (s ++ [c]).length = s.length + 1 := by simp
  have g0 : gB (s ++ [c]) 0 = gB s 0 := by
    cases s with
    | nil => exact absurd rfl h
    | cons a r => rfl
  have gl : gB (s ++ [c]) s.length = c.toNat := by rw [gB, List.getD_eq_getElem?_getD, List.getElem?_append_right (Nat.le_refl _), Nat.sub_self]; rfl
  have gi : ∀ i, i < s.length → gB (s ++ [c]) i = gB s i := fun i hi => by
    rw [gB, gB, List.getD_eq_getElem?_getD, List.getD_eq_getElem?_getD, List.getElem?_append_left hi]
  have hpos : 0 < s.length := List.length_pos_iff.2 h
  constructor
  · rw [fullL, if_neg hl]
    split
    · rfl
    · rename_i h8
      refine decide_eq_true ?_
      rw [hln] at h8 ⊢
      rw [g0] at h8 ⊢
      have ha : 128 ≤ Lib.accLo (Lib.firstT (gB s 0) / 16) := by
        rcases first_spec (gB s 0) with h9 | h9
        · omega
        · exact (acc_ge _ h9.1).1
      by_cases e1 : s.length = 1
      · left
        rw [e1] at gl
        exact ⟨by omega, .inl (by rw [gl]; omega)⟩
      · right
        refine ⟨by omega, .inl ?_⟩
        by_cases e2 : s.length = 2
        · rw [e2] at gl
          rw [gl]; exact hc
        · exfalso
          have : s.length = 3 := by omega
          rcases first_spec (gB s 0) with h9 | h9 <;> omega
  · rw [dec_P hn, hln, g0]
    have hz : s.length = 1 ∨ s.length = 2 ∨ s.length = 3 := by omega
    rcases hz with e | e | e
    · rw [e] at gl ⊢
      rw [gl]
      generalize gB (s ++ [c]) 2 = x2
      generalize gB (s ++ [c]) 3 = x3
      unfold Lib.decodeN
      repeat' split
      all_goals first | rfl | (exfalso; omega)
    · rw [e] at gl ⊢
      rw [gl]
      generalize gB (s ++ [c]) 1 = x1
      generalize gB (s ++ [c]) 3 = x3
      unfold Lib.decodeN
      repeat' split
      all_goals first | rfl | (exfalso; omega)
    · rw [e] at gl ⊢
      rw [gl]
      generalize gB (s ++ [c]) 1 = x1
      generalize gB (s ++ [c]) 2 = x2
      unfold Lib.decodeN
      repeat' split
      all_goals first | rfl | (exfalso; omega)
end Go.Eng.YtimpfhokacfobaaDoor
end
