/- Contracts of Go's library, by the kit's shelf; laws of runes. -/
import Derived.Test.YtnnehgmibpfibaaDoorRunes
import Derived.Lib.MapLaws
namespace Go.Eng.YtnnehgmibpfibaaDoor
open Go Go.Eng Go.Proofs
variable (W : World)
theorem runeLen_ok (r : Int) : Pure Tryd.prog W 136 [.int .i32 r] (.int .i64 (Lib.runeLen r)) :=
  Pure.of_below Tryd.func136 rfl (by decide) rfl rfl fun w _ _ => (Tryd.utf8_RuneLen r w).mono fun _ _ h => ⟨h.1, h.2 ▸ RowKit.Below.refl _ _⟩
theorem hasPrefix_ok (s p : List UInt8) : Pure Tryd.prog W 35 [.str s, .str p] (.bool (Lib.hasPrefix s p)) :=
  Pure.of_below Tryd.func35 rfl (by decide) rfl rfl fun w _ _ => (Tryd.strings_HasPrefix ⟨s.toArray⟩ ⟨p.toArray⟩ w).mono fun _ _ h => ⟨h.1, h.2 ▸ RowKit.Below.refl _ _⟩
theorem dec_L {s : List UInt8} (h : s ≠ []) : dec s = Lib.decodeL s := by
  have hn : ¬ (⟨s.toArray⟩ : ByteArray).size = 0 := by simpa [ByteArray.size] using h
  simp only [dec, Lib.decodeGo, if_neg hn]; rfl
theorem len_of_dec {s : List UInt8} (h : s ≠ []) (hv : (dec s).1 ≠ 65533) : Lib.runeLen (dec s).1 = (dec s).2 := by
  rw [dec_L h] at hv ⊢; exact Lib.runeLen_decode s hv
theorem enc_bad : Lib.encodeRune 65533 = [239, 191, 189] := by decide
/-- What is no rune takes one byte; U+FFFD itself three. -/
theorem bad_of_dec {s : List UInt8} (h : s ≠ []) (hv : (dec s).1 = 65533) : (dec s).2 = if Lib.hasPrefix s [239, 191, 189] then 3 else 1 := by
  by_cases h1 : (dec s).2 = 1
  · rw [h1, if_neg]
    intro hp
    have hp : s.take 3 = [239, 191, 189] := by
      have := Lib.hasPrefix_of_take s [239, 191, 189]
      rw [hp] at this
      simp only [Bool.and_eq_true, beq_iff_eq] at this; exact this.2
    have := dec_take (s := s) h 3 (by omega)
    rw [hp] at this
    have h2 : dec [239, 191, 189] = (65533, 3) := by decide +kernel
    rw [h2] at this
    rw [← this] at h1
    exact absurd h1 (by decide)
  · have := Lib.encode_decode s h (by rw [← dec_L h]; exact fun g => h1 g.2)
    rw [← dec_L h, hv] at this
    have e2 : s.take (dec s).2 = [239, 191, 189] := by rw [← this]; exact enc_bad
    have e3 := congrArg List.length e2
    have := dec_le s
    rw [List.length_take] at e3
    simp only [List.length_cons, List.length_nil] at e3
    have e4 : (dec s).2 = 3 := by omega
    rw [e4] at e2 ⊢
    rw [if_pos]
    rw [← Lib.hasPrefix_of_take]
    have : 3 ≤ s.length := by omega
    simp [e2, this]
end Go.Eng.YtnnehgmibpfibaaDoor
