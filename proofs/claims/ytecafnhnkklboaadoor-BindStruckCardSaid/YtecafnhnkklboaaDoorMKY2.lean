/- Texts put together: Key3, Key4. -/
import Derived.Test.YtecafnhnkklboaaDoorMKY1
import Derived.Test.YtecafnhnkklboaaDoorME9
import Derived.Test.YtecafnhnkklboaaDoorME3
/- Keys: sequences, the first key, all keys (b_ x_ q_ e_). -/
section
namespace Go.Eng.YtecafnhnkklboaaDoor
open Go Go.Eng Go.Proofs
variable (W : World)
set_option linter.unusedSimpArgs false
set_option maxRecDepth 100000
set_option linter.unusedVariables false
set_option maxHeartbeats 8000000
theorem dg_iff (c : UInt8) : isDg c = true ↔ ((48 ≤ c.toNat ∧ c.toNat ≤ 57) ∨ c.toNat = 59) := by
  unfold isDg
  simp only [Bool.or_eq_true, Bool.and_eq_true, decide_eq_true_eq]
theorem tw_len {α : Type} {p : α → Bool} : ∀ {l : List α} {n : Nat}, n ≤ l.length → (∀ k x, k < n → l[k]? = some x → p x = true) → (∀ x, l[n]? = some x → p x = false) → (l.takeWhile p).length = n
  | [], n, hn, _, _ => by simp at hn; simp [hn]
  | a :: l, 0, _, _, h => by
    rw [List.takeWhile_cons, if_neg (by rw [h a rfl]; decide)]; rfl
  | a :: l, n + 1, hn, h1, h2 => by
    rw [List.takeWhile_cons, if_pos (h1 0 a (by omega) rfl), List.length_cons, tw_len (l := l) (n := n) (by simpa using hn) (fun k x hk hx => h1 (k + 1) x (by omega) hx) (fun x hx => h2 x hx)]
theorem run_is {b : List UInt8} {i : Nat} (h2 : 2 ≤ i) (hi : i ≤ b.length) (h12 : i ≤ 12) (h91 : 2 < i → b.getD 1 0 = 91) (hd : ∀ k x, 2 ≤ k → k < i → b[k]? = some x → isDg x = true)
    (he : i = b.length ∨ i = 12 ∨ b.getD 1 0 ≠ 91 ∨ ∃ x, b[i]? = some x ∧ isDg x = false) : runK b = i := by
  unfold runK
  by_cases h9 : b.getD 1 0 = 91
  · rw [if_pos h9, tw_len (n := i - 2)]
    · omega
    · rw [List.length_take, List.length_drop]; omega
    · intro k x hk hx
      rw [List.getElem?_take, if_pos (by omega), List.getElem?_drop] at hx
      exact hd (2 + k) x (by omega) (by omega) hx
    · intro x hx
      rw [List.getElem?_take] at hx
      split at hx
      · rw [List.getElem?_drop, show 2 + (i - 2) = i by omega] at hx
        rcases he with he | he | he | ⟨y, hy, he⟩
        · rw [List.getElem?_eq_none (by omega)] at hx; cases hx
        · omega
        · exact absurd h9 he
        · rw [hy, Option.some.injEq] at hx
          subst hx
          exact he
      · cases hx
  · rw [if_neg h9]
    by_cases hi2 : i = 2
    · omega
    · exact absurd (h91 (by omega)) h9
end Go.Eng.YtecafnhnkklboaaDoor
end

/- Keys: the first key, all keys (b_ x_ q_ e_). -/
section
namespace Go.Eng.YtecafnhnkklboaaDoor
open Go Go.Eng Go.Proofs
variable (W : World)
set_option linter.unusedSimpArgs false
set_option maxRecDepth 100000
set_option linter.unusedVariables false
set_option maxHeartbeats 8000000
theorem readK_nil (last : Bool) : ∀ n : Nat, readK last n [] = ([], [])
  | 0 => rfl
  | n + 1 => by rw [readK, if_pos (.inl rfl)]
theorem readK_same (last : Bool) : ∀ (n m : Nat) (b : List UInt8), b.length ≤ n → b.length ≤ m → readK last n b = readK last m b
  | 0, m, b, h, _ => by
    obtain rfl : b = [] := List.length_eq_zero_iff.1 (by omega)
    rw [readK_nil, readK_nil]
  | n + 1, 0, b, _, h => by
    obtain rfl : b = [] := List.length_eq_zero_iff.1 (by omega)
    rw [readK_nil, readK_nil]
  | n + 1, m + 1, b, h1, h2 => by
    rw [readK, readK]
    by_cases h0 : b = [] ∨ (firstK b last).2 = 0
    · rw [if_pos h0, if_pos h0]
    · rw [if_neg h0, if_neg h0, readK_same last n m _ (by rw [List.length_drop]; omega) (by rw [List.length_drop]; omega)]
theorem readK_fuel (last : Bool) (n : Nat) (b : List UInt8) (h : b.length ≤ n) : readK last n b = readK last b.length b := readK_same last _ _ b h (Nat.le_refl _)
/-- All keys, and what is left. -/
def readA (last : Bool) (b : List UInt8) : List Key × List UInt8 := readK last b.length b
theorem readA_stop {last : Bool} {b : List UInt8} (h : b = [] ∨ (firstK b last).2 = 0) : readA last b = ([], b) := by
  unfold readA
  rcases b with _ | ⟨c, r⟩
  · rfl
  · rw [List.length_cons, readK, if_pos h]
theorem readA_step {last : Bool} {b : List UInt8} (hb : b ≠ []) (h : (firstK b last).2 ≠ 0) : readA last b = ((firstK b last).1 :: (readA last (b.drop (firstK b last).2)).1, (readA last (b.drop (firstK b last).2)).2) := by
  unfold readA
  rcases b with _ | ⟨c, r⟩
  · exact absurd rfl hb
  · rw [List.length_cons, readK, if_neg (by simp [h]), readK_fuel last r.length _ (by rw [List.length_drop, List.length_cons]; omega)]
end Go.Eng.YtecafnhnkklboaaDoor
end
