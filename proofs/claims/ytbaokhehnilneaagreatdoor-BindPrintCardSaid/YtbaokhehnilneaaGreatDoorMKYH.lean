/- Texts put together: KeyH. -/
import Derived.Test.YtbaokhehnilneaaGreatDoorMKY5
/- Keys: equal or not; how long what is written of one is (b_ x_ q_ e_). -/
section
namespace Go.Eng.YtbaokhehnilneaaGreatDoor
open Go Go.Eng Go.Proofs
variable (W : World)
set_option linter.unusedSimpArgs false
set_option maxRecDepth 100000
set_option linter.unusedVariables false
set_option maxHeartbeats 8000000
theorem eql_key (a b : Key) (ha : a.ok) (hb : b.ok) (xo yo : Operand) : EqLaw Tryz.prog .eql 23 xo yo (encKey a) (encKey b) (decide (a = b)) :=
  eqLaw_agg 4 (by kernel_rfl) (by decide) (by kernel_rfl) Tryz.underlying23 rfl rfl (by rw [cells_key]; rfl) (by rw [cells_key]; rfl) (lits_key a ha) (lits_key b hb) (by
    obtain ⟨a0, a1, a2, a3⟩ := a
    obtain ⟨b0, b1, b2, b3⟩ := b
    simp [litsKey])
theorem write_len (k : Key) (pad : Bool) (hk : isKey k) : (writeK k pad).length ≤ 40 := by
  obtain ⟨kind, r, n, held⟩ := k
  have hf := hk.1
  have hk2 := hk.2
  clear hk
  unfold formK at hf
  unfold kindK at hk2
  dsimp only at *
  obtain ⟨hh, hr, hn⟩ := hf
  have hn12 : kind = 15 → 0 ≤ n ∧ n ≤ 12 := fun h => by
    rw [if_neg (by omega), if_neg (by omega), if_neg (by omega), if_neg (by omega), if_pos h] at hk2
    omega
  clear hk2
  have hnb := number_bd ⟨kind, r, n, held⟩ hn12
  have h1 := itoa_len3 _ (show 0 ≤ numberK ⟨kind, r, n, held⟩ ∧ numberK ⟨kind, r, n, held⟩ ≤ 100 by omega)
  have h2 := itoa_len3 (held + 1) (by omega)
  have h3 := enc_le r
  unfold writeK altK
  dsimp only
  repeat' split
  all_goals (simp only [List.length_append, List.length_cons, List.length_nil]; omega)
theorem name_len (k : Key) (hk : isKey k) : (nameK k).length ≤ 40 := by
  obtain ⟨kind, r, n, held⟩ := k
  have hf := hk.1
  have hk2 := hk.2
  clear hk
  unfold formK at hf
  unfold kindK at hk2
  dsimp only at *
  obtain ⟨hh, hr, hn⟩ := hf
  have hn12 : kind = 15 → 0 ≤ n ∧ n ≤ 12 := fun h => by
    rw [if_neg (by omega), if_neg (by omega), if_neg (by omega), if_neg (by omega), if_pos h] at hk2
    omega
  clear hk2
  have h1 := pre_len held
  rw [show preK held 3 = modK held from rfl] at h1
  have h3 := enc_le r
  have h4 : ∀ j : Nat, (wordsK.getD j []).length ≤ 10 := by
    intro j
    by_cases hj : j < 15
    · exact (by decide +kernel : ∀ j : Nat, j < 15 → (wordsK.getD j []).length ≤ 10) j hj
    · rw [List.getD_eq_getElem?_getD, List.getElem?_eq_none (by simp [wordsK]; omega)]
      exact Nat.zero_le _
  have h5 := h4 kind.toNat
  unfold nameK
  dsimp only
  rw [List.length_append]
  split
  · split
    · have : spaceK.length = 5 := rfl
      omega
    · omega
  · split
    · rename_i h15
      have h2 := itoa_len3 n (by have := hn12 h15; omega)
      rw [List.length_append]
      have : ([70] : List UInt8).length = 1 := rfl
      omega
    · omega
end Go.Eng.YtbaokhehnilneaaGreatDoor
end
