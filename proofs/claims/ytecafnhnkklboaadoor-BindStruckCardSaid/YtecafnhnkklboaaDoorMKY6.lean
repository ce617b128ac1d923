/- Texts put together: KeyF, Key11. -/
import Derived.Test.YtecafnhnkklboaaDoorMKY5
/- Keys: what is told is read again, a name names its key (plain). -/
section
namespace Go.Eng.YtecafnhnkklboaaDoor
open Go Go.Eng Go.Proofs
set_option linter.unusedSimpArgs false
set_option maxRecDepth 100000
set_option linter.unusedVariables false
set_option maxHeartbeats 4000000
theorem one_key {b : List UInt8} {k : Key} (hb : b ≠ []) (h : firstK b true = (k, b.length)) : readA true b = ([k], []) := by
  have hl := List.length_pos_iff.2 hb
  rw [readA_step hb (by rw [h]; dsimp only; omega), h]
  dsimp only
  rw [List.drop_length, readA_stop (.inl rfl)]
/-- Read and named again. -/
def backK (k : Key) : Prop := readA true (writeK k false) = ([k], []) ∧ readA true (writeK k true) = ([k], []) ∧ namedK (nameK k) = (k, 0)
instance (k : Key) : Decidable (backK k) := inferInstanceAs (Decidable (_ ∧ _))
theorem back_word : ∀ h : Nat, h < 8 → ∀ kd : Nat, kd < 15 → 6 ≤ kd → backK ⟨kd, 0, 0, h⟩ := by decide +kernel
theorem back_fun : ∀ h : Nat, h < 8 → ∀ n : Nat, n < 13 → 1 ≤ n → backK ⟨15, 0, n, h⟩ := by decide +kernel
theorem back_few : backK ⟨2, 0, 0, 0⟩ ∧ backK ⟨2, 0, 0, 2⟩ ∧ backK ⟨4, 0, 0, 0⟩ ∧ backK ⟨4, 0, 0, 2⟩ ∧ backK ⟨3, 0, 0, 0⟩ ∧ backK ⟨3, 0, 0, 1⟩ ∧ backK ⟨5, 0, 0, 0⟩ := by decide +kernel
theorem back_ctrl : ∀ c : Nat, c < 27 → (1 ≤ c ∧ c ≠ 9 ∧ c ≠ 13 ∧ c ≠ 8) → backK ⟨1, c + 96, 0, 4⟩ ∧ backK ⟨1, c + 96, 0, 6⟩ := by decide +kernel
/-- The first byte of a rune. -/
theorem enc_head {r : Nat} (hv : validR r) : (r < 128 ∧ Lib.encodeRune r = [UInt8.ofNat r]) ∨ (128 ≤ r ∧ ∃ c l, Lib.encodeRune r = c :: l ∧ 194 ≤ c.toNat) := by
  unfold validR at hv
  unfold Lib.encodeRune
  by_cases h1 : r < 128
  · rw [Lib.encodeRuneZ_one (by omega) (by omega)]
    exact .inl ⟨h1, rfl⟩
  refine .inr ⟨by omega, ?_⟩
  by_cases h2 : r < 2048
  · rw [Lib.encodeRuneZ_two (by omega) (by omega)]
    simp only [List.map_cons, List.map_nil]
    refine ⟨_, _, rfl, ?_⟩
    rw [show ((192 + (r : Int) / 64).toNat).toUInt8.toNat = 192 + r / 64 by rw [u8_nat _ (by omega)]; omega]
    omega
  by_cases h3 : r < 65536
  · rw [Lib.encodeRuneZ_three (by omega)]
    simp only [List.map_cons, List.map_nil]
    refine ⟨_, _, rfl, ?_⟩
    rw [show ((224 + (r : Int) / 4096).toNat).toUInt8.toNat = 224 + r / 4096 by rw [u8_nat _ (by omega)]; omega]
    omega
  rw [Lib.encodeRuneZ_four (by omega) (by omega)]
  simp only [List.map_cons, List.map_nil]
  refine ⟨_, _, rfl, ?_⟩
  rw [show ((240 + (r : Int) / 262144).toNat).toUInt8.toNat = 240 + r / 262144 by rw [u8_nat _ (by omega)]; omega]
  omega
theorem width_low : ∀ c : Nat, c < 128 → 0 < widthL c → 32 ≤ c ∧ c ≠ 127 := by decide +kernel
theorem first_rune {r : Nat} (hv : validR r) (hw : 0 < widthL r) : ((Lib.encodeRune r).getD 0 0).toNat ≠ 27 ∧ 32 ≤ ((Lib.encodeRune r).getD 0 0).toNat ∧ ((Lib.encodeRune r).getD 0 0).toNat ≠ 127 ∧ (r ≠ 91 → ((Lib.encodeRune r).getD 0 0).toNat ≠ 91) ∧ (r ≠ 79 → ((Lib.encodeRune r).getD 0 0).toNat ≠ 79) := by
  rcases enc_head hv with ⟨h1, h2⟩ | ⟨h1, c, l, h2, h3⟩
  · have := width_low r h1 hw
    rw [h2]
    have e : (([UInt8.ofNat r] : List UInt8).getD 0 0).toNat = r := by
      show (UInt8.ofNat r).toNat = r
      rw [UInt8.toNat_ofNat']
      omega
    rw [e]
    omega
  · rw [h2]
    have e : ((c :: l).getD 0 0) = c := rfl
    rw [e]
    omega
theorem first0_rune {r : Nat} (hv : validR r) (hw : 0 < widthL r) : first0 (Lib.encodeRune r) true = (⟨1, r, 0, 0⟩, (Lib.encodeRune r).length) := by
  have h := first_rune hv hw
  have hd := dec_enc r hv []
  rw [List.append_nil] at hd
  unfold first0
  rw [if_neg (by omega), if_neg (by simp), hd]
  dsimp only
  rw [if_neg (by omega)]
theorem back_rune0 {r : Nat} (hv : validR r) (hw : 0 < widthL r) : readA true (Lib.encodeRune r) = ([⟨1, r, 0, 0⟩], []) := by
  have h := first_rune hv hw
  refine one_key (enc_ne _) ?_
  unfold firstK
  rw [if_pos (by omega)]
  exact first0_rune hv hw
theorem back_rune2 {r : Nat} (hv : validR r) (hw : 0 < widthL r) (h1 : r ≠ 91) (h2 : r ≠ 79) : readA true (27 :: Lib.encodeRune r) = ([⟨1, r, 0, 2⟩], []) := by
  have h := first_rune hv hw
  have h0 := first0_rune hv hw
  have hl := List.length_pos_iff.2 (enc_ne (r : Int))
  refine one_key (by simp) ?_
  unfold firstK
  have e0 : ((27 : UInt8) :: Lib.encodeRune r).getD 0 0 = 27 := rfl
  have e1 : ((27 : UInt8) :: Lib.encodeRune r).getD 1 0 = (Lib.encodeRune r).getD 0 0 := rfl
  have e2 : ((27 : UInt8) :: Lib.encodeRune r).drop 1 = Lib.encodeRune r := rfl
  rw [e0, e1, e2, if_neg (by decide), if_neg (by simp only [List.length_cons]; omega), if_neg (by omega), h0]
  dsimp only
  have h3 := h.2.1
  rw [if_neg (by omega), if_neg (by omega), List.length_cons]
  rfl
/-! ### Names -/
theorem words_long : ∀ j : Nat, j < 15 → wordsK.getD j [] ≠ [] → 2 ≤ (wordsK.getD j []).length ∧ ((wordsK.getD j []).getD 0 0).toNat < 128 := by decide +kernel
theorem word_none {t : List UInt8} (h : t.length ≤ 1 ∨ 128 ≤ (t.getD 0 0).toNat) : ∀ j : Nat, j ≤ 15 → wordP j t = 0
  | 0, _ => rfl
  | j + 1, hj => by
    rw [wordP, if_neg, word_none h j (by omega)]
    rintro ⟨h1, h2⟩
    have := words_long j (by omega) h1
    rw [h2] at this
    omega
theorem enc_big {r : Nat} (hv : validR r) : (Lib.encodeRune r).length = 1 ∨ 128 ≤ ((Lib.encodeRune r).getD 0 0).toNat := by
  rcases enc_head hv with ⟨h1, h2⟩ | ⟨h1, c, l, h2, h3⟩
  · rw [h2]; exact .inl rfl
  · rw [h2]
    have e : ((c :: l).getD 0 0) = c := rfl
    rw [e]
    exact .inr (by omega)
theorem pre_not {t : List UInt8} {w : UInt8} {ws : List UInt8} (hw : w.toNat < 128) (h : 128 ≤ (t.getD 0 0).toNat) : ¬ Lib.hasPrefix t (w :: ws) = true := by
  intro hp
  rcases t with _ | ⟨c, l⟩
  · cases hp
  · unfold Lib.hasPrefix at hp
    rw [List.isPrefixOf] at hp
    simp only [Bool.and_eq_true, beq_iff_eq] at hp
    rw [← hp.1] at h
    have e : ((w :: l).getD 0 0) = w := rfl
    rw [e] at h
    omega
theorem step_enc {t : List UInt8} {w : UInt8} {ws : List UInt8} (hw : w.toNat < 128) (h : t.length = 1 ∨ 128 ≤ (t.getD 0 0).toNat) (b x : Int) : stepN (w :: ws) b (t, x) = (t, x) := by
  unfold stepN
  rw [if_neg]
  rintro ⟨h1, h2⟩
  rcases h with h | h
  · exact h2 (List.drop_eq_nil_of_le (by dsimp only; omega))
  · exact pre_not hw h h1
theorem named_rune {r : Nat} (hv : validR r) (h32 : r ≠ 32) (x : Int) (hk : isKey ⟨1, r, 0, x⟩) : namedT (Lib.encodeRune r) x = (⟨1, r, 0, x⟩, 0) := by
  have hb := enc_big hv
  have hd := dec_enc r hv []
  rw [List.append_nil] at hd
  have hn : nextL (Lib.encodeRune r) = dec (Lib.encodeRune r) := if_neg (enc_ne _)
  unfold namedT
  rw [if_neg (by rw [word_none (by omega) 15 (by omega)]; simp), if_neg, if_neg, hn, hd]
  · dsimp only
    rw [if_neg (by simp; omega)]
    unfold finK
    rw [if_pos hk]
  · intro e
    rw [e] at hb
    revert hb
    decide
  · rintro ⟨⟨h1, h2⟩, -⟩
    rcases hb with hb | hb
    · exact h2 (List.drop_eq_nil_of_le (by omega))
    · exact pre_not (by decide) hb h1
theorem back_name0 {r : Nat} (hv : validR r) (h32 : r ≠ 32) (hk : isKey ⟨1, r, 0, 0⟩) : namedK (Lib.encodeRune r) = (⟨1, r, 0, 0⟩, 0) := by
  have hb := enc_big hv
  show nm (stepN [83, 45] 1 (stepN [77, 45] 2 (stepN [67, 45] 4 (Lib.encodeRune r, 0)))) = _
  rw [step_enc (by decide) hb, step_enc (by decide) hb, step_enc (by decide) hb]
  exact named_rune hv h32 0 hk
theorem back_name2 {r : Nat} (hv : validR r) (h32 : r ≠ 32) (hk : isKey ⟨1, r, 0, 2⟩) : namedK ([77, 45] ++ Lib.encodeRune r) = (⟨1, r, 0, 2⟩, 0) := by
  have hb := enc_big hv
  have hne := enc_ne (r : Int)
  have e1 : stepN [67, 45] 4 ([77, 45] ++ Lib.encodeRune r, 0) = ([77, 45] ++ Lib.encodeRune r, 0) := by
    unfold stepN
    rw [if_neg]
    rintro ⟨h1, -⟩
    simp [Lib.hasPrefix, List.isPrefixOf] at h1
  have e2 : stepN [77, 45] 2 ([77, 45] ++ Lib.encodeRune r, 0) = (Lib.encodeRune r, 2) := by
    unfold stepN
    rw [if_pos]
    · rfl
    · refine ⟨by simp [Lib.hasPrefix, List.isPrefixOf], ?_⟩
      exact hne
  show nm (stepN [83, 45] 1 (stepN [77, 45] 2 (stepN [67, 45] 4 ([77, 45] ++ Lib.encodeRune r, 0)))) = _
  rw [e1, e2, step_enc (by decide) hb]
  exact named_rune hv h32 2 hk
theorem named_space (x : Int) (hk : isKey ⟨1, 32, 0, x⟩) : namedT spaceK x = (⟨1, 32, 0, x⟩, 0) := by
  unfold namedT
  rw [if_neg (by decide +kernel), if_neg (by decide +kernel), if_pos rfl]
  unfold finK
  rw [if_pos hk]
theorem back_all (k : Key) (hk : isKey k) : backK k := by
  obtain ⟨kind, r, n, held⟩ := k
  have hf := hk.1
  have hk2 := hk.2
  unfold formK at hf
  unfold kindK at hk2
  dsimp only at hf hk2
  obtain ⟨hh, hr, hn⟩ := hf
  by_cases k1 : kind = 1
  · subst k1
    obtain rfl : n = 0 := by omega
    rw [if_pos rfl] at hk2
    clear hr hn
    by_cases h4 : 4 ≤ held
    · rw [if_pos h4] at hk2
      obtain ⟨h5, h6⟩ := hk2
      unfold ctrlR at h6
      obtain ⟨c, rfl, hc⟩ : ∃ c : Nat, r = c + 96 ∧ c < 27 ∧ 1 ≤ c ∧ c ≠ 9 ∧ c ≠ 13 ∧ c ≠ 8 := ⟨(r - 96).toNat, by omega, by omega, by omega, by omega, by omega, by omega⟩
      have := back_ctrl c hc.1 hc.2
      rcases h5 with rfl | rfl
      · exact this.1
      · exact this.2
    · rw [if_neg h4] at hk2
      obtain ⟨h5, hw, h6, h7⟩ := hk2
      have hv := valid_of_width hw
      obtain ⟨m, rfl⟩ : ∃ m : Nat, r = m := ⟨r.toNat, by unfold validR at hv; omega⟩
      unfold backK nameK writeK
      dsimp only
      rw [if_pos rfl, if_pos rfl, if_pos rfl, if_neg h4]
      rcases h5 with rfl | rfl
      · refine ⟨back_rune0 hv hw, back_rune0 hv hw, ?_⟩
        by_cases h32 : m = 32
        · subst h32
          rw [if_pos (by decide)]
          show nm (restN 0 (modK 0 ++ spaceK, 0)) = _
          rw [show restN 0 (modK 0 ++ spaceK, 0) = (spaceK, 0) by decide +kernel]
          exact named_space 0 hk
        · rw [if_neg (by omega)]
          exact back_name0 hv h32 hk
      · have h8 : (m : Int) ≠ 91 ∧ (m : Int) ≠ 79 := by
          rcases h7 with h7 | h7
          · exact absurd h7 (by decide)
          · exact h7
        refine ⟨back_rune2 hv hw (by omega) (by omega), back_rune2 hv hw (by omega) (by omega), ?_⟩
        by_cases h32 : m = 32
        · subst h32
          rw [if_pos (by decide)]
          show nm (restN 0 (modK 2 ++ spaceK, 0)) = _
          rw [show restN 0 (modK 2 ++ spaceK, 0) = (spaceK, 2) by decide +kernel]
          exact named_space 2 hk
        · rw [if_neg (by omega)]
          exact back_name2 hv h32 hk
  · obtain rfl : r = 0 := by omega
    rw [if_neg k1] at hk2
    obtain ⟨b1, b2, b3, b4, b5, b6, b7⟩ := back_few
    by_cases k2 : kind = 2 ∨ kind = 4
    · obtain rfl : n = 0 := by omega
      rw [if_pos k2] at hk2
      rcases k2 with rfl | rfl <;> rcases hk2 with rfl | rfl
      · exact b1
      · exact b2
      · exact b3
      · exact b4
    · rw [if_neg k2] at hk2
      by_cases k3 : kind = 3
      · obtain rfl : n = 0 := by omega
        subst k3
        rw [if_pos rfl] at hk2
        rcases hk2 with rfl | rfl
        · exact b5
        · exact b6
      · rw [if_neg k3] at hk2
        by_cases k5 : kind = 5
        · obtain rfl : n = 0 := by omega
          subst k5
          rw [if_pos rfl] at hk2
          subst hk2
          exact b7
        · rw [if_neg k5] at hk2
          obtain ⟨hN, rfl⟩ : ∃ hN : Nat, held = hN := ⟨held.toNat, by omega⟩
          by_cases k15 : kind = 15
          · subst k15
            rw [if_pos rfl] at hk2
            obtain ⟨m, rfl⟩ : ∃ m : Nat, n = m := ⟨n.toNat, by omega⟩
            exact back_fun hN (by omega) m (by omega) (by omega)
          · rw [if_neg k15] at hk2
            obtain rfl : n = 0 := by omega
            obtain ⟨m, rfl⟩ : ∃ m : Nat, kind = m := ⟨kind.toNat, by omega⟩
            exact back_word hN (by omega) m (by omega) (by omega)
end Go.Eng.YtecafnhnkklboaaDoor
end

/- The law KeysBack (b_ x_ q_ e_). -/
section
namespace Go.Eng.YtecafnhnkklboaaDoor
open Go Go.Eng Go.Proofs
variable (W : World)
set_option linter.unusedSimpArgs false
set_option maxRecDepth 100000
set_option linter.unusedVariables false
set_option maxHeartbeats 8000000
theorem eql_key (a b : Key) (ha : a.ok) (hb : b.ok) (xo yo : Operand) : EqLaw Tryd.prog .eql 23 xo yo (encKey a) (encKey b) (decide (a = b)) :=
  eqLaw_agg 4 (by kernel_rfl) (by decide) (by kernel_rfl) Tryd.underlying23 rfl rfl (by rw [cells_key]; rfl) (by rw [cells_key]; rfl) (lits_key a ha) (lits_key b hb) (by
    obtain ⟨a0, a1, a2, a3⟩ := a
    obtain ⟨b0, b1, b2, b3⟩ := b
    simp [litsKey])
theorem write_len (k : Key) (pad : Bool) (hk : isKey k) : (writeK k pad).length ≤ 40 := by
  obtain ⟨kind, r, n, held⟩ := k
  have hf := hk.1
  have hk2 := hk.2
  clear hk
  unfold formK at hf
  unfold kindK at hk2
  dsimp only at *
  obtain ⟨hh, hr, hn⟩ := hf
  have hn12 : kind = 15 → 0 ≤ n ∧ n ≤ 12 := fun h => by
    rw [if_neg (by omega), if_neg (by omega), if_neg (by omega), if_neg (by omega), if_pos h] at hk2
    omega
  clear hk2
  have hnb := number_bd ⟨kind, r, n, held⟩ hn12
  have h1 := itoa_len3 _ (show 0 ≤ numberK ⟨kind, r, n, held⟩ ∧ numberK ⟨kind, r, n, held⟩ ≤ 100 by omega)
  have h2 := itoa_len3 (held + 1) (by omega)
  have h3 := enc_le r
  unfold writeK altK
  dsimp only
  repeat' split
  all_goals (simp only [List.length_append, List.length_cons, List.length_nil]; omega)
theorem name_len (k : Key) (hk : isKey k) : (nameK k).length ≤ 40 := by
  obtain ⟨kind, r, n, held⟩ := k
  have hf := hk.1
  have hk2 := hk.2
  clear hk
  unfold formK at hf
  unfold kindK at hk2
  dsimp only at *
  obtain ⟨hh, hr, hn⟩ := hf
  have hn12 : kind = 15 → 0 ≤ n ∧ n ≤ 12 := fun h => by
    rw [if_neg (by omega), if_neg (by omega), if_neg (by omega), if_neg (by omega), if_pos h] at hk2
    omega
  clear hk2
  have h1 := pre_len held
  rw [show preK held 3 = modK held from rfl] at h1
  have h3 := enc_le r
  have h4 : ∀ j : Nat, (wordsK.getD j []).length ≤ 10 := by
    intro j
    by_cases hj : j < 15
    · exact (by decide +kernel : ∀ j : Nat, j < 15 → (wordsK.getD j []).length ≤ 10) j hj
    · rw [List.getD_eq_getElem?_getD, List.getElem?_eq_none (by simp [wordsK]; omega)]
      exact Nat.zero_le _
  have h5 := h4 kind.toNat
  unfold nameK
  dsimp only
  rw [List.length_append]
  split
  · split
    · have : spaceK.length = 5 := rfl
      omega
    · omega
  · split
    · rename_i h15
      have h2 := itoa_len3 n (by have := hn12 h15; omega)
      rw [List.length_append]
      have : ([70] : List UInt8).length = 1 := rfl
      omega
    · omega
end Go.Eng.YtecafnhnkklboaaDoor
end
