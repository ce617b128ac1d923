/- Texts without what takes no cell; where runes stand: the plain law. -/
import Derived.Test.YtlfdmdhkbillpaaDoorText6
import Derived.Test.YtlfdmdhkbillpaaDoorBuilder
namespace Go.Eng.YtlfdmdhkbillpaaDoor
open Go Go.Eng Go.Proofs
set_option linter.unusedSimpArgs false
set_option maxRecDepth 100000
def validR (r : Int) : Prop := (0 ≤ r ∧ r < 55296) ∨ (57344 ≤ r ∧ r ≤ 1114111)
theorem u8_nat (n : Nat) (h : n < 256) : (n.toUInt8).toNat = n := by simp; omega
/-- What is encoded is read again. -/
theorem dec_enc (n : Nat) (hv : validR n) (t : List UInt8) : dec (Lib.encodeRune n ++ t) = (n, (Lib.encodeRune n).length) := by
  have hne : Lib.encodeRune n ++ t ≠ [] := by simp [enc_ne]
  rw [dec_N hne]
  unfold validR at hv
  unfold Lib.encodeRune
  by_cases h1 : n < 128
  · rw [Lib.encodeRuneZ_one (by omega) (by omega)]
    simp only [List.map_cons, List.map_nil, List.cons_append, List.nil_append, List.getD_cons_zero, List.getD_cons_succ, List.length_cons, List.length_nil]
    rw [show ((n : Int).toNat).toUInt8.toNat = n by rw [u8_nat _ (by omega)]; omega]
    unfold Lib.decodeN
    rw [if_pos h1]
  by_cases h2 : n < 2048
  · rw [Lib.encodeRuneZ_two (by omega) (by omega)]
    simp only [List.map_cons, List.map_nil, List.cons_append, List.nil_append, List.getD_cons_zero, List.getD_cons_succ, List.length_cons, List.length_nil]
    rw [show ((192 + (n : Int) / 64).toNat).toUInt8.toNat = 192 + n / 64 by rw [u8_nat _ (by omega)]; omega, show ((128 + (n : Int) % 64).toNat).toUInt8.toNat = 128 + n % 64 by rw [u8_nat _ (by omega)]; omega]
    unfold Lib.decodeN
    rw [if_neg (by omega), if_pos ⟨by omega, by omega, by omega⟩, if_pos (by omega)]
    congr 1; omega
  by_cases h3 : n < 65536
  · rw [Lib.encodeRuneZ_three (by omega)]
    simp only [List.map_cons, List.map_nil, List.cons_append, List.nil_append, List.getD_cons_zero, List.getD_cons_succ, List.length_cons, List.length_nil]
    rw [show ((224 + (n : Int) / 4096).toNat).toUInt8.toNat = 224 + n / 4096 by rw [u8_nat _ (by omega)]; omega, show ((128 + (n : Int) / 64 % 64).toNat).toUInt8.toNat = 128 + n / 64 % 64 by rw [u8_nat _ (by omega)]; omega,
      show ((128 + (n : Int) % 64).toNat).toUInt8.toNat = 128 + n % 64 by rw [u8_nat _ (by omega)]; omega]
    unfold Lib.decodeN
    rw [if_neg (by omega), if_neg (by omega), if_pos ⟨by omega, ⟨by omega, by omega⟩, by omega, by omega⟩, if_pos (by omega)]
    congr 1; omega
  rw [Lib.encodeRuneZ_four (by omega) (by omega)]
  simp only [List.map_cons, List.map_nil, List.cons_append, List.nil_append, List.getD_cons_zero, List.getD_cons_succ, List.length_cons, List.length_nil]
  rw [show ((240 + (n : Int) / 262144).toNat).toUInt8.toNat = 240 + n / 262144 by rw [u8_nat _ (by omega)]; omega, show ((128 + (n : Int) / 4096 % 64).toNat).toUInt8.toNat = 128 + n / 4096 % 64 by rw [u8_nat _ (by omega)]; omega,
    show ((128 + (n : Int) / 64 % 64).toNat).toUInt8.toNat = 128 + n / 64 % 64 by rw [u8_nat _ (by omega)]; omega, show ((128 + (n : Int) % 64).toNat).toUInt8.toNat = 128 + n % 64 by rw [u8_nat _ (by omega)]; omega]
  unfold Lib.decodeN
  rw [if_neg (by omega), if_neg (by omega), if_neg (by omega), if_pos ⟨by omega, ⟨by omega, by omega⟩, ⟨by omega, by omega⟩, by omega, by omega⟩, if_pos (by omega)]
  congr 1; omega
theorem runes_enc (n : Nat) (hv : validR n) (t : List UInt8) : runes (Lib.encodeRune n ++ t) = (n, (Lib.encodeRune n).length) :: runes t := by
  rw [runes_cons (by simp [enc_ne]), dec_enc n hv t]
  simp
/-- What takes a cell is a rune. -/
theorem valid_of_width {r : Int} (h : 0 < widthL r) : validR r := by
  unfold widthL at h
  unfold validR
  split at h
  · cases h
  · rename_i h1
    simp only [not_or, Bool.not_eq_true] at h1
    obtain ⟨h1, h2, h3⟩ := h1
    have : ¬ (55296 ≤ r ∧ r ≤ 57343) := by
      intro h4
      rw [Bool.eq_false_iff] at h3
      apply h3
      simp [withinL, noneS]
      omega
    omega
def cleanRs : List (Nat × Nat) → List UInt8
  | [] => []
  | p :: l => if 0 < widthL p.1 then Lib.encodeRune p.1 ++ cleanRs l else cleanRs l
def cleanL (s : List UInt8) : List UInt8 := cleanRs (runes s)
def columnsRs : Nat → List (Nat × Nat) → List Nat
  | _, [] => []
  | x, p :: l => if 0 < widthL p.1 then x :: columnsRs (x + widthL p.1) l else columnsRs x l
def columnsL (s : List UInt8) : List Nat := columnsRs 0 (runes s)
theorem enc_le (r : Int) : (Lib.encodeRune r).length ≤ 4 := by have := Lib.encodeRuneZ_length r; simpa [Lib.encodeRune] using this.2
theorem cleanRs_len : ∀ l, (cleanRs l).length ≤ 4 * l.length
  | [] => by simp [cleanRs]
  | p :: l => by
    have h := cleanRs_len l
    have h2 := enc_le p.1
    rw [cleanRs]
    split <;> simp <;> omega
/-- The runes of what is clean. -/
def keptRs (l : List (Nat × Nat)) : List (Nat × Nat) := (l.filter fun p => decide (0 < widthL p.1)).map fun p => (p.1, (Lib.encodeRune p.1).length)
theorem runes_clean : ∀ l : List (Nat × Nat), runes (cleanRs l) = keptRs l
  | [] => by rw [cleanRs, runes_nil]; rfl
  | p :: l => by
    rw [cleanRs]
    split
    · rename_i h
      rw [runes_enc p.1 (valid_of_width h), runes_clean l]
      simp [keptRs, List.filter_cons, h]
    · rename_i h
      rw [runes_clean l]
      simp [keptRs, List.filter_cons, h]
theorem clean_kept : ∀ l : List (Nat × Nat), cleanRs (keptRs l) = cleanRs l
  | [] => rfl
  | p :: l => by
    have ih := clean_kept l
    unfold keptRs at ih ⊢
    rw [List.filter_cons]
    split
    · rename_i h
      simp only [decide_eq_true_eq] at h
      rw [List.map_cons, cleanRs, if_pos h, ih, cleanRs, if_pos h]
    · rename_i h
      simp only [decide_eq_true_eq] at h
      rw [ih, cleanRs, if_neg h]
theorem wide_kept : ∀ l : List (Nat × Nat), wideRs (keptRs l) = wideRs l
  | [] => rfl
  | p :: l => by
    have ih := wide_kept l
    unfold keptRs at ih ⊢
    rw [List.filter_cons]
    split
    · rw [List.map_cons, wideRs, ih, wideRs]
    · rename_i h
      simp only [decide_eq_true_eq] at h
      rw [ih, wideRs]; omega
theorem columns_len : ∀ (l : List (Nat × Nat)) (x : Nat), (columnsRs x l).length = (keptRs l).length
  | [], _ => rfl
  | p :: l, x => by
    rw [columnsRs, keptRs, List.filter_cons]
    split
    · rename_i h
      rw [List.length_cons, columns_len l]
      simp [h, keptRs]
    · rename_i h
      rw [columns_len l]
      simp [h, keptRs]
theorem clean_clean (s : List UInt8) : cleanL (cleanL s) = cleanL s := by rw [cleanL, cleanL, runes_clean, clean_kept]
theorem wide_clean (s : List UInt8) : wideL (cleanL s) = wideL s := by rw [wideL, cleanL, runes_clean, wide_kept, wideL]
theorem columns_count (s : List UInt8) : (columnsL s).length = (runes (cleanL s)).length := by rw [columnsL, columns_len, cleanL, runes_clean]
end Go.Eng.YtlfdmdhkbillpaaDoor
