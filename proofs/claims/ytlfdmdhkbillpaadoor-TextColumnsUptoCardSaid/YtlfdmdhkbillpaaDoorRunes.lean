/- Runes of bytes that are cut, or put together: plain laws. -/
import Derived.Test.YtlfdmdhkbillpaaDoorText3
import Derived.Lib.TrimUEq
namespace Go.Eng.YtlfdmdhkbillpaaDoor
open Go Go.Eng Go.Proofs

theorem decodeN_take (n m b0 b1 b2 b3 c1 c2 c3 : Nat) (hm : 1 ≤ m) (h : (Lib.decodeN n b0 b1 b2 b3).2 ≤ m) (h1 : 1 < m → c1 = b1) (h2 : 2 < m → c2 = b2) (h3 : 3 < m → c3 = b3) :
    Lib.decodeN (min m n) b0 c1 c2 c3 = Lib.decodeN n b0 b1 b2 b3 := by
  have key : ∀ k, k < m → ((k < min m n) ↔ (k < n)) := fun k hk => by omega
  by_cases m1 : 1 < m
  · obtain rfl := h1 m1
    by_cases m2 : 2 < m
    · obtain rfl := h2 m2
      by_cases m3 : 3 < m
      · obtain rfl := h3 m3
        simp only [Lib.decodeN, key 1 m1, key 2 m2, key 3 m3]
      · have n3 : ¬ 3 < min m n := by omega
        unfold Lib.decodeN at h ⊢
        simp only [key 1 m1, key 2 m2, n3, false_and, and_false, if_false] at h ⊢
        repeat' split at h
        all_goals repeat' split
        all_goals first | rfl | (exfalso; omega) | (simp at h; omega) | simp_all
    · have n2 : ¬ 2 < min m n := by omega
      have n3 : ¬ 3 < min m n := by omega
      unfold Lib.decodeN at h ⊢
      simp only [key 1 m1, n2, n3, false_and, and_false, if_false] at h ⊢
      repeat' split at h
      all_goals repeat' split
      all_goals first | rfl | (exfalso; omega) | (simp at h; omega) | simp_all
  · have n1 : ¬ 1 < min m n := by omega
    unfold Lib.decodeN at h ⊢
    simp only [n1, false_and, and_false, if_false] at h ⊢
    repeat' split at h
    all_goals repeat' split
    all_goals first | rfl | (exfalso; omega) | (simp at h; omega) | simp_all
theorem dec_N {s : List UInt8} (h : s ≠ []) : dec s = Lib.decodeN s.length (s.getD 0 0).toNat (s.getD 1 0).toNat (s.getD 2 0).toNat (s.getD 3 0).toNat := by
  have hn : ¬ (⟨s.toArray⟩ : ByteArray).size = 0 := by simpa [ByteArray.size] using h
  simp only [dec, Lib.decodeGo, if_neg hn]
  exact Lib.decodeL_N s
theorem dec_take {s : List UInt8} (h : s ≠ []) (m : Nat) (hm : (dec s).2 ≤ m) : dec (s.take m) = dec s := by
  have h1 := dec_pos s h
  have hne : s.take m ≠ [] := by
    cases s with
    | nil => exact absurd rfl h
    | cons a l => cases m with
      | zero => omega
      | succ m => simp
  have hm0 : 1 ≤ m := by omega
  rw [dec_N h] at hm ⊢
  rw [dec_N hne, List.length_take]
  have e : ∀ k, k < m → (s.take m).getD k 0 = s.getD k 0 := fun k hk => by simp [List.getD_eq_getElem?_getD, hk]
  rw [e 0 (by omega)]
  refine decodeN_take _ _ _ _ _ _ _ _ _ (by omega) hm (fun h => ?_) (fun h => ?_) (fun h => ?_)
  all_goals rw [e _ h]

/-- How many bytes runes take. -/
def sizes : List (Nat × Nat) → Nat
  | [] => 0
  | p :: l => p.2 + sizes l
theorem sizes_runes : ∀ s, sizes (runes s) = s.length := by
  refine runes_ind (by rw [runes_nil]; rfl) fun s h ih => ?_
  rw [runes_cons h, sizes, ih]
  have := dec_le s
  simp; omega
theorem runes_eq_nil {s : List UInt8} (h : runes s = []) : s = [] := by
  have := sizes_runes s
  rw [h] at this
  exact List.eq_nil_of_length_eq_zero this.symm
/-- Bytes that are parted between two runes. -/
theorem runes_part : ∀ s (j : Nat), runes (s.take (sizes ((runes s).take j))) = (runes s).take j ∧ runes (s.drop (sizes ((runes s).take j))) = (runes s).drop j := by
  refine runes_ind (fun j => by simp [runes_nil]) fun s h ih j => ?_
  cases j with
  | zero => simp [sizes, runes_nil]
  | succ j =>
    rw [runes_cons h, List.take_succ_cons, sizes, List.drop_succ_cons]
    obtain ⟨i1, i2⟩ := ih j
    have hp := dec_pos s h
    have hl := dec_le s
    have hne : s.take ((dec s).2 + sizes (List.take j (runes (s.drop (dec s).2)))) ≠ [] := by
      intro e
      have := congrArg List.length e
      have h3 : 0 < s.length := List.length_pos_iff.2 h
      rw [List.length_take, List.length_nil] at this; omega
    refine ⟨?_, by rw [← List.drop_drop]; exact i2⟩
    rw [runes_cons hne, dec_take h _ (by omega), List.drop_take, Nat.add_sub_cancel_left, i1]
theorem wideRs_append (l m : List (Nat × Nat)) : wideRs (l ++ m) = wideRs l + wideRs m := by
  induction l with
  | nil => simp [wideRs]
  | cons p l ih => simp [wideRs, ih, Nat.add_assoc]
/-- How many runes of a text are taken that may take n cells. -/
def cutN (n : Int) : Nat → List (Nat × Nat) → Nat
  | _, [] => 0
  | used, p :: l => if n < used + widthL p.1 then 0 else cutN n (used + widthL p.1) l + 1
theorem cutAt_sizes (n : Int) : ∀ (l : List (Nat × Nat)) (used : Nat), cutAt n used l = sizes (l.take (cutN n used l))
  | [], _ => rfl
  | p :: l, used => by
    rw [cutAt, cutN]
    split
    · rfl
    · rw [cutAt_sizes n l, List.take_succ_cons, sizes]
theorem cutN_wide (n : Int) : ∀ (l : List (Nat × Nat)) (used : Nat), (used : Int) ≤ n → (used : Int) + wideRs (l.take (cutN n used l)) ≤ n
  | [], used, h => by simp [cutN, wideRs]; exact h
  | p :: l, used, h => by
    rw [cutN]
    split
    · simp [wideRs]; exact h
    · rename_i hn
      have := cutN_wide n l (used + widthL p.1) (by omega)
      rw [List.take_succ_cons, wideRs]
      omega
theorem cutN_neg (n : Int) (hn : n < 0) : ∀ (l : List (Nat × Nat)) (used : Nat), cutN n used l = 0
  | [], _ => rfl
  | p :: l, used => by rw [cutN, if_pos (by omega)]
/-- What fits is taken whole. -/
theorem cutN_all (n : Int) : ∀ (l : List (Nat × Nat)) (used : Nat), (used : Int) + wideRs l ≤ n → cutN n used l = l.length
  | [], _, _ => rfl
  | p :: l, used, h => by
    rw [wideRs] at h
    rw [cutN, if_neg (by omega), cutN_all n l _ (by omega)]; rfl
theorem runes_cutL (s : List UInt8) (n : Int) : runes (cutL s n) = (runes s).take (cutN n 0 (runes s)) := by
  rw [cutL, cutAt_sizes]; exact (runes_part s _).1
theorem cutL_cutL (s : List UInt8) (n : Int) : cutL (cutL s n) n = cutL s n := by
  by_cases hn : n < 0
  · have : cutL s n = [] := by rw [cutL, cutAt_sizes, cutN_neg n hn]; simp [sizes]
    rw [this]; simp [cutL]
  · have h1 := cutN_wide n (runes s) 0 (by omega)
    have h2 := cutN_all n (runes (cutL s n)) 0 (by rw [runes_cutL]; exact h1)
    have h3 : cutAt n 0 (runes (cutL s n)) = (cutL s n).length := by rw [cutAt_sizes, h2, List.take_length, sizes_runes]
    conv => lhs; rw [cutL, h3, List.take_length]
theorem wide_cutL (s : List UInt8) (n : Int) (hn : 0 ≤ n) : (wideL (cutL s n) : Int) ≤ n := by
  rw [wideL, runes_cutL]
  have := cutN_wide n (runes s) 0 (by omega)
  omega
theorem wide_part (s : List UInt8) (n : Int) : wideL (cutL s n) + wideL (s.drop (cutL s n).length) = wideL s := by
  have hl : (cutL s n).length = sizes ((runes s).take (cutN n 0 (runes s))) := by rw [← sizes_runes, runes_cutL]
  rw [hl]
  simp only [wideL]
  rw [runes_cutL, (runes_part s _).2, ← wideRs_append, List.take_append_drop]
end Go.Eng.YtlfdmdhkbillpaaDoor
