/- The law StyleApply. -/
import Derived.Test.YtlfdmdhkbillpaaDoorStyleMap
namespace Go.Eng.YtlfdmdhkbillpaaDoor
open Go Go.Eng Go.Proofs
variable (W : World)
set_option linter.unusedSimpArgs false
set_option maxRecDepth 100000
set_option linter.unusedVariables false
set_option maxHeartbeats 4000000
theorem mask_ok {s : Style} (h : s.ok) (n : Int) : (s.mask n).ok := ⟨h.1, h.2.1, bitop_ok .or _ _⟩
theorem num_ok {s : Style} (h : s.ok) (n : Int) : (s.num n).ok := by
  obtain ⟨h1, h2, h3⟩ := h
  unfold i64ok at h1 h2 h3
  unfold Style.num
  repeat' split
  all_goals refine ⟨?_, ?_, ?_⟩ <;> unfold i64ok <;> first | omega | (simp only [Style.none]; omega) | (dsimp only; omega)
theorem colour_ok {s : Style} (h : s.ok) (n c : Int) : (s.colour n c).ok := by
  obtain ⟨h1, h2, h3⟩ := h
  unfold i64ok at h1 h2 h3
  unfold Style.colour
  repeat' split
  all_goals refine ⟨?_, ?_, ?_⟩ <;> unfold i64ok <;> first | omega | (dsimp only; omega)
theorem applyL_ok : ∀ (k : Nat) (l : List Int) (s : Style), l.length ≤ k → s.ok → (applyL s l).ok
  | _, [], s, _, h => by rw [applyL]; exact h
  | _, [n], s, _, h => by rw [applyL]; exact num_ok (mask_ok h n) n
  | 0, _ :: _, s, hk, h => by simp at hk
  | k + 1, [n, m], s, hk, h => by
    rw [applyL]
    exact applyL_ok k [m] _ (by simp at hk ⊢; omega) (num_ok (mask_ok h n) n)
  | k + 1, n :: m :: c :: r, s, hk, h => by
    rw [applyL]
    simp only [List.length_cons] at hk
    split
    · exact applyL_ok k r _ (by omega) (colour_ok (mask_ok h n) n c)
    · exact applyL_ok k (m :: c :: r) _ (by simp only [List.length_cons]; omega) (num_ok (mask_ok h n) n)
theorem applyTo_ok {s : Style} (h : s.ok) (l : List Int) : (applyTo s l).ok := by
  unfold applyTo
  split
  · exact ⟨by decide, by decide, by decide⟩
  · exact applyL_ok _ l s (Nat.le_refl _) h
theorem clone_ints0 (a : Option Addr) (c : Nat) : Pure Tryd.prog W 22 [.lit (.slice a 0 c)] (.sl 1 []) := by
  refine Pure.of (acalls_of_vc (drawOk W) Tryd.func22 rfl (by decide) (by decide) rfl ?_)
  (refine go ?_; repeat ((first | (refine New1.mk fun b_ hb_ => ?_; clear hb_) | (refine New2.mk fun b_ hb_ => ?_; clear hb_) | (refine Nat1.mk fun q_ hq_ => ?_; (first | (obtain rfl := Int.ofNat.inj hq_; clear hq_) | skip)) | (refine Elem1.mk fun e_ he_ => ?_; (first | (obtain ⟨x_, hx_, rfl⟩ := getMap he_; clear he_) | (obtain rfl := Option.some.inj he_; clear he_) | skip)) | (refine Lst1.mk fun s_ hs_ => ?_; (try simp only [List.take_length, List.drop_zero, ← List.map_take, ← List.map_drop] at hs_); subst hs_)); refine go ?_))
  refine ⟨_, eql_nil Tryd.underlying25 (.inl ⟨_, _, rfl, rfl⟩), ?_⟩
  (refine go ?_; repeat ((first | (refine New1.mk fun b_ hb_ => ?_; clear hb_) | (refine New2.mk fun b_ hb_ => ?_; clear hb_) | (refine Nat1.mk fun q_ hq_ => ?_; (first | (obtain rfl := Int.ofNat.inj hq_; clear hq_) | skip)) | (refine Elem1.mk fun e_ he_ => ?_; (first | (obtain ⟨x_, hx_, rfl⟩ := getMap he_; clear he_) | (obtain rfl := Option.some.inj he_; clear he_) | skip)) | (refine Lst1.mk fun s_ hs_ => ?_; (try simp only [List.take_length, List.drop_zero, ← List.map_take, ← List.map_drop] at hs_); subst hs_)); refine go ?_))
  refine brec ?_; intro c_ h; (try rw [h]); cases c_ <;> (first | replace h := of_decide_eq_true h | replace h := Decidable.not_not.1 (of_decide_eq_false h) | replace h := of_decide_eq_false h | (replace h := Bool.eq_false_iff.1 h; simp only [true_and, and_true, Bool.true_and, Bool.and_true, Bool.not_true, Bool.not_false, Bool.and_eq_true, Bool.not_eq_true, Bool.not_eq_false, Bool.or_eq_true, Bool.not_eq_true', Bool.not_eq_false', decide_eq_true_eq, decide_eq_false_iff_not, Decidable.not_not, ne_eq, beq_iff_eq] at h) | simp only [true_and, and_true, Bool.true_and, Bool.and_true, Bool.not_true, Bool.not_false, Bool.and_eq_true, Bool.not_eq_true, Bool.not_eq_false, Bool.or_eq_true, Bool.not_eq_true', Bool.not_eq_false', decide_eq_true_eq, decide_eq_false_iff_not, Decidable.not_not, ne_eq, beq_iff_eq] at h | skip)
  · (refine go ?_; repeat ((first | (refine New1.mk fun b_ hb_ => ?_; clear hb_) | (refine New2.mk fun b_ hb_ => ?_; clear hb_) | (refine Nat1.mk fun q_ hq_ => ?_; (first | (obtain rfl := Int.ofNat.inj hq_; clear hq_) | skip)) | (refine Elem1.mk fun e_ he_ => ?_; (first | (obtain ⟨x_, hx_, rfl⟩ := getMap he_; clear he_) | (obtain rfl := Option.some.inj he_; clear he_) | skip)) | (refine Lst1.mk fun s_ hs_ => ?_; (try simp only [List.take_length, List.drop_zero, ← List.map_take, ← List.map_drop] at hs_); subst hs_)); refine go ?_))
    refine .inr ?_
    (refine go ?_; repeat ((first | (refine New1.mk fun b_ hb_ => ?_; clear hb_) | (refine New2.mk fun b_ hb_ => ?_; clear hb_) | (refine Nat1.mk fun q_ hq_ => ?_; (first | (obtain rfl := Int.ofNat.inj hq_; clear hq_) | skip)) | (refine Elem1.mk fun e_ he_ => ?_; (first | (obtain ⟨x_, hx_, rfl⟩ := getMap he_; clear he_) | (obtain rfl := Option.some.inj he_; clear he_) | skip)) | (refine Lst1.mk fun s_ hs_ => ?_; (try simp only [List.take_length, List.drop_zero, ← List.map_take, ← List.map_drop] at hs_); subst hs_)); refine go ?_))
    exact frz_row (.here _ _ _) _ rfl
  · (refine go ?_; repeat ((first | (refine New1.mk fun b_ hb_ => ?_; clear hb_) | (refine New2.mk fun b_ hb_ => ?_; clear hb_) | (refine Nat1.mk fun q_ hq_ => ?_; (first | (obtain rfl := Int.ofNat.inj hq_; clear hq_) | skip)) | (refine Elem1.mk fun e_ he_ => ?_; (first | (obtain ⟨x_, hx_, rfl⟩ := getMap he_; clear he_) | (obtain rfl := Option.some.inj he_; clear he_) | skip)) | (refine Lst1.mk fun s_ hs_ => ?_; (try simp only [List.take_length, List.drop_zero, ← List.map_take, ← List.map_drop] at hs_); subst hs_)); refine go ?_))
    exact .nils _
theorem clone_ints1 (x : Int) (l : List Int) (hl : (l.length + 1) * 8 ≤ 140737488355328) : Pure Tryd.prog W 22 [.sl 1 ((x :: l).map (PV.int .i64))] (.sl 1 ((x :: l).map (PV.int .i64))) := by
  refine Pure.of (acalls_of_vc (drawOk W) Tryd.func22 rfl (by decide) (by decide) rfl ?_)
  have hc : ((x :: l).map (PV.int .i64)).all cellsB = true := by simp [cellsB, PV.flat, cellB]
  rw [List.map_cons] at *
  (refine go ?_; repeat ((first | (refine New1.mk fun b_ hb_ => ?_; clear hb_) | (refine New2.mk fun b_ hb_ => ?_; clear hb_) | (refine Nat1.mk fun q_ hq_ => ?_; (first | (obtain rfl := Int.ofNat.inj hq_; clear hq_) | skip)) | (refine Elem1.mk fun e_ he_ => ?_; (first | (obtain ⟨x_, hx_, rfl⟩ := getMap he_; clear he_) | (obtain rfl := Option.some.inj he_; clear he_) | skip)) | (refine Lst1.mk fun s_ hs_ => ?_; (try simp only [List.take_length, List.drop_zero, ← List.map_take, ← List.map_drop] at hs_); subst hs_)); refine go ?_))
  refine ⟨_, eql_nil Tryd.underlying25 (.inr (.inl ⟨_, _, _, rfl, rfl⟩)), ?_⟩
  (refine go ?_; repeat ((first | (refine New1.mk fun b_ hb_ => ?_; clear hb_) | (refine New2.mk fun b_ hb_ => ?_; clear hb_) | (refine Nat1.mk fun q_ hq_ => ?_; (first | (obtain rfl := Int.ofNat.inj hq_; clear hq_) | skip)) | (refine Elem1.mk fun e_ he_ => ?_; (first | (obtain ⟨x_, hx_, rfl⟩ := getMap he_; clear he_) | (obtain rfl := Option.some.inj he_; clear he_) | skip)) | (refine Lst1.mk fun s_ hs_ => ?_; (try simp only [List.take_length, List.drop_zero, ← List.map_take, ← List.map_drop] at hs_); subst hs_)); refine go ?_))
  refine .inr ?_
  (refine go ?_; repeat ((first | (refine New1.mk fun b_ hb_ => ?_; clear hb_) | (refine New2.mk fun b_ hb_ => ?_; clear hb_) | (refine Nat1.mk fun q_ hq_ => ?_; (first | (obtain rfl := Int.ofNat.inj hq_; clear hq_) | skip)) | (refine Elem1.mk fun e_ he_ => ?_; (first | (obtain ⟨x_, hx_, rfl⟩ := getMap he_; clear he_) | (obtain rfl := Option.some.inj he_; clear he_) | skip)) | (refine Lst1.mk fun s_ hs_ => ?_; (try simp only [List.take_length, List.drop_zero, ← List.map_take, ← List.map_drop] at hs_); subst hs_)); refine go ?_))
  exact frz_row (.here _ _ _) _ (by simp)
theorem clone_ints (l : List Int) (hl : l.length ≤ 17592186043904) : Pure Tryd.prog W 22 [.sl 1 (l.map (PV.int .i64))] (.sl 1 (l.map (PV.int .i64))) := by
  cases l with
  | nil => exact Pure.of_empty (clone_ints0 W)
  | cons x l => exact clone_ints1 W x l (by simp at hl; omega)
theorem styleApply_ok (hN : Nums W) (s : Style) (hs : s.ok) (l : List Int) (hi : ∀ n ∈ l, i64ok n) (hl : l.length ≤ 17592186043904) : Pure Tryd.prog W 5 [encStyle s, .sl 1 (l.map (PV.int .i64))] (.bool true) := by
  refine Pure.of (acalls_of_vc (drawOk W) Tryd.func5 rfl (by decide) (by decide) rfl ?_)
  (refine go ?_; repeat ((first | (refine New1.mk fun b_ hb_ => ?_; clear hb_) | (refine New2.mk fun b_ hb_ => ?_; clear hb_) | (refine Nat1.mk fun q_ hq_ => ?_; (first | (obtain rfl := Int.ofNat.inj hq_; clear hq_) | skip)) | (refine Elem1.mk fun e_ he_ => ?_; (first | (obtain ⟨x_, hx_, rfl⟩ := getMap he_; clear he_) | (obtain rfl := Option.some.inj he_; clear he_) | skip)) | (refine Lst1.mk fun s_ hs_ => ?_; (try simp only [List.take_length, List.drop_zero, ← List.map_take, ← List.map_drop] at hs_); subst hs_)); refine go ?_))
  refine (clone_ints W l hl).use ?_; (refine go ?_; repeat ((first | (refine New1.mk fun b_ hb_ => ?_; clear hb_) | (refine New2.mk fun b_ hb_ => ?_; clear hb_) | (refine Nat1.mk fun q_ hq_ => ?_; (first | (obtain rfl := Int.ofNat.inj hq_; clear hq_) | skip)) | (refine Elem1.mk fun e_ he_ => ?_; (first | (obtain ⟨x_, hx_, rfl⟩ := getMap he_; clear he_) | (obtain rfl := Option.some.inj he_; clear he_) | skip)) | (refine Lst1.mk fun s_ hs_ => ?_; (try simp only [List.take_length, List.drop_zero, ← List.map_take, ← List.map_drop] at hs_); subst hs_)); refine go ?_))
  (first | refine ⟨32, by decide +kernel, ?_⟩ | refine ⟨31, by decide +kernel, ?_⟩ | refine ⟨30, by decide +kernel, ?_⟩ | refine ⟨29, by decide +kernel, ?_⟩ | refine ⟨28, by decide +kernel, ?_⟩ | refine ⟨27, by decide +kernel, ?_⟩ | refine ⟨26, by decide +kernel, ?_⟩ | refine ⟨25, by decide +kernel, ?_⟩ | refine ⟨24, by decide +kernel, ?_⟩ | refine ⟨23, by decide +kernel, ?_⟩ | refine ⟨22, by decide +kernel, ?_⟩ | refine ⟨21, by decide +kernel, ?_⟩ | refine ⟨20, by decide +kernel, ?_⟩ | refine ⟨19, by decide +kernel, ?_⟩ | refine ⟨18, by decide +kernel, ?_⟩ | refine ⟨17, by decide +kernel, ?_⟩ | refine ⟨16, by decide +kernel, ?_⟩ | refine ⟨15, by decide +kernel, ?_⟩ | refine ⟨14, by decide +kernel, ?_⟩ | refine ⟨13, by decide +kernel, ?_⟩ | refine ⟨12, by decide +kernel, ?_⟩ | refine ⟨11, by decide +kernel, ?_⟩ | refine ⟨10, by decide +kernel, ?_⟩ | refine ⟨9, by decide +kernel, ?_⟩ | refine ⟨8, by decide +kernel, ?_⟩ | refine ⟨7, by decide +kernel, ?_⟩ | refine ⟨6, by decide +kernel, ?_⟩ | refine ⟨5, by decide +kernel, ?_⟩ | refine ⟨4, by decide +kernel, ?_⟩ | refine ⟨3, by decide +kernel, ?_⟩ | refine ⟨2, by decide +kernel, ?_⟩ | refine ⟨1, by decide +kernel, ?_⟩ | refine ⟨0, by decide +kernel, ?_⟩); (refine go ?_; repeat ((first | (refine New1.mk fun b_ hb_ => ?_; clear hb_) | (refine New2.mk fun b_ hb_ => ?_; clear hb_) | (refine Nat1.mk fun q_ hq_ => ?_; (first | (obtain rfl := Int.ofNat.inj hq_; clear hq_) | skip)) | (refine Elem1.mk fun e_ he_ => ?_; (first | (obtain ⟨x_, hx_, rfl⟩ := getMap he_; clear he_) | (obtain rfl := Option.some.inj he_; clear he_) | skip)) | (refine Lst1.mk fun s_ hs_ => ?_; (try simp only [List.take_length, List.drop_zero, ← List.map_take, ← List.map_drop] at hs_); subst hs_)); refine go ?_))
  refine ⟨_, looked_ok W hN, ?_⟩; (refine go ?_; repeat ((first | (refine New1.mk fun b_ hb_ => ?_; clear hb_) | (refine New2.mk fun b_ hb_ => ?_; clear hb_) | (refine Nat1.mk fun q_ hq_ => ?_; (first | (obtain rfl := Int.ofNat.inj hq_; clear hq_) | skip)) | (refine Elem1.mk fun e_ he_ => ?_; (first | (obtain ⟨x_, hx_, rfl⟩ := getMap he_; clear he_) | (obtain rfl := Option.some.inj he_; clear he_) | skip)) | (refine Lst1.mk fun s_ hs_ => ?_; (try simp only [List.take_length, List.drop_zero, ← List.map_take, ← List.map_drop] at hs_); subst hs_)); refine go ?_))
  refine ⟨_, styleCheck_ok W s, ?_⟩; (refine go ?_; repeat ((first | (refine New1.mk fun b_ hb_ => ?_; clear hb_) | (refine New2.mk fun b_ hb_ => ?_; clear hb_) | (refine Nat1.mk fun q_ hq_ => ?_; (first | (obtain rfl := Int.ofNat.inj hq_; clear hq_) | skip)) | (refine Elem1.mk fun e_ he_ => ?_; (first | (obtain ⟨x_, hx_, rfl⟩ := getMap he_; clear he_) | (obtain rfl := Option.some.inj he_; clear he_) | skip)) | (refine Lst1.mk fun s_ hs_ => ?_; (try simp only [List.take_length, List.drop_zero, ← List.map_take, ← List.map_drop] at hs_); subst hs_)); refine go ?_))
  refine ⟨_, isStyle_ok W s, ?_⟩; (refine go ?_; repeat ((first | (refine New1.mk fun b_ hb_ => ?_; clear hb_) | (refine New2.mk fun b_ hb_ => ?_; clear hb_) | (refine Nat1.mk fun q_ hq_ => ?_; (first | (obtain rfl := Int.ofNat.inj hq_; clear hq_) | skip)) | (refine Elem1.mk fun e_ he_ => ?_; (first | (obtain ⟨x_, hx_, rfl⟩ := getMap he_; clear he_) | (obtain rfl := Option.some.inj he_; clear he_) | skip)) | (refine Lst1.mk fun s_ hs_ => ?_; (try simp only [List.take_length, List.drop_zero, ← List.map_take, ← List.map_drop] at hs_); subst hs_)); refine go ?_))
  refine brec ?_; intro c_ h_; (try rw [h_]); cases c_; exact absurd h_ (by simp)
  (refine go ?_; repeat ((first | (refine New1.mk fun b_ hb_ => ?_; clear hb_) | (refine New2.mk fun b_ hb_ => ?_; clear hb_) | (refine Nat1.mk fun q_ hq_ => ?_; (first | (obtain rfl := Int.ofNat.inj hq_; clear hq_) | skip)) | (refine Elem1.mk fun e_ he_ => ?_; (first | (obtain ⟨x_, hx_, rfl⟩ := getMap he_; clear he_) | (obtain rfl := Option.some.inj he_; clear he_) | skip)) | (refine Lst1.mk fun s_ hs_ => ?_; (try simp only [List.take_length, List.drop_zero, ← List.map_take, ← List.map_drop] at hs_); subst hs_)); refine go ?_))
  refine ⟨_, apply_ok W s l (by omega), ?_⟩; (refine go ?_; repeat ((first | (refine New1.mk fun b_ hb_ => ?_; clear hb_) | (refine New2.mk fun b_ hb_ => ?_; clear hb_) | (refine Nat1.mk fun q_ hq_ => ?_; (first | (obtain rfl := Int.ofNat.inj hq_; clear hq_) | skip)) | (refine Elem1.mk fun e_ he_ => ?_; (first | (obtain ⟨x_, hx_, rfl⟩ := getMap he_; clear he_) | (obtain rfl := Option.some.inj he_; clear he_) | skip)) | (refine Lst1.mk fun s_ hs_ => ?_; (try simp only [List.take_length, List.drop_zero, ← List.map_take, ← List.map_drop] at hs_); subst hs_)); refine go ?_))
  refine ⟨_, ApplyTo_ok W s hs l hi (by omega), ?_⟩; (refine go ?_; repeat ((first | (refine New1.mk fun b_ hb_ => ?_; clear hb_) | (refine New2.mk fun b_ hb_ => ?_; clear hb_) | (refine Nat1.mk fun q_ hq_ => ?_; (first | (obtain rfl := Int.ofNat.inj hq_; clear hq_) | skip)) | (refine Elem1.mk fun e_ he_ => ?_; (first | (obtain ⟨x_, hx_, rfl⟩ := getMap he_; clear he_) | (obtain rfl := Option.some.inj he_; clear he_) | skip)) | (refine Lst1.mk fun s_ hs_ => ?_; (try simp only [List.take_length, List.drop_zero, ← List.map_take, ← List.map_drop] at hs_); subst hs_)); refine go ?_))
  refine ⟨_, eq_style _ _ (applyTo_ok hs l) (applyTo_ok hs l) _ _, ?_⟩
  rw [show decide (applyTo s l = applyTo s l) = true by simp]
  (refine go ?_; repeat ((first | (refine New1.mk fun b_ hb_ => ?_; clear hb_) | (refine New2.mk fun b_ hb_ => ?_; clear hb_) | (refine Nat1.mk fun q_ hq_ => ?_; (first | (obtain rfl := Int.ofNat.inj hq_; clear hq_) | skip)) | (refine Elem1.mk fun e_ he_ => ?_; (first | (obtain ⟨x_, hx_, rfl⟩ := getMap he_; clear he_) | (obtain rfl := Option.some.inj he_; clear he_) | skip)) | (refine Lst1.mk fun s_ hs_ => ?_; (try simp only [List.take_length, List.drop_zero, ← List.map_take, ← List.map_drop] at hs_); subst hs_)); refine go ?_))
  refine ⟨_, equal_ints W l l (by omega), ?_⟩; (refine go ?_; repeat ((first | (refine New1.mk fun b_ hb_ => ?_; clear hb_) | (refine New2.mk fun b_ hb_ => ?_; clear hb_) | (refine Nat1.mk fun q_ hq_ => ?_; (first | (obtain rfl := Int.ofNat.inj hq_; clear hq_) | skip)) | (refine Elem1.mk fun e_ he_ => ?_; (first | (obtain ⟨x_, hx_, rfl⟩ := getMap he_; clear he_) | (obtain rfl := Option.some.inj he_; clear he_) | skip)) | (refine Lst1.mk fun s_ hs_ => ?_; (try simp only [List.take_length, List.drop_zero, ← List.map_take, ← List.map_drop] at hs_); subst hs_)); refine go ?_))
  (refine Frz.of_eq ?_; (conv => lhs; whnf))
  simp
end Go.Eng.YtlfdmdhkbillpaaDoor
