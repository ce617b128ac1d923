/- Package text: Fit; the fact that the laws look at first; TextNext. -/
import Derived.Test.YtlfdmdhkbillpaaDoorRunes
namespace Go.Eng.YtlfdmdhkbillpaaDoor
open Go Go.Eng Go.Proofs
variable (W : World)
set_option linter.unusedSimpArgs false
set_option maxRecDepth 100000
set_option linter.unusedVariables false

def fitL (s : List UInt8) (n : Int) : List UInt8 := if n < 0 ∨ 120 < n then [] else cutL s n ++ Lib.repeatL [32] (n - wideL (cutL s n)).toNat
theorem cutL_len (s : List UInt8) (n : Int) : (cutL s n).length ≤ s.length := by simp [cutL]; omega
theorem fit_ok (hT : Tabs W) (s : List UInt8) (n : Int) (hs : s.length ≤ 4611686018427387903) : Pure Tryd.prog W 58 [.str s, .int .i64 n] (.str (fitL s n)) := by
  refine Pure.of (acalls_of_vc (drawOk W) Tryd.func58 rfl (by decide) (by decide) rfl ?_)
  (refine go ?_; repeat ((first | (refine New1.mk fun b_ hb_ => ?_; clear hb_) | (refine New2.mk fun b_ hb_ => ?_; clear hb_) | (refine Nat1.mk fun q_ hq_ => ?_; (first | (obtain rfl := Int.ofNat.inj hq_; clear hq_) | skip)) | (refine Elem1.mk fun e_ he_ => ?_; (first | (obtain ⟨x_, hx_, rfl⟩ := getMap he_; clear he_) | (obtain rfl := Option.some.inj he_; clear he_) | skip)) | (refine Lst1.mk fun s_ hs_ => ?_; (try simp only [List.take_length, List.drop_zero, ← List.map_take, ← List.map_drop] at hs_); subst hs_)); refine go ?_))
  refine brec ?_; intro c_ h1; (try rw [h1]); cases c_ <;> (first | replace h1 := of_decide_eq_true h1 | replace h1 := Decidable.not_not.1 (of_decide_eq_false h1) | replace h1 := of_decide_eq_false h1 | (replace h1 := Bool.eq_false_iff.1 h1; simp only [true_and, and_true, Bool.true_and, Bool.and_true, Bool.not_true, Bool.not_false, Bool.and_eq_true, Bool.not_eq_true, Bool.not_eq_false, Bool.or_eq_true, Bool.not_eq_true', Bool.not_eq_false', decide_eq_true_eq, decide_eq_false_iff_not, Decidable.not_not, ne_eq, beq_iff_eq] at h1) | simp only [true_and, and_true, Bool.true_and, Bool.and_true, Bool.not_true, Bool.not_false, Bool.and_eq_true, Bool.not_eq_true, Bool.not_eq_false, Bool.or_eq_true, Bool.not_eq_true', Bool.not_eq_false', decide_eq_true_eq, decide_eq_false_iff_not, Decidable.not_not, ne_eq, beq_iff_eq] at h1 | skip)
  · have hw := wide_cutL s n (by omega)
    have hl := cutL_len s n
    obtain ⟨m, hm⟩ : ∃ m : Nat, n - (wideL (cutL s n) : Int) = m := ⟨(n - wideL (cutL s n)).toNat, by omega⟩
    have hlr : (Lib.repeatL [32] m).length = m := by rw [Lib.repeatL_length]; simp
    (refine go ?_; repeat ((first | (refine New1.mk fun b_ hb_ => ?_; clear hb_) | (refine New2.mk fun b_ hb_ => ?_; clear hb_) | (refine Nat1.mk fun q_ hq_ => ?_; (first | (obtain rfl := Int.ofNat.inj hq_; clear hq_) | skip)) | (refine Elem1.mk fun e_ he_ => ?_; (first | (obtain ⟨x_, hx_, rfl⟩ := getMap he_; clear he_) | (obtain rfl := Option.some.inj he_; clear he_) | skip)) | (refine Lst1.mk fun s_ hs_ => ?_; (try simp only [List.take_length, List.drop_zero, ← List.map_take, ← List.map_drop] at hs_); subst hs_)); refine go ?_))
    refine (cut_ok W hT s n hs).use ?_; (refine go ?_; repeat ((first | (refine New1.mk fun b_ hb_ => ?_; clear hb_) | (refine New2.mk fun b_ hb_ => ?_; clear hb_) | (refine Nat1.mk fun q_ hq_ => ?_; (first | (obtain rfl := Int.ofNat.inj hq_; clear hq_) | skip)) | (refine Elem1.mk fun e_ he_ => ?_; (first | (obtain ⟨x_, hx_, rfl⟩ := getMap he_; clear he_) | (obtain rfl := Option.some.inj he_; clear he_) | skip)) | (refine Lst1.mk fun s_ hs_ => ?_; (try simp only [List.take_length, List.drop_zero, ← List.map_take, ← List.map_drop] at hs_); subst hs_)); refine go ?_))
    refine (wide_ok W hT _ (by omega)).use ?_; (refine go ?_; repeat ((first | (refine New1.mk fun b_ hb_ => ?_; clear hb_) | (refine New2.mk fun b_ hb_ => ?_; clear hb_) | (refine Nat1.mk fun q_ hq_ => ?_; (first | (obtain rfl := Int.ofNat.inj hq_; clear hq_) | skip)) | (refine Elem1.mk fun e_ he_ => ?_; (first | (obtain ⟨x_, hx_, rfl⟩ := getMap he_; clear he_) | (obtain rfl := Option.some.inj he_; clear he_) | skip)) | (refine Lst1.mk fun s_ hs_ => ?_; (try simp only [List.take_length, List.drop_zero, ← List.map_take, ← List.map_drop] at hs_); subst hs_)); refine go ?_))
    rw [hm]
    refine (repeat_ok W [32] _ (by simp; omega) (by omega)).use ?_; (refine go ?_; repeat ((first | (refine New1.mk fun b_ hb_ => ?_; clear hb_) | (refine New2.mk fun b_ hb_ => ?_; clear hb_) | (refine Nat1.mk fun q_ hq_ => ?_; (first | (obtain rfl := Int.ofNat.inj hq_; clear hq_) | skip)) | (refine Elem1.mk fun e_ he_ => ?_; (first | (obtain ⟨x_, hx_, rfl⟩ := getMap he_; clear he_) | (obtain rfl := Option.some.inj he_; clear he_) | skip)) | (refine Lst1.mk fun s_ hs_ => ?_; (try simp only [List.take_length, List.drop_zero, ← List.map_take, ← List.map_drop] at hs_); subst hs_)); refine go ?_))
    rw [show fitL s n = cutL s n ++ Lib.repeatL [32] m by rw [fitL, if_neg h1, hm, Int.toNat_natCast]]
    exact .refl _
  · (refine go ?_; repeat ((first | (refine New1.mk fun b_ hb_ => ?_; clear hb_) | (refine New2.mk fun b_ hb_ => ?_; clear hb_) | (refine Nat1.mk fun q_ hq_ => ?_; (first | (obtain rfl := Int.ofNat.inj hq_; clear hq_) | skip)) | (refine Elem1.mk fun e_ he_ => ?_; (first | (obtain ⟨x_, hx_, rfl⟩ := getMap he_; clear he_) | (obtain rfl := Option.some.inj he_; clear he_) | skip)) | (refine Lst1.mk fun s_ hs_ => ?_; (try simp only [List.take_length, List.drop_zero, ← List.map_take, ← List.map_drop] at hs_); subst hs_)); refine go ?_))
    rw [show fitL s n = [] by rw [fitL, if_pos h1]]
    exact .refl _

/-- Runes, for reckoning. -/
def runesF : Nat → List UInt8 → List (Nat × Nat)
  | 0, _ => []
  | n + 1, s => if s = [] then [] else dec s :: runesF n (s.drop (dec s).2)
theorem runes_F : ∀ n s, s.length ≤ n → runes s = runesF n s
  | 0, s, h => by rw [List.eq_nil_of_length_eq_zero (by omega : s.length = 0), runes_nil]; rfl
  | n + 1, s, h => by
    by_cases hs : s = []
    · rw [hs, runes_nil]; rfl
    · have := dec_pos s hs
      have := List.length_pos_iff.2 hs
      rw [runes_cons hs, runesF, if_neg hs, runes_F n _ (by simp; omega)]
def nihonx : List UInt8 := [230, 151, 165, 230, 156, 172, 120]
theorem wide_nihonx : wideL nihonx = 5 := by rw [wideL, runes_F 7 _ (by decide)]; decide +kernel
theorem cut_nihonx : cutL nihonx 3 = [230, 151, 165] := by rw [cutL, runes_F 7 _ (by decide)]; decide +kernel
theorem fit_ab : fitL [97, 98] 4 = [97, 98, 32, 32] := by
  have h : cutL [97, 98] 4 = [97, 98] := by rw [cutL, runes_F 2 _ (by decide)]; decide +kernel
  have h2 : wideL [97, 98] = 2 := by rw [wideL, runes_F 2 _ (by decide)]; decide +kernel
  rw [fitL, h, h2]; decide +kernel

theorem written_ok (hT : Tabs W) : Pure Tryd.prog W 15 [] (.bool true) := by
  refine Pure.of (acalls_of_vc (drawOk W) Tryd.func15 rfl (by decide) (by decide) rfl ?_)
  (refine go ?_; repeat ((first | (refine New1.mk fun b_ hb_ => ?_; clear hb_) | (refine New2.mk fun b_ hb_ => ?_; clear hb_) | (refine Nat1.mk fun q_ hq_ => ?_; (first | (obtain rfl := Int.ofNat.inj hq_; clear hq_) | skip)) | (refine Elem1.mk fun e_ he_ => ?_; (first | (obtain ⟨x_, hx_, rfl⟩ := getMap he_; clear he_) | (obtain rfl := Option.some.inj he_; clear he_) | skip)) | (refine Lst1.mk fun s_ hs_ => ?_; (try simp only [List.take_length, List.drop_zero, ← List.map_take, ← List.map_drop] at hs_); subst hs_)); refine go ?_))
  refine (wide_ok W hT nihonx (by decide)).use ?_
  rw [wide_nihonx]
  (refine go ?_; repeat ((first | (refine New1.mk fun b_ hb_ => ?_; clear hb_) | (refine New2.mk fun b_ hb_ => ?_; clear hb_) | (refine Nat1.mk fun q_ hq_ => ?_; (first | (obtain rfl := Int.ofNat.inj hq_; clear hq_) | skip)) | (refine Elem1.mk fun e_ he_ => ?_; (first | (obtain ⟨x_, hx_, rfl⟩ := getMap he_; clear he_) | (obtain rfl := Option.some.inj he_; clear he_) | skip)) | (refine Lst1.mk fun s_ hs_ => ?_; (try simp only [List.take_length, List.drop_zero, ← List.map_take, ← List.map_drop] at hs_); subst hs_)); refine go ?_))
  refine (cut_ok W hT nihonx 3 (by decide)).use ?_
  rw [cut_nihonx]
  (refine go ?_; repeat ((first | (refine New1.mk fun b_ hb_ => ?_; clear hb_) | (refine New2.mk fun b_ hb_ => ?_; clear hb_) | (refine Nat1.mk fun q_ hq_ => ?_; (first | (obtain rfl := Int.ofNat.inj hq_; clear hq_) | skip)) | (refine Elem1.mk fun e_ he_ => ?_; (first | (obtain ⟨x_, hx_, rfl⟩ := getMap he_; clear he_) | (obtain rfl := Option.some.inj he_; clear he_) | skip)) | (refine Lst1.mk fun s_ hs_ => ?_; (try simp only [List.take_length, List.drop_zero, ← List.map_take, ← List.map_drop] at hs_); subst hs_)); refine go ?_))
  refine (fit_ok W hT [97, 98] 4 (by decide)).use ?_
  rw [fit_ab]
  (refine go ?_; repeat ((first | (refine New1.mk fun b_ hb_ => ?_; clear hb_) | (refine New2.mk fun b_ hb_ => ?_; clear hb_) | (refine Nat1.mk fun q_ hq_ => ?_; (first | (obtain rfl := Int.ofNat.inj hq_; clear hq_) | skip)) | (refine Elem1.mk fun e_ he_ => ?_; (first | (obtain ⟨x_, hx_, rfl⟩ := getMap he_; clear he_) | (obtain rfl := Option.some.inj he_; clear he_) | skip)) | (refine Lst1.mk fun s_ hs_ => ?_; (try simp only [List.take_length, List.drop_zero, ← List.map_take, ← List.map_drop] at hs_); subst hs_)); refine go ?_))
  exact .refl _
end Go.Eng.YtlfdmdhkbillpaaDoor
