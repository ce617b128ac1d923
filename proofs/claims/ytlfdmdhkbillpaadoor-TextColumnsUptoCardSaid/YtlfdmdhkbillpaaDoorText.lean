/- Package text: the first rune. -/
import Derived.Test.YtlfdmdhkbillpaaDoorUtf8
import Derived.Test.YtlfdmdhkbillpaaDoorWidth
namespace Go.Eng.YtlfdmdhkbillpaaDoor
open Go Go.Eng Go.Proofs
variable (W : World)
set_option linter.unusedSimpArgs false
set_option maxRecDepth 100000
set_option linter.unusedVariables false

/-! ### The first rune -/
def nextL (s : List UInt8) : Nat × Nat := if s = [] then (0, 0) else dec s
theorem next_ok (hT : Tabs W) (s : List UInt8) : Pure Tryd.prog W 53 [.str s] (.tup [.int .i32 (nextL s).1, .int .i64 (nextL s).2]) := by
  refine Pure.of (acalls_of_vc (drawOk W) Tryd.func53 rfl (by decide) (by decide) rfl ?_)
  (refine go ?_; repeat ((first | (refine New1.mk fun b_ hb_ => ?_; clear hb_) | (refine New2.mk fun b_ hb_ => ?_; clear hb_) | (refine Nat1.mk fun q_ hq_ => ?_; (first | (obtain rfl := Int.ofNat.inj hq_; clear hq_) | skip)) | (refine Elem1.mk fun e_ he_ => ?_; (first | (obtain ⟨x_, hx_, rfl⟩ := getMap he_; clear he_) | (obtain rfl := Option.some.inj he_; clear he_) | skip)) | (refine Lst1.mk fun s_ hs_ => ?_; (try simp only [List.take_length, List.drop_zero, ← List.map_take, ← List.map_drop] at hs_); subst hs_)); refine go ?_))
  refine brec ?_; intro c_ hs; (try rw [hs]); cases c_ <;> (first | replace hs := of_decide_eq_true hs | replace hs := Decidable.not_not.1 (of_decide_eq_false hs) | replace hs := of_decide_eq_false hs | (replace hs := Bool.eq_false_iff.1 hs; simp only [true_and, and_true, Bool.true_and, Bool.and_true, Bool.not_true, Bool.not_false, Bool.and_eq_true, Bool.not_eq_true, Bool.not_eq_false, Bool.or_eq_true, Bool.not_eq_true', Bool.not_eq_false', decide_eq_true_eq, decide_eq_false_iff_not, Decidable.not_not, ne_eq, beq_iff_eq] at hs) | simp only [true_and, and_true, Bool.true_and, Bool.and_true, Bool.not_true, Bool.not_false, Bool.and_eq_true, Bool.not_eq_true, Bool.not_eq_false, Bool.or_eq_true, Bool.not_eq_true', Bool.not_eq_false', decide_eq_true_eq, decide_eq_false_iff_not, Decidable.not_not, ne_eq, beq_iff_eq] at hs | skip)
  · (refine go ?_; repeat ((first | (refine New1.mk fun b_ hb_ => ?_; clear hb_) | (refine New2.mk fun b_ hb_ => ?_; clear hb_) | (refine Nat1.mk fun q_ hq_ => ?_; (first | (obtain rfl := Int.ofNat.inj hq_; clear hq_) | skip)) | (refine Elem1.mk fun e_ he_ => ?_; (first | (obtain ⟨x_, hx_, rfl⟩ := getMap he_; clear he_) | (obtain rfl := Option.some.inj he_; clear he_) | skip)) | (refine Lst1.mk fun s_ hs_ => ?_; (try simp only [List.take_length, List.drop_zero, ← List.map_take, ← List.map_drop] at hs_); subst hs_)); refine go ?_))
    refine (decodeRune_ok W hT s).use ?_; (refine go ?_; repeat ((first | (refine New1.mk fun b_ hb_ => ?_; clear hb_) | (refine New2.mk fun b_ hb_ => ?_; clear hb_) | (refine Nat1.mk fun q_ hq_ => ?_; (first | (obtain rfl := Int.ofNat.inj hq_; clear hq_) | skip)) | (refine Elem1.mk fun e_ he_ => ?_; (first | (obtain ⟨x_, hx_, rfl⟩ := getMap he_; clear he_) | (obtain rfl := Option.some.inj he_; clear he_) | skip)) | (refine Lst1.mk fun s_ hs_ => ?_; (try simp only [List.take_length, List.drop_zero, ← List.map_take, ← List.map_drop] at hs_); subst hs_)); refine go ?_))
    simp only [nextL, if_neg hs]
    exact .refl _
  · subst hs
    (refine go ?_; repeat ((first | (refine New1.mk fun b_ hb_ => ?_; clear hb_) | (refine New2.mk fun b_ hb_ => ?_; clear hb_) | (refine Nat1.mk fun q_ hq_ => ?_; (first | (obtain rfl := Int.ofNat.inj hq_; clear hq_) | skip)) | (refine Elem1.mk fun e_ he_ => ?_; (first | (obtain ⟨x_, hx_, rfl⟩ := getMap he_; clear he_) | (obtain rfl := Option.some.inj he_; clear he_) | skip)) | (refine Lst1.mk fun s_ hs_ => ?_; (try simp only [List.take_length, List.drop_zero, ← List.map_take, ← List.map_drop] at hs_); subst hs_)); refine go ?_))
    exact .refl _
end Go.Eng.YtlfdmdhkbillpaaDoor
