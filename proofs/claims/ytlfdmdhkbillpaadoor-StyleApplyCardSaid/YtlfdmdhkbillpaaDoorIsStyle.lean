/- The document's IsStyle. -/
import Derived.Test.YtlfdmdhkbillpaaDoorStyle
namespace Go.Eng.YtlfdmdhkbillpaaDoor
open Go Go.Eng Go.Proofs
variable (W : World)
set_option linter.unusedSimpArgs false
set_option maxRecDepth 100000
set_option linter.unusedVariables false
set_option maxHeartbeats 4000000
theorem isStyle_ok (s : Style) : Pure Tryd.prog W 25 [encStyle s] (.bool (checkStyle s)) := by
  refine Pure.of (acalls_of_vc (drawOk W) Tryd.func25 rfl (by decide) (by decide) rfl ?_)
  (refine go ?_; repeat ((first | (refine New1.mk fun b_ hb_ => ?_; clear hb_) | (refine New2.mk fun b_ hb_ => ?_; clear hb_) | (refine Nat1.mk fun q_ hq_ => ?_; (first | (obtain rfl := Int.ofNat.inj hq_; clear hq_) | skip)) | (refine Elem1.mk fun e_ he_ => ?_; (first | (obtain ⟨x_, hx_, rfl⟩ := getMap he_; clear he_) | (obtain rfl := Option.some.inj he_; clear he_) | skip)) | (refine Lst1.mk fun s_ hs_ => ?_; (try simp only [List.take_length, List.drop_zero, ← List.map_take, ← List.map_drop] at hs_); subst hs_)); refine go ?_))
  (refine Frz.of_eq ?_; (conv => lhs; whnf))
  congr 1
  rw [Bool.eq_iff_iff]
  simp only [checkStyle, Bool.and_eq_true, decide_eq_true_eq]
  split <;> split <;> split <;> omega
end Go.Eng.YtlfdmdhkbillpaaDoor
