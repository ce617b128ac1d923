/- slices.Equal at []int. -/
import Derived.Test.YtcckeeappgnebaaBase
namespace Go.Eng.Ytcckeeappgnebaa
open Go Go.Eng Go.Proofs
variable (W : World)
set_option maxRecDepth 100000
theorem equal_ints (a b : List Int) (ha : (a.length : Int) ≤ 9223372036854775807) :
    Pure Try.prog W 4 [.sl 1 (ints a), .sl 1 (ints b)] (.bool (decide (a = b))) := by
  refine Pure.of (acalls_of_vc (drawOk W) Try.func4 rfl (by decide) (by decide) rfl ?_)
  ((conv => whnf); (repeat (first | (intro b_ hb_; (conv => whnf)) | (refine ⟨_, _, _, _, (by first | exact .here _ _ _ | exact .there _ _ _ _ _ (.here _ _ _) | exact .there _ _ _ _ _ (.there _ _ _ _ _ (.here _ _ _)) | exact .there _ _ _ _ _ (.there _ _ _ _ _ (.there _ _ _ _ _ (.here _ _ _)))), ?_⟩; (conv => whnf)))))
  refine brec ?_; intro c_ hc; (try rw [hc]); cases c_
  · have hlen : a.length = b.length := by have := of_decide_eq_false hc; simp [ints_len] at this; omega
    ((conv => whnf); (repeat (first | (intro b_ hb_; (conv => whnf)) | (refine ⟨_, _, _, _, (by first | exact .here _ _ _ | exact .there _ _ _ _ _ (.here _ _ _) | exact .there _ _ _ _ _ (.there _ _ _ _ _ (.here _ _ _)) | exact .there _ _ _ _ _ (.there _ _ _ _ _ (.there _ _ _ _ _ (.here _ _ _)))), ?_⟩; (conv => whnf)))))
    refine ⟨Nat, fun i => [(0, .sl 1 (ints a)), (1, .sl 1 (ints b)), (12, .int .i64 (ints a).length), (13, .int .i64 i)], fun _ => [], fun i => i ≤ a.length ∧ a.take i = b.take i, fun i => a.length - i, ⟨0, ⟨Nat.zero_le _, by simp⟩, ⟨rfl, rfl, rfl, rfl, trivial⟩, ⟨[], .refl _⟩⟩, ?_⟩
    rintro i ⟨hi, hw⟩
    ((conv => whnf); (repeat (first | (intro b_ hb_; (conv => whnf)) | (refine ⟨_, _, _, _, (by first | exact .here _ _ _ | exact .there _ _ _ _ _ (.here _ _ _) | exact .there _ _ _ _ _ (.there _ _ _ _ _ (.here _ _ _)) | exact .there _ _ _ _ _ (.there _ _ _ _ _ (.there _ _ _ _ _ (.here _ _ _)))), ?_⟩; (conv => whnf)))))
    refine brec ?_; intro c_ h1; (try rw [h1]); cases c_
    · ((conv => whnf); (repeat (first | (intro b_ hb_; (conv => whnf)) | (refine ⟨_, _, _, _, (by first | exact .here _ _ _ | exact .there _ _ _ _ _ (.here _ _ _) | exact .there _ _ _ _ _ (.there _ _ _ _ _ (.here _ _ _)) | exact .there _ _ _ _ _ (.there _ _ _ _ _ (.there _ _ _ _ _ (.here _ _ _)))), ?_⟩; (conv => whnf)))))
      have : i = a.length := by have := of_decide_eq_false h1; simp [ints_len] at this; omega
      subst this
      rw [List.take_length, hlen, List.take_length] at hw
      rw [hw]
      simp
      exact .refl _
    · have hlt : i < a.length := by have := of_decide_eq_true h1; simp [ints_len] at this; omega
      ((conv => whnf); (repeat (first | (intro b_ hb_; (conv => whnf)) | (refine ⟨_, _, _, _, (by first | exact .here _ _ _ | exact .there _ _ _ _ _ (.here _ _ _) | exact .there _ _ _ _ _ (.there _ _ _ _ _ (.here _ _ _)) | exact .there _ _ _ _ _ (.there _ _ _ _ _ (.there _ _ _ _ _ (.here _ _ _)))), ?_⟩; (conv => whnf)))))
      refine ⟨9, by kernel_rfl, ?_⟩
      ((conv => whnf); (repeat (first | (intro b_ hb_; (conv => whnf)) | (refine ⟨_, _, _, _, (by first | exact .here _ _ _ | exact .there _ _ _ _ _ (.here _ _ _) | exact .there _ _ _ _ _ (.there _ _ _ _ _ (.here _ _ _)) | exact .there _ _ _ _ _ (.there _ _ _ _ _ (.there _ _ _ _ _ (.here _ _ _)))), ?_⟩; (conv => whnf)))))
      refine ⟨⟨by omega, by simp [ints_len]; omega⟩, ?_⟩
      rw [ints_at a i hlt]
      ((conv => whnf); (repeat (first | (intro b_ hb_; (conv => whnf)) | (refine ⟨_, _, _, _, (by first | exact .here _ _ _ | exact .there _ _ _ _ _ (.here _ _ _) | exact .there _ _ _ _ _ (.there _ _ _ _ _ (.here _ _ _)) | exact .there _ _ _ _ _ (.there _ _ _ _ _ (.there _ _ _ _ _ (.here _ _ _)))), ?_⟩; (conv => whnf)))))
      refine ⟨⟨by omega, by simp [ints_len]; omega⟩, ?_⟩
      rw [ints_at b i (by omega)]
      ((conv => whnf); (repeat (first | (intro b_ hb_; (conv => whnf)) | (refine ⟨_, _, _, _, (by first | exact .here _ _ _ | exact .there _ _ _ _ _ (.here _ _ _) | exact .there _ _ _ _ _ (.there _ _ _ _ _ (.here _ _ _)) | exact .there _ _ _ _ _ (.there _ _ _ _ _ (.there _ _ _ _ _ (.here _ _ _)))), ?_⟩; (conv => whnf)))))
      refine brec ?_; intro c_ h2; (try rw [h2]); cases c_
      · have he : a[i] = b[i]'(by omega) := by simpa using of_decide_eq_false h2
        ((conv => whnf); (repeat (first | (intro b_ hb_; (conv => whnf)) | (refine ⟨_, _, _, _, (by first | exact .here _ _ _ | exact .there _ _ _ _ _ (.here _ _ _) | exact .there _ _ _ _ _ (.there _ _ _ _ _ (.here _ _ _)) | exact .there _ _ _ _ _ (.there _ _ _ _ _ (.there _ _ _ _ _ (.here _ _ _)))), ?_⟩; (conv => whnf)))))
        refine ⟨i + 1, ⟨hlt, ?_⟩, by dsimp only; omega, ⟨rfl, rfl, rfl, ?_, trivial⟩, ⟨_, .refl _⟩⟩
        · rw [List.take_succ_eq_append_getElem hlt, List.take_succ_eq_append_getElem (by omega), hw, he]
        · show PV.int .i64 (IntKind.i64.wrap _) = _
          rw [wrap_i64 (by omega) (by omega)]; simp
      · have he : a[i] ≠ b[i]'(by omega) := by simpa using of_decide_eq_true h2
        ((conv => whnf); (repeat (first | (intro b_ hb_; (conv => whnf)) | (refine ⟨_, _, _, _, (by first | exact .here _ _ _ | exact .there _ _ _ _ _ (.here _ _ _) | exact .there _ _ _ _ _ (.there _ _ _ _ _ (.here _ _ _)) | exact .there _ _ _ _ _ (.there _ _ _ _ _ (.there _ _ _ _ _ (.here _ _ _)))), ?_⟩; (conv => whnf)))))
        have : a ≠ b := by rintro rfl; exact he rfl
        simp [this]
        exact .refl _
  · have hne : a ≠ b := by
      rintro rfl
      have := of_decide_eq_true hc
      simp at this
    ((conv => whnf); (repeat (first | (intro b_ hb_; (conv => whnf)) | (refine ⟨_, _, _, _, (by first | exact .here _ _ _ | exact .there _ _ _ _ _ (.here _ _ _) | exact .there _ _ _ _ _ (.there _ _ _ _ _ (.here _ _ _)) | exact .there _ _ _ _ _ (.there _ _ _ _ _ (.there _ _ _ _ _ (.here _ _ _)))), ?_⟩; (conv => whnf)))))
    simp [hne]
    exact .refl _
end Go.Eng.Ytcckeeappgnebaa
