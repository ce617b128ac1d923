/- What trellislaw.Names answers: true. The walk. -/
import Derived.Test.YtcckeeappgnebaaEqualInt
namespace Go.Eng.Ytcckeeappgnebaa
open Go Go.Eng Go.Proofs
variable (W : World)
set_option maxRecDepth 100000
def limits : List Int := [4000, 120, 60, 50, 16, 9999, 64, 12, 6, 4, 4, 5, 20, 6000, 200, 20, 256]
def kinds : List Int := [1, 2, 4, 8, 16, 32, 64, 1, 2, 3, 4, 5, 0, 1, 2, 3, 4, 5, 1, 2, 4, 8, 16, 32, 1, 2, 3, 4, 5, 6, 7, 8, 9, 10, 11, 12, 13, 14, 15, 1, 2, 4, 0, 1, 2, 1, 2, 3, 4]
def upTo : Nat → List Int
  | 0 => []
  | n + 1 => upTo n ++ [(n : Int)]
theorem upTo_len (n : Nat) : (upTo n).length = n := by induction n with | zero => rfl | succ n ih => simp [upTo, ih]
theorem upTo_at (n i : Nat) (h : i < (upTo n).length) : (upTo n)[i] = i := by
  induction n with
  | zero => simp [upTo] at h
  | succ n ih =>
    simp only [upTo]
    by_cases hi : i < (upTo n).length
    · rw [List.getElem_append_left hi]; exact ih hi
    · have : i = (upTo n).length := by simp [upTo] at h; omega
      subst this
      simp [upTo_len]
theorem names_ok : Pure Try.prog W 3 [] (.bool true) := by
  refine Pure.of (acalls_of_vc (drawOk W) Try.func3 rfl (by decide) (by decide) rfl ?_)
  ((conv => whnf); (repeat (first | (intro b_ hb_; (conv => whnf)) | (refine ⟨_, _, _, _, (by first | exact .here _ _ _ | exact .there _ _ _ _ _ (.here _ _ _) | exact .there _ _ _ _ _ (.there _ _ _ _ _ (.here _ _ _)) | exact .there _ _ _ _ _ (.there _ _ _ _ _ (.there _ _ _ _ _ (.here _ _ _)))), ?_⟩; (conv => whnf)))))
  refine .inl ?_
  ((conv => whnf); (repeat (first | (intro b_ hb_; (conv => whnf)) | (refine ⟨_, _, _, _, (by first | exact .here _ _ _ | exact .there _ _ _ _ _ (.here _ _ _) | exact .there _ _ _ _ _ (.there _ _ _ _ _ (.here _ _ _)) | exact .there _ _ _ _ _ (.there _ _ _ _ _ (.there _ _ _ _ _ (.here _ _ _)))), ?_⟩; (conv => whnf)))))
  refine ⟨Nat, fun i => [(7, .sl 1 (ints (upTo 11))), (8, .int .i64 11), (9, .int .i64 i)], fun _ => [], fun i => i ≤ 11, fun i => 11 - i, ⟨0, by omega, ⟨rfl, rfl, rfl, trivial⟩, ⟨[], .refl _⟩⟩, ?_⟩
  rintro i hi
  ((conv => whnf); (repeat (first | (intro b_ hb_; (conv => whnf)) | (refine ⟨_, _, _, _, (by first | exact .here _ _ _ | exact .there _ _ _ _ _ (.here _ _ _) | exact .there _ _ _ _ _ (.there _ _ _ _ _ (.here _ _ _)) | exact .there _ _ _ _ _ (.there _ _ _ _ _ (.there _ _ _ _ _ (.here _ _ _)))), ?_⟩; (conv => whnf)))))
  refine brec ?_; intro c_ h1; (try rw [h1]); cases c_
  · ((conv => whnf); (repeat (first | (intro b_ hb_; (conv => whnf)) | (refine ⟨_, _, _, _, (by first | exact .here _ _ _ | exact .there _ _ _ _ _ (.here _ _ _) | exact .there _ _ _ _ _ (.there _ _ _ _ _ (.here _ _ _)) | exact .there _ _ _ _ _ (.there _ _ _ _ _ (.there _ _ _ _ _ (.here _ _ _)))), ?_⟩; (conv => whnf)))))
    refine .inl ?_
    ((conv => whnf); (repeat (first | (intro b_ hb_; (conv => whnf)) | (refine ⟨_, _, _, _, (by first | exact .here _ _ _ | exact .there _ _ _ _ _ (.here _ _ _) | exact .there _ _ _ _ _ (.there _ _ _ _ _ (.here _ _ _)) | exact .there _ _ _ _ _ (.there _ _ _ _ _ (.there _ _ _ _ _ (.here _ _ _)))), ?_⟩; (conv => whnf)))))
    refine .inl ?_
    ((conv => whnf); (repeat (first | (intro b_ hb_; (conv => whnf)) | (refine ⟨_, _, _, _, (by first | exact .here _ _ _ | exact .there _ _ _ _ _ (.here _ _ _) | exact .there _ _ _ _ _ (.there _ _ _ _ _ (.here _ _ _)) | exact .there _ _ _ _ _ (.there _ _ _ _ _ (.there _ _ _ _ _ (.here _ _ _)))), ?_⟩; (conv => whnf)))))
    refine .inl ?_
    ((conv => whnf); (repeat (first | (intro b_ hb_; (conv => whnf)) | (refine ⟨_, _, _, _, (by first | exact .here _ _ _ | exact .there _ _ _ _ _ (.here _ _ _) | exact .there _ _ _ _ _ (.there _ _ _ _ _ (.here _ _ _)) | exact .there _ _ _ _ _ (.there _ _ _ _ _ (.there _ _ _ _ _ (.here _ _ _)))), ?_⟩; (conv => whnf)))))
    refine (equal_ints W limits limits (by decide)).use ?_
    ((conv => whnf); (repeat (first | (intro b_ hb_; (conv => whnf)) | (refine ⟨_, _, _, _, (by first | exact .here _ _ _ | exact .there _ _ _ _ _ (.here _ _ _) | exact .there _ _ _ _ _ (.there _ _ _ _ _ (.here _ _ _)) | exact .there _ _ _ _ _ (.there _ _ _ _ _ (.there _ _ _ _ _ (.here _ _ _)))), ?_⟩; (conv => whnf)))))
    refine .inl ?_
    ((conv => whnf); (repeat (first | (intro b_ hb_; (conv => whnf)) | (refine ⟨_, _, _, _, (by first | exact .here _ _ _ | exact .there _ _ _ _ _ (.here _ _ _) | exact .there _ _ _ _ _ (.there _ _ _ _ _ (.here _ _ _)) | exact .there _ _ _ _ _ (.there _ _ _ _ _ (.there _ _ _ _ _ (.here _ _ _)))), ?_⟩; (conv => whnf)))))
    refine (equal_ints W kinds kinds (by decide)).use ?_
    ((conv => whnf); (repeat (first | (intro b_ hb_; (conv => whnf)) | (refine ⟨_, _, _, _, (by first | exact .here _ _ _ | exact .there _ _ _ _ _ (.here _ _ _) | exact .there _ _ _ _ _ (.there _ _ _ _ _ (.here _ _ _)) | exact .there _ _ _ _ _ (.there _ _ _ _ _ (.there _ _ _ _ _ (.here _ _ _)))), ?_⟩; (conv => whnf)))))
    exact .refl _
  · ((conv => whnf); (repeat (first | (intro b_ hb_; (conv => whnf)) | (refine ⟨_, _, _, _, (by first | exact .here _ _ _ | exact .there _ _ _ _ _ (.here _ _ _) | exact .there _ _ _ _ _ (.there _ _ _ _ _ (.here _ _ _)) | exact .there _ _ _ _ _ (.there _ _ _ _ _ (.there _ _ _ _ _ (.here _ _ _)))), ?_⟩; (conv => whnf)))))
    have hlt : i < 11 := by have := of_decide_eq_true h1; omega
    refine ⟨⟨by omega, by simp [ints_len, upTo_len]; omega⟩, ?_⟩
    rw [ints_at (upTo 11) i (by rw [upTo_len]; exact hlt), upTo_at]
    ((conv => whnf); (repeat (first | (intro b_ hb_; (conv => whnf)) | (refine ⟨_, _, _, _, (by first | exact .here _ _ _ | exact .there _ _ _ _ _ (.here _ _ _) | exact .there _ _ _ _ _ (.there _ _ _ _ _ (.here _ _ _)) | exact .there _ _ _ _ _ (.there _ _ _ _ _ (.there _ _ _ _ _ (.here _ _ _)))), ?_⟩; (conv => whnf)))))
    refine brec ?_; intro c_ h2; (try rw [h2]); cases c_
    · ((conv => whnf); (repeat (first | (intro b_ hb_; (conv => whnf)) | (refine ⟨_, _, _, _, (by first | exact .here _ _ _ | exact .there _ _ _ _ _ (.here _ _ _) | exact .there _ _ _ _ _ (.there _ _ _ _ _ (.here _ _ _)) | exact .there _ _ _ _ _ (.there _ _ _ _ _ (.there _ _ _ _ _ (.here _ _ _)))), ?_⟩; (conv => whnf)))))
      refine ⟨i + 1, by omega, by dsimp only; omega, ⟨rfl, rfl, ?_, trivial⟩, ⟨_, .refl _⟩⟩
      show PV.int .i64 (IntKind.i64.wrap _) = _
      rw [wrap_i64 (by omega) (by omega)]; simp
    · simp at h2
end Go.Eng.Ytcckeeappgnebaa
