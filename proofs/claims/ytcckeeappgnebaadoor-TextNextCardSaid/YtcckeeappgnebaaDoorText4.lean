/- Package text: Fit; the fact that the laws look at first; TextNext. -/
import Derived.Test.YtcckeeappgnebaaDoorRunes
namespace Go.Eng.YtcckeeappgnebaaDoor
open Go Go.Eng Go.Proofs
variable (W : World)
set_option maxRecDepth 100000

def fitL (s : List UInt8) (n : Int) : List UInt8 := if n < 0 ∨ 120 < n then [] else cutL s n ++ Lib.repeatL [32] (n - wideL (cutL s n)).toNat
theorem cutL_len (s : List UInt8) (n : Int) : (cutL s n).length ≤ s.length := by simp [cutL]; omega
theorem fit_ok (hT : Tabs W) (s : List UInt8) (n : Int) (hs : s.length ≤ 4611686018427387903) : Pure Tryd.prog W 36 [.str s, .int .i64 n] (.str (fitL s n)) := by
  refine Pure.of (acalls_of_vc (drawOk W) Tryd.func36 rfl (by decide) (by decide) rfl ?_)
  ((conv => whnf); (repeat (first | (intro b_ hb_; (conv => whnf)) | (refine ⟨_, _, _, _, (by first | exact .here _ _ _ | exact .there _ _ _ _ _ (.here _ _ _) | exact .there _ _ _ _ _ (.there _ _ _ _ _ (.here _ _ _)) | exact .there _ _ _ _ _ (.there _ _ _ _ _ (.there _ _ _ _ _ (.here _ _ _)))), ?_⟩; (conv => whnf)))))
  refine brec ?_; intro c_ h1; (try rw [h1]); cases c_
  · have h1 : ¬ n < 0 := of_decide_eq_false h1
    ((conv => whnf); (repeat (first | (intro b_ hb_; (conv => whnf)) | (refine ⟨_, _, _, _, (by first | exact .here _ _ _ | exact .there _ _ _ _ _ (.here _ _ _) | exact .there _ _ _ _ _ (.there _ _ _ _ _ (.here _ _ _)) | exact .there _ _ _ _ _ (.there _ _ _ _ _ (.there _ _ _ _ _ (.here _ _ _)))), ?_⟩; (conv => whnf)))))
    refine brec ?_; intro c_ h2; (try rw [h2]); cases c_
    · have h2 : ¬ 120 < n := of_decide_eq_false h2
      have hw := wide_cutL s n (by omega)
      have hl := cutL_len s n
      ((conv => whnf); (repeat (first | (intro b_ hb_; (conv => whnf)) | (refine ⟨_, _, _, _, (by first | exact .here _ _ _ | exact .there _ _ _ _ _ (.here _ _ _) | exact .there _ _ _ _ _ (.there _ _ _ _ _ (.here _ _ _)) | exact .there _ _ _ _ _ (.there _ _ _ _ _ (.there _ _ _ _ _ (.here _ _ _)))), ?_⟩; (conv => whnf)))))
      refine (cut_ok W hT s n hs).use ?_
      ((conv => whnf); (repeat (first | (intro b_ hb_; (conv => whnf)) | (refine ⟨_, _, _, _, (by first | exact .here _ _ _ | exact .there _ _ _ _ _ (.here _ _ _) | exact .there _ _ _ _ _ (.there _ _ _ _ _ (.here _ _ _)) | exact .there _ _ _ _ _ (.there _ _ _ _ _ (.there _ _ _ _ _ (.here _ _ _)))), ?_⟩; (conv => whnf)))))
      refine (wide_ok W hT _ (by omega)).use ?_
      ((conv => whnf); (repeat (first | (intro b_ hb_; (conv => whnf)) | (refine ⟨_, _, _, _, (by first | exact .here _ _ _ | exact .there _ _ _ _ _ (.here _ _ _) | exact .there _ _ _ _ _ (.there _ _ _ _ _ (.here _ _ _)) | exact .there _ _ _ _ _ (.there _ _ _ _ _ (.there _ _ _ _ _ (.here _ _ _)))), ?_⟩; (conv => whnf)))))
      have e : IntKind.i64.wrap (n - (wideL (cutL s n) : Int)) = ((n - wideL (cutL s n)).toNat : Nat) := by rw [wrap_i64 (by omega) (by omega)]; omega
      rw [e]
      refine (repeat_ok W [32] _ (by simp; omega) (by omega)).use ?_
      ((conv => whnf); (repeat (first | (intro b_ hb_; (conv => whnf)) | (refine ⟨_, _, _, _, (by first | exact .here _ _ _ | exact .there _ _ _ _ _ (.here _ _ _) | exact .there _ _ _ _ _ (.there _ _ _ _ _ (.here _ _ _)) | exact .there _ _ _ _ _ (.there _ _ _ _ _ (.there _ _ _ _ _ (.here _ _ _)))), ?_⟩; (conv => whnf)))))
      refine ⟨by simp [Lib.repeatL_length, maxInt]; omega, ?_⟩
      ((conv => whnf); (repeat (first | (intro b_ hb_; (conv => whnf)) | (refine ⟨_, _, _, _, (by first | exact .here _ _ _ | exact .there _ _ _ _ _ (.here _ _ _) | exact .there _ _ _ _ _ (.there _ _ _ _ _ (.here _ _ _)) | exact .there _ _ _ _ _ (.there _ _ _ _ _ (.there _ _ _ _ _ (.here _ _ _)))), ?_⟩; (conv => whnf)))))
      rw [show fitL s n = cutL s n ++ Lib.repeatL [32] (n - wideL (cutL s n)).toNat by simp [fitL, h1, h2]]
      exact .refl _
    · have h2 : 120 < n := of_decide_eq_true h2
      ((conv => whnf); (repeat (first | (intro b_ hb_; (conv => whnf)) | (refine ⟨_, _, _, _, (by first | exact .here _ _ _ | exact .there _ _ _ _ _ (.here _ _ _) | exact .there _ _ _ _ _ (.there _ _ _ _ _ (.here _ _ _)) | exact .there _ _ _ _ _ (.there _ _ _ _ _ (.there _ _ _ _ _ (.here _ _ _)))), ?_⟩; (conv => whnf)))))
      rw [show fitL s n = [] by simp [fitL, h2]]
      exact .refl _
  · have h1 : n < 0 := of_decide_eq_true h1
    ((conv => whnf); (repeat (first | (intro b_ hb_; (conv => whnf)) | (refine ⟨_, _, _, _, (by first | exact .here _ _ _ | exact .there _ _ _ _ _ (.here _ _ _) | exact .there _ _ _ _ _ (.there _ _ _ _ _ (.here _ _ _)) | exact .there _ _ _ _ _ (.there _ _ _ _ _ (.there _ _ _ _ _ (.here _ _ _)))), ?_⟩; (conv => whnf)))))
    rw [show fitL s n = [] by simp [fitL, h1]]
    exact .refl _

/-- Runes, for reckoning. -/
def runesF : Nat → List UInt8 → List (Nat × Nat)
  | 0, _ => []
  | n + 1, s => if s = [] then [] else dec s :: runesF n (s.drop (dec s).2)
theorem runes_F : ∀ n s, s.length ≤ n → runes s = runesF n s
  | 0, s, h => by rw [List.eq_nil_of_length_eq_zero (by omega : s.length = 0), runes_nil]; rfl
  | n + 1, s, h => by
    by_cases hs : s = []
    · rw [hs, runes_nil]; rfl
    · have := dec_pos s hs
      have := List.length_pos_iff.2 hs
      rw [runes_cons hs, runesF, if_neg hs, runes_F n _ (by simp; omega)]
def nihonx : List UInt8 := [230, 151, 165, 230, 156, 172, 120]
theorem wide_nihonx : wideL nihonx = 5 := by rw [wideL, runes_F 7 _ (by decide)]; decide +kernel
theorem cut_nihonx : cutL nihonx 3 = [230, 151, 165] := by rw [cutL, runes_F 7 _ (by decide)]; decide +kernel
theorem fit_ab : fitL [97, 98] 4 = [97, 98, 32, 32] := by
  have h : cutL [97, 98] 4 = [97, 98] := by rw [cutL, runes_F 2 _ (by decide)]; decide +kernel
  have h2 : wideL [97, 98] = 2 := by rw [wideL, runes_F 2 _ (by decide)]; decide +kernel
  rw [fitL, h, h2]; decide +kernel

theorem written_ok (hT : Tabs W) : Pure Tryd.prog W 28 [] (.bool true) := by
  refine Pure.of (acalls_of_vc (drawOk W) Tryd.func28 rfl (by decide) (by decide) rfl ?_)
  ((conv => whnf); (repeat (first | (intro b_ hb_; (conv => whnf)) | (refine ⟨_, _, _, _, (by first | exact .here _ _ _ | exact .there _ _ _ _ _ (.here _ _ _) | exact .there _ _ _ _ _ (.there _ _ _ _ _ (.here _ _ _)) | exact .there _ _ _ _ _ (.there _ _ _ _ _ (.there _ _ _ _ _ (.here _ _ _)))), ?_⟩; (conv => whnf)))))
  refine (wide_ok W hT nihonx (by decide)).use ?_
  rw [wide_nihonx]
  ((conv => whnf); (repeat (first | (intro b_ hb_; (conv => whnf)) | (refine ⟨_, _, _, _, (by first | exact .here _ _ _ | exact .there _ _ _ _ _ (.here _ _ _) | exact .there _ _ _ _ _ (.there _ _ _ _ _ (.here _ _ _)) | exact .there _ _ _ _ _ (.there _ _ _ _ _ (.there _ _ _ _ _ (.here _ _ _)))), ?_⟩; (conv => whnf)))))
  refine (cut_ok W hT nihonx 3 (by decide)).use ?_
  rw [cut_nihonx]
  ((conv => whnf); (repeat (first | (intro b_ hb_; (conv => whnf)) | (refine ⟨_, _, _, _, (by first | exact .here _ _ _ | exact .there _ _ _ _ _ (.here _ _ _) | exact .there _ _ _ _ _ (.there _ _ _ _ _ (.here _ _ _)) | exact .there _ _ _ _ _ (.there _ _ _ _ _ (.there _ _ _ _ _ (.here _ _ _)))), ?_⟩; (conv => whnf)))))
  refine (fit_ok W hT [97, 98] 4 (by decide)).use ?_
  rw [fit_ab]
  ((conv => whnf); (repeat (first | (intro b_ hb_; (conv => whnf)) | (refine ⟨_, _, _, _, (by first | exact .here _ _ _ | exact .there _ _ _ _ _ (.here _ _ _) | exact .there _ _ _ _ _ (.there _ _ _ _ _ (.here _ _ _)) | exact .there _ _ _ _ _ (.there _ _ _ _ _ (.there _ _ _ _ _ (.here _ _ _)))), ?_⟩; (conv => whnf)))))
  exact .refl _

theorem textNext_ok (hT : Tabs W) (s : List UInt8) (_hs : s.length ≤ 9223372036854775807) : Pure Tryd.prog W 3 [.str s] (.bool true) := by
  refine Pure.of (acalls_of_vc (drawOk W) Tryd.func3 rfl (by decide) (by decide) rfl ?_)
  ((conv => whnf); (repeat (first | (intro b_ hb_; (conv => whnf)) | (refine ⟨_, _, _, _, (by first | exact .here _ _ _ | exact .there _ _ _ _ _ (.here _ _ _) | exact .there _ _ _ _ _ (.there _ _ _ _ _ (.here _ _ _)) | exact .there _ _ _ _ _ (.there _ _ _ _ _ (.there _ _ _ _ _ (.here _ _ _)))), ?_⟩; (conv => whnf)))))
  refine (next_ok W hT s).use ?_
  ((conv => whnf); (repeat (first | (intro b_ hb_; (conv => whnf)) | (refine ⟨_, _, _, _, (by first | exact .here _ _ _ | exact .there _ _ _ _ _ (.here _ _ _) | exact .there _ _ _ _ _ (.there _ _ _ _ _ (.here _ _ _)) | exact .there _ _ _ _ _ (.there _ _ _ _ _ (.there _ _ _ _ _ (.here _ _ _)))), ?_⟩; (conv => whnf)))))
  refine (written_ok W hT).use ?_
  ((conv => whnf); (repeat (first | (intro b_ hb_; (conv => whnf)) | (refine ⟨_, _, _, _, (by first | exact .here _ _ _ | exact .there _ _ _ _ _ (.here _ _ _) | exact .there _ _ _ _ _ (.there _ _ _ _ _ (.here _ _ _)) | exact .there _ _ _ _ _ (.there _ _ _ _ _ (.there _ _ _ _ _ (.here _ _ _)))), ?_⟩; (conv => whnf)))))
  refine brec ?_; intro c_ h; (try rw [h]); cases c_
  · have h : s ≠ [] := by simpa using of_decide_eq_false h
    ((conv => whnf); (repeat (first | (intro b_ hb_; (conv => whnf)) | (refine ⟨_, _, _, _, (by first | exact .here _ _ _ | exact .there _ _ _ _ _ (.here _ _ _) | exact .there _ _ _ _ _ (.there _ _ _ _ _ (.here _ _ _)) | exact .there _ _ _ _ _ (.there _ _ _ _ _ (.there _ _ _ _ _ (.here _ _ _)))), ?_⟩; (conv => whnf)))))
    refine (decodeRune_ok W hT s).use ?_
    rw [nextL_of h]
    ((conv => whnf); (repeat (first | (intro b_ hb_; (conv => whnf)) | (refine ⟨_, _, _, _, (by first | exact .here _ _ _ | exact .there _ _ _ _ _ (.here _ _ _) | exact .there _ _ _ _ _ (.there _ _ _ _ _ (.here _ _ _)) | exact .there _ _ _ _ _ (.there _ _ _ _ _ (.there _ _ _ _ _ (.here _ _ _)))), ?_⟩; (conv => whnf)))))
    refine brec ?_; intro c_ h_; (try rw [h_]); cases c_; exact absurd h_ (by simp)
    ((conv => whnf); (repeat (first | (intro b_ hb_; (conv => whnf)) | (refine ⟨_, _, _, _, (by first | exact .here _ _ _ | exact .there _ _ _ _ _ (.here _ _ _) | exact .there _ _ _ _ _ (.there _ _ _ _ _ (.here _ _ _)) | exact .there _ _ _ _ _ (.there _ _ _ _ _ (.there _ _ _ _ _ (.here _ _ _)))), ?_⟩; (conv => whnf)))))
    (refine Frz.of_eq ?_; (conv => lhs; whnf))
    simp
  · have h : s = [] := by simpa using of_decide_eq_true h
    subst h
    ((conv => whnf); (repeat (first | (intro b_ hb_; (conv => whnf)) | (refine ⟨_, _, _, _, (by first | exact .here _ _ _ | exact .there _ _ _ _ _ (.here _ _ _) | exact .there _ _ _ _ _ (.there _ _ _ _ _ (.here _ _ _)) | exact .there _ _ _ _ _ (.there _ _ _ _ _ (.there _ _ _ _ _ (.here _ _ _)))), ?_⟩; (conv => whnf)))))
    refine (written_ok W hT).use ?_
    ((conv => whnf); (repeat (first | (intro b_ hb_; (conv => whnf)) | (refine ⟨_, _, _, _, (by first | exact .here _ _ _ | exact .there _ _ _ _ _ (.here _ _ _) | exact .there _ _ _ _ _ (.there _ _ _ _ _ (.here _ _ _)) | exact .there _ _ _ _ _ (.there _ _ _ _ _ (.there _ _ _ _ _ (.here _ _ _)))), ?_⟩; (conv => whnf)))))
    exact .refl _
end Go.Eng.YtcckeeappgnebaaDoor
