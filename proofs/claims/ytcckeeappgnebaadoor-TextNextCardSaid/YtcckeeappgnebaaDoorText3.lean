/- Package text's texts: Cut, Fit; what the laws look at first. -/
import Derived.Test.YtcckeeappgnebaaDoorText2
namespace Go.Eng.YtcckeeappgnebaaDoor
open Go Go.Eng Go.Proofs
variable (W : World)
set_option maxRecDepth 100000

/-- Where a text of runes is cut that may take n cells. -/
def cutAt (n : Int) : Nat → List (Nat × Nat) → Nat
  | _, [] => 0
  | used, p :: l => if n < used + widthL p.1 then 0 else p.2 + cutAt n (used + widthL p.1) l
def cutL (s : List UInt8) (n : Int) : List UInt8 := s.take (cutAt n 0 (runes s))
theorem cutAt_le (n : Int) : ∀ s used, cutAt n used (runes s) ≤ s.length := by
  refine runes_ind (fun used => by rw [runes_nil]; simp [cutAt]) fun s h ih used => ?_
  rw [runes_cons h, cutAt]
  have := ih (used + widthL (dec s).1)
  have := dec_le s
  simp at *
  split <;> omega
theorem cut_ok (hT : Tabs W) (s : List UInt8) (n : Int) (hs : s.length ≤ 4611686018427387903) : Pure Tryd.prog W 34 [.str s, .int .i64 n] (.str (cutL s n)) := by
  refine Pure.of (acalls_of_vc (drawOk W) Tryd.func34 rfl (by decide) (by decide) rfl ?_)
  ((conv => whnf); (repeat (first | (intro b_ hb_; (conv => whnf)) | (refine ⟨_, _, _, _, (by first | exact .here _ _ _ | exact .there _ _ _ _ _ (.here _ _ _) | exact .there _ _ _ _ _ (.there _ _ _ _ _ (.here _ _ _)) | exact .there _ _ _ _ _ (.there _ _ _ _ _ (.there _ _ _ _ _ (.here _ _ _)))), ?_⟩; (conv => whnf)))))
  refine ⟨Nat × Nat, fun x => [(0, .str s), (1, .int .i64 n), (5, .int .i64 x.1), (6, .int .i64 x.2)], fun _ => [], fun x => x.1 ≤ s.length ∧ x.2 ≤ 2 * x.1 ∧ x.1 + cutAt n x.2 (runes (s.drop x.1)) = cutAt n 0 (runes s), fun x => s.length - x.1, ⟨(0, 0), ⟨Nat.zero_le _, Nat.le_refl _, by simp⟩, ⟨rfl, rfl, rfl, rfl, trivial⟩, ⟨[], .refl _⟩⟩, ?_⟩
  rintro ⟨at_, used⟩ ⟨h1, h2, h3⟩
  dsimp only at h1 h2 h3
  ((conv => whnf); (repeat (first | (intro b_ hb_; (conv => whnf)) | (refine ⟨_, _, _, _, (by first | exact .here _ _ _ | exact .there _ _ _ _ _ (.here _ _ _) | exact .there _ _ _ _ _ (.there _ _ _ _ _ (.here _ _ _)) | exact .there _ _ _ _ _ (.there _ _ _ _ _ (.there _ _ _ _ _ (.here _ _ _)))), ?_⟩; (conv => whnf)))))
  refine brec ?_; intro c_ h; (try rw [h]); cases c_
  · have h : at_ = s.length := by have := of_decide_eq_false h; simp at this; omega
    ((conv => whnf); (repeat (first | (intro b_ hb_; (conv => whnf)) | (refine ⟨_, _, _, _, (by first | exact .here _ _ _ | exact .there _ _ _ _ _ (.here _ _ _) | exact .there _ _ _ _ _ (.there _ _ _ _ _ (.here _ _ _)) | exact .there _ _ _ _ _ (.there _ _ _ _ _ (.there _ _ _ _ _ (.here _ _ _)))), ?_⟩; (conv => whnf)))))
    refine ⟨⟨by omega, by dsimp only; omega, by dsimp only; omega⟩, ?_⟩
    ((conv => whnf); (repeat (first | (intro b_ hb_; (conv => whnf)) | (refine ⟨_, _, _, _, (by first | exact .here _ _ _ | exact .there _ _ _ _ _ (.here _ _ _) | exact .there _ _ _ _ _ (.there _ _ _ _ _ (.here _ _ _)) | exact .there _ _ _ _ _ (.there _ _ _ _ _ (.there _ _ _ _ _ (.here _ _ _)))), ?_⟩; (conv => whnf)))))
    subst h
    rw [List.drop_length, runes_nil] at h3
    have : cutAt n used [] = 0 := rfl
    rw [this] at h3
    simp [cutL, ← h3]
    exact .refl _
  · have h : at_ < s.length := by have := of_decide_eq_true h; simp at this; omega
    have hne : s.drop at_ ≠ [] := by simp; omega
    have hd := dec_le (s.drop at_)
    have hp := dec_pos (s.drop at_) hne
    have hw := widthL_le (dec (s.drop at_)).1
    rw [List.length_drop] at hd
    rw [runes_cons hne, cutAt] at h3
    ((conv => whnf); (repeat (first | (intro b_ hb_; (conv => whnf)) | (refine ⟨_, _, _, _, (by first | exact .here _ _ _ | exact .there _ _ _ _ _ (.here _ _ _) | exact .there _ _ _ _ _ (.there _ _ _ _ _ (.here _ _ _)) | exact .there _ _ _ _ _ (.there _ _ _ _ _ (.there _ _ _ _ _ (.here _ _ _)))), ?_⟩; (conv => whnf)))))
    refine ⟨⟨by omega, by dsimp only; omega, by omega⟩, ?_⟩
    ((conv => whnf); (repeat (first | (intro b_ hb_; (conv => whnf)) | (refine ⟨_, _, _, _, (by first | exact .here _ _ _ | exact .there _ _ _ _ _ (.here _ _ _) | exact .there _ _ _ _ _ (.there _ _ _ _ _ (.here _ _ _)) | exact .there _ _ _ _ _ (.there _ _ _ _ _ (.there _ _ _ _ _ (.here _ _ _)))), ?_⟩; (conv => whnf)))))
    refine (next_ok W hT _).use ?_
    ((conv => whnf); (repeat (first | (intro b_ hb_; (conv => whnf)) | (refine ⟨_, _, _, _, (by first | exact .here _ _ _ | exact .there _ _ _ _ _ (.here _ _ _) | exact .there _ _ _ _ _ (.there _ _ _ _ _ (.here _ _ _)) | exact .there _ _ _ _ _ (.there _ _ _ _ _ (.there _ _ _ _ _ (.here _ _ _)))), ?_⟩; (conv => whnf)))))
    refine (width_ok W _).use ?_
    ((conv => whnf); (repeat (first | (intro b_ hb_; (conv => whnf)) | (refine ⟨_, _, _, _, (by first | exact .here _ _ _ | exact .there _ _ _ _ _ (.here _ _ _) | exact .there _ _ _ _ _ (.there _ _ _ _ _ (.here _ _ _)) | exact .there _ _ _ _ _ (.there _ _ _ _ _ (.there _ _ _ _ _ (.here _ _ _)))), ?_⟩; (conv => whnf)))))
    have e0 : (s.take (s.length : Int).toNat).drop (at_ : Int).toNat = s.drop at_ := by simp
    dsimp only
    rw [e0, nextL_of hne, wrap_i64 (by omega) (by omega)]
    refine brec ?_; intro c_ hc; (try rw [hc]); cases c_
    · have hc : ¬ n < used + widthL (dec (s.drop at_)).1 := of_decide_eq_false hc
      rw [if_neg hc] at h3
      ((conv => whnf); (repeat (first | (intro b_ hb_; (conv => whnf)) | (refine ⟨_, _, _, _, (by first | exact .here _ _ _ | exact .there _ _ _ _ _ (.here _ _ _) | exact .there _ _ _ _ _ (.there _ _ _ _ _ (.here _ _ _)) | exact .there _ _ _ _ _ (.there _ _ _ _ _ (.there _ _ _ _ _ (.here _ _ _)))), ?_⟩; (conv => whnf)))))
      refine (width_ok W _).use ?_
      ((conv => whnf); (repeat (first | (intro b_ hb_; (conv => whnf)) | (refine ⟨_, _, _, _, (by first | exact .here _ _ _ | exact .there _ _ _ _ _ (.here _ _ _) | exact .there _ _ _ _ _ (.there _ _ _ _ _ (.here _ _ _)) | exact .there _ _ _ _ _ (.there _ _ _ _ _ (.there _ _ _ _ _ (.here _ _ _)))), ?_⟩; (conv => whnf)))))
      refine ⟨(at_ + (dec (s.drop at_)).2, used + widthL (dec (s.drop at_)).1), ⟨by dsimp only; omega, by dsimp only; omega, ?_⟩, by dsimp only; omega, ⟨rfl, rfl, ?_, ?_, trivial⟩, ⟨_, .refl _⟩⟩
      · dsimp only
        rw [← List.drop_drop]; omega
      · show PV.int .i64 (IntKind.i64.wrap _) = _
        dsimp only
        rw [wrap_i64 (by omega) (by omega)]; simp
      · show PV.int .i64 (IntKind.i64.wrap _) = _
        dsimp only
        rw [wrap_i64 (by omega) (by omega)]; simp
    · have hc : n < used + widthL (dec (s.drop at_)).1 := of_decide_eq_true hc
      rw [if_pos hc] at h3
      ((conv => whnf); (repeat (first | (intro b_ hb_; (conv => whnf)) | (refine ⟨_, _, _, _, (by first | exact .here _ _ _ | exact .there _ _ _ _ _ (.here _ _ _) | exact .there _ _ _ _ _ (.there _ _ _ _ _ (.here _ _ _)) | exact .there _ _ _ _ _ (.there _ _ _ _ _ (.there _ _ _ _ _ (.here _ _ _)))), ?_⟩; (conv => whnf)))))
      refine ⟨⟨by omega, by omega, by omega⟩, ?_⟩
      ((conv => whnf); (repeat (first | (intro b_ hb_; (conv => whnf)) | (refine ⟨_, _, _, _, (by first | exact .here _ _ _ | exact .there _ _ _ _ _ (.here _ _ _) | exact .there _ _ _ _ _ (.there _ _ _ _ _ (.here _ _ _)) | exact .there _ _ _ _ _ (.there _ _ _ _ _ (.there _ _ _ _ _ (.here _ _ _)))), ?_⟩; (conv => whnf)))))
      simp [cutL, ← h3]
      exact .refl _

theorem repeat_ok (s : List UInt8) (c : Nat) (hc : s.length * c ≤ 140737488355328) (hc2 : c ≤ 9223372036854775807) : Pure Tryd.prog W 38 [.str s, .int .i64 c] (.str (Lib.repeatL s c)) :=
  Pure.of_below Tryd.func38 rfl (by decide) rfl rfl fun w _ _ => Tryd.strings_Repeat ⟨s.toArray⟩ c w hc2 (by simpa [ByteArray.size] using hc)
end Go.Eng.YtcckeeappgnebaaDoor
