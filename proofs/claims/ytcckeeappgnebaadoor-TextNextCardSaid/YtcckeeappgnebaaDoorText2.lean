/- Package text's texts: Wide, Cut, Fit. -/
import Derived.Test.YtcckeeappgnebaaDoorText
namespace Go.Eng.YtcckeeappgnebaaDoor
open Go Go.Eng Go.Proofs
variable (W : World)
set_option maxRecDepth 100000

/-- The runes of bytes, each with how many it takes. -/
def runes (s : List UInt8) : List (Nat × Nat) := if h : s = [] then [] else dec s :: runes (s.drop (dec s).2)
termination_by s.length
decreasing_by
  have h1 := dec_pos s h
  have h2 : 0 < s.length := List.length_pos_iff.2 h
  simp; omega
theorem runes_nil : runes [] = [] := by rw [runes]; simp
theorem runes_cons {s : List UInt8} (h : s ≠ []) : runes s = dec s :: runes (s.drop (dec s).2) := by
  conv => lhs; rw [runes, dif_neg h]
theorem nextL_of {s : List UInt8} (h : s ≠ []) : nextL s = dec s := by simp [nextL, h]
/-- Something on bytes, rune by rune. -/
theorem runes_ind {Q : List UInt8 → Prop} (h0 : Q []) (h1 : ∀ s, s ≠ [] → Q (s.drop (dec s).2) → Q s) : ∀ s, Q s := by
  intro s
  induction hn : s.length using Nat.strongRecOn generalizing s with
  | _ n ih =>
    by_cases hs : s = []
    · exact hs ▸ h0
    · have h2 := dec_pos s hs
      have h3 : 0 < s.length := List.length_pos_iff.2 hs
      exact h1 s hs (ih _ (by simp; omega) _ rfl)

/-- How many cells runes take. -/
def wideRs : List (Nat × Nat) → Nat
  | [] => 0
  | p :: l => widthL p.1 + wideRs l
def wideL (s : List UInt8) : Nat := wideRs (runes s)
theorem wideL_nil : wideL [] = 0 := by rw [wideL, runes_nil]; rfl
theorem wideL_cons {s : List UInt8} (h : s ≠ []) : wideL s = widthL (dec s).1 + wideL (s.drop (dec s).2) := by rw [wideL, runes_cons h]; rfl
theorem wideL_le : ∀ s, wideL s ≤ 2 * s.length := by
  refine runes_ind (by rw [wideL_nil]; omega) fun s h ih => ?_
  have h1 := dec_pos s h
  have h2 := widthL_le (dec s).1
  have h3 : 0 < s.length := List.length_pos_iff.2 h
  rw [wideL_cons h]
  simp at ih
  omega

theorem wide_ok (hT : Tabs W) (s : List UInt8) (hs : s.length ≤ 4611686018427387903) : Pure Tryd.prog W 32 [.str s] (.int .i64 (wideL s)) := by
  refine Pure.of (acalls_of_vc (drawOk W) Tryd.func32 rfl (by decide) (by decide) rfl ?_)
  ((conv => whnf); (repeat (first | (intro b_ hb_; (conv => whnf)) | (refine ⟨_, _, _, _, (by first | exact .here _ _ _ | exact .there _ _ _ _ _ (.here _ _ _) | exact .there _ _ _ _ _ (.there _ _ _ _ _ (.here _ _ _)) | exact .there _ _ _ _ _ (.there _ _ _ _ _ (.there _ _ _ _ _ (.here _ _ _)))), ?_⟩; (conv => whnf)))))
  refine ⟨List UInt8 × Nat, fun x => [(0, .str x.1), (3, .int .i64 x.2)], fun _ => [], fun x => x.2 + wideL x.1 = wideL s ∧ x.1.length ≤ s.length, fun x => x.1.length, ⟨(s, 0), ⟨Nat.zero_add _, Nat.le_refl _⟩, ⟨rfl, rfl, trivial⟩, ⟨[], .refl _⟩⟩, ?_⟩
  rintro ⟨r, n⟩ ⟨hn, hl⟩
  dsimp only at hn hl
  have hle := wideL_le s
  ((conv => whnf); (repeat (first | (intro b_ hb_; (conv => whnf)) | (refine ⟨_, _, _, _, (by first | exact .here _ _ _ | exact .there _ _ _ _ _ (.here _ _ _) | exact .there _ _ _ _ _ (.there _ _ _ _ _ (.here _ _ _)) | exact .there _ _ _ _ _ (.there _ _ _ _ _ (.there _ _ _ _ _ (.here _ _ _)))), ?_⟩; (conv => whnf)))))
  refine brec ?_; intro c_ h; (try rw [h]); cases c_
  · have h : r = [] := by simpa using of_decide_eq_false h
    subst h
    ((conv => whnf); (repeat (first | (intro b_ hb_; (conv => whnf)) | (refine ⟨_, _, _, _, (by first | exact .here _ _ _ | exact .there _ _ _ _ _ (.here _ _ _) | exact .there _ _ _ _ _ (.there _ _ _ _ _ (.here _ _ _)) | exact .there _ _ _ _ _ (.there _ _ _ _ _ (.there _ _ _ _ _ (.here _ _ _)))), ?_⟩; (conv => whnf)))))
    rw [wideL_nil] at hn
    rw [← hn]
    exact .refl _
  · have h : r ≠ [] := by simpa using of_decide_eq_true h
    ((conv => whnf); (repeat (first | (intro b_ hb_; (conv => whnf)) | (refine ⟨_, _, _, _, (by first | exact .here _ _ _ | exact .there _ _ _ _ _ (.here _ _ _) | exact .there _ _ _ _ _ (.there _ _ _ _ _ (.here _ _ _)) | exact .there _ _ _ _ _ (.there _ _ _ _ _ (.there _ _ _ _ _ (.here _ _ _)))), ?_⟩; (conv => whnf)))))
    refine (next_ok W hT r).use ?_
    ((conv => whnf); (repeat (first | (intro b_ hb_; (conv => whnf)) | (refine ⟨_, _, _, _, (by first | exact .here _ _ _ | exact .there _ _ _ _ _ (.here _ _ _) | exact .there _ _ _ _ _ (.there _ _ _ _ _ (.here _ _ _)) | exact .there _ _ _ _ _ (.there _ _ _ _ _ (.there _ _ _ _ _ (.here _ _ _)))), ?_⟩; (conv => whnf)))))
    refine (width_ok W _).use ?_
    ((conv => whnf); (repeat (first | (intro b_ hb_; (conv => whnf)) | (refine ⟨_, _, _, _, (by first | exact .here _ _ _ | exact .there _ _ _ _ _ (.here _ _ _) | exact .there _ _ _ _ _ (.there _ _ _ _ _ (.here _ _ _)) | exact .there _ _ _ _ _ (.there _ _ _ _ _ (.there _ _ _ _ _ (.here _ _ _)))), ?_⟩; (conv => whnf)))))
    have hd := dec_le r
    have hp := dec_pos r h
    have h3 : 0 < r.length := List.length_pos_iff.2 h
    rw [nextL_of h]
    refine ⟨⟨by omega, by dsimp only; omega, by omega⟩, ?_⟩
    ((conv => whnf); (repeat (first | (intro b_ hb_; (conv => whnf)) | (refine ⟨_, _, _, _, (by first | exact .here _ _ _ | exact .there _ _ _ _ _ (.here _ _ _) | exact .there _ _ _ _ _ (.there _ _ _ _ _ (.here _ _ _)) | exact .there _ _ _ _ _ (.there _ _ _ _ _ (.there _ _ _ _ _ (.here _ _ _)))), ?_⟩; (conv => whnf)))))
    refine ⟨(r.drop (dec r).2, n + widthL (dec r).1), ⟨by rw [← hn, wideL_cons h]; dsimp only; omega, by simp; omega⟩, by simp; omega, ⟨?_, ?_, trivial⟩, ⟨_, .refl _⟩⟩
    · show PV.str _ = PV.str _
      simp
    · show PV.int .i64 (IntKind.i64.wrap _) = _
      have := wideL_cons h
      dsimp only
      rw [wrap_i64 (by omega) (by omega)]; simp
end Go.Eng.YtcckeeappgnebaaDoor
