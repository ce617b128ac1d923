/- Package text's widths, and the document's. -/
import Derived.Test.YtcckeeappgnebaaDoorUtf8
namespace Go.Eng.YtcckeeappgnebaaDoor
open Go Go.Eng Go.Proofs
variable (W : World)
set_option maxRecDepth 100000

/-! ### The first rune -/
def nextL (s : List UInt8) : Nat × Nat := if s = [] then (0, 0) else dec s
theorem next_ok (hT : Tabs W) (s : List UInt8) : Pure Tryd.prog W 27 [.str s] (.tup [.int .i32 (nextL s).1, .int .i64 (nextL s).2]) := by
  refine Pure.of (acalls_of_vc (drawOk W) Tryd.func27 rfl (by decide) (by decide) rfl ?_)
  ((conv => whnf); (repeat (first | (intro b_ hb_; (conv => whnf)) | (refine ⟨_, _, _, _, (by first | exact .here _ _ _ | exact .there _ _ _ _ _ (.here _ _ _) | exact .there _ _ _ _ _ (.there _ _ _ _ _ (.here _ _ _)) | exact .there _ _ _ _ _ (.there _ _ _ _ _ (.there _ _ _ _ _ (.here _ _ _)))), ?_⟩; (conv => whnf)))))
  refine brec ?_; intro c_ h; (try rw [h]); cases c_
  · have hs : s ≠ [] := by simpa using of_decide_eq_false h
    ((conv => whnf); (repeat (first | (intro b_ hb_; (conv => whnf)) | (refine ⟨_, _, _, _, (by first | exact .here _ _ _ | exact .there _ _ _ _ _ (.here _ _ _) | exact .there _ _ _ _ _ (.there _ _ _ _ _ (.here _ _ _)) | exact .there _ _ _ _ _ (.there _ _ _ _ _ (.there _ _ _ _ _ (.here _ _ _)))), ?_⟩; (conv => whnf)))))
    refine (decodeRune_ok W hT s).use ?_
    ((conv => whnf); (repeat (first | (intro b_ hb_; (conv => whnf)) | (refine ⟨_, _, _, _, (by first | exact .here _ _ _ | exact .there _ _ _ _ _ (.here _ _ _) | exact .there _ _ _ _ _ (.there _ _ _ _ _ (.here _ _ _)) | exact .there _ _ _ _ _ (.there _ _ _ _ _ (.there _ _ _ _ _ (.here _ _ _)))), ?_⟩; (conv => whnf)))))
    simp only [nextL, if_neg hs]
    exact .refl _
  · have hs : s = [] := by simpa using of_decide_eq_true h
    subst hs
    ((conv => whnf); (repeat (first | (intro b_ hb_; (conv => whnf)) | (refine ⟨_, _, _, _, (by first | exact .here _ _ _ | exact .there _ _ _ _ _ (.here _ _ _) | exact .there _ _ _ _ _ (.there _ _ _ _ _ (.here _ _ _)) | exact .there _ _ _ _ _ (.there _ _ _ _ _ (.there _ _ _ _ _ (.here _ _ _)))), ?_⟩; (conv => whnf)))))
    exact .refl _

/-! ### Spans -/
def encSpan (p : Int × Int) : PV := .agg [.int .i32 p.1, .int .i32 p.2]
def withinL (r : Int) (l : List (Int × Int)) : Bool := l.any fun s => decide (s.1 ≤ r) && decide (r ≤ s.2)
theorem withinL_snoc (r : Int) (l : List (Int × Int)) (i : Nat) (h : i < l.length) : withinL r (l.take (i + 1)) = (withinL r (l.take i) || (decide (l[i].1 ≤ r) && decide (r ≤ l[i].2))) := by
  unfold withinL
  rw [List.take_succ_eq_append_getElem h, List.any_append]; simp
theorem withinL_of (r : Int) (l : List (Int × Int)) (i : Nat) (h : i < l.length) (h1 : l[i].1 ≤ r) (h2 : r ≤ l[i].2) : withinL r l = true := by
  unfold withinL
  rw [List.any_eq_true]; exact ⟨l[i], List.getElem_mem h, by simp [h1, h2]⟩
theorem within_ok (r : Int) (l : List (Int × Int)) (hl : (l.length : Int) ≤ 9223372036854775807) : Pure Tryd.prog W 135 [.int .i32 r, .sl 2 (l.map encSpan)] (.bool (withinL r l)) := by
  refine Pure.of (acalls_of_vc (drawOk W) Tryd.func135 rfl (by decide) (by decide) rfl ?_)
  ((conv => whnf); (repeat (first | (intro b_ hb_; (conv => whnf)) | (refine ⟨_, _, _, _, (by first | exact .here _ _ _ | exact .there _ _ _ _ _ (.here _ _ _) | exact .there _ _ _ _ _ (.there _ _ _ _ _ (.here _ _ _)) | exact .there _ _ _ _ _ (.there _ _ _ _ _ (.there _ _ _ _ _ (.here _ _ _)))), ?_⟩; (conv => whnf)))))
  refine ⟨Nat, fun i => [(0, .int .i32 r), (7, .sl 2 (l.map encSpan)), (8, .int .i64 (l.map encSpan).length), (9, .int .i64 i)], fun _ => [], fun i => i ≤ l.length ∧ withinL r (l.take i) = false, fun i => l.length - i, ⟨0, ⟨Nat.zero_le _, rfl⟩, ⟨rfl, rfl, rfl, rfl, trivial⟩, ⟨[], .refl _⟩⟩, ?_⟩
  rintro i ⟨hi, hw⟩
  ((conv => whnf); (repeat (first | (intro b_ hb_; (conv => whnf)) | (refine ⟨_, _, _, _, (by first | exact .here _ _ _ | exact .there _ _ _ _ _ (.here _ _ _) | exact .there _ _ _ _ _ (.there _ _ _ _ _ (.here _ _ _)) | exact .there _ _ _ _ _ (.there _ _ _ _ _ (.there _ _ _ _ _ (.here _ _ _)))), ?_⟩; (conv => whnf)))))
  refine brec ?_; intro c_ hc; (try rw [hc]); cases c_
  · ((conv => whnf); (repeat (first | (intro b_ hb_; (conv => whnf)) | (refine ⟨_, _, _, _, (by first | exact .here _ _ _ | exact .there _ _ _ _ _ (.here _ _ _) | exact .there _ _ _ _ _ (.there _ _ _ _ _ (.here _ _ _)) | exact .there _ _ _ _ _ (.there _ _ _ _ _ (.there _ _ _ _ _ (.here _ _ _)))), ?_⟩; (conv => whnf)))))
    have : i = l.length := by have := of_decide_eq_false hc; simp at this; omega
    subst this
    rw [List.take_length] at hw
    rw [hw]
    exact .refl _
  · have hlt : i < l.length := by have := of_decide_eq_true hc; simp at this; omega
    ((conv => whnf); (repeat (first | (intro b_ hb_; (conv => whnf)) | (refine ⟨_, _, _, _, (by first | exact .here _ _ _ | exact .there _ _ _ _ _ (.here _ _ _) | exact .there _ _ _ _ _ (.there _ _ _ _ _ (.here _ _ _)) | exact .there _ _ _ _ _ (.there _ _ _ _ _ (.there _ _ _ _ _ (.here _ _ _)))), ?_⟩; (conv => whnf)))))
    refine ⟨⟨by omega, by simp; omega⟩, ?_⟩
    have he : (List.map encSpan l).getD (i : Int).toNat .dead = .agg [.int .i32 l[i].1, .int .i32 l[i].2] := by
      simp [List.getD_eq_getElem?_getD, hlt, encSpan]
    have hsn := withinL_snoc r l i hlt
    have hof := withinL_of r l i hlt
    rw [he]
    generalize l[i] = s at *
    ((conv => whnf); (repeat (first | (intro b_ hb_; (conv => whnf)) | (refine ⟨_, _, _, _, (by first | exact .here _ _ _ | exact .there _ _ _ _ _ (.here _ _ _) | exact .there _ _ _ _ _ (.there _ _ _ _ _ (.here _ _ _)) | exact .there _ _ _ _ _ (.there _ _ _ _ _ (.there _ _ _ _ _ (.here _ _ _)))), ?_⟩; (conv => whnf)))))
    refine brec ?_; intro c_ h1; (try rw [h1]); cases c_
    · ((conv => whnf); (repeat (first | (intro b_ hb_; (conv => whnf)) | (refine ⟨_, _, _, _, (by first | exact .here _ _ _ | exact .there _ _ _ _ _ (.here _ _ _) | exact .there _ _ _ _ _ (.there _ _ _ _ _ (.here _ _ _)) | exact .there _ _ _ _ _ (.there _ _ _ _ _ (.there _ _ _ _ _ (.here _ _ _)))), ?_⟩; (conv => whnf)))))
      refine ⟨i + 1, ⟨hlt, ?_⟩, by dsimp only; omega, ⟨rfl, rfl, rfl, ?_, trivial⟩, ⟨_, .refl _⟩⟩
      · rw [hsn, hw, h1]; rfl
      · show PV.int .i64 (IntKind.i64.wrap _) = _
        rw [wrap_i64 (by omega) (by omega)]; simp
    · ((conv => whnf); (repeat (first | (intro b_ hb_; (conv => whnf)) | (refine ⟨_, _, _, _, (by first | exact .here _ _ _ | exact .there _ _ _ _ _ (.here _ _ _) | exact .there _ _ _ _ _ (.there _ _ _ _ _ (.here _ _ _)) | exact .there _ _ _ _ _ (.there _ _ _ _ _ (.there _ _ _ _ _ (.here _ _ _)))), ?_⟩; (conv => whnf)))))
      refine brec ?_; intro c_ h2; (try rw [h2]); cases c_
      · ((conv => whnf); (repeat (first | (intro b_ hb_; (conv => whnf)) | (refine ⟨_, _, _, _, (by first | exact .here _ _ _ | exact .there _ _ _ _ _ (.here _ _ _) | exact .there _ _ _ _ _ (.there _ _ _ _ _ (.here _ _ _)) | exact .there _ _ _ _ _ (.there _ _ _ _ _ (.there _ _ _ _ _ (.here _ _ _)))), ?_⟩; (conv => whnf)))))
        refine ⟨i + 1, ⟨hlt, ?_⟩, by dsimp only; omega, ⟨rfl, rfl, rfl, ?_, trivial⟩, ⟨_, .refl _⟩⟩
        · rw [hsn, hw, h1, h2]; rfl
        · show PV.int .i64 (IntKind.i64.wrap _) = _
          rw [wrap_i64 (by omega) (by omega)]; simp
      · ((conv => whnf); (repeat (first | (intro b_ hb_; (conv => whnf)) | (refine ⟨_, _, _, _, (by first | exact .here _ _ _ | exact .there _ _ _ _ _ (.here _ _ _) | exact .there _ _ _ _ _ (.there _ _ _ _ _ (.here _ _ _)) | exact .there _ _ _ _ _ (.there _ _ _ _ _ (.there _ _ _ _ _ (.here _ _ _)))), ?_⟩; (conv => whnf)))))
        rw [hof (of_decide_eq_true h1) (of_decide_eq_true h2)]
        exact .refl _
def noneS : List (Int × Int) := [(0, 31), (127, 159), (768, 879), (8203, 8207), (8232, 8238), (8400, 8447), (55296, 57343), (65024, 65039), (65279, 65279)]
def wideS : List (Int × Int) := [(4352, 4447), (11904, 12350), (12353, 13311), (13312, 19903), (19968, 40959), (40960, 42191), (44032, 55203), (63744, 64255), (65072, 65135), (65280, 65376), (65504, 65510), (127744, 128591), (129280, 129535), (131072, 262141)]
theorem none_ok (r : Int) : Pure Tryd.prog W 93 [.int .i32 r] (.bool (withinL r noneS)) := by
  refine Pure.of (acalls_of_vc (drawOk W) Tryd.func93 rfl (by decide) (by decide) rfl ?_)
  ((conv => whnf); (repeat (first | (intro b_ hb_; (conv => whnf)) | (refine ⟨_, _, _, _, (by first | exact .here _ _ _ | exact .there _ _ _ _ _ (.here _ _ _) | exact .there _ _ _ _ _ (.there _ _ _ _ _ (.here _ _ _)) | exact .there _ _ _ _ _ (.there _ _ _ _ _ (.there _ _ _ _ _ (.here _ _ _)))), ?_⟩; (conv => whnf)))))
  refine .inl ?_
  ((conv => whnf); (repeat (first | (intro b_ hb_; (conv => whnf)) | (refine ⟨_, _, _, _, (by first | exact .here _ _ _ | exact .there _ _ _ _ _ (.here _ _ _) | exact .there _ _ _ _ _ (.there _ _ _ _ _ (.here _ _ _)) | exact .there _ _ _ _ _ (.there _ _ _ _ _ (.there _ _ _ _ _ (.here _ _ _)))), ?_⟩; (conv => whnf)))))
  refine (within_ok W r noneS (by decide)).use ?_
  ((conv => whnf); (repeat (first | (intro b_ hb_; (conv => whnf)) | (refine ⟨_, _, _, _, (by first | exact .here _ _ _ | exact .there _ _ _ _ _ (.here _ _ _) | exact .there _ _ _ _ _ (.there _ _ _ _ _ (.here _ _ _)) | exact .there _ _ _ _ _ (.there _ _ _ _ _ (.there _ _ _ _ _ (.here _ _ _)))), ?_⟩; (conv => whnf)))))
  exact .refl _
theorem wideR_ok (r : Int) : Pure Tryd.prog W 94 [.int .i32 r] (.bool (withinL r wideS)) := by
  refine Pure.of (acalls_of_vc (drawOk W) Tryd.func94 rfl (by decide) (by decide) rfl ?_)
  ((conv => whnf); (repeat (first | (intro b_ hb_; (conv => whnf)) | (refine ⟨_, _, _, _, (by first | exact .here _ _ _ | exact .there _ _ _ _ _ (.here _ _ _) | exact .there _ _ _ _ _ (.there _ _ _ _ _ (.here _ _ _)) | exact .there _ _ _ _ _ (.there _ _ _ _ _ (.there _ _ _ _ _ (.here _ _ _)))), ?_⟩; (conv => whnf)))))
  refine .inl ?_
  ((conv => whnf); (repeat (first | (intro b_ hb_; (conv => whnf)) | (refine ⟨_, _, _, _, (by first | exact .here _ _ _ | exact .there _ _ _ _ _ (.here _ _ _) | exact .there _ _ _ _ _ (.there _ _ _ _ _ (.here _ _ _)) | exact .there _ _ _ _ _ (.there _ _ _ _ _ (.there _ _ _ _ _ (.here _ _ _)))), ?_⟩; (conv => whnf)))))
  refine (within_ok W r wideS (by decide)).use ?_
  ((conv => whnf); (repeat (first | (intro b_ hb_; (conv => whnf)) | (refine ⟨_, _, _, _, (by first | exact .here _ _ _ | exact .there _ _ _ _ _ (.here _ _ _) | exact .there _ _ _ _ _ (.there _ _ _ _ _ (.here _ _ _)) | exact .there _ _ _ _ _ (.there _ _ _ _ _ (.there _ _ _ _ _ (.here _ _ _)))), ?_⟩; (conv => whnf)))))
  exact .refl _
/-- How many cells a rune takes. -/
def widthL (r : Int) : Nat := if r < 0 ∨ 1114111 < r ∨ withinL r noneS = true then 0 else if withinL r wideS = true then 2 else 1
theorem widthL_le (r : Int) : widthL r ≤ 2 := by unfold widthL; (repeat' split) <;> omega
theorem width_ok (r : Int) : Pure Tryd.prog W 30 [.int .i32 r] (.int .i64 (widthL r)) := by
  refine Pure.of (acalls_of_vc (drawOk W) Tryd.func30 rfl (by decide) (by decide) rfl ?_)
  ((conv => whnf); (repeat (first | (intro b_ hb_; (conv => whnf)) | (refine ⟨_, _, _, _, (by first | exact .here _ _ _ | exact .there _ _ _ _ _ (.here _ _ _) | exact .there _ _ _ _ _ (.there _ _ _ _ _ (.here _ _ _)) | exact .there _ _ _ _ _ (.there _ _ _ _ _ (.there _ _ _ _ _ (.here _ _ _)))), ?_⟩; (conv => whnf)))))
  refine brec ?_; intro c_ h1; (try rw [h1]); cases c_
  · have h1 : ¬ r < 0 := of_decide_eq_false h1
    ((conv => whnf); (repeat (first | (intro b_ hb_; (conv => whnf)) | (refine ⟨_, _, _, _, (by first | exact .here _ _ _ | exact .there _ _ _ _ _ (.here _ _ _) | exact .there _ _ _ _ _ (.there _ _ _ _ _ (.here _ _ _)) | exact .there _ _ _ _ _ (.there _ _ _ _ _ (.there _ _ _ _ _ (.here _ _ _)))), ?_⟩; (conv => whnf)))))
    refine brec ?_; intro c_ h2; (try rw [h2]); cases c_
    · have h2 : ¬ 1114111 < r := of_decide_eq_false h2
      ((conv => whnf); (repeat (first | (intro b_ hb_; (conv => whnf)) | (refine ⟨_, _, _, _, (by first | exact .here _ _ _ | exact .there _ _ _ _ _ (.here _ _ _) | exact .there _ _ _ _ _ (.there _ _ _ _ _ (.here _ _ _)) | exact .there _ _ _ _ _ (.there _ _ _ _ _ (.there _ _ _ _ _ (.here _ _ _)))), ?_⟩; (conv => whnf)))))
      refine (none_ok W r).use ?_
      ((conv => whnf); (repeat (first | (intro b_ hb_; (conv => whnf)) | (refine ⟨_, _, _, _, (by first | exact .here _ _ _ | exact .there _ _ _ _ _ (.here _ _ _) | exact .there _ _ _ _ _ (.there _ _ _ _ _ (.here _ _ _)) | exact .there _ _ _ _ _ (.there _ _ _ _ _ (.there _ _ _ _ _ (.here _ _ _)))), ?_⟩; (conv => whnf)))))
      refine brec ?_; intro c_ h3; (try rw [h3]); cases c_
      · ((conv => whnf); (repeat (first | (intro b_ hb_; (conv => whnf)) | (refine ⟨_, _, _, _, (by first | exact .here _ _ _ | exact .there _ _ _ _ _ (.here _ _ _) | exact .there _ _ _ _ _ (.there _ _ _ _ _ (.here _ _ _)) | exact .there _ _ _ _ _ (.there _ _ _ _ _ (.there _ _ _ _ _ (.here _ _ _)))), ?_⟩; (conv => whnf)))))
        refine (wideR_ok W r).use ?_
        ((conv => whnf); (repeat (first | (intro b_ hb_; (conv => whnf)) | (refine ⟨_, _, _, _, (by first | exact .here _ _ _ | exact .there _ _ _ _ _ (.here _ _ _) | exact .there _ _ _ _ _ (.there _ _ _ _ _ (.here _ _ _)) | exact .there _ _ _ _ _ (.there _ _ _ _ _ (.there _ _ _ _ _ (.here _ _ _)))), ?_⟩; (conv => whnf)))))
        refine brec ?_; intro c_ h4; (try rw [h4]); cases c_
        · ((conv => whnf); (repeat (first | (intro b_ hb_; (conv => whnf)) | (refine ⟨_, _, _, _, (by first | exact .here _ _ _ | exact .there _ _ _ _ _ (.here _ _ _) | exact .there _ _ _ _ _ (.there _ _ _ _ _ (.here _ _ _)) | exact .there _ _ _ _ _ (.there _ _ _ _ _ (.there _ _ _ _ _ (.here _ _ _)))), ?_⟩; (conv => whnf)))))
          rw [show widthL r = 1 by simp [widthL, h1, h2, h3, h4]]
          exact .refl _
        · ((conv => whnf); (repeat (first | (intro b_ hb_; (conv => whnf)) | (refine ⟨_, _, _, _, (by first | exact .here _ _ _ | exact .there _ _ _ _ _ (.here _ _ _) | exact .there _ _ _ _ _ (.there _ _ _ _ _ (.here _ _ _)) | exact .there _ _ _ _ _ (.there _ _ _ _ _ (.there _ _ _ _ _ (.here _ _ _)))), ?_⟩; (conv => whnf)))))
          rw [show widthL r = 2 by simp [widthL, h1, h2, h3, h4]]
          exact .refl _
      · ((conv => whnf); (repeat (first | (intro b_ hb_; (conv => whnf)) | (refine ⟨_, _, _, _, (by first | exact .here _ _ _ | exact .there _ _ _ _ _ (.here _ _ _) | exact .there _ _ _ _ _ (.there _ _ _ _ _ (.here _ _ _)) | exact .there _ _ _ _ _ (.there _ _ _ _ _ (.there _ _ _ _ _ (.here _ _ _)))), ?_⟩; (conv => whnf)))))
        rw [show widthL r = 0 by simp [widthL, h3]]
        exact .refl _
    · have h2 : 1114111 < r := of_decide_eq_true h2
      ((conv => whnf); (repeat (first | (intro b_ hb_; (conv => whnf)) | (refine ⟨_, _, _, _, (by first | exact .here _ _ _ | exact .there _ _ _ _ _ (.here _ _ _) | exact .there _ _ _ _ _ (.there _ _ _ _ _ (.here _ _ _)) | exact .there _ _ _ _ _ (.there _ _ _ _ _ (.there _ _ _ _ _ (.here _ _ _)))), ?_⟩; (conv => whnf)))))
      rw [show widthL r = 0 by simp [widthL, h2]]
      exact .refl _
  · have h1 : r < 0 := of_decide_eq_true h1
    ((conv => whnf); (repeat (first | (intro b_ hb_; (conv => whnf)) | (refine ⟨_, _, _, _, (by first | exact .here _ _ _ | exact .there _ _ _ _ _ (.here _ _ _) | exact .there _ _ _ _ _ (.there _ _ _ _ _ (.here _ _ _)) | exact .there _ _ _ _ _ (.there _ _ _ _ _ (.there _ _ _ _ _ (.here _ _ _)))), ?_⟩; (conv => whnf)))))
    rw [show widthL r = 0 by simp [widthL, h1]]
    exact .refl _
end Go.Eng.YtcckeeappgnebaaDoor
