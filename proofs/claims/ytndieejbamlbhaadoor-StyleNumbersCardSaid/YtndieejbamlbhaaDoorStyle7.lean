/- Any numbers are written as one command: StyleWrite. -/
import Derived.Test.YtndieejbamlbhaaDoorStyle6
namespace Go.Eng.YtndieejbamlbhaaDoor
open Go Go.Eng Go.Proofs
variable (W : World)
set_option linter.unusedSimpArgs false
set_option maxRecDepth 100000
set_option linter.unusedVariables false
set_option maxHeartbeats 4000000
theorem join_snoc (xs : List (List UInt8)) (y sep : List UInt8) (h : xs ≠ []) : Lib.join (xs ++ [y]) sep = Lib.join xs sep ++ sep ++ y := by
  cases xs with
  | nil => exact absurd rfl h
  | cons x r => rw [List.cons_append, Lib.join_cons, Lib.join_cons]; simp [Lib.joinTail, List.append_assoc]
/-- What stands there behind so many numbers. -/
def wantL (l : List Int) (i : Nat) : List UInt8 := if i = 0 then [] else [27, 91] ++ Lib.join ((l.take i).map Lib.itoa) [59]
theorem wantL_first {l : List Int} {n : Int} (h : l[0]? = some n) : wantL l 0 ++ 27 :: 91 :: Lib.itoa n = wantL l 1 := by
  rw [wantL, wantL, if_pos rfl, if_neg (by omega), take_snoc_of h]; simp [Lib.join_one]
theorem wantL_next {l : List Int} {i : Nat} {n : Int} (h : l[i + 1]? = some n) : wantL l (i + 1) ++ 59 :: Lib.itoa n = wantL l (i + 1 + 1) := by
  have hlt := lt_of_at h
  symm
  rw [wantL, wantL, if_neg (by omega), if_neg (by omega), take_snoc_of h, List.map_append, List.map_cons, List.map_nil, join_snoc _ _ _ (by
    intro e
    have := congrArg List.length e
    rw [List.length_map, List.length_take, List.length_nil] at this; omega)]
  simp [List.append_assoc]
theorem wantL_le (l : List Int) (hi : ∀ n ∈ l, i64ok n) (i : Nat) : (wantL l i).length ≤ 22 * l.length + 2 := by
  unfold wantL
  split
  · simp
  · have := join_le (l.take i) (fun n hn => hi n (List.mem_of_mem_take hn))
    have : (l.take i).length ≤ l.length := by rw [List.length_take]; omega
    simp only [List.length_append, List.length_cons, List.length_nil]; omega
end Go.Eng.YtndieejbamlbhaaDoor
