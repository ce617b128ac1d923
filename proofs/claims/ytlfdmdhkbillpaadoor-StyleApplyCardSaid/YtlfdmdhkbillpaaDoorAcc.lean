/- A slice that grows: nil, or a row of the call's own. -/
import Derived.Test.YtlfdmdhkbillpaaDoorBase
namespace Go.Eng.YtlfdmdhkbillpaaDoor
open Go Go.Eng Go.Proofs
def accV (b sz : Nat) : List PV → PV
  | [] => .nils
  | _ :: l => .rsl b sz 0 (l.length + 1)
def accM (b sz : Nat) : List PV → Mem
  | [] => []
  | x :: l => [⟨b, .row sz (x :: l) 0⟩]
theorem frz_of_acc {σ : Mem} {b sz : Nat} {l : List PV} (h : l ≠ [] → ∃ r, Look σ b (.row sz l 0) r) : Frz σ (accV b sz l) (.sl sz l) := by
  cases l with
  | nil => exact .nils sz
  | cons x l =>
    obtain ⟨r, h⟩ := h (by simp)
    exact .rsl b sz 0 _ (x :: l) (x :: l) 0 r h (by simp) (by simp) fun j hj => by rw [Nat.zero_add]; exact .refl _
theorem frz_row {σ r : Mem} {b sz fz : Nat} {l : List PV} (h : Look σ b (.row sz l fz) r) (n : Nat) (hn : n = l.length) : Frz σ (.rsl b sz 0 n) (.sl sz l) := by
  subst hn
  exact .rsl b sz 0 _ l l fz r h (by simp) rfl fun j hj => by rw [Nat.zero_add]; exact .refl _
theorem frz_tup2 {σ : Mem} {a b a' b' : PV} (h1 : Frz σ a a') (h2 : Frz σ b b') : Frz σ (.tup [a, b]) (.tup [a', b']) :=
  .tup _ _ rfl fun j hj => by
    match j, hj with
    | 0, _ => exact h1
    | 1, _ => exact h2
end Go.Eng.YtlfdmdhkbillpaaDoor
