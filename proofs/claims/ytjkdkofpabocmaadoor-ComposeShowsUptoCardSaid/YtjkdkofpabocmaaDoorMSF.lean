/- Texts put together: Spl17, Spl18, Spl19. -/
import Derived.Test.YtjkdkofpabocmaaDoorMSB
import Derived.Test.YtjkdkofpabocmaaDoorMSD
/- Splits: a copy of the call's own (b_ x_ q_ e_). -/
section
namespace Go.Eng.YtjkdkofpabocmaaDoor
open Go Go.Eng Go.Proofs
variable (W : World)
set_option linter.unusedSimpArgs false
set_option maxRecDepth 100000
set_option linter.unusedVariables false
set_option maxHeartbeats 4000000
def splsV (l : List Spl) : List PV := l.map encSpl
theorem spls_all (l : List Spl) : (splsV l).all cellsB = true := by
  rw [List.all_eq_true]
  intro v hv
  obtain ⟨⟨w, p, s, ks⟩, -, rfl⟩ := List.mem_map.1 hv
  rw [encSpl_mk]
  simp [cellsB, PV.flat, cellB]
end Go.Eng.YtjkdkofpabocmaaDoor
end

/- Splits: least cells, as told and as the document has them (b_ x_ q_ e_). -/
section
namespace Go.Eng.YtjkdkofpabocmaaDoor
open Go Go.Eng Go.Proofs
variable (W : World)
set_option linter.unusedSimpArgs false
set_option maxRecDepth 100000
set_option linter.unusedVariables false
set_option maxHeartbeats 4000000
def leastR (t : Spl) : Int × Int × Int := if (visS t 0 (0, [])).1 ≠ 0 then (0, 0, (visS t 0 (0, [])).1) else ((leastT t).1, (leastT t).2, 0)
def acrossF (w : Int) (c : Int) (l : List Spl) : Int := l.foldl (fun a k => max a (acrossT w (leastT k))) c
theorem step_across (w : Int) (acc : Int × Int) (i : Nat) (ab : Int × Int) (hw : w = 1 ∨ w = 2) : acrossT w (stepW w acc i ab) = max (acrossT w acc) (acrossT w ab) := by
  unfold acrossT stepW
  rcases hw with rfl | rfl
  · simp
  · simp
theorem leastTs_across {w : Int} (hw : w = 1 ∨ w = 2) : ∀ (l : List Spl) (i : Nat) (acc : Int × Int), acrossT w (leastTs w l i acc) = acrossF w (acrossT w acc) l
  | [], i, acc => by rw [leastTs]; rfl
  | k :: l, i, acc => by rw [leastTs, leastTs_across hw l, step_across w acc i _ hw]; rfl
theorem least_two {w p s : Int} {ks : List Spl} (hw : w = 1 ∨ w = 2) (hne : ks ≠ []) : leastT (.mk w p s ks) = if w = 2 then (acrossF w 0 ks, sumL (ks.map (needK w)) + (ks.length - 1)) else (sumL (ks.map (needK w)) + (ks.length - 1), acrossF w 0 ks) := by
  have h1 := (least_sum (p := p) (s := s) hw hne).1
  have h2 := leastTs_across hw ks 0 (0, 0)
  rw [show acrossT w (0, 0) = 0 by unfold acrossT; split <;> rfl] at h2
  have h3 : acrossT w (leastT (.mk w p s ks)) = acrossF w 0 ks := by rw [leastT_mk, if_neg (by omega)]; exact h2
  unfold alongT at h1
  unfold acrossT at h3
  split <;> rename_i h
  · rw [if_pos h] at h1 h3
    exact Prod.ext h3 h1
  · rw [if_neg h] at h1 h3
    exact Prod.ext h1 h3
theorem needs_nonneg {w : Int} : ∀ {l : List Spl}, (∀ k ∈ l, 1 ≤ needK w k) → 0 ≤ sumL (l.map (needK w))
  | [], _ => by simp [sumL]
  | k :: l, h => by
    have h1 := h k (by simp)
    have h2 := needs_nonneg (l := l) fun x hx => h x (List.mem_cons_of_mem _ hx)
    simp only [sumL, List.map_cons, List.foldr_cons] at *
    omega
end Go.Eng.YtjkdkofpabocmaaDoor
end

/- Splits: the document's LayOut (b_ x_ q_ e_). -/
section
namespace Go.Eng.YtjkdkofpabocmaaDoor
open Go Go.Eng Go.Proofs
variable (W : World)
set_option linter.unusedSimpArgs false
set_option maxRecDepth 100000
set_option linter.unusedVariables false
set_option maxHeartbeats 4000000
end Go.Eng.YtjkdkofpabocmaaDoor
end
