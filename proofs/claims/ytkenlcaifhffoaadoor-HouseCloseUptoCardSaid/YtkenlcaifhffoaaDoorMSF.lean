/- Texts put together: Spl17, Spl18, Spl19. -/
import Derived.Test.YtkenlcaifhffoaaDoorMSB
import Derived.Test.YtkenlcaifhffoaaDoorMSD
/- Splits: a copy of the call's own (b_ x_ q_ e_). -/
section
namespace Go.Eng.YtkenlcaifhffoaaDoor
open Go Go.Eng Go.Proofs
variable (W : World)
set_option linter.unusedSimpArgs false
set_option maxRecDepth 100000
set_option linter.unusedVariables false
set_option maxHeartbeats 4000000
def splsV (l : List Spl) : List PV := l.map encSpl
theorem spls_all (l : List Spl) : (splsV l).all cellsB = true := by
  rw [List.all_eq_true]
  intro v hv
  obtain ⟨⟨w, p, s, ks⟩, -, rfl⟩ := List.mem_map.1 hv
  rw [encSpl_mk]
  simp [cellsB, PV.flat, cellB]
end Go.Eng.YtkenlcaifhffoaaDoor
end

/- Splits: least cells, as told and as the document has them (b_ x_ q_ e_). -/
section
namespace Go.Eng.YtkenlcaifhffoaaDoor
open Go Go.Eng Go.Proofs
variable (W : World)
set_option linter.unusedSimpArgs false
set_option maxRecDepth 100000
set_option linter.unusedVariables false
set_option maxHeartbeats 4000000
def leastR (t : Spl) : Int × Int × Int := if (visS t 0 (0, [])).1 ≠ 0 then (0, 0, (visS t 0 (0, [])).1) else ((leastT t).1, (leastT t).2, 0)
def acrossF (w : Int) (c : Int) (l : List Spl) : Int := l.foldl (fun a k => max a (acrossT w (leastT k))) c
end Go.Eng.YtkenlcaifhffoaaDoor
end

/- Splits: the document's LayOut (b_ x_ q_ e_). -/
section
namespace Go.Eng.YtkenlcaifhffoaaDoor
open Go Go.Eng Go.Proofs
variable (W : World)
set_option linter.unusedSimpArgs false
set_option maxRecDepth 100000
set_option linter.unusedVariables false
set_option maxHeartbeats 4000000
end Go.Eng.YtkenlcaifhffoaaDoor
end
