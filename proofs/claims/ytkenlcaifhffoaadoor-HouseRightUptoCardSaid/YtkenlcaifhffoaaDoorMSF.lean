/- Texts put together: Spl17. -/
import Derived.Test.YtkenlcaifhffoaaDoorMSB
/- Splits: a copy of the call's own (b_ x_ q_ e_). -/
section
namespace Go.Eng.YtkenlcaifhffoaaDoor
open Go Go.Eng Go.Proofs
variable (W : World)
set_option linter.unusedSimpArgs false
set_option maxRecDepth 100000
set_option linter.unusedVariables false
set_option maxHeartbeats 4000000
def splsV (l : List Spl) : List PV := l.map encSpl
theorem spls_all (l : List Spl) : (splsV l).all cellsB = true := by
  rw [List.all_eq_true]
  intro v hv
  obtain ⟨⟨w, p, s, ks⟩, -, rfl⟩ := List.mem_map.1 hv
  rw [encSpl_mk]
  simp [cellsB, PV.flat, cellB]
end Go.Eng.YtkenlcaifhffoaaDoor
end
