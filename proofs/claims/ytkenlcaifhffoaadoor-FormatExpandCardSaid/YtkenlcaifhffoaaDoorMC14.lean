/- Texts put together: CloseFmt. -/
import Derived.Test.YtkenlcaifhffoaaDoorMC7
/- What the statements of formats stand on: the tables of package unicode/utf8 out of the row's list. -/
section
set_option linter.unusedSimpArgs false
set_option maxRecDepth 100000
namespace Go.Proofs.YtkenlcaifhffoaaDoor
open Go Go.Eng Go.ChangeShapes Go.WideShapes Go.ChangeAt Go.RowKit Go.Shelf
theorem tabsR_of {W : World} (hL : laidMetH Tryd.prog recsLaid W) : Eng.YtkenlcaifhffoaaDoor.Tabs W := by
  replace hL : laidMet Tryd.prog recsLaid W := (MakeChecks.laidMetH_plain Tryd.prog recsLaid W (by kernel_rfl)).mp hL
  have h1 := Lib.laidMet.reads hL (.tail _ (.tail _ (.tail _ (.head _))))
  have h2 := Lib.laidMet.reads hL (.tail _ (.tail _ (.tail _ (.tail _ (.tail _ (.tail _ (.head _)))))))
  rw [accept_eq] at h1
  rw [first_eq] at h2
  exact utf8Tabs_of_reads Tryd.lays260 ⟨by kernel_rfl, by kernel_rfl, by kernel_rfl, by kernel_rfl, by kernel_rfl, by kernel_rfl, by kernel_rfl⟩ h2 h1
end Go.Proofs.YtkenlcaifhffoaaDoor
end
