/- Texts put together: CloseKey. -/
import Derived.Test.YtimpfhokacfobaaDoorMC7
import Derived.Test.YtimpfhokacfobaaDoorMKY3
/- What the statements of keys stand on: the tables and the two errors of strconv out of the row's list. -/
section
set_option linter.unusedSimpArgs false
set_option maxRecDepth 100000
namespace Go.Proofs.YtimpfhokacfobaaDoor
open Go Go.Eng Go.ChangeShapes Go.WideShapes Go.ChangeAt Go.RowKit Go.Shelf
theorem keyz_of {W : World} (hL : laidMetH Tryd.prog recsLaid W) : Eng.YtimpfhokacfobaaDoor.Keyz W := by
  have hr := recs_of hL
  replace hL : laidMet Tryd.prog recsLaid W := (MakeChecks.laidMetH_plain Tryd.prog recsLaid W (by kernel_rfl)).mp hL
  refine ⟨?_, hr.1, hr.2⟩
  have h1 := Lib.laidMet.reads hL (.tail _ (.tail _ (.tail _ (.head _))))
  have h2 := Lib.laidMet.reads hL (.tail _ (.tail _ (.tail _ (.tail _ (.tail _ (.tail _ (.head _)))))))
  rw [accept_eq] at h1
  rw [first_eq] at h2
  exact utf8Tabs_of_reads Tryd.lays260 ⟨by kernel_rfl, by kernel_rfl, by kernel_rfl, by kernel_rfl, by kernel_rfl, by kernel_rfl, by kernel_rfl⟩ h2 h1
end Go.Proofs.YtimpfhokacfobaaDoor
end
