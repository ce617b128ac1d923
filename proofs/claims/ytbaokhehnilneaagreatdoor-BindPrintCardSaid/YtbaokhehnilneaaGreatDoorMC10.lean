/- Texts put together: CloseKey. -/
import Derived.Test.YtbaokhehnilneaaGreatDoorMC7
import Derived.Test.YtbaokhehnilneaaGreatDoorMKY3
/- What the statements of keys stand on: the tables and the two errors of strconv out of the row's list. -/
section
set_option linter.unusedSimpArgs false
set_option maxRecDepth 100000
namespace Go.Proofs.YtbaokhehnilneaaGreatDoor
open Go Go.Eng Go.ChangeShapes Go.WideShapes Go.ChangeAt Go.RowKit Go.Shelf
theorem keyz_of {W : World} (hL : laidMetH Tryz.prog recsLaid W) : Eng.YtbaokhehnilneaaGreatDoor.Keyz W := by
  have hr := recs_of hL
  replace hL : laidMet Tryz.prog recsLaid W := (MakeChecks.laidMetH_plain Tryz.prog recsLaid W (by kernel_rfl)).mp hL
  refine ⟨?_, hr.1, hr.2⟩
  have h1 := Lib.laidMet.reads hL (.tail _ (.tail _ (.tail _ (.head _))))
  have h2 := Lib.laidMet.reads hL (.tail _ (.tail _ (.tail _ (.tail _ (.tail _ (.tail _ (.head _)))))))
  rw [accept_eq] at h1
  rw [first_eq] at h2
  exact utf8Tabs_of_reads Tryz.lays260 ⟨by kernel_rfl, by kernel_rfl, by kernel_rfl, by kernel_rfl, by kernel_rfl, by kernel_rfl, by kernel_rfl⟩ h2 h1
end Go.Proofs.YtbaokhehnilneaaGreatDoor
end
