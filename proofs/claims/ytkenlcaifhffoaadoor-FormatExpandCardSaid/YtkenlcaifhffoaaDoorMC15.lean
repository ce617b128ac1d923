/- Texts put together: CloseFmt2. -/
import Derived.Test.YtkenlcaifhffoaaDoorMC14
/- What the statement on formats' texts stands on: the tables of package unicode/utf8 and the two errors out of the row's list. -/
section
set_option linter.unusedSimpArgs false
set_option maxRecDepth 100000
namespace Go.Proofs.YtkenlcaifhffoaaDoor
open Go Go.Eng Go.ChangeShapes Go.WideShapes Go.ChangeAt Go.RowKit Go.Shelf
abbrev _root_.Go.Eng.YtkenlcaifhffoaaDoor.Fmtz (W : World) : Prop := Eng.YtkenlcaifhffoaaDoor.Tabs W ∧ Eng.YtkenlcaifhffoaaDoor.ErrJ W
theorem fmtz_of {W : World} (hL : laidMetH Tryd.prog recsLaid W) : Eng.YtkenlcaifhffoaaDoor.Fmtz W := ⟨tabsR_of hL, (recs_of hL).2⟩
end Go.Proofs.YtkenlcaifhffoaaDoor
end
