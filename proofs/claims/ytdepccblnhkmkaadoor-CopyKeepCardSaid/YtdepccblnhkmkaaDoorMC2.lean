/- Texts put together: CloseMax. -/
import Derived.Test.YtdepccblnhkmkaaDoorMC1
import Derived.Test.YtdepccblnhkmkaaDoorMP7
/- What the statements that reach strings.Index stand on beside the tables: internal/bytealg.MaxLen holds some number. -/
section
namespace Go.Proofs.YtdepccblnhkmkaaDoor
open Go Go.Eng
theorem max_of {W : World} (h : W.ShapedOpen Tryd.prog) : Eng.YtdepccblnhkmkaaDoor.MaxI W := Tryd.laysM155.s1_3 W h
end Go.Proofs.YtdepccblnhkmkaaDoor
end
