/- Texts put together: Spl16. -/
import Derived.Test.YtkenlcaifhffoaaDoorMSA
import Derived.Test.YtkenlcaifhffoaaDoorMSD
import Derived.Test.YtkenlcaifhffoaaDoorMSB
/- The law SplitEven (b_ x_ q_ e_). -/
section
namespace Go.Eng.YtkenlcaifhffoaaDoor
open Go Go.Eng Go.Proofs
variable (W : World)
set_option linter.unusedSimpArgs false
set_option maxRecDepth 100000
set_option linter.unusedVariables false
set_option maxHeartbeats 4000000
theorem zeroT_ok : zeroT.ok := by simp [zeroT, Spl.ok, Spls.ok, i64ok]
def zeroV : PV := .agg [.int .i64 0, .int .i64 0, .int .i64 0, .sl 4 []]
end Go.Eng.YtkenlcaifhffoaaDoor
end
