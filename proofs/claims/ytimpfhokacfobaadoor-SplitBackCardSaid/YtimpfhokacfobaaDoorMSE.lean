/- Texts put together: Spl16. -/
import Derived.Test.YtimpfhokacfobaaDoorMSA
import Derived.Test.YtimpfhokacfobaaDoorMSD
import Derived.Test.YtimpfhokacfobaaDoorMSB
/- The law SplitEven (b_ x_ q_ e_). -/
section
namespace Go.Eng.YtimpfhokacfobaaDoor
open Go Go.Eng Go.Proofs
variable (W : World)
set_option linter.unusedSimpArgs false
set_option maxRecDepth 100000
set_option linter.unusedVariables false
set_option maxHeartbeats 4000000
def zeroV : PV := .agg [.int .i64 0, .int .i64 0, .int .i64 0, .sl 4 []]
end Go.Eng.YtimpfhokacfobaaDoor
end
