/- Texts put together: Spl17. -/
import Derived.Test.YtmodblkagimhlaaDoorMSB
/- Splits: a copy of the call's own (b_ x_ q_ e_). -/
section
namespace Go.Eng.YtmodblkagimhlaaDoor
open Go Go.Eng Go.Proofs
variable (W : World)
set_option linter.unusedSimpArgs false
set_option maxRecDepth 100000
set_option linter.unusedVariables false
set_option maxHeartbeats 4000000
def splsV (l : List Spl) : List PV := l.map encSpl
end Go.Eng.YtmodblkagimhlaaDoor
end
