/- Texts put together: Scr5. -/
import Derived.Test.YtgpkedepboenpaaDoorMW1
/- Screens of the call's own: rows that scroll down. -/
section
namespace Go.Eng.YtgpkedepboenpaaDoor
open Go Go.Eng Go.Proofs
variable (W : World)
set_option linter.unusedSimpArgs false
set_option maxRecDepth 100000
set_option linter.unusedVariables false
set_option maxHeartbeats 8000000
end Go.Eng.YtgpkedepboenpaaDoor
end
