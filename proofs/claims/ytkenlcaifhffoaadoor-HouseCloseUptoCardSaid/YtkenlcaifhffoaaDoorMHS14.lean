/- Texts put together: Hs9. -/
import Derived.Test.YtkenlcaifhffoaaDoorMHS10
import Derived.Test.YtkenlcaifhffoaaDoorMHS13
/- Houses: what a new window is to be, what is to be shown; the law HouseWindow (b_ x_ q_ e_). -/
section
namespace Go.Eng.YtkenlcaifhffoaaDoor
open Go Go.Eng Go.Proofs
variable (W : World)
set_option linter.unusedSimpArgs false
set_option maxRecDepth 100000
set_option linter.unusedVariables false
set_option maxHeartbeats 8000000
end Go.Eng.YtkenlcaifhffoaaDoor
end
