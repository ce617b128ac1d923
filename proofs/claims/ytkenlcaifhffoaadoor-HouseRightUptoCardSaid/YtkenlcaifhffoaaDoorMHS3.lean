/- Texts put together: HseD, HseE. -/
import Derived.Test.YtkenlcaifhffoaaDoorMHS1
import Derived.Test.YtkenlcaifhffoaaDoorMH1
import Derived.Lib.IndexAny
import Derived.Test.YtkenlcaifhffoaaDoorMSE
/- Houses: the document's names (b_ x_ q_ e_). -/
section
namespace Go.Eng.YtkenlcaifhffoaaDoor
open Go Go.Eng Go.Proofs
variable (W : World)
set_option linter.unusedSimpArgs false
set_option maxRecDepth 100000
set_option linter.unusedVariables false
set_option maxHeartbeats 4000000
end Go.Eng.YtkenlcaifhffoaaDoor
end

/- Houses: the document's check (b_ x_ q_ e_). -/
section
namespace Go.Eng.YtkenlcaifhffoaaDoor
open Go Go.Eng Go.Proofs
variable (W : World)
set_option linter.unusedSimpArgs false
set_option maxRecDepth 100000
set_option linter.unusedVariables false
set_option maxHeartbeats 8000000
end Go.Eng.YtkenlcaifhffoaaDoor
end
