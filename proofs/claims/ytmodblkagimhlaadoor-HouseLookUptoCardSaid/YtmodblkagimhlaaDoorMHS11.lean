/- Texts put together: Hs3. -/
import Derived.Test.YtmodblkagimhlaaDoorMHS10
/- The law HouseSession (b_ x_ q_ e_). -/
section
namespace Go.Eng.YtmodblkagimhlaaDoor
open Go Go.Eng Go.Proofs
variable (W : World)
set_option linter.unusedSimpArgs false
set_option maxRecDepth 100000
set_option linter.unusedVariables false
set_option maxHeartbeats 8000000
end Go.Eng.YtmodblkagimhlaaDoor
end
