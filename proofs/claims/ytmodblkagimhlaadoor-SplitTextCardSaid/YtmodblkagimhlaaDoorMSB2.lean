/- Texts put together: Spl42. -/
import Derived.Test.YtmodblkagimhlaaDoorMSB1
import Derived.Test.YtmodblkagimhlaaDoorMSC
/- Splits: Parse of what is printed (b_ x_ q_ e_). -/
section
namespace Go.Eng.YtmodblkagimhlaaDoor
open Go Go.Eng Go.Proofs Go.RowKit
variable (W : World)
set_option linter.unusedSimpArgs false
set_option maxRecDepth 100000
set_option linter.unusedVariables false
set_option maxHeartbeats 4000000
end Go.Eng.YtmodblkagimhlaaDoor
end
