/- Texts put together: GridX. -/
import Derived.Test.YtjkdkofpabocmaaDoorMG3
import Derived.Test.YtjkdkofpabocmaaDoorME5
/- The law GridPart. -/
section
namespace Go.Eng.YtjkdkofpabocmaaDoor
open Go Go.Eng Go.Proofs
variable (W : World)
set_option linter.unusedSimpArgs false
set_option maxRecDepth 100000
set_option linter.unusedVariables false
set_option maxHeartbeats 4000000
end Go.Eng.YtjkdkofpabocmaaDoor
end
