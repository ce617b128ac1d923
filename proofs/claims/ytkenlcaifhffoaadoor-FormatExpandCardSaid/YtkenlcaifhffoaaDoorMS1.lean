/- Texts put together: Itoa. -/
import Derived.Test.YtkenlcaifhffoaaDoorME3
import Derived.Test.YtkenlcaifhffoaaDoorMH1
import Derived.Lib.ItoaLen
/- strconv.Itoa. -/
section
namespace Go.Eng.YtkenlcaifhffoaaDoor
open Go Go.Eng Go.Proofs
variable (W : World)
set_option linter.unusedSimpArgs false
set_option maxRecDepth 100000
set_option linter.unusedVariables false
set_option maxHeartbeats 4000000
abbrev Nums (W : World) : Prop := Lib.TabIs Tryd.prog W "internal/strconv.uint64pow10" .u64 Lib.pow10Tab
end Go.Eng.YtkenlcaifhffoaaDoor
end
