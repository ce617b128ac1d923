/- Texts put together: Spl20. -/
import Derived.Test.YtkenlcaifhffoaaDoorMSA
import Derived.Test.YtkenlcaifhffoaaDoorMSD
import Derived.Test.YtkenlcaifhffoaaDoorMSB
import Derived.Test.YtkenlcaifhffoaaDoorMSF
import Derived.Test.YtkenlcaifhffoaaDoorME3
/- The law SplitLay (b_ x_ q_ e_). -/
section
namespace Go.Eng.YtkenlcaifhffoaaDoor
open Go Go.Eng Go.Proofs
variable (W : World)
set_option linter.unusedSimpArgs false
set_option maxRecDepth 100000
set_option linter.unusedVariables false
set_option maxHeartbeats 4000000
theorem chk_eqL (t : Spl) : (visS t 0 (0, [])).1 = (chkT t 0 []).1 := (checks_agree t 0 [] (by decide)).1
theorem chk_panesL {t : Spl} (h : (chkT t 0 []).1 = 0) : (chkT t 0 []).2 = panesT t := by
  have := (chk_right t 0 [] h).2.1
  rwa [List.nil_append] at this
end Go.Eng.YtkenlcaifhffoaaDoor
end
