/- Texts put together: Spl16. -/
import Derived.Test.YtmodblkagimhlaaDoorMSA
import Derived.Test.YtmodblkagimhlaaDoorMSD
import Derived.Test.YtmodblkagimhlaaDoorMSB
/- The law SplitEven (b_ x_ q_ e_). -/
section
namespace Go.Eng.YtmodblkagimhlaaDoor
open Go Go.Eng Go.Proofs
variable (W : World)
set_option linter.unusedSimpArgs false
set_option maxRecDepth 100000
set_option linter.unusedVariables false
set_option maxHeartbeats 4000000
theorem zeroT_ok : zeroT.ok := by simp [zeroT, Spl.ok, Spls.ok, i64ok]
def zeroV : PV := .agg [.int .i64 0, .int .i64 0, .int .i64 0, .sl 4 []]
theorem zeroV_eq : encSpl zeroT = zeroV := by rw [zeroT, encSpl_mk]; rfl
theorem chk_eq (t : Spl) : (visS t 0 (0, [])).1 = (chkT t 0 []).1 := (checks_agree t 0 [] (by decide)).1
end Go.Eng.YtmodblkagimhlaaDoor
end
