/- Texts put together: FullR. -/
import Derived.Test.YtbaokhehnilneaaGreatDoorMQ1
import Derived.Test.YtbaokhehnilneaaGreatDoorME10
/- utf8.FullRuneInString, from its text (b_ x_ q_ e_). -/
section
namespace Go.Eng.YtbaokhehnilneaaGreatDoor
open Go Go.Eng Go.Proofs
variable (W : World)
set_option linter.unusedSimpArgs false
set_option maxRecDepth 100000
set_option linter.unusedVariables false
set_option maxHeartbeats 8000000
end Go.Eng.YtbaokhehnilneaaGreatDoor
end
