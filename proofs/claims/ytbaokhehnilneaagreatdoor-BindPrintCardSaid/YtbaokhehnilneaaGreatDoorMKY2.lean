/- Texts put together: Key3, Key4. -/
import Derived.Test.YtbaokhehnilneaaGreatDoorMKY1
import Derived.Test.YtbaokhehnilneaaGreatDoorME9
import Derived.Test.YtbaokhehnilneaaGreatDoorME3
/- Keys: sequences, the first key, all keys (b_ x_ q_ e_). -/
section
namespace Go.Eng.YtbaokhehnilneaaGreatDoor
open Go Go.Eng Go.Proofs
variable (W : World)
set_option linter.unusedSimpArgs false
set_option maxRecDepth 100000
set_option linter.unusedVariables false
set_option maxHeartbeats 8000000
end Go.Eng.YtbaokhehnilneaaGreatDoor
end

/- Keys: the first key, all keys (b_ x_ q_ e_). -/
section
namespace Go.Eng.YtbaokhehnilneaaGreatDoor
open Go Go.Eng Go.Proofs
variable (W : World)
set_option linter.unusedSimpArgs false
set_option maxRecDepth 100000
set_option linter.unusedVariables false
set_option maxHeartbeats 8000000
/-- All keys, and what is left. -/
def readA (last : Bool) (b : List UInt8) : List Key × List UInt8 := readK last b.length b
end Go.Eng.YtbaokhehnilneaaGreatDoor
end
