/- Texts put together: HseX, HseY, HseZ, Hs1, Hs2, Hs3. -/
import Derived.Test.YtkenlcaifhffoaaDoorMHS4
import Derived.Test.YtkenlcaifhffoaaDoorMSB
import Derived.Test.YtkenlcaifhffoaaDoorMHS5
import Derived.Test.YtkenlcaifhffoaaDoorMHS3
import Derived.Test.YtkenlcaifhffoaaDoorMHS7
/- Houses: the document's copy: its splits (b_ x_ q_ e_). -/
section
namespace Go.Eng.YtkenlcaifhffoaaDoor
open Go Go.Eng Go.Proofs
variable (W : World)
set_option linter.unusedSimpArgs false
set_option maxRecDepth 100000
set_option linter.unusedVariables false
set_option maxHeartbeats 4000000
end Go.Eng.YtkenlcaifhffoaaDoor
end

/- Houses: the document's copy (b_ x_ q_ e_). -/
section
namespace Go.Eng.YtkenlcaifhffoaaDoor
open Go Go.Eng Go.Proofs
variable (W : World)
set_option linter.unusedSimpArgs false
set_option maxRecDepth 100000
set_option linter.unusedVariables false
set_option maxHeartbeats 16000000
end Go.Eng.YtkenlcaifhffoaaDoor
end

/- Houses: the document's SameHouse, of a house and itself; noHouse (b_ x_ q_ e_). -/
section
namespace Go.Eng.YtkenlcaifhffoaaDoor
open Go Go.Eng Go.Proofs
variable (W : World)
set_option linter.unusedSimpArgs false
set_option maxRecDepth 100000
set_option linter.unusedVariables false
set_option maxHeartbeats 8000000
def litsVw (a : Vw) : List Lit := [.int .i64 a.s, .int .i64 a.w, .int .i64 a.h]
end Go.Eng.YtkenlcaifhffoaaDoor
end

/- Houses: what a call makes of one is what is to be made of it (b_ x_ q_ e_). -/
section
namespace Go.Eng.YtkenlcaifhffoaaDoor
open Go Go.Eng Go.Proofs
variable (W : World)
set_option linter.unusedSimpArgs false
set_option maxRecDepth 100000
set_option linter.unusedVariables false
set_option maxHeartbeats 16000000
def DoesTo (g : FuncId) (c : List PV) (h Y : Hs) (E : Int) : Prop :=
  ∀ b (x : OH), x.T = h → (x.o = none → x.views = []) → ACalls Tryd.prog W g (.bref b 0 :: c) (⟨b, .row 3 [x.V] 0⟩ :: x.M) fun v σ' => v = .int .i64 E ∧ (E = 0 → HsDone b Y σ')
end Go.Eng.YtkenlcaifhffoaaDoor
end

/- Houses: what a new session is to be, in the document (b_ x_ q_ e_). -/
section
namespace Go.Eng.YtkenlcaifhffoaaDoor
open Go Go.Eng Go.Proofs
variable (W : World)
set_option linter.unusedSimpArgs false
set_option maxRecDepth 100000
set_option linter.unusedVariables false
set_option maxHeartbeats 16000000
end Go.Eng.YtkenlcaifhffoaaDoor
end

/- The law HouseSession (b_ x_ q_ e_). -/
section
namespace Go.Eng.YtkenlcaifhffoaaDoor
open Go Go.Eng Go.Proofs
variable (W : World)
set_option linter.unusedSimpArgs false
set_option maxRecDepth 100000
set_option linter.unusedVariables false
set_option maxHeartbeats 8000000
end Go.Eng.YtkenlcaifhffoaaDoor
end
