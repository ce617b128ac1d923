/- Texts put together: RecL. -/
import Derived.Test.YtbaokhehnilneaaDoorMRA
import Derived.Test.YtbaokhehnilneaaDoorMH1
import Derived.WideLaws
/- What recordings ask of the library: strings.Split, Cut, Count at one byte, strconv.Atoi, strconv.ParseUint. -/
section
namespace Go.Eng.YtbaokhehnilneaaDoor
open Go Go.Eng Go.Proofs Go.RowKit
variable (W : World)
set_option linter.unusedSimpArgs false
set_option maxRecDepth 100000
set_option linter.unusedVariables false
set_option maxHeartbeats 4000000
abbrev MaxJ (W : World) : Prop := ∃ m, W.cell? ⟨0, 0, none⟩ = some (.int .i64 m)
abbrev ErrJ (W : World) : Prop := (∃ t p, W.cell? ⟨3, 0, none⟩ = some (.iface t p)) ∧ ∃ t p, W.cell? ⟨4, 0, none⟩ = some (.iface t p)
/-- The error beside a number: nil, or one of which nothing is told. -/
def errP (b : Bool) : PV := if b then .lit .nilIface else .ifc 97 .dead
def isOk {α : Type} : Lib.NumEnd α → Bool
  | .ok _ => true
  | _ => false
end Go.Eng.YtbaokhehnilneaaDoor
end
