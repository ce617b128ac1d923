/- Texts put together: Cell. -/
import Derived.Test.YtbaokhehnilneaaGreatDoorMS1
import Derived.Test.YtbaokhehnilneaaGreatDoorME3
/- Cells: compared, copied. -/
section
namespace Go.Eng.YtbaokhehnilneaaGreatDoor
open Go Go.Eng Go.Proofs
variable (W : World)
set_option linter.unusedSimpArgs false
set_option maxRecDepth 100000
set_option linter.unusedVariables false
set_option maxHeartbeats 4000000
structure Cell where
  r : Int
  s : Style
  deriving DecidableEq
def i32ok (n : Int) : Prop := -2147483648 ≤ n ∧ n ≤ 2147483647
def Cell.ok (c : Cell) : Prop := i32ok c.r ∧ c.s.ok
def encCell (c : Cell) : PV := .agg [.int .i32 c.r, .int .i64 c.s.fore, .int .i64 c.s.back, .int .i64 c.s.bits]
def litsCell (c : Cell) : List Lit := .int .i32 c.r :: litsStyle c.s
def encCells (l : List Cell) : PV := .sl 4 (l.map encCell)
end Go.Eng.YtbaokhehnilneaaGreatDoor
end
