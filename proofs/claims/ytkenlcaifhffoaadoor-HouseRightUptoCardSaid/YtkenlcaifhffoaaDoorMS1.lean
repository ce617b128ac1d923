/- Texts put together: Style, StyleEq. -/
import Derived.Test.YtkenlcaifhffoaaDoorME3
/- Styles: package style's Check, bits, Apply. -/
section
namespace Go.Eng.YtkenlcaifhffoaaDoor
open Go Go.Eng Go.Proofs
variable (W : World)
set_option linter.unusedSimpArgs false
set_option maxRecDepth 100000
set_option linter.unusedVariables false
set_option maxHeartbeats 4000000
structure Style where
  fore : Int
  back : Int
  bits : Int
  deriving DecidableEq
def encStyle (s : Style) : PV := .agg [.int .i64 s.fore, .int .i64 s.back, .int .i64 s.bits]
def Style.ok (s : Style) : Prop := i64ok s.fore ∧ i64ok s.back ∧ i64ok s.bits
def Style.none : Style := ⟨0, 0, 0⟩
def checkStyle (s : Style) : Bool := decide (0 ≤ s.fore) && decide (s.fore ≤ 256) && decide (0 ≤ s.back) && decide (s.back ≤ 256) && decide (0 ≤ s.bits) && decide (s.bits < 128)
def bitsF (n : Int) : Int × Int :=
  if n = 1 then (1, 0) else if n = 2 then (2, 0) else if n = 3 then (4, 0) else if n = 4 then (8, 0) else if n = 5 then (16, 0) else if n = 7 then (32, 0) else if n = 9 then (64, 0)
  else if n = 22 then (0, 3) else if n = 23 then (0, 4) else if n = 24 then (0, 8) else if n = 25 then (0, 16) else if n = 27 then (0, 32) else if n = 29 then (0, 64) else (0, 0)
def Style.mask (s : Style) (n : Int) : Style := { s with bits := bitop .or .i64 (bitop .andNot .i64 s.bits (bitsF n).2) (bitsF n).1 }
def Style.num (s : Style) (n : Int) : Style :=
  if n ≤ 0 then .none
  else if 30 ≤ n ∧ n ≤ 37 then { s with fore := n - 29 }
  else if n = 39 then { s with fore := 0 }
  else if 40 ≤ n ∧ n ≤ 47 then { s with back := n - 39 }
  else if n = 49 then { s with back := 0 }
  else if 90 ≤ n ∧ n ≤ 97 then { s with fore := n - 81 }
  else if 100 ≤ n ∧ n ≤ 107 then { s with back := n - 91 }
  else s
def Style.colour (s : Style) (n c : Int) : Style := if c < 0 ∨ 256 ≤ c then s else if n = 38 then { s with fore := c + 1 } else { s with back := c + 1 }
def applyL : Style → List Int → Style
  | s, [] => s
  | s, [n] => (s.mask n).num n
  | s, [n, m] => applyL ((s.mask n).num n) [m]
  | s, n :: m :: c :: r => if (n = 38 ∨ n = 48) ∧ m = 5 then applyL ((s.mask n).colour n c) r else applyL ((s.mask n).num n) (m :: c :: r)
def applyTo (s : Style) (l : List Int) : Style := if l = [] then .none else applyL s l
end Go.Eng.YtkenlcaifhffoaaDoor
end

/- Styles compared. -/
section
namespace Go.Eng.YtkenlcaifhffoaaDoor
open Go Go.Eng Go.Proofs
variable (W : World)
set_option linter.unusedSimpArgs false
set_option maxRecDepth 100000
set_option linter.unusedVariables false
set_option maxHeartbeats 4000000
instance (n : Int) : Decidable (i64ok n) := inferInstanceAs (Decidable (_ ∧ _))
instance (s : Style) : Decidable s.ok := inferInstanceAs (Decidable (_ ∧ _ ∧ _))
def litsStyle (s : Style) : List Lit := [.int .i64 s.fore, .int .i64 s.back, .int .i64 s.bits]
end Go.Eng.YtkenlcaifhffoaaDoor
end
