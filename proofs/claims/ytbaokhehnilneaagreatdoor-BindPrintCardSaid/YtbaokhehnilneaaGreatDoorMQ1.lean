/- Texts put together: ParseL. -/
import Derived.Test.YtbaokhehnilneaaGreatDoorMT1
import Derived.Lib.DecodeN
/- The reader of escape sequences: plain. -/
section
namespace Go.Eng.YtbaokhehnilneaaGreatDoor
open Go Go.Eng Go.Proofs
set_option linter.unusedSimpArgs false
set_option linter.unusedVariables false
/-! ### Runes that are whole -/
def gB (s : List UInt8) (i : Nat) : Nat := (s.getD i 0).toNat
/-- utf8.FullRuneInString. -/
def fullL (s : List UInt8) : Bool :=
  if s.length = 0 then false
  else if Lib.firstT (gB s 0) % 8 ≤ s.length then true
  else decide ((1 < s.length ∧ (gB s 1 < Lib.accLo (Lib.firstT (gB s 0) / 16) ∨ Lib.accHi (Lib.firstT (gB s 0) / 16) < gB s 1)) ∨ (2 < s.length ∧ (gB s 2 < 128 ∨ 191 < gB s 2)))
end Go.Eng.YtbaokhehnilneaaGreatDoor
end
