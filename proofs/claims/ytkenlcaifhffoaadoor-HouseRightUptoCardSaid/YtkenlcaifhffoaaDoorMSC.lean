/- Texts put together: Spl9, Spl10. -/
import Derived.Test.YtkenlcaifhffoaaDoorMSB
import Derived.Test.YtkenlcaifhffoaaDoorMSA
import Derived.Test.YtkenlcaifhffoaaDoorME10
import Derived.Test.YtkenlcaifhffoaaDoorMH1
/- Splits: a text of a split is read: next, number (b_ x_ q_ e_). -/
section
namespace Go.Eng
open Go
end Go.Eng
namespace Go.Eng.YtkenlcaifhffoaaDoor
open Go Go.Eng Go.Proofs Go.RowKit
variable (W : World)
set_option linter.unusedSimpArgs false
set_option maxRecDepth 100000
set_option linter.unusedVariables false
set_option maxHeartbeats 4000000
def rdM (b : Nat) (s : List UInt8) (at_ : Nat) : Blk := ⟨b, .row 2 [.agg [.str s, .int .i64 at_]] 0⟩
def nextN (s : List UInt8) (i : Nat) : Nat := ((s[i]?).map UInt8.toNat).getD 0
def SpOut (b : Nat) (s : List UInt8) (m : Nat) (k : Spl) : PV → Mem → Prop := fun v σ' => ∃ ρ', σ'.Perm ([rdM b s m] ++ ρ') ∧ Frz ρ' v (encSpl k)
end Go.Eng.YtkenlcaifhffoaaDoor
end

/- Splits: the text of parted, read (b_ x_ q_ e_). -/
section
namespace Go.Eng.YtkenlcaifhffoaaDoor
open Go Go.Eng Go.Proofs Go.RowKit
variable (W : World)
set_option linter.unusedSimpArgs false
set_option maxRecDepth 100000
set_option linter.unusedVariables false
set_option maxHeartbeats 4000000
def s0 : List UInt8 := [123, 49, 44, 91, 50, 44, 51, 93, 42, 50, 125]
def tree0 : Spl := .mk 1 0 1 [leafT 1, .mk 2 0 2 [leafT 2, leafT 3]]
def leafP (p : Int) : PV := .agg [.int .i64 0, .int .i64 p, .int .i64 1, .sl 4 []]
def tree0V : PV := .agg [.int .i64 1, .int .i64 0, .int .i64 1, .sl 4 [.agg [.int .i64 0, .int .i64 1, .int .i64 1, .sl 4 []], .agg [.int .i64 2, .int .i64 0, .int .i64 2, .sl 4 [.agg [.int .i64 0, .int .i64 2, .int .i64 1, .sl 4 []], .agg [.int .i64 0, .int .i64 3, .int .i64 1, .sl 4 []]]]]]
end Go.Eng.YtkenlcaifhffoaaDoor
end
