/- Texts put together: Cell, CellClone. -/
import Derived.Test.YtkenlcaifhffoaaDoorMS1
import Derived.Test.YtkenlcaifhffoaaDoorME3
/- Cells: compared, copied. -/
section
namespace Go.Eng.YtkenlcaifhffoaaDoor
open Go Go.Eng Go.Proofs
variable (W : World)
set_option linter.unusedSimpArgs false
set_option maxRecDepth 100000
set_option linter.unusedVariables false
set_option maxHeartbeats 4000000
structure Cell where
  r : Int
  s : Style
  deriving DecidableEq
def i32ok (n : Int) : Prop := -2147483648 ≤ n ∧ n ≤ 2147483647
def Cell.ok (c : Cell) : Prop := i32ok c.r ∧ c.s.ok
def encCell (c : Cell) : PV := .agg [.int .i32 c.r, .int .i64 c.s.fore, .int .i64 c.s.back, .int .i64 c.s.bits]
def litsCell (c : Cell) : List Lit := .int .i32 c.r :: litsStyle c.s
def encCells (l : List Cell) : PV := .sl 4 (l.map encCell)
end Go.Eng.YtkenlcaifhffoaaDoor
end

/- Cells copied; grids: the law's own copies. -/
section
namespace Go.Eng.YtkenlcaifhffoaaDoor
open Go Go.Eng Go.Proofs
variable (W : World)
set_option linter.unusedSimpArgs false
set_option maxRecDepth 100000
set_option linter.unusedVariables false
set_option maxHeartbeats 4000000
abbrev GivesRow (sz : Nat) (l : List PV) : PV → Mem → Prop := Gives (fun b : Nat => .rsl b sz 0 l.length) (fun b => [⟨b, .row sz l 0⟩]) (fun _ => True)
theorem GivesRow.mk {sz : Nat} {l : List PV} {σ : Mem} (b : Nat) {n : Nat} (hn : n = l.length) (hm : wkMem σ [⟨b, .row sz l 0⟩]) : GivesRow sz l (.rsl b sz 0 n) σ := ⟨b, trivial, by rw [hn], hm⟩
theorem GivesRow.pure {P : Program} {f : FuncId} {args : List PV} {sz : Nat} {l : List PV} (h : ACalls P W f args [] (GivesRow sz l)) : Pure P W f args (.sl sz l) :=
  Pure.of (ACalls.weak (h.mono fun v σ' ⟨b, _, hv, hm⟩ => ⟨_, hv ▸ frz_row (.here _ _ _) _ rfl, hm⟩))
end Go.Eng.YtkenlcaifhffoaaDoor
end
