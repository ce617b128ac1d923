/- Texts put together: Hs13, Hs14, Hs15, Hs16. -/
import Derived.Test.YtkenlcaifhffoaaDoorMHS16
import Derived.Test.YtkenlcaifhffoaaDoorMHS10
import Derived.Test.YtkenlcaifhffoaaDoorMHS13
import Derived.Test.YtkenlcaifhffoaaDoorMHS14
import Derived.Test.YtkenlcaifhffoaaDoorMSH
import Derived.Test.YtkenlcaifhffoaaDoorMSI
import Derived.Test.YtkenlcaifhffoaaDoorMHS7
/- Houses: with: a pane's window, and what is done to it, in the document (b_ x_ q_ e_). -/
section
namespace Go.Eng
open Go
variable {P : Program} {W : World}
end Go.Eng
namespace Go.Eng.YtkenlcaifhffoaaDoor
open Go Go.Eng Go.Proofs
variable (W : World)
set_option linter.unusedSimpArgs false
set_option maxRecDepth 100000
set_option linter.unusedVariables false
set_option maxHeartbeats 8000000
def WinTo (g : FuncId) (c : List PV) (E next next' : Int) (w w' : Win) : Prop := ∀ (b bw k : Nat) (ws : List PV) (sv vv : PV), ws[k]? = some (encWin w) →
  ACalls Tryd.prog W g (.bref b 0 :: .ref bw 8 k 0 :: c) [⟨b, .row 3 [.agg [sv, vv, .int .i64 next]] 0⟩, ⟨bw, .row 8 ws 0⟩] fun v σ' => v = .int .i64 E ∧ (E = 0 → wkMem σ' [⟨b, .row 3 [.agg [sv, vv, .int .i64 next']] 0⟩, ⟨bw, .row 8 (ws.set k (encWin w')) 0⟩])
end Go.Eng.YtkenlcaifhffoaaDoor
end

/- Houses: what is done to a pane's window, in the document (b_ x_ q_ e_). -/
section
namespace Go.Eng.YtkenlcaifhffoaaDoor
open Go Go.Eng Go.Proofs
variable (W : World)
set_option linter.unusedSimpArgs false
set_option maxRecDepth 100000
set_option linter.unusedVariables false
set_option maxHeartbeats 8000000
end Go.Eng.YtkenlcaifhffoaaDoor
end

/- Houses: a window cut, in the document (b_ x_ q_ e_). -/
section
namespace Go.Eng.YtkenlcaifhffoaaDoor
open Go Go.Eng Go.Proofs
variable (W : World)
set_option linter.unusedSimpArgs false
set_option maxRecDepth 100000
set_option linter.unusedVariables false
set_option maxHeartbeats 8000000
def ctE (w : Win) (way next : Int) : Int := if way ≠ 1 ∧ way ≠ 2 then 4 else if 12 ≤ (panesT w.s).length then 10 else if next = 9999 then 10 else 0
end Go.Eng.YtkenlcaifhffoaaDoor
end

/- The law HousePane (b_ x_ q_ e_). -/
section
namespace Go.Eng.YtkenlcaifhffoaaDoor
open Go Go.Eng Go.Proofs
variable (W : World)
set_option linter.unusedSimpArgs false
set_option maxRecDepth 100000
set_option linter.unusedVariables false
set_option maxHeartbeats 8000000
theorem setW_ok {l : List Ses} (hl : ∀ s ∈ l, s.ok) (i k : Nat) (w : Win) (hw : w.ok) : ∀ s ∈ setW l i k w, s.ok := by
  intro s hs
  unfold setW at hs
  split at hs
  · rename_i s0 h0
    rcases List.mem_or_eq_of_mem_set hs with hs | rfl
    · exact hl s hs
    · have ho := hl s0 (List.mem_of_getElem? h0)
      refine ⟨ho.name, by (show (s0.wins.set k w).length ≤ _); rw [List.length_set]; exact ho.wins, fun y hy => ?_, ho.act, ho.bef⟩
      rcases List.mem_or_eq_of_mem_set hy with hy | rfl
      · exact ho.win y hy
      · exact hw
  · exact hl s hs
theorem setW_len (l : List Ses) (i k : Nat) (w : Win) : (setW l i k w).length = l.length := by
  unfold setW
  split
  · rw [List.length_set]
  · rfl
end Go.Eng.YtkenlcaifhffoaaDoor
end
