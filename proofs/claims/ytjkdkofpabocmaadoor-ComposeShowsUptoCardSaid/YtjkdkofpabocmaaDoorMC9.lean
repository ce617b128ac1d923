/- Texts put together: OpenQ. -/
import Derived.Test.YtjkdkofpabocmaaDoorMC3
import Derived.Test.YtjkdkofpabocmaaDoorMC8
/- Arguments, opened: rows of screens. -/
section
namespace Go.Proofs.YtjkdkofpabocmaaDoor
open Go Go.Eng Go.Eng.YtjkdkofpabocmaaDoor
set_option linter.unusedSimpArgs false
set_option linter.unusedVariables false
set_option maxRecDepth 100000
theorem opens_screens : Opens (List Scr) 26 (fun l => .sl 22 (l.map encScr)) (fun l => ∀ s ∈ l, scrOk s) (fun l => l.length * 232 ≤ 140737488351232 ∧ ∀ s ∈ l, scrFit s) (fun l => (l.map fun s => s.title.length).sum + 1) :=
  Opens.slice (show Tryd.prog.underlying 26 = _ by kernel_rfl) (by kernel_rfl : Tryd.prog.cellsOf 52 = 22) (by decide) (by kernel_rfl) opens_screen (fun _ => rfl)
theorem titles_sum {s : Scr} : ∀ {l : List Scr}, s ∈ l → s.title.length ≤ (l.map fun s => s.title.length).sum
  | t :: l, h => by
    rw [List.map_cons, List.sum_cons]
    rcases List.mem_cons.1 h with rfl | h
    · omega
    · have := titles_sum h; omega
theorem scrs_ok {l : List Scr} (b : ∀ s ∈ l, scrOk s) (f : l.length * 232 ≤ 140737488351232 ∧ ∀ s ∈ l, scrFit s) (k : (l.map fun s => s.title.length).sum + 1 ≤ 1048576) : l.length ≤ 140737488355328 ∧ ∀ s ∈ l, s.ok :=
  ⟨by have := f.1; omega, fun s hs => scr_ok (b s hs) (f.2 s hs) (by have := titles_sum hs; omega)⟩
end Go.Proofs.YtjkdkofpabocmaaDoor
end
