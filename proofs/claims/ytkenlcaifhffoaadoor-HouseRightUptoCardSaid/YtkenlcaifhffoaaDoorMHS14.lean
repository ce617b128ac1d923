/- Texts put together: Hs9, Hs10. -/
import Derived.Test.YtkenlcaifhffoaaDoorMHS9
import Derived.Test.YtkenlcaifhffoaaDoorMHS13
/- Houses: what a new window is to be, what is to be shown; the law HouseWindow (b_ x_ q_ e_). -/
section
namespace Go.Eng.YtkenlcaifhffoaaDoor
open Go Go.Eng Go.Proofs
variable (W : World)
set_option linter.unusedSimpArgs false
set_option maxRecDepth 100000
set_option linter.unusedVariables false
set_option maxHeartbeats 8000000
end Go.Eng.YtkenlcaifhffoaaDoor
end

/- The law HouseWindow (b_ x_ q_ e_). -/
section
namespace Go.Eng.YtkenlcaifhffoaaDoor
open Go Go.Eng Go.Proofs
variable (W : World)
set_option linter.unusedSimpArgs false
set_option maxRecDepth 100000
set_option linter.unusedVariables false
set_option maxHeartbeats 8000000
theorem winN_okW (n : List UInt8) (p : Int) (hn : n.length ≤ 1048576) (hp : i64ok p) : (winN n p).ok :=
  ⟨hn, spl_ok.2 ⟨by decide, hp, by decide, by decide, fun k hk => by cases hk⟩, hp, by (show i64ok 0); decide⟩
theorem winY_ok {h : Hs} (hok : h.ok) (h0 : chkH h = 0) (s : Int) (n : List UInt8) (hn : n.length ≤ 1048576) : (winY h s n).ok := by
  obtain ⟨h1, h2, h3, h4, -, -⟩ := right_ses h0
  have hsr := right_win h0
  have hp : i64ok h.next := ⟨by omega, by omega⟩
  unfold winY
  split
  · exact hok
  · rename_i x hx
    have hxm := List.mem_of_getElem? hx
    have ho := hok.se x hxm
    have hw6 := (hsr x hxm).many.2
    refine ⟨?_, ?_, hok.views, hok.view, ⟨by (show _ ≤ h.next + 1); omega, by (show h.next + 1 ≤ _); omega⟩⟩
    · show (h.ses.set _ _).length ≤ _
      rw [List.length_set]; omega
    · intro y hy
      rcases List.mem_or_eq_of_mem_set hy with hy | rfl
      · exact hok.se y hy
      · refine ⟨ho.name, ?_, ?_, ⟨by (show _ ≤ ((x.wins.length : Nat) : Int)); omega, by (show ((x.wins.length : Nat) : Int) ≤ _); omega⟩, ho.act⟩
        · show (x.wins ++ [_]).length ≤ _
          rw [List.length_append, List.length_singleton]; omega
        · intro w hw
          rcases List.mem_append.1 (show w ∈ x.wins ++ [_] from hw) with hw | hw
          · exact ho.win w hw
          · exact (List.mem_singleton.1 hw) ▸ winN_okW n h.next hn hp
theorem showY_ok {h : Hs} (hok : h.ok) (s k : Int) (hk : i64ok k) : (showY h s k).ok := by
  unfold showY
  split
  · exact hok
  · rename_i x hx
    have ho := hok.se x (List.mem_of_getElem? hx)
    split
    · exact hok
    · refine ⟨?_, ?_, hok.views, hok.view, hok.next⟩
      · show (h.ses.set _ _).length ≤ _
        rw [List.length_set]; exact hok.ses
      · intro y hy
        rcases List.mem_or_eq_of_mem_set hy with hy | rfl
        · exact hok.se y hy
        · exact ⟨ho.name, ho.wins, ho.win, hk, ho.act⟩
end Go.Eng.YtkenlcaifhffoaaDoor
end
