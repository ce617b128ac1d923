/- Texts put together: Hs13, Hs14, Hs15, Hs16. -/
import Derived.Test.YtkenlcaifhffoaaDoorMHS16
import Derived.Test.YtkenlcaifhffoaaDoorMHS9
import Derived.Test.YtkenlcaifhffoaaDoorMHS13
import Derived.Test.YtkenlcaifhffoaaDoorMHS14
import Derived.Test.YtkenlcaifhffoaaDoorMSH
import Derived.Test.YtkenlcaifhffoaaDoorMSI
import Derived.Test.YtkenlcaifhffoaaDoorMHS7
/- Houses: with: a pane's window, and what is done to it, in the document (b_ x_ q_ e_). -/
section
namespace Go.Eng
open Go
variable {P : Program} {W : World}
end Go.Eng
namespace Go.Eng.YtkenlcaifhffoaaDoor
open Go Go.Eng Go.Proofs
variable (W : World)
set_option linter.unusedSimpArgs false
set_option maxRecDepth 100000
set_option linter.unusedVariables false
set_option maxHeartbeats 8000000
def WinTo (g : FuncId) (c : List PV) (E next next' : Int) (w w' : Win) : Prop := ∀ (b bw k : Nat) (ws : List PV) (sv vv : PV), ws[k]? = some (encWin w) →
  ACalls Tryd.prog W g (.bref b 0 :: .ref bw 8 k 0 :: c) [⟨b, .row 3 [.agg [sv, vv, .int .i64 next]] 0⟩, ⟨bw, .row 8 ws 0⟩] fun v σ' => v = .int .i64 E ∧ (E = 0 → wkMem σ' [⟨b, .row 3 [.agg [sv, vv, .int .i64 next']] 0⟩, ⟨bw, .row 8 (ws.set k (encWin w')) 0⟩])
end Go.Eng.YtkenlcaifhffoaaDoor
end

/- Houses: what is done to a pane's window, in the document (b_ x_ q_ e_). -/
section
namespace Go.Eng.YtkenlcaifhffoaaDoor
open Go Go.Eng Go.Proofs
variable (W : World)
set_option linter.unusedSimpArgs false
set_option maxRecDepth 100000
set_option linter.unusedVariables false
set_option maxHeartbeats 8000000
end Go.Eng.YtkenlcaifhffoaaDoor
end

/- Houses: a window cut, in the document (b_ x_ q_ e_). -/
section
namespace Go.Eng.YtkenlcaifhffoaaDoor
open Go Go.Eng Go.Proofs
variable (W : World)
set_option linter.unusedSimpArgs false
set_option maxRecDepth 100000
set_option linter.unusedVariables false
set_option maxHeartbeats 8000000
def ctE (w : Win) (way next : Int) : Int := if way ≠ 1 ∧ way ≠ 2 then 4 else if 12 ≤ (panesT w.s).length then 10 else if next = 9999 then 10 else 0
end Go.Eng.YtkenlcaifhffoaaDoor
end

/- The law HousePane (b_ x_ q_ e_). -/
section
namespace Go.Eng.YtkenlcaifhffoaaDoor
open Go Go.Eng Go.Proofs
variable (W : World)
set_option linter.unusedSimpArgs false
set_option maxRecDepth 100000
set_option linter.unusedVariables false
set_option maxHeartbeats 8000000
theorem cutR_right {w : Win} {next pane way : Int} (hwr : WinR next w) (hp : pane ∈ panesT w.s) (hn : 1 ≤ next ∧ next ≤ 9999) : cutR w.s pane way next = if way ≠ 1 ∧ way ≠ 2 then (zeroT, 4) else if (panesT w.s).length = 12 then (zeroT, 10) else (cutT pane way next w.s, 0) := by
  unfold cutR
  rw [if_neg (by rw [hwr.vis]; decide), if_neg (by simpa using hp)]
  by_cases h1 : way ≠ 1 ∧ way ≠ 2
  · rw [if_pos (.inl h1), if_pos h1]
  · rw [if_neg (by omega), if_neg h1, if_neg (fun hm => by have := hwr.lt _ hm; omega)]
theorem winAt_of {h : Hs} (h0 : chkH h = 0) {pane : Int} {i k : Nat} {w : Win} (hps : posS h.ses pane = some (i, k)) (hwa : winAt h.ses i k = some w) : ∃ s, s ∈ h.ses ∧ h.ses[i]? = some s ∧ w ∈ s.wins ∧ WinR h.next w ∧ pane ∈ panesT w.s := by
  obtain ⟨s, w1, hs, hw, hp, -, -⟩ := posS_some hps
  rw [winAt, hs] at hwa
  obtain rfl : w1 = w := Option.some.inj (hw.symm.trans hwa)
  exact ⟨s, List.mem_of_getElem? hs, hs, List.mem_of_getElem? hw, (right_win h0 s (List.mem_of_getElem? hs)).win _ (List.mem_of_getElem? hw), hp⟩
theorem setW_ok {l : List Ses} (hl : ∀ s ∈ l, s.ok) (i k : Nat) (w : Win) (hw : w.ok) : ∀ s ∈ setW l i k w, s.ok := by
  intro s hs
  unfold setW at hs
  split at hs
  · rename_i s0 h0
    rcases List.mem_or_eq_of_mem_set hs with hs | rfl
    · exact hl s hs
    · have ho := hl s0 (List.mem_of_getElem? h0)
      refine ⟨ho.name, by (show (s0.wins.set k w).length ≤ _); rw [List.length_set]; exact ho.wins, fun y hy => ?_, ho.act, ho.bef⟩
      rcases List.mem_or_eq_of_mem_set hy with hy | rfl
      · exact ho.win y hy
      · exact hw
  · exact hl s hs
theorem setW_len (l : List Ses) (i k : Nat) (w : Win) : (setW l i k w).length = l.length := by
  unfold setW
  split
  · rw [List.length_set]
  · rfl
theorem onW_ok {h : Hs} (hok : h.ok) (f : Win → Win) (hf : ∀ w, w.ok → (f w).ok) (pane : Int) : (onW f h pane).ok := by
  unfold onW
  split
  · exact hok
  · split
    · exact hok
    · rename_i i k _ _ w hw
      have hwo : w.ok := by
        unfold winAt at hw
        obtain ⟨s, hs, hw⟩ := Option.bind_eq_some_iff.1 hw
        exact (hok.se s (List.mem_of_getElem? hs)).win w (List.mem_of_getElem? hw)
      exact ⟨by (show (setW _ _ _ _).length ≤ _); rw [setW_len]; exact hok.ses, setW_ok hok.se _ _ _ (hf w hwo), hok.views, hok.view, hok.next⟩
theorem cutY_ok {h : Hs} (hok : h.ok) (h0 : chkH h = 0) (pane way : Int) (hpa : i64ok pane) (hwa : i64ok way) (hE : cutE h pane way = 0) : (cutY h pane way).ok := by
  obtain ⟨h1, h2, h3, h4, -, -⟩ := right_ses h0
  have hnx : i64ok h.next := ⟨by omega, by omega⟩
  unfold cutE at hE
  unfold cutY
  cases hps : posS h.ses pane with
  | none => exact hok
  | some y =>
    obtain ⟨i, k⟩ := y
    rw [hps] at hE
    dsimp only at hE ⊢
    cases hw : winAt h.ses i k with
    | none => exact hok
    | some w =>
      rw [hw] at hE
      dsimp only at hE ⊢
      obtain ⟨s, hs, -, hws, hwr, hp⟩ := winAt_of h0 hps hw
      have hwo := (hok.se s hs).win w hws
      have hct : (cutR w.s pane way h.next).1 = cutT pane way h.next w.s := by
        rw [cutR_right hwr hp ⟨h3, h4⟩] at hE ⊢
        split
        · rename_i g; rw [if_pos g] at hE; exact absurd hE (by simp)
        · rename_i g
          rw [if_neg g] at hE
          split
          · rename_i g2; rw [if_pos g2] at hE; exact absurd hE (by simp)
          · rfl
      rw [hct]
      have hcn : cntT w.s ≤ 1000 := by have := cnt_right w.s 0 (winT_of hwr).1; have := (winT_of hwr).2; omega
      refine ⟨by (show (setW _ _ _ _).length ≤ _); rw [setW_len]; exact hok.ses, setW_ok hok.se _ _ _ ⟨hwo.name, cut_okT hpa hwa hnx w.s hcn hwo.s, hnx, hwo.act⟩, hok.views, hok.view, ⟨by (show _ ≤ h.next + 1); omega, by (show h.next + 1 ≤ _); omega⟩⟩
theorem zoomW_ok {pane : Int} (hp : i64ok pane) (w : Win) (hw : w.ok) : (zoomW pane w).ok := by
  refine ⟨hw.name, hw.s, hp, ?_⟩
  show i64ok (if w.act = pane then w.bef else w.act)
  split
  · exact hw.bef
  · exact hw.act
end Go.Eng.YtkenlcaifhffoaaDoor
end
