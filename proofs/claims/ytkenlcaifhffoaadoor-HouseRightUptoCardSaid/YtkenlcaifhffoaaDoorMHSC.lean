/- Texts put together: HsCl. -/
import Derived.Test.YtkenlcaifhffoaaDoorMHS24
import Derived.Test.YtkenlcaifhffoaaDoorMHS17
import Derived.Test.YtkenlcaifhffoaaDoorMSI
/- Houses: what Close gives is in bounds (full). -/
section
namespace Go.Eng.YtkenlcaifhffoaaDoor
open Go Go.Eng Go.Proofs
set_option linter.unusedSimpArgs false
set_option maxRecDepth 100000
set_option linter.unusedVariables false
set_option maxHeartbeats 8000000
theorem dropR_okT {t : Spl} (ht : t.ok) (hn : cntT t ≤ 1000) (pane : Int) : (dropR t pane).1.ok := by
  unfold dropR
  split
  · exact zeroT_ok
  split
  · exact zeroT_ok
  split
  · exact zeroT_ok
  have hc := cnt_with pane t 0
  cases hq : withT noD pane t 0 with
  | nil => exact plain_okT zeroT (by decide) zeroT_ok
  | cons x l =>
    have hx := with_okT pane t hn ht 0 x (by rw [hq]; simp)
    rw [hq, cntTs] at hc
    exact plain_okT x (by omega) hx
theorem nextP_ok {l : List Int} (hl : ∀ p ∈ l, 1 ≤ p ∧ p ≤ 9999) (p : Int) : i64ok (nextP l p) := by
  unfold nextP
  rw [List.getD_eq_getElem?_getD]
  cases hq : (l.take (l.idxOf p) ++ l.drop (l.idxOf p + 1))[l.idxOf p - 1]? with
  | none => exact ⟨by decide, by decide⟩
  | some x =>
    have hm := List.mem_of_getElem? hq
    have hx : x ∈ l := by
      rcases List.mem_append.1 hm with h | h
      · exact List.mem_of_mem_take h
      · exact List.mem_of_mem_drop h
    have := hl x hx
    exact ⟨by show _ ≤ x; omega, by show x ≤ _; omega⟩
theorem closeY_ok {h : Hs} (hok : h.ok) (h0 : chkH h = 0) (pane : Int) : (closeY h pane).ok := by
  unfold closeY
  cases hps : posS h.ses pane with
  | none => exact hok
  | some y =>
    obtain ⟨i, k⟩ := y
    obtain ⟨s, w, hs, hw, hp, hb1, hb2⟩ := posS_some hps
    have hwa : winAt h.ses i k = some w := by rw [winAt, hs]; exact hw
    have hsm := List.mem_of_getElem? hs
    have hwm := List.mem_of_getElem? hw
    have hso := hok.se s hsm
    have hwo := hso.win w hwm
    have hsr := right_win h0 s hsm
    have hwr := hsr.win w hwm
    obtain ⟨hT1, hT2⟩ := winT_of hwr
    have hkw := lt_of_at hw
    dsimp only
    rw [hwa, hs]
    dsimp only
    split
    · have hcn : cntT w.s ≤ 1000 := by have := cnt_right w.s 0 hT1; omega
      have hd := dropR_okT hwo.s hcn pane
      have h00 : i64ok 0 := ⟨by decide, by decide⟩
      have hcl : (clsV w pane).ok := by
        unfold clsV
        split
        · exact ⟨hwo.name, hd, nextP_ok (panes_pos1 w.s 0 hT1) pane, h00⟩
        · unfold clsW
          split
          · refine ⟨hwo.name, hd, ?_, h00⟩
            show i64ok (if w.bef = pane then 0 else w.bef)
            split
            · exact h00
            · exact hwo.bef
          · refine ⟨hwo.name, hd, hwo.act, ?_⟩
            show i64ok (if w.bef = pane then 0 else w.bef)
            split
            · exact h00
            · exact hwo.bef
      exact ⟨by (show (setW _ _ _ _).length ≤ _); rw [setW_len]; exact hok.ses, setW_ok hok.se _ _ _ hcl, hok.views, hok.view, hok.next⟩
    split
    · have h6 := hsr.many.2
      have h7 := hsr.act
      have h8 := hsr.bef
      have hlv : (lvS s k).ok := by
        refine ⟨hso.name, ?_, ?_, ?_, ?_⟩
        · show (s.wins.eraseIdx k).length ≤ _
          rw [List.length_eraseIdx]
          split <;> omega
        · intro w' hw'
          exact hso.win w' (List.mem_of_mem_eraseIdx hw')
        · show i64ok (lvD (lvA s.act s.bef k) k)
          unfold lvD lvA i64ok
          (repeat' split) <;> omega
        · show i64ok (lvD (lvB s.act s.bef k) k)
          unfold lvD lvB lvA i64ok
          (repeat' split) <;> omega
      refine ⟨by show (h.ses.set i _).length ≤ _; rw [List.length_set]; exact hok.ses, fun s' hs' => ?_, hok.views, hok.view, hok.next⟩
      rcases List.mem_or_eq_of_mem_set hs' with h1 | rfl
      · exact hok.se s' h1
      · exact hlv
    · refine ⟨?_, fun s' hs' => hok.se s' (List.mem_of_mem_eraseIdx hs'), ?_, fun v hv => ?_, hok.next⟩
      · show (h.ses.eraseIdx i).length ≤ _
        have := hok.ses
        rw [List.length_eraseIdx]
        split <;> omega
      · show (goneV i h.views).length ≤ _
        rw [goneV, List.length_map, stayV]
        exact Nat.le_trans (List.length_filter_le _ _) hok.views
      · obtain ⟨v0, hv0, rfl⟩ := List.mem_map.1 (show v ∈ (stayV i h.views).map (decV i) from hv)
        obtain ⟨a1, a2, a3⟩ := hok.view v0 (List.mem_filter.1 hv0).1
        unfold decV
        split
        · refine ⟨?_, a2, a3⟩
          unfold i64ok at a1 ⊢
          dsimp only
          omega
        · exact ⟨a1, a2, a3⟩
end Go.Eng.YtkenlcaifhffoaaDoor
end
