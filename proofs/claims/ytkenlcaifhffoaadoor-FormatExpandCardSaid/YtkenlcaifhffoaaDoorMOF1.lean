/- Texts put together: OpenF. -/
import Derived.Test.YtkenlcaifhffoaaDoorMC1
import Derived.Test.YtkenlcaifhffoaaDoorMFX1
/- Arguments, opened: items of a format. -/
section
namespace Go.Proofs.YtkenlcaifhffoaaDoor
open Go Go.Eng Go.Eng.YtkenlcaifhffoaaDoor
set_option linter.unusedSimpArgs false
set_option linter.unusedVariables false
set_option maxRecDepth 100000
theorem opens_item : Opens (List UInt8 × List UInt8) 49 itV (fun _ => True) (fun x => x.1.length ≤ 140737488351232 ∧ x.2.length ≤ 140737488351232) (fun _ => 1) := by
  refine ⟨fun enc W n cs x h => ?_⟩
  obtain ⟨xs, m, rfl, rfl, hl, hlen, hx⟩ := DataW.trod_struct (show Tryd.prog.underlying 49 = _ from Tryd.underlying49) h
  have hc : Tryd.prog.cellsOf 9 = 1 := by kernel_rfl
  have hcs : Tryd.prog.cellsOf 49 = 2 := by kernel_rfl
  obtain ⟨y0, y1, rfl⟩ : ∃ y0 y1, xs = [y0, y1] := by
    match xs, hlen with
    | [v0, v1], _ => exact ⟨v0, v1, rfl⟩
  have t0 : DataW.trod enc Tryd.prog W 0 (fun _ => true) true m 9 ((cs.drop 0).take (Tryd.prog.cellsOf 9)) = some y0 := hx 0 _ rfl
  have t1 : DataW.trod enc Tryd.prog W 0 (fun _ => true) true m 9 ((cs.drop 1).take (Tryd.prog.cellsOf 9)) = some y1 := hx 1 _ rfl
  obtain ⟨a0, o0, l0, f0, k0⟩ := (Opens.str (t := 9) (by kernel_rfl)).opens enc W m _ _ t0
  obtain ⟨a1, o1, l1, f1, k1⟩ := (Opens.str (t := 9) (by kernel_rfl)).opens enc W m _ _ t1
  rw [hc] at l0 l1
  refine ⟨⟨a0, a1⟩, trivial, ?_, fun hf => ?_, ?_⟩
  · exact LRel.next (off := 0) (m := 1) l0 rfl (LRel.next (m := 2) l1 rfl (LRel.fin (hl.trans hcs)))
  · simp only [List.map_cons, List.map_nil, DataW.weights, Tryd.underlying49] at hf
    simp only [DataW.weightsEach, List.all_append, Bool.and_eq_true] at hf
    exact ⟨f0 hf.1, f1 hf.2.1⟩
  · simp only [Rows.uptoBulk, Rows.uptoBulkAll, List.map_cons, List.map_nil]; (try dsimp only at *); omega
theorem opens_items : Opens (List (List UInt8 × List UInt8)) 45 (fun l => .sl 2 (l.map itV)) (fun l => ∀ b ∈ l, True) (fun l => l.length * 32 ≤ 140737488351232 ∧ ∀ b ∈ l, b.1.length ≤ 140737488351232 ∧ b.2.length ≤ 140737488351232) (fun l => (l.map fun _ => 1).sum + 1) :=
  Opens.slice (show Tryd.prog.underlying 45 = _ by kernel_rfl) (by kernel_rfl : Tryd.prog.cellsOf 49 = 2) (by decide) (by kernel_rfl) opens_item (fun _ => rfl)
theorem items_fit {l : List (List UInt8 × List UInt8)} (f : l.length * 32 ≤ 140737488351232 ∧ ∀ b ∈ l, b.1.length ≤ 140737488351232 ∧ b.2.length ≤ 140737488351232) : l.length ≤ 140737488355328 ∧ ∀ x ∈ l, x.2.length ≤ 140737488355328 :=
  ⟨by have := f.1; omega, fun x hx => by have := (f.2 x hx).2; omega⟩
end Go.Proofs.YtkenlcaifhffoaaDoor
end
