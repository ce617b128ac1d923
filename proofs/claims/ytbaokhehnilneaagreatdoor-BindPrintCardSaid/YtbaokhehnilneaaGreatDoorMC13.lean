/- Texts put together: OpenB. -/
import Derived.Test.YtbaokhehnilneaaGreatDoorMC11
import Derived.Test.YtbaokhehnilneaaGreatDoorMBN1
/- Arguments, opened: tables of keys, rows of keys, words. -/
section
namespace Go.Proofs.YtbaokhehnilneaaGreatDoor
open Go Go.Eng Go.Eng.YtbaokhehnilneaaGreatDoor
set_option linter.unusedSimpArgs false
set_option linter.unusedVariables false
set_option maxRecDepth 100000
theorem opens_bnd : Opens Bnd 34 encBnd (fun b => b.k.ok) (fun b => b.cmd.length ≤ 140737488351232) (fun _ => 1) := by
  refine ⟨fun enc W n cs x h => ?_⟩
  obtain ⟨xs, m, rfl, rfl, hl, hlen, hx⟩ := DataW.trod_struct (show Tryz.prog.underlying 34 = _ from Tryz.underlying34) h
  have hc0 : Tryz.prog.cellsOf 23 = 4 := by kernel_rfl
  have hc1 : Tryz.prog.cellsOf 9 = 1 := by kernel_rfl
  have hcs : Tryz.prog.cellsOf 34 = 5 := by kernel_rfl
  obtain ⟨y0, y1, rfl⟩ : ∃ y0 y1, xs = [y0, y1] := by
    match xs, hlen with
    | [v0, v1], _ => exact ⟨v0, v1, rfl⟩
  have t0 : DataW.trod enc Tryz.prog W 0 (fun _ => true) true m 23 ((cs.drop 0).take (Tryz.prog.cellsOf 23)) = some y0 := hx 0 _ rfl
  have t1 : DataW.trod enc Tryz.prog W 0 (fun _ => true) true m 9 ((cs.drop 4).take (Tryz.prog.cellsOf 9)) = some y1 := hx 1 _ rfl
  obtain ⟨a0, o0, l0, f0, k0⟩ := opens_key.opens enc W m _ _ t0
  obtain ⟨a1, o1, l1, f1, k1⟩ := (Opens.str (t := 9) (by kernel_rfl)).opens enc W m _ _ t1
  rw [hc0] at l0
  rw [hc1] at l1
  refine ⟨⟨a0, a1⟩, o0, ?_, fun hf => ?_, ?_⟩
  · exact LRel.next (off := 0) (m := 4) l0 rfl (LRel.next (m := 5) l1 rfl (LRel.fin (hl.trans hcs)))
  · simp only [List.map_cons, List.map_nil, DataW.weights, Tryz.underlying34] at hf
    simp only [DataW.weightsEach, List.all_append, Bool.and_eq_true] at hf
    exact (f1 (hf.2.1))
  · simp only [Rows.uptoBulk, Rows.uptoBulkAll, List.map_cons, List.map_nil]; (try dsimp only at *); omega
theorem opens_binds : Opens (List Bnd) 24 (fun l => .sl 5 (l.map encBnd)) (fun l => ∀ b ∈ l, b.k.ok) (fun l => l.length * 48 ≤ 140737488351232 ∧ ∀ b ∈ l, b.cmd.length ≤ 140737488351232) (fun l => (l.map fun _ => 1).sum + 1) :=
  Opens.slice (show Tryz.prog.underlying 24 = _ by kernel_rfl) (by kernel_rfl : Tryz.prog.cellsOf 34 = 5) (by decide) (by kernel_rfl) opens_bnd (fun _ => rfl)
theorem opens_table : Opens BTab 26 encTab (fun t => t.pre.ok ∧ ∀ b ∈ t.binds, b.k.ok) (fun t => t.binds.length * 48 ≤ 140737488351232 ∧ ∀ b ∈ t.binds, b.cmd.length ≤ 140737488351232) (fun _ => 1) := by
  refine ⟨fun enc W n cs x h => ?_⟩
  obtain ⟨xs, m, rfl, rfl, hl, hlen, hx⟩ := DataW.trod_struct (show Tryz.prog.underlying 26 = _ from Tryz.underlying26) h
  have hc0 : Tryz.prog.cellsOf 23 = 4 := by kernel_rfl
  have hc1 : Tryz.prog.cellsOf 24 = 1 := by kernel_rfl
  have hcs : Tryz.prog.cellsOf 26 = 5 := by kernel_rfl
  obtain ⟨y0, y1, rfl⟩ : ∃ y0 y1, xs = [y0, y1] := by
    match xs, hlen with
    | [v0, v1], _ => exact ⟨v0, v1, rfl⟩
  have t0 : DataW.trod enc Tryz.prog W 0 (fun _ => true) true m 23 ((cs.drop 0).take (Tryz.prog.cellsOf 23)) = some y0 := hx 0 _ rfl
  have t1 : DataW.trod enc Tryz.prog W 0 (fun _ => true) true m 24 ((cs.drop 4).take (Tryz.prog.cellsOf 24)) = some y1 := hx 1 _ rfl
  obtain ⟨a0, o0, l0, f0, k0⟩ := opens_key.opens enc W m _ _ t0
  obtain ⟨a1, o1, l1, f1, k1⟩ := opens_binds.opens enc W m _ _ t1
  rw [hc0] at l0
  rw [hc1] at l1
  refine ⟨⟨a0, a1⟩, ⟨o0, o1⟩, ?_, fun hf => ?_, ?_⟩
  · exact LRel.next (off := 0) (m := 4) l0 rfl (LRel.next (m := 5) l1 rfl (LRel.fin (hl.trans hcs)))
  · simp only [List.map_cons, List.map_nil, DataW.weights, Tryz.underlying26] at hf
    simp only [DataW.weightsEach, List.all_append, Bool.and_eq_true] at hf
    exact (f1 (hf.2.1))
  · simp only [Rows.uptoBulk, Rows.uptoBulkAll, List.map_cons, List.map_nil]; (try dsimp only at *); omega
theorem tab_ok {t : BTab} (b : t.pre.ok ∧ ∀ b ∈ t.binds, b.k.ok) (f : t.binds.length * 48 ≤ 140737488351232 ∧ ∀ b ∈ t.binds, b.cmd.length ≤ 140737488351232) : t.ok :=
  ⟨b.1, fun x hx => ⟨b.2 x hx, by have := f.2 x hx; omega⟩, by have := f.1; omega⟩
end Go.Proofs.YtbaokhehnilneaaGreatDoor
end
