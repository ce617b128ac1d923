/- Texts put together: OpenK. -/
import Derived.Test.YtbaokhehnilneaaGreatDoorMC1
import Derived.Test.YtbaokhehnilneaaGreatDoorMKY3
/- Arguments, opened: keys. -/
section
namespace Go.Proofs.YtbaokhehnilneaaGreatDoor
open Go Go.Eng Go.Eng.YtbaokhehnilneaaGreatDoor
set_option linter.unusedSimpArgs false
set_option linter.unusedVariables false
set_option maxRecDepth 100000
theorem opens_i32k {t : TypeId} (ht : Tryz.prog.underlying t = some (.int .i32)) : Opens Int t (PV.int .i32) i32ok (fun _ => True) (fun _ => 1) := by
  refine ⟨fun enc W n cs x h => ?_⟩
  obtain ⟨a, h1, h2, h3, h4⟩ := (Opens.int ht).opens enc W n cs x h
  refine ⟨a, ?_, h2, h3, h4⟩
  have : -2147483648 ≤ a ∧ a ≤ 2147483647 := by simpa [Lit.wf, IntKind.min, IntKind.max, IntKind.signed, IntKind.bits] using h1
  exact this
theorem opens_key : Opens Key 23 encKey Eng.YtbaokhehnilneaaGreatDoor.Key.ok (fun _ => True) (fun _ => 1) := by
  refine ⟨fun enc W n cs x h => ?_⟩
  obtain ⟨xs, m, rfl, rfl, hl, hlen, hx⟩ := DataW.trod_struct (show Tryz.prog.underlying 23 = _ from Tryz.underlying23) h
  have hc : Tryz.prog.cellsOf 3 = 1 := by kernel_rfl
  have hc1 : Tryz.prog.cellsOf 21 = 1 := by kernel_rfl
  have hcs : Tryz.prog.cellsOf 23 = 4 := by kernel_rfl
  obtain ⟨y0, y1, y2, y3, rfl⟩ : ∃ y0 y1 y2 y3, xs = [y0, y1, y2, y3] := by
    match xs, hlen with
    | [a, b, c, d], _ => exact ⟨a, b, c, d, rfl⟩
  have t0 : DataW.trod enc Tryz.prog W 0 (fun _ => true) true m 3 ((cs.drop 0).take (Tryz.prog.cellsOf 3)) = some y0 := hx 0 _ rfl
  have t1 : DataW.trod enc Tryz.prog W 0 (fun _ => true) true m 21 ((cs.drop 1).take (Tryz.prog.cellsOf 21)) = some y1 := hx 1 _ rfl
  have t2 : DataW.trod enc Tryz.prog W 0 (fun _ => true) true m 3 ((cs.drop 2).take (Tryz.prog.cellsOf 3)) = some y2 := hx 2 _ rfl
  have t3 : DataW.trod enc Tryz.prog W 0 (fun _ => true) true m 3 ((cs.drop 3).take (Tryz.prog.cellsOf 3)) = some y3 := hx 3 _ rfl
  obtain ⟨a0, o0, l0, _⟩ := (opens_int64 (t := 3) (by kernel_rfl)).opens enc W m _ _ t0
  obtain ⟨a1, o1, l1, _⟩ := (opens_i32k (t := 21) (by kernel_rfl)).opens enc W m _ _ t1
  obtain ⟨a2, o2, l2, _⟩ := (opens_int64 (t := 3) (by kernel_rfl)).opens enc W m _ _ t2
  obtain ⟨a3, o3, l3, _⟩ := (opens_int64 (t := 3) (by kernel_rfl)).opens enc W m _ _ t3
  refine ⟨⟨a0, a1, a2, a3⟩, ⟨o0, o1, o2, o3⟩, ?_, fun _ => trivial, by simp only [Rows.uptoBulk]; omega⟩
  rw [hc] at l0 l2 l3
  rw [hc1] at l1
  exact LRel.next (off := 0) (m := 1) l0 rfl (LRel.next (m := 2) l1 rfl (LRel.next (m := 3) l2 rfl (LRel.next (m := 4) l3 rfl (LRel.fin (hl.trans hcs)))))
end Go.Proofs.YtbaokhehnilneaaGreatDoor
end
