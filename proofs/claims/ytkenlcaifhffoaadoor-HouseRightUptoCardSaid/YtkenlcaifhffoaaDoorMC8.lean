/- Texts put together: OpenT. -/
import Derived.Test.YtkenlcaifhffoaaDoorMC1
import Derived.Test.YtkenlcaifhffoaaDoorMSA
/- Arguments, opened: splits (trees), by recursion on the depth. -/
section
namespace Go.Proofs.YtkenlcaifhffoaaDoor
open Go Go.Eng Go.Eng.YtkenlcaifhffoaaDoor
set_option linter.unusedSimpArgs false
set_option linter.unusedVariables false
set_option maxRecDepth 100000
theorem enc_four (t : Spl) : (encSpl t).flat.length = 4 := by
  obtain ⟨w, p, s, ks⟩ := t
  rw [encSpl_mk]; rfl
theorem openN_split : ∀ n : Nat, ∀ m, m ≤ n → OpensN m Spl 64 encSpl (fun _ => True) Spl.ok (fun _ => 1) := by
  intro n
  induction n using Nat.strongRecOn with
  | _ n ih =>
  intro m0 hm0 H enc W cs x h
  obtain ⟨xs, m, rfl, rfl, hl, hlen, hx⟩ := DataW.trod_struct (show Tryd.prog.underlying 64 = _ from Tryd.underlying64) h
  have hc : Tryd.prog.cellsOf 3 = 1 := by kernel_rfl
  have hc2 : Tryd.prog.cellsOf 62 = 1 := by kernel_rfl
  have hcs : Tryd.prog.cellsOf 64 = 4 := by kernel_rfl
  obtain ⟨y0, y1, y2, y3, rfl⟩ : ∃ y0 y1 y2 y3, xs = [y0, y1, y2, y3] := by
    match xs, hlen with
    | [a, b, c, d], _ => exact ⟨a, b, c, d, rfl⟩
  have t0 : DataW.trod enc Tryd.prog W 0 (fun _ => true) true m 3 ((cs.drop 0).take (Tryd.prog.cellsOf 3)) = some y0 := hx 0 _ rfl
  have t1 : DataW.trod enc Tryd.prog W 0 (fun _ => true) true m 3 ((cs.drop 1).take (Tryd.prog.cellsOf 3)) = some y1 := hx 1 _ rfl
  have t2 : DataW.trod enc Tryd.prog W 0 (fun _ => true) true m 3 ((cs.drop 2).take (Tryd.prog.cellsOf 3)) = some y2 := hx 2 _ rfl
  have t3 : DataW.trod enc Tryd.prog W 0 (fun _ => true) true m 62 ((cs.drop 3).take (Tryd.prog.cellsOf 62)) = some y3 := hx 3 _ rfl
  obtain ⟨a0, o0, l0, _⟩ := (opens_int64 (t := 3) (by kernel_rfl)).opens enc W m _ _ t0
  obtain ⟨a1, o1, l1, _⟩ := (opens_int64 (t := 3) (by kernel_rfl)).opens enc W m _ _ t1
  obtain ⟨a2, o2, l2, _⟩ := (opens_int64 (t := 3) (by kernel_rfl)).opens enc W m _ _ t2
  obtain ⟨a3, o3, l3, f3, _⟩ := OpensN.slice (t := 62) (e := 64) (sz := 4) (by_ := 48) (by kernel_rfl) (by kernel_rfl) (by decide) (by kernel_rfl) (fun k hk => ih (k + 1) (by omega) k (by omega)) enc_four enc W _ _ t3
  refine ⟨.mk a0 a1 a2 a3, trivial, ?_, fun hf => ?_, by simp only [Rows.uptoBulk]; omega⟩
  · rw [encSpl_mk]
    rw [hc] at l0 l1 l2
    rw [hc2] at l3
    exact LRel.next (off := 0) (m := 1) l0 rfl (LRel.next (m := 2) l1 rfl (LRel.next (m := 3) l2 rfl (LRel.next (m := 4) l3 rfl (LRel.fin (hl.trans hcs)))))
  · simp only [List.map_cons, List.map_nil, DataW.weights, Tryd.underlying64] at hf
    simp only [DataW.weightsEach, List.all_append, Bool.and_eq_true] at hf
    have := f3 hf.2.2.2.1
    exact spl_ok.2 ⟨o0, o1, o2, by omega, this.2⟩
theorem opens_split : Opens Spl 64 encSpl (fun _ => True) Spl.ok (fun _ => 1) :=
  ⟨fun enc W n cs x h => openN_split n n (Nat.le_refl n) enc W cs x h⟩
end Go.Proofs.YtkenlcaifhffoaaDoor
end
