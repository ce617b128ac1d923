/- Texts put together: FullR. -/
import Derived.Test.YtecafnhnkklboaaDoorMQ1
import Derived.Test.YtecafnhnkklboaaDoorME10
/- utf8.FullRuneInString, from its text (b_ x_ q_ e_). -/
section
namespace Go.Eng.YtecafnhnkklboaaDoor
open Go Go.Eng Go.Proofs
variable (W : World)
set_option linter.unusedSimpArgs false
set_option maxRecDepth 100000
set_option linter.unusedVariables false
set_option maxHeartbeats 8000000
theorem loadAt_one {K : Kn} {w : World} {t : TypeId} {b o : Nat} {e : List PV} (ht : tyOk Tryd.prog t = true) (hl : Tryd.prog.cellsOf t ≤ e.length)
    (hc : ∀ j, j < Tryd.prog.cellsOf t → ∃ u, w.cell? ⟨b, o + j, none⟩ = some u ∧ VRel K w (e.getD j .dead) u) :
    ∃ r, (Instr.loadAt t (.pointer (some ⟨b, o, none⟩))).run Tryd.prog w = .ok r w ∧ VRel K w (partV (isAggB Tryd.prog t) (Tryd.prog.cellsOf t) e 0) r := by
  obtain ⟨v, h1, h2⟩ := load_at (P := Tryd.prog) (K := K) (w := w) (t := t) (b := b) (o := o) (f := 0) (e := e) ht (by omega) (fun j hj => by rw [Nat.zero_add]; exact hc j hj)
  exact ⟨_, by simp only [Instr.loadAt, Instr.sureAddr, Sem.run_bind, Sem.run_pure, Result.andThen_ok, h1], h2⟩
theorem add_none (b o n : Nat) : (⟨b, o, none⟩ : Addr).add n = ⟨b, o + n, none⟩ := by unfold Addr.add; split <;> simp_all
theorem glob_first (hT : Tabs W) (c : Nat) (hc : c < 256) : GlobAt Tryd.prog W 5 (.pointer (some ((⟨6, 0, none⟩ : Addr).add (c * Tryd.prog.cellsOf 5)))) (.int .u8 (Lib.firstT c)) := by
  refine ⟨fun K w hb => ?_⟩
  have h1 : Tryd.prog.cellsOf 5 = 1 := by decide +kernel
  have h0 := (tabs_at hT hb).1 c hc
  rw [add_none, h1]
  refine loadAt_one (t := 5) (e := [.int .u8 (Lib.firstT c)]) (by decide +kernel) (by rw [h1]; exact Nat.le_refl _) ?_
  intro j hj
  rw [h1] at hj
  obtain rfl : j = 0 := by omega
  exact ⟨_, by simpa using h0, .int _ _⟩
theorem glob_acc (hT : Tabs W) (i : Nat) (hi : i < 16) : GlobAt Tryd.prog W 159 (.pointer (some ((⟨7, 0, none⟩ : Addr).add (i * Tryd.prog.cellsOf 159)))) (.agg [.int .u8 (Lib.accLo i), .int .u8 (Lib.accHi i)]) := by
  refine ⟨fun K w hb => ?_⟩
  have h1 : Tryd.prog.cellsOf 159 = 2 := by decide +kernel
  have h0 := (tabs_at hT hb).2 i hi
  rw [add_none, h1]
  refine loadAt_one (t := 159) (e := [.int .u8 (Lib.accLo i), .int .u8 (Lib.accHi i)]) (by decide +kernel) (by rw [h1]; exact Nat.le_refl _) ?_
  intro j hj
  rw [h1] at hj
  rw [Nat.zero_add, Nat.mul_comm]
  rcases (show j = 0 ∨ j = 1 by omega) with rfl | rfl
  · exact ⟨_, h0.1, .int _ _⟩
  · exact ⟨_, h0.2, .int _ _⟩
end Go.Eng.YtecafnhnkklboaaDoor
end
