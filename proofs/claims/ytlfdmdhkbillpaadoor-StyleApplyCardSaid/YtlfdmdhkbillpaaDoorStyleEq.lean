/- Styles compared. -/
import Derived.Test.YtlfdmdhkbillpaaDoorStyle
namespace Go.Eng.YtlfdmdhkbillpaaDoor
open Go Go.Eng Go.Proofs
variable (W : World)
set_option linter.unusedSimpArgs false
set_option maxRecDepth 100000
set_option linter.unusedVariables false
set_option maxHeartbeats 4000000
instance (n : Int) : Decidable (i64ok n) := inferInstanceAs (Decidable (_ ∧ _))
instance (s : Style) : Decidable s.ok := inferInstanceAs (Decidable (_ ∧ _ ∧ _))
theorem wf_of_ok {n : Int} (h : i64ok n) : (Lit.int .i64 n).wf = true := by
  simp [Lit.wf, IntKind.min, IntKind.max, IntKind.signed, IntKind.bits]; exact h
theorem cells_style : Tryd.prog.cellsOf 34 = 3 := by kernel_rfl
theorem cells_int : Tryd.prog.cellsOf 3 = 1 := by kernel_rfl
def litsStyle (s : Style) : List Lit := [.int .i64 s.fore, .int .i64 s.back, .int .i64 s.bits]
theorem lits_style (s : Style) (h : s.ok) : Tryd.prog.keyLits 3 34 [.int .i64 s.fore, .int .i64 s.back, .int .i64 s.bits] = some (litsStyle s) := by
  have h1 := wf_of_ok h.1
  have h2 := wf_of_ok h.2.1
  have h3 := wf_of_ok h.2.2
  have hk : ∀ n : Int, (Lit.int .i64 n).wf = true → Tryd.prog.keyLits 2 3 [.int .i64 n] = some [.int .i64 n] := fun n hn => by simp [Program.keyLits, Tryd.underlying3, hn]
  conv => lhs; unfold Program.keyLits
  rw [Tryd.underlying34]
  dsimp only
  rw [if_pos ⟨by rw [cells_style]; rfl, by simp⟩]
  simp only [List.mapM_cons, List.mapM_nil]
  rw [cells_int]
  simp only [List.drop_zero, List.drop_succ_cons, List.take_succ_cons, List.take_zero, hk _ h1, hk _ h2, hk _ h3]
  rfl
theorem eq_style (a b : Style) (ha : a.ok) (hb : b.ok) (xo yo : Operand) : EqLaw Tryd.prog .eql 34 xo yo (encStyle a) (encStyle b) (decide (a = b)) :=
  eqLaw_agg 3 (by kernel_rfl) (by decide) (by kernel_rfl) Tryd.underlying34 rfl rfl (by rw [cells_style]; rfl) (by rw [cells_style]; rfl) (lits_style a ha) (lits_style b hb) (by
    obtain ⟨a1, a2, a3⟩ := a
    obtain ⟨b1, b2, b3⟩ := b
    simp [litsStyle])
theorem neq_style (a b : Style) (ha : a.ok) (hb : b.ok) (xo yo : Operand) : EqLaw Tryd.prog .neq 34 xo yo (encStyle a) (encStyle b) (!decide (a = b)) :=
  neqLaw_agg 3 (by kernel_rfl) (by decide) (by kernel_rfl) Tryd.underlying34 rfl rfl (by rw [cells_style]; rfl) (by rw [cells_style]; rfl) (lits_style a ha) (lits_style b hb) (by
    obtain ⟨a1, a2, a3⟩ := a
    obtain ⟨b1, b2, b3⟩ := b
    simp [litsStyle])
end Go.Eng.YtlfdmdhkbillpaaDoor
