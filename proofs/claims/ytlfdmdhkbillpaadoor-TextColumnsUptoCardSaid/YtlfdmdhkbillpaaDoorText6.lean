/- The document's reading of texts, rune by rune. -/
import Derived.Test.YtlfdmdhkbillpaaDoorWidthLaw
import Derived.Test.YtlfdmdhkbillpaaDoorText4
namespace Go.Eng.YtlfdmdhkbillpaaDoor
open Go Go.Eng Go.Proofs
variable (W : World)
set_option linter.unusedSimpArgs false
set_option maxRecDepth 100000
set_option linter.unusedVariables false
theorem decode_drop (s : List UInt8) (pos : Nat) (h : pos < s.length) : Utf8.decode ⟨s.toArray⟩ pos = dec (s.drop pos) := by
  have hne : s.drop pos ≠ [] := by simp; omega
  have hn : ¬ (⟨(s.drop pos).toArray⟩ : ByteArray).size = 0 := by simp [ByteArray.size]; omega
  have := Lib.decodeL_drop ⟨s.toArray⟩ pos
  rw [← this]
  simp only [dec, Lib.decodeGo, if_neg hn]
  rfl
def wideOfRs : List (Nat × Nat) → Int
  | [] => 0
  | p :: l => widthOfL p.1 + wideOfRs l
theorem wideOfRs_eq : ∀ l, wideOfRs l = wideRs l
  | [] => rfl
  | p :: l => by rw [wideOfRs, wideRs, wideOfRs_eq l, ← width_eq]; simp
end Go.Eng.YtlfdmdhkbillpaaDoor
