/- Texts put together: DskPG. -/
import Derived.Test.YtphoefglfbifdaaDoorMW7
/- What printing leaves as it is: plain. -/
section
namespace Go.Eng.YtphoefglfbifdaaDoor
open Go Go.Eng Go.Proofs
theorem feedW_g (p : Wk) : (feedW p).1.g = p.1.g := by
  unfold feedW; split <;> rfl
theorem printW_g (p : Wk) (r : Int) : (printW p r).1.g = p.1.g := by
  have h1 : (beforeW p (widthL r)).1.g = p.1.g := by
    unfold beforeW; split
    · exact feedW_g _
    · rfl
  unfold printW; split
  · rfl
  · rw [← h1]
    unfold afterW; split
    · rfl
    · show (behind _ r).g = _
      unfold behind; split <;> rfl
end Go.Eng.YtphoefglfbifdaaDoor
end
