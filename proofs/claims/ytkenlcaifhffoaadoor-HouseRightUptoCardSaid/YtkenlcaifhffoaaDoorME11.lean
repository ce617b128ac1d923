/- Texts put together: Eng34. -/
import Derived.Test.YtkenlcaifhffoaaDoorME3
import Derived.Maps.Keyed
import Derived.DeepKeys4
/- The engine, part 34: maps by the kit's laws on keys: keys of several cells, entries written again. -/
section
namespace Go.Eng
open Go Go.Maps
set_option linter.unusedSimpArgs false
set_option linter.unusedVariables false
structure KeyIs (P : Program) (kt : TypeId) (i : PV) (u : Value) : Prop where
  is : ∀ (K : Kn) (w : World) (x : Value), VRel K w i x → x = u
  key : ∃ l, keyOf P kt u = some l
def KeysAre (P : Program) (kt : TypeId) (es : List (PV × PV)) (us : List Value) : Prop :=
  us.length = es.length ∧ ∀ j, j < es.length → KeyIs P kt (es.getD j (.dead, .dead)).1 (us.getD j undef)
end Go.Eng
end
