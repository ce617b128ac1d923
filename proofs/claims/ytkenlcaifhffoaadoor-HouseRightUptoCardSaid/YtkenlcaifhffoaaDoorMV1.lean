/- Texts put together: ValidL, ShelfV, Valid. -/
import Derived.Test.YtkenlcaifhffoaaDoorMT1
import Derived.Lib.ValidU
import Derived.Shelf.Unicode.ValidAny
import Derived.Test.YtkenlcaifhffoaaDoorProg
/- Valid texts put together: plain laws. -/
section
namespace Go.Eng.YtkenlcaifhffoaaDoor
open Go Go.Eng Go.Proofs
set_option linter.unusedSimpArgs false
set_option linter.unusedVariables false
end Go.Eng.YtkenlcaifhffoaaDoor
end

/-
  DERIVED: THE SHELF's CONTRACTS AT THIS DUMP, IN PLAIN WORDS (tools/lay-plain.mjs out of 'TrydShelfV.lean', which tools/lay-shelf.mjs wrote): THE SAME DECLARATIONS UNDER THE SAME NAMES: 'import', 'namespace', 'open', 'def', 'theorem' AND NOTHING ELSE: no command of the shelf's: FOR A HAND-IN. Each laying: the table of numbers ('.._ren') and one theorem, a field a fact of the dump's own or the kernel's comparison; each contract: ONE APPLICATION.
-/
section
namespace Go.Proofs
open Go.Shelf
def Tryd.lays196_ren : Go.Shelf.Ren := ⟨fun | 196 => 103 | 259 => 122 | n => n, fun | 9 => 9 | 4 => 4 | 3 => 3 | 5 => 5 | 12 => 12 | 119 => 161 | 0 => 0 | 46 => 165 | 139 => 164 | 138 => 163 | 53 => 178 | n => n, fun | 3 => 0 | 4 => 1 | n => n⟩
end Go.Proofs
end

/- unicode/utf8.ValidString. -/
section
namespace Go.Eng.YtkenlcaifhffoaaDoor
open Go Go.Eng Go.Proofs
variable (W : World)
end Go.Eng.YtkenlcaifhffoaaDoor
end
