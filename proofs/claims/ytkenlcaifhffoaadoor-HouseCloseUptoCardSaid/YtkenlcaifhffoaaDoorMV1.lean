/- Texts put together: ValidL, ShelfV, Valid. -/
import Derived.Test.YtkenlcaifhffoaaDoorMT1
import Derived.Lib.ValidU
import Derived.Shelf.Unicode.ValidAny
import Derived.Test.YtkenlcaifhffoaaDoorProg
/- Valid texts put together: plain laws. -/
section
namespace Go.Eng.YtkenlcaifhffoaaDoor
open Go Go.Eng Go.Proofs
set_option linter.unusedSimpArgs false
set_option linter.unusedVariables false
theorem dec_LV {s : List UInt8} (h : s ≠ []) : dec s = Lib.decodeL s := by
  have hn : ¬ (⟨s.toArray⟩ : ByteArray).size = 0 := by simpa [ByteArray.size] using h
  simp only [dec, Lib.decodeGo, if_neg hn]; rfl
end Go.Eng.YtkenlcaifhffoaaDoor
end

/-
  DERIVED: THE SHELF's CONTRACTS AT THIS DUMP, IN PLAIN WORDS (tools/lay-plain.mjs out of 'TrydShelfV.lean', which tools/lay-shelf.mjs wrote): THE SAME DECLARATIONS UNDER THE SAME NAMES: 'import', 'namespace', 'open', 'def', 'theorem' AND NOTHING ELSE: no command of the shelf's: FOR A HAND-IN. Each laying: the table of numbers ('.._ren') and one theorem, a field a fact of the dump's own or the kernel's comparison; each contract: ONE APPLICATION.
-/
section
namespace Go.Proofs
open Go.Shelf
def Tryd.lays196_ren : Go.Shelf.Ren := ⟨fun | 196 => 103 | 259 => 122 | n => n, fun | 9 => 9 | 4 => 4 | 3 => 3 | 5 => 5 | 12 => 12 | 119 => 161 | 0 => 0 | 46 => 165 | 139 => 164 | 138 => 163 | 53 => 178 | n => n, fun | 3 => 0 | 4 => 1 | n => n⟩
theorem Tryd.lays196 : Go.Proofs.Lays.n196 Tryd.prog Tryd.lays196_ren := {
  mixed := by kernel_rfl
  f196 := Tryd.func103.trans (congrArg some (by kernel_rfl))
  f259 := Tryd.func122.trans (congrArg some (by kernel_rfl))
  t0 := Tryd.underlying0
  a0 := Tryd.isAgg0
  z0 := Tryd.sizeOf0
  v0 := Tryd.zeroValue0
  t3 := Tryd.underlying3
  a3 := Tryd.isAgg3
  z3 := Tryd.sizeOf3
  v3 := Tryd.zeroValue3
  t4 := Tryd.underlying4
  a4 := Tryd.isAgg4
  z4 := Tryd.sizeOf4
  v4 := Tryd.zeroValue4
  t5 := Tryd.underlying5
  a5 := Tryd.isAgg5
  z5 := Tryd.sizeOf5
  v5 := Tryd.zeroValue5
  t9 := Tryd.underlying9
  a9 := Tryd.isAgg9
  z9 := Tryd.sizeOf9
  v9 := Tryd.zeroValue9
  t12 := Tryd.underlying12
  a12 := Tryd.isAgg12
  z12 := Tryd.sizeOf12
  v12 := Tryd.zeroValue12
  t46 := Tryd.underlying165
  a46 := Tryd.isAgg165
  z46 := Tryd.sizeOf165
  v46 := Tryd.zeroValue165
  t53 := Tryd.underlying178
  a53 := Tryd.isAgg178
  z53 := Tryd.sizeOf178
  v53 := Tryd.zeroValue178
  t119 := Tryd.underlying161
  a119 := Tryd.isAgg161
  z119 := Tryd.sizeOf161
  t138 := Tryd.underlying163
  a138 := Tryd.isAgg163
  z138 := Tryd.sizeOf163
  v138 := Tryd.zeroValue163
  t139 := Tryd.underlying164
  a139 := Tryd.isAgg164
  z139 := Tryd.sizeOf164
  v139 := Tryd.zeroValue164
  g3 := by kernel_rfl
  g4 := by kernel_rfl }
open Go.RowKit Go.Lib in
theorem Tryd.utf8_ValidString (s : ByteArray) (w : World) (hs : s.size ≤ 9223372036854775807) (hT : Lib.Utf8Tabs 0 1 w) :
    Calls Tryd.prog 103 #[.string s] w fun e w' => e = .returned (.bool (Lib.validD s.data.toList)) ∧ Below w.heap.size w w' := Any.utf8_ValidString Tryd.lays196 s w hs hT
end Go.Proofs
end

/- unicode/utf8.ValidString. -/
section
namespace Go.Eng.YtkenlcaifhffoaaDoor
open Go Go.Eng Go.Proofs
variable (W : World)
theorem valid_ok (hT : Tabs W) (s : List UInt8) (hs : s.length ≤ 140737488355328) : Pure Tryd.prog W 103 [.str s] (.bool (Lib.validD s)) :=
  Pure.of_below Tryd.func103 rfl (by decide) rfl rfl fun w _ hw => Tryd.utf8_ValidString ⟨s.toArray⟩ w (by show s.toArray.size ≤ _; simp; omega) (tabs_at hT hw)
end Go.Eng.YtkenlcaifhffoaaDoor
end
