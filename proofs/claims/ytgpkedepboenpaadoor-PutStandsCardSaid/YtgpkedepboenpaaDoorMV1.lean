/- Texts put together: ShelfV, Valid. -/
import Derived.Shelf.Unicode.ValidAny
import Derived.Test.YtgpkedepboenpaaDoorProg
import Derived.Test.YtgpkedepboenpaaDoorMT1
/-
  DERIVED: THE SHELF's CONTRACTS AT THIS DUMP, IN PLAIN WORDS (tools/lay-plain.mjs out of 'TrydShelfV.lean', which tools/lay-shelf.mjs wrote): THE SAME DECLARATIONS UNDER THE SAME NAMES: 'import', 'namespace', 'open', 'def', 'theorem' AND NOTHING ELSE: no command of the shelf's: FOR A HAND-IN. Each laying: the table of numbers ('.._ren') and one theorem, a field a fact of the dump's own or the kernel's comparison; each contract: ONE APPLICATION.
-/
section
namespace Go.Proofs
open Go.Shelf
def Tryd.lays196_ren : Go.Shelf.Ren := ⟨fun | 196 => 36 | 259 => 97 | n => n, fun | 9 => 9 | 4 => 4 | 3 => 3 | 5 => 5 | 12 => 12 | 119 => 89 | 0 => 0 | 46 => 93 | 139 => 92 | 138 => 91 | 53 => 130 | n => n, fun | 3 => 0 | 4 => 1 | n => n⟩
theorem Tryd.lays196 : Go.Proofs.Lays.n196 Tryd.prog Tryd.lays196_ren := {
  mixed := by kernel_rfl
  f196 := Tryd.func36.trans (congrArg some (by kernel_rfl))
  f259 := Tryd.func97.trans (congrArg some (by kernel_rfl))
  t0 := Tryd.underlying0
  a0 := Tryd.isAgg0
  z0 := Tryd.sizeOf0
  v0 := Tryd.zeroValue0
  t3 := Tryd.underlying3
  a3 := Tryd.isAgg3
  z3 := Tryd.sizeOf3
  v3 := Tryd.zeroValue3
  t4 := Tryd.underlying4
  a4 := Tryd.isAgg4
  z4 := Tryd.sizeOf4
  v4 := Tryd.zeroValue4
  t5 := Tryd.underlying5
  a5 := Tryd.isAgg5
  z5 := Tryd.sizeOf5
  v5 := Tryd.zeroValue5
  t9 := Tryd.underlying9
  a9 := Tryd.isAgg9
  z9 := Tryd.sizeOf9
  v9 := Tryd.zeroValue9
  t12 := Tryd.underlying12
  a12 := Tryd.isAgg12
  z12 := Tryd.sizeOf12
  v12 := Tryd.zeroValue12
  t46 := Tryd.underlying93
  a46 := Tryd.isAgg93
  z46 := Tryd.sizeOf93
  v46 := Tryd.zeroValue93
  t53 := Tryd.underlying130
  a53 := Tryd.isAgg130
  z53 := Tryd.sizeOf130
  v53 := Tryd.zeroValue130
  t119 := Tryd.underlying89
  a119 := Tryd.isAgg89
  z119 := Tryd.sizeOf89
  t138 := Tryd.underlying91
  a138 := Tryd.isAgg91
  z138 := Tryd.sizeOf91
  v138 := Tryd.zeroValue91
  t139 := Tryd.underlying92
  a139 := Tryd.isAgg92
  z139 := Tryd.sizeOf92
  v139 := Tryd.zeroValue92
  g3 := by kernel_rfl
  g4 := by kernel_rfl }
open Go.RowKit Go.Lib in
/-- unicode/utf8.ValidString AT EVERY STRING. -/
theorem Tryd.utf8_ValidString (s : ByteArray) (w : World) (hs : s.size ≤ 9223372036854775807) (hT : Lib.Utf8Tabs 0 1 w) :
    Calls Tryd.prog 36 #[.string s] w fun e w' => e = .returned (.bool (Lib.validD s.data.toList)) ∧ Below w.heap.size w w' := Any.utf8_ValidString Tryd.lays196 s w hs hT
end Go.Proofs
end

/- unicode/utf8.ValidString. -/
section
namespace Go.Eng.YtgpkedepboenpaaDoor
open Go Go.Eng Go.Proofs
variable (W : World)
theorem valid_ok (hT : Tabs W) (s : List UInt8) (hs : s.length ≤ 140737488355328) : Pure Tryd.prog W 36 [.str s] (.bool (Lib.validD s)) :=
  Pure.of_below Tryd.func36 rfl (by decide) rfl rfl fun w _ hw => Tryd.utf8_ValidString ⟨s.toArray⟩ w (by show s.toArray.size ≤ _; simp; omega) (tabs_at hT hw)
end Go.Eng.YtgpkedepboenpaaDoor
end
