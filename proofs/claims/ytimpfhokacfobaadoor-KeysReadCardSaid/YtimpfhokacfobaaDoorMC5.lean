/- Texts put together: CloseBoth. -/
import Derived.Test.YtimpfhokacfobaaDoorMC1
/- What the statements of this seat stand on that list both the numerals' tables and those of package unicode/utf8: the tables out of the row's list, a world that holds them. -/
section
namespace Go.Eng.YtimpfhokacfobaaDoor
open Go Go.Eng Go.Proofs
abbrev Both (W : World) : Prop := Tabs W ∧ Nums W
end Go.Eng.YtimpfhokacfobaaDoor
namespace Go.Proofs.YtimpfhokacfobaaDoor
open Go Go.Eng Go.ChangeShapes Go.WideShapes Go.ChangeAt Go.RowKit Go.Shelf
abbrev bothLaid : List (String × DataW Unit) := [("math/bits.deBruijn32tab", Rows.laid_math_bits_deBruijn32tab), ("math/bits.deBruijn64tab", Rows.laid_math_bits_deBruijn64tab), ("internal/strconv.uint64pow10", Rows.laid_internal_strconv_uint64pow10), ("unicode/utf8.acceptRanges", Rows.laid_unicode_utf8_acceptRanges), ("unicode/utf8.first", Rows.laid_unicode_utf8_first)]
theorem both_of {W : World} (hL : laidMetH Tryd.prog bothLaid W) : Eng.YtimpfhokacfobaaDoor.Both W := by
  constructor
  · have h1 := Lib.laidMet.reads hL (.tail _ (.tail _ (.tail _ (.head _))))
    have h2 := Lib.laidMet.reads hL (.tail _ (.tail _ (.tail _ (.tail _ (.head _)))))
    rw [accept_eq] at h1
    rw [first_eq] at h2
    exact utf8Tabs_of_reads Tryd.lays260 ⟨by kernel_rfl, by kernel_rfl, by kernel_rfl, by kernel_rfl, by kernel_rfl, by kernel_rfl, by kernel_rfl⟩ h2 h1
  · have h1 := Lib.laidMet.reads hL (.tail _ (.tail _ (.head _)))
    rw [pow10_eq] at h1
    obtain ⟨g', t', cs, fuel, p, hg', ht', hvar, hd⟩ := h1
    obtain rfl := Option.some.inj ((show Tryd.prog.globalNamed "internal/strconv.uint64pow10" = some 3 by kernel_rfl).symm.trans hg')
    obtain rfl := Option.some.inj ((show (Tryd.prog.globals[(3 : Nat)]?).map (·.type) = some 159 by kernel_rfl).symm.trans ht')
    unfold Eng.YtimpfhokacfobaaDoor.Nums Lib.TabIs
    rw [hvar, ← Lib.cells_of_tab (n := 20) (e := 137) (show Tryd.prog.underlying 159 = _ by kernel_rfl) (show Tryd.prog.underlying 137 = _ by kernel_rfl) (by kernel_rfl) (by kernel_rfl) hd]
noncomputable def bothWorld (os : Os) : World :=
  let w0 := World.holding Tryd.prog os ⟨#[], #[], []⟩
  let put (h : Array Obj) (g : Nat) (cs : Array Value) : Array Obj := h.modify g fun
    | .cells _ t frozen => .cells cs t frozen
    | o => o
  let h1 := put w0.heap 6 (litCells (partsOf Rows.laid_math_bits_deBruijn32tab)).toArray
  let h2 := put h1 7 (litCells (partsOf Rows.laid_math_bits_deBruijn64tab)).toArray
  let h3 := put h2 3 (litCells (partsOf Rows.laid_internal_strconv_uint64pow10)).toArray
  let h4 := put h3 0 (Lib.firstTab.map fun z => Value.int .u8 z).toArray
  let h5 := put h4 1 ((List.range 16).flatMap fun i => [Value.int .u8 (Lib.accLo i), Value.int .u8 (Lib.accHi i)]).toArray
  { w0 with heap := h5 }
theorem both_met (os : Os) (args : Array Value) : laidMet Tryd.prog bothLaid ((bothWorld os).forCall (fun _ _ => 0) ⟨#[], args, []⟩).memory :=
  (LaidIn.of_run (l := bothLaid) [6, 7, 3, 1, 0] 8 (by kernel_rfl) (by kernel_rfl) (by kernel_rfl) (by kernel_rfl)).met
end Go.Proofs.YtimpfhokacfobaaDoor
end
