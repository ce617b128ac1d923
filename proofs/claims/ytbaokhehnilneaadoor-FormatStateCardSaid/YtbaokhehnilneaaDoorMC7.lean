/- Texts put together: CloseRec. -/
import Derived.Test.YtbaokhehnilneaaDoorMC5
import Derived.Test.YtbaokhehnilneaaDoorMRB
import Derived.LaidLaws
/- What the statements of recordings that are read stand on: the tables and the two errors of strconv out of the row's list, a world that holds them. -/
section
set_option linter.unusedSimpArgs false
set_option maxRecDepth 100000
namespace Go.Eng.YtbaokhehnilneaaDoor
open Go Go.Eng Go.Proofs
abbrev Recs (W : World) : Prop := Nums W ∧ ErrJ W
end Go.Eng.YtbaokhehnilneaaDoor
namespace Go.Proofs.YtbaokhehnilneaaDoor
open Go Go.Eng Go.ChangeShapes Go.WideShapes Go.ChangeAt Go.RowKit Go.Shelf
abbrev recsLaid : List (String × DataW Unit) := [("math/bits.deBruijn32tab", Rows.laid_math_bits_deBruijn32tab), ("math/bits.deBruijn64tab", Rows.laid_math_bits_deBruijn64tab), ("internal/strconv.uint64pow10", Rows.laid_internal_strconv_uint64pow10), ("unicode/utf8.acceptRanges", Rows.laid_unicode_utf8_acceptRanges), ("strconv.ErrRange", Rows.laid_strconv_ErrRange), ("strconv.ErrSyntax", Rows.laid_strconv_ErrSyntax), ("unicode/utf8.first", Rows.laid_unicode_utf8_first)]
noncomputable def lowR : Nat := (World.holding Tryd.prog default ⟨#[], #[], []⟩).heap.size
noncomputable def recsWorld (os : Os) : World :=
  let w0 := World.holding Tryd.prog os ⟨#[.cells #[.string { data := #[118, 97, 108, 117, 101, 32, 111, 117, 116, 32, 111, 102, 32, 114, 97, 110, 103, 101] }] 110, .cells #[.string { data := #[105, 110, 118, 97, 108, 105, 100, 32, 115, 121, 110, 116, 97, 120] }] 110], #[], []⟩
  let put (h : Array Obj) (g : Nat) (cs : Array Value) : Array Obj := h.modify g fun
    | .cells _ t frozen => .cells cs t frozen
    | o => o
  let h1 := put w0.heap 6 (litCells (partsOf Rows.laid_math_bits_deBruijn32tab)).toArray
  let h2 := put h1 7 (litCells (partsOf Rows.laid_math_bits_deBruijn64tab)).toArray
  let h3 := put h2 5 (litCells (partsOf Rows.laid_internal_strconv_uint64pow10)).toArray
  let h4 := put h3 1 (Lib.firstTab.map fun z => Value.int .u8 z).toArray
  let h5 := put h4 2 ((List.range 16).flatMap fun i => [Value.int .u8 (Lib.accLo i), Value.int .u8 (Lib.accHi i)]).toArray
  let h6 := put h5 4 #[.iface 108 (.pointer (some ⟨lowR, 0, none⟩))]
  let h7 := put h6 3 #[.iface 108 (.pointer (some ⟨lowR + 1, 0, none⟩))]
  { w0 with heap := h7 }
theorem recs_met (os : Os) (args : Array Value) : laidMet Tryd.prog recsLaid ((recsWorld os).forCall (fun _ _ => 0) ⟨#[], args, []⟩).memory :=
  (LaidIn.of_run (l := recsLaid) [6, 7, 5, 2, 4, 3, 1, lowR, lowR + 1] 8 (by kernel_rfl) (by kernel_rfl) (by kernel_rfl) (by kernel_rfl)).met
end Go.Proofs.YtbaokhehnilneaaDoor
end
