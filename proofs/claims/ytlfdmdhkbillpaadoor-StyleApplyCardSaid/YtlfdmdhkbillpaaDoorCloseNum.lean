/- What the statements of this seat that list the numerals' tables stand on: the table out of the row's list, a world that holds them. -/
import Derived.Test.YtlfdmdhkbillpaaDoorCloseBase
import Derived.Test.YtlfdmdhkbillpaaDoorOpen
import Derived.Test.YtlfdmdhkbillpaaDoorStyle3
import Derived.Lib.LaidIn
import Derived.Lib.LaidTab
import Derived.Lib.LaidU8
namespace Go.Proofs.YtlfdmdhkbillpaaDoor
open Go Go.Eng Go.ChangeShapes Go.WideShapes Go.ChangeAt Go.RowKit Go.Shelf
abbrev numLaid : List (String × DataW Unit) := [("math/bits.deBruijn32tab", Rows.laid_math_bits_deBruijn32tab), ("math/bits.deBruijn64tab", Rows.laid_math_bits_deBruijn64tab), ("internal/strconv.uint64pow10", Rows.laid_internal_strconv_uint64pow10)]
theorem pow10_eq : Rows.laid_internal_strconv_uint64pow10 = (Lib.tabData .u64 Lib.pow10Tab : DataW Unit) := by kernel_rfl
theorem nums_of {W : World} (hL : laidMetH Tryd.prog numLaid W) : Eng.YtlfdmdhkbillpaaDoor.Nums W := by
  have h1 := Lib.laidMet.reads hL (.tail _ (.tail _ (.head _)))
  rw [pow10_eq] at h1
  obtain ⟨g', t', cs, fuel, p, hg', ht', hvar, hd⟩ := h1
  obtain rfl := Option.some.inj ((show Tryd.prog.globalNamed "internal/strconv.uint64pow10" = some 3 by kernel_rfl).symm.trans hg')
  obtain rfl := Option.some.inj ((show (Tryd.prog.globals[(3 : Nat)]?).map (·.type) = some 153 by kernel_rfl).symm.trans ht')
  unfold Eng.YtlfdmdhkbillpaaDoor.Nums Lib.TabIs
  rw [hvar, ← Lib.cells_of_tab (n := 20) (e := 135) (show Tryd.prog.underlying 153 = _ by kernel_rfl) (show Tryd.prog.underlying 135 = _ by kernel_rfl) (by kernel_rfl) (by kernel_rfl) hd]
def litCells : List (DataW Unit) → List Value
  | [] => []
  | .lit (.int k n) :: r => .int k n :: litCells r
  | _ :: r => undef :: litCells r
def partsOf : DataW Unit → List (DataW Unit)
  | .agg ps => ps
  | _ => []
noncomputable def numWorld (os : Os) : World :=
  let w0 := World.holding Tryd.prog os ⟨#[], #[], []⟩
  let put (h : Array Obj) (g : Nat) (cs : Array Value) : Array Obj := h.modify g fun
    | .cells _ t frozen => .cells cs t frozen
    | o => o
  let h1 := put w0.heap 4 (litCells (partsOf Rows.laid_math_bits_deBruijn32tab)).toArray
  let h2 := put h1 5 (litCells (partsOf Rows.laid_math_bits_deBruijn64tab)).toArray
  let h3 := put h2 3 (litCells (partsOf Rows.laid_internal_strconv_uint64pow10)).toArray
  { w0 with heap := h3 }
theorem num_met (os : Os) (args : Array Value) : laidMet Tryd.prog numLaid ((numWorld os).forCall (fun _ _ => 0) ⟨#[], args, []⟩).memory :=
  (LaidIn.of_run (l := numLaid) [4, 5, 3] 8 (by kernel_rfl) (by kernel_rfl) (by kernel_rfl) (by kernel_rfl)).met
end Go.Proofs.YtlfdmdhkbillpaaDoor
