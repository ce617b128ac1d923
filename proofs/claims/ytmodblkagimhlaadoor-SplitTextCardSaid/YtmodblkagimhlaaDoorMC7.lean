/- Texts put together: CloseRec. -/
import Derived.Test.YtmodblkagimhlaaDoorMC5
import Derived.Test.YtmodblkagimhlaaDoorMRB
import Derived.LaidLaws
/- What the statements of recordings that are read stand on: the tables and the two errors of strconv out of the row's list, a world that holds them. -/
section
set_option linter.unusedSimpArgs false
set_option maxRecDepth 100000
namespace Go.Eng.YtmodblkagimhlaaDoor
open Go Go.Eng Go.Proofs
abbrev Recs (W : World) : Prop := Nums W ∧ ErrJ W
end Go.Eng.YtmodblkagimhlaaDoor
namespace Go.Proofs.YtmodblkagimhlaaDoor
open Go Go.Eng Go.ChangeShapes Go.WideShapes Go.ChangeAt Go.RowKit Go.Shelf
abbrev recsLaid : List (String × DataW Unit) := [("math/bits.deBruijn32tab", Rows.laid_math_bits_deBruijn32tab), ("math/bits.deBruijn64tab", Rows.laid_math_bits_deBruijn64tab), ("internal/strconv.uint64pow10", Rows.laid_internal_strconv_uint64pow10), ("unicode/utf8.acceptRanges", Rows.laid_unicode_utf8_acceptRanges), ("strconv.ErrRange", Rows.laid_strconv_ErrRange), ("strconv.ErrSyntax", Rows.laid_strconv_ErrSyntax), ("unicode/utf8.first", Rows.laid_unicode_utf8_first)]
theorem laid_row {P : Program} {w : World} : ∀ {l : List (String × DataW Unit)} {ps : List MemPlace}, DataW.LaidVars P w l ps → ∀ {n : String} {d : DataW Unit}, (n, d) ∈ l →
    ∃ g t cs fuel p, P.globalNamed n = some g ∧ (P.globals[g]?).map (·.type) = some t ∧ w.var? P n = some cs ∧ DataW.trod (fun _ => ()) P w 0 (fun _ => true) false fuel t cs.toList = some (d, p) ∧ ∀ x ∈ MemPlace.row ⟨g, 0, none⟩ cs.size, x ∈ ps
  | [], ps, h, n, d, hm => by cases hm
  | (m, e) :: l, ps, h, n, d, hm => by
    obtain ⟨g, t, cs, fuel, p, q, h1, h2, h3, h4, h5, rfl⟩ := h
    rcases List.mem_cons.1 hm with hm | hm
    · cases hm
      exact ⟨g, t, cs, fuel, p, h1, h2, h3, h4, fun x hx => by simp [hx]⟩
    · obtain ⟨g', t', cs', fuel', p', a1, a2, a3, a4, a5⟩ := laid_row h5 hm
      exact ⟨g', t', cs', fuel', p', a1, a2, a3, a4, fun x hx => by simp [a5 x hx]⟩
theorem rowE (u : TypeId) (h : Tryd.prog.typeName? 3 u = some "*errors.errorString") : u = 239 :=
  typeName_ptr_named (nm := "errors.errorString") (by rw [show "*" ++ "errors.errorString" = "*errors.errorString" by decide]; kernel_rfl) (by kernel_rfl) (by decide) u (by rw [show "*" ++ "errors.errorString" = "*errors.errorString" by decide]; exact h)
noncomputable def lowR : Nat := (World.holding Tryd.prog default ⟨#[], #[], []⟩).heap.size
noncomputable def recsWorld (os : Os) : World :=
  let w0 := World.holding Tryd.prog os ⟨#[.cells #[.string { data := #[118, 97, 108, 117, 101, 32, 111, 117, 116, 32, 111, 102, 32, 114, 97, 110, 103, 101] }] 241, .cells #[.string { data := #[105, 110, 118, 97, 108, 105, 100, 32, 115, 121, 110, 116, 97, 120] }] 241], #[], []⟩
  let put (h : Array Obj) (g : Nat) (cs : Array Value) : Array Obj := h.modify g fun
    | .cells _ t frozen => .cells cs t frozen
    | o => o
  let h1 := put w0.heap 6 (litCells (partsOf Rows.laid_math_bits_deBruijn32tab)).toArray
  let h2 := put h1 7 (litCells (partsOf Rows.laid_math_bits_deBruijn64tab)).toArray
  let h3 := put h2 5 (litCells (partsOf Rows.laid_internal_strconv_uint64pow10)).toArray
  let h4 := put h3 0 (Lib.firstTab.map fun z => Value.int .u8 z).toArray
  let h5 := put h4 1 ((List.range 16).flatMap fun i => [Value.int .u8 (Lib.accLo i), Value.int .u8 (Lib.accHi i)]).toArray
  let h6 := put h5 3 #[.iface 239 (.pointer (some ⟨lowR, 0, none⟩))]
  let h7 := put h6 2 #[.iface 239 (.pointer (some ⟨lowR + 1, 0, none⟩))]
  { w0 with heap := h7 }
theorem recs_met (os : Os) (args : Array Value) : laidMet Tryd.prog recsLaid ((recsWorld os).forCall (fun _ _ => 0) ⟨#[], args, []⟩).memory :=
  (LaidIn.of_run (l := recsLaid) [6, 7, 5, 1, 3, 2, 0, lowR, lowR + 1] 8 (by kernel_rfl) (by kernel_rfl) (by kernel_rfl) (by kernel_rfl)).met
end Go.Proofs.YtmodblkagimhlaaDoor
end
