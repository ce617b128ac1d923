/- Texts put together: CloseRec. -/
import Derived.Test.YtkenlcaifhffoaaDoorMC5
import Derived.Test.YtkenlcaifhffoaaDoorMRB
import Derived.LaidLaws
/- What the statements of recordings that are read stand on: the tables and the two errors of strconv out of the row's list, a world that holds them. -/
section
set_option linter.unusedSimpArgs false
set_option maxRecDepth 100000
namespace Go.Eng.YtkenlcaifhffoaaDoor
open Go Go.Eng Go.Proofs
abbrev Recs (W : World) : Prop := Nums W ∧ ErrJ W
end Go.Eng.YtkenlcaifhffoaaDoor
namespace Go.Proofs.YtkenlcaifhffoaaDoor
open Go Go.Eng Go.ChangeShapes Go.WideShapes Go.ChangeAt Go.RowKit Go.Shelf
abbrev recsLaid : List (String × DataW Unit) := [("math/bits.deBruijn32tab", Rows.laid_math_bits_deBruijn32tab), ("math/bits.deBruijn64tab", Rows.laid_math_bits_deBruijn64tab), ("internal/strconv.uint64pow10", Rows.laid_internal_strconv_uint64pow10), ("unicode/utf8.acceptRanges", Rows.laid_unicode_utf8_acceptRanges), ("strconv.ErrRange", Rows.laid_strconv_ErrRange), ("strconv.ErrSyntax", Rows.laid_strconv_ErrSyntax), ("unicode/utf8.first", Rows.laid_unicode_utf8_first)]
theorem laid_row {P : Program} {w : World} : ∀ {l : List (String × DataW Unit)} {ps : List MemPlace}, DataW.LaidVars P w l ps → ∀ {n : String} {d : DataW Unit}, (n, d) ∈ l →
    ∃ g t cs fuel p, P.globalNamed n = some g ∧ (P.globals[g]?).map (·.type) = some t ∧ w.var? P n = some cs ∧ DataW.trod (fun _ => ()) P w 0 (fun _ => true) false fuel t cs.toList = some (d, p) ∧ ∀ x ∈ MemPlace.row ⟨g, 0, none⟩ cs.size, x ∈ ps
  | [], ps, h, n, d, hm => by cases hm
  | (m, e) :: l, ps, h, n, d, hm => by
    obtain ⟨g, t, cs, fuel, p, q, h1, h2, h3, h4, h5, rfl⟩ := h
    rcases List.mem_cons.1 hm with hm | hm
    · cases hm
      exact ⟨g, t, cs, fuel, p, h1, h2, h3, h4, fun x hx => by simp [hx]⟩
    · obtain ⟨g', t', cs', fuel', p', a1, a2, a3, a4, a5⟩ := laid_row h5 hm
      exact ⟨g', t', cs', fuel', p', a1, a2, a3, a4, fun x hx => by simp [a5 x hx]⟩
theorem rowE (u : TypeId) (h : Tryd.prog.typeName? 3 u = some "*errors.errorString") : u = 203 :=
  typeName_ptr_named (nm := "errors.errorString") (by rw [show "*" ++ "errors.errorString" = "*errors.errorString" by decide]; kernel_rfl) (by kernel_rfl) (by decide) u (by rw [show "*" ++ "errors.errorString" = "*errors.errorString" by decide]; exact h)
theorem err_of {W : World} (h : laidMet Tryd.prog recsLaid W) {n : String} {text : List UInt8} (hm : (n, (.iface "*errors.errorString" (.ptr (.agg [.lit (.string text)])) : DataW Unit)) ∈ recsLaid) {g : Nat} (hg : Tryd.prog.globalNamed n = some g)
    (ht : (Tryd.prog.globals[g]?).map (·.type) = some 138) : ∃ t p, W.cell? ⟨g, 0, none⟩ = some (.iface t p) := by
  obtain ⟨ps, hv, hnd, hrows⟩ := h
  obtain ⟨g0, t0, cs, fuel, p, a1, a2, a3, a4, a5⟩ := laid_row hv hm
  obtain rfl := Option.some.inj (hg.symm.trans a1)
  obtain rfl := Option.some.inj (ht.symm.trans a2)
  obtain ⟨cl⟩ := cs
  have ok0 : ∀ u v, cl = [.iface u v] → Value.okWide Tryd.prog W .any 0 u v := fun u v e => by
    subst e
    exact (hrows g 0 (a5 _ (by simp [MemPlace.row]))).2 u v (by simpa using World.var?_cell a1 a3 0)
  obtain ⟨a0, s0, rfl, hc0, hs0, hz0, _⟩ := errorString_of_trod Tryd.underlying138 rowE Tryd.underlying203 Tryd.underlying205 rfl rfl Tryd.underlying9 (by kernel_rfl) (by kernel_rfl) a4 ok0
  exact ⟨_, _, by simpa using World.var?_cell a1 a3 0⟩
theorem recs_of {W : World} (hL : laidMetH Tryd.prog recsLaid W) : Eng.YtkenlcaifhffoaaDoor.Recs W := by
  replace hL : laidMet Tryd.prog recsLaid W := (MakeChecks.laidMetH_plain Tryd.prog recsLaid W (by kernel_rfl)).mp hL
  refine ⟨?_, ?_, ?_⟩
  · have h1 := Lib.laidMet.reads hL (.tail _ (.tail _ (.head _)))
    rw [pow10_eq] at h1
    obtain ⟨g', t', cs, fuel, p, hg', ht', hvar, hd⟩ := h1
    obtain rfl := Option.some.inj ((show Tryd.prog.globalNamed "internal/strconv.uint64pow10" = some 5 by kernel_rfl).symm.trans hg')
    obtain rfl := Option.some.inj ((show (Tryd.prog.globals[(5 : Nat)]?).map (·.type) = some 213 by kernel_rfl).symm.trans ht')
    unfold Eng.YtkenlcaifhffoaaDoor.Nums Lib.TabIs
    rw [hvar, ← Lib.cells_of_tab (n := 20) (e := 178) (show Tryd.prog.underlying 213 = _ by kernel_rfl) (show Tryd.prog.underlying 178 = _ by kernel_rfl) (by kernel_rfl) (by kernel_rfl) hd]
  · exact err_of hL (n := "strconv.ErrSyntax") (.tail _ (.tail _ (.tail _ (.tail _ (.tail _ (.head _)))))) (by kernel_rfl) (by kernel_rfl)
  · exact err_of hL (n := "strconv.ErrRange") (.tail _ (.tail _ (.tail _ (.tail _ (.head _))))) (by kernel_rfl) (by kernel_rfl)
noncomputable def lowR : Nat := (World.holding Tryd.prog default ⟨#[], #[], []⟩).heap.size
noncomputable def recsWorld (os : Os) : World :=
  let w0 := World.holding Tryd.prog os ⟨#[.cells #[.string { data := #[118, 97, 108, 117, 101, 32, 111, 117, 116, 32, 111, 102, 32, 114, 97, 110, 103, 101] }] 205, .cells #[.string { data := #[105, 110, 118, 97, 108, 105, 100, 32, 115, 121, 110, 116, 97, 120] }] 205], #[], []⟩
  let put (h : Array Obj) (g : Nat) (cs : Array Value) : Array Obj := h.modify g fun
    | .cells _ t frozen => .cells cs t frozen
    | o => o
  let h1 := put w0.heap 6 (litCells (partsOf Rows.laid_math_bits_deBruijn32tab)).toArray
  let h2 := put h1 7 (litCells (partsOf Rows.laid_math_bits_deBruijn64tab)).toArray
  let h3 := put h2 5 (litCells (partsOf Rows.laid_internal_strconv_uint64pow10)).toArray
  let h4 := put h3 0 (Lib.firstTab.map fun z => Value.int .u8 z).toArray
  let h5 := put h4 1 ((List.range 16).flatMap fun i => [Value.int .u8 (Lib.accLo i), Value.int .u8 (Lib.accHi i)]).toArray
  let h6 := put h5 4 #[.iface 203 (.pointer (some ⟨lowR, 0, none⟩))]
  let h7 := put h6 3 #[.iface 203 (.pointer (some ⟨lowR + 1, 0, none⟩))]
  { w0 with heap := h7 }
theorem recs_met (os : Os) (args : Array Value) : laidMet Tryd.prog recsLaid ((recsWorld os).forCall (fun _ _ => 0) ⟨#[], args, []⟩).memory :=
  (LaidIn.of_run (l := recsLaid) [6, 7, 5, 1, 4, 3, 0, lowR, lowR + 1] 8 (by kernel_rfl) (by kernel_rfl) (by kernel_rfl) (by kernel_rfl)).met
end Go.Proofs.YtkenlcaifhffoaaDoor
end
