/- Texts put together: CloseRec. -/
import Derived.Test.YtbaokhehnilneaaGreatDoorMC5
import Derived.Test.YtbaokhehnilneaaGreatDoorMRB
import Derived.LaidLaws
/- What the statements of recordings that are read stand on: the tables and the two errors of strconv out of the row's list, a world that holds them. -/
section
set_option linter.unusedSimpArgs false
set_option maxRecDepth 100000
namespace Go.Eng.YtbaokhehnilneaaGreatDoor
open Go Go.Eng Go.Proofs
abbrev Recs (W : World) : Prop := Nums W ∧ ErrJ W
end Go.Eng.YtbaokhehnilneaaGreatDoor
namespace Go.Proofs.YtbaokhehnilneaaGreatDoor
open Go Go.Eng Go.ChangeShapes Go.WideShapes Go.ChangeAt Go.RowKit Go.Shelf
abbrev recsLaid : List (String × DataW Unit) := [("math/bits.deBruijn32tab", Rows.laid_math_bits_deBruijn32tab), ("math/bits.deBruijn64tab", Rows.laid_math_bits_deBruijn64tab), ("internal/strconv.uint64pow10", Rows.laid_internal_strconv_uint64pow10), ("unicode/utf8.acceptRanges", Rows.laid_unicode_utf8_acceptRanges), ("strconv.ErrRange", Rows.laid_strconv_ErrRange), ("strconv.ErrSyntax", Rows.laid_strconv_ErrSyntax), ("unicode/utf8.first", Rows.laid_unicode_utf8_first)]
theorem laid_row {P : Program} {w : World} : ∀ {l : List (String × DataW Unit)} {ps : List MemPlace}, DataW.LaidVars P w l ps → ∀ {n : String} {d : DataW Unit}, (n, d) ∈ l →
    ∃ g t cs fuel p, P.globalNamed n = some g ∧ (P.globals[g]?).map (·.type) = some t ∧ w.var? P n = some cs ∧ DataW.trod (fun _ => ()) P w 0 (fun _ => true) false fuel t cs.toList = some (d, p) ∧ ∀ x ∈ MemPlace.row ⟨g, 0, none⟩ cs.size, x ∈ ps
  | [], ps, h, n, d, hm => by cases hm
  | (m, e) :: l, ps, h, n, d, hm => by
    obtain ⟨g, t, cs, fuel, p, q, h1, h2, h3, h4, h5, rfl⟩ := h
    rcases List.mem_cons.1 hm with hm | hm
    · cases hm
      exact ⟨g, t, cs, fuel, p, h1, h2, h3, h4, fun x hx => by simp [hx]⟩
    · obtain ⟨g', t', cs', fuel', p', a1, a2, a3, a4, a5⟩ := laid_row h5 hm
      exact ⟨g', t', cs', fuel', p', a1, a2, a3, a4, fun x hx => by simp [a5 x hx]⟩
theorem rowE (u : TypeId) (h : Tryz.prog.typeName? 3 u = some "*errors.errorString") : u = 159 :=
  typeName_ptr_named (nm := "errors.errorString") (by rw [show "*" ++ "errors.errorString" = "*errors.errorString" by decide]; kernel_rfl) (by kernel_rfl) (by decide) u (by rw [show "*" ++ "errors.errorString" = "*errors.errorString" by decide]; exact h)
theorem err_of {W : World} (h : laidMet Tryz.prog recsLaid W) {n : String} {text : List UInt8} (hm : (n, (.iface "*errors.errorString" (.ptr (.agg [.lit (.string text)])) : DataW Unit)) ∈ recsLaid) {g : Nat} (hg : Tryz.prog.globalNamed n = some g)
    (ht : (Tryz.prog.globals[g]?).map (·.type) = some 69) : ∃ t p, W.cell? ⟨g, 0, none⟩ = some (.iface t p) := by
  obtain ⟨ps, hv, hnd, hrows⟩ := h
  obtain ⟨g0, t0, cs, fuel, p, a1, a2, a3, a4, a5⟩ := laid_row hv hm
  obtain rfl := Option.some.inj (hg.symm.trans a1)
  obtain rfl := Option.some.inj (ht.symm.trans a2)
  obtain ⟨cl⟩ := cs
  have ok0 : ∀ u v, cl = [.iface u v] → Value.okWide Tryz.prog W .any 0 u v := fun u v e => by
    subst e
    exact (hrows g 0 (a5 _ (by simp [MemPlace.row]))).2 u v (by simpa using World.var?_cell a1 a3 0)
  obtain ⟨a0, s0, rfl, hc0, hs0, hz0, _⟩ := errorString_of_trod Tryz.underlying69 rowE Tryz.underlying159 Tryz.underlying161 rfl rfl Tryz.underlying9 (by kernel_rfl) (by kernel_rfl) a4 ok0
  exact ⟨_, _, by simpa using World.var?_cell a1 a3 0⟩
theorem recs_of {W : World} (hL : laidMetH Tryz.prog recsLaid W) : Eng.YtbaokhehnilneaaGreatDoor.Recs W := by
  replace hL : laidMet Tryz.prog recsLaid W := (MakeChecks.laidMetH_plain Tryz.prog recsLaid W (by kernel_rfl)).mp hL
  refine ⟨?_, ?_, ?_⟩
  · have h1 := Lib.laidMet.reads hL (.tail _ (.tail _ (.head _)))
    rw [pow10_eq] at h1
    obtain ⟨g', t', cs, fuel, p, hg', ht', hvar, hd⟩ := h1
    obtain rfl := Option.some.inj ((show Tryz.prog.globalNamed "internal/strconv.uint64pow10" = some 3 by kernel_rfl).symm.trans hg')
    obtain rfl := Option.some.inj ((show (Tryz.prog.globals[(3 : Nat)]?).map (·.type) = some 135 by kernel_rfl).symm.trans ht')
    unfold Eng.YtbaokhehnilneaaGreatDoor.Nums Lib.TabIs
    rw [hvar, ← Lib.cells_of_tab (n := 20) (e := 105) (show Tryz.prog.underlying 135 = _ by kernel_rfl) (show Tryz.prog.underlying 105 = _ by kernel_rfl) (by kernel_rfl) (by kernel_rfl) hd]
  · exact err_of hL (n := "strconv.ErrSyntax") (.tail _ (.tail _ (.tail _ (.tail _ (.tail _ (.head _)))))) (by kernel_rfl) (by kernel_rfl)
  · exact err_of hL (n := "strconv.ErrRange") (.tail _ (.tail _ (.tail _ (.tail _ (.head _))))) (by kernel_rfl) (by kernel_rfl)
noncomputable def lowR : Nat := (World.holding Tryz.prog default ⟨#[], #[], []⟩).heap.size
noncomputable def recsWorld (os : Os) : World :=
  let w0 := World.holding Tryz.prog os ⟨#[.cells #[.string { data := #[118, 97, 108, 117, 101, 32, 111, 117, 116, 32, 111, 102, 32, 114, 97, 110, 103, 101] }] 161, .cells #[.string { data := #[105, 110, 118, 97, 108, 105, 100, 32, 115, 121, 110, 116, 97, 120] }] 161], #[], []⟩
  let put (h : Array Obj) (g : Nat) (cs : Array Value) : Array Obj := h.modify g fun
    | .cells _ t frozen => .cells cs t frozen
    | o => o
  let h1 := put w0.heap 13 (litCells (partsOf Rows.laid_math_bits_deBruijn32tab)).toArray
  let h2 := put h1 14 (litCells (partsOf Rows.laid_math_bits_deBruijn64tab)).toArray
  let h3 := put h2 3 (litCells (partsOf Rows.laid_internal_strconv_uint64pow10)).toArray
  let h4 := put h3 4 (Lib.firstTab.map fun z => Value.int .u8 z).toArray
  let h5 := put h4 5 ((List.range 16).flatMap fun i => [Value.int .u8 (Lib.accLo i), Value.int .u8 (Lib.accHi i)]).toArray
  let h6 := put h5 12 #[.iface 159 (.pointer (some ⟨lowR, 0, none⟩))]
  let h7 := put h6 11 #[.iface 159 (.pointer (some ⟨lowR + 1, 0, none⟩))]
  { w0 with heap := h7 }
theorem max_of_rec {W : World} (h : W.ShapedOpen Tryz.prog) : Eng.YtbaokhehnilneaaGreatDoor.MaxJ W := Go.Proofs.cell_of_shapedOpen_int (zero := #[.int .i64 0]) (t := 3) h (of_decide_eq_true (by kernel_rfl)) (by kernel_rfl) rfl (by kernel_rfl) (by kernel_rfl) Tryz.underlying3
end Go.Proofs.YtbaokhehnilneaaGreatDoor
end
