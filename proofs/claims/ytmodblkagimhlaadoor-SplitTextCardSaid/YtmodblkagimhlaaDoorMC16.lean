/- Texts put together: CloseErr. -/
import Derived.Test.YtmodblkagimhlaaDoorMC7
/- What the statements that list the numerals' tables and the two errors of strconv stand on. -/
section
set_option linter.unusedSimpArgs false
set_option maxRecDepth 100000
namespace Go.Proofs.YtmodblkagimhlaaDoor
open Go Go.Eng Go.ChangeShapes Go.WideShapes Go.ChangeAt Go.RowKit Go.Shelf
theorem laid_subE {P : Program} {w : World} {l' l : List (String × DataW Unit)} (hs : l'.Sublist l) : ∀ {ps : List MemPlace}, DataW.LaidVars P w l ps → ∃ ps', DataW.LaidVars P w l' ps' ∧ ps'.Sublist ps := by
  induction hs with
  | slnil => exact fun h => ⟨_, h, .refl _⟩
  | cons a hs ih =>
    intro ps h
    obtain ⟨g, t, cs, fuel, p, q, h1, h2, h3, h4, h5, rfl⟩ := h
    obtain ⟨ps', a1, a2⟩ := ih h5
    exact ⟨ps', a1, a2.trans (List.sublist_append_right _ _)⟩
  | cons_cons a hs ih =>
    intro ps h
    obtain ⟨g, t, cs, fuel, p, q, h1, h2, h3, h4, h5, rfl⟩ := h
    obtain ⟨ps', a1, a2⟩ := ih h5
    exact ⟨_, ⟨g, t, cs, fuel, p, ps', h1, h2, h3, h4, a1, rfl⟩, (List.Sublist.refl _).append a2⟩
theorem met_subE {P : Program} {W : World} {l' l : List (String × DataW Unit)} (hs : l'.Sublist l) (h : laidMet P l W) : laidMet P l' W := by
  obtain ⟨ps, h1, h2, h3⟩ := h
  obtain ⟨ps', a1, a2⟩ := laid_subE hs h1
  exact ⟨ps', a1, List.Pairwise.sublist a2 h2, fun b off hm => h3 b off (a2.subset hm)⟩
abbrev errLaid : List (String × DataW Unit) := [("math/bits.deBruijn32tab", Rows.laid_math_bits_deBruijn32tab), ("math/bits.deBruijn64tab", Rows.laid_math_bits_deBruijn64tab), ("internal/strconv.uint64pow10", Rows.laid_internal_strconv_uint64pow10), ("strconv.ErrRange", Rows.laid_strconv_ErrRange), ("strconv.ErrSyntax", Rows.laid_strconv_ErrSyntax)]
theorem err_ofE {W : World} (h : laidMet Tryd.prog errLaid W) {n : String} {text : List UInt8} (hm : (n, (.iface "*errors.errorString" (.ptr (.agg [.lit (.string text)])) : DataW Unit)) ∈ errLaid) {g : Nat} (hg : Tryd.prog.globalNamed n = some g)
    (ht : (Tryd.prog.globals[g]?).map (·.type) = some 114) : ∃ t p, W.cell? ⟨g, 0, none⟩ = some (.iface t p) := by
  obtain ⟨ps, hv, hnd, hrows⟩ := h
  obtain ⟨g0, t0, cs, fuel, p, a1, a2, a3, a4, a5⟩ := laid_row hv hm
  obtain rfl := Option.some.inj (hg.symm.trans a1)
  obtain rfl := Option.some.inj (ht.symm.trans a2)
  obtain ⟨cl⟩ := cs
  have ok0 : ∀ u v, cl = [.iface u v] → Value.okWide Tryd.prog W .any 0 u v := fun u v e => by
    subst e
    exact (hrows g 0 (a5 _ (by simp [MemPlace.row]))).2 u v (by simpa using World.var?_cell a1 a3 0)
  obtain ⟨a0, s0, rfl, hc0, hs0, hz0, _⟩ := errorString_of_trod Tryd.underlying114 rowE Tryd.underlying239 Tryd.underlying241 rfl rfl Tryd.underlying9 (by kernel_rfl) (by kernel_rfl) a4 ok0
  exact ⟨_, _, by simpa using World.var?_cell a1 a3 0⟩
theorem errs_of {W : World} (hL : laidMetH Tryd.prog errLaid W) : Eng.YtmodblkagimhlaaDoor.Recs W := by
  replace hL : laidMet Tryd.prog errLaid W := (MakeChecks.laidMetH_plain Tryd.prog errLaid W (by kernel_rfl)).mp hL
  refine ⟨?_, ?_, ?_⟩
  · have h1 := Lib.laidMet.reads hL (.tail _ (.tail _ (.head _)))
    rw [pow10_eq] at h1
    obtain ⟨g', t', cs, fuel, p, hg', ht', hvar, hd⟩ := h1
    obtain rfl := Option.some.inj ((show Tryd.prog.globalNamed "internal/strconv.uint64pow10" = some 5 by kernel_rfl).symm.trans hg')
    obtain rfl := Option.some.inj ((show (Tryd.prog.globals[(5 : Nat)]?).map (·.type) = some 233 by kernel_rfl).symm.trans ht')
    unfold Eng.YtmodblkagimhlaaDoor.Nums Lib.TabIs
    rw [hvar, ← Lib.cells_of_tab (n := 20) (e := 209) (show Tryd.prog.underlying 233 = _ by kernel_rfl) (show Tryd.prog.underlying 209 = _ by kernel_rfl) (by kernel_rfl) (by kernel_rfl) hd]
  · exact err_ofE hL (n := "strconv.ErrSyntax") (.tail _ (.tail _ (.tail _ (.tail _ (.head _))))) (by kernel_rfl) (by kernel_rfl)
  · exact err_ofE hL (n := "strconv.ErrRange") (.tail _ (.tail _ (.tail _ (.head _)))) (by kernel_rfl) (by kernel_rfl)
theorem errs_met (os : Os) (args : Array Value) : laidMet Tryd.prog errLaid ((recsWorld os).forCall (fun _ _ => 0) ⟨#[], args, []⟩).memory :=
  met_subE (.cons_cons _ (.cons_cons _ (.cons_cons _ (.cons _ (.cons_cons _ (.cons_cons _ (.cons _ .slnil))))))) (recs_met os args)
end Go.Proofs.YtmodblkagimhlaaDoor
end
