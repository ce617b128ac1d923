/- Texts put together: CloseName. -/
import Derived.Test.YtecafnhnkklboaaDoorMC10
import Derived.Test.YtecafnhnkklboaaDoorMKY11
import Derived.Deep.DeepWitnessRowRef
/- What the statements of names stand on: the tables, the two errors of strconv, package strings' table of blanks, out of the row's list; a world that holds them. -/
section
set_option linter.unusedSimpArgs false
set_option maxRecDepth 100000
namespace Go.Eng.YtecafnhnkklboaaDoor
open Go Go.Eng Go.Proofs
abbrev Namz (W : World) : Prop := Keyz W ∧ SpaceT W
end Go.Eng.YtecafnhnkklboaaDoor
namespace Go.Proofs.YtecafnhnkklboaaDoor
open Go Go.Eng Go.ChangeShapes Go.WideShapes Go.ChangeAt Go.RowKit Go.Shelf
theorem laid_sub {P : Program} {w : World} {l' l : List (String × DataW Unit)} (hs : l'.Sublist l) : ∀ {ps : List MemPlace}, DataW.LaidVars P w l ps → ∃ ps', DataW.LaidVars P w l' ps' ∧ ps'.Sublist ps := by
  induction hs with
  | slnil => exact fun h => ⟨_, h, .refl _⟩
  | cons a hs ih =>
    intro ps h
    obtain ⟨g, t, cs, fuel, p, q, h1, h2, h3, h4, h5, rfl⟩ := h
    obtain ⟨ps', a1, a2⟩ := ih h5
    exact ⟨ps', a1, a2.trans (List.sublist_append_right _ _)⟩
  | cons_cons a hs ih =>
    intro ps h
    obtain ⟨g, t, cs, fuel, p, q, h1, h2, h3, h4, h5, rfl⟩ := h
    obtain ⟨ps', a1, a2⟩ := ih h5
    exact ⟨_, ⟨g, t, cs, fuel, p, ps', h1, h2, h3, h4, a1, rfl⟩, (List.Sublist.refl _).append a2⟩
theorem met_sub {P : Program} {W : World} {l' l : List (String × DataW Unit)} (hs : l'.Sublist l) (h : laidMet P l W) : laidMet P l' W := by
  obtain ⟨ps, h1, h2, h3⟩ := h
  obtain ⟨ps', a1, a2⟩ := laid_sub hs h1
  exact ⟨ps', a1, List.Pairwise.sublist a2 h2, fun b off hm => h3 b off (a2.subset hm)⟩
abbrev namesLaid : List (String × DataW Unit) := [("math/bits.deBruijn32tab", Rows.laid_math_bits_deBruijn32tab), ("math/bits.deBruijn64tab", Rows.laid_math_bits_deBruijn64tab), ("internal/strconv.uint64pow10", Rows.laid_internal_strconv_uint64pow10), ("unicode/utf8.acceptRanges", Rows.laid_unicode_utf8_acceptRanges), ("strconv.ErrRange", Rows.laid_strconv_ErrRange), ("strconv.ErrSyntax", Rows.laid_strconv_ErrSyntax), ("unicode.White_Space", Rows.laid_unicode_White_Space), ("strings.asciiSpace", Rows.laid_strings_asciiSpace), ("unicode/utf8.first", Rows.laid_unicode_utf8_first)]
theorem space_eq : Rows.laid_strings_asciiSpace = (Lib.tabData .u8 Lib.asciiSpaceTab : DataW Unit) := by kernel_rfl
theorem namz_of {W : World} (hL : laidMetH Tryd.prog namesLaid W) : Eng.YtecafnhnkklboaaDoor.Namz W := by
  replace hL : laidMet Tryd.prog namesLaid W := (MakeChecks.laidMetH_plain Tryd.prog namesLaid W (by kernel_rfl)).mp hL
  have hr : laidMet Tryd.prog recsLaid W := met_sub (.cons_cons _ (.cons_cons _ (.cons_cons _ (.cons_cons _ (.cons_cons _ (.cons_cons _ (.cons _ (.cons _ (.cons_cons _ .slnil))))))))) hL
  refine ⟨keyz_of ((MakeChecks.laidMetH_plain Tryd.prog recsLaid W (by kernel_rfl)).mpr hr), ?_⟩
  have h1 := Lib.laidMet.reads hL (.tail _ (.tail _ (.tail _ (.tail _ (.tail _ (.tail _ (.tail _ (.head _))))))))
  rw [space_eq] at h1
  obtain ⟨g', t', cs, fuel, p, hg', ht', hvar, hd⟩ := h1
  obtain rfl := Option.some.inj ((show Tryd.prog.globalNamed "strings.asciiSpace" = some 0 by kernel_rfl).symm.trans hg')
  obtain rfl := Option.some.inj ((show (Tryd.prog.globals[(0 : Nat)]?).map (·.type) = some 100 by kernel_rfl).symm.trans ht')
  unfold Eng.YtecafnhnkklboaaDoor.SpaceT Lib.TabIs
  rw [hvar, ← Lib.cells_of_tab (n := 256) (e := 5) (show Tryd.prog.underlying 100 = _ by kernel_rfl) (show Tryd.prog.underlying 5 = _ by kernel_rfl) (by kernel_rfl) (by kernel_rfl) hd]
noncomputable def namesWorld (os : Os) : World :=
  let w0 := World.holding Tryd.prog os ⟨#[.cells #[.string { data := #[118, 97, 108, 117, 101, 32, 111, 117, 116, 32, 111, 102, 32, 114, 97, 110, 103, 101] }] 168, .cells #[.string { data := #[105, 110, 118, 97, 108, 105, 100, 32, 115, 121, 110, 116, 97, 120] }] 168,
    .cells #[.slice (some ⟨lowR + 3, 0, none⟩) 7 7, .slice none 0 0, .int .i64 2] 139,
    .cells #[.int .u16 9, .int .u16 13, .int .u16 1, .int .u16 32, .int .u16 133, .int .u16 101, .int .u16 160, .int .u16 5760, .int .u16 5600, .int .u16 8192, .int .u16 8202, .int .u16 1, .int .u16 8232, .int .u16 8233, .int .u16 1, .int .u16 8239, .int .u16 8287, .int .u16 48, .int .u16 12288, .int .u16 12288, .int .u16 1] 142], #[], []⟩
  let put (h : Array Obj) (g : Nat) (cs : Array Value) : Array Obj := h.modify g fun
    | .cells _ t frozen => .cells cs t frozen
    | o => o
  let h1 := put w0.heap 8 (litCells (partsOf Rows.laid_math_bits_deBruijn32tab)).toArray
  let h2 := put h1 9 (litCells (partsOf Rows.laid_math_bits_deBruijn64tab)).toArray
  let h3 := put h2 3 (litCells (partsOf Rows.laid_internal_strconv_uint64pow10)).toArray
  let h4 := put h3 6 (Lib.firstTab.map fun z => Value.int .u8 z).toArray
  let h5 := put h4 7 ((List.range 16).flatMap fun i => [Value.int .u8 (Lib.accLo i), Value.int .u8 (Lib.accHi i)]).toArray
  let h6 := put h5 5 #[.iface 166 (.pointer (some ⟨lowR, 0, none⟩))]
  let h7 := put h6 4 #[.iface 166 (.pointer (some ⟨lowR + 1, 0, none⟩))]
  let h8 := put h7 2 #[.pointer (some ⟨lowR + 2, 0, none⟩)]
  let h9 := put h8 0 (litCells (partsOf Rows.laid_strings_asciiSpace)).toArray
  { w0 with heap := h9 }
theorem names_met (os : Os) (args : Array Value) : laidMet Tryd.prog namesLaid ((namesWorld os).forCall (fun _ _ => 0) ⟨#[], args, []⟩).memory :=
  (LaidIn.of_run (l := namesLaid) [8, 9, 3, 7, 5, 4, 2, 0, 6, lowR, lowR + 1, lowR + 2, lowR + 3] 12 (by kernel_rfl) (by kernel_rfl) (by kernel_rfl) (by kernel_rfl)).met
end Go.Proofs.YtecafnhnkklboaaDoor
end
