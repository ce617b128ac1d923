/- Texts put together: CloseName. -/
import Derived.Test.YtbaokhehnilneaaGreatDoorMC10
import Derived.Test.YtbaokhehnilneaaGreatDoorMKY11
import Derived.Deep.DeepWitnessRowRef
/- What the statements of names stand on: the tables, the two errors of strconv, package strings' table of blanks, out of the row's list; a world that holds them. -/
section
set_option linter.unusedSimpArgs false
set_option maxRecDepth 100000
namespace Go.Eng.YtbaokhehnilneaaGreatDoor
open Go Go.Eng Go.Proofs
abbrev Namz (W : World) : Prop := Keyz W ∧ SpaceT W
end Go.Eng.YtbaokhehnilneaaGreatDoor
namespace Go.Proofs.YtbaokhehnilneaaGreatDoor
open Go Go.Eng Go.ChangeShapes Go.WideShapes Go.ChangeAt Go.RowKit Go.Shelf
theorem laid_sub {P : Program} {w : World} {l' l : List (String × DataW Unit)} (hs : l'.Sublist l) : ∀ {ps : List MemPlace}, DataW.LaidVars P w l ps → ∃ ps', DataW.LaidVars P w l' ps' ∧ ps'.Sublist ps := by
  induction hs with
  | slnil => exact fun h => ⟨_, h, .refl _⟩
  | cons a hs ih =>
    intro ps h
    obtain ⟨g, t, cs, fuel, p, q, h1, h2, h3, h4, h5, rfl⟩ := h
    obtain ⟨ps', a1, a2⟩ := ih h5
    exact ⟨ps', a1, a2.trans (List.sublist_append_right _ _)⟩
  | cons_cons a hs ih =>
    intro ps h
    obtain ⟨g, t, cs, fuel, p, q, h1, h2, h3, h4, h5, rfl⟩ := h
    obtain ⟨ps', a1, a2⟩ := ih h5
    exact ⟨_, ⟨g, t, cs, fuel, p, ps', h1, h2, h3, h4, a1, rfl⟩, (List.Sublist.refl _).append a2⟩
theorem met_sub {P : Program} {W : World} {l' l : List (String × DataW Unit)} (hs : l'.Sublist l) (h : laidMet P l W) : laidMet P l' W := by
  obtain ⟨ps, h1, h2, h3⟩ := h
  obtain ⟨ps', a1, a2⟩ := laid_sub hs h1
  exact ⟨ps', a1, List.Pairwise.sublist a2 h2, fun b off hm => h3 b off (a2.subset hm)⟩
abbrev namesLaid : List (String × DataW Unit) := [("math/bits.deBruijn32tab", Rows.laid_math_bits_deBruijn32tab), ("math/bits.deBruijn64tab", Rows.laid_math_bits_deBruijn64tab), ("internal/strconv.uint64pow10", Rows.laid_internal_strconv_uint64pow10), ("unicode/utf8.acceptRanges", Rows.laid_unicode_utf8_acceptRanges), ("strconv.ErrRange", Rows.laid_strconv_ErrRange), ("strconv.ErrSyntax", Rows.laid_strconv_ErrSyntax), ("unicode.White_Space", Rows.laid_unicode_White_Space), ("strings.asciiSpace", Rows.laid_strings_asciiSpace), ("unicode/utf8.first", Rows.laid_unicode_utf8_first)]
theorem space_eq : Rows.laid_strings_asciiSpace = (Lib.tabData .u8 Lib.asciiSpaceTab : DataW Unit) := by kernel_rfl
theorem namz_of {W : World} (hL : laidMetH Tryz.prog namesLaid W) : Eng.YtbaokhehnilneaaGreatDoor.Namz W := by
  replace hL : laidMet Tryz.prog namesLaid W := (MakeChecks.laidMetH_plain Tryz.prog namesLaid W (by kernel_rfl)).mp hL
  have hr : laidMet Tryz.prog recsLaid W := met_sub (.cons_cons _ (.cons_cons _ (.cons_cons _ (.cons_cons _ (.cons_cons _ (.cons_cons _ (.cons _ (.cons _ (.cons_cons _ .slnil))))))))) hL
  refine ⟨keyz_of ((MakeChecks.laidMetH_plain Tryz.prog recsLaid W (by kernel_rfl)).mpr hr), ?_⟩
  have h1 := Lib.laidMet.reads hL (.tail _ (.tail _ (.tail _ (.tail _ (.tail _ (.tail _ (.tail _ (.head _))))))))
  rw [space_eq] at h1
  obtain ⟨g', t', cs, fuel, p, hg', ht', hvar, hd⟩ := h1
  obtain rfl := Option.some.inj ((show Tryz.prog.globalNamed "strings.asciiSpace" = some 0 by kernel_rfl).symm.trans hg')
  obtain rfl := Option.some.inj ((show (Tryz.prog.globals[(0 : Nat)]?).map (·.type) = some 73 by kernel_rfl).symm.trans ht')
  unfold Eng.YtbaokhehnilneaaGreatDoor.SpaceT Lib.TabIs
  rw [hvar, ← Lib.cells_of_tab (n := 256) (e := 5) (show Tryz.prog.underlying 73 = _ by kernel_rfl) (show Tryz.prog.underlying 5 = _ by kernel_rfl) (by kernel_rfl) (by kernel_rfl) hd]
noncomputable def namesWorld (os : Os) : World :=
  let w0 := World.holding Tryz.prog os ⟨#[.cells #[.string { data := #[118, 97, 108, 117, 101, 32, 111, 117, 116, 32, 111, 102, 32, 114, 97, 110, 103, 101] }] 161, .cells #[.string { data := #[105, 110, 118, 97, 108, 105, 100, 32, 115, 121, 110, 116, 97, 120] }] 161,
    .cells #[.slice (some ⟨lowR + 3, 0, none⟩) 7 7, .slice none 0 0, .int .i64 2] 113,
    .cells #[.int .u16 9, .int .u16 13, .int .u16 1, .int .u16 32, .int .u16 133, .int .u16 101, .int .u16 160, .int .u16 5760, .int .u16 5600, .int .u16 8192, .int .u16 8202, .int .u16 1, .int .u16 8232, .int .u16 8233, .int .u16 1, .int .u16 8239, .int .u16 8287, .int .u16 48, .int .u16 12288, .int .u16 12288, .int .u16 1] 116], #[], []⟩
  let put (h : Array Obj) (g : Nat) (cs : Array Value) : Array Obj := h.modify g fun
    | .cells _ t frozen => .cells cs t frozen
    | o => o
  let h1 := put w0.heap 13 (litCells (partsOf Rows.laid_math_bits_deBruijn32tab)).toArray
  let h2 := put h1 14 (litCells (partsOf Rows.laid_math_bits_deBruijn64tab)).toArray
  let h3 := put h2 3 (litCells (partsOf Rows.laid_internal_strconv_uint64pow10)).toArray
  let h4 := put h3 4 (Lib.firstTab.map fun z => Value.int .u8 z).toArray
  let h5 := put h4 5 ((List.range 16).flatMap fun i => [Value.int .u8 (Lib.accLo i), Value.int .u8 (Lib.accHi i)]).toArray
  let h6 := put h5 12 #[.iface 159 (.pointer (some ⟨lowR, 0, none⟩))]
  let h7 := put h6 11 #[.iface 159 (.pointer (some ⟨lowR + 1, 0, none⟩))]
  let h8 := put h7 1 #[.pointer (some ⟨lowR + 2, 0, none⟩)]
  let h9 := put h8 0 (litCells (partsOf Rows.laid_strings_asciiSpace)).toArray
  { w0 with heap := h9 }
end Go.Proofs.YtbaokhehnilneaaGreatDoor
end
