/- Texts put together: ClosePrint. -/
import Derived.Test.YtbaokhehnilneaaGreatDoorMC12
import Derived.Test.YtbaokhehnilneaaGreatDoorMBN10
import Derived.PinnedBridge
import Derived.Lib.LaidSlice
import Derived.Lib.LaidIn
/- What the statement of printed tables of keys stands on: beside CloseName's, strconv's tables of what is printed, out of the row's list; a world that holds them. -/
section
set_option linter.unusedSimpArgs false
set_option maxRecDepth 100000
namespace Go.Eng.YtbaokhehnilneaaGreatDoor
open Go Go.Eng Go.Proofs
abbrev Prtz (W : World) : Prop := (Keyz W ∧ SpaceT W) ∧ PrintT W
end Go.Eng.YtbaokhehnilneaaGreatDoor
namespace Go.Proofs.YtbaokhehnilneaaGreatDoor
open Go Go.Eng Go.ChangeShapes Go.WideShapes Go.ChangeAt Go.RowKit Go.Shelf
abbrev prtLaid : List (String × DataW Unit) := [("math/bits.deBruijn32tab", Rows.laid_math_bits_deBruijn32tab), ("math/bits.deBruijn64tab", Rows.laid_math_bits_deBruijn64tab), ("internal/strconv.uint64pow10", Rows.laid_internal_strconv_uint64pow10), ("unicode/utf8.acceptRanges", Rows.laid_unicode_utf8_acceptRanges), ("strconv.ErrRange", Rows.laid_strconv_ErrRange), ("strconv.ErrSyntax", Rows.laid_strconv_ErrSyntax), ("unicode.White_Space", Rows.laid_unicode_White_Space), ("strings.asciiSpace", Rows.laid_strings_asciiSpace),
  ("strconv.isGraphic", Rows.laid_strconv_isGraphic), ("strconv.isNotPrint16", Rows.laid_strconv_isNotPrint16), ("strconv.isNotPrint32", Rows.laid_strconv_isNotPrint32), ("strconv.isPrint16", Rows.laid_strconv_isPrint16), ("strconv.isPrint32", Rows.laid_strconv_isPrint32), ("unicode/utf8.first", Rows.laid_unicode_utf8_first)]
theorem prtz_of {W : World} (hL : laidMetH Tryz.prog prtLaid W) : Eng.YtbaokhehnilneaaGreatDoor.Prtz W := by
  replace hL : laidMet Tryz.prog prtLaid W := (MakeChecks.laidMetH_plain Tryz.prog prtLaid W (by kernel_rfl)).mp hL
  have hr : laidMet Tryz.prog namesLaid W := met_sub (.cons_cons _ (.cons_cons _ (.cons_cons _ (.cons_cons _ (.cons_cons _ (.cons_cons _ (.cons_cons _ (.cons_cons _ (.cons _ (.cons _ (.cons _ (.cons _ (.cons _ (.cons_cons _ .slnil)))))))))))))) hL
  refine ⟨namz_of ((MakeChecks.laidMetH_plain Tryz.prog namesLaid W (by kernel_rfl)).mpr hr), ?_⟩
  have hN16 := Lib.laidMet.reads hL (.tail _ (.tail _ (.tail _ (.tail _ (.tail _ (.tail _ (.tail _ (.tail _ (.tail _ (.head _))))))))))
  have hN32 := Lib.laidMet.reads hL (.tail _ (.tail _ (.tail _ (.tail _ (.tail _ (.tail _ (.tail _ (.tail _ (.tail _ (.tail _ (.head _)))))))))))
  have hP16 := Lib.laidMet.reads hL (.tail _ (.tail _ (.tail _ (.tail _ (.tail _ (.tail _ (.tail _ (.tail _ (.tail _ (.tail _ (.tail _ (.head _))))))))))))
  have hP32 := Lib.laidMet.reads hL (.tail _ (.tail _ (.tail _ (.tail _ (.tail _ (.tail _ (.tail _ (.tail _ (.tail _ (.tail _ (.tail _ (.tail _ (.head _)))))))))))))
  rw [show Rows.laid_strconv_isNotPrint16 = _ from Pinned.isNotPrint16_eq] at hN16
  rw [show Rows.laid_strconv_isNotPrint32 = _ from Pinned.isNotPrint32_eq] at hN32
  rw [show Rows.laid_strconv_isPrint16 = _ from Pinned.isPrint16_eq] at hP16
  rw [show Rows.laid_strconv_isPrint32 = _ from Pinned.isPrint32_eq] at hP32
  exact printTabs_of_reads Tryz.lays339 ⟨by kernel_rfl, by kernel_rfl, by kernel_rfl, by kernel_rfl, by kernel_rfl, by kernel_rfl, by kernel_rfl, by kernel_rfl, by kernel_rfl, by kernel_rfl⟩ hP16 hN16 hP32 hN32
noncomputable def prtWorld (os : Os) : World :=
  let w0 := World.holding Tryz.prog os ⟨#[.cells #[.string { data := #[118, 97, 108, 117, 101, 32, 111, 117, 116, 32, 111, 102, 32, 114, 97, 110, 103, 101] }] 161, .cells #[.string { data := #[105, 110, 118, 97, 108, 105, 100, 32, 115, 121, 110, 116, 97, 120] }] 161,
    .cells #[.slice (some ⟨lowR + 3, 0, none⟩) 7 7, .slice none 0 0, .int .i64 2] 113,
    .cells #[.int .u16 9, .int .u16 13, .int .u16 1, .int .u16 32, .int .u16 133, .int .u16 101, .int .u16 160, .int .u16 5760, .int .u16 5600, .int .u16 8192, .int .u16 8202, .int .u16 1, .int .u16 8232, .int .u16 8233, .int .u16 1, .int .u16 8239, .int .u16 8287, .int .u16 48, .int .u16 12288, .int .u16 12288, .int .u16 1] 116,
    .cells (Pinned.isGraphicZ.map fun n => Value.int .u16 (n : Nat)).toArray 114, .cells (Lib.intCellsOf .u16 Lib.goPrintTabs.n16) 114, .cells (Lib.intCellsOf .u16 Lib.goPrintTabs.n32) 114,
    .cells (Lib.intCellsOf .u16 Lib.goPrintTabs.p16) 114, .cells (Lib.intCellsOf .u32 Lib.goPrintTabs.p32) 92], #[], []⟩
  let put (h : Array Obj) (g : Nat) (cs : Array Value) : Array Obj := h.modify g fun
    | .cells _ t frozen => .cells cs t frozen
    | o => o
  let h1 := put w0.heap 13 (litCells (partsOf Rows.laid_math_bits_deBruijn32tab)).toArray
  let h2 := put h1 14 (litCells (partsOf Rows.laid_math_bits_deBruijn64tab)).toArray
  let h3 := put h2 3 (litCells (partsOf Rows.laid_internal_strconv_uint64pow10)).toArray
  let h4 := put h3 4 (Lib.firstTab.map fun z => Value.int .u8 z).toArray
  let h5 := put h4 5 ((List.range 16).flatMap fun i => [Value.int .u8 (Lib.accLo i), Value.int .u8 (Lib.accHi i)]).toArray
  let h6 := put h5 12 #[.iface 159 (.pointer (some ⟨lowR, 0, none⟩))]
  let h7 := put h6 11 #[.iface 159 (.pointer (some ⟨lowR + 1, 0, none⟩))]
  let h8 := put h7 1 #[.pointer (some ⟨lowR + 2, 0, none⟩)]
  let h9 := put h8 0 (litCells (partsOf Rows.laid_strings_asciiSpace)).toArray
  let h10 := put h9 10 #[.slice (some ⟨lowR + 4, 0, none⟩) Pinned.isGraphicZ.length Pinned.isGraphicZ.length]
  let h11 := put h10 7 #[.slice (some ⟨lowR + 5, 0, none⟩) Lib.goPrintTabs.n16.length Lib.goPrintTabs.n16.length]
  let h12 := put h11 9 #[.slice (some ⟨lowR + 6, 0, none⟩) Lib.goPrintTabs.n32.length Lib.goPrintTabs.n32.length]
  let h13 := put h12 6 #[.slice (some ⟨lowR + 7, 0, none⟩) Lib.goPrintTabs.p16.length Lib.goPrintTabs.p16.length]
  let h14 := put h13 8 #[.slice (some ⟨lowR + 8, 0, none⟩) Lib.goPrintTabs.p32.length Lib.goPrintTabs.p32.length]
  { w0 with heap := h14 }
set_option maxRecDepth 1000000
theorem prt_0 (os : Os) (args : Array Value) : LaidIn Tryz.prog ((prtWorld os).forCall (fun _ _ => 0) ⟨#[], args, []⟩).memory [("math/bits.deBruijn32tab", Rows.laid_math_bits_deBruijn32tab), ("math/bits.deBruijn64tab", Rows.laid_math_bits_deBruijn64tab), ("internal/strconv.uint64pow10", Rows.laid_internal_strconv_uint64pow10), ("unicode/utf8.acceptRanges", Rows.laid_unicode_utf8_acceptRanges), ("strconv.ErrRange", Rows.laid_strconv_ErrRange), ("strconv.ErrSyntax", Rows.laid_strconv_ErrSyntax), ("unicode.White_Space", Rows.laid_unicode_White_Space), ("strings.asciiSpace", Rows.laid_strings_asciiSpace), ("strconv.isGraphic", Rows.laid_strconv_isGraphic)] [13, 14, 3, 5, 12, 11, 1, 0, 10, lowR, lowR + 1, lowR + 2, lowR + 3, lowR + 4] :=
  LaidIn.of_run [13, 14, 3, 5, 12, 11, 1, 0, 10, lowR, lowR + 1, lowR + 2, lowR + 3, lowR + 4] 12 (by kernel_rfl) (by kernel_rfl) (by kernel_rfl) (by kernel_rfl)
theorem prt_1 (os : Os) (args : Array Value) : LaidIn Tryz.prog ((prtWorld os).forCall (fun _ _ => 0) ⟨#[], args, []⟩).memory [("strconv.isNotPrint16", Rows.laid_strconv_isNotPrint16)] [7, lowR + 5] := by
  rw [show Rows.laid_strconv_isNotPrint16 = _ from Pinned.isNotPrint16_eq]
  exact Lib.laidIn_slice (t := 144) (e := 114) (te := 114) Lib.goPrintTabs.n16 (lowR + 5) (by kernel_rfl) (by kernel_rfl) (by kernel_rfl) (by kernel_rfl) (by kernel_rfl) (by kernel_rfl) (by kernel_rfl) (by kernel_rfl) (of_decide_eq_true (by kernel_rfl)) (of_decide_eq_true (by kernel_rfl))
theorem prt_2 (os : Os) (args : Array Value) : LaidIn Tryz.prog ((prtWorld os).forCall (fun _ _ => 0) ⟨#[], args, []⟩).memory [("strconv.isNotPrint32", Rows.laid_strconv_isNotPrint32)] [9, lowR + 6] := by
  rw [show Rows.laid_strconv_isNotPrint32 = _ from Pinned.isNotPrint32_eq]
  exact Lib.laidIn_slice (t := 144) (e := 114) (te := 114) Lib.goPrintTabs.n32 (lowR + 6) (by kernel_rfl) (by kernel_rfl) (by kernel_rfl) (by kernel_rfl) (by kernel_rfl) (by kernel_rfl) (by kernel_rfl) (by kernel_rfl) (of_decide_eq_true (by kernel_rfl)) (of_decide_eq_true (by kernel_rfl))
theorem prt_3 (os : Os) (args : Array Value) : LaidIn Tryz.prog ((prtWorld os).forCall (fun _ _ => 0) ⟨#[], args, []⟩).memory [("strconv.isPrint16", Rows.laid_strconv_isPrint16)] [6, lowR + 7] := by
  rw [show Rows.laid_strconv_isPrint16 = _ from Pinned.isPrint16_eq]
  exact Lib.laidIn_slice (t := 144) (e := 114) (te := 114) Lib.goPrintTabs.p16 (lowR + 7) (by kernel_rfl) (by kernel_rfl) (by kernel_rfl) (by kernel_rfl) (by kernel_rfl) (by kernel_rfl) (by kernel_rfl) (by kernel_rfl) (of_decide_eq_true (by kernel_rfl)) (of_decide_eq_true (by kernel_rfl))
theorem prt_4 (os : Os) (args : Array Value) : LaidIn Tryz.prog ((prtWorld os).forCall (fun _ _ => 0) ⟨#[], args, []⟩).memory [("strconv.isPrint32", Rows.laid_strconv_isPrint32)] [8, lowR + 8] := by
  rw [show Rows.laid_strconv_isPrint32 = _ from Pinned.isPrint32_eq]
  exact Lib.laidIn_slice (t := 147) (e := 92) (te := 92) Lib.goPrintTabs.p32 (lowR + 8) (by kernel_rfl) (by kernel_rfl) (by kernel_rfl) (by kernel_rfl) (by kernel_rfl) (by kernel_rfl) (by kernel_rfl) (by kernel_rfl) (of_decide_eq_true (by kernel_rfl)) (of_decide_eq_true (by kernel_rfl))
theorem prt_5 (os : Os) (args : Array Value) : LaidIn Tryz.prog ((prtWorld os).forCall (fun _ _ => 0) ⟨#[], args, []⟩).memory [("unicode/utf8.first", Rows.laid_unicode_utf8_first)] [4] :=
  LaidIn.of_run [4] 12 (by kernel_rfl) (by kernel_rfl) (by kernel_rfl) (by kernel_rfl)
theorem prt_met (os : Os) (args : Array Value) : laidMet Tryz.prog prtLaid ((prtWorld os).forCall (fun _ _ => 0) ⟨#[], args, []⟩).memory :=
  ((prt_0 os args).append ((prt_1 os args).append ((prt_2 os args).append ((prt_3 os args).append ((prt_4 os args).append (prt_5 os args) (by kernel_rfl)) (by kernel_rfl)) (by kernel_rfl)) (by kernel_rfl)) (by kernel_rfl)).met
end Go.Proofs.YtbaokhehnilneaaGreatDoor
end
