/- Texts put together: CloseBase, CloseU8. -/
import Derived.Test.YtkcldifniomfoaaDoorCards
import Derived.Test.YtkcldifniomfoaaDoorTie
import Derived.Test.YtkcldifniomfoaaDoorME3
import Derived.SizedLaws
import Derived.Deep.DeepHandedRow
import Derived.Test.YtkcldifniomfoaaDoorMT1
import Derived.Lib.LaidIn
import Derived.Lib.LaidU8T
/- Closed facts of this seat's program that all its rows ask. -/
section
namespace Go.Proofs.YtkcldifniomfoaaDoor
open Go
theorem own : ownKnob Tryd.prog.godebug = none := by kernel_rfl
theorem laidOut : laidOutB Tryd.prog = true := by kernel_rfl
theorem mapsRowed : Go.mapsRowed Tryd.prog = true := by kernel_rfl
theorem stops_nil : (Tryd.prog.stops == []) = true := by kernel_rfl
theorem stopKnobs_nil : (Tryd.prog.stopKnobs == []) = true := by kernel_rfl
theorem stopsHeard : Tryd.prog.stopsHeard = true := by kernel_rfl
theorem plainKeys : Tryd.prog.plainKeys = true := by kernel_rfl
theorem looks : Tryd.prog.looks [] = true := by kernel_rfl
def headSigns : List Char := List.map Char.ofNat [104, 97, 114, 110, 101, 115, 115, 32, 99, 49, 101, 48, 52, 57, 101, 100, 48, 56, 50, 98, 52, 49, 55, 52, 50, 98, 57, 100, 57, 57, 97, 48, 99, 48, 99, 98, 55, 55, 101, 53, 48, 56, 102, 97, 98, 51, 55, 98, 56, 52, 100, 48, 98, 97, 52, 99, 55, 53, 53, 50, 54, 50, 54, 48, 99, 102, 56, 48, 57, 52, 55, 48, 32, 99, 117, 116, 32, 97, 116, 32, 116, 114, 101, 108, 108, 105, 115, 47, 116, 114, 101, 108, 108, 105, 115, 108, 97, 119, 46, 80, 97, 114, 115, 101, 65, 108, 119, 97, 121, 115, 32, 116, 114, 101, 108, 108, 105, 115, 47, 116, 114, 101, 108, 108, 105, 115, 108, 97, 119, 46, 80, 97, 114, 115, 101, 67, 117, 116, 115, 32, 116, 114, 101, 108, 108, 105, 115, 47, 116, 114, 101, 108, 108, 105, 115, 108, 97, 119, 46, 80, 97, 114, 115, 101, 87, 114, 105, 116, 101, 32, 116, 114, 101, 108, 108, 105, 115, 47, 116, 114, 101, 108, 108, 105, 115, 108, 97, 119, 46, 80, 97, 114, 115, 101, 66, 97, 99, 107, 32, 116, 114, 101, 108, 108, 105, 115, 47, 116, 114, 101, 108, 108, 105, 115, 108, 97, 119, 46, 80, 97, 114, 115, 101, 70, 101, 101, 100]
theorem head_eq : Tryd.prog.initOrder = String.ofList headSigns := by kernel_rfl
theorem head_list : Tryd.prog.initOrder.toList = headSigns := by rw [head_eq, String.toList_ofList]
theorem head_words : ∃ rest, behindMainWord (wordsSigns Tryd.prog.initOrder.toList) = "cut".toList :: rest := by
  have h : (behindMainWord (wordsSigns headSigns)).head? = some "cut".toList := by kernel_rfl
  rw [head_list]
  obtain ⟨ys, h⟩ := List.head?_eq_some_iff.1 h
  exact ⟨ys, h⟩
theorem cut_lifts (rest : List (List Char)) : stripLifts liftWords ("cut".toList :: rest) = ([], "cut".toList :: rest) := by kernel_rfl
theorem headLifts : Tryd.prog.headLifts = [] := by
  obtain ⟨rest, h⟩ := head_words
  unfold Program.headLifts
  rw [h, cut_lifts]
  as_aux_lemma => kernel_rfl
theorem doorFits : Tryd.prog.doorFits [] = true := by kernel_rfl
theorem laysLater : Tryd.prog.laysLater = false := by kernel_rfl
theorem bearsReflect : Tryd.prog.bearsReflect = false := by kernel_rfl
theorem mayEnter_of {P : Program} {rest : List (List Char)} (h : behindMainWord (wordsSigns P.initOrder.toList) = "cut".toList :: rest) (h1 : P.laysLater = false) (h2 : P.bearsReflect = false) (h3 : P.doorFits [] = true) : P.mayEnter = true := by
  unfold Program.mayEnter
  rw [h]
  dsimp only
  rw [cut_lifts, h1, h2, h3]
  as_aux_lemma => kernel_rfl
theorem mayEnter : Tryd.prog.mayEnter = true := by
  obtain ⟨rest, h⟩ := head_words
  exact mayEnter_of h laysLater bearsReflect doorFits
theorem liftsFinal : Tryd.prog.liftsFinal = false := by
  obtain ⟨rest, h⟩ := head_words
  unfold Program.liftsFinal
  rw [headLifts, h]
  as_aux_lemma => kernel_rfl
theorem make_of {P : Program} {rest : List (List Char)} (h : behindMainWord (wordsSigns P.initOrder.toList) = "cut".toList :: rest) : P.make = some .cut := by
  unfold Program.make
  rw [h]
  as_aux_lemma => kernel_rfl
theorem make_cut : Tryd.prog.make = some .cut := by
  obtain ⟨rest, h⟩ := head_words
  exact make_of h
theorem mainIs_of {P : Program} {cs s : List Char} {ws : List (List Char)} (h : P.initOrder.toList = cs) (hw : wordsSigns cs = ws) (ht : ws.take 2 = ["harness".toList, s]) (hs : isSumSigns s = true) : P.mainIs = some (true, s) := by
  unfold Program.mainIs
  rw [h, hw]
  match ws, ht with
  | a :: b :: r, ht =>
    simp only [List.take_succ_cons, List.take_zero, List.cons.injEq, and_true] at ht
    obtain ⟨rfl, rfl⟩ := ht
    simp [hs]
theorem main_is : Tryd.prog.mainIs = some (true, "c1e049ed082b41742b9d99a0c0cb77e508fab37b84d0ba4c75526260cf809470".toList) :=
  mainIs_of head_list rfl (by kernel_rfl) (by kernel_rfl)
/-- The form's reach, argument by argument. -/
theorem reach_of {H : Type} {P : Program} : ∀ {ts : List TypeId} {ds : List (DataW H)}, (DataW.weightsEach P ts ds).all (· ≤ reachBytes) = true → ∀ (i : Nat) (t : TypeId) (d : DataW H), ts[i]? = some t → ds[i]? = some d → (d.weights P t).all (· ≤ reachBytes) = true
  | [], _, _, i, t, d, ht, _ => by simp at ht
  | _ :: _, [], _, i, t, d, _, hd => by simp at hd
  | t0 :: ts, d0 :: ds, h, i, t, d, ht, hd => by
    rw [DataW.weightsEach, List.all_append, Bool.and_eq_true] at h
    cases i with
    | zero =>
      simp only [List.getElem?_cons_zero, Option.some.injEq] at ht hd
      subst ht; subst hd
      exact h.1
    | succ i => exact reach_of h.2 i t d (by simpa using ht) (by simpa using hd)
theorem reach_str {H : Type} {P : Program} {t : TypeId} {l : List UInt8} (h : ((DataW.lit (.string l) : DataW H).weights P t).all (· ≤ reachBytes) = true) : l.length ≤ 140737488355328 := by
  have : l.length ≤ reachBytes := by simpa [DataW.weights] using h
  exact Nat.le_trans this (by decide)
/-- The second form's bound, argument by argument. -/
theorem upto_all {H : Type} : ∀ {ds : List (DataW H)} {n : Nat}, Rows.uptoBulkAll ds ≤ n → ∀ (i : Nat) (d : DataW H), ds[i]? = some d → Rows.uptoBulk d ≤ n
  | [], _, _, i, d, hd => by simp at hd
  | d0 :: ds, n, h, i, d, hd => by
    simp only [Rows.uptoBulkAll] at h
    cases i with
    | zero => simp only [List.getElem?_cons_zero, Option.some.injEq] at hd; subst hd; omega
    | succ i => exact upto_all (Nat.le_trans (Nat.le_add_left _ _) h) i d (by simpa using hd)
theorem upto_of {H : Type} {ds : List (DataW H)} (h : Rows.uptoSmall H ds = true) (i : Nat) (d : DataW H) (hd : ds[i]? = some d) : Rows.uptoBulk d ≤ 1048576 :=
  upto_all (of_decide_eq_true h) i d hd
theorem upto_str {H : Type} {l : List UInt8} (h : Rows.uptoBulk (.lit (.string l) : DataW H) ≤ 1048576) : l.length ≤ 1048576 := by
  simp only [Rows.uptoBulk] at h; omega
theorem and_t {a b : Bool} (h : a = true) (g : b = true) : (a && b) = true := by rw [h, g]; rfl
end Go.Proofs.YtkcldifniomfoaaDoor
end

/- What the statements of this seat that list UTF-8's two tables stand on: the tables out of the row's list, a world that holds them. -/
section
namespace Go.Proofs.YtkcldifniomfoaaDoor
open Go Go.Eng Go.ChangeShapes Go.WideShapes Go.ChangeAt Go.RowKit Go.Shelf

abbrev u8Laid : List (String × DataW Unit) := [("unicode/utf8.acceptRanges", Rows.laid_unicode_utf8_acceptRanges), ("unicode/utf8.first", Rows.laid_unicode_utf8_first)]
theorem first_eq : Rows.laid_unicode_utf8_first = Lib.firstData := by kernel_rfl
theorem accept_eq : Rows.laid_unicode_utf8_acceptRanges = Lib.acceptData := by kernel_rfl
theorem tabs_of {W : World} (hL : laidMetH Tryd.prog u8Laid W) : Eng.YtkcldifniomfoaaDoor.Tabs W := by
  have h1 := Lib.laidMet.reads hL (.head _)
  have h2 := Lib.laidMet.reads hL (.tail _ (.head _))
  rw [accept_eq] at h1
  rw [first_eq] at h2
  exact utf8Tabs_of_reads Tryd.lays260 ⟨by kernel_rfl, by kernel_rfl, by kernel_rfl, by kernel_rfl, by kernel_rfl, by kernel_rfl, by kernel_rfl⟩ h2 h1
noncomputable def u8World (os : Os) : World :=
  let w0 := World.holding Tryd.prog os ⟨#[], #[], []⟩
  let put (h : Array Obj) (g : Nat) (cs : Array Value) : Array Obj := h.modify g fun
    | .cells _ t frozen => .cells cs t frozen
    | o => o
  let h1 := put w0.heap 0 (Lib.firstTab.map fun z => Value.int .u8 z).toArray
  let h2 := put h1 1 ((List.range 16).flatMap fun i => [Value.int .u8 (Lib.accLo i), Value.int .u8 (Lib.accHi i)]).toArray
  { w0 with heap := h2 }
theorem u8_met (os : Os) (args : Array Value) : laidMet Tryd.prog u8Laid ((u8World os).forCall (fun _ _ => 0) ⟨#[], args, []⟩).memory :=
  (LaidIn.of_run (l := u8Laid) [1, 0] 8 (by kernel_rfl) (by kernel_rfl) (by kernel_rfl) (by kernel_rfl)).met
end Go.Proofs.YtkcldifniomfoaaDoor
end
