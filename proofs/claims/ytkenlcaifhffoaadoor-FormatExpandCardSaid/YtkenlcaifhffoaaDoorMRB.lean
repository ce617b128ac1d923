/- Texts put together: RecL. -/
import Derived.Test.YtkenlcaifhffoaaDoorMRA
import Derived.Test.YtkenlcaifhffoaaDoorMH1
import Derived.WideLaws
/- What recordings ask of the library: strings.Split, Cut, Count at one byte, strconv.Atoi, strconv.ParseUint. -/
section
namespace Go.Eng.YtkenlcaifhffoaaDoor
open Go Go.Eng Go.Proofs Go.RowKit
variable (W : World)
set_option linter.unusedSimpArgs false
set_option maxRecDepth 100000
set_option linter.unusedVariables false
set_option maxHeartbeats 4000000
theorem cell_keep {W w : World} {b : Nat} {v : Value} (hm : W.cell? ⟨b, 0, none⟩ = some v) (hw : ∀ b, b < W.heap.size → w.heap[b]? = W.heap[b]?) : w.cell? ⟨b, 0, none⟩ = some v := by
  have hlt : b < W.heap.size := by
    simp only [World.cell?] at hm
    cases hb : W.heap[b]? with
    | none => simp [hb] at hm
    | some o => exact (Array.getElem?_eq_some_iff.1 hb).1
  have := hw _ hlt
  simpa only [World.cell?, this] using hm
abbrev MaxJ (W : World) : Prop := ∃ m, W.cell? ⟨2, 0, none⟩ = some (.int .i64 m)
abbrev ErrJ (W : World) : Prop := (∃ t p, W.cell? ⟨3, 0, none⟩ = some (.iface t p)) ∧ ∃ t p, W.cell? ⟨4, 0, none⟩ = some (.iface t p)
/-- The error beside a number: nil, or one of which nothing is told. -/
def errP (b : Bool) : PV := if b then .lit .nilIface else .ifc 188 .dead
def isOk {α : Type} : Lib.NumEnd α → Bool
  | .ok _ => true
  | _ => false
theorem atoi_ok (hE : ErrJ W) (s : List UInt8) (hs : s.length ≤ 281474976710656) : Pure Tryd.prog W 116 [.str s] (.tup [.int .i64 (cntV s), errP (isOk (Lib.atoiAll s))]) := by
  obtain ⟨⟨t1, p1, h1⟩, t2, p2, h2⟩ := hE
  have hsz : (⟨s.toArray⟩ : ByteArray).size = s.length := by simp [ByteArray.size]
  refine Pure.of_any Tryd.func116 rfl (by decide) rfl fun w _ hw => ?_
  unfold cntV
  cases h : Lib.atoiAll s with
  | ok n =>
    refine (Tryd.strconv_Atoi_ok ⟨s.toArray⟩ (by omega) n h w).mono ?_
    rintro e w' ⟨he, hb⟩
    refine ⟨_, he, fun K => .tup [_, _] [.int .i64 n, .nilIface] rfl fun i hi => ?_, ?_⟩
    · match i, hi with
      | 0, _ => exact .int _ _
      | 1, _ => exact .lit _
    · rcases hb with rfl | ⟨t, rfl⟩
      · exact .refl _ _
      · exact Lib.bytesWorld_below _ _ _
  | «syntax» =>
    refine (Tryd.strconv_Atoi_syntax ⟨s.toArray⟩ (by omega) h _ w (cell_keep h1 hw) (.inr ⟨_, _, rfl⟩)).mono ?_
    rintro e w' ⟨N, he, -, -, hb⟩
    refine ⟨_, he, fun K => .tup [_, _] [.int .i64 0, _] rfl fun i hi => ?_, hb⟩
    match i, hi with
    | 0, _ => exact .int _ _
    | 1, _ => exact .ifc _ _ _ (.dead _)
  | range =>
    refine (Tryd.strconv_Atoi_range ⟨s.toArray⟩ (by omega) h _ w (cell_keep h2 hw) (.inr ⟨_, _, rfl⟩)).mono ?_
    rintro e w' ⟨N, he, -, -, hb⟩
    refine ⟨_, he, fun K => .tup [_, _] [.int .i64 (Lib.atoiSat s), _] rfl fun i hi => ?_, hb⟩
    match i, hi with
    | 0, _ => exact .int _ _
    | 1, _ => exact .ifc _ _ _ (.dead _)
/-- An error held against nil. -/
theorem neq_nil0 {t : TypeId} {xo : Operand} {c : Value} (ht : Tryd.prog.underlying t = some (.interface (Tryd.prog.methodsAt t))) : EqLaw Tryd.prog .neq t xo (.const c) (.lit .nilIface) (.lit .nilIface) false := by
  refine ⟨fun K w u v h1 h2 => ?_⟩
  cases h1; cases h2
  have e0 : (eqGuard .neq t xo (.const c) .nilIface .nilIface).run Tryd.prog w = .ok () w := by simp [eqGuard]
  rw [Sem.run_bind, e0, Result.andThen_ok, run_neq_nil_nil w t ht]
theorem neq_held {t d : TypeId} {p : PV} {xo yo : Operand} (ht : Tryd.prog.underlying t = some (.interface (Tryd.prog.methodsAt t))) : EqLaw Tryd.prog .neq t xo yo (.ifc d p) (.lit .nilIface) true := by
  refine ⟨fun K w u v h1 h2 => ?_⟩
  cases h1; cases h2
  have e0 : ∀ x, (eqGuard .neq t xo yo (.iface d x) .nilIface).run Tryd.prog w = .ok () w := fun x => by simp [eqGuard]
  rw [Sem.run_bind, e0, Result.andThen_ok, run_neq_held_nil w t d _ ht]
end Go.Eng.YtkenlcaifhffoaaDoor
end
