/- Texts put together: RecL, RecR. -/
import Derived.Test.YtbaokhehnilneaaGreatDoorMRA
import Derived.Test.YtbaokhehnilneaaGreatDoorMH1
import Derived.WideLaws
/- What recordings ask of the library: strings.Split, Cut, Count at one byte, strconv.Atoi, strconv.ParseUint. -/
section
namespace Go.Eng.YtbaokhehnilneaaGreatDoor
open Go Go.Eng Go.Proofs Go.RowKit
variable (W : World)
set_option linter.unusedSimpArgs false
set_option maxRecDepth 100000
set_option linter.unusedVariables false
set_option maxHeartbeats 4000000
theorem cell_keep {W w : World} {b : Nat} {v : Value} (hm : W.cell? ⟨b, 0, none⟩ = some v) (hw : ∀ b, b < W.heap.size → w.heap[b]? = W.heap[b]?) : w.cell? ⟨b, 0, none⟩ = some v := by
  have hlt : b < W.heap.size := by
    simp only [World.cell?] at hm
    cases hb : W.heap[b]? with
    | none => simp [hb] at hm
    | some o => exact (Array.getElem?_eq_some_iff.1 hb).1
  have := hw _ hlt
  simpa only [World.cell?, this] using hm
abbrev MaxJ (W : World) : Prop := ∃ m, W.cell? ⟨2, 0, none⟩ = some (.int .i64 m)
abbrev ErrJ (W : World) : Prop := (∃ t p, W.cell? ⟨11, 0, none⟩ = some (.iface t p)) ∧ ∃ t p, W.cell? ⟨12, 0, none⟩ = some (.iface t p)
theorem split_ok (hM : MaxJ W) (s : List UInt8) (c : UInt8) (hs : s.length ≤ 4194304) : Pure Tryz.prog W 26 [.str s, .str [c]] (.sl 1 ((splt c s).map PV.str)) := by
  obtain ⟨m, hm⟩ := hM
  refine Pure.of_strs (splt c s) Tryz.func26 rfl (by decide) rfl (t := 9) fun w _ hw => ?_
  refine (Tryz.strings_Split ⟨s.toArray⟩ ⟨#[c]⟩ m w (by simp [ByteArray.size]; omega) (cell_keep hm hw) (by simp [ByteArray.size])).mono ?_
  rintro e w' ⟨he, hw'⟩
  have hd := Lib.splitB_data ⟨#[c]⟩ 0 (Lib.countB ⟨s.toArray⟩ ⟨#[c]⟩) ⟨s.toArray⟩
  have hs' : (Lib.splitB ⟨#[c]⟩ 0 (Lib.countB ⟨s.toArray⟩ ⟨#[c]⟩) ⟨s.toArray⟩).map (·.data.toList) = splt c s := by
    rw [hd, ← split_splt]; rfl
  have hl : (splt c s).length = Lib.countB ⟨s.toArray⟩ ⟨#[c]⟩ + 1 := count_splt c s
  refine ⟨by rw [he, hl], ?_⟩
  rw [hw', ← hs', List.map_map]
  rfl
/-- The error beside a number: nil, or one of which nothing is told. -/
def errP (b : Bool) : PV := if b then .lit .nilIface else .ifc 131 .dead
def isOk {α : Type} : Lib.NumEnd α → Bool
  | .ok _ => true
  | _ => false
theorem atoi_ok (hE : ErrJ W) (s : List UInt8) (hs : s.length ≤ 281474976710656) : Pure Tryz.prog W 40 [.str s] (.tup [.int .i64 (cntV s), errP (isOk (Lib.atoiAll s))]) := by
  obtain ⟨⟨t1, p1, h1⟩, t2, p2, h2⟩ := hE
  have hsz : (⟨s.toArray⟩ : ByteArray).size = s.length := by simp [ByteArray.size]
  refine Pure.of_any Tryz.func40 rfl (by decide) rfl fun w _ hw => ?_
  unfold cntV
  cases h : Lib.atoiAll s with
  | ok n =>
    refine (Tryz.strconv_Atoi_ok ⟨s.toArray⟩ (by omega) n h w).mono ?_
    rintro e w' ⟨he, hb⟩
    refine ⟨_, he, fun K => .tup [_, _] [.int .i64 n, .nilIface] rfl fun i hi => ?_, ?_⟩
    · match i, hi with
      | 0, _ => exact .int _ _
      | 1, _ => exact .lit _
    · rcases hb with rfl | ⟨t, rfl⟩
      · exact .refl _ _
      · exact Lib.bytesWorld_below _ _ _
  | «syntax» =>
    refine (Tryz.strconv_Atoi_syntax ⟨s.toArray⟩ (by omega) h _ w (cell_keep h1 hw) (.inr ⟨_, _, rfl⟩)).mono ?_
    rintro e w' ⟨N, he, -, -, hb⟩
    refine ⟨_, he, fun K => .tup [_, _] [.int .i64 0, _] rfl fun i hi => ?_, hb⟩
    match i, hi with
    | 0, _ => exact .int _ _
    | 1, _ => exact .ifc _ _ _ (.dead _)
  | range =>
    refine (Tryz.strconv_Atoi_range ⟨s.toArray⟩ (by omega) h _ w (cell_keep h2 hw) (.inr ⟨_, _, rfl⟩)).mono ?_
    rintro e w' ⟨N, he, -, -, hb⟩
    refine ⟨_, he, fun K => .tup [_, _] [.int .i64 (Lib.atoiSat s), _] rfl fun i hi => ?_, hb⟩
    match i, hi with
    | 0, _ => exact .int _ _
    | 1, _ => exact .ifc _ _ _ (.dead _)
theorem eql_nil0 {t : TypeId} {xo : Operand} {c : Value} (ht : Tryz.prog.underlying t = some (.interface (Tryz.prog.methodsAt t))) : EqLaw Tryz.prog .eql t xo (.const c) (.lit .nilIface) (.lit .nilIface) true := by
  refine ⟨fun K w u v h1 h2 => ?_⟩
  cases h1; cases h2
  have e0 : (eqGuard .eql t xo (.const c) .nilIface .nilIface).run Tryz.prog w = .ok () w := by simp [eqGuard]
  rw [Sem.run_bind, e0, Result.andThen_ok, run_eql_nil_nil w t ht]
theorem eql_held {t d : TypeId} {p : PV} {xo yo : Operand} (ht : Tryz.prog.underlying t = some (.interface (Tryz.prog.methodsAt t))) : EqLaw Tryz.prog .eql t xo yo (.ifc d p) (.lit .nilIface) false := by
  refine ⟨fun K w u v h1 h2 => ?_⟩
  cases h1; cases h2
  have e0 : ∀ x, (eqGuard .eql t xo yo (.iface d x) .nilIface).run Tryz.prog w = .ok () w := fun x => by simp [eqGuard]
  rw [Sem.run_bind, e0, Result.andThen_ok, run_eql_held_nil w t d _ ht]
end Go.Eng.YtbaokhehnilneaaGreatDoor
end

/- Recordings read: count. -/
section
namespace Go.Eng.YtbaokhehnilneaaGreatDoor
open Go Go.Eng Go.Proofs Go.RowKit
variable (W : World)
set_option linter.unusedSimpArgs false
set_option maxRecDepth 100000
set_option linter.unusedVariables false
set_option maxHeartbeats 4000000
theorem splt_len (c : UInt8) : ∀ (s p : List UInt8), p ∈ splt c s → p.length ≤ s.length
  | [], p, h => by simp [splt] at h; simp [h]
  | x :: r, p, h => by
    rw [splt] at h
    obtain ⟨a, l, e⟩ : ∃ a l, splt c r = a :: l := List.exists_cons_of_ne_nil (splt_ne c r)
    have ih := splt_len c r
    rw [e] at ih
    split at h
    · rw [e] at h
      rcases List.mem_cons.1 h with rfl | h
      · simp
      · have := ih p h; simp only [List.length_cons]; omega
    · rw [e] at h
      simp only [List.headD_cons, List.tail_cons] at h
      rcases List.mem_cons.1 h with rfl | h
      · have := ih a (by simp); simp only [List.length_cons]; omega
      · have := ih p (List.mem_cons_of_mem _ h); simp only [List.length_cons]; omega
end Go.Eng.YtbaokhehnilneaaGreatDoor
end
