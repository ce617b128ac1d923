/- Texts put together: RecL, RecR. -/
import Derived.Test.YtimpfhokacfobaaDoorMRA
import Derived.Test.YtimpfhokacfobaaDoorMH1
import Derived.WideLaws
/- What recordings ask of the library: strings.Split, Cut, Count at one byte, strconv.Atoi, strconv.ParseUint. -/
section
namespace Go.Eng.YtimpfhokacfobaaDoor
open Go Go.Eng Go.Proofs Go.RowKit
variable (W : World)
set_option linter.unusedSimpArgs false
set_option maxRecDepth 100000
set_option linter.unusedVariables false
set_option maxHeartbeats 4000000
theorem cell_keep {W w : World} {b : Nat} {v : Value} (hm : W.cell? ⟨b, 0, none⟩ = some v) (hw : ∀ b, b < W.heap.size → w.heap[b]? = W.heap[b]?) : w.cell? ⟨b, 0, none⟩ = some v := by
  have hlt : b < W.heap.size := by
    simp only [World.cell?] at hm
    cases hb : W.heap[b]? with
    | none => simp [hb] at hm
    | some o => exact (Array.getElem?_eq_some_iff.1 hb).1
  have := hw _ hlt
  simpa only [World.cell?, this] using hm
abbrev MaxJ (W : World) : Prop := ∃ m, W.cell? ⟨2, 0, none⟩ = some (.int .i64 m)
abbrev ErrJ (W : World) : Prop := (∃ t p, W.cell? ⟨4, 0, none⟩ = some (.iface t p)) ∧ ∃ t p, W.cell? ⟨5, 0, none⟩ = some (.iface t p)
theorem split_ok (hM : MaxJ W) (s : List UInt8) (c : UInt8) (hs : s.length ≤ 4194304) : Pure Tryd.prog W 69 [.str s, .str [c]] (.sl 1 ((splt c s).map PV.str)) := by
  obtain ⟨m, hm⟩ := hM
  refine Pure.of_strs (splt c s) Tryd.func69 rfl (by decide) rfl (t := 9) fun w _ hw => ?_
  refine (Tryd.strings_Split ⟨s.toArray⟩ ⟨#[c]⟩ m w (by simp [ByteArray.size]; omega) (cell_keep hm hw) (by simp [ByteArray.size])).mono ?_
  rintro e w' ⟨he, hw'⟩
  have hd := Lib.splitB_data ⟨#[c]⟩ 0 (Lib.countB ⟨s.toArray⟩ ⟨#[c]⟩) ⟨s.toArray⟩
  have hs' : (Lib.splitB ⟨#[c]⟩ 0 (Lib.countB ⟨s.toArray⟩ ⟨#[c]⟩) ⟨s.toArray⟩).map (·.data.toList) = splt c s := by
    rw [hd, ← split_splt]; rfl
  have hl : (splt c s).length = Lib.countB ⟨s.toArray⟩ ⟨#[c]⟩ + 1 := count_splt c s
  refine ⟨by rw [he, hl], ?_⟩
  rw [hw', ← hs', List.map_map]
  rfl
theorem count_ok (hM : MaxJ W) (s : List UInt8) (c : UInt8) (hs : s.length ≤ 4194304) : Pure Tryd.prog W 89 [.str s, .str [c]] (.int .i64 ((splt c s).length - 1 : Nat)) := by
  obtain ⟨m, hm⟩ := hM
  have hl : (splt c s).length = Lib.countB ⟨s.toArray⟩ ⟨#[c]⟩ + 1 := count_splt c s
  rw [hl, Nat.add_sub_cancel]
  exact Pure.of_below Tryd.func89 rfl (by decide) rfl rfl fun w _ hw => (Tryd.strings_Count_any ⟨s.toArray⟩ ⟨#[c]⟩ m w (by simp [ByteArray.size]; omega) (cell_keep hm hw) (by simp [ByteArray.size])).mono fun _ _ h => ⟨h.1, h.2 ▸ RowKit.Below.refl _ _⟩
/-- The error beside a number: nil, or one of which nothing is told. -/
def errP (b : Bool) : PV := if b then .lit .nilIface else .ifc 154 .dead
def isOk {α : Type} : Lib.NumEnd α → Bool
  | .ok _ => true
  | _ => false
theorem atoi_ok (hE : ErrJ W) (s : List UInt8) (hs : s.length ≤ 281474976710656) : Pure Tryd.prog W 70 [.str s] (.tup [.int .i64 (cntV s), errP (isOk (Lib.atoiAll s))]) := by
  obtain ⟨⟨t1, p1, h1⟩, t2, p2, h2⟩ := hE
  have hsz : (⟨s.toArray⟩ : ByteArray).size = s.length := by simp [ByteArray.size]
  refine Pure.of_any Tryd.func70 rfl (by decide) rfl fun w _ hw => ?_
  unfold cntV
  cases h : Lib.atoiAll s with
  | ok n =>
    refine (Tryd.strconv_Atoi_ok ⟨s.toArray⟩ (by omega) n h w).mono ?_
    rintro e w' ⟨he, hb⟩
    refine ⟨_, he, fun K => .tup [_, _] [.int .i64 n, .nilIface] rfl fun i hi => ?_, ?_⟩
    · match i, hi with
      | 0, _ => exact .int _ _
      | 1, _ => exact .lit _
    · rcases hb with rfl | ⟨t, rfl⟩
      · exact .refl _ _
      · exact Lib.bytesWorld_below _ _ _
  | «syntax» =>
    refine (Tryd.strconv_Atoi_syntax ⟨s.toArray⟩ (by omega) h _ w (cell_keep h1 hw) (.inr ⟨_, _, rfl⟩)).mono ?_
    rintro e w' ⟨N, he, -, -, hb⟩
    refine ⟨_, he, fun K => .tup [_, _] [.int .i64 0, _] rfl fun i hi => ?_, hb⟩
    match i, hi with
    | 0, _ => exact .int _ _
    | 1, _ => exact .ifc _ _ _ (.dead _)
  | range =>
    refine (Tryd.strconv_Atoi_range ⟨s.toArray⟩ (by omega) h _ w (cell_keep h2 hw) (.inr ⟨_, _, rfl⟩)).mono ?_
    rintro e w' ⟨N, he, -, -, hb⟩
    refine ⟨_, he, fun K => .tup [_, _] [.int .i64 (Lib.atoiSat s), _] rfl fun i hi => ?_, hb⟩
    match i, hi with
    | 0, _ => exact .int _ _
    | 1, _ => exact .ifc _ _ _ (.dead _)
theorem toErr_ok (hE : ErrJ W) (f s : List UInt8) (b c : Int) (hs : s.length ≤ 4194304) : Pure Tryd.prog W 79 [.str f, .str s, .int .i64 b, .int .i64 c, .ifc 151 (.int .i64 2)] (.ifc 154 .dead) := by
  obtain ⟨⟨t1, p1, h1⟩, -⟩ := hE
  have hsz : (⟨s.toArray⟩ : ByteArray).size = s.length := by simp [ByteArray.size]
  refine ⟨⟨_, Tryd.func79, by decide, rfl⟩, fun K w vs hl hv hm hp => ?_⟩
  obtain ⟨v0, v1, v2, v3, v4, rfl⟩ : ∃ v0 v1 v2 v3 v4, vs = [v0, v1, v2, v3, v4] := by
    match vs, hl with
    | [v0, v1, v2, v3, v4], _ => exact ⟨v0, v1, v2, v3, v4, rfl⟩
  have g0 := hv 0 (by simp)
  have g1 := hv 1 (by simp)
  have g2 := hv 2 (by simp)
  have g3 := hv 3 (by simp)
  have g4 := hv 4 (by simp)
  simp only [List.getD_cons_zero, List.getD_cons_succ] at g0 g1 g2 g3 g4
  cases g0; cases g1; cases g2; cases g3
  cases g4 with
  | ifc _ _ v h4 =>
    cases h4
    refine (Tryd.strconv_toError_syntax ⟨f.toArray⟩ ⟨s.toArray⟩ b c _ w (by omega) (cell_keep h1 hp.base) (.inr ⟨_, _, rfl⟩)).mono ?_
    rintro e w' ⟨N, he, -, -, hb⟩
    exact ⟨_, .ifc 154 .dead, [], K, he, rfl, .ifc _ _ _ (.dead _), ⟨fun b o h => Nat.lt_of_lt_of_le (hm.kin b o h) hb.size, by simp, fun k hk => by cases hk⟩, Ext.of_below hb hm.kin⟩
/-- An error held against nil. -/
theorem neq_nil0 {t : TypeId} {xo : Operand} {c : Value} (ht : Tryd.prog.underlying t = some (.interface (Tryd.prog.methodsAt t))) : EqLaw Tryd.prog .neq t xo (.const c) (.lit .nilIface) (.lit .nilIface) false := by
  refine ⟨fun K w u v h1 h2 => ?_⟩
  cases h1; cases h2
  have e0 : (eqGuard .neq t xo (.const c) .nilIface .nilIface).run Tryd.prog w = .ok () w := by simp [eqGuard]
  rw [Sem.run_bind, e0, Result.andThen_ok, run_neq_nil_nil w t ht]
theorem neq_held {t d : TypeId} {p : PV} {xo yo : Operand} (ht : Tryd.prog.underlying t = some (.interface (Tryd.prog.methodsAt t))) : EqLaw Tryd.prog .neq t xo yo (.ifc d p) (.lit .nilIface) true := by
  refine ⟨fun K w u v h1 h2 => ?_⟩
  cases h1; cases h2
  have e0 : ∀ x, (eqGuard .neq t xo yo (.iface d x) .nilIface).run Tryd.prog w = .ok () w := fun x => by simp [eqGuard]
  rw [Sem.run_bind, e0, Result.andThen_ok, run_neq_held_nil w t d _ ht]
theorem eql_nil0 {t : TypeId} {xo : Operand} {c : Value} (ht : Tryd.prog.underlying t = some (.interface (Tryd.prog.methodsAt t))) : EqLaw Tryd.prog .eql t xo (.const c) (.lit .nilIface) (.lit .nilIface) true := by
  refine ⟨fun K w u v h1 h2 => ?_⟩
  cases h1; cases h2
  have e0 : (eqGuard .eql t xo (.const c) .nilIface .nilIface).run Tryd.prog w = .ok () w := by simp [eqGuard]
  rw [Sem.run_bind, e0, Result.andThen_ok, run_eql_nil_nil w t ht]
theorem eql_held {t d : TypeId} {p : PV} {xo yo : Operand} (ht : Tryd.prog.underlying t = some (.interface (Tryd.prog.methodsAt t))) : EqLaw Tryd.prog .eql t xo yo (.ifc d p) (.lit .nilIface) false := by
  refine ⟨fun K w u v h1 h2 => ?_⟩
  cases h1; cases h2
  have e0 : ∀ x, (eqGuard .eql t xo yo (.iface d x) .nilIface).run Tryd.prog w = .ok () w := fun x => by simp [eqGuard]
  rw [Sem.run_bind, e0, Result.andThen_ok, run_eql_held_nil w t d _ ht]
end Go.Eng.YtimpfhokacfobaaDoor
end

/- Recordings read: count. -/
section
namespace Go.Eng.YtimpfhokacfobaaDoor
open Go Go.Eng Go.Proofs Go.RowKit
variable (W : World)
set_option linter.unusedSimpArgs false
set_option maxRecDepth 100000
set_option linter.unusedVariables false
set_option maxHeartbeats 4000000
theorem splt_len (c : UInt8) : ∀ (s p : List UInt8), p ∈ splt c s → p.length ≤ s.length
  | [], p, h => by simp [splt] at h; simp [h]
  | x :: r, p, h => by
    rw [splt] at h
    obtain ⟨a, l, e⟩ : ∃ a l, splt c r = a :: l := List.exists_cons_of_ne_nil (splt_ne c r)
    have ih := splt_len c r
    rw [e] at ih
    split at h
    · rw [e] at h
      rcases List.mem_cons.1 h with rfl | h
      · simp
      · have := ih p h; simp only [List.length_cons]; omega
    · rw [e] at h
      simp only [List.headD_cons, List.tail_cons] at h
      rcases List.mem_cons.1 h with rfl | h
      · have := ih a (by simp); simp only [List.length_cons]; omega
      · have := ih p (List.mem_cons_of_mem _ h); simp only [List.length_cons]; omega
end Go.Eng.YtimpfhokacfobaaDoor
end
