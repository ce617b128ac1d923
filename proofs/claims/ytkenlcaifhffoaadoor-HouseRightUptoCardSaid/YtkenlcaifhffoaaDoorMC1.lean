/- Texts put together: CloseBase, CloseU8, Open, OpenS. -/
import Derived.Test.YtkenlcaifhffoaaDoorCards
import Derived.Test.YtkenlcaifhffoaaDoorTie
import Derived.Test.YtkenlcaifhffoaaDoorME3
import Derived.SizedLaws
import Derived.Deep.DeepHandedRow
import Derived.Test.YtkenlcaifhffoaaDoorMT1
import Derived.Lib.LaidIn
import Derived.Lib.LaidU8T
import Derived.Test.YtkenlcaifhffoaaDoorMS1
/- Closed facts of this seat's program that all its rows ask. -/
section
namespace Go.Proofs.YtkenlcaifhffoaaDoor
open Go
theorem own : ownKnob Tryd.prog.godebug = none := by kernel_rfl
theorem laidOut : laidOutB Tryd.prog = true := by kernel_rfl
theorem mapsRowed : Go.mapsRowed Tryd.prog = true := by kernel_rfl
theorem stops_nil : (Tryd.prog.stops == []) = true := by kernel_rfl
theorem stopKnobs_nil : (Tryd.prog.stopKnobs == []) = true := by kernel_rfl
theorem stopsHeard : Tryd.prog.stopsHeard = true := by kernel_rfl
theorem plainKeys : Tryd.prog.plainKeys = true := by kernel_rfl
theorem looks : Tryd.prog.looks [] = true := by kernel_rfl
def headSigns : List Char := List.map Char.ofNat [104, 97, 114, 110, 101, 115, 115, 32, 49, 52, 49, 51, 98, 55, 55, 49, 97, 52, 48, 102, 51, 54, 57, 54, 97, 57, 54, 99, 55, 98, 55, 102, 100, 53, 98, 100, 102, 98, 56, 56, 54, 98, 97, 50, 99, 102, 101, 102, 98, 99, 102, 98, 48, 98, 54, 56, 98, 101, 57, 99, 55, 50, 55, 52, 98, 51, 101, 49, 48, 55, 52, 55, 32, 99, 117, 116, 32, 97, 116, 32, 116, 114, 101, 108, 108, 105, 115, 47, 116, 114, 101, 108, 108, 105, 115, 108, 97, 119, 46, 72, 111, 117, 115, 101, 67, 108, 111, 115, 101, 32, 116, 114, 101, 108, 108, 105, 115, 47, 116, 114, 101, 108, 108, 105, 115, 108, 97, 119, 46, 72, 111, 117, 115, 101, 82, 105, 103, 104, 116, 32, 116, 114, 101, 108, 108, 105, 115, 47, 116, 114, 101, 108, 108, 105, 115, 108, 97, 119, 46, 70, 111, 114, 109, 97, 116, 69, 120, 112, 97, 110, 100]
theorem head_eq : Tryd.prog.initOrder = String.ofList headSigns := by kernel_rfl
theorem head_list : Tryd.prog.initOrder.toList = headSigns := by rw [head_eq, String.toList_ofList]
theorem head_words : ∃ rest, behindMainWord (wordsSigns Tryd.prog.initOrder.toList) = "cut".toList :: rest := by
  have h : (behindMainWord (wordsSigns headSigns)).head? = some "cut".toList := by kernel_rfl
  rw [head_list]
  obtain ⟨ys, h⟩ := List.head?_eq_some_iff.1 h
  exact ⟨ys, h⟩
theorem cut_lifts (rest : List (List Char)) : stripLifts liftWords ("cut".toList :: rest) = ([], "cut".toList :: rest) := by kernel_rfl
theorem headLifts : Tryd.prog.headLifts = [] := by
  obtain ⟨rest, h⟩ := head_words
  unfold Program.headLifts
  rw [h, cut_lifts]
  as_aux_lemma => kernel_rfl
theorem doorFits : Tryd.prog.doorFits [] = true := by kernel_rfl
theorem laysLater : Tryd.prog.laysLater = false := by kernel_rfl
theorem bearsReflect : Tryd.prog.bearsReflect = false := by kernel_rfl
theorem mayEnter_of {P : Program} {rest : List (List Char)} (h : behindMainWord (wordsSigns P.initOrder.toList) = "cut".toList :: rest) (h1 : P.laysLater = false) (h2 : P.bearsReflect = false) (h3 : P.doorFits [] = true) : P.mayEnter = true := by
  unfold Program.mayEnter
  rw [h]
  dsimp only
  rw [cut_lifts, h1, h2, h3]
  as_aux_lemma => kernel_rfl
theorem mayEnter : Tryd.prog.mayEnter = true := by
  obtain ⟨rest, h⟩ := head_words
  exact mayEnter_of h laysLater bearsReflect doorFits
theorem liftsFinal : Tryd.prog.liftsFinal = false := by
  obtain ⟨rest, h⟩ := head_words
  unfold Program.liftsFinal
  rw [headLifts, h]
  as_aux_lemma => kernel_rfl
theorem make_of {P : Program} {rest : List (List Char)} (h : behindMainWord (wordsSigns P.initOrder.toList) = "cut".toList :: rest) : P.make = some .cut := by
  unfold Program.make
  rw [h]
  as_aux_lemma => kernel_rfl
theorem make_cut : Tryd.prog.make = some .cut := by
  obtain ⟨rest, h⟩ := head_words
  exact make_of h
theorem mainIs_of {P : Program} {cs s : List Char} {ws : List (List Char)} (h : P.initOrder.toList = cs) (hw : wordsSigns cs = ws) (ht : ws.take 2 = ["harness".toList, s]) (hs : isSumSigns s = true) : P.mainIs = some (true, s) := by
  unfold Program.mainIs
  rw [h, hw]
  match ws, ht with
  | a :: b :: r, ht =>
    simp only [List.take_succ_cons, List.take_zero, List.cons.injEq, and_true] at ht
    obtain ⟨rfl, rfl⟩ := ht
    simp [hs]
theorem main_is : Tryd.prog.mainIs = some (true, "1413b771a40f3696a96c7b7fd5bdfb886ba2cfefbcfb0b68be9c7274b3e10747".toList) :=
  mainIs_of head_list rfl (by kernel_rfl) (by kernel_rfl)
theorem reach_of {H : Type} {P : Program} : ∀ {ts : List TypeId} {ds : List (DataW H)}, (DataW.weightsEach P ts ds).all (· ≤ reachBytes) = true → ∀ (i : Nat) (t : TypeId) (d : DataW H), ts[i]? = some t → ds[i]? = some d → (d.weights P t).all (· ≤ reachBytes) = true
  | [], _, _, i, t, d, ht, _ => by simp at ht
  | _ :: _, [], _, i, t, d, _, hd => by simp at hd
  | t0 :: ts, d0 :: ds, h, i, t, d, ht, hd => by
    rw [DataW.weightsEach, List.all_append, Bool.and_eq_true] at h
    cases i with
    | zero =>
      simp only [List.getElem?_cons_zero, Option.some.injEq] at ht hd
      subst ht; subst hd
      exact h.1
    | succ i => exact reach_of h.2 i t d (by simpa using ht) (by simpa using hd)
theorem upto_all {H : Type} : ∀ {ds : List (DataW H)} {n : Nat}, Rows.uptoBulkAll ds ≤ n → ∀ (i : Nat) (d : DataW H), ds[i]? = some d → Rows.uptoBulk d ≤ n
  | [], _, _, i, d, hd => by simp at hd
  | d0 :: ds, n, h, i, d, hd => by
    simp only [Rows.uptoBulkAll] at h
    cases i with
    | zero => simp only [List.getElem?_cons_zero, Option.some.injEq] at hd; subst hd; omega
    | succ i => exact upto_all (Nat.le_trans (Nat.le_add_left _ _) h) i d (by simpa using hd)
theorem upto_of {H : Type} {ds : List (DataW H)} (h : Rows.uptoSmall H ds = true) (i : Nat) (d : DataW H) (hd : ds[i]? = some d) : Rows.uptoBulk d ≤ 1048576 :=
  upto_all (of_decide_eq_true h) i d hd
theorem upto_str {H : Type} {l : List UInt8} (h : Rows.uptoBulk (.lit (.string l) : DataW H) ≤ 1048576) : l.length ≤ 1048576 := by
  simp only [Rows.uptoBulk] at h; omega
theorem and_t {a b : Bool} (h : a = true) (g : b = true) : (a && b) = true := by rw [h, g]; rfl
end Go.Proofs.YtkenlcaifhffoaaDoor
end

/- What the statements of this seat that list UTF-8's two tables stand on: the tables out of the row's list, a world that holds them. -/
section
namespace Go.Proofs.YtkenlcaifhffoaaDoor
open Go Go.Eng Go.ChangeShapes Go.WideShapes Go.ChangeAt Go.RowKit Go.Shelf

abbrev u8Laid : List (String × DataW Unit) := [("unicode/utf8.acceptRanges", Rows.laid_unicode_utf8_acceptRanges), ("unicode/utf8.first", Rows.laid_unicode_utf8_first)]
theorem first_eq : Rows.laid_unicode_utf8_first = Lib.firstData := by kernel_rfl
theorem accept_eq : Rows.laid_unicode_utf8_acceptRanges = Lib.acceptData := by kernel_rfl
theorem tabs_of {W : World} (hL : laidMetH Tryd.prog u8Laid W) : Eng.YtkenlcaifhffoaaDoor.Tabs W := by
  have h1 := Lib.laidMet.reads hL (.head _)
  have h2 := Lib.laidMet.reads hL (.tail _ (.head _))
  rw [accept_eq] at h1
  rw [first_eq] at h2
  exact utf8Tabs_of_reads Tryd.lays260 ⟨by kernel_rfl, by kernel_rfl, by kernel_rfl, by kernel_rfl, by kernel_rfl, by kernel_rfl, by kernel_rfl⟩ h2 h1
noncomputable def u8World (os : Os) : World :=
  let w0 := World.holding Tryd.prog os ⟨#[], #[], []⟩
  let put (h : Array Obj) (g : Nat) (cs : Array Value) : Array Obj := h.modify g fun
    | .cells _ t frozen => .cells cs t frozen
    | o => o
  let h1 := put w0.heap 0 (Lib.firstTab.map fun z => Value.int .u8 z).toArray
  let h2 := put h1 1 ((List.range 16).flatMap fun i => [Value.int .u8 (Lib.accLo i), Value.int .u8 (Lib.accHi i)]).toArray
  { w0 with heap := h2 }
theorem u8_met (os : Os) (args : Array Value) : laidMet Tryd.prog u8Laid ((u8World os).forCall (fun _ _ => 0) ⟨#[], args, []⟩).memory :=
  (LaidIn.of_run (l := u8Laid) [1, 0] 8 (by kernel_rfl) (by kernel_rfl) (by kernel_rfl) (by kernel_rfl)).met
end Go.Proofs.YtkenlcaifhffoaaDoor
end

/- Arguments, opened: whatever reads as data of a type is a value of the walk. -/
section
namespace Go.Proofs.YtkenlcaifhffoaaDoor
open Go Go.Eng Go.Eng.YtkenlcaifhffoaaDoor
set_option linter.unusedSimpArgs false
set_option linter.unusedVariables false
set_option maxRecDepth 100000
structure Opens (α : Type) (t : TypeId) (e : α → PV) (ok fit : α → Prop) (bulk : α → Nat) : Prop where
  opens : ∀ {H : Type} (enc : TypeId × Value → H) (W : World) (n : Nat) (cs : List Value) (x : DataW H × List MemPlace), DataW.trod enc Tryd.prog W 0 (fun _ => true) true n t cs = some x →
    ∃ a, ok a ∧ LRel (oldK W) W (e a).flat cs ∧ ((x.1.weights Tryd.prog t).all (· ≤ reachBytes) = true → fit a) ∧ bulk a ≤ Rows.uptoBulk x.1
theorem LRel.one {K : Kn} {w : World} {p : PV} {v : Value} (h : VRel K w p v) : LRel K w [p] [v] :=
  ⟨rfl, fun i hi => by
    obtain rfl : i = 0 := by simpa using hi
    simpa using h⟩
theorem Opens.int {t : TypeId} {k : IntKind} (ht : Tryd.prog.underlying t = some (.int k)) : Opens Int t (PV.int k) (fun n => (Lit.int k n).wf = true) (fun _ => True) (fun _ => 1) := by
  refine ⟨fun enc W n cs x h => ?_⟩
  obtain ⟨m, rfl, rfl, hw⟩ := DataW.trod_int ht h
  exact ⟨m, hw, LRel.one (.int _ _), fun _ => trivial, by simp [Rows.uptoBulk]⟩
theorem Opens.bool {t : TypeId} (ht : Tryd.prog.underlying t = some .bool) : Opens Bool t PV.bool (fun _ => True) (fun _ => True) (fun _ => 1) := by
  refine ⟨fun enc W n cs x h => ?_⟩
  obtain ⟨m, rfl, rfl⟩ := DataW.trod_bool ht h
  exact ⟨m, trivial, LRel.one (.bool _), fun _ => trivial, by simp [Rows.uptoBulk]⟩
theorem Opens.str {t : TypeId} (ht : Tryd.prog.underlying t = some .string) : Opens (List UInt8) t PV.str (fun _ => True) (fun s => s.length ≤ 140737488351232) (fun s => s.length + 1) := by
  refine ⟨fun enc W n cs x h => ?_⟩
  obtain ⟨s, rfl, rfl, hs⟩ := DataW.trod_string ht h
  refine ⟨s.data.toList, trivial, LRel.one (by simpa using VRel.str (K := oldK W) (w := W) s.data.toList), fun hf => ?_, by simp [Rows.uptoBulk]⟩
  have : s.data.toList.length ≤ reachBytes := by simpa [DataW.weights] using hf
  exact this
theorem exists_list {β : Type} (P : Nat → β → Prop) : ∀ (len : Nat), (∀ i, i < len → ∃ b, P i b) → ∃ l : List β, l.length = len ∧ ∀ i b, l[i]? = some b → P i b
  | 0, _ => ⟨[], rfl, fun i b h => by simp at h⟩
  | len + 1, h => by
    obtain ⟨l, hl, hp⟩ := exists_list P len (fun i hi => h i (by omega))
    obtain ⟨b, hb⟩ := h len (by omega)
    refine ⟨l ++ [b], by simp [hl], fun i c hc => ?_⟩
    by_cases hi : i < len
    · rw [List.getElem?_append_left (by omega)] at hc; exact hp i c hc
    · have : i = len := by
        have := (List.getElem?_eq_some_iff.1 hc).1
        simp [hl] at this; omega
      subst this
      rw [List.getElem?_append_right (by omega)] at hc
      simp [hl] at hc; subst hc; exact hb
theorem bulk_all {H : Type} {β : Type} (bulk : β → Nat) : ∀ (l : List β) (ds : List (DataW H)), l.length ≤ ds.length → (∀ (i : Nat) (b : β) (d : DataW H), l[i]? = some b → ds[i]? = some d → bulk b ≤ Rows.uptoBulk d) → (l.map bulk).sum ≤ Rows.uptoBulkAll ds
  | [], _, _, _ => by simp
  | b :: l, [], h, _ => by simp at h
  | b :: l, d :: ds, hl, h => by
    have h0 := h 0 b d rfl rfl
    have := bulk_all bulk l ds (by simpa using hl) (fun i b d hb hd => h (i + 1) b d (by simpa using hb) (by simpa using hd))
    simp only [List.map_cons, List.sum_cons, Rows.uptoBulkAll]; omega
theorem weights_all {H : Type} {P : Program} {e : TypeId} : ∀ {ds : List (DataW H)}, (DataW.weightsAll P e ds).all (· ≤ reachBytes) = true → ∀ (i : Nat) (d : DataW H), ds[i]? = some d → (d.weights P e).all (· ≤ reachBytes) = true
  | [], _, i, d, hd => by simp at hd
  | d0 :: ds, h, i, d, hd => by
    rw [DataW.weightsAll, List.all_append, Bool.and_eq_true] at h
    cases i with
    | zero => simp only [List.getElem?_cons_zero, Option.some.injEq] at hd; subst hd; exact h.1
    | succ i => exact weights_all h.2 i d (by simpa using hd)
def OpensN (n : Nat) (α : Type) (t : TypeId) (e : α → PV) (ok fit : α → Prop) (bulk : α → Nat) : Prop :=
  ∀ {H : Type} (enc : TypeId × Value → H) (W : World) (cs : List Value) (x : DataW H × List MemPlace), DataW.trod enc Tryd.prog W 0 (fun _ => true) true n t cs = some x →
    ∃ a, ok a ∧ LRel (oldK W) W (e a).flat cs ∧ ((x.1.weights Tryd.prog t).all (· ≤ reachBytes) = true → fit a) ∧ bulk a ≤ Rows.uptoBulk x.1
theorem OpensN.slice {n : Nat} {β : Type} {t e : TypeId} {sz by_ : Nat} {eb : β → PV} {okb fitb : β → Prop} {bulkb : β → Nat} (ht : Tryd.prog.underlying t = some (.slice e)) (hs : Tryd.prog.cellsOf e = sz) (h0 : 0 < sz) (hb : Tryd.prog.bytesOf e = by_)
    (he : ∀ m, n = m + 1 → OpensN m β e eb okb fitb bulkb) (hz : ∀ b, (eb b).flat.length = sz) :
    OpensN n (List β) t (fun l => .sl sz (l.map eb)) (fun l => ∀ b ∈ l, okb b) (fun l => l.length * by_ ≤ 140737488351232 ∧ ∀ b ∈ l, fitb b) (fun l => (l.map bulkb).sum + 1) := by
  intro H enc W cs x h
  rcases DataW.trod_slice ht h with ⟨rfl, rfl⟩ | ⟨a, len, cap, elems, rest, m, rfl, rfl, rfl, _, hcap, hmax, hlen, hel, _⟩
  · exact ⟨[], by simp, LRel.one (.sl0 _ _ _), fun _ => by simp, by simp [Rows.uptoBulk]⟩
  · rw [hs] at hel
    have hex : ∀ i, i < len → ∃ b, ∃ cs y, W.cells? 0 (a.add (i * sz)) sz = some cs ∧ elems[i]? = some y ∧ okb b ∧ LRel (oldK W) W (eb b).flat cs ∧ ((y.1.weights Tryd.prog e).all (· ≤ reachBytes) = true → fitb b) ∧ bulkb b ≤ Rows.uptoBulk y.1 := fun i hi => by
      have h1 := hel i hi
      obtain ⟨y, hy⟩ : ∃ y, elems[i]? = some y := ⟨elems[i]'(by omega), List.getElem?_eq_getElem _⟩
      rw [hy] at h1
      simp only [Option.bind_eq_some_iff] at h1
      obtain ⟨cs, hc, htr⟩ := h1
      obtain ⟨b, g1, g2, g3, g4⟩ := he m rfl enc W cs y htr
      exact ⟨b, cs, y, hc, hy, g1, g2, g3, g4⟩
    obtain ⟨l, hll, hP⟩ := exists_list _ len hex
    have hmem : ∀ b ∈ l, ∃ i, l[i]? = some b := fun b hb => List.getElem?_of_mem hb
    refine ⟨l, fun b hb => ?_, ?_, fun hf => ?_, ?_⟩
    · obtain ⟨i, hi⟩ := hmem b hb
      obtain ⟨cs, y, _, _, h1, _⟩ := hP i b hi
      exact h1
    · refine LRel.one ?_
      by_cases hl0 : len = 0
      · have : l = [] := List.eq_nil_of_length_eq_zero (by omega)
        subst this; subst hl0
        exact .sl0 _ _ _
      · obtain ⟨blk, off, rfl⟩ : ∃ blk off, a = ⟨blk, off, none⟩ := by
          obtain ⟨b, hb⟩ : ∃ b, l[0]? = some b := ⟨l[0]'(by omega), List.getElem?_eq_getElem _⟩
          obtain ⟨cs, y, hc, _⟩ := hP 0 b hb
          obtain ⟨_, hl1, hcell⟩ := World.cells?_some hc
          have := hcell 0 h0
          obtain ⟨blk, off, spot⟩ := a
          cases spot with
          | none => exact ⟨blk, off, rfl⟩
          | some s =>
            have hc0 : cs[0]? = some (cs[0]'(by omega)) := List.getElem?_eq_getElem _
            rw [hc0] at this
            simp only [World.cell?, Addr.add] at this
            split at this <;> simp at this
        have hcells : ∀ i j, i < l.length → j < sz → ∃ v, W.cell? ⟨blk, off + i * sz + j, none⟩ = some v ∧ VRel (oldK W) W (((l.map eb).getD i .dead).flat.getD j .dead) v := fun i j hi hj => by
          have hli : l[i]? = some l[i] := List.getElem?_eq_getElem _
          obtain ⟨cs, y, hc, _, _, hL, _⟩ := hP i _ hli
          obtain ⟨_, hl1, hcell⟩ := World.cells?_some hc
          have h1 := hcell j hj
          rw [addr_add, addr_add] at h1
          have hcj : cs[j]? = some (cs[j]'(by omega)) := List.getElem?_eq_getElem _
          refine ⟨cs[j]'(by omega), by rw [h1, hcj], ?_⟩
          have h2 := hL.2 j (by rw [hz]; exact hj)
          have e1 : (l.map eb).getD i .dead = eb l[i] := by simp [List.getD_eq_getElem?_getD, hi]
          rw [e1]
          simpa [List.getD_eq_getElem?_getD, hcj] using h2
        have hvs : ∀ i j, ∃ v, i < l.length → j < sz → W.cell? ⟨blk, off + i * sz + j, none⟩ = some v ∧ VRel (oldK W) W (((l.map eb).getD i .dead).flat.getD j .dead) v := fun i j => by
          by_cases hij : i < l.length ∧ j < sz
          · obtain ⟨v, hv⟩ := hcells i j hij.1 hij.2
            exact ⟨v, fun _ _ => hv⟩
          · exact ⟨undef, fun h1 h2 => absurd ⟨h1, h2⟩ hij⟩
        obtain ⟨vs, hvs⟩ := Classical.axiomOfChoice (r := fun (p : Nat × Nat) v => p.1 < l.length → p.2 < sz → W.cell? ⟨blk, off + p.1 * sz + p.2, none⟩ = some v ∧ VRel (oldK W) W (((l.map eb).getD p.1 .dead).flat.getD p.2 .dead) v) (fun p => hvs p.1 p.2)
        have := VRel.sl (K := oldK W) (w := W) sz (l.map eb) blk off cap (by simp; omega) (fun i j => vs (i, j)) (fun e' he' => by
            obtain ⟨b, _, rfl⟩ := List.mem_map.1 he'
            exact hz b) (fun i j hi hj => ?_) (fun i j hi hj => (hvs (i, j) (by simpa using hi) hj).2)
        · simpa [hll] using this
        · have h1 := (hvs (i, j) (by simpa using hi) hj).1
          refine ⟨?_, h1⟩
          simp only [World.cell?] at h1
          cases hb : W.heap[blk]? with
          | none => simp [hb] at h1
          | some o => exact (Array.getElem?_eq_some_iff.1 hb).1
    · simp only [DataW.weights, ht, List.all_cons, Bool.and_eq_true, List.all_append, List.length_map, hb] at hf
      obtain ⟨h1, h2, _⟩ := hf
      have h1 := of_decide_eq_true h1
      refine ⟨?_, fun b hb => ?_⟩
      · refine Nat.le_trans (Nat.mul_le_mul_right by_ (?_ : l.length ≤ elems.length + rest.length)) h1
        omega
      · obtain ⟨i, hi⟩ := hmem b hb
        obtain ⟨cs, y, _, hy, _, _, h3, _⟩ := hP i b hi
        exact h3 (weights_all h2 i y.1 (by simp [hy]))
    · simp only [Rows.uptoBulk]
      have := bulk_all bulkb l (elems.map (·.1)) (by simp; omega) (fun i b d hb hd => by
        obtain ⟨cs, y, _, hy, _, _, _, h4⟩ := hP i b hb
        simp [hy] at hd; subst hd; exact h4)
      omega
theorem Opens.slice {β : Type} {t e : TypeId} {sz by_ : Nat} {eb : β → PV} {okb fitb : β → Prop} {bulkb : β → Nat} (ht : Tryd.prog.underlying t = some (.slice e)) (hs : Tryd.prog.cellsOf e = sz) (h0 : 0 < sz) (hb : Tryd.prog.bytesOf e = by_)
    (he : Opens β e eb okb fitb bulkb) (hz : ∀ b, (eb b).flat.length = sz) :
    Opens (List β) t (fun l => .sl sz (l.map eb)) (fun l => ∀ b ∈ l, okb b) (fun l => l.length * by_ ≤ 140737488351232 ∧ ∀ b ∈ l, fitb b) (fun l => (l.map bulkb).sum + 1) :=
  ⟨fun enc W n cs x h => OpensN.slice ht hs h0 hb (fun m _ => by intro H enc W cs y h; exact he.opens enc W m cs y h) hz enc W cs x h⟩
theorem vrel_struct {W : World} {base : Nat} {t : TypeId} {fs : Array Field} {cs : List PV} {v : Value} (ht : Tryd.prog.underlying t = some (.struct fs)) (hval : Value.okWide Tryd.prog W .any base t v) (h : LRel (oldK W) W (PV.agg cs).flat v.cells.toList) :
    VRel (oldK W) W (.agg cs) v := by
  unfold Value.okWide at hval
  rw [ht] at hval
  obtain ⟨us, rfl, _, _⟩ := hval
  have := VRel.agg (K := oldK W) (w := W) cs us.toList h.1 h.2
  simpa using this
theorem LRel.next {K : Kn} {w : World} {ps qs : List PV} {cs : List Value} {off n m : Nat} (h : LRel K w ps ((cs.drop off).take n)) (hm : m = off + n) (g : LRel K w qs (cs.drop m)) : LRel K w (ps ++ qs) (cs.drop off) := by
  subst hm
  have e : cs.drop off = (cs.drop off).take n ++ cs.drop (off + n) := by rw [← List.drop_drop, List.take_append_drop]
  rw [e]; exact h.append g
theorem LRel.fin {K : Kn} {w : World} {cs : List Value} {m : Nat} (h : cs.length = m) : LRel K w [] (cs.drop m) := by
  rw [List.drop_of_length_le (by omega)]; exact ⟨rfl, fun i hi => by simp at hi⟩
theorem ok_of_wf {n : Int} (h : (Lit.int .i64 n).wf = true) : i64ok n := by
  exact bounds_i64 h
theorem opens_int64 {t : TypeId} (ht : Tryd.prog.underlying t = some (.int .i64)) : Opens Int t (PV.int .i64) i64ok (fun _ => True) (fun _ => 1) := by
  refine ⟨fun enc W n cs x h => ?_⟩
  obtain ⟨a, h1, h2, h3, h4⟩ := (Opens.int ht).opens enc W n cs x h
  exact ⟨a, ok_of_wf h1, h2, h3, h4⟩
end Go.Proofs.YtkenlcaifhffoaaDoor
end

/- Arguments, opened: styles. -/
section
namespace Go.Proofs.YtkenlcaifhffoaaDoor
open Go Go.Eng Go.Eng.YtkenlcaifhffoaaDoor
set_option linter.unusedSimpArgs false
set_option linter.unusedVariables false
set_option maxRecDepth 100000
end Go.Proofs.YtkenlcaifhffoaaDoor
end
