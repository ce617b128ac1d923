/- Texts put together: Eng34. -/
import Derived.Test.YtbaokhehnilneaaGreatDoorME3
import Derived.Maps.Keyed
import Derived.DeepKeys4
/- The engine, part 34: maps by the kit's laws on keys: keys of several cells, entries written again. -/
section
namespace Go.Eng
open Go Go.Maps
set_option linter.unusedSimpArgs false
set_option linter.unusedVariables false
/-- A key that is this value, and is one. -/
structure KeyIs (P : Program) (kt : TypeId) (i : PV) (u : Value) : Prop where
  is : ∀ (K : Kn) (w : World) (x : Value), VRel K w i x → x = u
  key : ∃ l, keyOf P kt u = some l
def KeysAre (P : Program) (kt : TypeId) (es : List (PV × PV)) (us : List Value) : Prop :=
  us.length = es.length ∧ ∀ j, j < es.length → KeyIs P kt (es.getD j (.dead, .dead)).1 (us.getD j undef)
/-- What the entries' keys are. -/
theorem ents_keys {P : Program} {kt : TypeId} {es : List (PV × PV)} {us : List Value} {K : Kn} {w : World} {ents : Array MapEntry} (h : KeysAre P kt es us) (hr : MapRel K w es ents) :
    (∀ (j : Nat) (e : MapEntry), ents.toList[j]? = some e → us[j]? = some e.key) ∧ ∀ e ∈ ents.toList, ∃ l, keyOf P kt e.key = some l := by
  have key : ∀ (j : Nat) (e : MapEntry), ents.toList[j]? = some e → us[j]? = some e.key ∧ ∃ l, keyOf P kt e.key = some l := by
    intro j e he
    have hjl : j < ents.size := by
      have := (List.getElem?_eq_some_iff.1 he).1
      simpa using this
    have hje : j < es.length := by rw [← hr.1]; exact hjl
    have hd : ents.getD j default = e := by
      rw [Array.getD_eq_getD_getElem?, ← Array.getElem?_toList, he]; rfl
    have h2 := h.2 j hje
    have h3 := h2.is K w _ (hr.2 j hje).1
    rw [hd] at h3
    have hju : j < us.length := by rw [h.1]; exact hje
    have h4 : us.getD j undef = us[j] := by simp [List.getD_eq_getElem?_getD, hju]
    rw [h4] at h3 h2
    refine ⟨by rw [List.getElem?_eq_getElem hju, h3], ?_⟩
    rw [h3]; exact h2.key
  refine ⟨fun j e he => (key j e he).1, fun e he => ?_⟩
  obtain ⟨j, hj⟩ := List.mem_iff_getElem?.1 he
  exact (key j e hj).2
/-- A key that is not there yet. -/
theorem insLaw_key {P : Program} {t kt et : TypeId} (Kd : Keyed P kt) (ht : P.underlying t = some (.map kt et)) {es : List (PV × PV)} {us : List Value} {i v : PV} {u : Value} (h : KeysAre P kt es us) (hi : KeyIs P kt i u) (hn : u ∉ us) :
    InsLaw P t es i v (es ++ [(i, v)]) := by
  refine ⟨fun K w b ui uv ents clock g2 hr hi' hv => ⟨ents.push { key := ui, val := uv, born := clock }, clock + 1, ?_, ?_, stm_push⟩⟩
  · obtain rfl := hi.is K w ui hi'
    obtain ⟨l, hl⟩ := hi.key
    have e1 : (getObj b).run P w = .ok (.map ents clock) w := by simp [getObj, Sem.run, g2]
    have e2 : ∀ o', (setObj b o').run P w = .ok () { w with heap := w.heap.setIfInBounds b o' } := fun o' => by simp [setObj, Sem.run, g2]
    obtain ⟨k1, k2⟩ := ents_keys h hr
    rcases Kd.find w hl ents.toList k2 with ⟨h1, h2⟩ | ⟨j, e, h1, h2, h3⟩
    · simp [Instr.mapUpdate, run_underlying ht, e1, e2, Kd.check w false hl, h1]
    · exact absurd (List.mem_of_getElem? (h3 ▸ k1 j e h2)) hn
  · obtain ⟨g3, g4⟩ := hr
    refine ⟨by simp [g3], fun j hj => ?_⟩
    simp only [List.length_append, List.length_cons, List.length_nil] at hj
    by_cases c : j < es.length
    · have c' : j < ents.size := by omega
      have := g4 j c
      have q1 : (es ++ [(i, v)]).getD j (.dead, .dead) = es.getD j (.dead, .dead) := by simp [List.getD_eq_getElem?_getD, List.getElem?_append, c]
      have q2 : (ents.push { key := ui, val := uv, born := clock }).getD j default = ents.getD j default := by simp [Array.getD_eq_getD_getElem?, Array.getElem?_push, c', Nat.ne_of_lt c']
      rw [q1, q2]
      exact this
    · obtain rfl : j = es.length := by omega
      have q1 : (es ++ [(i, v)]).getD es.length (.dead, .dead) = (i, v) := by simp [List.getD_eq_getElem?_getD]
      have q2 : (ents.push { key := ui, val := uv, born := clock }).getD es.length default = { key := ui, val := uv, born := clock } := by simp [Array.getD_eq_getD_getElem?, ← g3]
      rw [q1, q2]
      exact ⟨hi', hv⟩
/-- What is read at a key: none there. -/
theorem lookLaw_none {P : Program} {t kt et : TypeId} (Kd : Keyed P kt) {b : Nat} {σ r : Mem} {es : List (PV × PV)} {us : List Value} {i : PV} {u z : Value} {i0 : TypeInfo} (hl : Look σ b (.mpc es) r) (ht : P.underlying t = some (.map kt et)) (hi0 : P.info? et = some i0) (hz : i0.zero = some z)
    (h : KeysAre P kt es us) (hi : KeyIs P kt i u) (hn : u ∉ us) : LookLaw P t (.mp b) i false σ (ofV z) := by
  refine ⟨fun K w x ui hm hx hi' => ?_⟩
  cases hx
  obtain ⟨g1, ents, clock, g2, g3⟩ : (∀ o, ¬ K b o) ∧ ∃ ents clock, w.heap[b]? = some (.map ents clock) ∧ MapRel K w es ents := BlkOk.old (hm.blk _ hl.mem)
  obtain rfl := hi.is K w ui hi'
  obtain ⟨l, hkl⟩ := hi.key
  have e1 : (getObj b).run P w = .ok (.map ents clock) w := by simp [getObj, Sem.run, g2]
  obtain ⟨k1, k2⟩ := ents_keys h g3
  rcases Kd.find w hkl ents.toList k2 with ⟨h1, h2⟩ | ⟨j, e, h1, h2, h3⟩
  · exact ⟨z, by simp [Instr.lookup, run_underlying ht, e1, Kd.check w _ hkl, h1, run_zeroValue hi0 hz], ofV_rel z⟩
  · exact absurd (List.mem_of_getElem? (h3 ▸ k1 j e h2)) hn
/-- .. the j-th entry's value. -/
theorem lookLaw_some {P : Program} {t kt et : TypeId} (Kd : Keyed P kt) {b : Nat} {σ r : Mem} {es : List (PV × PV)} {us : List Value} {i q : PV} {u : Value} {j : Nat} (hl : Look σ b (.mpc es) r) (ht : P.underlying t = some (.map kt et))
    (h : KeysAre P kt es us) (hi : KeyIs P kt i u) (hj : us[j]? = some u) (hu : ∀ m, us[m]? = some u → m = j) (hq : (es.getD j (.dead, .dead)).2 = q) : LookLaw P t (.mp b) i false σ q := by
  refine ⟨fun K w x ui hm hx hi' => ?_⟩
  cases hx
  obtain ⟨g1, ents, clock, g2, g3⟩ : (∀ o, ¬ K b o) ∧ ∃ ents clock, w.heap[b]? = some (.map ents clock) ∧ MapRel K w es ents := BlkOk.old (hm.blk _ hl.mem)
  obtain rfl := hi.is K w ui hi'
  obtain ⟨l, hkl⟩ := hi.key
  have e1 : (getObj b).run P w = .ok (.map ents clock) w := by simp [getObj, Sem.run, g2]
  obtain ⟨k1, k2⟩ := ents_keys h g3
  have hje : j < es.length := by
    have := (List.getElem?_eq_some_iff.1 hj).1
    rwa [h.1] at this
  rcases Kd.find w hkl ents.toList k2 with ⟨h1, h2⟩ | ⟨m, e, h1, h2, h3⟩
  · exfalso
    have hjl : j < ents.toList.length := by
      rw [Array.length_toList, g3.1]; exact hje
    have h4 := k1 j _ (List.getElem?_eq_getElem hjl)
    rw [hj] at h4
    exact h2 _ (List.getElem_mem hjl) (Option.some.inj h4).symm
  · obtain rfl := hu m (h3 ▸ k1 m e h2)
    refine ⟨e.val, by simp [Instr.lookup, run_underlying ht, e1, Kd.check w _ hkl, h1], ?_⟩
    have := (g3.2 m hje).2
    rw [hq] at this
    have hd : ents.getD m default = e := by
      rw [Array.getD_eq_getD_getElem?, ← Array.getElem?_toList, h2]; rfl
    rwa [hd] at this
end Go.Eng
end
