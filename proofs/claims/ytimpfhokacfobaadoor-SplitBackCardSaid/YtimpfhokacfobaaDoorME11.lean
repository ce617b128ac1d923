/- Texts put together: Eng34. -/
import Derived.Test.YtimpfhokacfobaaDoorME3
import Derived.Maps.Keyed
import Derived.DeepKeys4
/- The engine, part 34: maps by the kit's laws on keys: keys of several cells, entries written again. -/
section
namespace Go.Eng
open Go Go.Maps
set_option linter.unusedSimpArgs false
set_option linter.unusedVariables false
/-- A key that is this value, and is one. -/
structure KeyIs (P : Program) (kt : TypeId) (i : PV) (u : Value) : Prop where
  is : ∀ (K : Kn) (w : World) (x : Value), VRel K w i x → x = u
  key : ∃ l, keyOf P kt u = some l
def KeysAre (P : Program) (kt : TypeId) (es : List (PV × PV)) (us : List Value) : Prop :=
  us.length = es.length ∧ ∀ j, j < es.length → KeyIs P kt (es.getD j (.dead, .dead)).1 (us.getD j undef)
/-- What the entries' keys are. -/
theorem ents_keys {P : Program} {kt : TypeId} {es : List (PV × PV)} {us : List Value} {K : Kn} {w : World} {ents : Array MapEntry} (h : KeysAre P kt es us) (hr : MapRel K w es ents) :
    (∀ (j : Nat) (e : MapEntry), ents.toList[j]? = some e → us[j]? = some e.key) ∧ ∀ e ∈ ents.toList, ∃ l, keyOf P kt e.key = some l := by
  have key : ∀ (j : Nat) (e : MapEntry), ents.toList[j]? = some e → us[j]? = some e.key ∧ ∃ l, keyOf P kt e.key = some l := by
    intro j e he
    have hjl : j < ents.size := by
      have := (List.getElem?_eq_some_iff.1 he).1
      simpa using this
    have hje : j < es.length := by rw [← hr.1]; exact hjl
    have hd : ents.getD j default = e := by
      rw [Array.getD_eq_getD_getElem?, ← Array.getElem?_toList, he]; rfl
    have h2 := h.2 j hje
    have h3 := h2.is K w _ (hr.2 j hje).1
    rw [hd] at h3
    have hju : j < us.length := by rw [h.1]; exact hje
    have h4 : us.getD j undef = us[j] := by simp [List.getD_eq_getElem?_getD, hju]
    rw [h4] at h3 h2
    refine ⟨by rw [List.getElem?_eq_getElem hju, h3], ?_⟩
    rw [h3]; exact h2.key
  refine ⟨fun j e he => (key j e he).1, fun e he => ?_⟩
  obtain ⟨j, hj⟩ := List.mem_iff_getElem?.1 he
  exact (key j e hj).2
/-- A key that is not there yet. -/
theorem insLaw_key {P : Program} {t kt et : TypeId} (Kd : Keyed P kt) (ht : P.underlying t = some (.map kt et)) {es : List (PV × PV)} {us : List Value} {i v : PV} {u : Value} (h : KeysAre P kt es us) (hi : KeyIs P kt i u) (hn : u ∉ us) :
    InsLaw P t es i v (es ++ [(i, v)]) := by
  refine ⟨fun K w b ui uv ents clock g2 hr hi' hv => ⟨ents.push { key := ui, val := uv, born := clock }, clock + 1, ?_, ?_, stm_push⟩⟩
  · obtain rfl := hi.is K w ui hi'
    obtain ⟨l, hl⟩ := hi.key
    have e1 : (getObj b).run P w = .ok (.map ents clock) w := by simp [getObj, Sem.run, g2]
    have e2 : ∀ o', (setObj b o').run P w = .ok () { w with heap := w.heap.setIfInBounds b o' } := fun o' => by simp [setObj, Sem.run, g2]
    obtain ⟨k1, k2⟩ := ents_keys h hr
    rcases Kd.find w hl ents.toList k2 with ⟨h1, h2⟩ | ⟨j, e, h1, h2, h3⟩
    · simp [Instr.mapUpdate, run_underlying ht, e1, e2, Kd.check w false hl, h1]
    · exact absurd (List.mem_of_getElem? (h3 ▸ k1 j e h2)) hn
  · obtain ⟨g3, g4⟩ := hr
    refine ⟨by simp [g3], fun j hj => ?_⟩
    simp only [List.length_append, List.length_cons, List.length_nil] at hj
    by_cases c : j < es.length
    · have c' : j < ents.size := by omega
      have := g4 j c
      have q1 : (es ++ [(i, v)]).getD j (.dead, .dead) = es.getD j (.dead, .dead) := by simp [List.getD_eq_getElem?_getD, List.getElem?_append, c]
      have q2 : (ents.push { key := ui, val := uv, born := clock }).getD j default = ents.getD j default := by simp [Array.getD_eq_getD_getElem?, Array.getElem?_push, c', Nat.ne_of_lt c']
      rw [q1, q2]
      exact this
    · obtain rfl : j = es.length := by omega
      have q1 : (es ++ [(i, v)]).getD es.length (.dead, .dead) = (i, v) := by simp [List.getD_eq_getElem?_getD]
      have q2 : (ents.push { key := ui, val := uv, born := clock }).getD es.length default = { key := ui, val := uv, born := clock } := by simp [Array.getD_eq_getD_getElem?, ← g3]
      rw [q1, q2]
      exact ⟨hi', hv⟩
theorem stm_modify {ents : Array MapEntry} {clock j : Nat} {a b : Value} (h : Stm ents clock) : Stm (ents.modify j fun e => { e with key := a, val := b }) clock := by
  have e : (ents.modify j fun e => { e with key := a, val := b }).toList.map MapEntry.born = ents.toList.map MapEntry.born := by
    apply List.ext_getElem?
    intro m
    rw [List.getElem?_map, List.getElem?_map, Array.getElem?_toList, Array.getElem?_toList, Array.getElem?_modify]
    split
    · cases ents[m]? <;> rfl
    · rfl
  unfold Stm at *
  rw [e]
  exact h
/-- A key that is there: its entry is written again. -/
theorem insLaw_again {P : Program} {t kt et : TypeId} (Kd : Keyed P kt) (ht : P.underlying t = some (.map kt et)) {es : List (PV × PV)} {us : List Value} {i v : PV} {u : Value} {j : Nat} (h : KeysAre P kt es us) (hi : KeyIs P kt i u)
    (hj : us[j]? = some u) (hu : ∀ m, us[m]? = some u → m = j) : InsLaw P t es i v (es.set j (i, v)) := by
  refine ⟨fun K w b ui uv ents clock g2 hr hi' hv => ⟨ents.modify j fun e => { e with key := ui, val := uv }, clock, ?_, ?_, stm_modify⟩⟩
  · obtain rfl := hi.is K w ui hi'
    obtain ⟨l, hl⟩ := hi.key
    have e1 : (getObj b).run P w = .ok (.map ents clock) w := by simp [getObj, Sem.run, g2]
    have e2 : ∀ o', (setObj b o').run P w = .ok () { w with heap := w.heap.setIfInBounds b o' } := fun o' => by simp [setObj, Sem.run, g2]
    obtain ⟨k1, k2⟩ := ents_keys h hr
    rcases Kd.find w hl ents.toList k2 with ⟨h1, h2⟩ | ⟨m, e, h1, h2, h3⟩
    · exfalso
      have hjl : j < ents.toList.length := by
        have := (List.getElem?_eq_some_iff.1 hj).1
        rw [h.1, ← hr.1] at this
        simpa using this
      have h4 := k1 j _ (List.getElem?_eq_getElem hjl)
      rw [hj] at h4
      exact h2 _ (List.getElem_mem hjl) (Option.some.inj h4).symm
    · obtain rfl := hu m (h3 ▸ k1 m e h2)
      have h5 : ents[m]? = some e := by rw [← Array.getElem?_toList]; exact h2
      simp [Instr.mapUpdate, run_underlying ht, e1, e2, Kd.check w false hl, h1, h5, h3, Kd.stays w hl]
  · obtain ⟨g3, g4⟩ := hr
    refine ⟨by simp [g3], fun m hm => ?_⟩
    rw [List.length_set] at hm
    have hml : m < ents.size := by rw [g3]; exact hm
    by_cases c : m = j
    · subst c
      have q1 : (es.set m (i, v)).getD m (.dead, .dead) = (i, v) := by simp [List.getD_eq_getElem?_getD, hm]
      have q2 : (ents.modify m fun e => { e with key := ui, val := uv }).getD m default = { ents[m] with key := ui, val := uv } := by
        simp [Array.getD_eq_getD_getElem?, hml, Array.getElem_modify]
      rw [q1, q2]
      exact ⟨hi', hv⟩
    · have q1 : (es.set j (i, v)).getD m (.dead, .dead) = es.getD m (.dead, .dead) := by simp [List.getD_eq_getElem?_getD, List.getElem?_set, Ne.symm c]
      have q2 : (ents.modify j fun e => { e with key := ui, val := uv }).getD m default = ents.getD m default := by
        simp [Array.getD_eq_getD_getElem?, Array.getElem?_modify, Ne.symm c]
      rw [q1, q2]
      exact g4 m hm
end Go.Eng
end
