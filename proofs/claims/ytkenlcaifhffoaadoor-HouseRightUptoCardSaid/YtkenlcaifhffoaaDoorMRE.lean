/- Texts put together: Eng31. -/
import Derived.Test.YtkenlcaifhffoaaDoorME3
/- The engine, part 31: a text sought in a map of the call's own. -/
section
namespace Go.Eng
open Go
variable {P : Program}
def getS (es : List (PV × PV)) (s : List UInt8) : Option PV :=
  match es with
  | [] => none
  | (.str m, v) :: r => if s = m then some v else getS r s
  | _ :: r => getS r s
def strKeys : List (PV × PV) → Bool
  | [] => true
  | (.str _, _) :: r => strKeys r
  | _ :: _ => false
theorem findNow_getS {K : Kn} {w : World} {s : List UInt8} : ∀ (es : List (PV × PV)) (ents : List MapEntry) (j : Nat), es.length = ents.length → (∀ i, i < es.length → VRel K w (es.getD i (.dead, .dead)).1 (ents.getD i default).key ∧ VRel K w (es.getD i (.dead, .dead)).2 (ents.getD i default).val) → strKeys es = true →
    (getS es s = none ∧ Instr.findNow .string (.string ⟨s.toArray⟩) ents j = some none) ∨ (∃ v i z, getS es s = some v ∧ Instr.findNow .string (.string ⟨s.toArray⟩) ents j = some (some (i, z)) ∧ VRel K w v z)
  | [], [], j, _, _, _ => .inl ⟨rfl, rfl⟩
  | [], _ :: _, _, hl, _, _ => by simp at hl
  | _ :: _, [], _, hl, _, _ => by simp at hl
  | (q, v) :: es, en :: ents, j, hl, hr, hn => by
    have h0 := hr 0 (by simp)
    simp only [List.getD_cons_zero] at h0
    have ih := findNow_getS (s := s) es ents (j + 1) (by simpa using hl) (fun i hi => by have := hr (i + 1) (by simpa using hi); simpa using this)
    cases q <;> simp only [strKeys] at hn <;> (try (cases hn; done))
    rename_i m
    obtain ⟨h0, hv⟩ := h0
    generalize hk : en.key = key at h0
    cases h0
    by_cases h4 : s = m
    · subst h4
      have h5 : ((⟨s.toArray⟩ : ByteArray) == ⟨s.toArray⟩) = true := by
        show (s.toArray == s.toArray) = true
        exact beq_self_eq_true _
      exact .inr ⟨v, j, en.val, by simp [getS], by simp [Instr.findNow, hk, Instr.sameNow, h5], hv⟩
    · have h5 : ((⟨s.toArray⟩ : ByteArray) == ⟨m.toArray⟩) = false := by
        show (s.toArray == m.toArray) = false
        exact beq_eq_false_iff_ne.2 fun e => h4 (by simpa using congrArg Array.toList e)
      rcases ih hn with ⟨g1, g2⟩ | ⟨v', i, z, g1, g2, g3⟩
      · exact .inl ⟨by simp [getS, h4, g1], by simp [Instr.findNow, hk, Instr.sameNow, h5, g2]⟩
      · exact .inr ⟨v', i, z, by simp [getS, h4, g1], by simp [Instr.findNow, hk, Instr.sameNow, h5, g2], g3⟩
theorem look_str {t kt et : TypeId} {b : Nat} {s : List UInt8} {es : List (PV × PV)} {σ r : Mem} {i0 : TypeInfo} {z : Value} {q : PV} (hl : Look σ b (.mpc es) r) (ht : P.underlying t = some (.map kt et)) (hkt : P.underlying kt = some .string) (hi : P.info? et = some i0) (hz : i0.zero = some z)
    (hk : strKeys es = true) (hq : (getS es s).getD (ofV z) = q) : LookLaw P t (.mp b) (.str s) false σ q := by
  refine ⟨fun K w u v hm hx hi' => ?_⟩
  cases hx
  cases hi'
  obtain ⟨g1, ents, clock, g2, g3, g4⟩ : (∀ o, ¬ K b o) ∧ ∃ ents clock, w.heap[b]? = some (.map ents clock) ∧ ents.size = es.length ∧
      ∀ i, i < es.length → VRel K w (es.getD i (.dead, .dead)).1 (ents.getD i default).key ∧ VRel K w (es.getD i (.dead, .dead)).2 (ents.getD i default).val := BlkOk.old (hm.blk _ hl.mem)
  have e1 : (getObj b).run P w = .ok (.map ents clock) w := by simp [getObj, Sem.run, g2]
  have e0 : ∀ e, (Instr.checkKey e 10000 kt (.string ⟨s.toArray⟩)).run P w = .ok () w := fun e => checkKey_str 9999 e hkt
  rcases findNow_getS (K := K) (w := w) (s := s) es ents.toList 0 (by simp [g3]) (fun i hi => by
    have := g4 i hi
    simpa [List.getD_eq_getElem?_getD, Array.getD_eq_getD_getElem?] using this) hk with ⟨h1, h2⟩ | ⟨v', i, z', h1, h2, h3⟩
  · rw [h1] at hq
    simp only [Option.getD_none] at hq
    exact ⟨z, by simp [Instr.lookup, run_underlying ht, e1, e0, run_underlying hkt, Instr.findKey, h2, run_zeroValue hi hz], hq ▸ ofV_rel z⟩
  · rw [h1] at hq
    simp only [Option.getD_some] at hq
    exact ⟨z', by simp [Instr.lookup, run_underlying ht, e1, e0, run_underlying hkt, Instr.findKey, h2], hq ▸ h3⟩
end Go.Eng
end
