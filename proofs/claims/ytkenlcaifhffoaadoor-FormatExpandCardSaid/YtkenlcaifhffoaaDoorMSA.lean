/- Texts put together: Eng32. -/
import Derived.Test.YtkenlcaifhffoaaDoorME3
import Derived.Recover
/- The engine, part 32: a function that defers a closure, which changes nothing when the function returns. -/
section
namespace Go.Eng
open Go
variable {P : Program} {W : World}
set_option linter.unusedSimpArgs false
set_option linter.unusedVariables false
/-- A deferred call that changes nothing when its frame returns. -/
def Idle (P : Program) (d : Deferred) : Prop := ∃ fv cap f args, d.target = .fn fv cap ∧ (∀ w, (invoke d.target d.args).run P w = .ok (.enter f args) w) ∧ ∀ w, CallsD P f args .returning w fun e u' w' => (∃ v, e = .returned v) ∧ u' = .returning ∧ w' = w
/-- The end of a body: what it gives, and what is deferred changes nothing. -/
def EndD (P : Program) (W : World) (fn : Func) (k : PV → Mem → Prop) (σ : Mem) (K : Kn) (w : World) : Exit → Act → World → Prop := fun e a' w' =>
  (e = .ret ∨ e = .normal) ∧ (a'.defers = [] ∨ ∃ d, a'.defers = [d] ∧ Idle P d) ∧ ∃ env' σ' K', resV P fn.results.toList env' σ' k ∧ SatM K' σ' w' ∧ (∀ t, VRel K' w' (env' t) (a'.tmps.getD t undef)) ∧ Ext σ K w σ' K' w'
/-- A part of a body, with what is to come. -/
structure WpE (P : Program) (W : World) (fn : Func) (k : PV → Mem → Prop) (ds : List Deferred) (c : Code) (env : Env) (σ : Mem) : Prop where
  run : ∀ K a w, Sat ds W fn.ntmps K env σ a w → c.wp P (EndD P W fn k σ K w) a w
theorem acalls_of_end {f : FuncId} {fn : Func} {c : Code} {args : List PV} {σ : Mem} {k : PV → Mem → Prop}
    (hf : P.funcs[f]? = some fn) (hb : fn.body = some c) (hn : (fn.name == "runtime.NumGoroutine") = false) (hl : Nat.ble args.length fn.ntmps = true)
    (h : WpE P W fn k [] c (nth args) σ) : ACalls P W f args σ k := by
  refine ⟨⟨fn, hf, by rw [hb]; rfl, hn⟩, fun K w vs hlen hr hm hp => ?_⟩
  have hl := Nat.le_of_ble_eq_true hl
  have hsat : Sat [] W fn.ntmps K (nth args) σ { tmps := vs.toArray ++ Array.replicate (fn.ntmps - vs.toArray.size) undef, defers := [] } w := by
    refine ⟨hm, hp, by simp; omega, fun t => ?_, rfl⟩
    rw [nth_getD]
    by_cases ht : t < args.length
    · have := hr t ht
      have e : (vs.toArray ++ Array.replicate (fn.ntmps - vs.toArray.size) undef).getD t undef = vs.getD t undef := by
        have h1 : t < vs.toArray.size := by simp; omega
        rw [Array.getD_eq_getD_getElem?, Array.getElem?_append_left h1]; simp [List.getD_eq_getElem?_getD]
      rw [e]; exact this
    · have e : args.getD t .dead = .dead := by simp [List.getD_eq_getElem?_getD, List.getElem?_eq_none (Nat.le_of_not_lt ht)]
      rw [e]; exact .dead _
  refine calls_of_wp_defers hf hb (wp_mono (h.run K _ w hsat) ?_)
  rintro e a' w' ⟨he, hd, env', σ', K', hq, hm', hv', hx⟩
  obtain ⟨pv, v, h1, h2, h3⟩ := resV_sound hm' hv' hq
  have hR : Leaves P fn a'.tmps (fun e w' => ∃ v pv σ' K', e = .returned v ∧ k pv σ' ∧ VRel K' w' pv v ∧ SatM K' σ' w' ∧ Ext σ K w σ' K' w') [] .returning w' := ⟨v, h1, v, pv, σ', K', rfl, h2, h3, hm', hx⟩
  have hL : Leaves P fn a'.tmps (fun e w' => ∃ v pv σ' K', e = .returned v ∧ k pv σ' ∧ VRel K' w' pv v ∧ SatM K' σ' w' ∧ Ext σ K w σ' K' w') a'.defers .returning w' := by
    rcases hd with hd | ⟨⟨t, da⟩, hd, fv, cap, f', args', ht, hi, hc⟩
    · rw [hd]; exact hR
    · rw [hd]
      simp only at ht hi
      subst ht
      refine leaves_cons (by simp) (hi w') ((hc w').mono ?_)
      rintro e' u' w'' ⟨⟨v', rfl⟩, rfl, rfl⟩
      exact hR
  rcases he with rfl | rfl <;> exact hL
theorem EndD.trans {fn : Func} {k : PV → Mem → Prop} {σ σ' : Mem} {K K' : Kn} {w w' : World} (hx : Ext σ K w σ' K' w') {e : Exit} {a : Act} {w'' : World} (h : EndD P W fn k σ' K' w' e a w'') : EndD P W fn k σ K w e a w'' := by
  obtain ⟨h1, h2, env', τ, K2, h3, h4, h5, h6⟩ := h
  exact ⟨h1, h2, env', τ, K2, h3, h4, h5, hx.trans h6⟩
def okD (P : Program) (ds : List Deferred) : Prop := ds = [] ∨ ∃ d, ds = [d] ∧ Idle P d
theorem EndD.of_sat {fn : Func} {k : PV → Mem → Prop} {ds : List Deferred} (hds : okD P ds) {σ σ' : Mem} {K K' : Kn} {w w' : World} {env : Env} {a : Act} (hs : Sat ds W fn.ntmps K' env σ' a w') (hx : Ext σ K w σ' K' w') (hq : resV P fn.results.toList env σ' k) {e : Exit} (he : e = .ret ∨ e = .normal) : EndD P W fn k σ K w e a w' :=
  ⟨he, by rw [hs.dfs]; exact hds, env, σ', K', hq, hs.mem, hs.env, hx⟩
theorem WpE.seq {D : Array Oper → (Env → Mem → Prop) → Env → Mem → Prop} (hD : DrawOk P W D) {fn : Func} {k : PV → Mem → Prop} {ds : List Deferred} {x y : Code} {env : Env} {σ : Mem} (hds : okD P ds) (hs : slotsOk fn.ntmps x = true)
    (h : vc P W D x (fun e env' σ' => match e with | .normal => WpE P W fn k ds y env' σ' | .ret => resV P fn.results.toList env' σ' k | _ => False) env σ) : WpE P W fn k ds (Code.seq x y) env σ := by
  refine ⟨fun K a w hsat => ?_⟩
  refine wp_seq (wp_mono (vc_sound hD x _ _ σ K _ w hs h hsat) ?_)
  rintro e a' w' ⟨env', σ', K', hq, hs', hx⟩
  cases e <;> first | exact hq.elim | skip
  · exact wp_mono (hq.run K' a' w' hs') fun e a'' w'' h' => h'.trans hx
  · exact EndD.of_sat hds hs' hx hq (.inl rfl)
theorem WpE.last {D : Array Oper → (Env → Mem → Prop) → Env → Mem → Prop} (hD : DrawOk P W D) {fn : Func} {k : PV → Mem → Prop} {ds : List Deferred} {x : Code} {env : Env} {σ : Mem} (hds : okD P ds) (hs : slotsOk fn.ntmps x = true)
    (h : vc P W D x (retPost P fn.results.toList k) env σ) : WpE P W fn k ds x env σ := by
  refine ⟨fun K a w hsat => ?_⟩
  refine wp_mono (vc_sound hD x _ _ σ K _ w hs h hsat) ?_
  rintro e a' w' ⟨env', σ', K', hq, hs', hx⟩
  cases e <;> first | exact hq.elim | skip
  · exact EndD.of_sat hds hs' hx hq (.inr rfl)
  · exact EndD.of_sat hds hs' hx hq (.inl rfl)
/-- A closure is made and deferred. -/
theorem wp_defer2 {id t : Nat} {ty0 ty1 : TypeId} {ps0 ps1 : String} {af0 af1 : Array Edge} {f : FuncId} {caps : Array Operand} {Q : Exit → Act → World → Prop} {a : Act} {w : World} (ht : t < a.tmps.size)
    (hQ : Q .normal { tmps := a.tmps.setIfInBounds t (.func (.func f) #[] (caps.map a.eval)), defers := { target := .fn (.func f) (caps.map a.eval), args := #[] } :: a.defers } w) :
    (Code.region id #[⟨some t, .makeFunc (.func f) #[] caps, ty0, ps0, af0, none⟩, ⟨none, .defer ⟨.value (.tmp t), #[], #[]⟩, ty1, ps1, af1, none⟩] false).wp P Q a w := by
  refine wp_region ?_
  show wpOps P _ Q [0, 1] a w
  have e1 : (a.tmps.setIfInBounds t (.func (.func f) #[] (caps.map a.eval))).getD t undef = .func (.func f) #[] (caps.map a.eval) := by
    simp [Array.getD_eq_getD_getElem?, ht]
  have er : (execOp a.eval ⟨some t, .makeFunc (.func f) #[] caps, ty0, ps0, af0, none⟩).run P w = .ok (.value (.func (.func f) #[] (caps.map a.eval))) w := by
    have hmf : ∀ (first cap : Array Value) (w : World), (Instr.makeFunc (.func f) first cap).run P w = .ok (.func (.func f) first cap) w := fun _ _ _ => rfl
    simp [execOp, hmf]
  unfold wpOps
  simp only [List.getElem?_toArray, List.getElem?_cons_zero]
  rw [if_pos (by rfl)]
  refine .inl ?_
  unfold Oper.wp
  rw [er, Oper.upon_value]
  simp only [Act.put]
  have er2 : (execOp (Act.eval { a with tmps := a.tmps.setIfInBounds t (.func (.func f) #[] (caps.map a.eval)) }) ⟨none, .defer ⟨.value (.tmp t), #[], #[]⟩, ty1, ps1, af1, none⟩).run P w = .ok (.defer { target := .fn (.func f) (caps.map a.eval), args := #[] }) w := by
    have e2 : Act.eval { a with tmps := a.tmps.setIfInBounds t (.func (.func f) #[] (caps.map a.eval)) } (.tmp t) = .func (.func f) #[] (caps.map a.eval) := e1
    simp [execOp, resolve, e2, Deferred.ofValue]
  unfold wpOps
  simp only [List.getElem?_toArray, List.getElem?_cons_succ, List.getElem?_cons_zero]
  rw [if_pos (by rfl)]
  refine .inl ?_
  unfold Oper.wp
  rw [er2, Oper.upon_defer]
  simp only [Act.put]
  unfold wpOps
  exact hQ
theorem Sat.defer {ds : List Deferred} {nt : Nat} {K : Kn} {env : Env} {σ : Mem} {a : Act} {w : World} (h : Sat ds W nt K env σ a w) (d : Deferred) : Sat (d :: ds) W nt K env σ { tmps := a.tmps, defers := d :: a.defers } w :=
  ⟨h.mem, h.pre, h.sz, h.env, by rw [h.dfs]⟩
end Go.Eng
end
