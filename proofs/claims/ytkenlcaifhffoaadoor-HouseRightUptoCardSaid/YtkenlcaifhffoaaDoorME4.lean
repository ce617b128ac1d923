/- Texts put together: Eng21. -/
import Derived.Test.YtkenlcaifhffoaaDoorME3
/- The engine, part 21: a head with two operations at its end that make something new, in whatever order; a head whose last, guarded operation changes memory. -/
section
namespace Go.Eng
open Go

variable {P : Program} {W : World} {ds : List Deferred}

def Grows (P : Program) (W : World) (o : Oper) (p : Nat → PV) (c : Nat → Cont) : Prop := o.guard = none ∧ ∀ (env : Env) (σ : Mem) (k : PV → Mem → Prop), (∀ b, k (p b) (⟨b, c b⟩ :: σ)) → opV P W o.op env σ k
def valO (p : Nat → PV) : Option Nat → PV
  | none => .dead
  | some b => p b
def memO (c : Nat → Cont) : Option Nat → Mem
  | none => []
  | some b => [⟨b, c b⟩]
theorem HInv.grown {nt : Nat} {ops : Array Oper} {n : Nat} {env : Env} {vs vs' : List PV} {σ σ' : Mem} {K0 K : Kn} {w0 w : World} {listed : Array Bool} {a : Act} {i : Nat} {om : Oper} {v : Value} {pv : PV} {K' : Kn} {w' : World}
    (hf : HeadFacts ops n) (hok : opsOk nt ops.toList = true) (h : HInv ds W nt ops n env vs σ K0 w0 listed K a w) (hi : i ∈ Region.ready .any ops listed) (hin : i < n) (hom : ops[i]? = some om)
    (hv : VRel K' w' pv v) (hm' : SatM K' σ' w') (hx : Ext σ K w σ' K' w') (e1 : vs'.getD i .dead = pv) (e2 : ∀ j, j ≠ i → vs'.getD j .dead = vs.getD j .dead) :
    HInv ds W nt ops n env vs' σ' K' w' (listed.setIfInBounds i true) K' (a.put om.dst v) w' := by
  have hlt : i < listed.size := by rw [h.head.size]; exact (Array.getElem?_eq_some_iff.1 hom).1
  have key : ∀ t j, j < n → dstIs ops j t = true → (j = i ∧ om.dst = some t) ∨ (j ≠ i ∧ om.dst ≠ some t) := fun t j hj hd => by
    by_cases e : j = i
    · subst e
      obtain ⟨o', ho', hd'⟩ := dstIs_spec.1 hd
      rw [hom] at ho'
      cases ho'
      exact .inl ⟨rfl, hd'⟩
    · exact .inr ⟨e, fun hd' => e (hf.uniq i om t hin hom hd' j hj hd)⟩
  refine ⟨h.head.set hi hin, hm', h.pre.ext hx, Ext.refl _ _ _, by cases om.dst <;> simp [Act.put, h.sz], by cases om.dst <;> exact h.dfs, fun t ht => ?_, fun t j hj hd hl => ?_, fun t j hj hd hl => ?_⟩
  · have : om.dst ≠ some t := fun e => by
      have := ht i hin
      rw [dstIs_spec.2 ⟨om, hom, e⟩] at this
      cases this
    rw [put_at this]; exact hx.vrel (h.other t ht)
  · rcases key t j hj hd with ⟨rfl, e⟩ | ⟨e, e'⟩
    · rw [e]
      have hd' : t < nt := by
        have := List.all_eq_true.1 hok om (by have := (Array.getElem?_eq_some_iff.1 hom); obtain ⟨h1, h2⟩ := this; rw [← h2]; simp)
        simpa [e] using this
      rw [put_self (by rw [h.sz]; exact hd'), e1]
      exact hv
    · rw [put_at e', e2 j e]
      rw [getD_set_ne false (Ne.symm e)] at hl
      exact hx.vrel (h.done t j hj hd hl)
  · rcases key t j hj hd with ⟨rfl, e⟩ | ⟨e, e'⟩
    · have : (listed.setIfInBounds j true).getD j false = true := by simp [Array.getD, hlt]
      rw [this] at hl; cases hl
    · rw [put_at e']
      rw [getD_set_ne false (Ne.symm e)] at hl
      exact hx.vrel (h.todo t j hj hd hl)
def D4 (P : Program) (W : World) (ops : Array Oper) (Q : Env → Mem → Prop) (env : Env) (σ : Mem) : Prop :=
  ∃ (m : Nat) (o1 o2 : Oper) (p1 p2 : Nat → PV) (c1 c2 : Nat → Cont), headOk ops (m + 2) = true ∧ ops[m]? = some o1 ∧ ops[m + 1]? = some o2 ∧ Grows P W o1 p1 c1 ∧ Grows P W o2 p2 c2 ∧
    headF P W ops σ (fun env' => ∀ b1 b2, putF env' o1.dst (p1 b1) fun env1 => putF env1 o2.dst (p2 b2) fun env2 => vcOpsF P W ops Q (ops.toList.drop (m + 2)) env2 (⟨b2, c2 b2⟩ :: ⟨b1, c1 b1⟩ :: σ)) (ops.toList.take m) env
inductive Draws4 (A B : Prop) : Prop
  | old (h : A)
  | two (h : B)
def DF (P : Program) (W : World) (ops : Array Oper) (Q : Env → Mem → Prop) (env : Env) (σ : Mem) : Prop := Draws4 (DD P W ops Q env σ) (D4 P W ops Q env σ)
end Go.Eng
end
