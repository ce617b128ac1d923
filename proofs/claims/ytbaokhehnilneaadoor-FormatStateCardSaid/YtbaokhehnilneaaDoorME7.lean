/- Texts put together: Eng25, Eng26. -/
import Derived.Test.YtbaokhehnilneaaDoorME6
/- The engine, part 25: what a call gave is written no more. -/
section
namespace Go.Eng
open Go
variable {P : Program} {W : World}
/-- What is owned behind a call, read out in part. -/
theorem ACalls.frz {f : FuncId} {args : List PV} {σ : Mem} {k k' : PV → Mem → Prop} (h : ACalls P W f args σ k) (hk : ∀ v σ', k v σ' → ∃ τ ρ v', σ'.Perm (τ ++ ρ) ∧ Frz ρ v v' ∧ k' v' τ) : ACalls P W f args σ k' := by
  refine ⟨h.body, fun K w vs hl hr hm hp => (h.run K w vs hl hr hm hp).mono ?_⟩
  rintro e w' ⟨v, pv, σ', K', h2, h3, h4, h5, h6⟩
  obtain ⟨τ, ρ, v', hp', hf, hk'⟩ := hk _ _ h3
  have hm' := h5.perm hp'
  have hρ : SatM K' ρ w' := hm'.drop (List.sublist_append_right _ _)
  exact ⟨v, v', τ, _, h2, hk', frz_sound hρ hf v h4, hm'.freeze, h6.trans ((Ext.freeze (K := K') (τ := τ) (ρ := ρ) (w := w')).perm hp'.symm (.refl _))⟩
end Go.Eng
end

/- The engine, part 26: a head with an operation that makes something new, what hangs on it, and another that makes something new at its end. -/
section
namespace Go.Eng
open Go

variable {P : Program} {W : World} {ds : List Deferred}

theorem envAt_append : ∀ (l1 : List Oper) (v1 : List PV) (l2 : List Oper) (v2 : List PV) (env : Env), v1.length = l1.length → envAt env (l1 ++ l2) (v1 ++ v2) = envAt (envAt env l1 v1) l2 v2
  | [], [], _, _, _, _ => rfl
  | [], _ :: _, _, _, _, h => by simp at h
  | _ :: _, [], _, _, _, h => by simp at h
  | o :: l, v :: vs, l2, v2, env, h => by
    show envAt (updO env o.dst v) (l ++ l2) (vs ++ v2) = envAt (envAt (updO env o.dst v) l vs) l2 v2
    exact envAt_append l vs l2 v2 _ (by simpa using h)
/-- An operation that makes a block, where this is known. -/
def GrowsE (P : Program) (W : World) (o : Oper) (env : Env) (p : Nat → PV) (c : Nat → Cont) : Prop := o.guard = none ∧ ∀ (σ : Mem) (k : PV → Mem → Prop), (∀ b, k (p b) (⟨b, c b⟩ :: σ)) → opV P W o.op env σ k
def gapOk (ops : Array Oper) (m1 m2 : Nat) : Bool := headOk ops (m2 + 1) && decide (m1 < m2) && (List.range m2).all fun i => !(decide (m1 < i)) || ancB ops (m2 + 1) i m1
def D7 (P : Program) (W : World) (ops : Array Oper) (Q : Env → Mem → Prop) (env : Env) (σ : Mem) : Prop :=
  ∃ (m1 m2 : Nat) (o1 o2 : Oper) (p2 : Nat → PV) (c2 : Nat → Cont), gapOk ops m1 m2 = true ∧ ops[m1]? = some o1 ∧ ops[m2]? = some o2 ∧ Grows P W o2 p2 c2 ∧
    headF P W ops σ (fun env1 => ∃ (p1 : Nat → PV) (c1 : Nat → Cont), GrowsE P W o1 env1 p1 c1 ∧ ∀ b1, putF env1 o1.dst (p1 b1) fun env2 =>
      headF P W ops σ (fun env3 => ∀ b2, putF env3 o2.dst (p2 b2) fun env4 => vcOpsF P W ops Q (ops.toList.drop (m2 + 1)) env4 (⟨b2, c2 b2⟩ :: ⟨b1, c1 b1⟩ :: σ)) ((ops.toList.take m2).drop (m1 + 1)) env2) (ops.toList.take m1) env
inductive Draws7 (A B : Prop) : Prop
  | old (h : A)
  | gap (h : B)
def DI (P : Program) (W : World) (ops : Array Oper) (Q : Env → Mem → Prop) (env : Env) (σ : Mem) : Prop := Draws7 (DD P W ops Q env σ) (D7 P W ops Q env σ)
end Go.Eng
end
