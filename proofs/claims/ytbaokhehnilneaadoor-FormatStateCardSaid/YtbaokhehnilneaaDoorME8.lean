/- Texts put together: Eng27, Eng28. -/
import Derived.Test.YtbaokhehnilneaaDoorME7
/- The engine, part 27: a head with an operation in its midst that changes memory, while such as look at no memory may still be to come. -/
section
namespace Go.Eng
open Go

variable {P : Program} {W : World} {ds : List Deferred}

/-- Operations that look at no memory, with what they read. -/
def freeX : Op → Option Operand
  | .move x => some x
  | .assign x => some x
  | .nilCheck x => some x
  | .fieldAddr _ x _ => some x
  | _ => none
def freeAfter (ops : Array Oper) (m j : Nat) : Bool :=
  match ops[j]?, ops[m]? with
  | some o, some om => o.guard.isNone && (match freeX o.op with
    | some (.tmp t) => !decide (om.dst = some t)
    | some _ => true
    | none => false)
  | _, _ => false
def midOk (ops : Array Oper) (m n : Nat) : Bool := headOk ops n && decide (m < n) && noGuard ops m &&
  ((List.range m).all fun i => ancB ops n m i || (match ops[i]? with | some o => freeB o | none => false)) && ((List.range n).all fun j => !decide (m < j) || freeAfter ops m j)
def D8 (P : Program) (W : World) (ops : Array Oper) (Q : Env → Mem → Prop) (env : Env) (σ : Mem) : Prop :=
  ∃ (m n : Nat) (om : Oper), midOk ops m n = true ∧ ops[m]? = some om ∧
    headF P W ops σ (fun env1 => headF P W ops σ (fun env2 => opF P W om.op env1 σ fun v σ' => forceV v fun v => putF env2 om.dst v fun env3 => vcOpsF P W ops Q (ops.toList.drop n) env3 σ')
      ((ops.toList.take n).drop (m + 1)) (updO env1 om.dst .dead)) (ops.toList.take m) env
inductive Draws8 (A B C : Prop) : Prop
  | old (h : A)
  | gap (h : B)
  | mid (h : C)
def DJ (P : Program) (W : World) (ops : Array Oper) (Q : Env → Mem → Prop) (env : Env) (σ : Mem) : Prop := Draws8 (DD P W ops Q env σ) (D7 P W ops Q env σ) (D8 P W ops Q env σ)
end Go.Eng
end

/- The engine, part 28: a head with a store in its midst, while such as read other cells may still be to come: they yield the same before and behind it. -/
section
namespace Go.Eng
open Go

variable {P : Program} {W : World} {ds : List Deferred}

theorem stage {ops : Array Oper} {env : Env} {σ : Mem} {m n : Nat} {om : Oper} {vA vC : List PV} (hmn : m < n) (hle : n ≤ ops.size) (hom : ops[m]? = some om) (hdst : om.dst = none) (hlA : vA.length = (ops.toList.take m).length) (hcA : Cert P W ops σ (ops.toList.take m) env vA)
    (hlC : vC.length = ((ops.toList.take n).drop (m + 1)).length) (hcC : Cert P W ops σ ((ops.toList.take n).drop (m + 1)) (envAt env (ops.toList.take m) vA) vC) :
    (vA ++ ([PV.dead] ++ vC)).length = n ∧ (∀ i o, i < n → i ≠ m → ops[i]? = some o → CertAt P W ops env (vA ++ ([PV.dead] ++ vC)) σ i o) ∧
      envAt env (ops.toList.take n) (vA ++ ([PV.dead] ++ vC)) = envAt (envAt env (ops.toList.take m) vA) ((ops.toList.take n).drop (m + 1)) vC ∧ (vA ++ ([PV.dead] ++ vC)).take m = vA := by
  have hopl : ∀ k : Nat, ops.toList[k]? = ops[k]? := fun k => by simp
  have hA : vA.length = m := by rw [hlA]; simp; omega
  have hCl : ((ops.toList.take n).drop (m + 1)).length = n - (m + 1) := by simp; omega
  have hC : vC.length = n - (m + 1) := by rw [hlC, hCl]
  obtain ⟨V, hVd⟩ : ∃ V : List PV, V = vA ++ ([PV.dead] ++ vC) := ⟨_, rfl⟩
  rw [← hVd]
  have hVl : V.length = n := by rw [hVd]; simp; omega
  have gA : ∀ j, j < m → V.getD j .dead = vA.getD j .dead := fun j hj => by
    simp only [hVd, List.getD_eq_getElem?_getD, List.getElem?_append_left (show j < vA.length by omega)]
  have gC : ∀ k, k < n - (m + 1) → V.getD (m + 1 + k) .dead = vC.getD k .dead := fun k hk => by
    simp only [hVd, List.getD_eq_getElem?_getD]
    rw [List.getElem?_append_right (by omega), show m + 1 + k - vA.length = k + 1 by omega, List.getElem?_append_right (by simp), List.length_singleton, Nat.add_sub_cancel]
  have tA : ∀ i, i ≤ m → V.take i = vA.take i := fun i hi => by
    simp only [hVd]; rw [List.take_append_of_le_length (by omega)]
  have e1 : ∀ k, k ≤ n - (m + 1) → ops.toList.take (m + 1 + k) = ops.toList.take m ++ ([om] ++ ((ops.toList.take n).drop (m + 1)).take k) := fun k hk => by
    have e : ops.toList.take (m + 1) = ops.toList.take m ++ [om] := take_snoc_of (by rw [hopl]; exact hom)
    rw [← List.append_assoc, ← e, List.take_add, List.drop_take, List.take_take, show min k (n - (m + 1)) = k by omega]
  have tC : ∀ k, k ≤ n - (m + 1) → V.take (m + 1 + k) = vA ++ ([.dead] ++ vC.take k) := fun k hk => by
    simp only [hVd]
    rw [show m + 1 + k = vA.length + (1 + k) by omega, List.take_length_add_append]
    congr 1
    rw [show 1 + k = ([PV.dead] : List PV).length + k by simp, List.take_length_add_append]
  have eE : ∀ k, k ≤ n - (m + 1) → envAt env (ops.toList.take (m + 1 + k)) (V.take (m + 1 + k)) = envAt (envAt env (ops.toList.take m) vA) (((ops.toList.take n).drop (m + 1)).take k) (vC.take k) := fun k hk => by
    rw [e1 k hk, tC k hk, envAt_append _ _ _ _ _ hlA]
    show envAt (updO (envAt env (ops.toList.take m) vA) om.dst .dead) _ _ = _
    rw [hdst]; rfl
  refine ⟨hVl, fun i o hi him ho => ?_, ?_, by rw [tA m (Nat.le_refl _), List.take_of_length_le (by omega)]⟩
  · by_cases h1 : i < m
    · have := cert_at _ _ _ hcA i o (by rw [List.getElem?_take, if_pos h1, hopl]; exact ho)
      rw [List.take_take, show min i m = i by omega] at this
      unfold CertAt
      rw [tA i (by omega), gA i h1]
      exact this
    · obtain ⟨k, rfl⟩ : ∃ k, i = m + 1 + k := ⟨i - (m + 1), by omega⟩
      have := cert_at _ _ _ hcC k o (by rw [List.getElem?_drop, List.getElem?_take, if_pos (by omega), hopl]; exact ho)
      unfold CertAt
      rw [eE k (by omega), gC k (by omega)]
      exact this
  · have h4 := eE (n - (m + 1)) (Nat.le_refl _)
    rw [show m + 1 + (n - (m + 1)) = n by omega, List.take_of_length_le (l := V) (by rw [hVl]; exact Nat.le_refl _), List.take_of_length_le (l := List.drop (m + 1) (List.take n ops.toList)) (by rw [hCl]; exact Nat.le_refl _), List.take_of_length_le (l := vC) (by rw [hC]; exact Nat.le_refl _)] at h4
    exact h4
def stoOk (ops : Array Oper) (m n : Nat) : Bool := headOk ops n && decide (m < n) && noGuard ops m && (match ops[m]? with | some o => o.dst.isNone | none => false)
def D9 (P : Program) (W : World) (ops : Array Oper) (Q : Env → Mem → Prop) (env : Env) (σ : Mem) : Prop :=
  ∃ (m n : Nat) (om : Oper), stoOk ops m n = true ∧ ops[m]? = some om ∧
    headF P W ops σ (fun env1 => headF P W ops σ (fun env2 => opF P W om.op env1 σ fun _ σ' =>
      headF P W ops σ' (fun env3 => headF P W ops σ' (fun env4 => env4 = env2 ∧ vcOpsF P W ops Q (ops.toList.drop n) env4 σ')
        ((ops.toList.take n).drop (m + 1)) env3) (ops.toList.take m) env)
      ((ops.toList.take n).drop (m + 1)) env1) (ops.toList.take m) env
inductive Draws9 (A B C D : Prop) : Prop
  | old (h : A)
  | gap (h : B)
  | mid (h : C)
  | sto (h : D)
def DK (P : Program) (W : World) (ops : Array Oper) (Q : Env → Mem → Prop) (env : Env) (σ : Mem) : Prop := Draws9 (DD P W ops Q env σ) (D7 P W ops Q env σ) (D8 P W ops Q env σ) (D9 P W ops Q env σ)
end Go.Eng
end
