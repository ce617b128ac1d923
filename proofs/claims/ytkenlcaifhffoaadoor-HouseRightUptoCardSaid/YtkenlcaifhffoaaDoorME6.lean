/- Texts put together: Eng23, Eng24. -/
import Derived.Test.YtkenlcaifhffoaaDoorME5
/- The engine, part 23: a head with two operations that make something new, then one that writes there, while others of the head may still be to come. -/
section
namespace Go.Eng
open Go

variable {P : Program} {W : World} {ds : List Deferred}

def threeOk (ops : Array Oper) (m : Nat) : Bool := headOk ops (m + 3) && noGuard ops (m + 2) && depAt ops (m + 2) m && depAt ops (m + 2) (m + 1)
def D5 (P : Program) (W : World) (ops : Array Oper) (Q : Env → Mem → Prop) (env : Env) (σ : Mem) : Prop :=
  ∃ (m : Nat) (o1 o2 o3 : Oper) (p1 p2 : Nat → PV) (c1 c2 : Nat → Cont), threeOk ops m = true ∧ ops[m]? = some o1 ∧ ops[m + 1]? = some o2 ∧ ops[m + 2]? = some o3 ∧ Grows P W o1 p1 c1 ∧ Grows P W o2 p2 c2 ∧
    headF P W ops σ (fun env' => ∀ b1 b2, putF env' o1.dst (p1 b1) fun env1 => putF env1 o2.dst (p2 b2) fun env2 => opF P W o3.op env2 [⟨b2, c2 b2⟩, ⟨b1, c1 b1⟩] fun v τ => forceV v fun v => putF env2 o3.dst v fun env3 => vcOpsF P W ops Q (ops.toList.drop (m + 3)) env3 (τ ++ σ)) (ops.toList.take m) env
inductive Draws6 (A B : Prop) : Prop
  | old (h : A)
  | three (h : B)
def DH (P : Program) (W : World) (ops : Array Oper) (Q : Env → Mem → Prop) (env : Env) (σ : Mem) : Prop := Draws6 (DD P W ops Q env σ) (D5 P W ops Q env σ)
end Go.Eng
end

/- The engine, part 24: a test whose ways come together. -/
section
namespace Go.Eng
open Go
end Go.Eng
end
