/- Texts put together: BndW. -/
import Derived.Test.YtmodblkagimhlaaDoorMT1
/- strings.Builder: texts written, empty ones too. -/
section
namespace Go.Eng
open Go
/-- What was lent comes back behind the rest. -/
theorem ACalls.lendEnd {P : Program} {W : World} {α : Type} {V : α → PV} {M : α → Mem} {R : α → Prop} {f : FuncId} {args : List PV} {σ τ r : Mem} {k : PV → Mem → Prop} (h : ACalls P W f args τ (Gives V M R)) (hp : σ.Perm (r ++ τ)) (hk : ∀ x, R x → k (V x) (r ++ M x)) : ACalls P W f args σ k :=
  ACalls.weak (ACalls.lend h (hp.trans List.perm_append_comm) fun x hx => ⟨r ++ M x, hk x hx, [], by rw [List.append_nil]; exact List.perm_append_comm⟩)
end Go.Eng
namespace Go.Eng.YtmodblkagimhlaaDoor
open Go Go.Eng Go.Proofs
variable (W : World)
set_option linter.unusedSimpArgs false
set_option maxRecDepth 100000
set_option linter.unusedVariables false
set_option maxHeartbeats 4000000
/-- A builder under way; z: something was written, be it empty. -/
def bldT (b c : Nat) (z : Bool) : List UInt8 → Mem
  | [] => if z then bldM1 b else bldM0 b
  | x :: l => bldM b c (x :: l)
end Go.Eng.YtmodblkagimhlaaDoor
end
