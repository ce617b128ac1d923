/- Texts put together: Eng30. -/
import Derived.Test.YtkenlcaifhffoaaDoorME9
/- The engine, part 30: a head with operations that change memory, of which two may come in either order: a tree of orders. -/
section
namespace Go.Eng
open Go

variable {P : Program} {W : World} {ds : List Deferred}

/-- In which orders the operations that change memory may come, and what each stage does with the others. -/
inductive Tr where
  | fin
  | one (g : Nat) (ms : List Md) (t : Tr)
  | two (g : Nat) (ms : List Md) (t : Tr) (g' : Nat) (ms' : List Md) (t' : Tr)
def Tr.pend : Tr → List Nat
  | .fin => []
  | .one g _ t => g :: t.pend
  | .two g _ t _ _ _ => g :: t.pend
def Tr.cands : Tr → List Nat
  | .fin => []
  | .one g _ _ => [g]
  | .two g _ _ g' _ _ => [g, g']
def inB' (l : List Nat) (i : Nat) : Bool := l.any fun g => Nat.beq i g
def mdT (ops : Array Oper) (n : Nat) (H : List Nat) (T U : List Nat) (i : Nat) (md : Md) : Bool :=
  match md with
  | .keep => H.any fun g => Nat.beq i g || ancB ops n g i
  | .skip => U.any fun g => ancB ops n i g
  | .new => match H with
    | [] => true
    | g :: _ => ancB ops n i g
  | .again => !H.isEmpty
  | .turn => inB' T i
def stageT (ops : Array Oper) (n : Nat) (H : List Nat) (ms : List Md) (T U : List Nat) : Bool :=
  Nat.beq ms.length n && ((List.range n).all fun i => mdT ops n H T U i (ms.getD i .skip)) && (T.all fun g => decide (g < n) && inB' U g) && (U.all fun g => inB' T g || U.any fun x => ancB ops n g x)
def transT (g : Nat) (U U' : List Nat) : Bool := U'.all fun x => inB' U x && !Nat.beq x g
def okT (ops : Array Oper) (n : Nat) : Tr → List Nat → List Md → Bool
  | .fin, H, ms => stageT ops n H ms [] []
  | .one g ms' t, H, ms => stageT ops n H ms [g] (g :: t.pend) && transT g (g :: t.pend) t.pend && okT ops n t (g :: H) ms'
  | .two g m1 t1 g' m2 t2, H, ms => stageT ops n H ms [g, g'] (g :: t1.pend) && transT g (g :: t1.pend) t1.pend && transT g' (g :: t1.pend) t2.pend && okT ops n t1 (g :: H) m1 && okT ops n t2 (g' :: H) m2
def turnV (P : Program) (W : World) (ops : Array Oper) (env : Env) (g : Nat) (vs : List PV) (σ : Mem) (k : PV → Mem → Prop) : Prop :=
  match ops[g]? with
  | some o => askV ops (envAt env (ops.toList.take g) (vs.take g)) o.guard (opV P W o.op (envAt env (ops.toList.take g) (vs.take g)) σ k)
  | none => False
def treeV (P : Program) (W : World) (ops : Array Oper) (Q : Env → Mem → Prop) (n : Nat) (env : Env) : Tr → List Md → List PV → Mem → Prop
  | .fin, ms, vs0, σ => stageV P W ops σ (ops.toList.take n) ms vs0 (fun _ _ env' => vcOps P W ops Q (ops.toList.drop n) env' σ) env env
  | .one g ms' t, ms, vs0, σ => stageV P W ops σ (ops.toList.take n) ms vs0 (fun vs _ _ => turnV P W ops env g vs σ fun v σ' => treeV P W ops Q n env t ms' (vs.set g v) σ') env env
  | .two g m1 t1 g' m2 t2, ms, vs0, σ => stageV P W ops σ (ops.toList.take n) ms vs0 (fun vs _ _ => turnV P W ops env g vs σ (fun v σ' => treeV P W ops Q n env t1 m1 (vs.set g v) σ') ∧ turnV P W ops env g' vs σ (fun v σ' => treeV P W ops Q n env t2 m2 (vs.set g' v) σ')) env env
def envT (l : List Oper) : List PV → Env → (Env → Prop) → Prop :=
  @List.rec Oper (fun _ => List PV → Env → (Env → Prop) → Prop) (fun _ env k => k env) (fun o _ ih vs env k => match vs with
    | [] => k env
    | v :: vs => putF env o.dst v fun env' => ih vs env' k) l
def turnF (P : Program) (W : World) (ops : Array Oper) (env : Env) (g : Nat) (vs : List PV) (σ : Mem) (k : PV → Mem → Prop) : Prop :=
  match ops[g]? with
  | some o => envT (ops.toList.take g) (vs.take g) env fun eg => askV ops eg o.guard (opF P W o.op eg σ k)
  | none => False
def treeF (P : Program) (W : World) (ops : Array Oper) (Q : Env → Mem → Prop) (n : Nat) (env : Env) (t : Tr) : List Md → List PV → Mem → Prop :=
  @Tr.rec (fun _ => List Md → List PV → Mem → Prop)
    (fun ms vs0 σ => stageF P W ops σ (ops.toList.take n) ms vs0 (fun _ _ env' => vcOpsF P W ops Q (ops.toList.drop n) env' σ) env env)
    (fun g ms' _ ih ms vs0 σ => stageF P W ops σ (ops.toList.take n) ms vs0 (fun vs _ _ => turnF P W ops env g vs σ fun v σ' => forceV v fun v => ih ms' (vs.set g v) σ') env env)
    (fun g m1 _ g' m2 _ ih1 ih2 ms vs0 σ => stageF P W ops σ (ops.toList.take n) ms vs0 (fun vs _ _ => turnF P W ops env g vs σ (fun v σ' => forceV v fun v => ih1 m1 (vs.set g v) σ') ∧ turnF P W ops env g' vs σ (fun v σ' => forceV v fun v => ih2 m2 (vs.set g' v) σ')) env env) t
/-- What is to be shown behind a stage. -/
abbrev Goes (ds : List Deferred) (P : Program) (W : World) (ops : Array Oper) (n nt : Nat) (env : Env) (σ : Mem) (K0 : Kn) (w0 : World) (Q : Exit → Env → Mem → Prop) (H U : List Nat) (ms : List Md) (vs0 : List PV) (σc : Mem) : Prop :=
  ∀ (listed : Array Bool) (K1 : Kn) (w1 : World) (K : Kn) (a : Act) (w : World), HInv ds W nt ops n env vs0 σc K1 w1 listed K a w → Ext σ K0 w0 σc K1 w1 → (∀ g ∈ H, listed.getD g false = true) → (∀ g ∈ U, listed.getD g false = false) →
    (∀ i, i < n → ms[i]? = some .keep → listed.getD i false = true) → (∀ i, i < n → listed.getD i false = true → ms[i]? = some .keep ∨ ms[i]? = some .again) →
    wpAny P .any ops (After ds W nt Q σ K0 w0) (left listed n + (ops.size - n)) listed a w
def D11 (P : Program) (W : World) (ops : Array Oper) (Q : Env → Mem → Prop) (env : Env) (σ : Mem) : Prop :=
  ∃ (n : Nat) (ms : List Md) (t : Tr), (headOk ops n && okT ops n t [] ms) = true ∧ treeF P W ops Q n env t ms (List.replicate n .dead) σ
inductive Draws11 (A B : Prop) : Prop
  | old (h : A)
  | tree (h : B)
def DM (P : Program) (W : World) (ops : Array Oper) (Q : Env → Mem → Prop) (env : Env) (σ : Mem) : Prop := Draws11 (DL P W ops Q env σ) (D11 P W ops Q env σ)
end Go.Eng
end
