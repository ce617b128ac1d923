/- Texts put together: Eng29. -/
import Derived.Test.YtbaokhehnilneaaDoorME8
/- The engine, part 29: a head with a chain of operations that change memory, each behind the one before; what is to come besides yields the same before and behind each. -/
section
namespace Go.Eng
open Go

variable {P : Program} {W : World} {ds : List Deferred}

/-- What a stage does with an operation: its value stands; it is not yet; it is new; it is seen again; it is what changes memory next. -/
inductive Md where
  | keep | skip | new | again | turn
  deriving DecidableEq, Repr
/-- An operation of a head, with its test. -/
def runH (P : Program) (W : World) (ops : Array Oper) (σ : Mem) (o : Oper) (env : Env) (k : PV → Prop) : Prop :=
  match o.guard with
  | none => stepH P W o.op env σ k
  | some (j, want) =>
    match guardV ops env j with
    | some x => match want with
      | true => @Bool.rec (fun _ => Prop) (k (.tup [])) (stepH P W o.op env σ k) x
      | false => @Bool.rec (fun _ => Prop) (stepH P W o.op env σ k) (k (.tup [])) x
    | none => chk (guardU ops env j) (k (.tup []))
def RanAt (P : Program) (W : World) (ops : Array Oper) (σ : Mem) (o : Oper) (env : Env) (v : PV) : Prop :=
  ((o.guard = none ∨ ∃ j want, o.guard = some (j, want) ∧ guardV ops env j = some want) ∧ Yields P W o.op env σ v) ∨
    (∃ j want, o.guard = some (j, want) ∧ (guardV ops env j = some (!want) ∨ guardU ops env j = true) ∧ v = .tup [])
/-- The test of what changes memory is so. -/
def askedV (ops : Array Oper) (env : Env) (g : Option (Nat × Bool)) : Prop :=
  match g with
  | none => True
  | some (j, want) => guardV ops env j = some want
def stageV (P : Program) (W : World) (ops : Array Oper) (σ : Mem) : List Oper → List Md → List PV → (List PV → Env → Env → Prop) → Env → Env → Prop
  | [], _, _, k, eg, env => k [] eg env
  | o :: r, md :: ms, v0 :: vs0, k, eg, env =>
    match md with
    | .keep => stageV P W ops σ r ms vs0 (fun vs => k (v0 :: vs)) eg (updO env o.dst v0)
    | .skip => stageV P W ops σ r ms vs0 (fun vs => k (.dead :: vs)) eg (updO env o.dst .dead)
    | .new => runH P W ops σ o env fun v => stageV P W ops σ r ms vs0 (fun vs => k (v :: vs)) eg (updO env o.dst v)
    | .again => runH P W ops σ o env fun v => need (v = v0) (stageV P W ops σ r ms vs0 (fun vs => k (v0 :: vs)) eg (updO env o.dst v0))
    | .turn => stageV P W ops σ r ms vs0 (fun vs => k (.dead :: vs)) env (updO env o.dst .dead)
  | _ :: _, _, _, _, _, _ => False
def runF (P : Program) (W : World) (ops : Array Oper) (σ : Mem) (o : Oper) (env : Env) (k : PV → Prop) : Prop :=
  match o.guard with
  | none => stepF P W o.op env σ k
  | some (j, want) =>
    match guardV ops env j with
    | some x => match want with
      | true => @Bool.rec (fun _ => Prop) (k (.tup [])) (stepF P W o.op env σ k) x
      | false => @Bool.rec (fun _ => Prop) (stepF P W o.op env σ k) (k (.tup [])) x
    | none => chk (guardU ops env j) (k (.tup []))
def stageStepF (P : Program) (W : World) (ops : Array Oper) (σ : Mem) (o : Oper) (ih : List Md → List PV → (List PV → Env → Env → Prop) → Env → Env → Prop) (ms : List Md) (vs0 : List PV) (k : List PV → Env → Env → Prop) (eg env : Env) : Prop :=
  match ms with
  | [] => False
  | md :: ms => match vs0 with
    | [] => False
    | v0 :: vs0 => match md with
      | .keep => putF env o.dst v0 fun env' => ih ms vs0 (fun vs => k (v0 :: vs)) eg env'
      | .skip => putF env o.dst .dead fun env' => ih ms vs0 (fun vs => k (.dead :: vs)) eg env'
      | .new => runF P W ops σ o env fun v => forceV v fun v => putF env o.dst v fun env' => ih ms vs0 (fun vs => k (v :: vs)) eg env'
      | .again => runF P W ops σ o env fun v => forceV v fun v => need (v = v0) (putF env o.dst v0 fun env' => ih ms vs0 (fun vs => k (v0 :: vs)) eg env')
      | .turn => putF env o.dst .dead fun env' => ih ms vs0 (fun vs => k (.dead :: vs)) env env'
def stageF (P : Program) (W : World) (ops : Array Oper) (σ : Mem) (l : List Oper) : List Md → List PV → (List PV → Env → Env → Prop) → Env → Env → Prop :=
  @List.rec Oper (fun _ => List Md → List PV → (List PV → Env → Env → Prop) → Env → Env → Prop) (fun _ _ k eg env => k [] eg env) (fun o _ ih => stageStepF P W ops σ o ih) l
/-- What a stage has shown. -/
def StageRes (P : Program) (W : World) (ops : Array Oper) (σ : Mem) (l : List Oper) (ms : List Md) (vs0 : List PV) (k : List PV → Env → Env → Prop) (eg env : Env) : Prop :=
    ∃ vs eg', vs.length = l.length ∧ k vs eg' (envAt env l vs) ∧
      (∀ i o md, l[i]? = some o → ms[i]? = some md → (md = .keep ∨ md = .again → vs.getD i .dead = vs0.getD i .dead) ∧ (md = .new ∨ md = .again → RanAt P W ops σ o (envAt env (l.take i) (vs.take i)) (vs.getD i .dead))) ∧
      ((∀ i, i < l.length → ms[i]? ≠ some .turn) → eg' = eg) ∧
      (∀ i, i < l.length → ms[i]? = some .turn → (∀ j, j < l.length → ms[j]? = some .turn → j = i) → eg' = envAt env (l.take i) (vs.take i))
def askV (ops : Array Oper) (env : Env) (g : Option (Nat × Bool)) (k : Prop) : Prop :=
  match g with
  | none => k
  | some (j, want) => need (guardV ops env j = some want) k
def chainV (P : Program) (W : World) (ops : Array Oper) (Q : Env → Mem → Prop) (n : Nat) (env : Env) : List (Nat × List Md) → List Md → List PV → Mem → Prop
  | [], ms, vs0, σ => stageV P W ops σ (ops.toList.take n) ms vs0 (fun _ _ env' => vcOps P W ops Q (ops.toList.drop n) env' σ) env env
  | (g, ms') :: gs, ms, vs0, σ => stageV P W ops σ (ops.toList.take n) ms vs0 (fun vs eg _ => match ops[g]? with
      | some o => askV ops eg o.guard (opV P W o.op eg σ fun v σ' => chainV P W ops Q n env gs ms' (vs.set g v) σ')
      | none => False) env env
def chainF (P : Program) (W : World) (ops : Array Oper) (Q : Env → Mem → Prop) (n : Nat) (env : Env) (gs : List (Nat × List Md)) : List Md → List PV → Mem → Prop :=
  @List.rec (Nat × List Md) (fun _ => List Md → List PV → Mem → Prop) (fun ms vs0 σ => stageF P W ops σ (ops.toList.take n) ms vs0 (fun _ _ env' => vcOpsF P W ops Q (ops.toList.drop n) env' σ) env env)
    (fun p _ ih ms vs0 σ => stageF P W ops σ (ops.toList.take n) ms vs0 (fun vs eg _ => match ops[p.1]? with
      | some o => askV ops eg o.guard (opF P W o.op eg σ fun v σ' => forceV v fun v => ih p.2 (vs.set p.1 v) σ')
      | none => False) env env) gs
def mdOk (ops : Array Oper) (n : Nat) (prev : Option Nat) (next : List Nat) (i : Nat) (md : Md) : Bool :=
  match md with
  | .keep => match prev with
    | none => false
    | some g => Nat.beq i g || ancB ops n g i
  | .skip => next.any fun g => ancB ops n i g
  | .new => match prev with
    | none => true
    | some g => ancB ops n i g
  | .again => prev.isSome
  | .turn => match next with
    | [] => false
    | g :: _ => Nat.beq i g
def stageOk (ops : Array Oper) (n : Nat) (prev : Option Nat) (ms : List Md) (next : List Nat) : Bool :=
  Nat.beq ms.length n && ((List.range n).all fun i => mdOk ops n prev next i (ms.getD i .skip)) &&
    (match next with
      | [] => true
      | g :: _ => decide (g < n) && decide (ms[g]? = some .turn) && (match prev with
        | none => true
        | some g0 => ancB ops n g g0))
def chainOk (ops : Array Oper) (n : Nat) : Option Nat → List Md → List (Nat × List Md) → Bool
  | prev, ms, [] => stageOk ops n prev ms []
  | prev, ms, (g, ms') :: gs => stageOk ops n prev ms (g :: gs.map Prod.fst) && chainOk ops n (some g) ms' gs
theorem HInv.asked {nt : Nat} {ops : Array Oper} {n : Nat} {env : Env} {vs : List PV} {σ : Mem} {K0 : Kn} {w0 : World} {listed : Array Bool} {K : Kn} {a : Act} {w : World} (hf : HeadFacts ops n) (hvs : vs.length = n)
    (h : HInv ds W nt ops n env vs σ K0 w0 listed K a w) {i : Nat} {o : Oper} (hi : i ∈ Region.ready .any ops listed) (hin : i < n) (ho : ops[i]? = some o) (hg : askedV ops (envAt env (ops.toList.take i) (vs.take i)) o.guard) : Region.wanted o (yielded ops a.tmps) = true := by
  have hsl := fun t (ht : t ∈ o.looksAt ops) => h.slot hf hvs hi hin ho ht
  unfold askedV at hg
  split at hg
  · rename_i hgn
    simp [Region.wanted, hgn]
  · rename_i j want hgj
    have hy : yielded ops a.tmps j = some want := by
      unfold guardV at hg
      split at hg
      case h_2 => cases hg
      rename_i oj hoj
      split at hg
      case h_2 => cases hg
      rename_i d hd
      split at hg
      case h_2 => cases hg
      rename_i b hb
      cases hg
      have hbind : ((ops[j]?).bind (·.dst)) = some d := by rw [hoj]; exact hd
      have h0 := hsl d (by
        unfold Oper.looksAt
        refine List.mem_append_right _ ?_
        rw [hgj]
        simp only [hbind]
        exact List.mem_singleton.2 rfl)
      rw [hb] at h0
      unfold yielded
      rw [hbind]
      simp only [Option.bind_some]
      rw [Array.getD_eq_getD_getElem?] at h0
      cases hgv : a.tmps[d]? with
      | none => rw [hgv] at h0; simp only [Option.getD_none, undef] at h0; cases h0
      | some u =>
        rw [hgv] at h0
        simp only [Option.getD_some] at h0
        cases h0; rfl
    simp [Region.wanted, hgj, hy]
def D10 (P : Program) (W : World) (ops : Array Oper) (Q : Env → Mem → Prop) (env : Env) (σ : Mem) : Prop :=
  ∃ (n : Nat) (ms : List Md) (gs : List (Nat × List Md)), (headOk ops n && chainOk ops n none ms gs) = true ∧ chainF P W ops Q n env gs ms (List.replicate n .dead) σ
inductive Draws10 (A B : Prop) : Prop
  | old (h : A)
  | chain (h : B)
def DL (P : Program) (W : World) (ops : Array Oper) (Q : Env → Mem → Prop) (env : Env) (σ : Mem) : Prop := Draws10 (DK P W ops Q env σ) (D10 P W ops Q env σ)
end Go.Eng
end
