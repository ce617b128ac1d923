/- Texts put together: Eng29. -/
import Derived.Test.YtkenlcaifhffoaaDoorME8
/- The engine, part 29: a head with a chain of operations that change memory, each behind the one before; what is to come besides yields the same before and behind each. -/
section
namespace Go.Eng
open Go

variable {P : Program} {W : World} {ds : List Deferred}

inductive Md where
  | keep | skip | new | again | turn
  deriving DecidableEq, Repr
def runH (P : Program) (W : World) (ops : Array Oper) (σ : Mem) (o : Oper) (env : Env) (k : PV → Prop) : Prop :=
  match o.guard with
  | none => stepH P W o.op env σ k
  | some (j, want) =>
    match guardV ops env j with
    | some x => match want with
      | true => @Bool.rec (fun _ => Prop) (k (.tup [])) (stepH P W o.op env σ k) x
      | false => @Bool.rec (fun _ => Prop) (stepH P W o.op env σ k) (k (.tup [])) x
    | none => chk (guardU ops env j) (k (.tup []))
def RanAt (P : Program) (W : World) (ops : Array Oper) (σ : Mem) (o : Oper) (env : Env) (v : PV) : Prop :=
  ((o.guard = none ∨ ∃ j want, o.guard = some (j, want) ∧ guardV ops env j = some want) ∧ Yields P W o.op env σ v) ∨
    (∃ j want, o.guard = some (j, want) ∧ (guardV ops env j = some (!want) ∨ guardU ops env j = true) ∧ v = .tup [])
theorem runH_ran {ops : Array Oper} {σ : Mem} {o : Oper} {env : Env} {k : PV → Prop} (h : runH P W ops σ o env k) : ∃ v, k v ∧ RanAt P W ops σ o env v := by
  have run : stepH P W o.op env σ k → (o.guard = none ∨ ∃ j want, o.guard = some (j, want) ∧ guardV ops env j = some want) → ∃ v, k v ∧ RanAt P W ops σ o env v := fun h hg => by
    obtain ⟨v, h1, h2⟩ := stepH_yields h
    exact ⟨v, h1, .inl ⟨hg, h2⟩⟩
  unfold runH at h
  split at h
  · rename_i hg; exact run h (.inl hg)
  · rename_i j want hg
    have skip : k (.tup []) → (guardV ops env j = some (!want) ∨ guardU ops env j = true) → ∃ v, k v ∧ RanAt P W ops σ o env v := fun h he => ⟨_, h, .inr ⟨j, want, hg, he, rfl⟩⟩
    split at h
    case h_2 =>
      obtain ⟨hu, h⟩ := chk_spec h
      exact skip h (.inr hu)
    rename_i x hx
    replace skip := fun h (he : x = !want) => skip h (.inl (he ▸ hx))
    cases want <;> cases x
    · exact run h (.inr ⟨j, false, hg, hx⟩)
    · exact skip h rfl
    · exact skip h rfl
    · exact run h (.inr ⟨j, true, hg, hx⟩)
def askedV (ops : Array Oper) (env : Env) (g : Option (Nat × Bool)) : Prop :=
  match g with
  | none => True
  | some (j, want) => guardV ops env j = some want
def stageV (P : Program) (W : World) (ops : Array Oper) (σ : Mem) : List Oper → List Md → List PV → (List PV → Env → Env → Prop) → Env → Env → Prop
  | [], _, _, k, eg, env => k [] eg env
  | o :: r, md :: ms, v0 :: vs0, k, eg, env =>
    match md with
    | .keep => stageV P W ops σ r ms vs0 (fun vs => k (v0 :: vs)) eg (updO env o.dst v0)
    | .skip => stageV P W ops σ r ms vs0 (fun vs => k (.dead :: vs)) eg (updO env o.dst .dead)
    | .new => runH P W ops σ o env fun v => stageV P W ops σ r ms vs0 (fun vs => k (v :: vs)) eg (updO env o.dst v)
    | .again => runH P W ops σ o env fun v => need (v = v0) (stageV P W ops σ r ms vs0 (fun vs => k (v0 :: vs)) eg (updO env o.dst v0))
    | .turn => stageV P W ops σ r ms vs0 (fun vs => k (.dead :: vs)) env (updO env o.dst .dead)
  | _ :: _, _, _, _, _, _ => False
def runF (P : Program) (W : World) (ops : Array Oper) (σ : Mem) (o : Oper) (env : Env) (k : PV → Prop) : Prop :=
  match o.guard with
  | none => stepF P W o.op env σ k
  | some (j, want) =>
    match guardV ops env j with
    | some x => match want with
      | true => @Bool.rec (fun _ => Prop) (k (.tup [])) (stepF P W o.op env σ k) x
      | false => @Bool.rec (fun _ => Prop) (stepF P W o.op env σ k) (k (.tup [])) x
    | none => chk (guardU ops env j) (k (.tup []))
theorem runF_eq (P : Program) (W : World) (ops : Array Oper) (σ : Mem) (o : Oper) (env : Env) (k : PV → Prop) : runF P W ops σ o env k = runH P W ops σ o env k := by
  unfold runF runH
  simp only [stepF_eq]
def stageStepF (P : Program) (W : World) (ops : Array Oper) (σ : Mem) (o : Oper) (ih : List Md → List PV → (List PV → Env → Env → Prop) → Env → Env → Prop) (ms : List Md) (vs0 : List PV) (k : List PV → Env → Env → Prop) (eg env : Env) : Prop :=
  match ms with
  | [] => False
  | md :: ms => match vs0 with
    | [] => False
    | v0 :: vs0 => match md with
      | .keep => putF env o.dst v0 fun env' => ih ms vs0 (fun vs => k (v0 :: vs)) eg env'
      | .skip => putF env o.dst .dead fun env' => ih ms vs0 (fun vs => k (.dead :: vs)) eg env'
      | .new => runF P W ops σ o env fun v => forceV v fun v => putF env o.dst v fun env' => ih ms vs0 (fun vs => k (v :: vs)) eg env'
      | .again => runF P W ops σ o env fun v => forceV v fun v => need (v = v0) (putF env o.dst v0 fun env' => ih ms vs0 (fun vs => k (v0 :: vs)) eg env')
      | .turn => putF env o.dst .dead fun env' => ih ms vs0 (fun vs => k (.dead :: vs)) env env'
def stageF (P : Program) (W : World) (ops : Array Oper) (σ : Mem) (l : List Oper) : List Md → List PV → (List PV → Env → Env → Prop) → Env → Env → Prop :=
  @List.rec Oper (fun _ => List Md → List PV → (List PV → Env → Env → Prop) → Env → Env → Prop) (fun _ _ k eg env => k [] eg env) (fun o _ ih => stageStepF P W ops σ o ih) l
theorem stageF_eq (P : Program) (W : World) (ops : Array Oper) (σ : Mem) : ∀ (l : List Oper) (ms : List Md) (vs0 : List PV) (k : List PV → Env → Env → Prop) (eg env : Env), stageF P W ops σ l ms vs0 k eg env = stageV P W ops σ l ms vs0 k eg env
  | [], ms, vs0, k, eg, env => by cases ms <;> cases vs0 <;> rfl
  | o :: r, ms, vs0, k, eg, env => by
    have ih := stageF_eq P W ops σ r
    show stageStepF P W ops σ o (stageF P W ops σ r) ms vs0 k eg env = _
    cases ms with
    | nil => cases vs0 <;> rfl
    | cons md ms =>
      cases vs0 with
      | nil => rfl
      | cons v0 vs0 => cases md <;> simp only [stageStepF, stageV, forceV_eq, putF_eq, runF_eq, ih]
def StageRes (P : Program) (W : World) (ops : Array Oper) (σ : Mem) (l : List Oper) (ms : List Md) (vs0 : List PV) (k : List PV → Env → Env → Prop) (eg env : Env) : Prop :=
    ∃ vs eg', vs.length = l.length ∧ k vs eg' (envAt env l vs) ∧
      (∀ i o md, l[i]? = some o → ms[i]? = some md → (md = .keep ∨ md = .again → vs.getD i .dead = vs0.getD i .dead) ∧ (md = .new ∨ md = .again → RanAt P W ops σ o (envAt env (l.take i) (vs.take i)) (vs.getD i .dead))) ∧
      ((∀ i, i < l.length → ms[i]? ≠ some .turn) → eg' = eg) ∧
      (∀ i, i < l.length → ms[i]? = some .turn → (∀ j, j < l.length → ms[j]? = some .turn → j = i) → eg' = envAt env (l.take i) (vs.take i))
theorem stageV_cert {ops : Array Oper} {σ : Mem} : ∀ (l : List Oper) (ms : List Md) (vs0 : List PV) (k : List PV → Env → Env → Prop) (eg env : Env), stageV P W ops σ l ms vs0 k eg env → StageRes P W ops σ l ms vs0 k eg env
  | [], ms, vs0, k, eg, env, h => ⟨[], eg, rfl, by simpa [stageV, envAt] using h, fun i o md ho => by simp at ho, fun _ => rfl, fun i hi => by simp at hi⟩
  | o :: r, ms, vs0, k, eg, env, h => by
    cases ms with
    | nil => cases vs0 <;> exact h.elim
    | cons md ms =>
    cases vs0 with
    | nil => exact h.elim
    | cons v0 vs0 =>
    have base : ∀ (v : PV) (eg1 : Env), stageV P W ops σ r ms vs0 (fun vs => k (v :: vs)) eg1 (updO env o.dst v) → (md = .keep ∨ md = .again → v = v0) → (md = .new ∨ md = .again → RanAt P W ops σ o env v) →
        (md ≠ .turn → eg1 = eg) → (md = .turn → eg1 = env) → StageRes P W ops σ (o :: r) (md :: ms) (v0 :: vs0) k eg env := fun v eg1 hs hv hr he1 he2 => by
      obtain ⟨vs, eg', h1, h2, h3, h4, h5⟩ := stageV_cert r ms vs0 _ eg1 _ hs
      refine ⟨v :: vs, eg', by simp [h1], h2, fun i o' md' ho hm => ?_, fun hn => ?_, fun i hi hm hu => ?_⟩
      · cases i with
        | zero =>
          simp only [List.getElem?_cons_zero, Option.some.injEq] at ho hm
          subst ho hm
          exact ⟨fun h => hv h, fun h => hr h⟩
        | succ i =>
          simp only [List.getElem?_cons_succ] at ho hm
          exact h3 i o' md' ho hm
      · rw [h4 fun i hi => by have := hn (i + 1) (by simpa using hi); simpa using this]
        exact he1 fun e => hn 0 (by simp) (by simp [e])
      · cases i with
        | zero =>
          simp only [List.getElem?_cons_zero, Option.some.injEq] at hm
          rw [h4 fun j hj hj' => by have := hu (j + 1) (by simpa using hj) (by simpa using hj'); omega]
          rw [he2 hm]; rfl
        | succ i =>
          exact h5 i (by simpa using hi) (by simpa using hm) fun j hj hj' => by have := hu (j + 1) (by simpa using hj) (by simpa using hj'); omega
    cases md with
    | keep => exact base v0 eg h (fun _ => rfl) (fun h => by rcases h with h | h <;> cases h) (fun _ => rfl) (fun h => by cases h)
    | skip => exact base .dead eg h (fun h => by rcases h with h | h <;> cases h) (fun h => by rcases h with h | h <;> cases h) (fun _ => rfl) (fun h => by cases h)
    | new =>
      obtain ⟨v, h1, h2⟩ := runH_ran h
      exact base v eg h1 (fun h => by rcases h with h | h <;> cases h) (fun _ => h2) (fun _ => rfl) (fun h => by cases h)
    | again =>
      obtain ⟨v, ⟨h0, h1⟩, h2⟩ := runH_ran h
      subst h0
      exact base v eg h1 (fun _ => rfl) (fun _ => h2) (fun _ => rfl) (fun h => by cases h)
    | turn => exact base .dead env h (fun h => by rcases h with h | h <;> cases h) (fun h => by rcases h with h | h <;> cases h) (fun h => absurd rfl h) (fun _ => rfl)
def askV (ops : Array Oper) (env : Env) (g : Option (Nat × Bool)) (k : Prop) : Prop :=
  match g with
  | none => k
  | some (j, want) => need (guardV ops env j = some want) k
theorem askV_spec {ops : Array Oper} {env : Env} {g : Option (Nat × Bool)} {k : Prop} (h : askV ops env g k) : askedV ops env g ∧ k := by
  unfold askV at h
  unfold askedV
  split at h
  · exact ⟨trivial, h⟩
  · exact ⟨h.1, h.2⟩
def chainV (P : Program) (W : World) (ops : Array Oper) (Q : Env → Mem → Prop) (n : Nat) (env : Env) : List (Nat × List Md) → List Md → List PV → Mem → Prop
  | [], ms, vs0, σ => stageV P W ops σ (ops.toList.take n) ms vs0 (fun _ _ env' => vcOps P W ops Q (ops.toList.drop n) env' σ) env env
  | (g, ms') :: gs, ms, vs0, σ => stageV P W ops σ (ops.toList.take n) ms vs0 (fun vs eg _ => match ops[g]? with
      | some o => askV ops eg o.guard (opV P W o.op eg σ fun v σ' => chainV P W ops Q n env gs ms' (vs.set g v) σ')
      | none => False) env env
def chainF (P : Program) (W : World) (ops : Array Oper) (Q : Env → Mem → Prop) (n : Nat) (env : Env) (gs : List (Nat × List Md)) : List Md → List PV → Mem → Prop :=
  @List.rec (Nat × List Md) (fun _ => List Md → List PV → Mem → Prop) (fun ms vs0 σ => stageF P W ops σ (ops.toList.take n) ms vs0 (fun _ _ env' => vcOpsF P W ops Q (ops.toList.drop n) env' σ) env env)
    (fun p _ ih ms vs0 σ => stageF P W ops σ (ops.toList.take n) ms vs0 (fun vs eg _ => match ops[p.1]? with
      | some o => askV ops eg o.guard (opF P W o.op eg σ fun v σ' => forceV v fun v => ih p.2 (vs.set p.1 v) σ')
      | none => False) env env) gs
theorem chainF_eq (P : Program) (W : World) (ops : Array Oper) (Q : Env → Mem → Prop) (n : Nat) (env : Env) : ∀ (gs : List (Nat × List Md)) (ms : List Md) (vs0 : List PV) (σ : Mem), chainF P W ops Q n env gs ms vs0 σ = chainV P W ops Q n env gs ms vs0 σ
  | [], ms, vs0, σ => by
    show stageF P W ops σ (ops.toList.take n) ms vs0 _ env env = _
    rw [stageF_eq]
    simp only [vcOpsF_eq]; rfl
  | p :: gs, ms, vs0, σ => by
    have ih := chainF_eq P W ops Q n env gs
    show stageF P W ops σ (ops.toList.take n) ms vs0 (fun vs eg _ => match ops[p.1]? with
      | some o => askV ops eg o.guard (opF P W o.op eg σ fun v σ' => forceV v fun v => chainF P W ops Q n env gs p.2 (vs.set p.1 v) σ')
      | none => False) env env = _
    rw [stageF_eq]
    simp only [opF_eq, forceV_eq, ih]
    rfl
def mdOk (ops : Array Oper) (n : Nat) (prev : Option Nat) (next : List Nat) (i : Nat) (md : Md) : Bool :=
  match md with
  | .keep => match prev with
    | none => false
    | some g => Nat.beq i g || ancB ops n g i
  | .skip => next.any fun g => ancB ops n i g
  | .new => match prev with
    | none => true
    | some g => ancB ops n i g
  | .again => prev.isSome
  | .turn => match next with
    | [] => false
    | g :: _ => Nat.beq i g
def stageOk (ops : Array Oper) (n : Nat) (prev : Option Nat) (ms : List Md) (next : List Nat) : Bool :=
  Nat.beq ms.length n && ((List.range n).all fun i => mdOk ops n prev next i (ms.getD i .skip)) &&
    (match next with
      | [] => true
      | g :: _ => decide (g < n) && decide (ms[g]? = some .turn) && (match prev with
        | none => true
        | some g0 => ancB ops n g g0))
def chainOk (ops : Array Oper) (n : Nat) : Option Nat → List Md → List (Nat × List Md) → Bool
  | prev, ms, [] => stageOk ops n prev ms []
  | prev, ms, (g, ms') :: gs => stageOk ops n prev ms (g :: gs.map Prod.fst) && chainOk ops n (some g) ms' gs
theorem anc_up {ops : Array Oper} {n : Nat} {listed : Array Bool} (hI : HeadInv .any ops n listed) : ∀ (f k i : Nat), listed.getD k false = true → ancB ops f k i = true → listed.getD i false = true := by
  intro f
  induction f with
  | zero => intro k i _ h; cases h
  | succ f ih =>
    intro k i hk h
    simp only [ancB, Bool.or_eq_true, List.any_eq_true, Bool.and_eq_true] at h
    rcases h with h | ⟨j, _, h1, h2⟩
    · obtain ⟨o, ho, e, he, hb, hon⟩ := depAt_spec h
      have := hI.closed k o ho hk e he hb
      rwa [hon] at this
    · obtain ⟨o, ho, e, he, hb, hon⟩ := depAt_spec h1
      have := hI.closed k o ho hk e he hb
      rw [hon] at this
      exact ih j i this h2
theorem HInv.asked {nt : Nat} {ops : Array Oper} {n : Nat} {env : Env} {vs : List PV} {σ : Mem} {K0 : Kn} {w0 : World} {listed : Array Bool} {K : Kn} {a : Act} {w : World} (hf : HeadFacts ops n) (hvs : vs.length = n)
    (h : HInv ds W nt ops n env vs σ K0 w0 listed K a w) {i : Nat} {o : Oper} (hi : i ∈ Region.ready .any ops listed) (hin : i < n) (ho : ops[i]? = some o) (hg : askedV ops (envAt env (ops.toList.take i) (vs.take i)) o.guard) : Region.wanted o (yielded ops a.tmps) = true := by
  have hsl := fun t (ht : t ∈ o.looksAt ops) => h.slot hf hvs hi hin ho ht
  unfold askedV at hg
  split at hg
  · rename_i hgn
    simp [Region.wanted, hgn]
  · rename_i j want hgj
    have hy : yielded ops a.tmps j = some want := by
      unfold guardV at hg
      split at hg
      case h_2 => cases hg
      rename_i oj hoj
      split at hg
      case h_2 => cases hg
      rename_i d hd
      split at hg
      case h_2 => cases hg
      rename_i b hb
      cases hg
      have hbind : ((ops[j]?).bind (·.dst)) = some d := by rw [hoj]; exact hd
      have h0 := hsl d (by
        unfold Oper.looksAt
        refine List.mem_append_right _ ?_
        rw [hgj]
        simp only [hbind]
        exact List.mem_singleton.2 rfl)
      rw [hb] at h0
      unfold yielded
      rw [hbind]
      simp only [Option.bind_some]
      rw [Array.getD_eq_getD_getElem?] at h0
      cases hgv : a.tmps[d]? with
      | none => rw [hgv] at h0; simp only [Option.getD_none, undef] at h0; cases h0
      | some u =>
        rw [hgv] at h0
        simp only [Option.getD_some] at h0
        cases h0; rfl
    simp [Region.wanted, hgj, hy]
theorem set_getD_ne {vs : List PV} {i j : Nat} {v : PV} (h : j ≠ i) : (vs.set i v).getD j .dead = vs.getD j .dead := by
  rw [List.getD_eq_getElem?_getD, List.getD_eq_getElem?_getD, List.getElem?_set_ne (Ne.symm h)]
theorem chain_run {nt : Nat} {ops : Array Oper} {n : Nat} {env : Env} {σ : Mem} {K0 : Kn} {w0 : World} {Q : Exit → Env → Mem → Prop} (hf : HeadFacts ops n) (hok : opsOk nt ops.toList = true) :
    ∀ (gs : List (Nat × List Md)) (prev : Option Nat) (ms : List Md) (vs0 : List PV) (σc : Mem), chainOk ops n prev ms gs = true → chainV P W ops (Q .normal) n env gs ms vs0 σc →
      ∀ (listed : Array Bool) (K1 : Kn) (w1 : World) (K : Kn) (a : Act) (w : World), HInv ds W nt ops n env vs0 σc K1 w1 listed K a w → Ext σ K0 w0 σc K1 w1 → (∀ g ∈ gs.map Prod.fst, listed.getD g false = false) →
      (∀ i, i < n → ms[i]? = some .keep → listed.getD i false = true) → (∀ i, i < n → listed.getD i false = true → ms[i]? = some .keep ∨ ms[i]? = some .again) →
      wpAny P .any ops (After ds W nt Q σ K0 w0) (left listed n + (ops.size - n)) listed a w := by
  have hopl : ∀ k : Nat, ops.toList[k]? = ops[k]? := fun k => by simp
  have hle := hf.le
  intro gs
  induction gs with
  | nil =>
    intro prev ms vs0 σc hc hv listed K1 w1 K a w h hx hun hkp hls
    obtain ⟨vs, eg, hl, hend, hst, -, -⟩ := stageV_cert _ _ _ _ _ _ hv
    have hvs : vs.length = n := by rw [hl]; simp; omega
    have hs : stageOk ops n prev ms [] = true := hc
    unfold stageOk at hs
    simp only [Bool.and_eq_true, List.all_eq_true, List.mem_range] at hs
    obtain ⟨⟨hlen, hmd⟩, -⟩ := hs
    have hlen' := Nat.eq_of_beq_eq_true hlen
    have hat : ∀ i, i < n → ms[i]? = some (ms.getD i .skip) := fun i hi => by
      rw [List.getD_eq_getElem?_getD, List.getElem?_eq_getElem (by omega)]; rfl
    have hop : ∀ i o, i < n → ops[i]? = some o → (ops.toList.take n)[i]? = some o := fun i o hi ho => by rw [List.getElem?_take, if_pos hi, hopl]; exact ho
    have h' : HInv ds W nt ops n env vs σc K1 w1 listed K a w := h.revs fun j hj hjl => by
      have ho : ops[j]? = some ops[j] := Array.getElem?_eq_getElem (by omega)
      rcases hls j hj hjl with e | e
      · exact (hst j _ _ (hop j _ hj ho) e).1 (.inl rfl)
      · exact (hst j _ _ (hop j _ hj ho) e).1 (.inr rfl)
    refine late_run (L := fun j => listed.getD j false = false) hf hvs hok hx hend (fun i o hi hil ho => ⟨σc, [], by simp, ?_⟩) _ listed K a w h' (fun _ _ h => h) rfl
    have hm := hmd i hi
    have hati := hat i hi
    generalize ms.getD i .skip = md at hm hati
    have h2 := (hst i o md (hop i o hi ho) hati).2
    have hcert : RanAt P W ops σc o (envAt env ((ops.toList.take n).take i) (vs.take i)) (vs.getD i .dead) := by
      cases md with
      | keep => rw [hkp i hi hati] at hil; cases hil
      | skip => simp [mdOk] at hm
      | new => exact h2 (.inl rfl)
      | again => exact h2 (.inr rfl)
      | turn => simp [mdOk] at hm
    rw [List.take_take, show min i n = i by omega] at hcert
    exact hcert
  | cons p gs ih =>
    obtain ⟨g, ms'⟩ := p
    intro prev ms vs0 σc hc hv listed K1 w1 K a w h hx hun hkp hls
    obtain ⟨vs, eg, hl, hend, hst, -, heg⟩ := stageV_cert _ _ _ _ _ _ hv
    have hvs : vs.length = n := by rw [hl]; simp; omega
    unfold chainOk at hc
    rw [Bool.and_eq_true] at hc
    obtain ⟨hs, hc'⟩ := hc
    unfold stageOk at hs
    simp only [Bool.and_eq_true, List.all_eq_true, List.mem_range, decide_eq_true_eq] at hs
    obtain ⟨⟨hlen, hmd⟩, ⟨hgn, hgt⟩, hprev⟩ := hs
    have hlen' := Nat.eq_of_beq_eq_true hlen
    have hat : ∀ i, i < n → ms[i]? = some (ms.getD i .skip) := fun i hi => by
      rw [List.getD_eq_getElem?_getD, List.getElem?_eq_getElem (by omega)]; rfl
    have hop : ∀ i o, i < n → ops[i]? = some o → (ops.toList.take n)[i]? = some o := fun i o hi ho => by rw [List.getElem?_take, if_pos hi, hopl]; exact ho
    have hlt : (ops.toList.take n).length = n := by simp; omega
    have heg' : eg = envAt env (ops.toList.take g) (vs.take g) := by
      rw [heg g (by omega) hgt (fun j hj hjt => by
        have := hmd j (by omega)
        rw [hat j (by omega)] at hjt
        rw [Option.some.inj hjt] at this
        exact Nat.eq_of_beq_eq_true this), List.take_take, show min g n = g by omega]
    rw [heg'] at hend
    clear heg heg'
    obtain ⟨og, hog⟩ : ∃ o, ops[g]? = some o := ⟨_, Array.getElem?_eq_getElem (by omega)⟩
    rw [hog] at hend
    obtain ⟨hgg, hend⟩ := askV_spec hend
    have h' : HInv ds W nt ops n env vs σc K1 w1 listed K a w := h.revs fun j hj hjl => by
      have ho : ops[j]? = some ops[j] := Array.getElem?_eq_getElem (by omega)
      rcases hls j hj hjl with e | e
      · exact (hst j _ _ (hop j _ hj ho) e).1 (.inl rfl)
      · exact (hst j _ _ (hop j _ hj ho) e).1 (.inr rfl)
    clear h hls
    -- within the stage
    have key : ∀ (c : Nat) (listed : Array Bool) (K : Kn) (a : Act) (w : World), HInv ds W nt ops n env vs σc K1 w1 listed K a w → (∀ x ∈ g :: gs.map Prod.fst, listed.getD x false = false) → (∀ i, i < n → ms[i]? = some .keep → listed.getD i false = true) →
        left listed n = c → wpAny P .any ops (After ds W nt Q σ K0 w0) (c + (ops.size - n)) listed a w := by
      intro c
      induction c with
      | zero =>
        intro listed K a w h hun hkp hl
        have h1 := left_zero hl g hgn
        rw [hun g List.mem_cons_self] at h1; cases h1
      | succ c ihc =>
        intro listed K a w h hun hkp hl
        obtain ⟨hne, hnx⟩ := h.next hf hl
        rw [show c + 1 + (ops.size - n) = (c + (ops.size - n)) + 1 by omega]
        refine ⟨fun h0 => absurd h0 hne, fun i hi => ?_⟩
        obtain ⟨hin, hlm⟩ := hnx i hi
        obtain ⟨hur, o, ho, _⟩ := mem_ready.1 hi
        have hiu := getD_both hur
        have hlti : i < listed.size := by rw [h.head.size]; exact (Array.getElem?_eq_some_iff.1 ho).1
        have hseti : (listed.setIfInBounds i true).getD i false = true := by simp [Array.getD, hlti]
        by_cases him : i = g
        · subst him
          rw [hog] at ho; cases ho
          have hopnd := h.opnds hf hvs hi hin hog
          unfold wpOp
          simp only [hog]
          rw [if_pos (show Region.wanted og (yielded ops a.tmps) = true from h.asked hf hvs hi hin hog hgg)]
          refine .inl (opV_sound (k := fun v σ' => chainV P W ops (Q .normal) n env gs ms' (vs.set i v) σ') h.mem h.pre hopnd hend ?_)
          rintro v pv σ' K' w' hkv hv hm' hx'
          have hH := h.grown (vs' := vs.set i pv) hf hok hi hin hog hv hm' hx' (by rw [List.getD_eq_getElem?_getD, List.getElem?_set_self (by omega)]; rfl) (fun j hj => set_getD_ne hj)
          -- the next stage's modes
          have hso : stageOk ops n (some i) ms' (gs.map Prod.fst) = true := by
            cases gs with
            | nil => exact hc'
            | cons q gs =>
              obtain ⟨g2, m2⟩ := q
              unfold chainOk at hc'
              rw [Bool.and_eq_true] at hc'
              exact hc'.1
          unfold stageOk at hso
          simp only [Bool.and_eq_true, List.all_eq_true, List.mem_range] at hso
          obtain ⟨⟨hlen2, hmd2⟩, hnx2⟩ := hso
          have hlen2' := Nat.eq_of_beq_eq_true hlen2
          have hat2 : ∀ j, j < n → ms'[j]? = some (ms'.getD j .skip) := fun j hj => by
            rw [List.getD_eq_getElem?_getD, List.getElem?_eq_getElem (by omega)]; rfl
          have hun' : ∀ x ∈ gs.map Prod.fst, (listed.setIfInBounds i true).getD x false = false → True := fun _ _ _ => trivial
          have hgsne : ∀ x ∈ gs.map Prod.fst, x ≠ i := by
            -- a later one stands behind this one: it can't be this one, which is ready
            intro x hxm e
            subst e
            cases gs with
            | nil => simp at hxm
            | cons q gs =>
              have hch : ∀ (gs : List (Nat × List Md)) (prev0 : Nat) (ms0 : List Md), chainOk ops n (some prev0) ms0 gs = true → listed.getD prev0 false = false → ∀ x ∈ gs.map Prod.fst, x ∉ Region.ready .any ops listed ∧ listed.getD x false = false := by
                intro gs
                induction gs with
                | nil => intro _ _ _ _ x hx; simp at hx
                | cons q gs ih2 =>
                  obtain ⟨g2, m2⟩ := q
                  intro prev0 ms0 hcc hp0 x hx
                  unfold chainOk at hcc
                  rw [Bool.and_eq_true] at hcc
                  obtain ⟨hs2, hc2⟩ := hcc
                  unfold stageOk at hs2
                  simp only [Bool.and_eq_true, decide_eq_true_eq] at hs2
                  obtain ⟨_, _, hp2⟩ := hs2
                  have hg2 : listed.getD g2 false = false := by
                    cases hl2 : listed.getD g2 false with
                    | false => rfl
                    | true =>
                      have := anc_up h.head _ _ _ hl2 hp2
                      rw [hp0] at this; cases this
                  rcases List.mem_cons.1 (show x ∈ g2 :: gs.map Prod.fst from hx) with e | e
                  · subst e
                    refine ⟨fun hr => ?_, hg2⟩
                    have := anc_done h.head hr _ _ hp2
                    rw [hp0] at this; cases this
                  · exact ih2 g2 m2 hc2 hg2 x e
              exact (hch _ _ _ hc' hiu x hxm).1 hi
          have hls' : ∀ j, j < n → (listed.setIfInBounds i true).getD j false = true → ms'[j]? = some .keep ∨ ms'[j]? = some .again := fun j hj hjl => by
            have hm := hmd2 j hj
            have hatj := hat2 j hj
            by_cases e : j = i
            · subst e
              generalize ms'.getD j .skip = md at hm hatj
              cases md with
              | keep => exact .inl hatj
              | again => exact .inr hatj
              | new =>
                simp only [mdOk] at hm
                have := anc_done h.head hi _ _ hm
                rw [hiu] at this; cases this
              | skip =>
                simp only [mdOk, List.any_eq_true] at hm
                obtain ⟨x, hxm, ha⟩ := hm
                have := anc_done h.head hi _ _ ha
                rw [hun x (List.mem_cons_of_mem _ hxm)] at this; cases this
              | turn =>
                simp only [mdOk] at hm
                split at hm
                · cases hm
                · rename_i q1 q2 hq
                  have := Nat.eq_of_beq_eq_true hm
                  exact absurd this.symm (hgsne _ (by rw [hq]; exact List.mem_cons_self))
            · rw [getD_set_ne false (Ne.symm e)] at hjl
              generalize ms'.getD j .skip = md at hm hatj
              cases md with
              | keep => exact .inl hatj
              | again => exact .inr hatj
              | new =>
                simp only [mdOk] at hm
                have := anc_up h.head _ _ _ hjl hm
                rw [hiu] at this; cases this
              | skip =>
                simp only [mdOk, List.any_eq_true] at hm
                obtain ⟨x, hxm, ha⟩ := hm
                have := anc_up h.head _ _ _ hjl ha
                rw [hun x (List.mem_cons_of_mem _ hxm)] at this; cases this
              | turn =>
                simp only [mdOk] at hm
                split at hm
                · cases hm
                · rename_i q1 q2 hq
                  have := Nat.eq_of_beq_eq_true hm
                  subst this
                  rw [hun j (by rw [hq]; exact List.mem_cons_of_mem _ List.mem_cons_self)] at hjl; cases hjl
          have hkp' : ∀ j, j < n → ms'[j]? = some .keep → (listed.setIfInBounds i true).getD j false = true := fun j hj hjk => by
            have hm := hmd2 j hj
            rw [hat2 j hj] at hjk
            rw [Option.some.inj hjk] at hm
            simp only [mdOk, Bool.or_eq_true] at hm
            rcases hm with hm | hm
            · rw [Nat.eq_of_beq_eq_true hm]; exact hseti
            · exact getD_set_true (anc_done h.head hi _ _ hm)
          have := ih (some i) ms' (vs.set i pv) σ' hc' hkv _ K' w' K' _ w' hH ((hx.trans h.ext).trans hx') (fun x hxm => by
            rw [getD_set_ne false (Ne.symm (hgsne x hxm))]; exact hun x (List.mem_cons_of_mem _ hxm)) hkp' hls'
          rwa [hlm] at this
        · have hm := hmd i hin
          have hati := hat i hin
          generalize ms.getD i .skip = md at hm hati
          have h2 := (hst i o md (hop i o hin ho) hati).2
          have hcert : RanAt P W ops σc o (envAt env ((ops.toList.take n).take i) (vs.take i)) (vs.getD i .dead) := by
            cases md with
            | keep => rw [hkp i hin hati] at hiu; cases hiu
            | skip =>
              simp only [mdOk, List.any_eq_true] at hm
              obtain ⟨x, hxm, ha⟩ := hm
              have := anc_done h.head hi _ _ ha
              rw [hun x hxm] at this; cases this
            | new => exact h2 (.inl rfl)
            | again => exact h2 (.inr rfl)
            | turn => exact absurd (Nat.eq_of_beq_eq_true hm) him
          rw [List.take_take, show min i n = i by omega] at hcert
          refine h.opAt hf hvs hok hi hin ho (τ := σc) (ρ := []) (by simp) hcert fun K' a' w' h2 => ihc _ K' a' w' h2 (fun x hxm => ?_) (fun j hj hjk => getD_set_true (hkp j hj hjk)) hlm
          rw [getD_set_ne false ?_]
          · exact hun x hxm
          · intro e
            subst e
            rcases List.mem_cons.1 hxm with e | e
            · exact him e
            · -- a later one is not ready: it stands behind g
              have hch : ∀ (gs : List (Nat × List Md)) (prev0 : Nat) (ms0 : List Md), chainOk ops n (some prev0) ms0 gs = true → listed.getD prev0 false = false → ∀ x ∈ gs.map Prod.fst, x ∉ Region.ready .any ops listed ∧ listed.getD x false = false := by
                intro gs
                induction gs with
                | nil => intro _ _ _ _ x hx; simp at hx
                | cons q gs ih2 =>
                  obtain ⟨g2, m2⟩ := q
                  intro prev0 ms0 hcc hp0 x hx
                  unfold chainOk at hcc
                  rw [Bool.and_eq_true] at hcc
                  obtain ⟨hs2, hc2⟩ := hcc
                  unfold stageOk at hs2
                  simp only [Bool.and_eq_true, decide_eq_true_eq] at hs2
                  obtain ⟨_, _, hp2⟩ := hs2
                  have hg2 : listed.getD g2 false = false := by
                    cases hl2 : listed.getD g2 false with
                    | false => rfl
                    | true =>
                      have := anc_up h.head _ _ _ hl2 hp2
                      rw [hp0] at this; cases this
                  rcases List.mem_cons.1 (show x ∈ g2 :: gs.map Prod.fst from hx) with e | e
                  · subst e
                    refine ⟨fun hr => ?_, hg2⟩
                    have := anc_done h.head hr _ _ hp2
                    rw [hp0] at this; cases this
                  · exact ih2 g2 m2 hc2 hg2 x e
              exact (hch gs g ms' hc' (hun g List.mem_cons_self) i e).1 hi
    exact key _ listed K a w h' (by simpa using hun) hkp rfl
def D10 (P : Program) (W : World) (ops : Array Oper) (Q : Env → Mem → Prop) (env : Env) (σ : Mem) : Prop :=
  ∃ (n : Nat) (ms : List Md) (gs : List (Nat × List Md)), (headOk ops n && chainOk ops n none ms gs) = true ∧ chainF P W ops Q n env gs ms (List.replicate n .dead) σ
theorem D10_ok (hm : P.follows .mixedOrders = true) : DrawOk P W (D10 P W) := by
  intro ds nt id ops Q env σ K a w hok h hs
  obtain ⟨n, ms, gs, hh, hv⟩ := h
  rw [chainF_eq] at hv
  rw [Bool.and_eq_true] at hh
  have hf := headOk_spec hh.1
  have hle := hf.le
  refine wp_region_any hm ?_
  have hleft : left (Array.replicate ops.size false) n = n := by
    unfold left
    rw [List.countP_eq_length.2]
    · simp
    · intro i _
      rw [getD_replicate_false]; rfl
  have hkeep : ∀ i, i < n → ms[i]? = some .keep → (Array.replicate ops.size false).getD i false = true := fun i hi hk => by
    have hso : ∃ next, stageOk ops n none ms next = true := by
      cases gs with
      | nil => exact ⟨_, hh.2⟩
      | cons q gs =>
        obtain ⟨g, m2⟩ := q
        have := hh.2
        unfold chainOk at this
        rw [Bool.and_eq_true] at this
        exact ⟨_, this.1⟩
    obtain ⟨next, hso⟩ := hso
    unfold stageOk at hso
    simp only [Bool.and_eq_true, List.all_eq_true, List.mem_range] at hso
    have := hso.1.2 i hi
    rw [List.getD_eq_getElem?_getD, hk] at this
    simp [mdOk] at this
  have hrun := chain_run (nt := nt) (K0 := K) (w0 := w) (Q := Q) (σ := σ) (env := env) hf hok gs none ms _ σ hh.2 hv (Array.replicate ops.size false) K { w with drawn := w.drawn + 1 } K a { w with drawn := w.drawn + 1 }
    ⟨⟨by simp, (fun j oj _ hl => by rw [getD_replicate_false] at hl; cases hl), (fun t _ ht => by simp [Array.getD, ht])⟩,
    hs.mem.drawn _, hs.pre.ext (Ext.drawn σ K w _), Ext.refl _ _ _, hs.sz, hs.dfs, fun t _ => (Ext.drawn σ K w _).vrel (hs.env t), (fun t j _ _ hl => by rw [getD_replicate_false] at hl; cases hl), fun t j _ _ _ => (Ext.drawn σ K w _).vrel (hs.env t)⟩
    (Ext.drawn σ K w _) (fun g _ => getD_replicate_false _ _) hkeep (fun i _ hl => by rw [getD_replicate_false] at hl; cases hl)
  rw [hleft] at hrun
  rw [show n + (ops.size - n) = ops.size by omega] at hrun
  exact hrun
inductive Draws10 (A B : Prop) : Prop
  | old (h : A)
  | chain (h : B)
def DL (P : Program) (W : World) (ops : Array Oper) (Q : Env → Mem → Prop) (env : Env) (σ : Mem) : Prop := Draws10 (DK P W ops Q env σ) (D10 P W ops Q env σ)
theorem DL_ok (hm : P.follows .mixedOrders = true) : DrawOk P W (DL P W) := by
  intro ds nt id ops Q env σ K a w hok h hs
  rcases h with h | h
  · exact DK_ok hm ds nt id ops Q env σ K a w hok h hs
  · exact D10_ok hm ds nt id ops Q env σ K a w hok h hs
theorem headL_ {ops : Array Oper} {Q : Env → Mem → Prop} {env : Env} {σ : Mem} (h : DD P W ops Q env σ) : DL P W ops Q env σ := .old (.old h)
end Go.Eng
end
