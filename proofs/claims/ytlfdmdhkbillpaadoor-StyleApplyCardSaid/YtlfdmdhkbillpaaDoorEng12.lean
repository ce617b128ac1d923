/- The engine, part 12: a head in whatever order. -/
import Derived.Test.YtlfdmdhkbillpaaDoorEng11
namespace Go.Eng
open Go

variable {P : Program} {W : World}

def depOn (o : Oper) (j : Nat) : Bool := o.after.any fun e => Region.binds .any e && e.on == j
def dstIs (ops : Array Oper) (j t : Nat) : Bool :=
  match ops[j]? with
  | some o => match o.dst with
    | some d => Nat.beq d t
    | none => false
  | none => false
def depAt (ops : Array Oper) (i j : Nat) : Bool :=
  match ops[i]? with
  | some o => depOn o j
  | none => false
/-- What may be asked of a region by a program: its first n operations may come in any order that their edges allow, the others come behind them in their own order. -/
def headOk (ops : Array Oper) (n : Nat) : Bool :=
  decide (n ≤ ops.size) && (n == ops.size || (Region.sinkB .any ops n && Region.chainB .any ops n)) &&
  Region.seqB .any ops (ops.size - n) n (Array.replicate n true ++ Array.replicate (ops.size - n) false) &&
  ((List.range n).all fun i => match ops[i]? with
    | some o => (o.after.all fun e => !Region.binds .any e || decide (e.on < i)) &&
      ((o.looksAt ops).all fun t => (List.range n).all fun j => !dstIs ops j t || (decide (j < i) && depAt ops i j) || (decide (i < j) && depAt ops j i)) &&
      (match o.dst with
        | some d => (List.range n).all fun j => j == i || !dstIs ops j d
        | none => true)
    | none => false)

theorem dstIs_spec {ops : Array Oper} {j t : Nat} : dstIs ops j t = true ↔ ∃ o, ops[j]? = some o ∧ o.dst = some t := by
  unfold dstIs
  cases h : ops[j]? with
  | none => simp
  | some o =>
    cases hd : o.dst with
    | none => simp [hd]
    | some d => simp [hd]
theorem depAt_spec {ops : Array Oper} {i j : Nat} (h : depAt ops i j = true) : ∃ o, ops[i]? = some o ∧ ∃ e ∈ o.after, Region.binds .any e = true ∧ e.on = j := by
  unfold depAt at h
  split at h
  case h_2 => cases h
  rename_i o ho
  unfold depOn at h
  obtain ⟨e, he, hb⟩ := Array.any_eq_true'.1 h
  simp only [Bool.and_eq_true, beq_iff_eq] at hb
  exact ⟨o, ho, e, he, hb.1, hb.2⟩

structure HeadFacts (ops : Array Oper) (n : Nat) : Prop where
  le : n ≤ ops.size
  tail : n < ops.size → Region.sinkB .any ops n = true ∧ Region.chainB .any ops n = true
  seq : Region.seqB .any ops (ops.size - n) n (Array.replicate n true ++ Array.replicate (ops.size - n) false) = true
  back : ∀ i o, i < n → ops[i]? = some o → ∀ e ∈ o.after, Region.binds .any e = true → e.on < i
  raw : ∀ i o, i < n → ops[i]? = some o → ∀ t ∈ o.looksAt ops, ∀ j, j < n → dstIs ops j t = true → (j < i ∧ depAt ops i j = true) ∨ (i < j ∧ depAt ops j i = true)
  uniq : ∀ i o d, i < n → ops[i]? = some o → o.dst = some d → ∀ j, j < n → dstIs ops j d = true → j = i

theorem headOk_spec {ops : Array Oper} {n : Nat} (h : headOk ops n = true) : HeadFacts ops n := by
  unfold headOk at h
  simp only [Bool.and_eq_true, decide_eq_true_eq, Bool.or_eq_true, beq_iff_eq, List.all_eq_true, List.mem_range] at h
  obtain ⟨⟨⟨h1, h2⟩, h3⟩, h4⟩ := h
  refine ⟨h1, fun hn => h2.resolve_left (by omega), h3, fun i o hi ho e he hb => ?_, fun i o hi ho t ht j hj hd => ?_, fun i o d hi ho hdd j hj hd => ?_⟩
  · have := h4 i hi
    simp only [ho, Bool.and_eq_true] at this
    have := Array.all_eq_true'.1 this.1.1 e he
    simp only [hb, Bool.not_true, Bool.false_or, decide_eq_true_eq] at this
    exact this
  · have := h4 i hi
    simp only [ho, Bool.and_eq_true, List.all_eq_true, List.mem_range] at this
    have := this.1.2 t ht j hj
    simp only [hd, Bool.not_true, Bool.false_or, Bool.or_eq_true, Bool.and_eq_true, decide_eq_true_eq] at this
    exact this
  · have := h4 i hi
    simp only [ho, Bool.and_eq_true, hdd, List.all_eq_true, List.mem_range] at this
    have := this.2 j hj
    simp only [hd, Bool.not_true, Bool.or_false, beq_iff_eq] at this
    exact this

theorem updO_at {env : Env} {dst : Option Nat} {v : PV} {t : Nat} : updO env dst v t = if dst = some t then v else env t := by
  cases dst with
  | none => simp [updO]
  | some d =>
    simp only [updO, upd, Option.some.injEq]
    by_cases e : t = d
    · subst e; simp
    · rw [beq_no e, if_neg (Ne.symm e)]; rfl

/-- The environment of the text's order, slot by slot. -/
theorem envAt_none : ∀ (l : List Oper) (vs : List PV) (env : Env) (t : Nat), (∀ o ∈ l, o.dst ≠ some t) → envAt env l vs t = env t
  | [], vs, env, t, _ => by cases vs <;> rfl
  | o :: l, [], env, t, _ => rfl
  | o :: l, v :: vs, env, t, h => by
    rw [envAt, envAt_none l vs _ t (fun o' ho' => h o' (List.mem_cons_of_mem _ ho')), updO_at, if_neg (h o List.mem_cons_self)]
theorem envAt_some : ∀ (l : List Oper) (vs : List PV) (env : Env) (t j : Nat) (o : Oper), vs.length = l.length → l[j]? = some o → o.dst = some t → (∀ k o', l[k]? = some o' → o'.dst = some t → k = j) → envAt env l vs t = vs.getD j .dead
  | [], _, _, _, _, _, _, h, _, _ => by simp at h
  | o0 :: l, [], _, _, _, _, hl, _, _, _ => by simp at hl
  | o0 :: l, v :: vs, env, t, 0, o, hl, h, hd, hu => by
    simp only [List.getElem?_cons_zero, Option.some.injEq] at h
    subst h
    rw [envAt, envAt_none l vs _ t (fun o' ho' hd' => by
      obtain ⟨k, hk, rfl⟩ := List.getElem_of_mem ho'
      have := hu (k + 1) l[k] (by simp [hk]) hd'
      omega), updO_at, if_pos hd]
    rfl
  | o0 :: l, v :: vs, env, t, j + 1, o, hl, h, hd, hu => by
    simp only [List.getElem?_cons_succ] at h
    rw [envAt, envAt_some l vs _ t j o (by simpa using hl) h hd (fun k o' hk hd' => by have := hu (k + 1) o' (by simpa using hk) hd'; omega)]
    simp

theorem cert_at {ops : Array Oper} {σ : Mem} : ∀ (l : List Oper) (env : Env) (vs : List PV), Cert P W ops σ l env vs → ∀ i o, l[i]? = some o →
    ((o.guard = none ∨ ∃ j want, o.guard = some (j, want) ∧ guardV ops (envAt env (l.take i) (vs.take i)) j = some want) ∧ Yields P W o.op (envAt env (l.take i) (vs.take i)) σ (vs.getD i .dead)) ∨
    (∃ j want, o.guard = some (j, want) ∧ (guardV ops (envAt env (l.take i) (vs.take i)) j = some (!want) ∨ guardU ops (envAt env (l.take i) (vs.take i)) j = true) ∧ vs.getD i .dead = .tup []) := by
  intro l env vs h
  induction h with
  | nil => intro i o h; simp at h
  | run o r env v vs hg hy _ ih =>
    intro i o' ho
    cases i with
    | zero =>
      simp only [List.getElem?_cons_zero, Option.some.injEq] at ho
      subst ho
      exact .inl ⟨hg, hy⟩
    | succ i =>
      have := ih i o' (by simpa using ho)
      simpa [envAt] using this
  | skip o r env vs j want hg hv _ ih =>
    intro i o' ho
    cases i with
    | zero =>
      simp only [List.getElem?_cons_zero, Option.some.injEq] at ho
      subst ho
      exact .inr ⟨j, want, hg, hv, rfl⟩
    | succ i =>
      have := ih i o' (by simpa using ho)
      simpa [envAt] using this

/-- The state in the middle of a head. -/
structure HInv (W : World) (nt : Nat) (ops : Array Oper) (n : Nat) (env : Env) (vs : List PV) (σ : Mem) (K0 : Kn) (w0 : World) (listed : Array Bool) (K : Kn) (a : Act) (w : World) : Prop where
  head : HeadInv .any ops n listed
  mem : SatM K σ w
  pre : Pre W σ w
  ext : Ext σ K0 w0 σ K w
  sz : a.tmps.size = nt
  dfs : a.defers = []
  other : ∀ t, (∀ j, j < n → dstIs ops j t = false) → VRel K w (env t) (a.tmps.getD t undef)
  done : ∀ t j, j < n → dstIs ops j t = true → listed.getD j false = true → VRel K w (vs.getD j .dead) (a.tmps.getD t undef)
  todo : ∀ t j, j < n → dstIs ops j t = true → listed.getD j false = false → VRel K w (env t) (a.tmps.getD t undef)

theorem put_at {a : Act} {dst : Option Nat} {v : Value} {t : Nat} (h : dst ≠ some t) : (a.put dst v).tmps.getD t undef = a.tmps.getD t undef := by
  cases dst with
  | none => rfl
  | some d =>
    have : d ≠ t := fun e => h (by rw [e])
    simp only [Act.put]
    rw [Array.getD_eq_getD_getElem?, Array.getD_eq_getD_getElem?, Array.getElem?_setIfInBounds, if_neg this]
theorem put_self {a : Act} {v : Value} {t : Nat} (h : t < a.tmps.size) : (a.put (some t) v).tmps.getD t undef = v := by
  simp [Act.put, Array.getD, h]

theorem HInv.step {nt : Nat} {ops : Array Oper} {n : Nat} {env : Env} {vs : List PV} {σ : Mem} {K0 : Kn} {w0 : World} {listed : Array Bool} {K K' : Kn} {a : Act} {w w' : World} (hf : HeadFacts ops n)
    (h : HInv W nt ops n env vs σ K0 w0 listed K a w) {i : Nat} {o : Oper} (hi : i ∈ Region.ready .any ops listed) (hin : i < n) (ho : ops[i]? = some o) (hok : opsOk nt ops.toList = true)
    {v : Value} (hv : VRel K' w' (vs.getD i .dead) v) (hm : SatM K' σ w') (hx : Ext σ K w σ K' w') : HInv W nt ops n env vs σ K0 w0 (listed.setIfInBounds i true) K' (a.put o.dst v) w' := by
  have hlt : i < listed.size := by rw [h.head.size]; exact (Array.getElem?_eq_some_iff.1 ho).1
  have hun := (mem_ready.1 hi).1
  have key : ∀ t j, j < n → dstIs ops j t = true → (j = i ∧ o.dst = some t) ∨ (j ≠ i ∧ o.dst ≠ some t) := fun t j hj hd => by
    by_cases e : j = i
    · subst e
      obtain ⟨o', ho', hd'⟩ := dstIs_spec.1 hd
      rw [ho] at ho'
      cases ho'
      exact .inl ⟨rfl, hd'⟩
    · exact .inr ⟨e, fun hd' => e (hf.uniq i o t hin ho hd' j hj hd)⟩
  refine ⟨h.head.set hi hin, hm, h.pre.ext hx, h.ext.trans hx, by cases o.dst <;> simp [Act.put, h.sz], by cases o.dst <;> exact h.dfs, fun t ht => ?_, fun t j hj hd hl => ?_, fun t j hj hd hl => ?_⟩
  · have : o.dst ≠ some t := fun e => by
      have := ht i hin
      rw [dstIs_spec.2 ⟨o, ho, e⟩] at this
      cases this
    rw [put_at this]; exact hx.vrel (h.other t ht)
  · rcases key t j hj hd with ⟨rfl, e⟩ | ⟨e, e'⟩
    · rw [e]
      have hd' : t < nt := by
        have := List.all_eq_true.1 hok o (by have := (Array.getElem?_eq_some_iff.1 ho); obtain ⟨h1, h2⟩ := this; rw [← h2]; simp)
        simpa [e] using this
      rw [put_self (by rw [h.sz]; exact hd')]; exact hv
    · rw [put_at e']
      rw [getD_set_ne false (Ne.symm e)] at hl
      exact hx.vrel (h.done t j hj hd hl)
  · rcases key t j hj hd with ⟨rfl, e⟩ | ⟨e, e'⟩
    · have : (listed.setIfInBounds j true).getD j false = true := by simp [Array.getD, hlt]
      rw [this] at hl; cases hl
    · rw [put_at e']
      rw [getD_set_ne false (Ne.symm e)] at hl
      exact hx.vrel (h.todo t j hj hd hl)

/-- What an operation that comes up looks at is as in the text's order. -/
theorem HInv.slot {nt : Nat} {ops : Array Oper} {n : Nat} {env : Env} {vs : List PV} {σ : Mem} {K0 : Kn} {w0 : World} {listed : Array Bool} {K : Kn} {a : Act} {w : World} (hf : HeadFacts ops n) (hvs : vs.length = n)
    (h : HInv W nt ops n env vs σ K0 w0 listed K a w) {i : Nat} {o : Oper} (hi : i ∈ Region.ready .any ops listed) (hin : i < n) (ho : ops[i]? = some o) {t : Nat} (ht : t ∈ o.looksAt ops) :
    VRel K w (envAt env (ops.toList.take i) (vs.take i) t) (a.tmps.getD t undef) := by
  obtain ⟨hun, o', ho', hall⟩ := mem_ready.1 hi
  rw [ho] at ho'; cases ho'
  have hnl := getD_both hun
  have hopl : ∀ k : Nat, ops.toList[k]? = ops[k]? := fun k => by simp
  by_cases hex : ∃ j, j < n ∧ dstIs ops j t = true
  · obtain ⟨j, hj, hd⟩ := hex
    obtain ⟨oj, hoj, hdj⟩ := dstIs_spec.1 hd
    have huniq : ∀ k, k < n → dstIs ops k t = true → k = j := fun k hk hdk => hf.uniq j oj t hj hoj hdj k hk hdk
    rcases hf.raw i o hin ho t ht j hj hd with ⟨hji, hdep⟩ | ⟨hij, hdep⟩
    · obtain ⟨o'', ho'', e, he, hb, hon⟩ := depAt_spec hdep
      rw [ho] at ho''; cases ho''
      have hlj := hall e he hb
      rw [hon] at hlj
      have hle := hf.le
      rw [envAt_some _ _ _ t j oj (by simp [hvs]; omega) (by rw [List.getElem?_take, if_pos hji, hopl]; exact hoj) hdj (fun k ok hk hdk => by
        rw [List.getElem?_take] at hk
        split at hk
        · rw [hopl] at hk; exact huniq k (by omega) (dstIs_spec.2 ⟨ok, hk, hdk⟩)
        · cases hk)]
      have : (vs.take i).getD j .dead = vs.getD j .dead := by simp [List.getD_eq_getElem?_getD, hji]
      rw [this]
      exact h.done t j hj hd hlj
    · obtain ⟨oj', hoj', e, he, hb, hon⟩ := depAt_spec hdep
      have hnlj : listed.getD j false = false := by
        cases hl : listed.getD j false with
        | false => rfl
        | true =>
          have := h.head.closed j oj' hoj' hl e he hb
          rw [hon, hnl] at this; cases this
      rw [envAt_none _ _ _ t (fun ok hok hdk => by
        obtain ⟨k, hk, rfl⟩ := List.getElem_of_mem hok
        have hk' : k < i := by simp at hk; omega
        have e1 : ops[k]? = some (ops.toList.take i)[k] := by
          have : (ops.toList.take i)[k]? = ops.toList[k]? := by rw [List.getElem?_take, if_pos hk']
          rw [← hopl, ← this, List.getElem?_eq_getElem hk]
        have := huniq k (by omega) (dstIs_spec.2 ⟨_, e1, hdk⟩)
        omega)]
      exact h.todo t j hj hd hnlj
  · have hno : ∀ j, j < n → dstIs ops j t = false := fun j hj => by
      cases hd : dstIs ops j t with
      | false => rfl
      | true => exact absurd ⟨j, hj, hd⟩ hex
    rw [envAt_none _ _ _ t (fun ok hok hdk => by
      obtain ⟨k, hk, rfl⟩ := List.getElem_of_mem hok
      have hk' : k < i := by simp at hk; omega
      have e1 : ops[k]? = some (ops.toList.take i)[k] := by
        have : (ops.toList.take i)[k]? = ops.toList[k]? := by rw [List.getElem?_take, if_pos hk']
        rw [← hopl, ← this, List.getElem?_eq_getElem hk]
      have := hno k (by omega)
      rw [dstIs_spec.2 ⟨_, e1, hdk⟩] at this
      cases this)]
    exact h.other t hno

/-- One operation of the head, whenever it comes up. -/
theorem HInv.op {nt : Nat} {ops : Array Oper} {n : Nat} {env : Env} {vs : List PV} {σ : Mem} {K0 : Kn} {w0 : World} {listed : Array Bool} {K : Kn} {a : Act} {w : World} {Q : Exit → Act → World → Prop} {C : Act → World → Prop}
    (hf : HeadFacts ops n) (hvs : vs.length = n) (hcert : Cert P W ops σ (ops.toList.take n) env vs) (hok : opsOk nt ops.toList = true)
    (h : HInv W nt ops n env vs σ K0 w0 listed K a w) {i : Nat} (hi : i ∈ Region.ready .any ops listed) (hin : i < n)
    (hC : ∀ K' a' w', HInv W nt ops n env vs σ K0 w0 (listed.setIfInBounds i true) K' a' w' → C a' w') : wpOp P ops Q i C a w := by
  obtain ⟨hun, o, ho, hall⟩ := mem_ready.1 hi
  have hopl : ∀ k : Nat, ops.toList[k]? = ops[k]? := fun k => by simp
  have hsl := fun t (ht : t ∈ o.looksAt ops) => h.slot hf hvs hi hin ho ht
  have htt : ∀ {α : Type} (l : List α), (l.take n).take i = l.take i := fun l => by rw [List.take_take]; congr 1; omega
  have hc := cert_at _ _ _ hcert i o (by rw [List.getElem?_take, if_pos hin, hopl]; exact ho)
  rw [htt] at hc
  -- the operands
  have hopnd : ∀ x ∈ o.op.operands, VRel K w (ev (envAt env (ops.toList.take i) (vs.take i)) x) (a.eval x) := fun x hx => by
    cases x with
    | tmp t =>
      refine hsl t ?_
      unfold Oper.looksAt
      exact List.mem_append_left _ (List.mem_filterMap.2 ⟨.tmp t, by simpa using hx, rfl⟩)
    | const v => exact ofV_rel v
    | global g => exact .lit _
    | func f => exact .fn f [] [] rfl (fun i hi => by simp at hi)
  -- the guard
  have hgd : ∀ j want x, o.guard = some (j, want) → guardV ops (envAt env (ops.toList.take i) (vs.take i)) j = some x → yielded ops a.tmps j = some x := fun j want x hg hv => by
    unfold guardV at hv
    split at hv
    case h_2 => cases hv
    rename_i oj hoj
    split at hv
    case h_2 => cases hv
    rename_i d hd
    split at hv
    case h_2 => cases hv
    rename_i b hb
    cases hv
    have hbind : ((ops[j]?).bind (·.dst)) = some d := by rw [hoj]; exact hd
    have h0 := hsl d (by
      unfold Oper.looksAt
      refine List.mem_append_right _ ?_
      rw [hg]
      simp only [hbind]
      exact List.mem_singleton.2 rfl)
    rw [hb] at h0
    unfold yielded
    rw [hbind]
    simp only [Option.bind_some]
    rw [Array.getD_eq_getD_getElem?] at h0
    cases hgv : a.tmps[d]? with
    | none => rw [hgv] at h0; simp only [Option.getD_none, undef] at h0; cases h0
    | some u =>
      rw [hgv] at h0
      simp only [Option.getD_some] at h0
      cases h0; rfl
  have hgu : ∀ j want, o.guard = some (j, want) → guardU ops (envAt env (ops.toList.take i) (vs.take i)) j = true → yielded ops a.tmps j = none := fun j want hg hv => by
    unfold guardU at hv
    split at hv
    case h_2 => cases hv
    rename_i oj hoj
    split at hv
    case h_2 => cases hv
    rename_i d hd
    split at hv
    case h_2 => cases hv
    rename_i hb
    have hbind : ((ops[j]?).bind (·.dst)) = some d := by rw [hoj]; exact hd
    have h0 := hsl d (by
      unfold Oper.looksAt
      refine List.mem_append_right _ ?_
      rw [hg]
      simp only [hbind]
      exact List.mem_singleton.2 rfl)
    rw [hb] at h0
    unfold yielded
    rw [hbind]
    simp only [Option.bind_some]
    rw [Array.getD_eq_getD_getElem?] at h0
    cases hgv : a.tmps[d]? with
    | none => rfl
    | some u =>
      rw [hgv] at h0
      simp only [Option.getD_some] at h0
      cases h0; rfl
  unfold wpOp
  simp only [ho]
  rcases hc with ⟨hg, hy⟩ | ⟨j, want, hg, hv, hdead⟩
  · have hw : Region.wanted o (yielded ops a.tmps) = true := by
      rcases hg with hg | ⟨j, want, hg, hv⟩
      · simp [Region.wanted, hg]
      · simp [Region.wanted, hg, hgd j want want hg hv]
    rw [if_pos hw]
    refine .inl (opV_sound (k := fun v σ' => v = vs.getD i .dead ∧ σ' = σ) h.mem h.pre hopnd (hy _ ⟨rfl, rfl⟩) ?_)
    rintro v pv σ' K' w' ⟨rfl, rfl⟩ hv hm' hx
    exact hC K' _ w' (h.step hf hi hin ho hok hv hm' hx)
  · have hw : ¬ Region.wanted o (yielded ops a.tmps) = true := by
      rcases hv with hv | hv
      · simp only [Region.wanted, hg, hgd j want _ hg hv]
        cases want <;> simp
      · simp only [Region.wanted, hg, hgu j want hg hv]
        cases want <;> simp
    rw [if_neg hw]
    exact hC K _ w (h.step hf hi hin ho hok (by rw [hdead]; exact .tup [] [] rfl (fun i hi => by cases hi)) h.mem (Ext.refl _ _ _))

theorem ready_of_least {ops : Array Oper} {n : Nat} {listed : Array Bool} (hf : HeadFacts ops n) (hs : listed.size = ops.size) {k : Nat} (hk : k < n) (hun : listed.getD k false = false) (hmin : ∀ j, j < k → listed.getD j false = true) :
    k ∈ Region.ready .any ops listed := by
  have hlt : k < ops.size := Nat.lt_of_lt_of_le hk hf.le
  have ho : ops[k]? = some ops[k] := Array.getElem?_eq_getElem hlt
  exact mem_ready.2 ⟨getD_in (by omega) hun, _, ho, fun e he hb => hmin _ (hf.back k _ hk ho e he hb)⟩

def left (listed : Array Bool) (n : Nat) : Nat := (List.range n).countP fun i => !listed.getD i false
theorem left_set {listed : Array Bool} {n i : Nat} (hi : i < n) (hs : i < listed.size) (hun : listed.getD i false = false) : left (listed.setIfInBounds i true) n + 1 = left listed n := by
  unfold left
  induction n with
  | zero => omega
  | succ n ih =>
    rw [List.range_succ, List.countP_append, List.countP_append]
    by_cases e : i = n
    · subst e
      have h1 : (List.range i).countP (fun j => !(listed.setIfInBounds i true).getD j false) = (List.range i).countP (fun j => !listed.getD j false) := by
        refine List.countP_congr fun j hj => ?_
        have : j < i := List.mem_range.1 hj
        rw [getD_set_ne false (by omega)]
      have h2 : (listed.setIfInBounds i true).getD i false = true := by simp [Array.getD, hs]
      rw [h1]
      simp only [List.countP_cons, List.countP_nil, h2, hun]
      simp
    · have := ih (by omega)
      have h2 : (listed.setIfInBounds i true).getD n false = listed.getD n false := getD_set_ne false e
      simp only [List.countP_cons, List.countP_nil, h2]
      omega
theorem left_zero {listed : Array Bool} {n : Nat} (h : left listed n = 0) : ∀ i, i < n → listed.getD i false = true := by
  unfold left at h
  rw [List.countP_eq_zero] at h
  intro i hi
  have := h i (List.mem_range.2 hi)
  simpa using this
theorem left_pos {listed : Array Bool} {n m : Nat} (h : left listed n = m + 1) : ∃ k, k < n ∧ listed.getD k false = false ∧ ∀ j, j < k → listed.getD j false = true := by
  have hex : ∃ k, k < n ∧ listed.getD k false = false := by
    unfold left at h
    have : 0 < (List.range n).countP (fun i => !listed.getD i false) := by omega
    obtain ⟨k, hk, hp⟩ := List.countP_pos_iff.1 this
    exact ⟨k, List.mem_range.1 hk, by simpa using hp⟩
  obtain ⟨k, hk⟩ := hex
  induction k using Nat.strongRecOn with
  | _ k ih =>
    by_cases hmin : ∀ j, j < k → listed.getD j false = true
    · exact ⟨k, hk.1, hk.2, hmin⟩
    · simp only [Classical.not_forall] at hmin
      obtain ⟨j, hj, hne⟩ := hmin
      have hne' : listed.getD j false = false := by cases hb : listed.getD j false <;> simp_all
      exact ih j hj ⟨by omega, hne'⟩

theorem head_run {nt : Nat} {ops : Array Oper} {n : Nat} {env : Env} {vs : List PV} {σ : Mem} {K0 : Kn} {w0 : World} {Q : Exit → Env → Mem → Prop} (hf : HeadFacts ops n) (hvs : vs.length = n)
    (hcert : Cert P W ops σ (ops.toList.take n) env vs) (hok : opsOk nt ops.toList = true) (hend : vcOps P W ops (Q .normal) (ops.toList.drop n) (envAt env (ops.toList.take n) vs) σ) :
    ∀ (m : Nat) (listed : Array Bool) (K : Kn) (a : Act) (w : World), HInv W nt ops n env vs σ K0 w0 listed K a w → left listed n = m → wpAny P .any ops (After W nt Q σ K0 w0) (m + (ops.size - n)) listed a w := by
  intro m
  have hopl : ∀ k : Nat, ops.toList[k]? = ops[k]? := fun k => by simp
  induction m with
  | zero =>
    intro listed K a w h hl
    have hall := left_zero hl
    have hle := hf.le
    have hlisted : listed = Array.replicate n true ++ Array.replicate (ops.size - n) false := by
      apply Array.ext
      · simp [h.head.size]; omega
      · intro i h1 h2
        rw [Array.getElem_append]
        split
        · rename_i h3
          simp only [Array.size_replicate] at h3
          have := hall i h3
          simpa [Array.getD, h1] using this
        · rename_i h3
          simp only [Array.size_replicate] at h3
          have := h.head.tail i (by omega) (by rw [← h.head.size]; exact h1)
          simpa [Array.getD, h1] using this
    have hsat : Sat W nt K (envAt env (ops.toList.take n) vs) σ a w := by
      refine ⟨h.mem, h.pre, h.sz, fun t => ?_, h.dfs⟩
      by_cases hex : ∃ j, j < n ∧ dstIs ops j t = true
      · obtain ⟨j, hj, hd⟩ := hex
        obtain ⟨oj, hoj, hdj⟩ := dstIs_spec.1 hd
        rw [envAt_some _ _ _ t j oj (by simp [hvs]; omega) (by rw [List.getElem?_take, if_pos hj, hopl]; exact hoj) hdj (fun k ok hk hdk => by
          rw [List.getElem?_take] at hk
          split at hk
          · rw [hopl] at hk
            exact hf.uniq j oj t hj hoj hdj k (by omega) (dstIs_spec.2 ⟨ok, hk, hdk⟩)
          · cases hk)]
        exact h.done t j hj hd (hall j hj)
      · have hno : ∀ j, j < n → dstIs ops j t = false := fun j hj => by
          cases hd : dstIs ops j t with
          | false => rfl
          | true => exact absurd ⟨j, hj, hd⟩ hex
        rw [envAt_none _ _ _ t (fun ok hok' hdk => by
          obtain ⟨k, hk, rfl⟩ := List.getElem_of_mem hok'
          have hk' : k < n := by simp at hk; omega
          have e1 : ops[k]? = some (ops.toList.take n)[k] := by
            have : (ops.toList.take n)[k]? = ops.toList[k]? := by rw [List.getElem?_take, if_pos hk']
            rw [← hopl, ← this, List.getElem?_eq_getElem hk]
          have := hno k hk'
          rw [dstIs_spec.2 ⟨_, e1, hdk⟩] at this
          cases this)]
        exact h.other t hno
    have hok' : opsOk nt (ops.toList.drop n) = true := by
      unfold opsOk at *
      rw [List.all_eq_true] at *
      exact fun o ho => hok o (List.mem_of_mem_drop ho)
    have hlen : (ops.toList.drop n).length = ops.size - n := by simp
    rw [Nat.zero_add, ← hlen]
    refine wpAny_of_seq (ops.toList.drop n) n listed a w (fun j => by rw [List.getElem?_drop, hopl]) (by rw [hlen, hlisted]; exact hf.seq) ?_
    exact vcOps_sound _ _ σ K a w hok' hend hsat h.ext
  | succ m ih =>
    intro listed K a w h hl
    obtain ⟨k, hk, hkn, hmin⟩ := left_pos hl
    have hr := ready_of_least hf h.head.size hk hkn hmin
    rw [show m + 1 + (ops.size - n) = (m + (ops.size - n)) + 1 by omega]
    refine ⟨(fun h0 => by rw [h0] at hr; cases hr), fun i hi => ?_⟩
    have hin : i < n := by
      rcases Nat.lt_or_ge i n with h1 | h1
      · exact h1
      · have hisz : i < ops.size := by
          obtain ⟨_, o, ho, _⟩ := mem_ready.1 hi
          exact (Array.getElem?_eq_some_iff.1 ho).1
        obtain ⟨hs, hc⟩ := hf.tail (by omega)
        exact absurd hi (tail_waits hs hc (by omega) h.head _ k rfl hk (getD_in (by rw [h.head.size]; omega) hkn) i h1)
    have hlt : i < listed.size := by
      obtain ⟨_, o, ho, _⟩ := mem_ready.1 hi
      rw [h.head.size]; exact (Array.getElem?_eq_some_iff.1 ho).1
    have hun := getD_both (mem_ready.1 hi).1
    refine h.op hf hvs hcert hok hi hin fun K' a' w' h' => ih _ K' a' w' h' ?_
    have := left_set hin hlt hun
    omega

/-- THE LAW FOR REGIONS WHOSE ORDER IS DRAWN. -/
def D1 (P : Program) (W : World) (ops : Array Oper) (Q : Env → Mem → Prop) (env : Env) (σ : Mem) : Prop :=
  ∃ n, headOk ops n = true ∧ headF P W ops σ (fun env' => vcOpsF P W ops Q (ops.toList.drop n) env' σ) (ops.toList.take n) env

theorem D1_ok (hm : P.follows .mixedOrders = true) : DrawOk P W (D1 P W) := by
  intro nt id ops Q env σ K a w hok h hs
  obtain ⟨n, hh, hv⟩ := h
  simp only [headF_eq, vcOpsF_eq] at hv
  have hf := headOk_spec hh
  obtain ⟨vs, hlen, hcert, hend⟩ := headV_cert _ _ hv
  have hvs : vs.length = n := by have := hf.le; rw [hlen]; simp; omega
  refine wp_region_any hm ?_
  have hsz : ops.size = left (Array.replicate ops.size false) n + (ops.size - n) := by
    have : left (Array.replicate ops.size false) n = n := by
      unfold left
      rw [List.countP_eq_length.2]
      · simp
      · intro i _
        rw [getD_replicate_false]; rfl
    have := hf.le; omega
  have hrun := head_run (nt := nt) (K0 := K) (w0 := w) (Q := Q) hf hvs hcert hok hend _ (Array.replicate ops.size false) K a { w with drawn := w.drawn + 1 } ⟨⟨by simp, (fun j oj _ hl => by rw [getD_replicate_false] at hl; cases hl), (fun t _ ht => by simp [Array.getD, ht])⟩,
    hs.mem.drawn _, hs.pre.ext (Ext.drawn σ K w _), Ext.drawn σ K w _, hs.sz, hs.dfs, fun t _ => (Ext.drawn σ K w _).vrel (hs.env t), (fun t j _ _ hl => by rw [getD_replicate_false] at hl; cases hl), fun t j _ _ _ => (Ext.drawn σ K w _).vrel (hs.env t)⟩ rfl
  rw [← hsz] at hrun
  exact hrun
end Go.Eng
