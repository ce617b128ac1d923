/- Texts put together: Eng35, Eng36, Eng37. -/
import Derived.Test.YtkenlcaifhffoaaDoorMSA
import Derived.Test.YtkenlcaifhffoaaDoorME3
/- The engine, part 35: calls that may end by a panic. -/
section
namespace Go.Eng
open Go
variable {P : Program} {W : World}
set_option linter.unusedSimpArgs false
set_option linter.unusedVariables false
/-- A contract: the call returns, or panics with one value; what is owned then is so. -/
structure XCalls (P : Program) (W : World) (f : FuncId) (args : List PV) (σ : Mem) (k : PV → Mem → Prop) (r : PV → Mem → Prop) : Prop where
  body : ∃ fn, P.funcs[f]? = some fn ∧ fn.body.isNone = false ∧ (fn.name == "runtime.NumGoroutine") = false
  run : ∀ (K : Kn) (w : World) (vs : List Value), args.length = vs.length → (∀ i, i < args.length → VRel K w (args.getD i .dead) (vs.getD i undef)) → SatM K σ w → Pre W σ w →
    Calls P f vs.toArray w fun e w' => ∃ v pv σ' K', ((e = .returned v ∧ k pv σ') ∨ (e = .panicked [{ v, recovered := false }] ∧ r pv σ')) ∧ VRel K' w' pv v ∧ SatM K' σ' w' ∧ Ext σ K w σ' K' w'
/-- What is asked behind a piece of code that may panic. -/
def AfterX (ds : List Deferred) (W : World) (nt : Nat) (Q : Exit → Env → Mem → Prop) (R : PV → Env → Mem → Prop) (σ : Mem) (K : Kn) (w : World) : Exit → Act → World → Prop
  | .panic chain, a', w' => ∃ env' σ' K' v pv, chain = [{ v, recovered := false }] ∧ VRel K' w' pv v ∧ R pv env' σ' ∧ Sat ds W nt K' env' σ' a' w' ∧ Ext σ K w σ' K' w'
  | e, a', w' => After ds W nt Q σ K w e a' w'
structure WpX (P : Program) (W : World) (ds : List Deferred) (nt : Nat) (c : Code) (env : Env) (σ : Mem) (Q : Exit → Env → Mem → Prop) (R : PV → Env → Mem → Prop) : Prop where
  run : ∀ K a w, Sat ds W nt K env σ a w → c.wp P (AfterX ds W nt Q R σ K w) a w
theorem AfterX.trans {ds : List Deferred} {nt : Nat} {Q : Exit → Env → Mem → Prop} {R : PV → Env → Mem → Prop} {σ σ' : Mem} {K K' : Kn} {w w' : World} (hx : Ext σ K w σ' K' w') {e : Exit} {a : Act} {w2 : World} (h : AfterX ds W nt Q R σ' K' w' e a w2) : AfterX ds W nt Q R σ K w e a w2 := by
  cases e <;> first
    | (obtain ⟨env2, σ2, K2, v, pv, h1, h2, h3, h4, h5⟩ := h; exact ⟨env2, σ2, K2, v, pv, h1, h2, h3, h4, hx.trans h5⟩)
    | (obtain ⟨env2, σ2, K2, h1, h2, h3⟩ := h; exact ⟨env2, σ2, K2, h1, h2, hx.trans h3⟩)
/-- What never panics: by the engine's own condition. -/
theorem WpX.of_vc {D : Array Oper → (Env → Mem → Prop) → Env → Mem → Prop} (hD : DrawOk P W D) {ds : List Deferred} {nt : Nat} {c : Code} {env : Env} {σ : Mem} {Q : Exit → Env → Mem → Prop} {R : PV → Env → Mem → Prop} (hs : slotsOk nt c = true)
    (h : vc P W D c (fun e env' σ' => match e with | .panic _ => False | e => Q e env' σ') env σ) : WpX P W ds nt c env σ Q R := by
  refine ⟨fun K a w hsat => wp_mono (vc_sound hD c _ _ σ K _ w hs h hsat) ?_⟩
  rintro e a' w' ⟨env', σ', K', hq, hs', hx⟩
  cases e <;> first | exact hq.elim | exact ⟨env', σ', K', hq, hs', hx⟩
theorem WpX.seq {ds : List Deferred} {nt : Nat} {x y : Code} {env : Env} {σ : Mem} {Q : Exit → Env → Mem → Prop} {R : PV → Env → Mem → Prop}
    (h : WpX P W ds nt x env σ (fun e env' σ' => match e with | .normal => WpX P W ds nt y env' σ' Q R | e => Q e env' σ') R) : WpX P W ds nt (Code.seq x y) env σ Q R := by
  refine ⟨fun K a w hsat => wp_seq (wp_mono (h.run K a w hsat) ?_)⟩
  intro e a' w' hq
  cases e <;> try exact hq
  obtain ⟨env', σ', K', hq, hs', hx⟩ := hq
  exact wp_mono (hq.run K' a' w' hs') fun e a2 w2 h2 => h2.trans hx
theorem WpX.cond {ds : List Deferred} {nt : Nat} {c : Operand} {x y : Code} {env : Env} {σ : Mem} {Q : Exit → Env → Mem → Prop} {R : PV → Env → Mem → Prop} {t : Bool} (ht : ev env c = .bool t)
    (h : WpX P W ds nt (if t then x else y) env σ Q R) : WpX P W ds nt (Code.cond c x y) env σ Q R := by
  refine ⟨fun K a w hsat => ?_⟩
  have h0 := ev_rel hsat.env c
  rw [ht] at h0
  generalize hv : a.eval c = v at h0
  cases h0
  cases t with
  | true => exact wp_cond_true hv (h.run K a w hsat)
  | false => exact wp_cond_false hv (h.run K a w hsat)
theorem WpX.condT {ds : List Deferred} {nt : Nat} {c : Operand} {x y : Code} {env : Env} {σ : Mem} {Q : Exit → Env → Mem → Prop} {R : PV → Env → Mem → Prop} (ht : ev env c = .bool true) (h : WpX P W ds nt x env σ Q R) : WpX P W ds nt (Code.cond c x y) env σ Q R := .cond ht h
theorem WpX.condF {ds : List Deferred} {nt : Nat} {c : Operand} {x y : Code} {env : Env} {σ : Mem} {Q : Exit → Env → Mem → Prop} {R : PV → Env → Mem → Prop} (ht : ev env c = .bool false) (h : WpX P W ds nt y env σ Q R) : WpX P W ds nt (Code.cond c x y) env σ Q R := .cond ht h
theorem WpX.skip {ds : List Deferred} {nt : Nat} {env : Env} {σ : Mem} {Q : Exit → Env → Mem → Prop} {R : PV → Env → Mem → Prop} (h : Q .normal env σ) : WpX P W ds nt Code.skip env σ Q R :=
  ⟨fun K a w hs => wp_skip ⟨env, σ, K, h, hs, Ext.refl _ _ _⟩⟩
theorem WpX.ret {ds : List Deferred} {nt : Nat} {env : Env} {σ : Mem} {Q : Exit → Env → Mem → Prop} {R : PV → Env → Mem → Prop} (h : Q .ret env σ) : WpX P W ds nt Code.ret env σ Q R :=
  ⟨fun K a w hs => wp_ret ⟨env, σ, K, h, hs, Ext.refl _ _ _⟩⟩
theorem WpX.exit {ds : List Deferred} {nt id : Nat} {env : Env} {σ : Mem} {Q : Exit → Env → Mem → Prop} {R : PV → Env → Mem → Prop} (h : Q (.exit id) env σ) : WpX P W ds nt (Code.exit id) env σ Q R :=
  ⟨fun K a w hs => wp_exit ⟨env, σ, K, h, hs, Ext.refl _ _ _⟩⟩
theorem WpX.block {ds : List Deferred} {nt id : Nat} {x : Code} {env : Env} {σ : Mem} {Q : Exit → Env → Mem → Prop} {R : PV → Env → Mem → Prop}
    (h : WpX P W ds nt x env σ (fun e env' σ' => match e with | .exit j => if j = id then Q .normal env' σ' else Q (.exit j) env' σ' | e => Q e env' σ') R) : WpX P W ds nt (Code.block id x) env σ Q R := by
  refine ⟨fun K a w hsat => wp_block (wp_mono (h.run K a w hsat) ?_)⟩
  intro e a' w' hq
  cases e with
  | exit j =>
    obtain ⟨env', σ', K', hq, hs', hx⟩ := hq
    simp only [Exit.inBlock]
    by_cases hj : j = id
    · rw [if_pos hj]
      simp only [if_pos hj] at hq
      exact ⟨env', σ', K', hq, hs', hx⟩
    · rw [if_neg hj]
      simp only [if_neg hj] at hq
      exact ⟨env', σ', K', hq, hs', hx⟩
  | _ => exact hq
theorem WpX.mono {ds : List Deferred} {nt : Nat} {c : Code} {env : Env} {σ : Mem} {Q Q' : Exit → Env → Mem → Prop} {R R' : PV → Env → Mem → Prop} (h : WpX P W ds nt c env σ Q R) (hq : ∀ e env' σ', Q e env' σ' → Q' e env' σ') (hr : ∀ pv env' σ', R pv env' σ' → R' pv env' σ') : WpX P W ds nt c env σ Q' R' := by
  refine ⟨fun K a w hsat => wp_mono (h.run K a w hsat) ?_⟩
  intro e a' w' hh
  cases e <;> first
    | (obtain ⟨env2, σ2, K2, v, pv, h1, h2, h3, h4, h5⟩ := hh; exact ⟨env2, σ2, K2, v, pv, h1, h2, hr _ _ _ h3, h4, h5⟩)
    | (obtain ⟨env2, σ2, K2, h1, h2, h3⟩ := hh; exact ⟨env2, σ2, K2, hq _ _ _ h1, h2, h3⟩)
/-- What is known is made less. -/
theorem WpX.weak {ds : List Deferred} {nt : Nat} {c : Code} {env env' : Env} {σ σ' : Mem} {Q : Exit → Env → Mem → Prop} {R : PV → Env → Mem → Prop} {L : List (Nat × PV)} (he : wkEnv env L) (hm : wkMem σ σ') (h : WpX P W ds nt c (mkEnv L) σ' Q R) : WpX P W ds nt c env σ Q R := by
  refine ⟨fun K a w hsat => ?_⟩
  obtain ⟨hs3, hx3⟩ := hsat.weak he hm
  exact wp_mono (h.run K a w hs3) fun e a2 w2 h2 => h2.trans hx3
/-- A loop, round by round. -/
theorem WpX.loop {ds : List Deferred} {nt : Nat} {x : Code} {Q : Exit → Env → Mem → Prop} {R : PV → Env → Mem → Prop} {α : Type} (L : α → List (Nat × PV)) (M : α → Mem) (I : α → Prop) (μ : α → Nat) {env : Env} {σ : Mem} (y0 : α) (he : wkEnv env (L y0)) (hm : wkMem σ (M y0)) (h0 : I y0)
    (round : ∀ y, I y → WpX P W ds nt x (mkEnv (L y)) (M y) (fun e env' σ' => match e with | .normal => ∃ z, I z ∧ μ z < μ y ∧ wkEnv env' (L z) ∧ wkMem σ' (M z) | e => Q e env' σ') R) : WpX P W ds nt (Code.loop x) env σ Q R := by
  refine ⟨fun K a w hsat => ?_⟩
  obtain ⟨hs3, hx3⟩ := hsat.weak he hm
  have key : ∀ (n : Nat) (y : α) (K1 : Kn) (a1 : Act) (w1 : World), μ y < n → I y → Sat ds W nt K1 (mkEnv (L y)) (M y) a1 w1 → Ext σ K w (M y) K1 w1 → Code.rounds P x (AfterX ds W nt Q R σ K w) n a1 w1 := by
    intro n
    induction n with
    | zero => intro y K1 a1 w1 h; exact absurd h (Nat.not_lt_zero _)
    | succ n ihn =>
      intro y K1 a1 w1 hy hI hs1 hx1
      rw [rounds_succ]
      refine wp_mono ((round y hI).run K1 a1 w1 hs1) ?_
      intro e a2 w2 hq
      cases e with
      | normal =>
        obtain ⟨env2, σ2, K2, ⟨z, hIz, hlt, hez, hmz⟩, hs2, hx2⟩ := hq
        obtain ⟨hs4, hx4⟩ := hs2.weak hez hmz
        exact ihn z K2 a2 w2 (by omega) hIz hs4 ((hx1.trans hx2).trans hx4)
      | panic ch => exact AfterX.trans (Q := Q) (R := R) (e := .panic ch) hx1 hq
      | exit j => exact AfterX.trans (Q := Q) (R := R) (e := .exit j) hx1 hq
      | goto j => exact AfterX.trans (Q := Q) (R := R) (e := .goto j) hx1 hq
      | ret => exact AfterX.trans (Q := Q) (R := R) (e := .ret) hx1 hq
      | outgrown => exact AfterX.trans (Q := Q) (R := R) (e := .outgrown) hx1 hq
  exact wp_loop_rounds (μ y0 + 1) (key _ y0 K a w (Nat.lt_succ_self _) h0 hs3 hx3)
/-! ### Operations of a region, up to one that panics -/
theorem vcOps_prefix {ds : List Deferred} {nt : Nat} {ops : Array Oper} {N : Env → Mem → Prop} {QX : Exit → Act → World → Prop} {rest : List Oper} {σ0 : Mem} {K0 : Kn} {w0 : World}
    (hend : ∀ env' σ' K' a' w', N env' σ' → Sat ds W nt K' env' σ' a' w' → Ext σ0 K0 w0 σ' K' w' → wpList P ops QX rest a' w') : ∀ (l : List Oper) (env : Env) (σ : Mem) (K : Kn) (a : Act) (w : World), opsOk nt l = true → vcOps P W ops N l env σ →
    Sat ds W nt K env σ a w → Ext σ0 K0 w0 σ K w → wpList P ops QX (l ++ rest) a w
  | [], env, σ, K, a, w, _, h, hs, hx => hend env σ K a w h hs hx
  | o :: r, env, σ, K, a, w, hok, h, hs, hx => by
    simp only [opsOk, List.all_cons, Bool.and_eq_true] at hok
    have ih := vcOps_prefix hend r
    refine wpList_step (rest := r ++ rest) fun C hC => ?_
    have go : opV P W o.op env σ (fun v σ' => vcOps P W ops N r (updO env o.dst v) σ') → o.wp P a w C QX := fun h' =>
      opV_sound hs.mem hs.pre (fun x _ => ev_rel hs.env x) h' fun v pv σ' K' w' hk hv hm' hx' => hC _ _ (ih _ σ' K' _ w' hok.2 hk (hs.put hok.1 hv hm' hx') (hx.trans hx'))
    simp only [vcOps] at h
    split at h
    · rename_i hg
      simp only [Region.wanted, hg, if_true]
      exact go h
    · rename_i j want hg
      have skip : vcOps P W ops N r (updO env o.dst (.tup [])) σ → C (a.put o.dst undef) w := fun h => hC _ _ (ih _ σ K _ w hok.2 h (hs.put hok.1 (.tup [] [] rfl (fun i hi => by cases hi)) hs.mem (Ext.refl _ _ _)) hx)
      have goU : needO (optOk True env (opndsG o.op)) (opV P W o.op (envG o.op env) σ (fun v σ' => vcOps P W ops N r (updO env o.dst v) σ')) → o.wp P a w C QX := fun ⟨hopt, h'⟩ =>
        opV_sound (env := envG o.op env) hs.mem hs.pre (envG_rel hs.env hopt trivial) h' fun v pv σ' K' w' hk hv hm' hx' => hC _ _ (ih _ σ' K' _ w' hok.2 hk (hs.put hok.1 hv hm' hx') (hx.trans hx'))
      split at h
      case h_2 =>
        obtain ⟨hu, h⟩ := chk_spec h
        have hy := guardU_sound hs.env hu
        simp only [Region.wanted, hg, hy]
        rw [if_neg (by simp)]; exact skip h
      rename_i x hx'
      have hy := guardW_sound hs.env hx'
      simp only [Region.wanted, hg, hy]
      replace h : GuardC (match want with
          | true => @Bool.rec (fun _ => Prop) (vcOps P W ops N r (updO env o.dst (.tup [])) σ) (needO (optOk True env (opndsG o.op)) (opV P W o.op (envG o.op env) σ fun v σ' => vcOps P W ops N r (updO env o.dst v) σ')) x
          | false => @Bool.rec (fun _ => Prop) (needO (optOk True env (opndsG o.op)) (opV P W o.op (envG o.op env) σ fun v σ' => vcOps P W ops N r (updO env o.dst v) σ')) (vcOps P W ops N r (updO env o.dst (.tup [])) σ) x)
          (∃ pv, optOk (x = want) env (opndsG o.op) ∧ (x = want → opV P W o.op (envG o.op env) σ fun v σ' => v = pv ∧ σ' = σ) ∧ vcOps P W ops N r (updO env o.dst (.opt (beqB x want) pv)) σ) := by
        cases want <;> exact h
      rcases h with h | ⟨pv, hopt, hrun, hrest⟩
      · cases want <;> cases x
        · rw [if_pos (by simp)]; exact goU h
        · rw [if_neg (by simp)]; exact skip h
        · rw [if_neg (by simp)]; exact skip h
        · rw [if_pos (by simp)]; exact goU h
      · by_cases hxw : x = want
        · rw [if_pos (by rw [hxw]; simp)]
          refine opV_sound (env := envG o.op env) hs.mem hs.pre (envG_rel hs.env hopt hxw) (hrun hxw) ?_
          rintro v pv' σ' K' w' ⟨rfl, rfl⟩ hv hm' hx'
          exact hC _ _ (ih _ σ' K' _ w' hok.2 hrest (hs.put hok.1 (.opt _ _ _ (fun _ => hv) fun h => by rw [hxw] at h; cases want <;> cases h) hm' hx') (hx.trans hx'))
        · rw [if_neg (by intro e; exact hxw (by simpa using e))]
          exact hC _ _ (ih _ σ K _ w hok.2 hrest (hs.put hok.1 (.opt _ _ _ (fun h => absurd (beqB_spec h) hxw) fun _ => rfl) hs.mem (Ext.refl _ _ _)) hx)
/-- An operation that panics: the panic itself, or a call that ends by one. -/
def panicV (P : Program) (W : World) (o : Op) (env : Env) (σ : Mem) (r : PV → Mem → Prop) : Prop :=
  match o with
  | .panic x => match ev env x with
    | .ifc t v => r (.ifc t v) σ
    | _ => False
  | .call c => match c.callee with
    | .value f => match ev env f with
      | .fn g cap => XCalls P W g (c.args.toList.map (ev env) ++ cap) σ (fun _ _ => False) r
      | _ => False
    | _ => False
  | _ => False
theorem panicV_run {o : Oper} {env : Env} {σ : Mem} {K : Kn} {a : Act} {w : World} {C : Act → World → Prop} {QX : Exit → Act → World → Prop} {r : PV → Mem → Prop} (hm : SatM K σ w) (hp : Pre W σ w) (he : ∀ x ∈ o.op.operands, VRel K w (ev env x) (a.eval x)) (h : panicV P W o.op env σ r)
    (hn : ∀ v pv σ' K' w', r pv σ' → VRel K' w' pv v → SatM K' σ' w' → Ext σ K w σ' K' w' → QX (.panic [{ v, recovered := false }]) a w') : o.wp P a w C QX := by
  obtain ⟨dst, op, type, pos, after, guard⟩ := o
  cases op <;> simp only [panicV] at h <;> simp only [Op.operands] at he <;> try (exact h.elim)
  case panic x =>
    split at h
    case h_2 => exact h.elim
    rename_i t v hv
    have h0 := he x (by simp)
    rw [hv] at h0
    generalize hu : a.eval x = u at h0
    have h1 := h0
    cases h0
    unfold Oper.wp
    have hex : (execOp a.eval ⟨dst, .panic x, type, pos, after, guard⟩).run P w = .halt (.panic (a.eval x)) w := by
      simp only [execOp, hu]
      rfl
    rw [hex, Oper.upon_panic, hu]
    exact hn _ _ σ K w h h1 hm (Ext.refl _ _ _)
  case call c =>
    split at h
    case h_2 => exact h.elim
    rename_i f hf
    split at h
    case h_2 => exact h.elim
    rename_i g cap hg
    have h0 := he f (by simp [Call.operands, hf])
    rw [hg] at h0
    have hL := args_rel (K := K) (w := w) (env := env) (a := a) c.args.toList (fun x hx => he x (by simp [Call.operands]; exact .inr (by simpa using hx)))
    generalize hv : a.eval f = v at h0
    cases h0
    rename_i us hl hr
    have hL2 := hL.append (⟨hl, hr⟩ : LRel K w cap us)
    obtain ⟨fn, hfn, hbody, hname⟩ := h.body
    have hcall := h.run K w _ hL2.1 hL2.2 hm hp
    unfold Oper.wp
    have hex : (execOp a.eval ⟨dst, .call c, type, pos, after, guard⟩).run P w = .ok (.enter g (c.args.toList.map a.eval ++ us).toArray) w := by
      have e : c.args.map a.eval ++ us.toArray = (c.args.toList.map a.eval ++ us).toArray := by apply Array.ext'; simp
      have hname' : ¬ fn.name = "runtime.NumGoroutine" := by simpa using hname
      have hbody' : ¬ fn.body = none := fun e => by rw [e] at hbody; cases hbody
      simp [execOp, resolve, hf, hv, Deferred.ofValue, invoke, callFunc, hfn, hbody', hname', e]
    rw [hex, Oper.upon_enter]
    refine hcall.mono ?_
    rintro e w' ⟨v, pv, σ', K', h1, h2, h3, h4⟩
    rcases h1 with ⟨-, h1⟩ | ⟨rfl, h1⟩
    · exact h1.elim
    · exact hn v pv σ' K' w' h1 h2 h3 h4
theorem WpX.panicAt {ds : List Deferred} {nt id : Nat} {ops : Array Oper} {env : Env} {σ : Mem} {Q : Exit → Env → Mem → Prop} {R : PV → Env → Mem → Prop} (i : Nat) (o : Oper) (ho : ops.toList[i]? = some o) (hg : o.guard = none) (hok : opsOk nt ops.toList = true)
    (h : vcOpsF P W ops (fun env' σ' => panicV P W o.op env' σ' fun pv σ2 => R pv env' σ2) (ops.toList.take i) env σ) : WpX P W ds nt (Code.region id ops false) env σ Q R := by
  rw [vcOpsF_eq] at h
  refine ⟨fun K a w hs => wp_region_list ?_⟩
  have e : ops.toList = ops.toList.take i ++ o :: ops.toList.drop (i + 1) := by
    obtain ⟨hi, ho'⟩ := List.getElem?_eq_some_iff.1 ho
    rw [← ho', ← List.drop_eq_getElem_cons hi, List.take_append_drop]
  have hok1 : opsOk nt (ops.toList.take i) = true := by
    rw [e] at hok
    unfold opsOk at hok ⊢
    rw [List.all_append, Bool.and_eq_true] at hok
    exact hok.1
  rw [e]
  refine vcOps_prefix (σ0 := σ) (K0 := K) (w0 := w) ?_ _ env σ K a w hok1 h hs (Ext.refl _ _ _)
  intro env' σ' K' a' w' hN hs' hx'
  refine wpList_step fun C hC => ?_
  simp only [Region.wanted, hg, if_true]
  refine panicV_run hs'.mem hs'.pre (fun x _ => ev_rel hs'.env x) hN ?_
  intro v pv σ2 K2 w2 hr hv hm2 hx2
  exact ⟨env', σ2, K2, v, pv, rfl, hv, hr, ⟨hm2, hs'.pre.ext hx2, hs'.sz, fun t => hx2.vrel (hs'.env t), hs'.dfs⟩, hx'.trans hx2⟩
/-! ### A drawn region: whatever comes first, the call panics -/
/-- What stands behind the call waits for it. -/
def panicHead (ops : Array Oper) (c : Nat) : Bool :=
  headOk ops ops.size && (List.range ops.size).all fun j => decide (j ≤ c) || (match ops[j]? with
    | some o => o.after.any fun e => Region.binds .any e && decide (c ≤ e.on)
    | none => false)
end Go.Eng
end

/- The engine, part 36: contracts of calls that may panic. -/
section
namespace Go.Eng
open Go
variable {P : Program} {W : World}
set_option linter.unusedSimpArgs false
set_option linter.unusedVariables false
/-- A contract out of a body; nothing is deferred. -/
theorem xcalls_of_body {f : FuncId} {fn : Func} {c : Code} {args : List PV} {σ : Mem} {k r : PV → Mem → Prop}
    (hf : P.funcs[f]? = some fn) (hb : fn.body = some c) (hn : (fn.name == "runtime.NumGoroutine") = false) (hl : Nat.ble args.length fn.ntmps = true)
    (h : WpX P W [] fn.ntmps c (nth args) σ (retPost P fn.results.toList k) (fun pv _ σ' => r pv σ')) : XCalls P W f args σ k r := by
  refine ⟨⟨fn, hf, by rw [hb]; rfl, hn⟩, fun K w vs hlen hr hm hp => ?_⟩
  have hl := Nat.le_of_ble_eq_true hl
  have hsat : Sat [] W fn.ntmps K (nth args) σ { tmps := vs.toArray ++ Array.replicate (fn.ntmps - vs.toArray.size) undef, defers := [] } w := by
    refine ⟨hm, hp, by simp; omega, fun t => ?_, rfl⟩
    rw [nth_getD]
    by_cases ht : t < args.length
    · have := hr t ht
      have e : (vs.toArray ++ Array.replicate (fn.ntmps - vs.toArray.size) undef).getD t undef = vs.getD t undef := by
        have h1 : t < vs.toArray.size := by simp; omega
        rw [Array.getD_eq_getD_getElem?, Array.getElem?_append_left h1]; simp [List.getD_eq_getElem?_getD]
      rw [e]; exact this
    · have e : args.getD t .dead = .dead := by simp [List.getD_eq_getElem?_getD, List.getElem?_eq_none (Nat.le_of_not_lt ht)]
      rw [e]; exact .dead _
  refine calls_of_wp hf hb (wp_mono (h.run K _ w hsat) ?_)
  intro e a' w' hq
  cases e with
  | panic ch =>
    obtain ⟨env', σ', K', v, pv, rfl, hv, hrr, hs', hx⟩ := hq
    exact ⟨hs'.dfs, v, pv, σ', K', .inr ⟨rfl, hrr⟩, hv, hs'.mem, hx⟩
  | normal =>
    obtain ⟨env', σ', K', hq, hs', hx⟩ := hq
    obtain ⟨pv, v, h1, h2, h3⟩ := resV_sound hs'.mem hs'.env hq
    exact ⟨hs'.dfs, v, h1, v, pv, σ', K', .inl ⟨rfl, h2⟩, h3, hs'.mem, hx⟩
  | ret =>
    obtain ⟨env', σ', K', hq, hs', hx⟩ := hq
    obtain ⟨pv, v, h1, h2, h3⟩ := resV_sound hs'.mem hs'.env hq
    exact ⟨hs'.dfs, v, h1, v, pv, σ', K', .inl ⟨rfl, h2⟩, h3, hs'.mem, hx⟩
  | exit j => obtain ⟨env', σ', K', hq, -⟩ := hq; exact hq.elim
  | goto j => obtain ⟨env', σ', K', hq, -⟩ := hq; exact hq.elim
  | outgrown => obtain ⟨env', σ', K', hq, -⟩ := hq; exact hq.elim
theorem XCalls.mono {f : FuncId} {args : List PV} {σ : Mem} {k k' r r' : PV → Mem → Prop} (h : XCalls P W f args σ k r) (hk : ∀ v σ', k v σ' → k' v σ') (hr : ∀ v σ', r v σ' → r' v σ') : XCalls P W f args σ k' r' :=
  ⟨h.body, fun K w vs hl hrr hm hp => (h.run K w vs hl hrr hm hp).mono fun _ _ ⟨v, pv, σ', K', h1, h2⟩ => ⟨v, pv, σ', K', h1.imp (fun ⟨a, b⟩ => ⟨a, hk _ _ b⟩) (fun ⟨a, b⟩ => ⟨a, hr _ _ b⟩), h2⟩⟩
theorem XCalls.frame {f : FuncId} {args : List PV} {σ : Mem} {k r : PV → Mem → Prop} (h : XCalls P W f args σ k r) (τ : Mem) : XCalls P W f args (σ ++ τ) (fun v σ' => ∃ σ1, k v σ1 ∧ σ' = σ1 ++ τ) (fun v σ' => ∃ σ1, r v σ1 ∧ σ' = σ1 ++ τ) :=
  ⟨h.body, fun K w vs hl hr hm hp => (h.run K w vs hl hr hm.left ⟨hp.size, hp.base, fun k hk => hp.own k (List.mem_append_left _ hk)⟩).mono fun _ _ ⟨v, pv, σ', K', h1, h3, h4, h5⟩ =>
    ⟨v, pv, σ' ++ τ, K', h1.imp (fun ⟨a, b⟩ => ⟨a, σ', b, rfl⟩) (fun ⟨a, b⟩ => ⟨a, σ', b, rfl⟩), h3, hm.frame h4 h5, h5.frame⟩⟩
theorem XCalls.perm {f : FuncId} {args : List PV} {σ τ : Mem} {k r : PV → Mem → Prop} (h : XCalls P W f args τ k r) (hp : σ.Perm τ) : XCalls P W f args σ k r :=
  ⟨h.body, fun K w vs hl hr hm hpr => (h.run K w vs hl hr (hm.perm hp) (hpr.perm hp)).mono fun _ _ ⟨v, pv, σ', K', h1, h3, h4, h5⟩ => ⟨v, pv, σ', K', h1, h3, h4, h5.perm hp.symm (.refl _)⟩⟩
/-- A call that panics and has done nothing that matters: what is owned besides is as it was. -/
theorem XCalls.dies {f : FuncId} {args : List PV} {σ τ ρ : Mem} {pv : PV} {k : PV → Mem → Prop} (h : XCalls P W f args τ k (fun v _ => v = pv)) (hk : ∀ v σ', ¬ k v σ') (hp : σ.Perm (τ ++ ρ)) : XCalls P W f args σ (fun _ _ => False) (fun v σ' => v = pv ∧ ∃ σ1, σ' = σ1 ++ ρ) :=
  ((h.frame ρ).perm hp).mono (fun v σ' ⟨σ1, h1, _⟩ => hk v σ1 h1) fun v σ' ⟨σ1, h1, h2⟩ => ⟨h1, σ1, h2⟩
end Go.Eng
end

/- The engine, part 37: a function whose deferred closure recovers. -/
section
namespace Go.Eng
open Go
variable {P : Program} {W : World}
set_option linter.unusedSimpArgs false
set_option linter.unusedVariables false
/-- A closure that recovers, when its frame panics with this. -/
def Rescue (P : Program) (W : World) (f : FuncId) (caps : List PV) (σ : Mem) (pv : PV) (k : Mem → Prop) : Prop :=
  ∀ (K : Kn) (w : World) (vs : List Value) (v : Value), caps.length = vs.length → (∀ i, i < caps.length → VRel K w (caps.getD i .dead) (vs.getD i undef)) → SatM K σ w → Pre W σ w → VRel K w pv v →
    CallsD P f vs.toArray (.panicking [{ v, recovered := false }]) w fun e u' w' => (∃ x, e = .returned x) ∧ u' = .panicking [{ v, recovered := true }] ∧ ∃ σ' K', k σ' ∧ SatM K' σ' w' ∧ Ext σ K w σ' K' w'
theorem sat_start {nt : Nat} {args : List PV} {σ : Mem} {K : Kn} {w : World} {vs : List Value} (hl : Nat.ble args.length nt = true) (hlen : args.length = vs.length) (hr : ∀ i, i < args.length → VRel K w (args.getD i .dead) (vs.getD i undef)) (hm : SatM K σ w) (hp : Pre W σ w) :
    Sat [] W nt K (nth args) σ { tmps := vs.toArray ++ Array.replicate (nt - vs.toArray.size) undef, defers := [] } w := by
  have hl := Nat.le_of_ble_eq_true hl
  refine ⟨hm, hp, by simp; omega, fun t => ?_, rfl⟩
  rw [nth_getD]
  by_cases ht : t < args.length
  · have := hr t ht
    have e : (vs.toArray ++ Array.replicate (nt - vs.toArray.size) undef).getD t undef = vs.getD t undef := by
      have h1 : t < vs.toArray.size := by simp; omega
      rw [Array.getD_eq_getD_getElem?, Array.getElem?_append_left h1]; simp [List.getD_eq_getElem?_getD]
    rw [e]; exact this
  · have e : args.getD t .dead = .dead := by simp [List.getD_eq_getElem?_getD, List.getElem?_eq_none (Nat.le_of_not_lt ht)]
    rw [e]; exact .dead _
theorem rescue_of {D : Array Oper → (Env → Mem → Prop) → Env → Mem → Prop} (hD : DrawOk P W D) {f : FuncId} {fn : Func} {id d6 d3 : Nat} {ty0 ty1 : TypeId} {ps0 ps1 : String} {af0 af1 : Array Edge} {rest : Code} {caps : List PV} {σ : Mem} {pv : PV} {k : Mem → Prop}
    (hf : P.funcs[f]? = some fn) (hb : fn.body = some (.seq (.region id #[⟨some d6, .call ⟨.builtin .recover, #[], #[]⟩, ty0, ps0, af0, none⟩, ⟨some d3, .assign (.tmp d6), ty1, ps1, af1, none⟩] false) rest))
    (hres : fn.results = #[]) (hl : Nat.ble caps.length fn.ntmps = true) (h6 : Nat.blt d6 fn.ntmps = true) (h3 : Nat.blt d3 fn.ntmps = true) (hs : slotsOk fn.ntmps rest = true)
    (h : vc P W D rest (fun e _ σ' => match e with | .normal => k σ' | .ret => k σ' | _ => False) (updO (updO (nth caps) (some d6) pv) (some d3) pv) σ) : Rescue P W f caps σ pv k := by
  intro K w vs v hlen hr hm hp hv
  have hsat := sat_start (nt := fn.ntmps) hl hlen hr hm hp
  refine callsD_of_wpS hf hb fun c₀ cs hu => ?_
  apply wpS_seq
  apply wpS_region
  have hs1 := hsat.put (dst := some d6) (pv := pv) (v := v) h6 hv hm (Ext.refl _ _ _)
  have hs2 := hs1.put (dst := some d3) (pv := pv) (v := v) h3 hv hm (Ext.refl _ _ _)
  generalize ha : ({ tmps := vs.toArray ++ Array.replicate (fn.ntmps - vs.toArray.size) undef, defers := [] } : Act) = a0 at *
  have hrec : recoverD (c₀ :: cs) = some (v, { c₀ with mode := .panicking [{ v, recovered := true }] } :: cs) := by simp [recoverD, hu]
  have hd6 : (a0.put (some d6) v).eval (.tmp d6) = v := by
    have hsz : d6 < a0.tmps.size := by rw [hsat.sz]; exact Nat.le_of_ble_eq_true h6
    simp [Act.put, Act.eval, Array.getD_eq_getD_getElem?, hsz]
  show wpOpsS P _ _ [0, 1] _ _ _
  unfold wpOpsS
  simp only [List.getElem?_toArray, List.getElem?_cons_zero]
  rw [if_pos (by rfl)]
  have er : (execOp a0.eval ⟨some d6, .call ⟨.builtin .recover, #[], #[]⟩, ty0, ps0, af0, none⟩).run P w = .ok .recover w := rfl
  rw [er]
  simp only [hrec]
  unfold wpOpsS
  simp only [List.getElem?_toArray, List.getElem?_cons_succ, List.getElem?_cons_zero]
  rw [if_pos (by rfl)]
  have er2 : (execOp (a0.put (some d6) v).eval ⟨some d3, .assign (.tmp d6), ty1, ps1, af1, none⟩).run P w = .ok (.value v) w := by
    show Result.ok (Next.value ((a0.put (some d6) v).eval (.tmp d6))) w = _
    rw [hd6]
  rw [er2]
  simp only [Oper.upon_value]
  unfold wpOpsS
  show rest.wpS P _ _ _ _
  refine wpS_of_wp (wp_mono (vc_sound hD rest _ _ σ K _ w hs h hs2) ?_)
  rintro e a' w' ⟨env', σ', K', hq, hs', hx⟩
  obtain ⟨pv2, v2, hrs, -, -⟩ := resV_sound (P := P) (fn := fn) (k := fun _ _ => True) hs'.mem hs'.env (by rw [hres]; exact True.intro)
  cases e <;> first | exact hq.elim | skip
  · exact ⟨hs'.dfs, _, rfl, _, hrs, ⟨_, rfl⟩, rfl, σ', K', hq, hs'.mem, hx⟩
  · exact ⟨hs'.dfs, _, rfl, _, hrs, ⟨_, rfl⟩, rfl, σ', K', hq, hs'.mem, hx⟩
theorem leaves_mono {fn : Func} {tmps : Array Value} {R R' : Ending → World → Prop} (h : ∀ e w, R e w → R' e w) : ∀ {ds : List Deferred} {u : FrameMode} {w : World}, Leaves P fn tmps R ds u w → Leaves P fn tmps R' ds u w
  | [], .returning, w, hl => by
    obtain ⟨v, h1, h2⟩ := hl
    exact ⟨v, h1, h _ _ h2⟩
  | [], .panicking chain, w, hl => h _ _ hl
  | [], .run, w, hl => hl.elim
  | d :: ds, u, w, hl => by
    obtain ⟨hu, fv, cap, f, args, ht, hi, hc⟩ := hl
    refine ⟨hu, fv, cap, f, args, ht, hi, hc.mono ?_⟩
    intro e u' w' hq
    cases e with
    | returned v => exact leaves_mono h hq
    | panicked chain => exact leaves_mono h hq
    | outgrown => exact h _ _ hq
/-- What a call gives that returns. -/
def RetR (k : PV → Mem → Prop) (σ : Mem) (K : Kn) (w : World) : Ending → World → Prop := fun e w' => ∃ v pv σ' K', e = .returned v ∧ k pv σ' ∧ VRel K' w' pv v ∧ SatM K' σ' w' ∧ Ext σ K w σ' K' w'
/-- The end of a body that may panic: what is deferred makes it return. -/
def EndX (P : Program) (W : World) (fn : Func) (k : PV → Mem → Prop) (σ : Mem) (K : Kn) (w : World) : Exit → Act → World → Prop
  | .panic chain, a', w' => Leaves P fn a'.tmps (RetR k σ K w) a'.defers (.panicking chain) w'
  | e, a', w' => EndD P W fn k σ K w e a' w'
structure WpEX (P : Program) (W : World) (fn : Func) (k : PV → Mem → Prop) (ds : List Deferred) (c : Code) (env : Env) (σ : Mem) : Prop where
  run : ∀ K a w, Sat ds W fn.ntmps K env σ a w → c.wp P (EndX P W fn k σ K w) a w
theorem RetR.trans {k : PV → Mem → Prop} {σ σ' : Mem} {K K' : Kn} {w w' : World} (hx : Ext σ K w σ' K' w') {e : Ending} {w2 : World} (h : RetR k σ' K' w' e w2) : RetR k σ K w e w2 := by
  obtain ⟨v, pv, σ2, K2, h1, h2, h3, h4, h5⟩ := h
  exact ⟨v, pv, σ2, K2, h1, h2, h3, h4, hx.trans h5⟩
theorem acalls_of_endX {f : FuncId} {fn : Func} {c : Code} {args : List PV} {σ : Mem} {k : PV → Mem → Prop}
    (hf : P.funcs[f]? = some fn) (hb : fn.body = some c) (hn : (fn.name == "runtime.NumGoroutine") = false) (hl : Nat.ble args.length fn.ntmps = true)
    (h : WpEX P W fn k [] c (nth args) σ) : ACalls P W f args σ k := by
  refine ⟨⟨fn, hf, by rw [hb]; rfl, hn⟩, fun K w vs hlen hr hm hp => ?_⟩
  have hsat := sat_start (nt := fn.ntmps) hl hlen hr hm hp
  refine calls_of_wp_defers hf hb (wp_mono (h.run K _ w hsat) ?_)
  intro e a' w' hq
  have fin : EndD P W fn k σ K w e a' w' → bodyPostD P fn (RetR k σ K w) e a' w' := by
    rintro ⟨he, hd, env', σ', K', hq, hm', hv', hx⟩
    obtain ⟨pv, v, h1, h2, h3⟩ := resV_sound hm' hv' hq
    have hR : Leaves P fn a'.tmps (RetR k σ K w) [] .returning w' := ⟨v, h1, v, pv, σ', K', rfl, h2, h3, hm', hx⟩
    have hL : Leaves P fn a'.tmps (RetR k σ K w) a'.defers .returning w' := by
      rcases hd with hd | ⟨⟨t, da⟩, hd, fv, cap, f', args', ht, hi, hc⟩
      · rw [hd]; exact hR
      · rw [hd]
        simp only at ht hi
        subst ht
        refine leaves_cons (by simp) (hi w') ((hc w').mono ?_)
        rintro e' u' w'' ⟨⟨v', rfl⟩, rfl, rfl⟩
        exact hR
    rcases he with rfl | rfl <;> exact hL
  cases e with
  | panic ch => exact hq
  | normal => exact fin hq
  | ret => exact fin hq
  | exit j => obtain ⟨h1, -⟩ := hq; rcases h1 with h1 | h1 <;> cases h1
  | goto j => obtain ⟨h1, -⟩ := hq; rcases h1 with h1 | h1 <;> cases h1
  | outgrown => obtain ⟨h1, -⟩ := hq; rcases h1 with h1 | h1 <;> cases h1
theorem WpEX.seq {D : Array Oper → (Env → Mem → Prop) → Env → Mem → Prop} (hD : DrawOk P W D) {fn : Func} {k : PV → Mem → Prop} {ds : List Deferred} {x y : Code} {env : Env} {σ : Mem} (hds : okD P ds) (hs : slotsOk fn.ntmps x = true)
    (h : vc P W D x (fun e env' σ' => match e with | .normal => WpEX P W fn k ds y env' σ' | .ret => resV P fn.results.toList env' σ' k | _ => False) env σ) : WpEX P W fn k ds (Code.seq x y) env σ := by
  refine ⟨fun K a w hsat => ?_⟩
  refine wp_seq (wp_mono (vc_sound hD x _ _ σ K _ w hs h hsat) ?_)
  rintro e a' w' ⟨env', σ', K', hq, hs', hx⟩
  cases e <;> first | exact hq.elim | skip
  · refine wp_mono (hq.run K' a' w' hs') fun e a'' w'' h' => ?_
    cases e with
    | panic ch => exact leaves_mono (fun e w => RetR.trans hx) h'
    | normal => exact (EndD.trans (e := .normal) hx h' : EndD P W fn k σ K w .normal a'' w'')
    | ret => exact (EndD.trans (e := .ret) hx h' : EndD P W fn k σ K w .ret a'' w'')
    | exit j => exact (EndD.trans (e := .exit j) hx h' : EndD P W fn k σ K w (.exit j) a'' w'')
    | goto j => exact (EndD.trans (e := .goto j) hx h' : EndD P W fn k σ K w (.goto j) a'' w'')
    | outgrown => exact (EndD.trans (e := .outgrown) hx h' : EndD P W fn k σ K w .outgrown a'' w'')
  · exact EndD.of_sat hds hs' hx hq (.inl rfl)
/-- What is deferred recovers. -/
theorem WpEX.of_x {fn : Func} {k : PV → Mem → Prop} {g : FuncId} {capv : List Value} {caps : List PV} {c : Code} {env : Env} {σ : Mem}
    (hid : Idle P { target := .fn (.func g) capv.toArray, args := #[] }) (hlen : caps.length = capv.length) (hcap : ∀ K w i, i < caps.length → VRel K w (caps.getD i .dead) (capv.getD i undef))
    (hinv : ∀ w, (invoke (.fn (.func g) capv.toArray) #[]).run P w = .ok (.enter g capv.toArray) w)
    (h : WpX P W [{ target := .fn (.func g) capv.toArray, args := #[] }] fn.ntmps c env σ (retPost P fn.results.toList k) (fun pv env' σ' => ∃ k2, Rescue P W g caps σ' pv k2 ∧ ∀ σ2, k2 σ2 → resV P fn.results.toList env' σ2 k)) : WpEX P W fn k [{ target := .fn (.func g) capv.toArray, args := #[] }] c env σ := by
  refine ⟨fun K a w hsat => wp_mono (h.run K a w hsat) ?_⟩
  intro e a' w' hq
  cases e with
  | panic ch =>
    obtain ⟨env', σ', K', v, pv, rfl, hv, ⟨k2, hres, hk2⟩, hs', hx⟩ := hq
    show Leaves P fn a'.tmps (RetR k σ K w) a'.defers _ w'
    rw [hs'.dfs]
    refine leaves_cons (by simp) (hinv w') ((hres K' w' capv v hlen (fun i hi => hcap K' w' i hi) hs'.mem hs'.pre hv).mono ?_)
    rintro e u' w'' ⟨⟨x, rfl⟩, rfl, σ2, K2, hk, hm2, hx2⟩
    obtain ⟨pv2, v2, h1, h2, h3⟩ := resV_sound (P := P) (fn := fn) hm2 (fun t => hx2.vrel (hs'.env t)) (hk2 σ2 hk)
    exact ⟨v2, h1, v2, pv2, σ2, K2, rfl, h2, h3, hm2, hx.trans hx2⟩
  | normal => obtain ⟨env', σ', K', hq, hs', hx⟩ := hq; exact EndD.of_sat (.inr ⟨_, rfl, hid⟩) hs' hx hq (.inr rfl)
  | ret => obtain ⟨env', σ', K', hq, hs', hx⟩ := hq; exact EndD.of_sat (.inr ⟨_, rfl, hid⟩) hs' hx hq (.inl rfl)
  | exit j => obtain ⟨env', σ', K', hq, -⟩ := hq; exact hq.elim
  | goto j => obtain ⟨env', σ', K', hq, -⟩ := hq; exact hq.elim
  | outgrown => obtain ⟨env', σ', K', hq, -⟩ := hq; exact hq.elim
end Go.Eng
end
