/- The engine, part 10: contracts out of bodies, and what may be done with contracts. -/
import Derived.Test.YtlfdmdhkbillpaaDoorEng9
namespace Go.Eng
open Go

variable {P : Program} {W : World}

theorem brec {F T : Prop} {c : Bool} (h : ∀ c', c = c' → @Bool.rec (fun _ => Prop) F T c') : @Bool.rec (fun _ => Prop) F T c := h c rfl

theorem brec_t {F T : Prop} {c : Bool} (h : c = true) (t : T) : @Bool.rec (fun _ => Prop) F T c := by subst h; exact t
theorem brec_f {F T : Prop} {c : Bool} (h : c = false) (t : F) : @Bool.rec (fun _ => Prop) F T c := by subst h; exact t

/-- The slots that a loop writes, and those that it leaves. -/
theorem brec_t2 {F T : Prop} {c : Bool} (h : c = true) (t : c = true → T) : @Bool.rec (fun _ => Prop) F T c := by subst h; exact t rfl
theorem brec_f2 {F T : Prop} {c : Bool} (h : c = false) (t : c = false → F) : @Bool.rec (fun _ => Prop) F T c := by subst h; exact t rfl
theorem wkEnv_append {env : Env} : ∀ {L us : List (Nat × PV)}, wkEnv env L → wkEnv env us → wkEnv env (L ++ us)
  | [], _, _, h => h
  | _ :: _, _, h, g => ⟨h.1, wkEnv_append h.2 g⟩
theorem loop_use {body : (Exit → Env → Mem → Prop) → Env → Mem → Prop} {Q : Exit → Env → Mem → Prop} {env : Env} {σ : Mem} {α : Type} (L : α → List (Nat × PV)) (us : List (Nat × PV)) (M : α → Mem) (R : α → Prop) (μ : α → Nat) (x0 : α)
    (hu : wkEnv env us) (hl : wkEnv env (L x0)) (hm : wkMem σ (M x0)) (hr : R x0)
    (hb : ∀ x, R x → body (fun e env' σ' => match e with
      | .normal => ∃ y, R y ∧ μ y < μ x ∧ wkEnv env' (L y ++ us) ∧ wkMem σ' (M y)
      | e => Q e env' σ') (mkEnv (L x ++ us)) (M x)) :
    ∃ (α : Type) (L : α → List (Nat × PV)) (M : α → Mem) (R : α → Prop) (μ : α → Nat),
      (∃ x, R x ∧ wkEnv env (L x) ∧ wkMem σ (M x)) ∧
      ∀ x, R x → body (fun e env' σ' => match e with
        | .normal => ∃ y, R y ∧ μ y < μ x ∧ wkEnv env' (L y) ∧ wkMem σ' (M y)
        | e => Q e env' σ') (mkEnv (L x)) (M x) :=
  ⟨α, fun x => L x ++ us, M, R, μ, ⟨x0, hr, wkEnv_append hl hu, hm⟩, hb⟩
theorem getMap {α : Type} {f : α → PV} {l : List α} {q : Nat} {e : PV} (h : (l.map f)[q]? = some e) : ∃ x, l[q]? = some x ∧ f x = e := by
  simpa using h
theorem at_known {α : Type} {f : α → PV} {l : List α} {q : Nat} {x : α} {k : PV → Prop} (h : l[q]? = some x) (hk : k (f x)) : Elem1 (l.map f) q k := by
  refine ⟨fun e he => ?_⟩
  obtain ⟨y, hy, rfl⟩ := getMap he
  rw [h] at hy; cases hy; exact hk
theorem drop_cons_of {α : Type} {l : List α} {q : Nat} {x : α} (h : l[q]? = some x) : l.drop q = x :: l.drop (q + 1) := by
  obtain ⟨hlt, rfl⟩ := List.getElem?_eq_some_iff.1 h
  exact List.drop_eq_getElem_cons hlt
theorem take_snoc_of {α : Type} {l : List α} {q : Nat} {x : α} (h : l[q]? = some x) : l.take (q + 1) = l.take q ++ [x] := by
  obtain ⟨hlt, rfl⟩ := List.getElem?_eq_some_iff.1 h
  exact List.take_succ_eq_append_getElem hlt
theorem lt_of_at {α : Type} {l : List α} {q : Nat} {x : α} (h : l[q]? = some x) : q < l.length := (List.getElem?_eq_some_iff.1 h).1

theorem GuardC.sp {A S : Prop} {R T : PV → Prop} (pv : PV) (h1 : S) (h2 : R pv) (h3 : T pv) : GuardC A (∃ pv, S ∧ R pv ∧ T pv) := .spec ⟨pv, h1, h2, h3⟩
theorem GuardC.t {F T B : Prop} (h : T) : GuardC (@Bool.rec (fun _ => Prop) F T true) B := .part h
theorem GuardC.f {F T B : Prop} (h : F) : GuardC (@Bool.rec (fun _ => Prop) F T false) B := .part h
def nth : List PV → Nat → PV
  | [], _ => .dead
  | x :: _, 0 => x
  | _ :: r, n + 1 => nth r n
theorem nth_getD : ∀ (l : List PV) (n : Nat), nth l n = l.getD n .dead
  | [], n => by simp [nth]
  | x :: r, 0 => rfl
  | x :: r, n + 1 => by rw [nth, nth_getD r n]; rfl

/-- What is handed back. -/
def resL (P : Program) : List ResultVar → Env → Mem → (List PV → Prop) → Prop
  | [], _, _, k => k []
  | .tmp t :: r, env, σ, k => forceV (env t) fun v => resL P r env σ fun vs => k (v :: vs)
  | .cell a t :: r, env, σ, k => loadV P t (env a) σ fun v => forceV v fun v => resL P r env σ fun vs => k (v :: vs)
def resV (P : Program) (rs : List ResultVar) (env : Env) (σ : Mem) (k : PV → Mem → Prop) : Prop :=
  resL P rs env σ fun vs => match vs with
    | [v] => k v σ
    | vs => k (.tup vs) σ
def retPost (P : Program) (rs : List ResultVar) (k : PV → Mem → Prop) : Exit → Env → Mem → Prop
  | .ret, env, σ => resV P rs env σ k
  | .normal, env, σ => resV P rs env σ k
  | _, _, _ => False

theorem asAddr_of {K : Kn} {w : World} {t : TypeId} {x : PV} {u : Value} {σ : Mem} {k : PV → Prop} (hx : VRel K w x u) (h : loadV P t x σ k) : ∃ a, u = .pointer (some a) := by
  cases hx <;> first | exact h.elim | exact ⟨_, rfl⟩

def resOne (tmps : Array Value) : ResultVar → Sem Value
  | .tmp t => pure (tmps.getD t undef)
  | .cell a t => do loadVar t (← asAddr (tmps.getD a undef))
theorem resOne_tmp (w : World) (tmps : Array Value) (t : Nat) : (resOne tmps (.tmp t)).run P w = .ok (tmps.getD t undef) w := rfl
theorem resOne_cell (w : World) (tmps : Array Value) (c : Nat) (t : TypeId) (ad : Addr) (h : tmps.getD c undef = .pointer (some ad)) : (resOne tmps (.cell c t)).run P w = (loadVar t ad).run P w := by
  show (do loadVar t (← asAddr (tmps.getD c undef)) : Sem Value).run P w = _
  rw [h]; rfl
theorem results_eq (fn : Func) (tmps : Array Value) : results fn tmps = (do let vs ← fn.results.mapM (resOne tmps); pure (if h : vs.size = 1 then vs[0] else .tuple vs)) := by
  unfold results
  congr 1
theorem resL_sound {K : Kn} {w : World} {env : Env} {σ : Mem} {a : Act} (hm : SatM K σ w) (he : ∀ t, VRel K w (env t) (a.tmps.getD t undef)) : ∀ (rs : List ResultVar) (k : List PV → Prop), resL P rs env σ k →
    ∃ vs us, k vs ∧ LRel K w vs us ∧ (rs.mapM (resOne a.tmps)).run P w = .ok us w
  | [], k, h => ⟨[], [], h, ⟨rfl, fun i hi => by simp at hi⟩, by simp⟩
  | .tmp t :: r, k, h => by
    simp only [resL, forceV_eq] at h
    obtain ⟨vs, us, h1, h2, h3⟩ := resL_sound hm he r _ h
    refine ⟨_, a.tmps.getD t undef :: us, h1, ⟨by simp [h2.1], fun i hi => ?_⟩, ?_⟩
    · cases i with
      | zero => exact he t
      | succ i => simpa using h2.2 i (by simpa using hi)
    · rw [List.mapM_cons, Sem.run_bind, resOne_tmp, Result.andThen_ok, Sem.run_bind, h3]; rfl
  | .cell c t :: r, k, h => by
    simp only [resL, forceV_eq] at h
    obtain ⟨pv, u, h1, h2, h3⟩ := loadV_sound hm (he c) h
    obtain ⟨ad, had⟩ := asAddr_of (he c) h
    obtain ⟨vs, us, h4, h5, h6⟩ := resL_sound hm he r _ h3
    refine ⟨_, u :: us, h4, ⟨by simp [h5.1], fun i hi => ?_⟩, ?_⟩
    · cases i with
      | zero => exact h2
      | succ i => simpa using h5.2 i (by simpa using hi)
    · rw [had] at h1
      simp only [Instr.loadAt, Instr.sureAddr, Sem.run_bind, Sem.run_pure, Result.andThen_ok] at h1
      rw [List.mapM_cons, Sem.run_bind, resOne_cell w _ _ _ _ had, h1, Result.andThen_ok, Sem.run_bind, h6]; rfl

theorem resV_sound {K : Kn} {w : World} {env : Env} {σ : Mem} {a : Act} {fn : Func} {k : PV → Mem → Prop} (hm : SatM K σ w) (he : ∀ t, VRel K w (env t) (a.tmps.getD t undef)) (h : resV P fn.results.toList env σ k) :
    ∃ pv v, (results fn a.tmps).run P w = .ok v w ∧ k pv σ ∧ VRel K w pv v := by
  obtain ⟨vs, us, h1, h2, h3⟩ := resL_sound (P := P) hm he fn.results.toList _ h
  have e : (results fn a.tmps).run P w = .ok (if us.length = 1 then us.getD 0 undef else .tuple us.toArray) w := by
    rw [results_eq, Sem.run_bind, Array.mapM_eq_mapM_toList, Sem.run_map, h3]
    simp only [Result.andThen_ok, Sem.run_pure]
    by_cases hl : us.length = 1
    · obtain ⟨u, rfl⟩ := List.length_eq_one_iff.1 hl
      simp
    · simp [hl]
  split at h1
  · rename_i v
    obtain ⟨u, rfl⟩ := List.length_eq_one_iff.1 (h2.1 ▸ rfl : us.length = 1)
    exact ⟨v, u, by rw [e]; simp, h1, by simpa using h2.2 0 (by simp)⟩
  · rename_i hne
    refine ⟨_, .tuple us.toArray, ?_, h1, .tup vs us h2.1 h2.2⟩
    rw [e, if_neg]
    intro hl
    obtain ⟨v, rfl⟩ := List.length_eq_one_iff.1 (h2.1.trans hl)
    exact hne v rfl

/-- A contract out of the body's condition. -/
theorem acalls_of_vc {D : Array Oper → (Env → Mem → Prop) → Env → Mem → Prop} (hD : DrawOk P W D) {f : FuncId} {fn : Func} {c : Code} {args : List PV} {σ : Mem} {k : PV → Mem → Prop}
    (hf : P.funcs[f]? = some fn) (hb : fn.body = some c) (hn : (fn.name == "runtime.NumGoroutine") = false) (hs : slotsOk fn.ntmps c = true) (hl : Nat.ble args.length fn.ntmps = true)
    (h : vc P W D c (retPost P fn.results.toList k) (nth args) σ) : ACalls P W f args σ k := by
  refine ⟨⟨fn, hf, by rw [hb]; rfl, hn⟩, fun K w vs hlen hr hm hp => ?_⟩
  have hl := Nat.le_of_ble_eq_true hl
  have hsat : Sat W fn.ntmps K (nth args) σ { tmps := vs.toArray ++ Array.replicate (fn.ntmps - vs.toArray.size) undef, defers := [] } w := by
    refine ⟨hm, hp, by simp; omega, fun t => ?_, rfl⟩
    rw [nth_getD]
    by_cases ht : t < args.length
    · have := hr t ht
      have e : (vs.toArray ++ Array.replicate (fn.ntmps - vs.toArray.size) undef).getD t undef = vs.getD t undef := by
        have h1 : t < vs.toArray.size := by simp; omega
        rw [Array.getD_eq_getD_getElem?, Array.getElem?_append_left h1]; simp [List.getD_eq_getElem?_getD]
      rw [e]; exact this
    · have e : args.getD t .dead = .dead := by simp [List.getD_eq_getElem?_getD, List.getElem?_eq_none (Nat.le_of_not_lt ht)]
      rw [e]; exact .dead _
  refine calls_of_wp hf hb (wp_mono (vc_sound hD c _ _ σ K _ w hs h hsat) ?_)
  rintro e a' w' ⟨env', σ', K', hq, hs', hx⟩
  cases e <;> first | exact hq.elim | skip
  all_goals
    obtain ⟨pv, v, h1, h2, h3⟩ := resV_sound hs'.mem hs'.env hq
    exact ⟨hs'.dfs, v, h1, v, pv, σ', K', rfl, h2, h3, hs'.mem, hx⟩

theorem ACalls.mono {f : FuncId} {args : List PV} {σ : Mem} {k k' : PV → Mem → Prop} (h : ACalls P W f args σ k) (hk : ∀ v σ', k v σ' → k' v σ') : ACalls P W f args σ k' :=
  ⟨h.body, fun K w vs hl hr hm hp => (h.run K w vs hl hr hm hp).mono fun _ _ ⟨v, pv, σ', K', h1, h2, h3⟩ => ⟨v, pv, σ', K', h1, hk _ _ h2, h3⟩⟩
theorem Pre.perm {σ τ : Mem} {w : World} (h : Pre W σ w) (hp : σ.Perm τ) : Pre W τ w := ⟨h.size, h.base, fun k hk => h.own k (hp.mem_iff.2 hk)⟩
theorem ACalls.perm {f : FuncId} {args : List PV} {σ τ : Mem} {k : PV → Mem → Prop} (h : ACalls P W f args σ k) (hp : τ.Perm σ) : ACalls P W f args τ k :=
  ⟨h.body, fun K w vs hl hr hm hpre => (h.run K w vs hl hr (hm.perm hp) (hpre.perm hp)).mono fun _ _ ⟨v, pv, σ', K', h1, h2, h3, h4, h5⟩ => ⟨v, pv, σ', K', h1, h2, h3, h4, h5.perm hp.symm (.refl _)⟩⟩
/-- What a call isn't given stays as it is. -/
theorem ACalls.frame {f : FuncId} {args : List PV} {σ : Mem} {k : PV → Mem → Prop} (h : ACalls P W f args σ k) (τ : Mem) : ACalls P W f args (σ ++ τ) fun v σ' => ∃ σ1, k v σ1 ∧ σ' = σ1 ++ τ :=
  ⟨h.body, fun K w vs hl hr hm hp => (h.run K w vs hl hr hm.left ⟨hp.size, hp.base, fun k hk => hp.own k (List.mem_append_left _ hk)⟩).mono fun _ _ ⟨v, pv, σ', K', h1, h2, h3, h4, h5⟩ =>
    ⟨v, pv, σ' ++ τ, K', h1, ⟨σ', h2, rfl⟩, h3, hm.frame h4 h5, h5.frame⟩⟩

/-- The call returns this, whatever else is owned; nothing that was there is changed. -/
structure Pure (P : Program) (W : World) (f : FuncId) (args : List PV) (r : PV) : Prop where
  calls : ACalls P W f args [] fun v _ => v = r
theorem Pure.use {f : FuncId} {args : List PV} {r : PV} {σ : Mem} {k : PV → Mem → Prop} (h : Pure P W f args r) (hk : k r σ) : ACalls P W f args σ k := by
  have h1 := h.calls.frame σ
  refine ⟨h1.body, fun K w vs hl hr hm hp => (h1.run K w vs hl hr hm hp).mono ?_⟩
  rintro e w' ⟨v, pv, σ', K', h2, ⟨σ1, rfl, rfl⟩, h4, h5, h6⟩
  have hs : σ.Sublist (σ1 ++ σ) := List.sublist_append_right _ _
  exact ⟨v, _, σ, K', h2, hk, h4, h5.drop hs, h6.trans (Ext.drop hs)⟩

/-- What is owned, read out. -/
inductive Frz (σ : Mem) : PV → PV → Prop
  | refl (p : PV) : Frz σ p p
  | nils (sz : Nat) : Frz σ .nils (.sl sz [])
  | rsl (b sz i n : Nat) (es es' : List PV) (fz : Nat) (r : Mem) (hl : Look σ b (.row sz es fz) r) (hi : i + n ≤ es.length) (hn : es'.length = n)
      (h : ∀ j, j < n → Frz σ (es.getD (i + j) .dead) (es'.getD j .dead)) : Frz σ (.rsl b sz i n) (.sl sz es')
  | agg (cs cs' : List PV) (hl : cs.length = cs'.length) (h : ∀ j, j < cs.length → Frz σ (cs.getD j .dead) (cs'.getD j .dead)) : Frz σ (.agg cs) (.agg cs')
  | tup (cs cs' : List PV) (hl : cs.length = cs'.length) (h : ∀ j, j < cs.length → Frz σ (cs.getD j .dead) (cs'.getD j .dead)) : Frz σ (.tup cs) (.tup cs')

theorem Frz.of_eq {σ : Mem} {v r : PV} (h : v = r) : Frz σ v r := h ▸ .refl _
/-- The cells of all rows that are owned. -/
def allK (K : Kn) (σ : Mem) : Kn := fun b o => K b o ∨ ∃ sz es fz, ⟨b, .row sz es fz⟩ ∈ σ ∧ o < es.length * sz
theorem allK_mono {K : Kn} {σ : Mem} {w : World} {p : PV} {v : Value} (h : VRel K w p v) : VRel (allK K σ) w p v :=
  h.mono (fun _ _ h => ⟨.inl h, rfl⟩) (fun _ _ h => h)

theorem frz_sound {K : Kn} {σ : Mem} {w : World} (hm : SatM K σ w) {p p' : PV} (h : Frz σ p p') : ∀ v, VRel K w p v → VRel (allK K σ) w p' v := by
  induction h with
  | refl p => exact fun v hv => allK_mono hv
  | nils sz => intro v hv; cases hv; exact .sl0 _ _ _
  | agg cs cs' hl _ ih =>
    intro v hv
    cases hv
    rename_i vs hl' hr
    exact .agg _ _ (hl ▸ hl') (fun i hi => ih i (hl ▸ hi) _ (hr i (hl ▸ hi)))
  | tup cs cs' hl _ ih =>
    intro v hv
    cases hv
    rename_i vs hl' hr
    exact .tup _ _ (hl ▸ hl') (fun i hi => ih i (hl ▸ hi) _ (hr i (hl ▸ hi)))
  | rsl b sz i n es es' fz r hl hi hn hel ih =>
    intro v hv
    obtain ⟨o, cap, rfl, ho, hc⟩ : ∃ o cap, v = .slice (some ⟨b, o, none⟩) n cap ∧ (n ≠ 0 ∨ i = 0 → o = i * sz) ∧ n ≤ cap := by
      cases hv with
      | rsl _ _ _ _ o cap ho hc hs => exact ⟨o, cap, rfl, ho, hc⟩
    have hro : RowOk K w b sz es fz := hm.blk _ hl.mem
    obtain ⟨cs, ty, g1, g2, g3⟩ := hro.cells
    by_cases hn0 : n = 0
    · subst hn0
      obtain rfl : es' = [] := List.eq_nil_of_length_eq_zero hn
      exact .sl0 _ _ _
    · have ho' := ho (.inl hn0)
      subst ho'
      -- each element, read out
      have hflat : ∀ j, j < n → (es'.getD j .dead).flat.length = sz ∧ ∀ m, m < sz → VRel (allK K σ) w ((es'.getD j .dead).flat.getD m .dead) (cs.getD ((i + j) * sz + m) undef) := by
        intro j hj
        have hf := hro.flat (show i + j < es.length by omega)
        have hc := fun m hm => g3 (i + j) m (by omega) hm
        have h1 := hel j hj
        have ihj := ih j hj
        generalize es.getD (i + j) .dead = e at hf hc h1 ihj
        generalize es'.getD j .dead = e' at h1 ihj ⊢
        -- one cell, or a struct
        by_cases hag : ∃ cs', e = .agg cs'
        · obtain ⟨l, rfl⟩ := hag
          have hlen : l.length = sz := hf
          have hcells : LRel K w l ((List.range sz).map fun m => cs.getD ((i + j) * sz + m) undef) := ⟨by simp [hlen], fun m hm => by
            have := hc m (by omega)
            simpa [List.getD_eq_getElem?_getD, show m < sz by omega, PV.flat] using this⟩
          have h2 := ihj _ (.agg l _ hcells.1 hcells.2)
          cases h2 with
          | agg l' _ hl2 hr2 =>
            have hl3 : l'.length = sz := by rw [hl2]; simp
            refine ⟨hl3, fun m hm => ?_⟩
            have := hr2 m (by omega)
            simpa [List.getD_eq_getElem?_getD, hm, PV.flat] using this
          | _ => cases h1
        · have hfe : e.flat = [e] := by cases e <;> first | rfl | exact absurd ⟨_, rfl⟩ hag
          rw [hfe] at hf hc
          simp only [List.length_cons, List.length_nil] at hf
          subst hf
          have h0 := hc 0 (by omega)
          simp only [List.getD_cons_zero, Nat.add_zero] at h0
          have h2 := ihj _ h0
          have hfe' : e'.flat = [e'] := by
            cases h1 with
            | refl => exact hfe
            | agg => exact absurd ⟨_, rfl⟩ hag
            | _ => rfl
          rw [hfe']
          refine ⟨rfl, fun m hm => ?_⟩
          obtain rfl : m = 0 := by omega
          simpa using h2
      have := VRel.sl (K := allK K σ) (w := w) sz es' b (i * sz) cap (by omega) (fun a j => cs.getD ((i + a) * sz + j) undef)
        (fun e he => by
          obtain ⟨j, hj, rfl⟩ := List.getElem_of_mem he
          have := (hflat j (by omega)).1
          simpa [List.getD_eq_getElem?_getD, hj] using this)
        (fun a j ha hj => by
          rw [hn] at ha
          have hb : (i + a + 1) * sz ≤ es.length * sz := Nat.mul_le_mul_right _ (by omega)
          rw [Nat.add_mul, Nat.add_mul] at hb
          rw [Nat.add_mul]
          have hlt : i * sz + a * sz + j < cs.size := by omega
          exact ⟨.inr ⟨sz, es, fz, hl.mem, by omega⟩, by simp [World.cell?, g1, hlt, Array.getD]⟩)
        (fun a j ha hj => (hflat a (by omega)).2 j hj)
      rw [hn] at this
      exact this

theorem allK_sat {K : Kn} {σ : Mem} {w : World} (hm : SatM K σ w) : SatM (allK K σ) [] w :=
  ⟨fun b o h => by
    rcases h with h | ⟨sz, es, fz, h, _⟩
    · exact hm.kin b o h
    · exact (hm.blk _ h).lt, by simp, fun k hk => by cases hk⟩
theorem allK_ext {K : Kn} {σ : Mem} {w : World} : Ext σ K w [] (allK K σ) w :=
  ⟨rfl, rfl, rfl, Nat.le_refl _, fun _ _ h => h, fun _ _ _ => rfl, fun _ _ h => ⟨.inl h, rfl⟩, (fun k hk => nomatch hk), (fun b o h => by
    rcases h with h | ⟨sz, es, fz, h, _⟩
    · exact .inl h
    · exact .inr (.inl ⟨_, h, rfl⟩))⟩

/-- A function that returns what it made. -/
theorem Pure.of {f : FuncId} {args : List PV} {r : PV} (h : ACalls P W f args [] fun v σ => Frz σ v r) : Pure P W f args r := by
  refine ⟨h.body, fun K w vs hl hr hm hp => (h.run K w vs hl hr hm hp).mono ?_⟩
  rintro e w' ⟨v, pv, σ', K', h2, h3, h4, h5, h6⟩
  exact ⟨v, r, [], _, h2, rfl, frz_sound h5 h3 v h4, allK_sat h5, h6.trans allK_ext⟩

/-- A call that reads what is owned and returns a number, a bool or a string. -/
theorem Pure.borrow {f : FuncId} {args args' : List PV} {r : PV} {σ : Mem} {k : PV → Mem → Prop} (h : Pure P W f args' r) (hp : isPlain r = true) (hl : args.length = args'.length)
    (ha : ∀ i, i < args.length → Frz σ (args.getD i .dead) (args'.getD i .dead)) (hk : k r σ) : ACalls P W f args σ k := by
  refine ⟨h.calls.body, fun K w vs hlen hr hm hpre => ?_⟩
  have hrel : ∀ i, i < args'.length → VRel (allK K σ) w (args'.getD i .dead) (vs.getD i undef) := fun i hi => frz_sound hm (ha i (by omega)) _ (hr i (by omega))
  refine (h.calls.run _ w vs (hl ▸ hlen) hrel (allK_sat hm) ⟨hpre.size, hpre.base, fun k hk => by cases hk⟩).mono ?_
  rintro e w' ⟨v, pv, σ', K', h2, rfl, h4, h5, h6⟩
  have hplain : VRel K w' pv v := by
    cases h4 <;> first | exact .bool _ | exact .int _ _ | exact .str _ | cases hp
  have hkn : ∀ b o, K b o → K b o ∧ w'.cell? ⟨b, o, none⟩ = w.cell? ⟨b, o, none⟩ := fun b o hb => ⟨hb, (h6.kn b o (.inl hb)).2⟩
  refine ⟨v, pv, σ, K, h2, hk, hplain, ⟨fun b o hb => Nat.lt_of_lt_of_le (hm.kin b o hb) h6.size, hm.nodup, fun k hk => ?_⟩, ?_⟩
  · exact (hm.blk k hk).move (h6.keep k.b (hm.blk k hk).lt (fun k0 h0 => by cases h0)) (fun _ h => h) hkn h6.shape
  · exact ⟨h6.os, h6.tape, h6.output, h6.size, h6.shape, fun b hb _ => h6.keep b hb (fun k0 h0 => by cases h0), hkn, fun k hk => .inl ⟨k, hk, rfl⟩, fun _ _ h => .inl h⟩
end Go.Eng
