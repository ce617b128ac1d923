/- Texts put together: Eng30. -/
import Derived.Test.YtkenlcaifhffoaaDoorME9
/- The engine, part 30: a head with operations that change memory, of which two may come in either order: a tree of orders. -/
section
namespace Go.Eng
open Go

variable {P : Program} {W : World} {ds : List Deferred}

inductive Tr where
  | fin
  | one (g : Nat) (ms : List Md) (t : Tr)
  | two (g : Nat) (ms : List Md) (t : Tr) (g' : Nat) (ms' : List Md) (t' : Tr)
def Tr.pend : Tr → List Nat
  | .fin => []
  | .one g _ t => g :: t.pend
  | .two g _ t _ _ _ => g :: t.pend
def Tr.cands : Tr → List Nat
  | .fin => []
  | .one g _ _ => [g]
  | .two g _ _ g' _ _ => [g, g']
def inB' (l : List Nat) (i : Nat) : Bool := l.any fun g => Nat.beq i g
theorem inB'_iff {l : List Nat} {i : Nat} : inB' l i = true ↔ i ∈ l := by
  unfold inB'
  rw [List.any_eq_true]
  constructor
  · rintro ⟨g, h1, h2⟩
    rw [Nat.eq_of_beq_eq_true h2]; exact h1
  · exact fun h => ⟨i, h, Nat.beq_refl i⟩
def mdT (ops : Array Oper) (n : Nat) (H : List Nat) (T U : List Nat) (i : Nat) (md : Md) : Bool :=
  match md with
  | .keep => H.any fun g => Nat.beq i g || ancB ops n g i
  | .skip => U.any fun g => ancB ops n i g
  | .new => match H with
    | [] => true
    | g :: _ => ancB ops n i g
  | .again => !H.isEmpty
  | .turn => inB' T i
def stageT (ops : Array Oper) (n : Nat) (H : List Nat) (ms : List Md) (T U : List Nat) : Bool :=
  Nat.beq ms.length n && ((List.range n).all fun i => mdT ops n H T U i (ms.getD i .skip)) && (T.all fun g => decide (g < n) && inB' U g) && (U.all fun g => inB' T g || U.any fun x => ancB ops n g x)
def transT (g : Nat) (U U' : List Nat) : Bool := U'.all fun x => inB' U x && !Nat.beq x g
def okT (ops : Array Oper) (n : Nat) : Tr → List Nat → List Md → Bool
  | .fin, H, ms => stageT ops n H ms [] []
  | .one g ms' t, H, ms => stageT ops n H ms [g] (g :: t.pend) && transT g (g :: t.pend) t.pend && okT ops n t (g :: H) ms'
  | .two g m1 t1 g' m2 t2, H, ms => stageT ops n H ms [g, g'] (g :: t1.pend) && transT g (g :: t1.pend) t1.pend && transT g' (g :: t1.pend) t2.pend && okT ops n t1 (g :: H) m1 && okT ops n t2 (g' :: H) m2
theorem okT_stage {ops : Array Oper} {n : Nat} {t : Tr} {H : List Nat} {ms : List Md} (h : okT ops n t H ms = true) : stageT ops n H ms t.cands t.pend = true := by
  cases t with
  | fin => exact h
  | one g ms' t =>
    have h : (stageT ops n H ms [g] (g :: t.pend) && transT g (g :: t.pend) t.pend && okT ops n t (g :: H) ms') = true := h
    simp only [Bool.and_eq_true] at h
    exact h.1.1
  | two g m1 t1 g' m2 t2 =>
    have h : (stageT ops n H ms [g, g'] (g :: t1.pend) && transT g (g :: t1.pend) t1.pend && transT g' (g :: t1.pend) t2.pend && okT ops n t1 (g :: H) m1 && okT ops n t2 (g' :: H) m2) = true := h
    simp only [Bool.and_eq_true] at h
    exact h.1.1.1.1
def turnV (P : Program) (W : World) (ops : Array Oper) (env : Env) (g : Nat) (vs : List PV) (σ : Mem) (k : PV → Mem → Prop) : Prop :=
  match ops[g]? with
  | some o => askV ops (envAt env (ops.toList.take g) (vs.take g)) o.guard (opV P W o.op (envAt env (ops.toList.take g) (vs.take g)) σ k)
  | none => False
def treeV (P : Program) (W : World) (ops : Array Oper) (Q : Env → Mem → Prop) (n : Nat) (env : Env) : Tr → List Md → List PV → Mem → Prop
  | .fin, ms, vs0, σ => stageV P W ops σ (ops.toList.take n) ms vs0 (fun _ _ env' => vcOps P W ops Q (ops.toList.drop n) env' σ) env env
  | .one g ms' t, ms, vs0, σ => stageV P W ops σ (ops.toList.take n) ms vs0 (fun vs _ _ => turnV P W ops env g vs σ fun v σ' => treeV P W ops Q n env t ms' (vs.set g v) σ') env env
  | .two g m1 t1 g' m2 t2, ms, vs0, σ => stageV P W ops σ (ops.toList.take n) ms vs0 (fun vs _ _ => turnV P W ops env g vs σ (fun v σ' => treeV P W ops Q n env t1 m1 (vs.set g v) σ') ∧ turnV P W ops env g' vs σ (fun v σ' => treeV P W ops Q n env t2 m2 (vs.set g' v) σ')) env env
def envT (l : List Oper) : List PV → Env → (Env → Prop) → Prop :=
  @List.rec Oper (fun _ => List PV → Env → (Env → Prop) → Prop) (fun _ env k => k env) (fun o _ ih vs env k => match vs with
    | [] => k env
    | v :: vs => putF env o.dst v fun env' => ih vs env' k) l
theorem envT_eq : ∀ (l : List Oper) (vs : List PV) (env : Env) (k : Env → Prop), envT l vs env k = k (envAt env l vs)
  | [], vs, env, k => by cases vs <;> rfl
  | o :: r, [], env, k => rfl
  | o :: r, v :: vs, env, k => by
    show (putF env o.dst v fun env' => envT r vs env' k) = _
    rw [putF_eq, envT_eq r]; rfl
def turnF (P : Program) (W : World) (ops : Array Oper) (env : Env) (g : Nat) (vs : List PV) (σ : Mem) (k : PV → Mem → Prop) : Prop :=
  match ops[g]? with
  | some o => envT (ops.toList.take g) (vs.take g) env fun eg => askV ops eg o.guard (opF P W o.op eg σ k)
  | none => False
theorem turnF_eq (P : Program) (W : World) (ops : Array Oper) (env : Env) (g : Nat) (vs : List PV) (σ : Mem) (k : PV → Mem → Prop) : turnF P W ops env g vs σ k = turnV P W ops env g vs σ k := by
  unfold turnF turnV
  split
  · rw [envT_eq, opF_eq]
  · rfl
def treeF (P : Program) (W : World) (ops : Array Oper) (Q : Env → Mem → Prop) (n : Nat) (env : Env) (t : Tr) : List Md → List PV → Mem → Prop :=
  @Tr.rec (fun _ => List Md → List PV → Mem → Prop)
    (fun ms vs0 σ => stageF P W ops σ (ops.toList.take n) ms vs0 (fun _ _ env' => vcOpsF P W ops Q (ops.toList.drop n) env' σ) env env)
    (fun g ms' _ ih ms vs0 σ => stageF P W ops σ (ops.toList.take n) ms vs0 (fun vs _ _ => turnF P W ops env g vs σ fun v σ' => forceV v fun v => ih ms' (vs.set g v) σ') env env)
    (fun g m1 _ g' m2 _ ih1 ih2 ms vs0 σ => stageF P W ops σ (ops.toList.take n) ms vs0 (fun vs _ _ => turnF P W ops env g vs σ (fun v σ' => forceV v fun v => ih1 m1 (vs.set g v) σ') ∧ turnF P W ops env g' vs σ (fun v σ' => forceV v fun v => ih2 m2 (vs.set g' v) σ')) env env) t
theorem treeF_eq (P : Program) (W : World) (ops : Array Oper) (Q : Env → Mem → Prop) (n : Nat) (env : Env) (t : Tr) : ∀ (ms : List Md) (vs0 : List PV) (σ : Mem), treeF P W ops Q n env t ms vs0 σ = treeV P W ops Q n env t ms vs0 σ := by
  induction t with
  | fin =>
    intro ms vs0 σ
    show stageF P W ops σ (ops.toList.take n) ms vs0 _ env env = _
    rw [stageF_eq]
    simp only [vcOpsF_eq]; rfl
  | one g ms' t ih =>
    intro ms vs0 σ
    show stageF P W ops σ (ops.toList.take n) ms vs0 (fun vs _ _ => turnF P W ops env g vs σ fun v σ' => forceV v fun v => treeF P W ops Q n env t ms' (vs.set g v) σ') env env = _
    rw [stageF_eq]
    simp only [turnF_eq, forceV_eq, ih]; rfl
  | two g m1 t1 g' m2 t2 ih1 ih2 =>
    intro ms vs0 σ
    show stageF P W ops σ (ops.toList.take n) ms vs0 (fun vs _ _ => turnF P W ops env g vs σ (fun v σ' => forceV v fun v => treeF P W ops Q n env t1 m1 (vs.set g v) σ') ∧ turnF P W ops env g' vs σ (fun v σ' => forceV v fun v => treeF P W ops Q n env t2 m2 (vs.set g' v) σ')) env env = _
    rw [stageF_eq]
    simp only [turnF_eq, forceV_eq, ih1, ih2]; rfl
abbrev Goes (ds : List Deferred) (P : Program) (W : World) (ops : Array Oper) (n nt : Nat) (env : Env) (σ : Mem) (K0 : Kn) (w0 : World) (Q : Exit → Env → Mem → Prop) (H U : List Nat) (ms : List Md) (vs0 : List PV) (σc : Mem) : Prop :=
  ∀ (listed : Array Bool) (K1 : Kn) (w1 : World) (K : Kn) (a : Act) (w : World), HInv ds W nt ops n env vs0 σc K1 w1 listed K a w → Ext σ K0 w0 σc K1 w1 → (∀ g ∈ H, listed.getD g false = true) → (∀ g ∈ U, listed.getD g false = false) →
    (∀ i, i < n → ms[i]? = some .keep → listed.getD i false = true) → (∀ i, i < n → listed.getD i false = true → ms[i]? = some .keep ∨ ms[i]? = some .again) →
    wpAny P .any ops (After ds W nt Q σ K0 w0) (left listed n + (ops.size - n)) listed a w
theorem tree_fin {nt : Nat} {ops : Array Oper} {n : Nat} {env : Env} {σ : Mem} {K0 : Kn} {w0 : World} {Q : Exit → Env → Mem → Prop} (hf : HeadFacts ops n) (hok : opsOk nt ops.toList = true) {H : List Nat} {ms : List Md} {vs0 : List PV} {σc : Mem}
    (hs : stageT ops n H ms [] [] = true) (hv : stageV P W ops σc (ops.toList.take n) ms vs0 (fun _ _ env' => vcOps P W ops (Q .normal) (ops.toList.drop n) env' σc) env env) : Goes ds P W ops n nt env σ K0 w0 Q H [] ms vs0 σc := by
  have hopl : ∀ k : Nat, ops.toList[k]? = ops[k]? := fun k => by simp
  have hle := hf.le
  intro listed K1 w1 K a w h hx hHl hun hkp hls
  obtain ⟨vs, eg, hl, hend, hst, -, -⟩ := stageV_cert _ _ _ _ _ _ hv
  have hvs : vs.length = n := by rw [hl]; simp; omega
  unfold stageT at hs
  simp only [Bool.and_eq_true, List.all_eq_true, List.mem_range] at hs
  obtain ⟨⟨⟨hlen, hmd⟩, -⟩, -⟩ := hs
  have hlen' := Nat.eq_of_beq_eq_true hlen
  have hat : ∀ i, i < n → ms[i]? = some (ms.getD i .skip) := fun i hi => by
    rw [List.getD_eq_getElem?_getD, List.getElem?_eq_getElem (by omega)]; rfl
  have hop : ∀ i o, i < n → ops[i]? = some o → (ops.toList.take n)[i]? = some o := fun i o hi ho => by rw [List.getElem?_take, if_pos hi, hopl]; exact ho
  have h' : HInv ds W nt ops n env vs σc K1 w1 listed K a w := h.revs fun j hj hjl => by
    have ho : ops[j]? = some ops[j] := Array.getElem?_eq_getElem (by omega)
    rcases hls j hj hjl with e | e
    · exact (hst j _ _ (hop j _ hj ho) e).1 (.inl rfl)
    · exact (hst j _ _ (hop j _ hj ho) e).1 (.inr rfl)
  refine late_run (L := fun j => listed.getD j false = false) hf hvs hok hx hend (fun i o hi hil ho => ⟨σc, [], by simp, ?_⟩) _ listed K a w h' (fun _ _ h => h) rfl
  have hm := hmd i hi
  have hati := hat i hi
  generalize ms.getD i .skip = md at hm hati
  have h2 := (hst i o md (hop i o hi ho) hati).2
  have hcert : RanAt P W ops σc o (envAt env ((ops.toList.take n).take i) (vs.take i)) (vs.getD i .dead) := by
    cases md with
    | keep => rw [hkp i hi hati] at hil; cases hil
    | skip => simp [mdT] at hm
    | new => exact h2 (.inl rfl)
    | again => exact h2 (.inr rfl)
    | turn => simp [mdT, inB'] at hm
  rw [List.take_take, show min i n = i by omega] at hcert
  exact hcert
theorem tree_step {nt : Nat} {ops : Array Oper} {n : Nat} {env : Env} {σ : Mem} {K0 : Kn} {w0 : World} {Q : Exit → Env → Mem → Prop} (hf : HeadFacts ops n) (hok : opsOk nt ops.toList = true) {H : List Nat} {ms : List Md} {vs0 : List PV} {σc : Mem} {T U : List Nat} (hT0 : T ≠ [])
    (hs : stageT ops n H ms T U = true) {C : List PV → Prop} (hv : stageV P W ops σc (ops.toList.take n) ms vs0 (fun vs _ _ => C vs) env env)
    (hC : ∀ vs, C vs → ∀ g ∈ T, ∃ (k : PV → Mem → Prop) (ms' : List Md) (t : Tr), turnV P W ops env g vs σc k ∧ transT g U t.pend = true ∧ stageT ops n (g :: H) ms' t.cands t.pend = true ∧ ∀ v σ', k v σ' → Goes ds P W ops n nt env σ K0 w0 Q (g :: H) t.pend ms' (vs.set g v) σ') : Goes ds P W ops n nt env σ K0 w0 Q H U ms vs0 σc := by
  have hopl : ∀ k : Nat, ops.toList[k]? = ops[k]? := fun k => by simp
  have hle := hf.le
  intro listed K1 w1 K a w h hx hHl hun hkp hls
  obtain ⟨vs, eg, hl, hend, hst, -, -⟩ := stageV_cert _ _ _ _ _ _ hv
  have hvs : vs.length = n := by rw [hl]; simp; omega
  unfold stageT at hs
  simp only [Bool.and_eq_true, List.all_eq_true, List.mem_range, decide_eq_true_eq, Bool.or_eq_true, inB'_iff] at hs
  obtain ⟨⟨⟨hlen, hmd⟩, hTn⟩, hUT⟩ := hs
  have hlen' := Nat.eq_of_beq_eq_true hlen
  have hat : ∀ i, i < n → ms[i]? = some (ms.getD i .skip) := fun i hi => by
    rw [List.getD_eq_getElem?_getD, List.getElem?_eq_getElem (by omega)]; rfl
  have hop : ∀ i o, i < n → ops[i]? = some o → (ops.toList.take n)[i]? = some o := fun i o hi ho => by rw [List.getElem?_take, if_pos hi, hopl]; exact ho
  have h' : HInv ds W nt ops n env vs σc K1 w1 listed K a w := h.revs fun j hj hjl => by
    have ho : ops[j]? = some ops[j] := Array.getElem?_eq_getElem (by omega)
    rcases hls j hj hjl with e | e
    · exact (hst j _ _ (hop j _ hj ho) e).1 (.inl rfl)
    · exact (hst j _ _ (hop j _ hj ho) e).1 (.inr rfl)
  clear h hls
  have hC' := hC vs hend
  have key : ∀ (c : Nat) (listed : Array Bool) (K : Kn) (a : Act) (w : World), HInv ds W nt ops n env vs σc K1 w1 listed K a w → (∀ x ∈ H, listed.getD x false = true) → (∀ x ∈ U, listed.getD x false = false) → (∀ i, i < n → ms[i]? = some .keep → listed.getD i false = true) →
      left listed n = c → wpAny P .any ops (After ds W nt Q σ K0 w0) (c + (ops.size - n)) listed a w := by
    intro c
    induction c with
    | zero =>
      intro listed K a w h hHl hun hkp hl
      obtain ⟨g, hg⟩ := List.exists_mem_of_ne_nil T hT0
      have h1 := left_zero hl g (hTn g hg).1
      rw [hun g (hTn g hg).2] at h1; cases h1
    | succ c ihc =>
      intro listed K a w h hHl hun hkp hl
      obtain ⟨hne, hnx⟩ := h.next hf hl
      rw [show c + 1 + (ops.size - n) = (c + (ops.size - n)) + 1 by omega]
      refine ⟨fun h0 => absurd h0 hne, fun i hi => ?_⟩
      obtain ⟨hin, hlm⟩ := hnx i hi
      obtain ⟨hur, o, ho, _⟩ := mem_ready.1 hi
      have hiu := getD_both hur
      have hlti : i < listed.size := by rw [h.head.size]; exact (Array.getElem?_eq_some_iff.1 ho).1
      have hseti : (listed.setIfInBounds i true).getD i false = true := by simp [Array.getD, hlti]
      have hua : ∀ x ∈ U, ancB ops n i x = true → False := fun x hx ha => by
        have := anc_done h.head hi _ _ ha
        rw [hun x hx] at this; cases this
      by_cases him : i ∈ T
      · obtain ⟨k, ms', t, htv, htr, hso, hk⟩ := hC' i him
        unfold turnV at htv
        rw [ho] at htv
        dsimp only at htv
        obtain ⟨hgg, htv⟩ := askV_spec htv
        have hopnd := h.opnds hf hvs hi hin ho
        unfold wpOp
        simp only [ho]
        rw [if_pos (show Region.wanted o (yielded ops a.tmps) = true from h.asked hf hvs hi hin ho hgg)]
        refine .inl (opV_sound (k := k) h.mem h.pre hopnd htv ?_)
        rintro v pv σ' K' w' hkv hv hm' hx'
        have hH := h.grown (vs' := vs.set i pv) hf hok hi hin ho hv hm' hx' (by rw [List.getD_eq_getElem?_getD, List.getElem?_set_self (by omega)]; rfl) (fun j hj => set_getD_ne hj)
        unfold stageT at hso
        simp only [Bool.and_eq_true, List.all_eq_true, List.mem_range, decide_eq_true_eq, Bool.or_eq_true, inB'_iff] at hso
        obtain ⟨⟨⟨hlen2, hmd2⟩, hTn2⟩, -⟩ := hso
        have hlen2' := Nat.eq_of_beq_eq_true hlen2
        have hat2 : ∀ j, j < n → ms'[j]? = some (ms'.getD j .skip) := fun j hj => by
          rw [List.getD_eq_getElem?_getD, List.getElem?_eq_getElem (by omega)]; rfl
        unfold transT at htr
        simp only [List.all_eq_true, Bool.and_eq_true, inB'_iff, Bool.not_eq_true'] at htr
        have hun' : ∀ x ∈ t.pend, (listed.setIfInBounds i true).getD x false = false := fun x hx => by
          obtain ⟨h1, h2⟩ := htr x hx
          have hne : x ≠ i := fun e => by rw [e, Nat.beq_refl] at h2; cases h2
          rw [getD_set_ne false (Ne.symm hne)]
          exact hun x h1
        have hua' : ∀ x ∈ t.pend, ∀ j, (listed.setIfInBounds i true).getD j false = true → ancB ops n j x = true → False := fun x hx j hj ha => by
          have := anc_up hH.head _ _ _ hj ha
          rw [hun' x hx] at this; cases this
        have hHl' : ∀ x ∈ i :: H, (listed.setIfInBounds i true).getD x false = true := fun x hx => by
          rcases List.mem_cons.1 hx with rfl | hx
          · exact hseti
          · exact getD_set_true (hHl x hx)
        have hls' : ∀ j, j < n → (listed.setIfInBounds i true).getD j false = true → ms'[j]? = some .keep ∨ ms'[j]? = some .again := fun j hj hjl => by
          have hm := hmd2 j hj
          have hatj := hat2 j hj
          generalize ms'.getD j .skip = md at hm hatj
          cases md with
          | keep => exact .inl hatj
          | again => exact .inr hatj
          | new =>
            simp only [mdT] at hm
            by_cases e : j = i
            · subst e
              have := anc_done h.head hi _ _ hm
              rw [hiu] at this; cases this
            · rw [getD_set_ne false (Ne.symm e)] at hjl
              have := anc_up h.head _ _ _ hjl hm
              rw [hiu] at this; cases this
          | skip =>
            simp only [mdT, List.any_eq_true] at hm
            obtain ⟨x, hxm, ha⟩ := hm
            exact (hua' x hxm j hjl ha).elim
          | turn =>
            simp only [mdT, inB'_iff] at hm
            rw [hun' j (hTn2 j hm).2] at hjl; cases hjl
        have hkp' : ∀ j, j < n → ms'[j]? = some .keep → (listed.setIfInBounds i true).getD j false = true := fun j hj hjk => by
          have hm := hmd2 j hj
          rw [hat2 j hj] at hjk
          rw [Option.some.inj hjk] at hm
          simp only [mdT, List.any_eq_true, Bool.or_eq_true] at hm
          obtain ⟨x, hxm, hm⟩ := hm
          have hxl := hHl' x hxm
          rcases hm with hm | hm
          · rw [Nat.eq_of_beq_eq_true hm]; exact hxl
          · exact anc_up hH.head _ _ _ hxl hm
        have := hk pv σ' hkv _ K' w' K' _ w' hH ((hx.trans h.ext).trans hx') hHl' hun' hkp' hls'
        rwa [hlm] at this
      · have hm := hmd i hin
        have hati := hat i hin
        have hiU : i ∉ U := fun hiU => by
          rcases hUT i hiU with h1 | h1
          · exact him h1
          · obtain ⟨x, hx, ha⟩ := List.any_eq_true.1 h1
            exact hua x hx ha
        generalize ms.getD i .skip = md at hm hati
        have h2 := (hst i o md (hop i o hin ho) hati).2
        have hcert : RanAt P W ops σc o (envAt env ((ops.toList.take n).take i) (vs.take i)) (vs.getD i .dead) := by
          cases md with
          | keep => rw [hkp i hin hati] at hiu; cases hiu
          | skip =>
            simp only [mdT, List.any_eq_true] at hm
            obtain ⟨x, hxm, ha⟩ := hm
            exact (hua x hxm ha).elim
          | new => exact h2 (.inl rfl)
          | again => exact h2 (.inr rfl)
          | turn =>
            simp only [mdT, inB'_iff] at hm
            exact absurd hm him
        rw [List.take_take, show min i n = i by omega] at hcert
        refine h.opAt hf hvs hok hi hin ho (τ := σc) (ρ := []) (by simp) hcert fun K' a' w' h2 => ihc _ K' a' w' h2 (fun x hxm => getD_set_true (hHl x hxm)) (fun x hxm => ?_) (fun j hj hjk => getD_set_true (hkp j hj hjk)) hlm
        rw [getD_set_ne false (fun e => hiU (by first | exact e ▸ hxm | exact e.symm ▸ hxm))]
        exact hun x hxm
  exact key _ listed K a w h' hHl hun hkp rfl
theorem tree_run {nt : Nat} {ops : Array Oper} {n : Nat} {env : Env} {σ : Mem} {K0 : Kn} {w0 : World} {Q : Exit → Env → Mem → Prop} (hf : HeadFacts ops n) (hok : opsOk nt ops.toList = true) (t : Tr) :
    ∀ (H : List Nat) (ms : List Md) (vs0 : List PV) (σc : Mem), okT ops n t H ms = true → treeV P W ops (Q .normal) n env t ms vs0 σc → Goes ds P W ops n nt env σ K0 w0 Q H t.pend ms vs0 σc := by
  induction t with
  | fin =>
    intro H ms vs0 σc hc hv
    exact tree_fin hf hok hc hv
  | one g ms' t ih =>
    intro H ms vs0 σc hc hv
    have h : (stageT ops n H ms [g] (g :: t.pend) && transT g (g :: t.pend) t.pend && okT ops n t (g :: H) ms') = true := hc
    simp only [Bool.and_eq_true] at h
    refine tree_step hf hok (T := [g]) (by simp) h.1.1 hv fun vs hC g' hg' => ?_
    obtain rfl := List.mem_singleton.1 hg'
    exact ⟨_, ms', t, hC, h.1.2, okT_stage h.2, fun v σ' hk => ih (g' :: H) ms' _ σ' h.2 hk⟩
  | two g m1 t1 g' m2 t2 ih1 ih2 =>
    intro H ms vs0 σc hc hv
    have h : (stageT ops n H ms [g, g'] (g :: t1.pend) && transT g (g :: t1.pend) t1.pend && transT g' (g :: t1.pend) t2.pend && okT ops n t1 (g :: H) m1 && okT ops n t2 (g' :: H) m2) = true := hc
    simp only [Bool.and_eq_true] at h
    obtain ⟨⟨⟨⟨h1, h2⟩, h3⟩, h4⟩, h5⟩ := h
    refine tree_step hf hok (T := [g, g']) (by simp) h1 hv fun vs hC q hq => ?_
    rcases List.mem_cons.1 hq with rfl | hq
    · exact ⟨_, m1, t1, hC.1, h2, okT_stage h4, fun v σ' hk => ih1 (q :: H) m1 _ σ' h4 hk⟩
    · obtain rfl := List.mem_singleton.1 hq
      exact ⟨_, m2, t2, hC.2, h3, okT_stage h5, fun v σ' hk => ih2 (q :: H) m2 _ σ' h5 hk⟩
def D11 (P : Program) (W : World) (ops : Array Oper) (Q : Env → Mem → Prop) (env : Env) (σ : Mem) : Prop :=
  ∃ (n : Nat) (ms : List Md) (t : Tr), (headOk ops n && okT ops n t [] ms) = true ∧ treeF P W ops Q n env t ms (List.replicate n .dead) σ
theorem D11_ok (hm : P.follows .mixedOrders = true) : DrawOk P W (D11 P W) := by
  intro ds nt id ops Q env σ K a w hok h hs
  obtain ⟨n, ms, t, hh, hv⟩ := h
  rw [treeF_eq] at hv
  rw [Bool.and_eq_true] at hh
  have hf := headOk_spec hh.1
  have hle := hf.le
  refine wp_region_any hm ?_
  have hleft : left (Array.replicate ops.size false) n = n := by
    unfold left
    rw [List.countP_eq_length.2]
    · simp
    · intro i _
      rw [getD_replicate_false]; rfl
  have hkeep : ∀ i, i < n → ms[i]? = some .keep → (Array.replicate ops.size false).getD i false = true := fun i hi hk => by
    have hso := okT_stage hh.2
    unfold stageT at hso
    simp only [Bool.and_eq_true, List.all_eq_true, List.mem_range] at hso
    have := hso.1.1.2 i hi
    rw [List.getD_eq_getElem?_getD, hk] at this
    simp [mdT] at this
  have hrun := tree_run (nt := nt) (K0 := K) (w0 := w) (Q := Q) (σ := σ) (env := env) hf hok t [] ms _ σ hh.2 hv (Array.replicate ops.size false) K { w with drawn := w.drawn + 1 } K a { w with drawn := w.drawn + 1 }
    ⟨⟨by simp, (fun j oj _ hl => by rw [getD_replicate_false] at hl; cases hl), (fun t _ ht => by simp [Array.getD, ht])⟩,
    hs.mem.drawn _, hs.pre.ext (Ext.drawn σ K w _), Ext.refl _ _ _, hs.sz, hs.dfs, fun t _ => (Ext.drawn σ K w _).vrel (hs.env t), (fun t j _ _ hl => by rw [getD_replicate_false] at hl; cases hl), fun t j _ _ _ => (Ext.drawn σ K w _).vrel (hs.env t)⟩
    (Ext.drawn σ K w _) (fun g hg => by cases hg) (fun g _ => getD_replicate_false _ _) hkeep (fun i _ hl => by rw [getD_replicate_false] at hl; cases hl)
  rw [hleft] at hrun
  rw [show n + (ops.size - n) = ops.size by omega] at hrun
  exact hrun
inductive Draws11 (A B : Prop) : Prop
  | old (h : A)
  | tree (h : B)
def DM (P : Program) (W : World) (ops : Array Oper) (Q : Env → Mem → Prop) (env : Env) (σ : Mem) : Prop := Draws11 (DL P W ops Q env σ) (D11 P W ops Q env σ)
theorem DM_ok (hm : P.follows .mixedOrders = true) : DrawOk P W (DM P W) := by
  intro ds nt id ops Q env σ K a w hok h hs
  rcases h with h | h
  · exact DL_ok hm ds nt id ops Q env σ K a w hok h hs
  · exact D11_ok hm ds nt id ops Q env σ K a w hok h hs
theorem headT_ {ops : Array Oper} {Q : Env → Mem → Prop} {env : Env} {σ : Mem} (h : DD P W ops Q env σ) : DM P W ops Q env σ := .old (headL_ h)
end Go.Eng
end
