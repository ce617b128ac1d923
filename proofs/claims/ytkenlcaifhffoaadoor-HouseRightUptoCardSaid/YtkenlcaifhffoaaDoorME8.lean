/- Texts put together: Eng27, Eng28. -/
import Derived.Test.YtkenlcaifhffoaaDoorME7
/- The engine, part 27: a head with an operation in its midst that changes memory, while such as look at no memory may still be to come. -/
section
namespace Go.Eng
open Go

variable {P : Program} {W : World} {ds : List Deferred}

theorem envAt_ne (d : Nat) : ∀ (l : List Oper) (vs : List PV) (E E' : Env), (∀ t, t ≠ d → E t = E' t) → ∀ t, t ≠ d → envAt E l vs t = envAt E' l vs t
  | [], _, _, _, h, t, ht => h t ht
  | o :: l, [], _, _, h, t, ht => h t ht
  | o :: l, v :: vs, E, E', h, t, ht => by
    refine envAt_ne d l vs (updO E o.dst v) (updO E' o.dst v) (fun t' ht' => ?_) t ht
    cases o.dst with
    | none => exact h t' ht'
    | some d' =>
      simp only [updO, upd]
      cases Nat.beq t' d' with
      | true => rfl
      | false => exact h t' ht'
def freeX : Op → Option Operand
  | .move x => some x
  | .assign x => some x
  | .nilCheck x => some x
  | .fieldAddr _ x _ => some x
  | _ => none
theorem fieldAddrV_mono {s : TypeId} {x : PV} {fld : Nat} {r : PV} {k : PV → Prop} (h : fieldAddrV P s x fld fun v => v = r) (hk : k r) : fieldAddrV P s x fld k := by
  unfold fieldAddrV at *
  cases hf : (fieldsOf P s)[fld]? with
  | none => rw [hf] at h; exact h.elim
  | some f =>
    rw [hf] at h
    cases x <;> first
      | exact h.elim
      | (simp only at h ⊢
         obtain ⟨h1, h2⟩ := chk_spec h
         rw [h1]
         show k _
         rw [h2]; exact hk)
theorem free_yields {op : Op} {x : Operand} (hx : freeX op = some x) {env env' : Env} {σ σ' : Mem} {r : PV} (he : ev env x = ev env' x) (hy : Yields P W op env σ r) : Yields P W op env' σ' r := by
  intro k hk
  have h1 := hy (fun v _ => v = r) rfl
  cases op <;> simp only [freeX] at hx <;> first
    | (cases hx; done)
    | (cases hx
       simp only [opV] at h1 ⊢
       rw [← he]
       first
         | (rw [h1]; exact hk)
         | exact fieldAddrV_mono h1 hk
         | (generalize ev env _ = e at h1
            cases e <;> first
              | exact h1.elim
              | (simp only at h1 ⊢; rw [h1]; exact hk)))
theorem mid_run {nt : Nat} {ops : Array Oper} {m n : Nat} {om : Oper} {env : Env} {vs : List PV} {σ : Mem} {K0 : Kn} {w0 : World} {Q : Exit → Env → Mem → Prop} {k : PV → Mem → Prop} (hf : HeadFacts ops n) (hmn : m < n) (hvs : vs.length = n) (hok : opsOk nt ops.toList = true)
    (hom : ops[m]? = some om) (hg : om.guard = none) (hcat : ∀ i o, i < n → i ≠ m → ops[i]? = some o → CertAt P W ops env vs σ i o) (hop : opV P W om.op (envAt env (ops.toList.take m) (vs.take m)) σ k)
    (hbef : ∀ i o, i < m → ops[i]? = some o → ancB ops n m i = true ∨ freeB o = true) (hfree : ∀ i o pv, m < i → i < n → ops[i]? = some o → CertAt P W ops env (vs.set m pv) [] i o)
    (hk : ∀ pv σ', k pv σ' → vcOps P W ops (Q .normal) (ops.toList.drop n) (envAt env (ops.toList.take n) (vs.set m pv)) σ') :
    ∀ (c : Nat) (listed : Array Bool) (K : Kn) (a : Act) (w : World), HInv ds W nt ops n env vs σ K0 w0 listed K a w → listed.getD m false = false → left listed n = c →
      wpAny P .any ops (After ds W nt Q σ K0 w0) (c + (ops.size - n)) listed a w := by
  intro c
  induction c with
  | zero =>
    intro listed K a w h hml hl
    have := left_zero hl m hmn
    rw [hml] at this; cases this
  | succ c ih =>
    intro listed K a w h hml hl
    obtain ⟨hne, hnx⟩ := h.next hf hl
    rw [show c + 1 + (ops.size - n) = (c + (ops.size - n)) + 1 by omega]
    refine ⟨fun h0 => absurd h0 hne, fun i hi => ?_⟩
    obtain ⟨hin, hlm⟩ := hnx i hi
    obtain ⟨hun, o, ho, _⟩ := mem_ready.1 hi
    by_cases him : i = m
    · subst him
      rw [hom] at ho; cases ho
      have hlt : i < listed.size := by rw [h.head.size]; exact (Array.getElem?_eq_some_iff.1 hom).1
      have hopnd := h.opnds hf hvs hi hin hom
      unfold wpOp
      simp only [hom]
      rw [if_pos (show Region.wanted om (yielded ops a.tmps) = true by simp [Region.wanted, hg])]
      refine .inl (opV_sound (k := k) h.mem h.pre hopnd hop ?_)
      rintro v pv σ' K' w' hkv hv hm' hx
      have e2 : ∀ j, j ≠ i → (vs.set i pv).getD j .dead = vs.getD j .dead := fun j hj => by
        rw [List.getD_eq_getElem?_getD, List.getD_eq_getElem?_getD, List.getElem?_set_ne (Ne.symm hj)]
      have hH := h.grown (vs' := vs.set i pv) hf hok hi hin hom hv hm' hx (by rw [List.getD_eq_getElem?_getD, List.getElem?_set_self (by omega)]; rfl) e2
      refine late_run (L := fun j => j ≠ i ∧ listed.getD j false = false) hf (by rw [List.length_set]; exact hvs) hok (h.ext.trans hx) (hk pv σ' hkv) (fun j oj hj ⟨hji, hjl⟩ hoj => ?_) c _ K' _ w' hH (fun j hj hjl => ?_) hlm
      · by_cases hlt2 : j < i
        · have hcj := hcat j oj hj hji hoj
          have hcj' : CertAt P W ops env (vs.set i pv) σ j oj := by
            unfold CertAt at hcj ⊢
            rw [List.take_set_of_le (by omega), e2 j hji]
            exact hcj
          rcases hbef j oj hlt2 hoj with ha | hfr
          · have := anc_done h.head hi _ j ha
            rw [hjl] at this; cases this
          · exact ⟨[], σ', .refl _, free_cert hfr hcj'⟩
        · exact ⟨[], σ', .refl _, hfree j oj pv (by omega) hj hoj⟩
      · by_cases e : j = i
        · subst e
          have : (listed.setIfInBounds j true).getD j false = true := by simp [Array.getD, hlt]
          rw [this] at hjl; cases hjl
        · rw [getD_set_ne false (Ne.symm e)] at hjl
          exact ⟨e, hjl⟩
    · refine h.opAt hf hvs hok hi hin ho (τ := σ) (ρ := []) (by simp) (hcat i o hin him ho) fun K' a' w' h' => ih _ K' a' w' h' ?_ hlm
      rw [getD_set_ne false him]; exact hml
def freeAfter (ops : Array Oper) (m j : Nat) : Bool :=
  match ops[j]?, ops[m]? with
  | some o, some om => o.guard.isNone && (match freeX o.op with
    | some (.tmp t) => !decide (om.dst = some t)
    | some _ => true
    | none => false)
  | _, _ => false
def midOk (ops : Array Oper) (m n : Nat) : Bool := headOk ops n && decide (m < n) && noGuard ops m &&
  ((List.range m).all fun i => ancB ops n m i || (match ops[i]? with | some o => freeB o | none => false)) && ((List.range n).all fun j => !decide (m < j) || freeAfter ops m j)
def D8 (P : Program) (W : World) (ops : Array Oper) (Q : Env → Mem → Prop) (env : Env) (σ : Mem) : Prop :=
  ∃ (m n : Nat) (om : Oper), midOk ops m n = true ∧ ops[m]? = some om ∧
    headF P W ops σ (fun env1 => headF P W ops σ (fun env2 => opF P W om.op env1 σ fun v σ' => forceV v fun v => putF env2 om.dst v fun env3 => vcOpsF P W ops Q (ops.toList.drop n) env3 σ')
      ((ops.toList.take n).drop (m + 1)) (updO env1 om.dst .dead)) (ops.toList.take m) env
theorem D8_ok (hm : P.follows .mixedOrders = true) : DrawOk P W (D8 P W) := by
  intro ds nt id ops Q env σ K a w hok h hs
  obtain ⟨m, n, om, hh, hom, hv⟩ := h
  simp only [headF_eq, vcOpsF_eq, putF_eq, opF_eq, forceV_eq] at hv
  obtain ⟨vA, hlA, hcA, hv1⟩ := headV_cert _ _ hv
  obtain ⟨vC, hlC, hcC, hop⟩ := headV_cert _ _ hv1
  unfold midOk at hh
  simp only [Bool.and_eq_true, decide_eq_true_eq] at hh
  obtain ⟨⟨⟨⟨hh, hlt⟩, hng⟩, hb⟩, hfr⟩ := hh
  have hg : om.guard = none := by
    unfold noGuard at hng
    rw [hom] at hng
    simpa using hng
  have hf := headOk_spec hh
  have hopl : ∀ k : Nat, ops.toList[k]? = ops[k]? := fun k => by simp
  have hle := hf.le
  have hm2 : m < ops.size := by omega
  have hA : vA.length = m := by rw [hlA]; simp; omega
  have hCl : ((ops.toList.take n).drop (m + 1)).length = n - (m + 1) := by simp; omega
  have hC : vC.length = n - (m + 1) := by rw [hlC, hCl]
  obtain ⟨V, hVd⟩ : ∃ V : PV → List PV, V = fun u => vA ++ ([u] ++ vC) := ⟨_, rfl⟩
  have hVl : ∀ u, (V u).length = n := fun u => by rw [hVd]; simp; omega
  have hset : ∀ u, (V .dead).set m u = V u := fun u => by
    rw [hVd]
    show (vA ++ ([PV.dead] ++ vC)).set m u = vA ++ ([u] ++ vC)
    rw [List.set_append_right _ _ (by omega), show m - vA.length = 0 by omega]
    rfl
  have gA : ∀ u j, j < m → (V u).getD j .dead = vA.getD j .dead := fun u j hj => by
    simp only [hVd, List.getD_eq_getElem?_getD, List.getElem?_append_left (show j < vA.length by omega)]
  have gC : ∀ u k, k < n - (m + 1) → (V u).getD (m + 1 + k) .dead = vC.getD k .dead := fun u k hk => by
    simp only [hVd, List.getD_eq_getElem?_getD]
    rw [List.getElem?_append_right (by omega), show m + 1 + k - vA.length = k + 1 by omega, List.getElem?_append_right (by simp), List.length_singleton, Nat.add_sub_cancel]
  have tA : ∀ u i, i ≤ m → (V u).take i = vA.take i := fun u i hi => by
    simp only [hVd]; rw [List.take_append_of_le_length (by omega)]
  have e1 : ∀ k, k ≤ n - (m + 1) → ops.toList.take (m + 1 + k) = ops.toList.take m ++ ([om] ++ ((ops.toList.take n).drop (m + 1)).take k) := fun k hk => by
    have e : ops.toList.take (m + 1) = ops.toList.take m ++ [om] := take_snoc_of (by rw [hopl]; exact hom)
    rw [← List.append_assoc, ← e, List.take_add, List.drop_take, List.take_take, show min k (n - (m + 1)) = k by omega]
  have tC : ∀ u k, k ≤ n - (m + 1) → (V u).take (m + 1 + k) = vA ++ ([u] ++ vC.take k) := fun u k hk => by
    simp only [hVd]
    rw [show m + 1 + k = vA.length + (1 + k) by omega, List.take_length_add_append]
    congr 1
    rw [show 1 + k = ([u] : List PV).length + k by simp, List.take_length_add_append]
  have eE : ∀ u k, k ≤ n - (m + 1) → envAt env (ops.toList.take (m + 1 + k)) ((V u).take (m + 1 + k)) = envAt (updO (envAt env (ops.toList.take m) vA) om.dst u) (((ops.toList.take n).drop (m + 1)).take k) (vC.take k) := fun u k hk => by
    rw [e1 k hk, tC _ k hk, envAt_append _ _ _ _ _ hlA]
    rfl
  have hcatA : ∀ i o, i < m → ops[i]? = some o → CertAt P W ops env (V .dead) σ i o := fun i o hi ho => by
    have := cert_at _ _ _ hcA i o (by rw [List.getElem?_take, if_pos hi, hopl]; exact ho)
    rw [List.take_take, show min i m = i by omega] at this
    unfold CertAt
    rw [tA _ i (by omega), gA _ i hi]
    exact this
  have hcatC : ∀ k o, k < n - (m + 1) → ops[m + 1 + k]? = some o → CertAt P W ops env (V .dead) σ (m + 1 + k) o := fun k o hk ho => by
    have := cert_at _ _ _ hcC k o (by rw [List.getElem?_drop, List.getElem?_take, if_pos (by omega), hopl]; exact ho)
    unfold CertAt
    rw [eE .dead k (by omega), gC _ k hk]
    exact this
  refine wp_region_any hm ?_
  have hleft : left (Array.replicate ops.size false) n = n := by
    unfold left
    rw [List.countP_eq_length.2]
    · simp
    · intro i _
      rw [getD_replicate_false]; rfl
  have hsz : ops.size = n + (ops.size - n) := by omega
  have hrun := mid_run (nt := nt) (K0 := K) (w0 := w) (Q := Q) (vs := V .dead) (σ := σ) (env := env) hf hlt (hVl _) hok hom hg
    (fun i o hi him ho => by
      by_cases h1 : i < m
      · exact hcatA i o h1 ho
      · obtain ⟨k, rfl⟩ : ∃ k, i = m + 1 + k := ⟨i - (m + 1), by omega⟩
        exact hcatC k o (by omega) ho)
    (k := fun v σ' => vcOps P W ops (Q .normal) (ops.toList.drop n) (updO (envAt (updO (envAt env (ops.toList.take m) vA) om.dst .dead) ((ops.toList.take n).drop (m + 1)) vC) om.dst v) σ')
    (by rw [tA _ m (Nat.le_refl _), List.take_of_length_le (l := vA) (by omega)]; exact hop)
    (fun i o hi ho => by
      have := List.all_eq_true.1 hb i (List.mem_range.2 hi)
      rw [ho] at this
      simpa using this)
    (fun i o pv h1 h2 ho => by
      obtain ⟨k, rfl⟩ : ∃ k, i = m + 1 + k := ⟨i - (m + 1), by omega⟩
      have hfa := List.all_eq_true.1 hfr (m + 1 + k) (List.mem_range.2 h2)
      simp only [show m < m + 1 + k by omega, decide_true, Bool.not_true, Bool.false_or] at hfa
      unfold freeAfter at hfa
      rw [ho, hom] at hfa
      simp only [Bool.and_eq_true] at hfa
      obtain ⟨hgn, hfx⟩ := hfa
      have hgo : o.guard = none := by simpa using hgn
      have hcj := hcatC k o (by omega) ho
      rw [hset]
      unfold CertAt at hcj ⊢
      rw [eE pv k (by omega), gC _ k (by omega)]
      rw [eE .dead k (by omega), gC _ k (by omega)] at hcj
      rcases hcj with ⟨_, hy⟩ | ⟨j, want, hj, _⟩
      · refine .inl ⟨.inl hgo, ?_⟩
        cases hx : freeX o.op with
        | none => rw [hx] at hfx; cases hfx
        | some x =>
          refine free_yields hx ?_ hy
          cases x with
          | tmp t =>
            rw [hx] at hfx
            have hne : om.dst ≠ some t := by simpa using hfx
            show envAt _ _ _ t = envAt _ _ _ t
            cases hd : om.dst with
            | none => rfl
            | some d =>
              refine envAt_ne d _ _ _ _ (fun t' ht' => ?_) t (fun e => hne (by rw [hd, e]))
              have : Nat.beq t' d = false := by rw [Bool.eq_false_iff]; intro h; exact ht' (Nat.eq_of_beq_eq_true h)
              simp [updO, upd, this]
          | const v => rfl
          | global g => rfl
          | func f => rfl
      · rw [hgo] at hj; cases hj)
    (fun pv σ' hkv => by
      rw [hset]
      have h4 := eE pv (n - (m + 1)) (Nat.le_refl _)
      rw [show m + 1 + (n - (m + 1)) = n by omega, List.take_of_length_le (l := V pv) (by rw [hVl]; exact Nat.le_refl _), List.take_of_length_le (l := List.drop (m + 1) (List.take n ops.toList)) (by rw [hCl]; exact Nat.le_refl _), List.take_of_length_le (l := vC) (by rw [hC]; exact Nat.le_refl _)] at h4
      rw [h4]
      refine cast (congrArg (fun E => vcOps P W ops (Q .normal) (ops.toList.drop n) E σ') ?_) hkv
      cases hd : om.dst with
      | none => rfl
      | some d =>
        have hno : ∀ o ∈ (ops.toList.take n).drop (m + 1), o.dst ≠ some d := fun o ho hdo => by
          obtain ⟨k, hk⟩ := List.getElem?_of_mem ho
          have hkl := (List.getElem?_eq_some_iff.1 hk).1
          rw [hCl] at hkl
          rw [List.getElem?_drop, List.getElem?_take, if_pos (by omega), hopl] at hk
          have := hf.uniq m om d hlt hom hd (m + 1 + k) (by omega) (dstIs_spec.2 ⟨o, hk, hdo⟩)
          omega
        funext t
        by_cases e : t = d
        · subst e
          rw [envAt_none _ _ _ t hno]
          simp [updO, upd]
        · have hb2 : Nat.beq t d = false := by rw [Bool.eq_false_iff]; intro h; exact e (Nat.eq_of_beq_eq_true h)
          have e5 : ∀ E : Env, updO E (some d) pv t = E t := fun E => by simp [updO, upd, hb2]
          rw [e5]
          refine envAt_ne d _ _ _ _ (fun t' ht' => ?_) t e
          have : Nat.beq t' d = false := by rw [Bool.eq_false_iff]; intro h; exact ht' (Nat.eq_of_beq_eq_true h)
          simp [updO, upd, this])
    n (Array.replicate ops.size false) K a { w with drawn := w.drawn + 1 } ⟨⟨by simp, (fun j oj _ hl => by rw [getD_replicate_false] at hl; cases hl), (fun t _ ht => by simp [Array.getD, ht])⟩,
    hs.mem.drawn _, hs.pre.ext (Ext.drawn σ K w _), Ext.drawn σ K w _, hs.sz, hs.dfs, fun t _ => (Ext.drawn σ K w _).vrel (hs.env t), (fun t j _ _ hl => by rw [getD_replicate_false] at hl; cases hl), fun t j _ _ _ => (Ext.drawn σ K w _).vrel (hs.env t)⟩ (getD_replicate_false _ _) hleft
  rw [← hsz] at hrun
  exact hrun
inductive Draws8 (A B C : Prop) : Prop
  | old (h : A)
  | gap (h : B)
  | mid (h : C)
def DJ (P : Program) (W : World) (ops : Array Oper) (Q : Env → Mem → Prop) (env : Env) (σ : Mem) : Prop := Draws8 (DD P W ops Q env σ) (D7 P W ops Q env σ) (D8 P W ops Q env σ)
end Go.Eng
end

/- The engine, part 28: a head with a store in its midst, while such as read other cells may still be to come: they yield the same before and behind it. -/
section
namespace Go.Eng
open Go

variable {P : Program} {W : World} {ds : List Deferred}

theorem HInv.revs2 {nt : Nat} {ops : Array Oper} {n : Nat} {env : Env} {vs vs' : List PV} {σ : Mem} {K0 K : Kn} {w0 w : World} {listed : Array Bool} {a : Act}
    (h : HInv ds W nt ops n env vs σ K0 w0 listed K a w) (e : ∀ j t, j < n → dstIs ops j t = true → vs'.getD j .dead = vs.getD j .dead) : HInv ds W nt ops n env vs' σ K0 w0 listed K a w :=
  ⟨h.head, h.mem, h.pre, h.ext, h.sz, h.dfs, h.other, fun t j hj hd hl => by rw [e j t hj hd]; exact h.done t j hj hd hl, h.todo⟩
theorem sto_run {nt : Nat} {ops : Array Oper} {m n : Nat} {om : Oper} {env : Env} {vs : List PV} {σ : Mem} {K0 : Kn} {w0 : World} {Q : Exit → Env → Mem → Prop} {k : PV → Mem → Prop} (hf : HeadFacts ops n) (hmn : m < n) (hvs : vs.length = n) (hok : opsOk nt ops.toList = true)
    (hom : ops[m]? = some om) (hg : om.guard = none) (hdst : om.dst = none) (hcat : ∀ i o, i < n → i ≠ m → ops[i]? = some o → CertAt P W ops env vs σ i o) (hop : opV P W om.op (envAt env (ops.toList.take m) (vs.take m)) σ k)
    (hk : ∀ pv σ', k pv σ' → ∃ vs', vs'.length = n ∧ (∀ j t, j < n → dstIs ops j t = true → vs'.getD j .dead = vs.getD j .dead) ∧ (∀ i o, i < n → i ≠ m → ops[i]? = some o → CertAt P W ops env vs' σ' i o) ∧ vcOps P W ops (Q .normal) (ops.toList.drop n) (envAt env (ops.toList.take n) vs') σ') :
    ∀ (c : Nat) (listed : Array Bool) (K : Kn) (a : Act) (w : World), HInv ds W nt ops n env vs σ K0 w0 listed K a w → listed.getD m false = false → left listed n = c →
      wpAny P .any ops (After ds W nt Q σ K0 w0) (c + (ops.size - n)) listed a w := by
  intro c
  induction c with
  | zero =>
    intro listed K a w h hml hl
    have := left_zero hl m hmn
    rw [hml] at this; cases this
  | succ c ih =>
    intro listed K a w h hml hl
    obtain ⟨hne, hnx⟩ := h.next hf hl
    rw [show c + 1 + (ops.size - n) = (c + (ops.size - n)) + 1 by omega]
    refine ⟨fun h0 => absurd h0 hne, fun i hi => ?_⟩
    obtain ⟨hin, hlm⟩ := hnx i hi
    obtain ⟨hun, o, ho, _⟩ := mem_ready.1 hi
    by_cases him : i = m
    · subst him
      rw [hom] at ho; cases ho
      have hlt : i < listed.size := by rw [h.head.size]; exact (Array.getElem?_eq_some_iff.1 hom).1
      have hopnd := h.opnds hf hvs hi hin hom
      unfold wpOp
      simp only [hom]
      rw [if_pos (show Region.wanted om (yielded ops a.tmps) = true by simp [Region.wanted, hg])]
      refine .inl (opV_sound (k := k) h.mem h.pre hopnd hop ?_)
      rintro v pv σ' K' w' hkv hv hm' hx
      obtain ⟨vs', hl', heq, hcat', hend⟩ := hk pv σ' hkv
      have e2 : ∀ j, j ≠ i → (vs.set i pv).getD j .dead = vs.getD j .dead := fun j hj => by
        rw [List.getD_eq_getElem?_getD, List.getD_eq_getElem?_getD, List.getElem?_set_ne (Ne.symm hj)]
      have hH := h.grown (vs' := vs.set i pv) hf hok hi hin hom hv hm' hx (by rw [List.getD_eq_getElem?_getD, List.getElem?_set_self (by omega)]; rfl) e2
      have hnd : ∀ t, dstIs ops i t = true → False := fun t ht => by
        obtain ⟨o', ho', hd'⟩ := dstIs_spec.1 ht
        rw [hom] at ho'; cases ho'
        rw [hdst] at hd'; cases hd'
      have hH2 := hH.revs2 (vs' := vs') fun j t hj hd => by
        by_cases e : j = i
        · subst e; exact (hnd t hd).elim
        · rw [heq j t hj hd, e2 j e]
      refine late_run (L := fun j => j ≠ i) hf hl' hok (h.ext.trans hx) hend (fun j oj hj hji hoj => ⟨σ', [], by simp, hcat' j oj hj hji hoj⟩) c _ K' _ w' hH2 (fun j hj hjl => ?_) hlm
      intro e
      subst e
      have : (listed.setIfInBounds j true).getD j false = true := by simp [Array.getD, hlt]
      rw [this] at hjl; cases hjl
    · refine h.opAt hf hvs hok hi hin ho (τ := σ) (ρ := []) (by simp) (hcat i o hin him ho) fun K' a' w' h' => ih _ K' a' w' h' ?_ hlm
      rw [getD_set_ne false him]; exact hml
theorem stage {ops : Array Oper} {env : Env} {σ : Mem} {m n : Nat} {om : Oper} {vA vC : List PV} (hmn : m < n) (hle : n ≤ ops.size) (hom : ops[m]? = some om) (hdst : om.dst = none) (hlA : vA.length = (ops.toList.take m).length) (hcA : Cert P W ops σ (ops.toList.take m) env vA)
    (hlC : vC.length = ((ops.toList.take n).drop (m + 1)).length) (hcC : Cert P W ops σ ((ops.toList.take n).drop (m + 1)) (envAt env (ops.toList.take m) vA) vC) :
    (vA ++ ([PV.dead] ++ vC)).length = n ∧ (∀ i o, i < n → i ≠ m → ops[i]? = some o → CertAt P W ops env (vA ++ ([PV.dead] ++ vC)) σ i o) ∧
      envAt env (ops.toList.take n) (vA ++ ([PV.dead] ++ vC)) = envAt (envAt env (ops.toList.take m) vA) ((ops.toList.take n).drop (m + 1)) vC ∧ (vA ++ ([PV.dead] ++ vC)).take m = vA := by
  have hopl : ∀ k : Nat, ops.toList[k]? = ops[k]? := fun k => by simp
  have hA : vA.length = m := by rw [hlA]; simp; omega
  have hCl : ((ops.toList.take n).drop (m + 1)).length = n - (m + 1) := by simp; omega
  have hC : vC.length = n - (m + 1) := by rw [hlC, hCl]
  obtain ⟨V, hVd⟩ : ∃ V : List PV, V = vA ++ ([PV.dead] ++ vC) := ⟨_, rfl⟩
  rw [← hVd]
  have hVl : V.length = n := by rw [hVd]; simp; omega
  have gA : ∀ j, j < m → V.getD j .dead = vA.getD j .dead := fun j hj => by
    simp only [hVd, List.getD_eq_getElem?_getD, List.getElem?_append_left (show j < vA.length by omega)]
  have gC : ∀ k, k < n - (m + 1) → V.getD (m + 1 + k) .dead = vC.getD k .dead := fun k hk => by
    simp only [hVd, List.getD_eq_getElem?_getD]
    rw [List.getElem?_append_right (by omega), show m + 1 + k - vA.length = k + 1 by omega, List.getElem?_append_right (by simp), List.length_singleton, Nat.add_sub_cancel]
  have tA : ∀ i, i ≤ m → V.take i = vA.take i := fun i hi => by
    simp only [hVd]; rw [List.take_append_of_le_length (by omega)]
  have e1 : ∀ k, k ≤ n - (m + 1) → ops.toList.take (m + 1 + k) = ops.toList.take m ++ ([om] ++ ((ops.toList.take n).drop (m + 1)).take k) := fun k hk => by
    have e : ops.toList.take (m + 1) = ops.toList.take m ++ [om] := take_snoc_of (by rw [hopl]; exact hom)
    rw [← List.append_assoc, ← e, List.take_add, List.drop_take, List.take_take, show min k (n - (m + 1)) = k by omega]
  have tC : ∀ k, k ≤ n - (m + 1) → V.take (m + 1 + k) = vA ++ ([.dead] ++ vC.take k) := fun k hk => by
    simp only [hVd]
    rw [show m + 1 + k = vA.length + (1 + k) by omega, List.take_length_add_append]
    congr 1
    rw [show 1 + k = ([PV.dead] : List PV).length + k by simp, List.take_length_add_append]
  have eE : ∀ k, k ≤ n - (m + 1) → envAt env (ops.toList.take (m + 1 + k)) (V.take (m + 1 + k)) = envAt (envAt env (ops.toList.take m) vA) (((ops.toList.take n).drop (m + 1)).take k) (vC.take k) := fun k hk => by
    rw [e1 k hk, tC k hk, envAt_append _ _ _ _ _ hlA]
    show envAt (updO (envAt env (ops.toList.take m) vA) om.dst .dead) _ _ = _
    rw [hdst]; rfl
  refine ⟨hVl, fun i o hi him ho => ?_, ?_, by rw [tA m (Nat.le_refl _), List.take_of_length_le (by omega)]⟩
  · by_cases h1 : i < m
    · have := cert_at _ _ _ hcA i o (by rw [List.getElem?_take, if_pos h1, hopl]; exact ho)
      rw [List.take_take, show min i m = i by omega] at this
      unfold CertAt
      rw [tA i (by omega), gA i h1]
      exact this
    · obtain ⟨k, rfl⟩ : ∃ k, i = m + 1 + k := ⟨i - (m + 1), by omega⟩
      have := cert_at _ _ _ hcC k o (by rw [List.getElem?_drop, List.getElem?_take, if_pos (by omega), hopl]; exact ho)
      unfold CertAt
      rw [eE k (by omega), gC k (by omega)]
      exact this
  · have h4 := eE (n - (m + 1)) (Nat.le_refl _)
    rw [show m + 1 + (n - (m + 1)) = n by omega, List.take_of_length_le (l := V) (by rw [hVl]; exact Nat.le_refl _), List.take_of_length_le (l := List.drop (m + 1) (List.take n ops.toList)) (by rw [hCl]; exact Nat.le_refl _), List.take_of_length_le (l := vC) (by rw [hC]; exact Nat.le_refl _)] at h4
    exact h4
def stoOk (ops : Array Oper) (m n : Nat) : Bool := headOk ops n && decide (m < n) && noGuard ops m && (match ops[m]? with | some o => o.dst.isNone | none => false)
def D9 (P : Program) (W : World) (ops : Array Oper) (Q : Env → Mem → Prop) (env : Env) (σ : Mem) : Prop :=
  ∃ (m n : Nat) (om : Oper), stoOk ops m n = true ∧ ops[m]? = some om ∧
    headF P W ops σ (fun env1 => headF P W ops σ (fun env2 => opF P W om.op env1 σ fun _ σ' =>
      headF P W ops σ' (fun env3 => headF P W ops σ' (fun env4 => env4 = env2 ∧ vcOpsF P W ops Q (ops.toList.drop n) env4 σ')
        ((ops.toList.take n).drop (m + 1)) env3) (ops.toList.take m) env)
      ((ops.toList.take n).drop (m + 1)) env1) (ops.toList.take m) env
theorem D9_ok (hm : P.follows .mixedOrders = true) : DrawOk P W (D9 P W) := by
  intro ds nt id ops Q env σ K a w hok h hs
  obtain ⟨m, n, om, hh, hom, hv⟩ := h
  simp only [headF_eq, vcOpsF_eq, opF_eq] at hv
  obtain ⟨vA, hlA, hcA, hv1⟩ := headV_cert _ _ hv
  obtain ⟨vC, hlC, hcC, hop⟩ := headV_cert _ _ hv1
  unfold stoOk at hh
  simp only [Bool.and_eq_true, decide_eq_true_eq] at hh
  obtain ⟨⟨⟨hh, hlt⟩, hng⟩, hdn⟩ := hh
  have hg : om.guard = none := by
    unfold noGuard at hng
    rw [hom] at hng
    simpa using hng
  have hdst : om.dst = none := by
    rw [hom] at hdn
    simpa using hdn
  have hf := headOk_spec hh
  have hle := hf.le
  obtain ⟨s1, s2, s3, s4⟩ := stage (P := P) (W := W) (σ := σ) (env := env) hlt hle hom hdst hlA hcA hlC hcC
  generalize hV : vA ++ ([PV.dead] ++ vC) = V at s1 s2 s3 s4
  have hopl : ∀ k : Nat, ops.toList[k]? = ops[k]? := fun k => by simp
  have hat : ∀ (X : List PV), X.length = n → ∀ j t, j < n → dstIs ops j t = true → envAt env (ops.toList.take n) X t = X.getD j .dead := fun X hX j t hj hd => by
    obtain ⟨oj, hoj, hdj⟩ := dstIs_spec.1 hd
    exact envAt_some _ _ _ t j oj (by rw [hX]; simp; omega) (by rw [List.getElem?_take, if_pos hj, hopl]; exact hoj) hdj (fun k ok hk hdk => by
      rw [List.getElem?_take] at hk
      split at hk
      · rw [hopl] at hk
        exact hf.uniq j oj t hj hoj hdj k (by omega) (dstIs_spec.2 ⟨ok, hk, hdk⟩)
      · cases hk)
  refine wp_region_any hm ?_
  have hleft : left (Array.replicate ops.size false) n = n := by
    unfold left
    rw [List.countP_eq_length.2]
    · simp
    · intro i _
      rw [getD_replicate_false]; rfl
  have hsz : ops.size = n + (ops.size - n) := by omega
  have hrun := sto_run (nt := nt) (K0 := K) (w0 := w) (Q := Q) (vs := V) (σ := σ) (env := env) hf hlt s1 hok hom hg hdst s2
    (by rw [s4]; exact hop)
    (fun pv σ' hkv => by
      obtain ⟨vA', hlA', hcA', hv2⟩ := headV_cert _ _ hkv
      obtain ⟨vC', hlC', hcC', heq, hend⟩ := headV_cert _ _ hv2
      obtain ⟨r1, r2, r3, r4⟩ := stage (P := P) (W := W) (σ := σ') (env := env) hlt hle hom hdst hlA' hcA' hlC' hcC'
      refine ⟨_, r1, fun j t hj hd => ?_, r2, by rw [r3]; exact hend⟩
      rw [← hat _ r1 j t hj hd, ← hat _ s1 j t hj hd, r3, s3, heq])
    n (Array.replicate ops.size false) K a { w with drawn := w.drawn + 1 } ⟨⟨by simp, (fun j oj _ hl => by rw [getD_replicate_false] at hl; cases hl), (fun t _ ht => by simp [Array.getD, ht])⟩,
    hs.mem.drawn _, hs.pre.ext (Ext.drawn σ K w _), Ext.drawn σ K w _, hs.sz, hs.dfs, fun t _ => (Ext.drawn σ K w _).vrel (hs.env t), (fun t j _ _ hl => by rw [getD_replicate_false] at hl; cases hl), fun t j _ _ _ => (Ext.drawn σ K w _).vrel (hs.env t)⟩ (getD_replicate_false _ _) hleft
  rw [← hsz] at hrun
  exact hrun
inductive Draws9 (A B C D : Prop) : Prop
  | old (h : A)
  | gap (h : B)
  | mid (h : C)
  | sto (h : D)
def DK (P : Program) (W : World) (ops : Array Oper) (Q : Env → Mem → Prop) (env : Env) (σ : Mem) : Prop := Draws9 (DD P W ops Q env σ) (D7 P W ops Q env σ) (D8 P W ops Q env σ) (D9 P W ops Q env σ)
theorem DK_ok (hm : P.follows .mixedOrders = true) : DrawOk P W (DK P W) := by
  intro ds nt id ops Q env σ K a w hok h hs
  rcases h with h | h | h | h
  · exact DD_ok hm ds nt id ops Q env σ K a w hok h hs
  · exact D7_ok hm ds nt id ops Q env σ K a w hok h hs
  · exact D8_ok hm ds nt id ops Q env σ K a w hok h hs
  · exact D9_ok hm ds nt id ops Q env σ K a w hok h hs
end Go.Eng
end
