/- Texts put together: Eng25, Eng26. -/
import Derived.Test.YtkenlcaifhffoaaDoorME6
/- The engine, part 25: what a call gave is written no more. -/
section
namespace Go.Eng
open Go
variable {P : Program} {W : World}
theorem ACalls.frz {f : FuncId} {args : List PV} {σ : Mem} {k k' : PV → Mem → Prop} (h : ACalls P W f args σ k) (hk : ∀ v σ', k v σ' → ∃ τ ρ v', σ'.Perm (τ ++ ρ) ∧ Frz ρ v v' ∧ k' v' τ) : ACalls P W f args σ k' := by
  refine ⟨h.body, fun K w vs hl hr hm hp => (h.run K w vs hl hr hm hp).mono ?_⟩
  rintro e w' ⟨v, pv, σ', K', h2, h3, h4, h5, h6⟩
  obtain ⟨τ, ρ, v', hp', hf, hk'⟩ := hk _ _ h3
  have hm' := h5.perm hp'
  have hρ : SatM K' ρ w' := hm'.drop (List.sublist_append_right _ _)
  exact ⟨v, v', τ, _, h2, hk', frz_sound hρ hf v h4, hm'.freeze, h6.trans ((Ext.freeze (K := K') (τ := τ) (ρ := ρ) (w := w')).perm hp'.symm (.refl _))⟩
theorem ACalls.lendF {f : FuncId} {args : List PV} {σ τ ρ : Mem} {r : PV} {k : PV → Mem → Prop} (h : ACalls P W f args τ fun v σ' => Frz σ' v r) (hp : σ.Perm (τ ++ ρ)) (hk : k r ρ) : ACalls P W f args σ k := by
  refine ACalls.frz ((h.frame ρ).perm hp) ?_
  rintro v σ' ⟨σ1, hf, rfl⟩
  exact ⟨ρ, σ1, r, List.perm_append_comm, hf, hk⟩
end Go.Eng
end

/- The engine, part 26: a head with an operation that makes something new, what hangs on it, and another that makes something new at its end. -/
section
namespace Go.Eng
open Go

variable {P : Program} {W : World} {ds : List Deferred}

theorem HInv.revs {nt : Nat} {ops : Array Oper} {n : Nat} {env : Env} {vs vs' : List PV} {σ : Mem} {K0 K : Kn} {w0 w : World} {listed : Array Bool} {a : Act}
    (h : HInv ds W nt ops n env vs σ K0 w0 listed K a w) (e : ∀ j, j < n → listed.getD j false = true → vs'.getD j .dead = vs.getD j .dead) : HInv ds W nt ops n env vs' σ K0 w0 listed K a w :=
  ⟨h.head, h.mem, h.pre, h.ext, h.sz, h.dfs, h.other, fun t j hj hd hl => by rw [e j hj hl]; exact h.done t j hj hd hl, h.todo⟩
theorem envAt_append : ∀ (l1 : List Oper) (v1 : List PV) (l2 : List Oper) (v2 : List PV) (env : Env), v1.length = l1.length → envAt env (l1 ++ l2) (v1 ++ v2) = envAt (envAt env l1 v1) l2 v2
  | [], [], _, _, _, _ => rfl
  | [], _ :: _, _, _, _, h => by simp at h
  | _ :: _, [], _, _, _, h => by simp at h
  | o :: l, v :: vs, l2, v2, env, h => by
    show envAt (updO env o.dst v) (l ++ l2) (vs ++ v2) = envAt (envAt (updO env o.dst v) l vs) l2 v2
    exact envAt_append l vs l2 v2 _ (by simpa using h)
theorem gap_run {nt : Nat} {ops : Array Oper} {m1 m2 : Nat} {o1 o2 : Oper} {p1 p2 : Nat → PV} {c1 c2 : Nat → Cont} {env : Env} {V : Option Nat → Option Nat → List PV} {σ : Mem} {K0 : Kn} {w0 : World} {Q : Exit → Env → Mem → Prop} (hf : HeadFacts ops (m2 + 1)) (hok : opsOk nt ops.toList = true) (hm : m1 < m2)
    (hV : ∀ x1 x2, (V x1 x2).length = m2 + 1) (hVA : ∀ x1 x2 x1' x2' j, j < m1 → (V x1 x2).getD j .dead = (V x1' x2').getD j .dead) (hVC : ∀ x1 x2 x2' j, j < m2 → (V x1 x2).getD j .dead = (V x1 x2').getD j .dead)
    (hV1 : ∀ x1 x2, (V x1 x2).getD m1 .dead = valO p1 x1) (hV2 : ∀ x1 x2, (V x1 x2).getD m2 .dead = valO p2 x2)
    (ho1 : ops[m1]? = some o1) (ho2 : ops[m2]? = some o2) (hg0 : o1.guard = none) (hg1 : ∀ x1 x2 (σ' : Mem) (k : PV → Mem → Prop), (∀ b, k (p1 b) (⟨b, c1 b⟩ :: σ')) → opV P W o1.op (envAt env (ops.toList.take m1) ((V x1 x2).take m1)) σ' k) (hg2 : Grows P W o2 p2 c2)
    (hA : ∀ x1 x2 i o, i < m1 → ops[i]? = some o → CertAt P W ops env (V x1 x2) σ i o) (hC : ∀ b x2 i o, m1 < i → i < m2 → ops[i]? = some o → CertAt P W ops env (V (some b) x2) σ i o)
    (hanc : ∀ i, m1 < i → i < m2 → ancB ops (m2 + 1) i m1 = true)
    (hk : ∀ b1 b2, vcOps P W ops (Q .normal) (ops.toList.drop (m2 + 1)) (envAt env (ops.toList.take (m2 + 1)) (V (some b1) (some b2))) (⟨b2, c2 b2⟩ :: ⟨b1, c1 b1⟩ :: σ)) :
    ∀ (c : Nat) (x1 x2 : Option Nat) (σc : Mem) (listed : Array Bool) (K1 : Kn) (w1 : World) (K : Kn) (a : Act) (w : World), HInv ds W nt ops (m2 + 1) env (V x1 x2) σc K1 w1 listed K a w → Ext σ K0 w0 σc K1 w1 → σc.Perm (memO c2 x2 ++ (memO c1 x1 ++ σ)) →
      listed.getD m1 false = x1.isSome → listed.getD m2 false = x2.isSome → left listed (m2 + 1) = c → wpAny P .any ops (After ds W nt Q σ K0 w0) (c + (ops.size - (m2 + 1))) listed a w := by
  intro c
  have hopl : ∀ k : Nat, ops.toList[k]? = ops[k]? := fun k => by simp
  induction c with
  | zero =>
    intro x1 x2 σc listed K1 w1 K a w h hx hp hl1 hl2 hl
    have hall := left_zero hl
    rw [hall m1 (by omega)] at hl1
    rw [hall m2 (by omega)] at hl2
    obtain ⟨b1, rfl⟩ := Option.isSome_iff_exists.1 hl1.symm
    obtain ⟨b2, rfl⟩ := Option.isSome_iff_exists.1 hl2.symm
    obtain ⟨hlisted, hsat⟩ := h.fin hf (hV _ _) hl
    have hok' : opsOk nt (ops.toList.drop (m2 + 1)) = true := by
      unfold opsOk at *
      rw [List.all_eq_true] at *
      exact fun o ho => hok o (List.mem_of_mem_drop ho)
    have hlen : (ops.toList.drop (m2 + 1)).length = ops.size - (m2 + 1) := by simp
    rw [Nat.zero_add, ← hlen]
    refine wpAny_of_seq (ops.toList.drop (m2 + 1)) (m2 + 1) listed a w (fun j => by rw [List.getElem?_drop, hopl]) (by rw [hlen, hlisted]; exact hf.seq) ?_
    have hsat' : Sat ds W nt K (envAt env (ops.toList.take (m2 + 1)) (V (some b1) (some b2))) (⟨b2, c2 b2⟩ :: ⟨b1, c1 b1⟩ :: σ) a w :=
      ⟨hsat.mem.perm hp, ⟨hsat.pre.size, hsat.pre.base, fun k hk => hsat.pre.own k (hp.mem_iff.2 hk)⟩, hsat.sz, hsat.env, hsat.dfs⟩
    exact vcOps_sound _ _ _ K a w hok' (hk b1 b2) hsat' ((hx.trans h.ext).perm (.refl _) hp)
  | succ c ih =>
    intro x1 x2 σc listed K1 w1 K a w h hx hp hl1 hl2 hl
    obtain ⟨hne, hnx⟩ := h.next hf hl
    rw [show c + 1 + (ops.size - (m2 + 1)) = (c + (ops.size - (m2 + 1))) + 1 by omega]
    refine ⟨fun h0 => absurd h0 hne, fun i hi => ?_⟩
    obtain ⟨hin, hlm⟩ := hnx i hi
    obtain ⟨hun, o, ho, _⟩ := mem_ready.1 hi
    have hlt : i < listed.size := by rw [h.head.size]; exact (Array.getElem?_eq_some_iff.1 ho).1
    have hset : (listed.setIfInBounds i true).getD i false = true := by simp [Array.getD, hlt]
    have hopnd := h.opnds hf (hV _ _) hi hin ho
    have hperm : σc.Perm (σ ++ (memO c2 x2 ++ memO c1 x1)) := hp.trans (by rw [← List.append_assoc]; exact List.perm_append_comm)
    by_cases h1 : i < m1
    · refine h.opAt hf (hV _ _) hok hi hin ho (τ := σ) (ρ := memO c2 x2 ++ memO c1 x1) hperm (hA _ _ i o h1 ho) fun K' a' w' h' => ih x1 x2 σc _ K1 w1 K' a' w' h' hx hp ?_ ?_ hlm
      · rw [getD_set_ne false (by omega)]; exact hl1
      · rw [getD_set_ne false (by omega)]; exact hl2
    · by_cases h1' : i = m1
      · subst h1'
        rw [ho1] at ho; cases ho
        have hx1 : x1 = none := by
          have := getD_both hun
          rw [hl1] at this
          cases x1 <;> simp at this ⊢
        subst hx1
        unfold wpOp
        simp only [ho1]
        rw [if_pos (show Region.wanted o1 (yielded ops a.tmps) = true by simp [Region.wanted, hg0])]
        refine .inl (opV_sound (k := fun pv σ' => ∃ b, pv = p1 b ∧ σ' = ⟨b, c1 b⟩ :: σc) h.mem h.pre hopnd (hg1 _ _ _ _ fun b => ⟨b, rfl, rfl⟩) ?_)
        rintro v pv σ' K' w' ⟨b, rfl, rfl⟩ hv hm' hx'
        have hmid : ∀ j, i < j → j < m2 → listed.getD j false = false := fun j h3 h4 => by
          cases hlj : listed.getD j false with
          | false => rfl
          | true =>
            have up : ∀ (f k i : Nat), listed.getD k false = true → ancB ops f k i = true → listed.getD i false = true := by
              intro f
              induction f with
              | zero => intro k i _ h; cases h
              | succ f ih =>
                intro k i hk h'
                simp only [ancB, Bool.or_eq_true, List.any_eq_true, Bool.and_eq_true] at h'
                rcases h' with h' | ⟨j, _, h5, h6⟩
                · obtain ⟨o, ho, e, he, hb, hon⟩ := depAt_spec h'
                  have := h.head.closed k o ho hk e he hb
                  rwa [hon] at this
                · obtain ⟨o, ho, e, he, hb, hon⟩ := depAt_spec h5
                  have := h.head.closed k o ho hk e he hb
                  rw [hon] at this
                  exact ih j i this h6
            have := up _ j i hlj (hanc j h3 h4)
            rw [getD_both hun] at this
            cases this
        have hr : HInv ds W nt ops (m2 + 1) env ((V (some b) x2).set i .dead) σc K1 w1 listed K a w := h.revs fun j hj hjl => by
          by_cases e : j = i
          · subst e
            rw [getD_both hun] at hjl; cases hjl
          · have e0 : ((V (some b) x2).set i .dead).getD j .dead = (V (some b) x2).getD j .dead := by
              rw [List.getD_eq_getElem?_getD, List.getD_eq_getElem?_getD, List.getElem?_set_ne (Ne.symm e)]
            rw [e0]
            by_cases hj1 : j < i
            · exact hVA _ _ _ _ j hj1
            · by_cases hj2 : j < m2
              · rw [hmid j (by omega) hj2] at hjl; cases hjl
              · obtain rfl : j = m2 := by omega
                rw [hV2, hV2]
        refine ih (some b) x2 _ _ K' w' K' _ w' (hr.grown (vs' := V (some b) x2) hf hok hi hin ho1 hv hm' hx' (hV1 _ _) (fun j hj => ?_)) ((hx.trans h.ext).trans hx') ?_ (by rw [hset]; rfl) (by rw [getD_set_ne false (by omega)]; exact hl2) hlm
        · rw [List.getD_eq_getElem?_getD, List.getD_eq_getElem?_getD, List.getElem?_set_ne (Ne.symm hj)]
        · exact (hp.cons _).trans (by simp only [memO, List.nil_append, List.singleton_append]; exact List.perm_middle.symm)
      · by_cases h2 : i < m2
        · have hx1 : ∃ b, x1 = some b := by
            have := anc_done h.head hi _ _ (hanc i (by omega) h2)
            rw [hl1] at this
            exact Option.isSome_iff_exists.1 this
          obtain ⟨b, rfl⟩ := hx1
          refine h.opAt hf (hV _ _) hok hi hin ho (τ := σ) (ρ := memO c2 x2 ++ memO c1 (some b)) hperm (hC _ _ i o (by omega) h2 ho) fun K' a' w' h' => ih (some b) x2 σc _ K1 w1 K' a' w' h' hx hp ?_ ?_ hlm
          · rw [getD_set_ne false (by omega)]; exact hl1
          · rw [getD_set_ne false (by omega)]; exact hl2
        · obtain rfl : i = m2 := by omega
          rw [ho2] at ho; cases ho
          have hx2 : x2 = none := by
            have := getD_both hun
            rw [hl2] at this
            cases x2 <;> simp at this ⊢
          subst hx2
          unfold wpOp
          simp only [ho2]
          rw [if_pos (show Region.wanted o2 (yielded ops a.tmps) = true by simp [Region.wanted, hg2.1])]
          refine .inl (opV_sound (k := fun pv σ' => ∃ b, pv = p2 b ∧ σ' = ⟨b, c2 b⟩ :: σc) h.mem h.pre hopnd (hg2.2 _ _ _ fun b => ⟨b, rfl, rfl⟩) ?_)
          rintro v pv σ' K' w' ⟨b, rfl, rfl⟩ hv hm' hx'
          refine ih x1 (some b) _ _ K' w' K' _ w' (h.grown (vs' := V x1 (some b)) hf hok hi hin ho2 hv hm' hx' (hV2 _ _) (fun j hj => ?_)) ((hx.trans h.ext).trans hx') (hp.cons _) (by rw [getD_set_ne false (by omega)]; exact hl1) (by rw [hset]; rfl) hlm
          by_cases hj2 : j < i
          · exact hVC _ _ _ j hj2
          · rw [List.getD_eq_getElem?_getD, List.getD_eq_getElem?_getD, List.getElem?_eq_none (by rw [hV]; omega), List.getElem?_eq_none (by rw [hV]; omega)]
def GrowsE (P : Program) (W : World) (o : Oper) (env : Env) (p : Nat → PV) (c : Nat → Cont) : Prop := o.guard = none ∧ ∀ (σ : Mem) (k : PV → Mem → Prop), (∀ b, k (p b) (⟨b, c b⟩ :: σ)) → opV P W o.op env σ k
def gapOk (ops : Array Oper) (m1 m2 : Nat) : Bool := headOk ops (m2 + 1) && decide (m1 < m2) && (List.range m2).all fun i => !(decide (m1 < i)) || ancB ops (m2 + 1) i m1
def D7 (P : Program) (W : World) (ops : Array Oper) (Q : Env → Mem → Prop) (env : Env) (σ : Mem) : Prop :=
  ∃ (m1 m2 : Nat) (o1 o2 : Oper) (p2 : Nat → PV) (c2 : Nat → Cont), gapOk ops m1 m2 = true ∧ ops[m1]? = some o1 ∧ ops[m2]? = some o2 ∧ Grows P W o2 p2 c2 ∧
    headF P W ops σ (fun env1 => ∃ (p1 : Nat → PV) (c1 : Nat → Cont), GrowsE P W o1 env1 p1 c1 ∧ ∀ b1, putF env1 o1.dst (p1 b1) fun env2 =>
      headF P W ops σ (fun env3 => ∀ b2, putF env3 o2.dst (p2 b2) fun env4 => vcOpsF P W ops Q (ops.toList.drop (m2 + 1)) env4 (⟨b2, c2 b2⟩ :: ⟨b1, c1 b1⟩ :: σ)) ((ops.toList.take m2).drop (m1 + 1)) env2) (ops.toList.take m1) env
theorem D7_ok (hm : P.follows .mixedOrders = true) : DrawOk P W (D7 P W) := by
  intro ds nt id ops Q env σ K a w hok h hs
  obtain ⟨m1, m2, o1, o2, p2, c2, hh, ho1, ho2, hg2, hv⟩ := h
  simp only [headF_eq, vcOpsF_eq, putF_eq] at hv
  obtain ⟨vA, hlA, hcA, p1, c1, hg1, hv1⟩ := headV_cert _ _ hv
  have hv2 : ∀ b1, ∃ vs, vs.length = ((ops.toList.take m2).drop (m1 + 1)).length ∧ Cert P W ops σ ((ops.toList.take m2).drop (m1 + 1)) (updO (envAt env (ops.toList.take m1) vA) o1.dst (p1 b1)) vs ∧
      ∀ b2, vcOps P W ops (Q .normal) (ops.toList.drop (m2 + 1)) (updO (envAt (updO (envAt env (ops.toList.take m1) vA) o1.dst (p1 b1)) ((ops.toList.take m2).drop (m1 + 1)) vs) o2.dst (p2 b2)) (⟨b2, c2 b2⟩ :: ⟨b1, c1 b1⟩ :: σ) := fun b1 => headV_cert _ _ (hv1 b1)
  obtain ⟨vC, hvC⟩ := Classical.skolem.1 hv2
  unfold gapOk at hh
  simp only [Bool.and_eq_true, decide_eq_true_eq] at hh
  obtain ⟨⟨hh, hlt⟩, hanc⟩ := hh
  have hf := headOk_spec hh
  have hopl : ∀ k : Nat, ops.toList[k]? = ops[k]? := fun k => by simp
  have hm2 : m2 < ops.size := (Array.getElem?_eq_some_iff.1 ho2).1
  have hA : vA.length = m1 := by rw [hlA]; simp; omega
  have hCl : ((ops.toList.take m2).drop (m1 + 1)).length = m2 - (m1 + 1) := by simp; omega
  have hC : ∀ b, (vC b).length = m2 - (m1 + 1) := fun b => by rw [(hvC b).1, hCl]
  let V : Option Nat → Option Nat → List PV := fun x1 x2 => vA ++ ([valO p1 x1] ++ (vC (x1.getD 0) ++ [valO p2 x2]))
  have gA : ∀ x1 x2 j, j < m1 → (V x1 x2).getD j .dead = vA.getD j .dead := fun x1 x2 j hj => by
    simp only [V, List.getD_eq_getElem?_getD, List.getElem?_append_left (show j < vA.length by omega)]
  have g1 : ∀ x1 x2, (V x1 x2).getD m1 .dead = valO p1 x1 := fun x1 x2 => by
    simp only [V, List.getD_eq_getElem?_getD]
    rw [List.getElem?_append_right (by omega), show m1 - vA.length = 0 by omega]; rfl
  have gC : ∀ x1 x2 k, k < m2 - (m1 + 1) → (V x1 x2).getD (m1 + 1 + k) .dead = (vC (x1.getD 0)).getD k .dead := fun x1 x2 k hk => by
    have := hC (x1.getD 0)
    simp only [V, List.getD_eq_getElem?_getD]
    rw [List.getElem?_append_right (by omega), show m1 + 1 + k - vA.length = k + 1 by omega, List.getElem?_append_right (by simp), List.length_singleton, Nat.add_sub_cancel, List.getElem?_append_left (by omega)]
  have g2 : ∀ x1 x2, (V x1 x2).getD m2 .dead = valO p2 x2 := fun x1 x2 => by
    have := hC (x1.getD 0)
    simp only [V, List.getD_eq_getElem?_getD]
    rw [List.getElem?_append_right (by omega), List.getElem?_append_right (by simp; omega), List.length_singleton, List.getElem?_append_right (by omega), show m2 - vA.length - 1 - (vC (x1.getD 0)).length = 0 by omega]; rfl
  have tA : ∀ x1 x2 i, i ≤ m1 → (V x1 x2).take i = vA.take i := fun x1 x2 i hi => by
    simp only [V]; rw [List.take_append_of_le_length (by omega)]
  have e1 : ∀ k, k ≤ m2 - (m1 + 1) → ops.toList.take (m1 + 1 + k) = ops.toList.take m1 ++ ([o1] ++ ((ops.toList.take m2).drop (m1 + 1)).take k) := fun k hk => by
    have e : ops.toList.take (m1 + 1) = ops.toList.take m1 ++ [o1] := take_snoc_of (by rw [hopl]; exact ho1)
    rw [← List.append_assoc, ← e, List.take_add, List.drop_take, List.take_take, show min k (m2 - (m1 + 1)) = k by omega]
  have tC : ∀ x1 x2 k, k ≤ m2 - (m1 + 1) → (V x1 x2).take (m1 + 1 + k) = vA ++ ([valO p1 x1] ++ (vC (x1.getD 0)).take k) := fun x1 x2 k hk => by
    have := hC (x1.getD 0)
    simp only [V]
    rw [show m1 + 1 + k = vA.length + (1 + k) by omega, List.take_length_add_append]
    congr 1
    rw [show 1 + k = ([valO p1 x1] : List PV).length + k by simp, List.take_length_add_append]
    congr 1
    rw [List.take_append_of_le_length (by omega)]
  have hmlA : vA.length = (ops.toList.take m1).length := hlA
  have eE : ∀ b x2 k, k ≤ m2 - (m1 + 1) → envAt env (ops.toList.take (m1 + 1 + k)) ((V (some b) x2).take (m1 + 1 + k)) = envAt (updO (envAt env (ops.toList.take m1) vA) o1.dst (p1 b)) (((ops.toList.take m2).drop (m1 + 1)).take k) ((vC b).take k) := fun b x2 k hk => by
    rw [e1 k hk, tC _ _ k hk, envAt_append _ _ _ _ _ hmlA]
    rfl
  refine wp_region_any hm ?_
  have hleft : left (Array.replicate ops.size false) (m2 + 1) = m2 + 1 := by
    unfold left
    rw [List.countP_eq_length.2]
    · simp
    · intro i _
      rw [getD_replicate_false]; rfl
  have hsz : ops.size = (m2 + 1) + (ops.size - (m2 + 1)) := by have := hf.le; omega
  have hrun := gap_run (nt := nt) (K0 := K) (w0 := w) (Q := Q) (V := V) (p1 := p1) (p2 := p2) (c1 := c1) (c2 := c2) (σ := σ) (env := env) hf hok hlt (fun x1 x2 => by
      have := hC (x1.getD 0)
      simp only [V, List.length_append, List.length_singleton]; omega)
    (fun x1 x2 x1' x2' j hj => by rw [gA _ _ j hj, gA _ _ j hj])
    (fun x1 x2 x2' j hj => by
      by_cases h1 : j < m1
      · rw [gA _ _ j h1, gA _ _ j h1]
      · by_cases h2 : j = m1
        · subst h2; rw [g1, g1]
        · obtain ⟨k, rfl⟩ : ∃ k, j = m1 + 1 + k := ⟨j - (m1 + 1), by omega⟩
          rw [gC _ _ k (by omega), gC _ _ k (by omega)])
    g1 g2 ho1 ho2 hg1.1 (fun x1 x2 σ' k hk => by
      rw [tA _ _ m1 (Nat.le_refl _), List.take_of_length_le (l := vA) (by omega)]
      exact hg1.2 σ' k hk) hg2
    (fun x1 x2 i o hi ho => by
      have := cert_at _ _ _ hcA i o (by rw [List.getElem?_take, if_pos hi, hopl]; exact ho)
      rw [List.take_take, show min i m1 = i by omega] at this
      unfold CertAt
      rw [tA _ _ i (by omega), gA _ _ i hi]
      exact this)
    (fun b x2 i o h1 h2 ho => by
      obtain ⟨k, rfl⟩ : ∃ k, i = m1 + 1 + k := ⟨i - (m1 + 1), by omega⟩
      have := cert_at _ _ _ (hvC b).2.1 k o (by rw [List.getElem?_drop, List.getElem?_take, if_pos (by omega), hopl]; exact ho)
      unfold CertAt
      rw [eE b x2 k (by omega), gC _ _ k (by omega)]
      exact this)
    (fun i h1 h2 => by
      have := List.all_eq_true.1 hanc i (List.mem_range.2 h2)
      simpa [h1] using this)
    (fun b1 b2 => by
      have e2 : ops.toList.take (m2 + 1) = ops.toList.take m2 ++ [o2] := take_snoc_of (by rw [hopl]; exact ho2)
      have e3 : V (some b1) (some b2) = (V (some b1) (some b2)).take m2 ++ [p2 b2] := by
        have h3 := tC (some b1) (some b2) (m2 - (m1 + 1)) (Nat.le_refl _)
        rw [show m1 + 1 + (m2 - (m1 + 1)) = m2 by omega] at h3
        rw [h3, List.take_of_length_le (by rw [hC]; exact Nat.le_refl _)]
        simp [V, valO]
      have h4 := eE b1 (some b2) (m2 - (m1 + 1)) (Nat.le_refl _)
      rw [show m1 + 1 + (m2 - (m1 + 1)) = m2 by omega, List.take_of_length_le (l := List.drop (m1 + 1) (List.take m2 ops.toList)) (by rw [hCl]; exact Nat.le_refl _), List.take_of_length_le (l := vC b1) (by rw [hC]; exact Nat.le_refl _)] at h4
      rw [e2, e3, envAt_append _ _ _ _ _ (by
        have := hC b1
        simp [V]; omega), h4]
      exact (hvC b1).2.2 b2)
    (m2 + 1) none none σ (Array.replicate ops.size false) K w K a { w with drawn := w.drawn + 1 } ⟨⟨by simp, (fun j oj _ hl => by rw [getD_replicate_false] at hl; cases hl), (fun t _ ht => by simp [Array.getD, ht])⟩,
    hs.mem.drawn _, hs.pre.ext (Ext.drawn σ K w _), Ext.drawn σ K w _, hs.sz, hs.dfs, fun t _ => (Ext.drawn σ K w _).vrel (hs.env t), (fun t j _ _ hl => by rw [getD_replicate_false] at hl; cases hl), fun t j _ _ _ => (Ext.drawn σ K w _).vrel (hs.env t)⟩ (Ext.refl _ _ _) (.refl _) (getD_replicate_false _ _) (getD_replicate_false _ _) hleft
  rw [← hsz] at hrun
  exact hrun
inductive Draws7 (A B : Prop) : Prop
  | old (h : A)
  | gap (h : B)
def DI (P : Program) (W : World) (ops : Array Oper) (Q : Env → Mem → Prop) (env : Env) (σ : Mem) : Prop := Draws7 (DD P W ops Q env σ) (D7 P W ops Q env σ)
end Go.Eng
end
