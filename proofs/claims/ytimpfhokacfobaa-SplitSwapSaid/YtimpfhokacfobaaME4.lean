/- Texts put together: Eng21. -/
import Derived.Test.YtimpfhokacfobaaME3
/- The engine, part 21: a head with two operations at its end that make something new, in whatever order; a head whose last, guarded operation changes memory. -/
section
namespace Go.Eng
open Go

variable {P : Program} {W : World} {ds : List Deferred}

/-- An operation that makes a block, whatever is known. -/
def Grows (P : Program) (W : World) (o : Oper) (p : Nat → PV) (c : Nat → Cont) : Prop := o.guard = none ∧ ∀ (env : Env) (σ : Mem) (k : PV → Mem → Prop), (∀ b, k (p b) (⟨b, c b⟩ :: σ)) → opV P W o.op env σ k
def valO (p : Nat → PV) : Option Nat → PV
  | none => .dead
  | some b => p b
def memO (c : Nat → Cont) : Option Nat → Mem
  | none => []
  | some b => [⟨b, c b⟩]
/-- What holds behind an operation of a head that was done in its turn, where the values of the others stand. -/
theorem HInv.grown {nt : Nat} {ops : Array Oper} {n : Nat} {env : Env} {vs vs' : List PV} {σ σ' : Mem} {K0 K : Kn} {w0 w : World} {listed : Array Bool} {a : Act} {i : Nat} {om : Oper} {v : Value} {pv : PV} {K' : Kn} {w' : World}
    (hf : HeadFacts ops n) (hok : opsOk nt ops.toList = true) (h : HInv ds W nt ops n env vs σ K0 w0 listed K a w) (hi : i ∈ Region.ready .any ops listed) (hin : i < n) (hom : ops[i]? = some om)
    (hv : VRel K' w' pv v) (hm' : SatM K' σ' w') (hx : Ext σ K w σ' K' w') (e1 : vs'.getD i .dead = pv) (e2 : ∀ j, j ≠ i → vs'.getD j .dead = vs.getD j .dead) :
    HInv ds W nt ops n env vs' σ' K' w' (listed.setIfInBounds i true) K' (a.put om.dst v) w' := by
  have hlt : i < listed.size := by rw [h.head.size]; exact (Array.getElem?_eq_some_iff.1 hom).1
  have key : ∀ t j, j < n → dstIs ops j t = true → (j = i ∧ om.dst = some t) ∨ (j ≠ i ∧ om.dst ≠ some t) := fun t j hj hd => by
    by_cases e : j = i
    · subst e
      obtain ⟨o', ho', hd'⟩ := dstIs_spec.1 hd
      rw [hom] at ho'
      cases ho'
      exact .inl ⟨rfl, hd'⟩
    · exact .inr ⟨e, fun hd' => e (hf.uniq i om t hin hom hd' j hj hd)⟩
  refine ⟨h.head.set hi hin, hm', h.pre.ext hx, Ext.refl _ _ _, by cases om.dst <;> simp [Act.put, h.sz], by cases om.dst <;> exact h.dfs, fun t ht => ?_, fun t j hj hd hl => ?_, fun t j hj hd hl => ?_⟩
  · have : om.dst ≠ some t := fun e => by
      have := ht i hin
      rw [dstIs_spec.2 ⟨om, hom, e⟩] at this
      cases this
    rw [put_at this]; exact hx.vrel (h.other t ht)
  · rcases key t j hj hd with ⟨rfl, e⟩ | ⟨e, e'⟩
    · rw [e]
      have hd' : t < nt := by
        have := List.all_eq_true.1 hok om (by have := (Array.getElem?_eq_some_iff.1 hom); obtain ⟨h1, h2⟩ := this; rw [← h2]; simp)
        simpa [e] using this
      rw [put_self (by rw [h.sz]; exact hd'), e1]
      exact hv
    · rw [put_at e', e2 j e]
      rw [getD_set_ne false (Ne.symm e)] at hl
      exact hx.vrel (h.done t j hj hd hl)
  · rcases key t j hj hd with ⟨rfl, e⟩ | ⟨e, e'⟩
    · have : (listed.setIfInBounds j true).getD j false = true := by simp [Array.getD, hlt]
      rw [this] at hl; cases hl
    · rw [put_at e']
      rw [getD_set_ne false (Ne.symm e)] at hl
      exact hx.vrel (h.todo t j hj hd hl)
/-- Two that make something new, at the end of a head. -/
theorem two_run {nt : Nat} {ops : Array Oper} {m : Nat} {o1 o2 : Oper} {p1 p2 : Nat → PV} {c1 c2 : Nat → Cont} {env : Env} {vs : List PV} {σ : Mem} {K0 : Kn} {w0 : World} {Q : Exit → Env → Mem → Prop} (hf : HeadFacts ops (m + 2)) (hvs : vs.length = m) (hok : opsOk nt ops.toList = true)
    (ho1 : ops[m]? = some o1) (ho2 : ops[m + 1]? = some o2) (hg1 : Grows P W o1 p1 c1) (hg2 : Grows P W o2 p2 c2) (hcert : Cert P W ops σ (ops.toList.take m) env vs)
    (hk : ∀ b1 b2, vcOps P W ops (Q .normal) (ops.toList.drop (m + 2)) (updO (updO (envAt env (ops.toList.take m) vs) o1.dst (p1 b1)) o2.dst (p2 b2)) (⟨b2, c2 b2⟩ :: ⟨b1, c1 b1⟩ :: σ)) :
    ∀ (c : Nat) (x1 x2 : Option Nat) (σc : Mem) (listed : Array Bool) (K1 : Kn) (w1 : World) (K : Kn) (a : Act) (w : World), HInv ds W nt ops (m + 2) env (vs ++ [valO p1 x1, valO p2 x2]) σc K1 w1 listed K a w → Ext σ K0 w0 σc K1 w1 → σc.Perm (memO c2 x2 ++ (memO c1 x1 ++ σ)) →
      listed.getD m false = x1.isSome → listed.getD (m + 1) false = x2.isSome → left listed (m + 2) = c → wpAny P .any ops (After ds W nt Q σ K0 w0) (c + (ops.size - (m + 2))) listed a w := by
  intro c
  have hopl : ∀ k : Nat, ops.toList[k]? = ops[k]? := fun k => by simp
  have htk : ∀ (l : List PV) (i : Nat), i ≤ m → (vs ++ l).take i = vs.take i := fun l i hi => by rw [List.take_append_of_le_length (by omega)]
  have hget : ∀ (l : List PV) (i : Nat), i < m → (vs ++ l).getD i .dead = vs.getD i .dead := fun l i hi => by simp [List.getD_eq_getElem?_getD, List.getElem?_append_left (show i < vs.length by omega)]
  have hg0 : ∀ u v : PV, (vs ++ [u, v]).getD m .dead = u := fun u v => by simp [List.getD_eq_getElem?_getD, ← hvs]
  have hg1' : ∀ u v : PV, (vs ++ [u, v]).getD (m + 1) .dead = v := fun u v => by
    rw [List.getD_eq_getElem?_getD, List.getElem?_append_right (by omega), show m + 1 - vs.length = 1 by omega]; rfl
  have hbig : ∀ (u v : PV) j, j ≠ m → j ≠ m + 1 → ∀ u' v', (vs ++ [u, v]).getD j .dead = (vs ++ [u', v']).getD j .dead := fun u v j h1 h2 u' v' => by
    by_cases hj : j < m
    · rw [hget _ j hj, hget _ j hj]
    · rw [List.getD_eq_getElem?_getD, List.getD_eq_getElem?_getD, List.getElem?_eq_none (by simp; omega), List.getElem?_eq_none (by simp; omega)]
  induction c with
  | zero =>
    intro x1 x2 σc listed K1 w1 K a w h hx hp hl1 hl2 hl
    have hall := left_zero hl
    rw [hall m (by omega)] at hl1
    rw [hall (m + 1) (by omega)] at hl2
    obtain ⟨b1, rfl⟩ := Option.isSome_iff_exists.1 hl1.symm
    obtain ⟨b2, rfl⟩ := Option.isSome_iff_exists.1 hl2.symm
    obtain ⟨hlisted, hsat⟩ := h.fin hf (by simp [hvs]) hl
    have hok' : opsOk nt (ops.toList.drop (m + 2)) = true := by
      unfold opsOk at *
      rw [List.all_eq_true] at *
      exact fun o ho => hok o (List.mem_of_mem_drop ho)
    have hlen : (ops.toList.drop (m + 2)).length = ops.size - (m + 2) := by simp
    rw [Nat.zero_add, ← hlen]
    refine wpAny_of_seq (ops.toList.drop (m + 2)) (m + 2) listed a w (fun j => by rw [List.getElem?_drop, hopl]) (by rw [hlen, hlisted]; exact hf.seq) ?_
    have e1 : ops.toList.take (m + 2) = ops.toList.take m ++ [o1] ++ [o2] := by
      rw [take_snoc_of (show ops.toList[m + 1]? = some o2 by rw [hopl]; exact ho2), take_snoc_of (show ops.toList[m]? = some o1 by rw [hopl]; exact ho1)]
    have hml : (ops.toList.take m).length = m := by
      have := (Array.getElem?_eq_some_iff.1 ho1).1
      simp; omega
    have e2 : envAt env (ops.toList.take (m + 2)) (vs ++ [p1 b1, p2 b2]) = updO (updO (envAt env (ops.toList.take m) vs) o1.dst (p1 b1)) o2.dst (p2 b2) := by
      rw [e1, show vs ++ [p1 b1, p2 b2] = vs ++ [p1 b1] ++ [p2 b2] by simp, envAt_snoc _ _ _ _ _ (by simp [hvs, hml]), envAt_snoc _ _ _ _ _ (by rw [hvs, hml])]
    have hsat' : Sat ds W nt K (updO (updO (envAt env (ops.toList.take m) vs) o1.dst (p1 b1)) o2.dst (p2 b2)) (⟨b2, c2 b2⟩ :: ⟨b1, c1 b1⟩ :: σ) a w := by
      rw [← e2]
      exact ⟨hsat.mem.perm hp, ⟨hsat.pre.size, hsat.pre.base, fun k hk => hsat.pre.own k (hp.mem_iff.2 hk)⟩, hsat.sz, hsat.env, hsat.dfs⟩
    exact vcOps_sound _ _ _ K a w hok' (hk b1 b2) hsat' ((hx.trans h.ext).perm (.refl _) hp)
  | succ c ih =>
    intro x1 x2 σc listed K1 w1 K a w h hx hp hl1 hl2 hl
    obtain ⟨hne, hnx⟩ := h.next hf hl
    rw [show c + 1 + (ops.size - (m + 2)) = (c + (ops.size - (m + 2))) + 1 by omega]
    refine ⟨fun h0 => absurd h0 hne, fun i hi => ?_⟩
    obtain ⟨hin, hlm⟩ := hnx i hi
    obtain ⟨hun, o, ho, _⟩ := mem_ready.1 hi
    have hlt : i < listed.size := by rw [h.head.size]; exact (Array.getElem?_eq_some_iff.1 ho).1
    have hset : (listed.setIfInBounds i true).getD i false = true := by simp [Array.getD, hlt]
    have hopnd := h.opnds hf (by simp [hvs]) hi hin ho
    by_cases him : i < m
    · have hc : CertAt P W ops env (vs ++ [valO p1 x1, valO p2 x2]) σ i o := by
        have := cert_at _ _ _ hcert i o (by rw [List.getElem?_take, if_pos him, hopl]; exact ho)
        rw [List.take_take, show min i m = i by omega] at this
        unfold CertAt
        rw [htk _ i (by omega), hget _ i him]
        exact this
      refine h.opAt hf (by simp [hvs]) hok hi hin ho (τ := σ) (ρ := memO c2 x2 ++ memO c1 x1) (hp.trans (by rw [← List.append_assoc]; exact List.perm_append_comm)) hc fun K' a' w' h' => ih x1 x2 σc _ K1 w1 K' a' w' h' hx hp ?_ ?_ hlm
      · rw [getD_set_ne false (by omega)]; exact hl1
      · rw [getD_set_ne false (by omega)]; exact hl2
    · by_cases him' : i = m
      · subst him'
        rw [ho1] at ho; cases ho
        have hx1 : x1 = none := by
          have := getD_both hun
          rw [hl1] at this
          cases x1 <;> simp at this ⊢
        subst hx1
        unfold wpOp
        simp only [ho1]
        rw [if_pos (show Region.wanted o1 (yielded ops a.tmps) = true by simp [Region.wanted, hg1.1])]
        refine .inl (opV_sound (k := fun pv σ' => ∃ b, pv = p1 b ∧ σ' = ⟨b, c1 b⟩ :: σc) h.mem h.pre hopnd (hg1.2 _ _ _ fun b => ⟨b, rfl, rfl⟩) ?_)
        rintro v pv σ' K' w' ⟨b, rfl, rfl⟩ hv hm' hx'
        refine ih (some b) x2 _ _ K' w' K' _ w' (h.grown (vs' := vs ++ [p1 b, valO p2 x2]) hf hok hi hin ho1 hv hm' hx' (hg0 _ _) (fun j hj => ?_)) ((hx.trans h.ext).trans hx') ?_ (by rw [hset]; rfl) (by rw [getD_set_ne false (by omega)]; exact hl2) hlm
        · by_cases hj' : j = i + 1
          · subst hj'; rw [hg1', hg1']
          · exact hbig _ _ j hj hj' _ _
        · exact (hp.cons _).trans (by simp only [memO, List.nil_append, List.singleton_append]; exact List.perm_middle.symm)
      · obtain rfl : i = m + 1 := by omega
        rw [ho2] at ho; cases ho
        have hx2 : x2 = none := by
          have := getD_both hun
          rw [hl2] at this
          cases x2 <;> simp at this ⊢
        subst hx2
        unfold wpOp
        simp only [ho2]
        rw [if_pos (show Region.wanted o2 (yielded ops a.tmps) = true by simp [Region.wanted, hg2.1])]
        refine .inl (opV_sound (k := fun pv σ' => ∃ b, pv = p2 b ∧ σ' = ⟨b, c2 b⟩ :: σc) h.mem h.pre hopnd (hg2.2 _ _ _ fun b => ⟨b, rfl, rfl⟩) ?_)
        rintro v pv σ' K' w' ⟨b, rfl, rfl⟩ hv hm' hx'
        refine ih x1 (some b) _ _ K' w' K' _ w' (h.grown (vs' := vs ++ [valO p1 x1, p2 b]) hf hok hi hin ho2 hv hm' hx' (hg1' _ _) (fun j hj => ?_)) ((hx.trans h.ext).trans hx') ?_ (by rw [getD_set_ne false (by omega)]; exact hl1) (by rw [hset]; rfl) hlm
        · by_cases hj' : j = m
          · subst hj'; rw [hg0, hg0]
          · exact hbig _ _ j hj' hj _ _
        · exact hp.cons _
/-- A head, then two that make something new. -/
def D4 (P : Program) (W : World) (ops : Array Oper) (Q : Env → Mem → Prop) (env : Env) (σ : Mem) : Prop :=
  ∃ (m : Nat) (o1 o2 : Oper) (p1 p2 : Nat → PV) (c1 c2 : Nat → Cont), headOk ops (m + 2) = true ∧ ops[m]? = some o1 ∧ ops[m + 1]? = some o2 ∧ Grows P W o1 p1 c1 ∧ Grows P W o2 p2 c2 ∧
    headF P W ops σ (fun env' => ∀ b1 b2, putF env' o1.dst (p1 b1) fun env1 => putF env1 o2.dst (p2 b2) fun env2 => vcOpsF P W ops Q (ops.toList.drop (m + 2)) env2 (⟨b2, c2 b2⟩ :: ⟨b1, c1 b1⟩ :: σ)) (ops.toList.take m) env
theorem D4_ok (hm : P.follows .mixedOrders = true) : DrawOk P W (D4 P W) := by
  intro ds nt id ops Q env σ K a w hok h hs
  obtain ⟨m, o1, o2, p1, p2, c1, c2, hh, ho1, ho2, hg1, hg2, hv⟩ := h
  simp only [headF_eq, vcOpsF_eq, putF_eq] at hv
  obtain ⟨vs, hlen, hcert, hend⟩ := headV_cert _ _ hv
  have hf := headOk_spec hh
  have hmlt : m + 1 < ops.size := (Array.getElem?_eq_some_iff.1 ho2).1
  have hvs : vs.length = m := by rw [hlen]; simp; omega
  refine wp_region_any hm ?_
  have hleft : left (Array.replicate ops.size false) (m + 2) = m + 2 := by
    unfold left
    rw [List.countP_eq_length.2]
    · simp
    · intro i _
      rw [getD_replicate_false]; rfl
  have hsz : ops.size = (m + 2) + (ops.size - (m + 2)) := by have := hf.le; omega
  have hrun := two_run (nt := nt) (K0 := K) (w0 := w) (Q := Q) hf hvs hok ho1 ho2 hg1 hg2 hcert hend (m + 2) none none σ (Array.replicate ops.size false) K w K a { w with drawn := w.drawn + 1 } ⟨⟨by simp, (fun j oj _ hl => by rw [getD_replicate_false] at hl; cases hl), (fun t _ ht => by simp [Array.getD, ht])⟩,
    hs.mem.drawn _, hs.pre.ext (Ext.drawn σ K w _), Ext.drawn σ K w _, hs.sz, hs.dfs, fun t _ => (Ext.drawn σ K w _).vrel (hs.env t), (fun t j _ _ hl => by rw [getD_replicate_false] at hl; cases hl), fun t j _ _ _ => (Ext.drawn σ K w _).vrel (hs.env t)⟩ (Ext.refl _ _ _) (.refl _) (getD_replicate_false _ _) (getD_replicate_false _ _) hleft
  rw [← hsz] at hrun
  exact hrun
inductive Draws4 (A B : Prop) : Prop
  | old (h : A)
  | two (h : B)
def DF (P : Program) (W : World) (ops : Array Oper) (Q : Env → Mem → Prop) (env : Env) (σ : Mem) : Prop := Draws4 (DD P W ops Q env σ) (D4 P W ops Q env σ)
theorem DF_ok (hm : P.follows .mixedOrders = true) : DrawOk P W (DF P W) := by
  intro ds nt id ops Q env σ K a w hok h hs
  rcases h with h | h
  · exact DD_ok hm ds nt id ops Q env σ K a w hok h hs
  · exact D4_ok hm ds nt id ops Q env σ K a w hok h hs
end Go.Eng
end
