/- Texts put together: Eng23, Eng24. -/
import Derived.Test.YtimpfhokacfobaaME5
/- The engine, part 23: a head with two operations that make something new, then one that writes there, while others of the head may still be to come. -/
section
namespace Go.Eng
open Go

variable {P : Program} {W : World} {ds : List Deferred}

def threeOk (ops : Array Oper) (m : Nat) : Bool := headOk ops (m + 3) && noGuard ops (m + 2) && depAt ops (m + 2) m && depAt ops (m + 2) (m + 1)
theorem three_run {nt : Nat} {ops : Array Oper} {m : Nat} {o1 o2 o3 : Oper} {p1 p2 : Nat → PV} {c1 c2 : Nat → Cont} {env : Env} {vs : List PV} {σ : Mem} {K0 : Kn} {w0 : World} {Q : Exit → Env → Mem → Prop} (hf : HeadFacts ops (m + 3)) (hvs : vs.length = m) (hok : opsOk nt ops.toList = true)
    (ho1 : ops[m]? = some o1) (ho2 : ops[m + 1]? = some o2) (ho3 : ops[m + 2]? = some o3) (hg1 : Grows P W o1 p1 c1) (hg2 : Grows P W o2 p2 c2) (hg3 : o3.guard = none) (hd1 : depAt ops (m + 2) m = true) (hd2 : depAt ops (m + 2) (m + 1) = true) (hcert : Cert P W ops σ (ops.toList.take m) env vs)
    (hk : ∀ b1 b2, opV P W o3.op (updO (updO (envAt env (ops.toList.take m) vs) o1.dst (p1 b1)) o2.dst (p2 b2)) [⟨b2, c2 b2⟩, ⟨b1, c1 b1⟩] fun v τ => vcOps P W ops (Q .normal) (ops.toList.drop (m + 3)) (updO (updO (updO (envAt env (ops.toList.take m) vs) o1.dst (p1 b1)) o2.dst (p2 b2)) o3.dst v) (τ ++ σ)) :
    ∀ (c : Nat) (x1 x2 : Option Nat) (σc : Mem) (listed : Array Bool) (K1 : Kn) (w1 : World) (K : Kn) (a : Act) (w : World), HInv ds W nt ops (m + 3) env (vs ++ [valO p1 x1, valO p2 x2, .dead]) σc K1 w1 listed K a w → Ext σ K0 w0 σc K1 w1 → σc.Perm (memO c2 x2 ++ (memO c1 x1 ++ σ)) →
      listed.getD m false = x1.isSome → listed.getD (m + 1) false = x2.isSome → listed.getD (m + 2) false = false → left listed (m + 3) = c → wpAny P .any ops (After ds W nt Q σ K0 w0) (c + (ops.size - (m + 3))) listed a w := by
  intro c
  have hopl : ∀ k : Nat, ops.toList[k]? = ops[k]? := fun k => by simp
  have htk : ∀ (l : List PV) (i : Nat), i ≤ m → (vs ++ l).take i = vs.take i := fun l i hi => by rw [List.take_append_of_le_length (by omega)]
  have hget : ∀ (l : List PV) (i : Nat), i < m → (vs ++ l).getD i .dead = vs.getD i .dead := fun l i hi => by simp [List.getD_eq_getElem?_getD, List.getElem?_append_left (show i < vs.length by omega)]
  have hg0 : ∀ u v x : PV, (vs ++ [u, v, x]).getD m .dead = u := fun u v x => by simp [List.getD_eq_getElem?_getD, ← hvs]
  have hg1' : ∀ u v x : PV, (vs ++ [u, v, x]).getD (m + 1) .dead = v := fun u v x => by
    rw [List.getD_eq_getElem?_getD, List.getElem?_append_right (by omega), show m + 1 - vs.length = 1 by omega]; rfl
  have hg2' : ∀ u v x : PV, (vs ++ [u, v, x]).getD (m + 2) .dead = x := fun u v x => by
    rw [List.getD_eq_getElem?_getD, List.getElem?_append_right (by omega), show m + 2 - vs.length = 2 by omega]; rfl
  have hbig : ∀ (u v x : PV) j, j ≠ m → j ≠ m + 1 → j ≠ m + 2 → ∀ u' v' x', (vs ++ [u, v, x]).getD j .dead = (vs ++ [u', v', x']).getD j .dead := fun u v x j h1 h2 h3 u' v' x' => by
    by_cases hj : j < m
    · rw [hget _ j hj, hget _ j hj]
    · rw [List.getD_eq_getElem?_getD, List.getD_eq_getElem?_getD, List.getElem?_eq_none (by simp; omega), List.getElem?_eq_none (by simp; omega)]
  have hcat : ∀ (l : List PV) i o, i < m → ops[i]? = some o → CertAt P W ops env (vs ++ l) σ i o := fun l i o hi ho => by
    have := cert_at _ _ _ hcert i o (by rw [List.getElem?_take, if_pos hi, hopl]; exact ho)
    rw [List.take_take, show min i m = i by omega] at this
    unfold CertAt
    rw [htk _ i (by omega), hget _ i hi]
    exact this
  induction c with
  | zero =>
    intro x1 x2 σc listed K1 w1 K a w h hx hp hl1 hl2 hl3 hl
    have := left_zero hl (m + 2) (by omega)
    rw [hl3] at this; cases this
  | succ c ih =>
    intro x1 x2 σc listed K1 w1 K a w h hx hp hl1 hl2 hl3 hl
    obtain ⟨hne, hnx⟩ := h.next hf hl
    rw [show c + 1 + (ops.size - (m + 3)) = (c + (ops.size - (m + 3))) + 1 by omega]
    refine ⟨fun h0 => absurd h0 hne, fun i hi => ?_⟩
    obtain ⟨hin, hlm⟩ := hnx i hi
    obtain ⟨hun, o, ho, hall⟩ := mem_ready.1 hi
    have hlt : i < listed.size := by rw [h.head.size]; exact (Array.getElem?_eq_some_iff.1 ho).1
    have hset : (listed.setIfInBounds i true).getD i false = true := by simp [Array.getD, hlt]
    have hlen3 : (vs ++ [valO p1 x1, valO p2 x2, .dead]).length = m + 3 := by simp [hvs]
    have hopnd := h.opnds hf hlen3 hi hin ho
    by_cases him : i < m
    · refine h.opAt hf hlen3 hok hi hin ho (τ := σ) (ρ := memO c2 x2 ++ memO c1 x1) (hp.trans (by rw [← List.append_assoc]; exact List.perm_append_comm)) (hcat _ i o him ho) fun K' a' w' h' => ih x1 x2 σc _ K1 w1 K' a' w' h' hx hp ?_ ?_ ?_ hlm
      · rw [getD_set_ne false (by omega)]; exact hl1
      · rw [getD_set_ne false (by omega)]; exact hl2
      · rw [getD_set_ne false (by omega)]; exact hl3
    · by_cases him' : i = m
      · subst him'
        rw [ho1] at ho; cases ho
        have hx1 : x1 = none := by
          have := getD_both hun
          rw [hl1] at this
          cases x1 <;> simp at this ⊢
        subst hx1
        unfold wpOp
        simp only [ho1]
        rw [if_pos (show Region.wanted o1 (yielded ops a.tmps) = true by simp [Region.wanted, hg1.1])]
        refine .inl (opV_sound (k := fun pv σ' => ∃ b, pv = p1 b ∧ σ' = ⟨b, c1 b⟩ :: σc) h.mem h.pre hopnd (hg1.2 _ _ _ fun b => ⟨b, rfl, rfl⟩) ?_)
        rintro v pv σ' K' w' ⟨b, rfl, rfl⟩ hv hm' hx'
        refine ih (some b) x2 _ _ K' w' K' _ w' (h.grown (vs' := vs ++ [p1 b, valO p2 x2, .dead]) hf hok hi hin ho1 hv hm' hx' (hg0 _ _ _) (fun j hj => ?_)) ((hx.trans h.ext).trans hx') ?_ (by rw [hset]; rfl) (by rw [getD_set_ne false (by omega)]; exact hl2) (by rw [getD_set_ne false (by omega)]; exact hl3) hlm
        · by_cases hj' : j = i + 1
          · subst hj'; rw [hg1', hg1']
          · by_cases hj2 : j = i + 2
            · subst hj2; rw [hg2', hg2']
            · exact hbig _ _ _ j hj hj' hj2 _ _ _
        · exact (hp.cons _).trans (by simp only [memO, List.nil_append, List.singleton_append]; exact List.perm_middle.symm)
      · by_cases him2 : i = m + 1
        · subst him2
          rw [ho2] at ho; cases ho
          have hx2 : x2 = none := by
            have := getD_both hun
            rw [hl2] at this
            cases x2 <;> simp at this ⊢
          subst hx2
          unfold wpOp
          simp only [ho2]
          rw [if_pos (show Region.wanted o2 (yielded ops a.tmps) = true by simp [Region.wanted, hg2.1])]
          refine .inl (opV_sound (k := fun pv σ' => ∃ b, pv = p2 b ∧ σ' = ⟨b, c2 b⟩ :: σc) h.mem h.pre hopnd (hg2.2 _ _ _ fun b => ⟨b, rfl, rfl⟩) ?_)
          rintro v pv σ' K' w' ⟨b, rfl, rfl⟩ hv hm' hx'
          refine ih x1 (some b) _ _ K' w' K' _ w' (h.grown (vs' := vs ++ [valO p1 x1, p2 b, .dead]) hf hok hi hin ho2 hv hm' hx' (hg1' _ _ _) (fun j hj => ?_)) ((hx.trans h.ext).trans hx') ?_ (by rw [getD_set_ne false (by omega)]; exact hl1) (by rw [hset]; rfl) (by rw [getD_set_ne false (by omega)]; exact hl3) hlm
          · by_cases hj' : j = m
            · subst hj'; rw [hg0, hg0]
            · by_cases hj2 : j = m + 2
              · subst hj2; rw [hg2', hg2']
              · exact hbig _ _ _ j hj' hj hj2 _ _ _
          · exact hp.cons _
        · obtain rfl : i = m + 2 := by omega
          rw [ho3] at ho; cases ho
          have dep : ∀ k, depAt ops (m + 2) k = true → listed.getD k false = true := fun k hk => by
            obtain ⟨o', ho', e, he, hb, hon⟩ := depAt_spec hk
            rw [ho3] at ho'; cases ho'
            have := hall e he hb
            rwa [hon] at this
          rw [dep m hd1] at hl1
          rw [dep (m + 1) hd2] at hl2
          obtain ⟨b1, rfl⟩ := Option.isSome_iff_exists.1 hl1.symm
          obtain ⟨b2, rfl⟩ := Option.isSome_iff_exists.1 hl2.symm
          have hml : (ops.toList.take m).length = m := by
            have := (Array.getElem?_eq_some_iff.1 ho1).1
            simp; omega
          have e1 : ops.toList.take (m + 2) = ops.toList.take m ++ [o1] ++ [o2] := by
            rw [take_snoc_of (show ops.toList[m + 1]? = some o2 by rw [hopl]; exact ho2), take_snoc_of (show ops.toList[m]? = some o1 by rw [hopl]; exact ho1)]
          have e2 : envAt env (ops.toList.take (m + 2)) (vs ++ [p1 b1, p2 b2]) = updO (updO (envAt env (ops.toList.take m) vs) o1.dst (p1 b1)) o2.dst (p2 b2) := by
            rw [e1, show vs ++ [p1 b1, p2 b2] = vs ++ [p1 b1] ++ [p2 b2] by simp, envAt_snoc _ _ _ _ _ (by simp [hvs, hml]), envAt_snoc _ _ _ _ _ (by rw [hvs, hml])]
          have e3 : (vs ++ [valO p1 (some b1), valO p2 (some b2), .dead]).take (m + 2) = vs ++ [p1 b1, p2 b2] := by
            rw [show vs ++ [valO p1 (some b1), valO p2 (some b2), PV.dead] = (vs ++ [p1 b1, p2 b2]) ++ [PV.dead] by simp [valO], List.take_left' (by simp [hvs])]
          rw [e3, e2] at hopnd
          have hp' : σc.Perm (([⟨b2, c2 b2⟩, ⟨b1, c1 b1⟩] : Mem) ++ σ) := hp
          have hm1 := h.mem.perm hp'
          have hp1 : Pre W ([⟨b2, c2 b2⟩, ⟨b1, c1 b1⟩] : Mem) w := ⟨h.pre.size, h.pre.base, fun k hk => h.pre.own k (hp'.mem_iff.2 (List.mem_append_left _ hk))⟩
          unfold wpOp
          simp only [ho3]
          rw [if_pos (show Region.wanted o3 (yielded ops a.tmps) = true by simp [Region.wanted, hg3])]
          refine .inl (opV_sound hm1.left hp1 hopnd (hk b1 b2) ?_)
          intro v pv τ K' w' hkv hv hm' hx'
          have hmf := hm1.frame hm' hx'
          have hxf := hx'.frame.perm hp'.symm (.refl (τ ++ σ))
          have hH := h.grown (vs' := vs ++ [p1 b1, p2 b2, pv]) hf hok hi hin ho3 hv hmf hxf (hg2' _ _ _) (fun j hj => by
            by_cases hj' : j = m
            · subst hj'; rw [hg0, hg0]; rfl
            · by_cases hj2 : j = m + 1
              · subst hj2; rw [hg1', hg1']; rfl
              · exact hbig _ _ _ j hj' hj2 hj _ _ _)
          have hend : vcOps P W ops (Q .normal) (ops.toList.drop (m + 3)) (envAt env (ops.toList.take (m + 3)) (vs ++ [p1 b1, p2 b2, pv])) (τ ++ σ) := by
            rw [take_snoc_of (show ops.toList[m + 2]? = some o3 by rw [hopl]; exact ho3), show vs ++ [p1 b1, p2 b2, pv] = (vs ++ [p1 b1, p2 b2]) ++ [pv] by simp, envAt_snoc _ _ _ _ _ (by
              have := (Array.getElem?_eq_some_iff.1 ho3).1
              simp [hvs]; omega), e2]
            exact hkv
          refine late_run (L := fun j => j < m) hf (by simp [hvs]) hok ((hx.trans h.ext).trans hxf) hend (fun j oj hj hjm hoj => ⟨σ, τ, List.perm_append_comm, hcat _ j oj hjm hoj⟩) c _ K' _ w' hH (fun j hj hjl => ?_) hlm
          by_cases hj0 : j = m + 2
          · subst hj0; rw [hset] at hjl; cases hjl
          · rw [getD_set_ne false (Ne.symm hj0)] at hjl
            by_cases hj1 : j = m
            · subst hj1; rw [dep j hd1] at hjl; cases hjl
            · by_cases hj2 : j = m + 1
              · subst hj2; rw [dep (m + 1) hd2] at hjl; cases hjl
              · omega
/-- A head, then two that make something new, then one that writes there. -/
def D5 (P : Program) (W : World) (ops : Array Oper) (Q : Env → Mem → Prop) (env : Env) (σ : Mem) : Prop :=
  ∃ (m : Nat) (o1 o2 o3 : Oper) (p1 p2 : Nat → PV) (c1 c2 : Nat → Cont), threeOk ops m = true ∧ ops[m]? = some o1 ∧ ops[m + 1]? = some o2 ∧ ops[m + 2]? = some o3 ∧ Grows P W o1 p1 c1 ∧ Grows P W o2 p2 c2 ∧
    headF P W ops σ (fun env' => ∀ b1 b2, putF env' o1.dst (p1 b1) fun env1 => putF env1 o2.dst (p2 b2) fun env2 => opF P W o3.op env2 [⟨b2, c2 b2⟩, ⟨b1, c1 b1⟩] fun v τ => forceV v fun v => putF env2 o3.dst v fun env3 => vcOpsF P W ops Q (ops.toList.drop (m + 3)) env3 (τ ++ σ)) (ops.toList.take m) env
theorem D5_ok (hm : P.follows .mixedOrders = true) : DrawOk P W (D5 P W) := by
  intro ds nt id ops Q env σ K a w hok h hs
  obtain ⟨m, o1, o2, o3, p1, p2, c1, c2, hh, ho1, ho2, ho3, hg1, hg2, hv⟩ := h
  simp only [headF_eq, vcOpsF_eq, putF_eq, opF_eq, forceV_eq] at hv
  obtain ⟨vs, hlen, hcert, hend⟩ := headV_cert _ _ hv
  unfold threeOk at hh
  simp only [Bool.and_eq_true] at hh
  obtain ⟨⟨⟨hh, hng⟩, hd1⟩, hd2⟩ := hh
  have hg3 : o3.guard = none := by
    unfold noGuard at hng
    rw [ho3] at hng
    simpa using hng
  have hf := headOk_spec hh
  have hmlt : m + 2 < ops.size := (Array.getElem?_eq_some_iff.1 ho3).1
  have hvs : vs.length = m := by rw [hlen]; simp; omega
  refine wp_region_any hm ?_
  have hleft : left (Array.replicate ops.size false) (m + 3) = m + 3 := by
    unfold left
    rw [List.countP_eq_length.2]
    · simp
    · intro i _
      rw [getD_replicate_false]; rfl
  have hsz : ops.size = (m + 3) + (ops.size - (m + 3)) := by have := hf.le; omega
  have hrun := three_run (nt := nt) (K0 := K) (w0 := w) (Q := Q) hf hvs hok ho1 ho2 ho3 hg1 hg2 hg3 hd1 hd2 hcert hend (m + 3) none none σ (Array.replicate ops.size false) K w K a { w with drawn := w.drawn + 1 } ⟨⟨by simp, (fun j oj _ hl => by rw [getD_replicate_false] at hl; cases hl), (fun t _ ht => by simp [Array.getD, ht])⟩,
    hs.mem.drawn _, hs.pre.ext (Ext.drawn σ K w _), Ext.drawn σ K w _, hs.sz, hs.dfs, fun t _ => (Ext.drawn σ K w _).vrel (hs.env t), (fun t j _ _ hl => by rw [getD_replicate_false] at hl; cases hl), fun t j _ _ _ => (Ext.drawn σ K w _).vrel (hs.env t)⟩ (Ext.refl _ _ _) (.refl _) (getD_replicate_false _ _) (getD_replicate_false _ _) (getD_replicate_false _ _) hleft
  rw [← hsz] at hrun
  exact hrun
inductive Draws6 (A B : Prop) : Prop
  | old (h : A)
  | three (h : B)
def DH (P : Program) (W : World) (ops : Array Oper) (Q : Env → Mem → Prop) (env : Env) (σ : Mem) : Prop := Draws6 (DD P W ops Q env σ) (D5 P W ops Q env σ)
theorem DH_ok (hm : P.follows .mixedOrders = true) : DrawOk P W (DH P W) := by
  intro ds nt id ops Q env σ K a w hok h hs
  rcases h with h | h
  · exact DD_ok hm ds nt id ops Q env σ K a w hok h hs
  · exact D5_ok hm ds nt id ops Q env σ K a w hok h hs
end Go.Eng
end

/- The engine, part 24: a test whose ways come together. -/
section
namespace Go.Eng
open Go
/-- Run on, but stop at a test. -/
theorem gj_ {p q : Prop} (hq : q) (h : Hide q → p := by (intro hq_; refine wh ?_; (repeat ((first | (refine GuardC.part ?_; refine wh ?_; fail_if_success refine brec ?_) | (apply GuardC.sp; (case' h1 => (refine wh ?_; (repeat ((refine need.mk ?_ ?_; focus (first | with_reducible exact fun h => h | with_reducible exact not_of_false | exact fun _ => rfl | (intro h_; simp [h_]; done) | (intro h_; simp_all; done))); refine wh ?_)); exact trivial)); (case' h2 => (intro hg_; (refine wh ?_; repeat ((first | (apply RowAt.mk; (case' hl => (repeat (first | exact .here _ _ _ | apply Look.there | exact Look.fam (by assumption) _)))) | refine Fits.ok (by omega) (by omega) ?_ | (refine need.mk ?_ ?_; focus (first | (first | omega | exact wkMem.skip wkMem.rfl' | rfl | (simp; done) | (simp [cellsB, PV.flat, cellB]; done) | (simp <;> omega) | (simp only [true_and, and_true, Bool.true_and, Bool.and_true, Bool.not_true, Bool.not_false, Bool.and_eq_true, Bool.not_eq_true, Bool.not_eq_false, Bool.or_eq_true, Bool.not_eq_true', Bool.not_eq_false', decide_eq_true_eq, decide_eq_false_iff_not, Decidable.not_not, ne_eq, beq_iff_eq]; omega) | (rw [Bool.eq_false_iff]; simp only [true_and, and_true, Bool.true_and, Bool.and_true, Bool.not_true, Bool.not_false, Bool.and_eq_true, Bool.not_eq_true, Bool.not_eq_false, Bool.or_eq_true, Bool.not_eq_true', Bool.not_eq_false', decide_eq_true_eq, decide_eq_false_iff_not, Decidable.not_not, ne_eq, beq_iff_eq]; omega)) | (simp at hg_; omega) | (intros; simp_all; done) | (intros; simp_all; omega))) | (refine New1.mk fun b_ hb_ => ?_; clear hb_) | (refine New2.mk fun b_ hb_ => ?_; clear hb_) | (refine Nat1.mk fun q_ hq_ => ?_; (first | (obtain rfl := Int.ofNat.inj hq_; clear hq_) | skip)) | refine at_known (by assumption) ?_ | (refine Elem1.mk fun e_ he_ => ?_; (first | (obtain ⟨x_, hx_, rfl⟩ := getMap he_; clear he_) | (obtain rfl := Option.some.inj he_; clear he_) | skip)) | (refine Lst1.mk fun s_ hs_ => ?_; (try simp only [List.take_length, List.drop_zero, ← List.map_take, ← List.map_drop] at hs_); subst hs_)); refine wh ?_)); refine And.intro ?_ rfl; exact Eq.refl _))) | refine GuardC.part ?_ | (refine needO.mk ?_ ?_; focus (refine wh ?_; (repeat ((refine need.mk ?_ ?_; focus (first | with_reducible exact fun h => h | with_reducible exact not_of_false | exact fun _ => rfl | (intro h_; simp [h_]; done) | (intro h_; simp_all; done))); refine wh ?_)); exact trivial)) | with_reducible refine need.mk (fun h => h) ?_ | with_reducible refine need.mk not_of_false ?_ | (apply RowAt.mk; (case' hl => (repeat (first | exact .here _ _ _ | apply Look.there | exact Look.fam (by assumption) _)))) | refine Fits.ok (by omega) (by omega) ?_ | (refine need.mk ?_ ?_; focus (first | omega | exact wkMem.skip wkMem.rfl' | rfl | (simp; done) | (simp [cellsB, PV.flat, cellB]; done) | (simp <;> omega) | (simp only [true_and, and_true, Bool.true_and, Bool.and_true, Bool.not_true, Bool.not_false, Bool.and_eq_true, Bool.not_eq_true, Bool.not_eq_false, Bool.or_eq_true, Bool.not_eq_true', Bool.not_eq_false', decide_eq_true_eq, decide_eq_false_iff_not, Decidable.not_not, ne_eq, beq_iff_eq]; omega) | (rw [Bool.eq_false_iff]; simp only [true_and, and_true, Bool.true_and, Bool.and_true, Bool.not_true, Bool.not_false, Bool.and_eq_true, Bool.not_eq_true, Bool.not_eq_false, Bool.or_eq_true, Bool.not_eq_true', Bool.not_eq_false', decide_eq_true_eq, decide_eq_false_iff_not, Decidable.not_not, ne_eq, beq_iff_eq]; omega))) | refine at_known (by assumption) ?_ | (refine InsAt.new ?_; refine wh ?_; apply MapAt.mk; (case' hl => (repeat (first | exact .here _ _ _ | apply Look.there)))) | refine Nat1.o ?_ | refine Lst1.m ?_ | refine ek_ ?_); refine wh ?_)); exact Hide.out hq_)) : p := h ⟨hq⟩
theorem gdj_ {p q : Prop} (hq : q) (h : Hide q → p := by (intro hq_; refine wh ?_; (repeat ((first | (refine GuardC.part ?_; refine wh ?_; fail_if_success refine brec ?_) | (apply GuardC.sp; (case' h1 => (refine wh ?_; (repeat ((refine need.mk ?_ ?_; focus (first | with_reducible exact fun h => h | with_reducible exact not_of_false | exact fun _ => rfl | (intro h_; simp [h_]; done) | (intro h_; simp_all; done))); refine wh ?_)); exact trivial)); (case' h2 => (intro hg_; (refine wh ?_; repeat ((first | (apply RowAt.mk; (case' hl => (repeat (first | exact .here _ _ _ | apply Look.there | exact Look.fam (by assumption) _)))) | refine Fits.ok (by omega) (by omega) ?_ | (refine need.mk ?_ ?_; focus (first | (first | omega | exact wkMem.skip wkMem.rfl' | rfl | (simp; done) | (simp [cellsB, PV.flat, cellB]; done) | (simp <;> omega) | (simp only [true_and, and_true, Bool.true_and, Bool.and_true, Bool.not_true, Bool.not_false, Bool.and_eq_true, Bool.not_eq_true, Bool.not_eq_false, Bool.or_eq_true, Bool.not_eq_true', Bool.not_eq_false', decide_eq_true_eq, decide_eq_false_iff_not, Decidable.not_not, ne_eq, beq_iff_eq]; omega) | (rw [Bool.eq_false_iff]; simp only [true_and, and_true, Bool.true_and, Bool.and_true, Bool.not_true, Bool.not_false, Bool.and_eq_true, Bool.not_eq_true, Bool.not_eq_false, Bool.or_eq_true, Bool.not_eq_true', Bool.not_eq_false', decide_eq_true_eq, decide_eq_false_iff_not, Decidable.not_not, ne_eq, beq_iff_eq]; omega)) | (simp at hg_; omega) | (intros; simp_all; done) | (intros; simp_all; omega))) | (refine New1.mk fun b_ hb_ => ?_; clear hb_) | (refine New2.mk fun b_ hb_ => ?_; clear hb_) | (refine Nat1.mk fun q_ hq_ => ?_; (first | (obtain rfl := Int.ofNat.inj hq_; clear hq_) | skip)) | refine at_known (by assumption) ?_ | (refine Elem1.mk fun e_ he_ => ?_; (first | (obtain ⟨x_, hx_, rfl⟩ := getMap he_; clear he_) | (obtain rfl := Option.some.inj he_; clear he_) | skip)) | (refine Lst1.mk fun s_ hs_ => ?_; (try simp only [List.take_length, List.drop_zero, ← List.map_take, ← List.map_drop] at hs_); subst hs_)); refine wh ?_)); refine And.intro ?_ rfl; exact Eq.refl _))) | refine GuardC.part ?_ | (refine needO.mk ?_ ?_; focus (refine wh ?_; (repeat ((refine need.mk ?_ ?_; focus (first | with_reducible exact fun h => h | with_reducible exact not_of_false | exact fun _ => rfl | (intro h_; simp [h_]; done) | (intro h_; simp_all; done))); refine wh ?_)); exact trivial)) | with_reducible refine need.mk (fun h => h) ?_ | with_reducible refine need.mk not_of_false ?_ | (apply RowAt.mk; (case' hl => (repeat (first | exact .here _ _ _ | apply Look.there | exact Look.fam (by assumption) _)))) | refine Fits.ok (by omega) (by omega) ?_ | (refine need.mk ?_ ?_; focus (first | omega | exact wkMem.skip wkMem.rfl' | rfl | (simp; done) | (simp [cellsB, PV.flat, cellB]; done) | (simp <;> omega) | (simp only [true_and, and_true, Bool.true_and, Bool.and_true, Bool.not_true, Bool.not_false, Bool.and_eq_true, Bool.not_eq_true, Bool.not_eq_false, Bool.or_eq_true, Bool.not_eq_true', Bool.not_eq_false', decide_eq_true_eq, decide_eq_false_iff_not, Decidable.not_not, ne_eq, beq_iff_eq]; omega) | (rw [Bool.eq_false_iff]; simp only [true_and, and_true, Bool.true_and, Bool.and_true, Bool.not_true, Bool.not_false, Bool.and_eq_true, Bool.not_eq_true, Bool.not_eq_false, Bool.or_eq_true, Bool.not_eq_true', Bool.not_eq_false', decide_eq_true_eq, decide_eq_false_iff_not, Decidable.not_not, ne_eq, beq_iff_eq]; omega))) | refine at_known (by assumption) ?_ | (refine InsAt.new ?_; refine wh ?_; apply MapAt.mk; (case' hl => (repeat (first | exact .here _ _ _ | apply Look.there)))) | refine Nat1.o ?_ | refine Lst1.m ?_ | refine ek_ ?_ | ((first | (refine brec_t2 ?_ ?_; focus (first | (simp only [true_and, and_true, Bool.true_and, Bool.and_true, Bool.not_true, Bool.not_false, Bool.and_eq_true, Bool.not_eq_true, Bool.not_eq_false, Bool.or_eq_true, Bool.not_eq_true', Bool.not_eq_false', decide_eq_true_eq, decide_eq_false_iff_not, Decidable.not_not, ne_eq, beq_iff_eq]; omega) | (simp_all; done))) | (refine brec_f2 ?_ ?_; focus (first | (rw [Bool.eq_false_iff]; simp only [true_and, and_true, Bool.true_and, Bool.and_true, Bool.not_true, Bool.not_false, Bool.and_eq_true, Bool.not_eq_true, Bool.not_eq_false, Bool.or_eq_true, Bool.not_eq_true', Bool.not_eq_false', decide_eq_true_eq, decide_eq_false_iff_not, Decidable.not_not, ne_eq, beq_iff_eq]; omega) | (simp_all; done)))); intro hd_; (try rw [hd_]); clear hd_)); refine wh ?_)); exact Hide.out hq_)) : p := h ⟨hq⟩
/-- The end of a way. -/
theorem jx_ {α : Type} {R : α → Prop} {L : α → List (Nat × PV)} {M : α → Mem} {env : Env} {σ : Mem} (y : α) (hR : R y)
    (hE : wkEnv env (L y) := by ((repeat (refine wkEnv.cons (by first | rfl | ((conv => lhs; whnf); first | rfl | (congr 1; (try push_cast); omega) | (congr 1; simp; done) | (congr 1; simp; omega) | (simp; done) | (simp [*]; done))) ?_)); exact wkEnv.nil)) (hM : wkMem σ (M y) := by (first | exact ⟨_, .refl _⟩ | exact wkMem.rfl' | exact ⟨_, .swap _ _ _⟩ | (repeat (first | exact wkMem.nil _ | exact wkMem.rfl' | exact wk_snoc _ _ _ | exact wk_fam (by assumption) _ _ _ | exact wk_famN (by assumption) _ _ _ | (apply wkMem.cons; (case' hl => (repeat (first | exact .here _ _ _ | apply Look.there)))) | apply wkMem.skip)))) : ∃ y, R y ∧ wkEnv env (L y) ∧ wkMem σ (M y) := ⟨y, hR, hE, hM⟩
/-- Both ways of a test come together. -/
theorem joinT {F : Prop} {a : VC} {Q : Exit → Env → Mem → Prop} {env : Env} {σ : Mem} {x : Bool} {G H : (α : Type) → (α → List (Nat × PV)) → (α → Mem) → (α → Prop) → Prop} {α : Type} (L : α → List (Nat × PV)) (us : List (Nat × PV)) (M : α → Mem) (R : α → Prop)
    (h1 : G α (fun y => L y ++ us) M R) (h2 : H α (fun y => L y ++ us) M R) (_hu : wkEnv env us := by ((repeat (refine wkEnv.cons (by first | ((conv => lhs; whnf); done) | ((conv => lhs; whnf); exact rfl)) ?_)); exact wkEnv.nil)) :
    CondC (@Bool.rec (fun _ => Prop) F (a Q env σ) x) (∃ (α : Type) (L : α → List (Nat × PV)) (M : α → Mem) (R : α → Prop), G α L M R ∧ H α L M R) := .join ⟨α, fun y => L y ++ us, M, R, h1, h2⟩
theorem joinF {F : Prop} {a : VC} {Q : Exit → Env → Mem → Prop} {env : Env} {σ : Mem} {x : Bool} {G H : (α : Type) → (α → List (Nat × PV)) → (α → Mem) → (α → Prop) → Prop} {α : Type} (L : α → List (Nat × PV)) (us : List (Nat × PV)) (M : α → Mem) (R : α → Prop)
    (h1 : G α (fun y => L y ++ us) M R) (h2 : H α (fun y => L y ++ us) M R) (_hu : wkEnv env us := by ((repeat (refine wkEnv.cons (by first | ((conv => lhs; whnf); done) | ((conv => lhs; whnf); exact rfl)) ?_)); exact wkEnv.nil)) :
    CondC (@Bool.rec (fun _ => Prop) (a Q env σ) F x) (∃ (α : Type) (L : α → List (Nat × PV)) (M : α → Mem) (R : α → Prop), G α L M R ∧ H α L M R) := .join ⟨α, fun y => L y ++ us, M, R, h1, h2⟩
end Go.Eng
end
