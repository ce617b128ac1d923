/- Texts put together: Spl5, Spl6, Spl4, Spl7, Spl8. -/
import Derived.Test.YtkenlcaifhffoaaDoorMSA
/- Splits: right ones, their panes; both checks agree (plain). -/
section
namespace Go.Eng.YtkenlcaifhffoaaDoor
open Go Go.Eng Go.Proofs
set_option linter.unusedSimpArgs false
set_option maxRecDepth 100000
set_option linter.unusedVariables false
mutual
def panesT : Spl → List Int
  | .mk w p s ks => if w = 0 then [p] else panesTs ks
def panesTs : List Spl → List Int
  | [] => []
  | k :: ks => panesT k ++ panesTs ks
end
theorem panesTs_eq : ∀ ks : List Spl, panesTs ks = ks.flatMap panesT
  | [] => rfl
  | k :: ks => by rw [panesTs, panesTs_eq ks]; rfl
theorem panesT_mk (w p s : Int) (ks : List Spl) : panesT (.mk w p s ks) = if w = 0 then [p] else ks.flatMap panesT := by rw [panesT, panesTs_eq]
def ownR (w p s : Int) (n : Nat) (way : Int) (ps : List Int) : Int × List Int :=
  if s < 1 ∨ 9999 < s then (4, ps)
  else if w = 0 then
    if 0 < n then (5, ps)
    else if p < 1 ∨ 9999 < p then (4, ps)
    else if p ∈ ps then (7, ps)
    else if 12 ≤ ps.length then (2, ps)
    else (0, ps ++ [p])
  else if (w < 1 ∨ 2 < w) ∨ w = way ∨ n < 2 ∨ p ≠ 0 then (5, ps)
  else (0, ps)
mutual
def chkT : Spl → Int → List Int → Int × List Int
  | .mk w p s ks, way, ps => if (ownR w p s ks.length way ps).1 ≠ 0 ∨ w = 0 then ownR w p s ks.length way ps else chkTs ks w (ownR w p s ks.length way ps).2
def chkTs : List Spl → Int → List Int → Int × List Int
  | [], _, ps => (0, ps)
  | k :: ks, w, ps => if (chkT k w ps).1 ≠ 0 then chkT k w ps else chkTs ks w (chkT k w ps).2
end
theorem visS_bad (t : Spl) (way : Int) {st : Int × List Int} (h : st.1 ≠ 0) : visS t way st = st := by
  obtain ⟨w, p, s, ks⟩ := t
  rw [visS_mk, if_pos h]
theorem foldl_bad (w : Int) : ∀ (ks : List Spl) {st : Int × List Int}, st.1 ≠ 0 → ks.foldl (fun st k => visS k w st) st = st
  | [], st, h => rfl
  | k :: ks, st, h => by
    rw [List.foldl_cons, visS_bad k w h, foldl_bad w ks h]
theorem own_both (w p s : Int) (n : Nat) (way : Int) {ps : List Int} (h : ps.length ≤ 12) : (ownS w p s n way ps).1 = (ownR w p s n way ps).1 ∧ ((ownS w p s n way ps).1 = 0 → (ownS w p s n way ps).2 = (ownR w p s n way ps).2) := by
  unfold ownS ownR
  by_cases h1 : s < 1 ∨ 9999 < s
  · simp [h1]
  · by_cases h2 : w = 0
    · by_cases h3 : 0 < n
      · simp [h1, h2, h3]
      · by_cases h4 : p < 1 ∨ 9999 < p
        · simp [h1, h2, h3, h4]
        · by_cases h5 : p ∈ ps
          · simp [h1, h2, h3, h4, h5]
          · by_cases h6 : ps.length = 12
            · simp [h1, h2, h3, h4, h5, h6]
            · have : ¬ 12 ≤ ps.length := by omega
              simp [h1, h2, h3, h4, h5, h6, this]
    · have e : ((w ≠ 1 ∧ w ≠ 2) ∨ w = way ∨ n < 2 ∨ p ≠ 0) ↔ ((w < 1 ∨ 2 < w) ∨ w = way ∨ n < 2 ∨ p ≠ 0) := by omega
      rw [if_neg h1, if_neg h1, if_neg h2, if_neg h2]
      by_cases h3 : (w < 1 ∨ 2 < w) ∨ w = way ∨ n < 2 ∨ p ≠ 0
      · rw [if_pos h3, if_pos (e.2 h3)]; simp
      · rw [if_neg h3, if_neg (fun c => h3 (e.1 c))]; simp
theorem ownS_leaf {w p s : Int} {n : Nat} {way : Int} {ps : List Int} (h : (ownS w p s n way ps).1 = 0) (hw : w = 0) : n = 0 := by
  unfold ownS at h
  (repeat' split at h) <;> first | omega | (simp at h)
theorem checks_agree (t : Spl) : ∀ (way : Int) (ps : List Int), ps.length ≤ 12 → (visS t way (0, ps)).1 = (chkT t way ps).1 ∧ ((visS t way (0, ps)).1 = 0 → (visS t way (0, ps)).2 = (chkT t way ps).2) := by
  induction t using spl_induct with
  | h w p s ks ih =>
    intro way ps hp
    have ho := own_both w p s ks.length way hp
    have hf := ownS_few w p s ks.length way hp
    rw [visS_mk, chkT]
    simp only [ne_eq, not_true_eq_false, if_false]
    by_cases h0 : (ownR w p s ks.length way ps).1 = 0
    · have hS : (ownS w p s ks.length way ps).1 = 0 := ho.1.trans h0
      have hE : ownS w p s ks.length way ps = (0, (ownR w p s ks.length way ps).2) := Prod.ext hS (ho.2 hS)
      by_cases hw : w = 0
      · have hn := ownS_leaf hS hw
        have : ks = [] := List.length_eq_zero_iff.1 hn
        rw [if_pos (.inr hw)]
        subst this
        exact ⟨ho.1, ho.2⟩
      · rw [if_neg (by simp [h0, hw]), hE]
        have hl2 : (ownR w p s ks.length way ps).2.length ≤ 12 := by rw [← ho.2 hS]; exact hf.2 hS
        have key : ∀ (l : List Spl), (∀ k ∈ l, k ∈ ks) → ∀ qs : List Int, qs.length ≤ 12 → (l.foldl (fun st k => visS k w st) (0, qs)).1 = (chkTs l w qs).1 ∧ ((l.foldl (fun st k => visS k w st) (0, qs)).1 = 0 → (l.foldl (fun st k => visS k w st) (0, qs)).2 = (chkTs l w qs).2) := by
          intro l
          induction l with
          | nil => intro _ qs _; exact ⟨rfl, fun _ => rfl⟩
          | cons k l ihl =>
            intro hm qs hq
            obtain ⟨h1, h2⟩ := ih k (hm k (by simp)) w qs hq
            rw [List.foldl_cons, chkTs]
            by_cases h3 : (chkT k w qs).1 = 0
            · have h4 : (visS k w (0, qs)).1 = 0 := h1.trans h3
              have h5 : visS k w (0, qs) = (0, (chkT k w qs).2) := Prod.ext h4 (h2 h4)
              have hfw := visS_few k w (0, qs) ⟨by simp only; omega, fun _ => hq⟩
              rw [if_neg (by simp [h3]), h5]
              exact ihl (fun x hx => hm x (List.mem_cons_of_mem _ hx)) _ (by
                have := hfw.2 h4
                rw [h5] at this; exact this)
            · rw [if_pos h3, foldl_bad w l (by rw [h1]; exact h3)]
              exact ⟨h1, fun hc => absurd (h1.symm.trans hc) h3⟩
        exact key ks (fun _ h => h) _ hl2
    · have hS : (ownS w p s ks.length way ps).1 ≠ 0 := by rw [ho.1]; exact h0
      rw [if_pos (.inl h0), foldl_bad w ks hS]
      exact ⟨ho.1, fun hc => absurd hc hS⟩
mutual
def Spl.right : Spl → Int → Prop
  | .mk w p s ks, way => (1 ≤ s ∧ s ≤ 9999) ∧ ((w = 0 ∧ ks = [] ∧ 1 ≤ p ∧ p ≤ 9999) ∨ ((w = 1 ∨ w = 2) ∧ w ≠ way ∧ 2 ≤ ks.length ∧ p = 0 ∧ Spls.right ks w))
def Spls.right : List Spl → Int → Prop
  | [], _ => True
  | k :: ks, w => k.right w ∧ Spls.right ks w
end
theorem spls_right : ∀ {ks : List Spl} {w : Int}, Spls.right ks w ↔ ∀ k ∈ ks, k.right w
  | [], w => by simp [Spls.right]
  | k :: ks, w => by rw [Spls.right, spls_right]; simp
theorem right_mk {w p s : Int} {ks : List Spl} {way : Int} : (Spl.mk w p s ks).right way ↔ (1 ≤ s ∧ s ≤ 9999) ∧ ((w = 0 ∧ ks = [] ∧ 1 ≤ p ∧ p ≤ 9999) ∨ ((w = 1 ∨ w = 2) ∧ w ≠ way ∧ 2 ≤ ks.length ∧ p = 0 ∧ ∀ k ∈ ks, k.right w)) := by rw [Spl.right, spls_right]
theorem chk_right (t : Spl) : ∀ (way : Int) (ps : List Int), (chkT t way ps).1 = 0 → t.right way ∧ (chkT t way ps).2 = ps ++ panesT t ∧ (ps.length ≤ 12 → (ps ++ panesT t).length ≤ 12) ∧ (ps.Nodup → (ps ++ panesT t).Nodup) := by
  induction t using spl_induct with
  | h w p s ks ih =>
    intro way ps h
    rw [chkT] at h ⊢
    rw [panesT_mk, right_mk]
    by_cases h0 : (ownR w p s ks.length way ps).1 = 0
    · unfold ownR at h0
      by_cases h1 : s < 1 ∨ 9999 < s
      · rw [if_pos h1] at h0; simp at h0
      · rw [if_neg h1] at h0
        by_cases hw : w = 0
        · rw [if_pos hw] at h0
          by_cases h2 : 0 < ks.length
          · rw [if_pos h2] at h0; simp at h0
          · by_cases h3 : p < 1 ∨ 9999 < p
            · rw [if_neg h2, if_pos h3] at h0; simp at h0
            · by_cases h4 : p ∈ ps
              · rw [if_neg h2, if_neg h3, if_pos h4] at h0; simp at h0
              · by_cases h5 : 12 ≤ ps.length
                · rw [if_neg h2, if_neg h3, if_neg h4, if_pos h5] at h0; simp at h0
                · have e : ownR w p s ks.length way ps = (0, ps ++ [p]) := by rw [ownR, if_neg h1, if_pos hw, if_neg h2, if_neg h3, if_neg h4, if_neg h5]
                  have hk : ks = [] := List.length_eq_zero_iff.1 (by omega)
                  rw [if_pos (.inr hw), e, if_pos hw]
                  refine ⟨⟨by omega, .inl ⟨hw, hk, by omega⟩⟩, rfl, fun _ => by simp; omega, fun hn => ?_⟩
                  rw [List.nodup_append]
                  refine ⟨hn, by simp, ?_⟩
                  rintro a ha b hb rfl
                  simp at hb
                  subst hb
                  exact h4 ha
        · rw [if_neg hw] at h0
          by_cases h2 : (w < 1 ∨ 2 < w) ∨ w = way ∨ ks.length < 2 ∨ p ≠ 0
          · rw [if_pos h2] at h0; simp at h0
          · have e : ownR w p s ks.length way ps = (0, ps) := by rw [ownR, if_neg h1, if_neg hw, if_neg h2]
            rw [e] at h ⊢
            rw [if_neg (by simp [hw])] at h ⊢
            rw [if_neg hw]
            have key : ∀ (l : List Spl), (∀ k ∈ l, k ∈ ks) → ∀ qs : List Int, (chkTs l w qs).1 = 0 → (∀ k ∈ l, k.right w) ∧ (chkTs l w qs).2 = qs ++ l.flatMap panesT ∧ (qs.length ≤ 12 → (qs ++ l.flatMap panesT).length ≤ 12) ∧ (qs.Nodup → (qs ++ l.flatMap panesT).Nodup) := by
              intro l
              induction l with
              | nil => intro _ qs _; simp [chkTs]
              | cons k l ihl =>
                intro hm qs hq
                rw [chkTs] at hq ⊢
                by_cases h3 : (chkT k w qs).1 = 0
                · rw [if_neg (by simp [h3])] at hq ⊢
                  obtain ⟨a1, a2, a3, a4⟩ := ih k (hm k (by simp)) w qs h3
                  obtain ⟨b1, b2, b3, b4⟩ := ihl (fun x hx => hm x (List.mem_cons_of_mem _ hx)) _ hq
                  rw [a2] at b2 b3 b4
                  rw [List.flatMap_cons, ← List.append_assoc]
                  refine ⟨fun x hx => ?_, by rw [a2, b2], fun h => b3 (a3 h), fun h => b4 (a4 h)⟩
                  rcases List.mem_cons.1 hx with rfl | hx
                  · exact a1
                  · exact b1 x hx
                · rw [if_pos h3] at hq; exact absurd hq h3
            obtain ⟨c1, c2, c3, c4⟩ := key ks (fun _ h => h) ps h
            exact ⟨⟨by omega, .inr ⟨by omega, by omega, by omega, by omega, c1⟩⟩, c2, c3, c4⟩
    · rw [if_pos (.inl h0)] at h; exact absurd h h0
theorem right_panes (t : Spl) : ∀ way, t.right way → 1 ≤ (panesT t).length := by
  induction t using spl_induct with
  | h w p s ks ih =>
    intro way h
    rw [right_mk] at h
    rw [panesT_mk]
    rcases h.2 with ⟨h1, -⟩ | ⟨h1, -, h2, -, h3⟩
    · simp [h1]
    · rw [if_neg (by omega)]
      match ks, h2 with
      | k :: l, _ =>
        have := ih k (by simp) w (h3 k (by simp))
        rw [List.flatMap_cons, List.length_append]; omega
theorem kids_panes {ks : List Spl} {w : Int} (h : ∀ k ∈ ks, k.right w) : ks.length ≤ (ks.flatMap panesT).length := by
  induction ks with
  | nil => simp
  | cons k l ih =>
    have h1 := right_panes k w (h k (by simp))
    have h2 := ih fun x hx => h x (List.mem_cons_of_mem _ hx)
    rw [List.flatMap_cons, List.length_append, List.length_cons]; omega
theorem kid_panes {ks : List Spl} {k : Spl} (h : k ∈ ks) : (panesT k).length ≤ (ks.flatMap panesT).length := by
  induction ks with
  | nil => cases h
  | cons x l ih =>
    rw [List.flatMap_cons, List.length_append]
    rcases List.mem_cons.1 h with rfl | h
    · omega
    · have := ih h; omega
end Go.Eng.YtkenlcaifhffoaaDoor
end

/- Splits: Panes (b_ x_ q_ e_). -/
section
namespace Go.Eng.YtkenlcaifhffoaaDoor
open Go Go.Eng Go.Proofs
variable (W : World)
set_option linter.unusedSimpArgs false
set_option maxRecDepth 100000
set_option linter.unusedVariables false
set_option maxHeartbeats 4000000
theorem panesV_len (a : List Int) : (panesV a).length = a.length := List.length_map _
theorem panes_all (l : List Int) : (panesV l).all cellsB = true := by simp [panesV, cellsB, PV.flat, cellB]
theorem panes_ok (t : Spl) : ∀ way, t.right way → (panesT t).length ≤ 12 → Pure Tryd.prog W 31 [encSpl t] (.sl 1 (panesV (panesT t))) := by
  induction t using spl_induct with
  | h w p s ks ih =>
    intro way hr hn
    have hkl : (ks.map encSpl).length = ks.length := List.length_map _
    rw [right_mk] at hr
    rw [panesT_mk] at hn ⊢
    rw [encSpl_mk]
    rcases hr.2 with ⟨h0, hk, -⟩ | ⟨hw, -, hk2, -, hkr⟩
    · subst h0 hk
      refine Pure.of (acalls_of_vc (drawOk W) Tryd.func31 rfl (by decide) (by decide) rfl ?_)
      (refine g0_ ?_; repeat (refine n1_ fun b_ => ?_; refine g0_ ?_))
      refine .inl ?_
      refine g0_ ?_
      exact .refl _
    · have hw0 : ¬ w = 0 := by omega
      rw [if_neg hw0] at hn ⊢
      have hkp := kids_panes hkr
      refine Pure.of (acalls_of_vc (drawOk W) Tryd.func31 rfl (by decide) (by decide) rfl ?_)
      (refine g0_ ?_; repeat (refine n1_ fun b_ => ?_; refine g0_ ?_))
      revert b_
      intro bX
      refine g1_ ?_
      refine' loopI (α := Nat × Nat × (List Int)) (fun (i, b', l) => [(15, .int .i64 i), (3, accV b' 1 (panesV l))]) [(13, _), (14, _)] (fun (i, b', l) => ⟨bX, .row 4 [.agg [.int .i64 w, .int .i64 p, .int .i64 s, .sl 4 (ks.map encSpl)]] 0⟩ :: accM b' 1 (panesV l)) (fun (i, b', l) => i ≤ ks.length ∧ l ++ (ks.drop i).flatMap panesT = ks.flatMap panesT) (fun (i, b', l) => ks.length - i) (0, 0, []) ?_ ?_
      · exact ⟨Nat.zero_le _, rfl⟩
      rintro ⟨i, b', l⟩ ⟨hi, hl⟩
      rcases l with _ | ⟨l0, l⟩
      · refine g0_ ?_
        refine brec ?_; intro c_ hlt; (try rw [hlt]); cases c_ <;> replace hlt := nm_ hlt
        · have : i = ks.length := by omega
          subst this
          rw [List.drop_length, List.flatMap_nil, List.append_nil] at hl
          refine g0_ ?_
          rw [← hl]
          exact .nils 1
        · have hil : i < ks.length := by omega
          (refine g0_ ?_; repeat (refine em_ fun x_ hx_ => ?_; refine g0_ ?_))
          have hm := List.mem_of_getElem? hx_
          have hkp := kid_panes hm
          have hk1 := right_panes x_ w (hkr _ hm)
          have hcl := ih x_ hm w (hkr _ hm) (by omega)
          have hnx : ([] ++ panesT x_) ++ (ks.drop (i + 1)).flatMap panesT = ks.flatMap panesT := by
            rw [← hl, List.drop_eq_getElem_cons hil, (List.getElem?_eq_some_iff.1 hx_).2, List.flatMap_cons, List.append_assoc]
          have hsm := congrArg List.length hnx
          simp only [List.length_append, List.length_cons, List.length_nil] at hsm
          generalize hq : panesT x_ = q at *
          obtain ⟨q0, q, rfl⟩ : ∃ a l, q = a :: l := by
            cases q with
            | nil => simp at hk1
            | cons a l => exact ⟨a, l, rfl⟩
          simp only [List.length_cons] at hsm hkp hk1
          have hql : (panesV q).length = q.length := List.length_map _
          obtain ⟨w2, p2, s2, ks2⟩ := x_
          rw [encSpl_mk] at hcl ⊢
          rw [show panesV (q0 :: q) = .int .i64 q0 :: panesV q from rfl] at hcl
          (refine g0_ ?_; repeat (refine n1_ fun b_ => ?_; refine g0_ ?_))
          refine (hcl).use ?_; refine g0_ ?_
          refine need.mk (panes_all (q0 :: q)) ?_
          (refine g0_ ?_; repeat (refine n1_ fun b_ => ?_; refine g0_ ?_))
          try rw [show (List.map (PV.int .i64) l).length + 1 + (PV.int .i64 q0 :: panesV q).length = (List.map (PV.int .i64) (l ++ q0 :: q)).length + 1 from by simp [panesV]; omega]
          try rw [show (PV.int .i64 l0 :: List.map (PV.int .i64) l) ++ (PV.int .i64 q0 :: panesV q) = panesV (l0 :: l ++ q0 :: q) from by simp [panesV]]
          refine nx_ (i + 1, b_, [] ++ q0 :: q) ?_ ?_
          · exact ⟨hil, hnx⟩
          · ((try dsimp only); (try simp only [List.length_drop, List.length_take, List.length_append, List.length_cons, List.length_nil, List.length_map] at *); omega)
      · refine g0_ ?_
        refine brec ?_; intro c_ hlt; (try rw [hlt]); cases c_ <;> replace hlt := nm_ hlt
        · have : i = ks.length := by omega
          subst this
          rw [List.drop_length, List.flatMap_nil, List.append_nil] at hl
          refine g0_ ?_
          rw [← hl]
          exact frz_row (l := panesV (l0 :: l)) (.there _ _ _ _ _ (.here _ _ _)) _ rfl
        · have hil : i < ks.length := by omega
          (refine g0_ ?_; repeat (refine em_ fun x_ hx_ => ?_; refine g0_ ?_))
          have hm := List.mem_of_getElem? hx_
          have hkp := kid_panes hm
          have hk1 := right_panes x_ w (hkr _ hm)
          have hcl := ih x_ hm w (hkr _ hm) (by omega)
          have hnx : ((l0 :: l) ++ panesT x_) ++ (ks.drop (i + 1)).flatMap panesT = ks.flatMap panesT := by
            rw [← hl, List.drop_eq_getElem_cons hil, (List.getElem?_eq_some_iff.1 hx_).2, List.flatMap_cons, List.append_assoc]
          have hsm := congrArg List.length hnx
          simp only [List.length_append, List.length_cons, List.length_nil] at hsm
          generalize hq : panesT x_ = q at *
          obtain ⟨q0, q, rfl⟩ : ∃ a l, q = a :: l := by
            cases q with
            | nil => simp at hk1
            | cons a l => exact ⟨a, l, rfl⟩
          simp only [List.length_cons] at hsm hkp hk1
          have hql : (panesV q).length = q.length := List.length_map _
          obtain ⟨w2, p2, s2, ks2⟩ := x_
          rw [encSpl_mk] at hcl ⊢
          rw [show panesV (q0 :: q) = .int .i64 q0 :: panesV q from rfl] at hcl
          (refine g0_ ?_; repeat (refine n1_ fun b_ => ?_; refine g0_ ?_))
          refine (hcl).use ?_; refine g0_ ?_
          refine need.mk (panes_all (q0 :: q)) ?_
          (refine g0_ ?_; repeat (refine n2_ fun b_ => ?_; refine g0_ ?_))
          try rw [show (List.map (PV.int .i64) l).length + 1 + (PV.int .i64 q0 :: panesV q).length = (List.map (PV.int .i64) (l ++ q0 :: q)).length + 1 from by simp [panesV]; omega]
          try rw [show (PV.int .i64 l0 :: List.map (PV.int .i64) l) ++ (PV.int .i64 q0 :: panesV q) = panesV (l0 :: l ++ q0 :: q) from by simp [panesV]]
          refine nx_ (i + 1, b_, (l0 :: l) ++ q0 :: q) ?_ ?_
          · exact ⟨hil, hnx⟩
          · ((try dsimp only); (try simp only [List.length_drop, List.length_take, List.length_append, List.length_cons, List.length_nil, List.length_map] at *); omega)
end Go.Eng.YtkenlcaifhffoaaDoor
end

/- Splits: when two are the same (b_ x_ q_ e_). -/
section
namespace Go.Eng
open Go
variable {P : Program} {W : World}
theorem Pure.nilS {f : FuncId} {args args' : List PV} {r : PV} (h : Pure P W f args' r) (hl : args.length = args'.length)
    (ha : ∀ i, i < args.length → Frz [] (args.getD i .dead) (args'.getD i .dead)) : Pure P W f args r := by
  refine ⟨⟨h.calls.body, fun K w vs hlen hr hm hp => ?_⟩⟩
  refine h.calls.run K w vs (hl ▸ hlen) (fun i hi => ?_) hm hp
  refine (frz_sound hm (ha i (by omega)) _ (hr i (by omega))).mono (fun b o hk => ⟨?_, rfl⟩) (fun _ _ h => h)
  rcases hk with hk | ⟨sz, es, fz, hk, -⟩
  · exact hk
  · cases hk
end Go.Eng
namespace Go.Eng.YtkenlcaifhffoaaDoor
open Go Go.Eng Go.Proofs
variable (W : World)
set_option linter.unusedSimpArgs false
set_option maxRecDepth 100000
set_option linter.unusedVariables false
set_option maxHeartbeats 4000000
noncomputable def sameT (a b : Spl) : Bool := @decide (a = b) (Classical.propDecidable _)
noncomputable def sameL (a b : List Spl) : Bool := @decide (a = b) (Classical.propDecidable _)
def zeroT : Spl := .mk 0 0 0 []
theorem frz_zeroT (σ : Mem) : Frz σ (.agg [.int .i64 0, .int .i64 0, .int .i64 0, .nils]) (encSpl zeroT) := by
  refine .agg _ _ rfl fun j hj => ?_
  match j, hj with
  | 0, _ => exact .refl _
  | 1, _ => exact .refl _
  | 2, _ => exact .refl _
  | 3, _ => exact .nils 4
end Go.Eng.YtkenlcaifhffoaaDoor
end

/- Splits: Even (b_ x_ q_ e_). -/
section
namespace Go.Eng.YtkenlcaifhffoaaDoor
open Go Go.Eng Go.Proofs
variable (W : World)
set_option linter.unusedSimpArgs false
set_option maxRecDepth 100000
set_option linter.unusedVariables false
set_option maxHeartbeats 4000000
def leafT (p : Int) : Spl := .mk 0 p 1 []
def leafV (p : Int) : PV := .agg [.int .i64 0, .int .i64 p, .int .i64 1, .nils]
def evenL (way : Int) (l : List Int) : Spl := if l.length = 1 then leafT (l.headD 0) else .mk way 0 1 (l.map leafT)
def evenT (t : Spl) (way : Int) : Spl × Int :=
  if (visS t 0 (0, [])).1 ≠ 0 then (zeroT, (visS t 0 (0, [])).1) else if way ≠ 1 ∧ way ≠ 2 then (zeroT, 4) else (evenL way (panesT t), 0)
theorem frz_t2 {σ : Mem} {a a' : PV} {n : Int} (h : Frz σ a a') : Frz σ (.tup [a, .int .i64 n]) (.tup [a', .int .i64 n]) := frz_tup2 h (.refl _)
theorem vis_right {t : Spl} (h : (visS t 0 (0, [])).1 = 0) : t.right 0 ∧ (visS t 0 (0, [])).2 = panesT t ∧ (panesT t).length ≤ 12 ∧ (panesT t).Nodup := by
  obtain ⟨h1, h2⟩ := checks_agree t 0 [] (by decide)
  obtain ⟨a1, a2, a3, a4⟩ := chk_right t 0 [] (h1.symm.trans h)
  simp only [List.nil_append] at a2 a3 a4
  exact ⟨a1, (h2 h).trans a2, a3 (by decide), a4 List.nodup_nil⟩
end Go.Eng.YtkenlcaifhffoaaDoor
end

/- Splits: the document's check (b_ x_ q_ e_). -/
section
namespace Go.Eng.YtkenlcaifhffoaaDoor
open Go Go.Eng Go.Proofs
variable (W : World)
set_option linter.unusedSimpArgs false
set_option maxRecDepth 100000
set_option linter.unusedVariables false
set_option maxHeartbeats 4000000
def walkV (bp bw : Nat) : PV := .fn 80 [.bref bp 0, .bref bw 0]
end Go.Eng.YtkenlcaifhffoaaDoor
end
