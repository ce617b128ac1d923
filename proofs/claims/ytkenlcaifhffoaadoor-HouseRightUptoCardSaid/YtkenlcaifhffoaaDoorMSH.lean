/- Texts put together: Spl21, Spl22, Eng33, Spl23, Spl24. -/
import Derived.Test.YtkenlcaifhffoaaDoorMSF
import Derived.Test.YtkenlcaifhffoaaDoorMSE
import Derived.Test.YtkenlcaifhffoaaDoorME7
/- Splits: split.Copy (b_ x_ q_ e_). -/
section
namespace Go.Eng.YtkenlcaifhffoaaDoor
open Go Go.Eng Go.Proofs
variable (W : World)
set_option linter.unusedSimpArgs false
set_option maxRecDepth 100000
set_option linter.unusedVariables false
set_option maxHeartbeats 4000000
theorem copyT_ok (t : Spl) : t.ok → Pure Tryd.prog W 75 [encSpl t] (encSpl t) := by
  induction t using spl_induct with
  | h w p s ks ih =>
    intro ht
    obtain ⟨o1, o2, o3, o4, hks⟩ := spl_ok.1 ht
    have hkl : (ks.map encSpl).length = ks.length := List.length_map _
    rw [encSpl_mk]
    refine Pure.of (acalls_of_vc (drawOk W) Tryd.func75 rfl (by decide) (by decide) rfl ?_)
    (refine g0_ ?_; repeat (refine n1_ fun b_ => ?_; refine g0_ ?_))
    rename_i bT
    revert b_
    intro bR
    refine' loopI (α := Nat × Nat × (List Spl)) (fun (i, b', l) => [(11, .int .i64 i)]) [(1, _), (2, _), (9, _), (10, _)] (fun (i, b', l) => ⟨bR, .row 4 [.agg [.int .i64 0, .int .i64 0, .int .i64 0, .nils]] 0⟩ :: ⟨bT, .row 4 [.agg [.int .i64 w, .int .i64 p, .int .i64 s, accV b' 4 (splsV l)]] 0⟩ :: accM b' 4 (splsV l)) (fun (i, b', l) => i ≤ ks.length ∧ l = ks.take i) (fun (i, b', l) => ks.length - i) (0, 0, []) ?_ ?_
    · exact ⟨Nat.zero_le _, rfl⟩
    rintro ⟨i, b', l⟩ ⟨hi, hl⟩
    rcases l with _ | ⟨l0, l⟩
    · refine g0_ ?_
      refine brec ?_; intro c_ hlt; (try rw [hlt]); cases c_ <;> replace hlt := nm_ hlt
      · have : i = ks.length := by omega
        subst this
        rw [List.take_length] at hl
        refine g0_ ?_
        rw [← hl]
        refine .agg _ _ rfl fun j hj => ?_
        match j, hj with
        | 0, _ => exact .refl _
        | 1, _ => exact .refl _
        | 2, _ => exact .refl _
        | 3, _ => exact .nils 4
      · have hil : i < ks.length := by omega
        have hee := congrArg List.length hl
        simp only [List.length_cons, List.length_nil, List.length_take] at hee
        (refine g0_ ?_; repeat (refine em_ fun x_ hx_ => ?_; refine g0_ ?_))
        have hcl := ih x_ (List.mem_of_getElem? hx_) (hks _ (List.mem_of_getElem? hx_))
        have hnx : ks.take (i + 1) = [] ++ [x_] := by rw [take_snoc_of hx_, ← hl]
        obtain ⟨w2, p2, s2, ks2⟩ := x_
        have e2 := encSpl_mk w2 p2 s2 ks2
        rw [e2] at hcl ⊢
        (refine g0_ ?_; repeat (refine n1_ fun b_ => ?_; refine g0_ ?_))
        refine head_ ?_; refine g0_ ?_
        refine ⟨_, (hcl).quiet, ?_⟩; (refine g0_ ?_; repeat (refine n1_ fun b_ => ?_; refine g0_ ?_))
        rw [← e2]
        try rw [show ∀ v : PV, (List.map encSpl l).length + 1 + [v].length = (List.map encSpl (l ++ [.mk w2 p2 s2 ks2])).length + 1 from fun v => by simp]
        try rw [show (encSpl l0 :: List.map encSpl l) ++ [encSpl (.mk w2 p2 s2 ks2)] = splsV (l0 :: l ++ [.mk w2 p2 s2 ks2]) from by simp [splsV]]
        refine nx_ (i + 1, b_, [] ++ [.mk w2 p2 s2 ks2]) ?_ ?_
        · exact ⟨hil, hnx.symm⟩
        · ((try dsimp only); (try simp only [List.length_drop, List.length_take, List.length_append, List.length_cons, List.length_nil, List.length_map] at *); omega)
    · refine g0_ ?_
      refine brec ?_; intro c_ hlt; (try rw [hlt]); cases c_ <;> replace hlt := nm_ hlt
      · have : i = ks.length := by omega
        subst this
        rw [List.take_length] at hl
        refine g0_ ?_
        rw [← hl]
        refine .agg _ _ rfl fun j hj => ?_
        match j, hj with
        | 0, _ => exact .refl _
        | 1, _ => exact .refl _
        | 2, _ => exact .refl _
        | 3, _ => exact frz_row (l := splsV (l0 :: l)) (.there _ _ _ _ _ (.there _ _ _ _ _ (.here _ _ _))) _ rfl
      · have hil : i < ks.length := by omega
        have hee := congrArg List.length hl
        simp only [List.length_cons, List.length_nil, List.length_take] at hee
        (refine g0_ ?_; repeat (refine em_ fun x_ hx_ => ?_; refine g0_ ?_))
        have hcl := ih x_ (List.mem_of_getElem? hx_) (hks _ (List.mem_of_getElem? hx_))
        have hnx : ks.take (i + 1) = (l0 :: l) ++ [x_] := by rw [take_snoc_of hx_, ← hl]
        obtain ⟨w2, p2, s2, ks2⟩ := x_
        have e2 := encSpl_mk w2 p2 s2 ks2
        rw [e2] at hcl ⊢
        (refine g0_ ?_; repeat (refine n1_ fun b_ => ?_; refine g0_ ?_))
        refine head_ ?_; refine g0_ ?_
        refine ⟨_, (hcl).quiet, ?_⟩; (refine g0_ ?_; repeat (refine n2_ fun b_ => ?_; refine g0_ ?_))
        rw [← e2]
        try rw [show ∀ v : PV, (List.map encSpl l).length + 1 + [v].length = (List.map encSpl (l ++ [.mk w2 p2 s2 ks2])).length + 1 from fun v => by simp]
        try rw [show (encSpl l0 :: List.map encSpl l) ++ [encSpl (.mk w2 p2 s2 ks2)] = splsV (l0 :: l ++ [.mk w2 p2 s2 ks2]) from by simp [splsV]]
        refine nx_ (i + 1, b_, (l0 :: l) ++ [.mk w2 p2 s2 ks2]) ?_ ?_
        · exact ⟨hil, hnx.symm⟩
        · ((try dsimp only); (try simp only [List.length_drop, List.length_take, List.length_append, List.length_cons, List.length_nil, List.length_map] at *); omega)
end Go.Eng.YtkenlcaifhffoaaDoor
end

/- Splits: with (b_ x_ q_ e_). -/
section
namespace Go.Eng.YtkenlcaifhffoaaDoor
open Go Go.Eng Go.Proofs
variable (W : World)
set_option linter.unusedSimpArgs false
set_option maxRecDepth 100000
set_option linter.unusedVariables false
set_option maxHeartbeats 4000000
mutual
def withT (d : Spl → Int → List Spl) (pane : Int) : Spl → Int → List Spl
  | .mk w p s ks, way => if w = 0 then (if p = pane then d (.mk w p s ks) way else [.mk w p s ks]) else [.mk w p s (withTs d pane w ks)]
def withTs (d : Spl → Int → List Spl) (pane w : Int) : List Spl → List Spl
  | [] => []
  | k :: ks => withT d pane k w ++ withTs d pane w ks
end
theorem withTs_eq (d : Spl → Int → List Spl) (pane w : Int) : ∀ ks : List Spl, withTs d pane w ks = ks.flatMap fun k => withT d pane k w
  | [] => rfl
  | k :: ks => by rw [withTs, withTs_eq d pane w ks]; rfl
theorem withT_mk (d : Spl → Int → List Spl) (pane w p s : Int) (ks : List Spl) (way : Int) : withT d pane (.mk w p s ks) way = if w = 0 then (if p = pane then d (.mk w p s ks) way else [.mk w p s ks]) else [.mk w p s (ks.flatMap fun k => withT d pane k w)] := by
  rw [withT, withTs_eq]
theorem withT_len {d : Spl → Int → List Spl} (hd : ∀ t way, (d t way).length ≤ 2) (pane : Int) (t : Spl) (way : Int) : (withT d pane t way).length ≤ 2 := by
  obtain ⟨w, p, s, ks⟩ := t
  rw [withT_mk]
  split
  · split
    · exact hd _ _
    · simp
  · simp
theorem flat_len {d : Spl → Int → List Spl} (hd : ∀ t way, (d t way).length ≤ 2) (pane w : Int) : ∀ ks : List Spl, (ks.flatMap fun k => withT d pane k w).length ≤ 2 * ks.length
  | [] => by simp
  | k :: ks => by
    have h1 := withT_len hd pane k w
    have h2 := flat_len hd pane w ks
    rw [List.flatMap_cons, List.length_append, List.length_cons]; omega
theorem frz_oneT {σ r : Mem} {b : Nat} {a : PV} {a' : PV} (h : Look σ b (.row 4 [a] 0) r) (ha : Frz σ a a') : Frz σ (.rsl b 4 0 1) (.sl 4 [a']) := by
  refine .rsl b 4 0 1 [a] [a'] 0 r h (by simp) rfl fun j hj => ?_
  obtain rfl : j = 0 := by omega
  exact ha
theorem with_ok (d : Spl → Int → List Spl) (pane : Int) (f : FuncId) (caps : List PV) (hd2 : ∀ t way, (d t way).length ≤ 2)
    (hd : ∀ s way : Int, Pure Tryd.prog W f ([encSpl (.mk 0 pane s []), .int .i64 way] ++ caps) (.sl 4 (splsV (d (.mk 0 pane s []) way))))
    (t : Spl) : ∀ way, t.right way → (panesT t).length ≤ 12 → Pure Tryd.prog W 74 [encSpl t, .int .i64 pane, .fn f caps, .int .i64 way] (.sl 4 (splsV (withT d pane t way))) := by
  induction t using spl_induct with
  | h w p s ks ih =>
    intro way hr hn
    have hkl : (ks.map encSpl).length = ks.length := List.length_map _
    rw [right_mk] at hr
    rw [panesT_mk] at hn
    rw [withT_mk]
    rcases hr.2 with ⟨h0, hk, -⟩ | ⟨hw, -, hk2, -, hkr⟩
    · subst h0 hk
      rw [if_pos rfl]
      by_cases hp : p = pane
      · subst hp
        have hd := hd s way
        rw [if_pos rfl, encSpl_mk] at *
        refine Pure.of (acalls_of_vc (drawOk W) Tryd.func74 rfl (by decide) (by decide) rfl ?_)
        (refine g0_ ?_; repeat (refine n1_ fun b_ => ?_; refine g0_ ?_))
        refine g1_ ?_
        rw [forceL_eq]
        refine callV_of ?_
        refine (hd).use ?_; refine g0_ ?_
        exact .refl _
      · rw [if_neg hp]
        rw [encSpl_mk]
        refine Pure.of (acalls_of_vc (drawOk W) Tryd.func74 rfl (by decide) (by decide) rfl ?_)
        (refine g0_ ?_; repeat (refine n1_ fun b_ => ?_; refine g0_ ?_))
        refine g1_ ?_
        refine .inl ?_
        refine g0_ ?_
        rw [← encSpl_mk]
        exact .refl _
    · have hw0 : ¬ w = 0 := by omega
      rw [if_neg hw0] at hn
      have hkp := kids_panes hkr
      rw [if_neg hw0, encSpl_mk]
      have hfl := flat_len hd2 pane w ks
      refine Pure.of (acalls_of_vc (drawOk W) Tryd.func74 rfl (by decide) (by decide) rfl ?_)
      (refine g0_ ?_; repeat (refine n1_ fun b_ => ?_; refine g0_ ?_))
      revert b_
      intro bT
      refine g1_ ?_
      refine' loopI (α := Nat × Nat × (List Spl)) (fun (i, b', o) => [(30, .int .i64 i)]) [(1, _), (2, _), (4, _), (28, _), (29, _)] (fun (i, b', o) => ⟨bT, .row 4 [.agg [.int .i64 w, .int .i64 p, .int .i64 s, accV b' 4 (splsV o)]] 0⟩ :: accM b' 4 (splsV o)) (fun (i, b', o) => i ≤ ks.length ∧ o ++ (ks.drop i).flatMap (fun k => withT d pane k w) = ks.flatMap (fun k => withT d pane k w)) (fun (i, b', o) => ks.length - i) (0, 0, []) ?_ ?_
      · exact ⟨Nat.zero_le _, rfl⟩
      rintro ⟨i, b', o⟩ ⟨hi, ho⟩
      rcases o with _ | ⟨o0, o⟩
      · refine g0_ ?_
        refine brec ?_; intro c_ hlt; (try rw [hlt]); cases c_ <;> replace hlt := nm_ hlt
        · have : i = ks.length := by omega
          subst this
          rw [List.drop_length, List.flatMap_nil, List.append_nil] at ho
          refine g0_ ?_
          refine .inr ?_
          (refine g0_ ?_; repeat (refine n1_ fun b_ => ?_; refine g0_ ?_))
          rw [← ho]
          refine frz_oneT (.here _ _ _) ?_
          rw [encSpl_mk]
          refine .agg _ _ rfl fun j hj => ?_
          match j, hj with
          | 0, _ => exact .refl _
          | 1, _ => exact .refl _
          | 2, _ => exact .refl _
          | 3, _ => exact .nils 4
        · have hil : i < ks.length := by omega
          (refine g0_ ?_; repeat (refine em_ fun x_ hx_ => ?_; refine g0_ ?_))
          have hm := List.mem_of_getElem? hx_
          have hcl := ih x_ hm w (hkr _ hm) (Nat.le_trans (kid_panes hm) hn)
          have hql := withT_len hd2 pane x_ w
          have hnx : ([] ++ withT d pane x_ w) ++ (ks.drop (i + 1)).flatMap (fun k => withT d pane k w) = ks.flatMap (fun k => withT d pane k w) := by
            rw [← ho, List.drop_eq_getElem_cons hil, (List.getElem?_eq_some_iff.1 hx_).2, List.flatMap_cons, List.append_assoc]
          have hsm := congrArg List.length hnx
          simp only [List.length_append, List.length_cons, List.length_nil] at hsm
          generalize hq : withT d pane x_ w = Q at *
          obtain ⟨w2, p2, s2, ks2⟩ := x_
          rw [encSpl_mk] at hcl ⊢
          (refine g0_ ?_; repeat (refine n1_ fun b_ => ?_; refine g0_ ?_))
          refine Draws.free ⟨8, by decide +kernel, ?_⟩; refine g0_ ?_
          (try rw [encSpl_mk])
          refine g0_ ?_
          rcases Q with _ | ⟨q0, Q⟩
          · refine ⟨_, (hcl).quiet, ?_⟩; refine g0_ ?_
            first | refine need.mk (by decide) ?_ | refine need.mk ⟨by simp, by simp [splsV]; omega⟩ ?_ | refine Alt.a (by decide) ?_ | refine Alt.a ⟨by simp, by simp [splsV]; omega⟩ ?_
            refine g0_ ?_
            rw [List.append_nil] at hnx
            try rw [show (List.map encSpl o).length + 1 + (splsV []).length = (List.map encSpl o).length + 1 from rfl]
            try rw [show (encSpl o0 :: List.map encSpl o) ++ splsV [] = splsV (o0 :: o) from by simp [splsV]]
            refine nx_ (i + 1, b', ([] : List Spl)) ?_ ?_
            · exact ⟨hil, hnx⟩
            · ((try dsimp only); (try simp only [List.length_drop, List.length_take, List.length_append, List.length_cons, List.length_nil, List.length_map] at *); omega)
          · rw [show splsV (q0 :: Q) = encSpl q0 :: splsV Q from rfl] at hcl
            simp only [List.length_cons] at hsm hql
            have hql2 : (splsV Q).length = Q.length := List.length_map _
            refine ⟨_, (hcl).quiet, ?_⟩; refine g0_ ?_
            refine need.mk (spls_all (q0 :: Q)) ?_
            (refine g0_ ?_; repeat (refine n1_ fun b_ => ?_; refine g0_ ?_))
            try rw [show (List.map encSpl o).length + 1 + (encSpl q0 :: splsV Q).length = (List.map encSpl (o ++ q0 :: Q)).length + 1 from by simp [splsV]; omega]
            try rw [show (encSpl o0 :: List.map encSpl o) ++ (encSpl q0 :: splsV Q) = splsV (o0 :: o ++ q0 :: Q) from by simp [splsV]]
            refine nx_ (i + 1, b_, [] ++ q0 :: Q) ?_ ?_
            · exact ⟨hil, hnx⟩
            · ((try dsimp only); (try simp only [List.length_drop, List.length_take, List.length_append, List.length_cons, List.length_nil, List.length_map] at *); omega)
      · refine g0_ ?_
        refine brec ?_; intro c_ hlt; (try rw [hlt]); cases c_ <;> replace hlt := nm_ hlt
        · have : i = ks.length := by omega
          subst this
          rw [List.drop_length, List.flatMap_nil, List.append_nil] at ho
          refine g0_ ?_
          refine .inr ?_
          (refine g0_ ?_; repeat (refine n1_ fun b_ => ?_; refine g0_ ?_))
          rw [← ho]
          refine frz_oneT (.here _ _ _) ?_
          rw [encSpl_mk]
          refine .agg _ _ rfl fun j hj => ?_
          match j, hj with
          | 0, _ => exact .refl _
          | 1, _ => exact .refl _
          | 2, _ => exact .refl _
          | 3, _ => exact frz_row (l := splsV (o0 :: o)) (.there _ _ _ _ _ (.there _ _ _ _ _ (.here _ _ _))) _ rfl
        · have hil : i < ks.length := by omega
          (refine g0_ ?_; repeat (refine em_ fun x_ hx_ => ?_; refine g0_ ?_))
          have hm := List.mem_of_getElem? hx_
          have hcl := ih x_ hm w (hkr _ hm) (Nat.le_trans (kid_panes hm) hn)
          have hql := withT_len hd2 pane x_ w
          have hnx : ((o0 :: o) ++ withT d pane x_ w) ++ (ks.drop (i + 1)).flatMap (fun k => withT d pane k w) = ks.flatMap (fun k => withT d pane k w) := by
            rw [← ho, List.drop_eq_getElem_cons hil, (List.getElem?_eq_some_iff.1 hx_).2, List.flatMap_cons, List.append_assoc]
          have hsm := congrArg List.length hnx
          simp only [List.length_append, List.length_cons, List.length_nil] at hsm
          generalize hq : withT d pane x_ w = Q at *
          obtain ⟨w2, p2, s2, ks2⟩ := x_
          rw [encSpl_mk] at hcl ⊢
          (refine g0_ ?_; repeat (refine n1_ fun b_ => ?_; refine g0_ ?_))
          refine Draws.free ⟨8, by decide +kernel, ?_⟩; refine g0_ ?_
          (try rw [encSpl_mk])
          refine g0_ ?_
          rcases Q with _ | ⟨q0, Q⟩
          · refine ⟨_, (hcl).quiet, ?_⟩; refine g0_ ?_
            first | refine need.mk (by decide) ?_ | refine need.mk ⟨by simp, by simp [splsV]; omega⟩ ?_ | refine Alt.a (by decide) ?_ | refine Alt.a ⟨by simp, by simp [splsV]; omega⟩ ?_
            (refine g0_ ?_; repeat (refine n2_ fun b_ => ?_; refine g0_ ?_))
            rw [List.append_nil] at hnx
            try rw [show (List.map encSpl o).length + 1 + (splsV []).length = (List.map encSpl o).length + 1 from rfl]
            try rw [show (encSpl o0 :: List.map encSpl o) ++ splsV [] = splsV (o0 :: o) from by simp [splsV]]
            refine nx_ (i + 1, b_, o0 :: o) ?_ ?_
            · exact ⟨hil, hnx⟩
            · ((try dsimp only); (try simp only [List.length_drop, List.length_take, List.length_append, List.length_cons, List.length_nil, List.length_map] at *); omega)
          · rw [show splsV (q0 :: Q) = encSpl q0 :: splsV Q from rfl] at hcl
            simp only [List.length_cons] at hsm hql
            have hql2 : (splsV Q).length = Q.length := List.length_map _
            refine ⟨_, (hcl).quiet, ?_⟩; refine g0_ ?_
            refine need.mk (spls_all (q0 :: Q)) ?_
            (refine g0_ ?_; repeat (refine n2_ fun b_ => ?_; refine g0_ ?_))
            try rw [show (List.map encSpl o).length + 1 + (encSpl q0 :: splsV Q).length = (List.map encSpl (o ++ q0 :: Q)).length + 1 from by simp [splsV]; omega]
            try rw [show (encSpl o0 :: List.map encSpl o) ++ (encSpl q0 :: splsV Q) = splsV (o0 :: o ++ q0 :: Q) from by simp [splsV]]
            refine nx_ (i + 1, b_, (o0 :: o) ++ q0 :: Q) ?_ ?_
            · exact ⟨hil, hnx⟩
            · ((try dsimp only); (try simp only [List.length_drop, List.length_take, List.length_append, List.length_cons, List.length_nil, List.length_map] at *); omega)
end Go.Eng.YtkenlcaifhffoaaDoor
end

/- The engine, part 33: a call that is given what was owned, to be written no more. -/
section
namespace Go.Eng
open Go
variable {P : Program} {W : World}
theorem Pure.giveUp {f : FuncId} {args args' : List PV} {r : PV} {σ τ ρ : Mem} {k : PV → Mem → Prop} (h : Pure P W f args' r) (hl : args.length = args'.length) (hp : σ.Perm (τ ++ ρ))
    (ha : ∀ i, i < args.length → Frz ρ (args.getD i .dead) (args'.getD i .dead)) (hk : k r τ) : ACalls P W f args σ k := by
  refine ACalls.perm ?_ hp
  have hu : ACalls P W f args' τ k := h.use hk
  refine ⟨hu.body, fun K w vs hlen hr hm hpre => ?_⟩
  have hρ : SatM K ρ w := hm.drop (List.sublist_append_right _ _)
  have hrel : ∀ i, i < args'.length → VRel (allK K ρ) w (args'.getD i .dead) (vs.getD i undef) := fun i hi => frz_sound hρ (ha i (by omega)) _ (hr i (by omega))
  refine (hu.run _ w vs (hl ▸ hlen) hrel hm.freeze ⟨hpre.size, hpre.base, fun k hk => hpre.own k (List.mem_append_left _ hk)⟩).mono ?_
  rintro e w' ⟨v, pv, σ', K', h2, h3, h4, h5, h6⟩
  exact ⟨v, pv, σ', K', h2, h3, h4, h5, (Ext.freeze (K := K) (τ := τ) (ρ := ρ) (w := w)).trans h6⟩
end Go.Eng
end

/- Splits: Cut (b_ x_ q_ e_). -/
section
namespace Go.Eng.YtkenlcaifhffoaaDoor
open Go Go.Eng Go.Proofs
variable (W : World)
set_option linter.unusedSimpArgs false
set_option maxRecDepth 100000
set_option linter.unusedVariables false
set_option maxHeartbeats 4000000
def cutD (way fresh : Int) (leaf : Spl) (in_ : Int) : List Spl :=
  if in_ = way then [leaf, .mk 0 fresh leaf.size []] else [.mk way 0 leaf.size [.mk 0 leaf.pane 1 [], .mk 0 fresh 1 []]]
theorem cutD_len (way fresh : Int) (t : Spl) (in_ : Int) : (cutD way fresh t in_).length ≤ 2 := by unfold cutD; split <;> simp
theorem frz_rowE {σ r : Mem} {b n : Nat} {es es' : List PV} (h : Look σ b (.row 4 es 0) r) (hn : n = es.length) (hl : es'.length = n) (he : ∀ j, j < n → Frz σ (es.getD j .dead) (es'.getD j .dead)) : Frz σ (.rsl b 4 0 n) (.sl 4 es') :=
  .rsl b 4 0 n es es' 0 r h (by omega) hl fun j hj => by rw [Nat.zero_add]; exact he j hj
theorem frz_nk {σ : Mem} (w p s : Int) : Frz σ (.agg [.int .i64 w, .int .i64 p, .int .i64 s, .nils]) (encSpl (.mk w p s [])) := by
  rw [encSpl_mk]
  refine .agg _ _ rfl fun j hj => ?_
  match j, hj with
  | 0, _ => exact .refl _
  | 1, _ => exact .refl _
  | 2, _ => exact .refl _
  | 3, _ => exact .nils 4
theorem drop1_ok (pane s way : Int) : Pure Tryd.prog W 76 ([encSpl (.mk 0 pane s []), .int .i64 way] ++ []) (.sl 4 (splsV [])) := by
  rw [encSpl_mk]
  show Pure _ _ _ [_, _] _
  refine Pure.of (acalls_of_vc (drawOk W) Tryd.func76 rfl (by decide) (by decide) rfl ?_)
  (refine g0_ ?_; repeat (refine n1_ fun b_ => ?_; refine g0_ ?_))
  exact .nils 4
theorem cut1_ok (way fresh pane s in_ : Int) : Pure Tryd.prog W 84 ([encSpl (.mk 0 pane s []), .int .i64 in_] ++ [.ip (.int .i64 fresh) 0, .ip (.int .i64 way) 0]) (.sl 4 (splsV (cutD way fresh (.mk 0 pane s []) in_))) := by
  rw [encSpl_mk]
  show Pure _ _ _ [_, _, _, _] _
  unfold cutD
  by_cases h : in_ = way
  · rw [if_pos h]
    refine Pure.of (acalls_of_vc (drawOk W) Tryd.func84 rfl (by decide) (by decide) rfl ?_)
    (refine g0_ ?_; repeat (refine n1_ fun b_ => ?_; refine g0_ ?_))
    refine g1_ ?_
    refine .inr ?_
    (refine g0_ ?_; repeat (refine n1_ fun b_ => ?_; refine g0_ ?_))
    refine frz_rowE (.here _ _ _) rfl rfl fun j hj => ?_
    match j, hj with
    | 0, _ => exact Frz.of_eq (encSpl_mk _ _ _ _).symm
    | 1, _ => exact frz_nk _ _ _
  · rw [if_neg h]
    refine Pure.of (acalls_of_vc (drawOk W) Tryd.func84 rfl (by decide) (by decide) rfl ?_)
    (refine g0_ ?_; repeat (refine n1_ fun b_ => ?_; refine g0_ ?_))
    refine g1_ ?_
    refine .inr ?_
    (refine g0_ ?_; repeat (refine n1_ fun b_ => ?_; refine g0_ ?_))
    refine .inr ?_
    (refine g0_ ?_; repeat (refine n1_ fun b_ => ?_; refine g0_ ?_))
    refine frz_rowE (.here _ _ _) rfl rfl fun j hj => ?_
    match j, hj with
    | 0, _ =>
      show Frz _ _ (encSpl (.mk way 0 s [.mk 0 pane 1 [], .mk 0 fresh 1 []]))
      rw [encSpl_mk]
      refine .agg _ _ rfl fun j hj => ?_
      match j, hj with
      | 0, _ => exact .refl _
      | 1, _ => exact .refl _
      | 2, _ => exact .refl _
      | 3, _ =>
        refine frz_rowE (.there _ _ _ _ _ (.here _ _ _)) rfl rfl fun j hj => ?_
        match j, hj with
        | 0, _ => exact Frz.of_eq (encSpl_mk _ _ _ _).symm
        | 1, _ => exact frz_nk _ _ _
mutual
def cutT (pane way fresh : Int) : Spl → Spl
  | .mk w p s ks => if w = 0 then (if p = pane then .mk way 0 s [.mk 0 pane 1 [], .mk 0 fresh 1 []] else .mk w p s ks) else .mk w 0 s (cutTs pane way fresh w ks)
def cutTs (pane way fresh w : Int) : List Spl → List Spl
  | [] => []
  | k :: ks => (if k.way = 0 ∧ k.pane = pane ∧ w = way then [k, .mk 0 fresh k.size []] else [cutT pane way fresh k]) ++ cutTs pane way fresh w ks
end
def cutK (pane way fresh w : Int) (k : Spl) : List Spl := if k.way = 0 ∧ k.pane = pane ∧ w = way then [k, .mk 0 fresh k.size []] else [cutT pane way fresh k]
theorem cutTs_eq (pane way fresh w : Int) : ∀ ks : List Spl, cutTs pane way fresh w ks = ks.flatMap (cutK pane way fresh w)
  | [] => rfl
  | k :: ks => by rw [cutTs, cutTs_eq pane way fresh w ks, List.flatMap_cons]; rfl
theorem cutT_mk (pane way fresh w p s : Int) (ks : List Spl) : cutT pane way fresh (.mk w p s ks) = if w = 0 then (if p = pane then .mk way 0 s [.mk 0 pane 1 [], .mk 0 fresh 1 []] else .mk w p s ks) else .mk w 0 s (ks.flatMap (cutK pane way fresh w)) := by rw [cutT, cutTs_eq]
theorem flat_congr {α β : Type} {f g : α → List β} : ∀ {l : List α}, (∀ x ∈ l, f x = g x) → l.flatMap f = l.flatMap g
  | [], _ => rfl
  | a :: l, h => by rw [List.flatMap_cons, List.flatMap_cons, h a (by simp), flat_congr fun x hx => h x (List.mem_cons_of_mem _ hx)]
theorem with_cut (pane way fresh : Int) (t : Spl) : ∀ in_, t.right in_ → withT (cutD way fresh) pane t in_ = cutK pane way fresh in_ t := by
  induction t using spl_induct with
  | h w p s ks ih =>
    intro in_ hr
    rw [right_mk] at hr
    rcases hr.2 with ⟨h0, hk, -⟩ | ⟨hw, -, hk2, hp, hkr⟩
    · subst h0 hk
      by_cases hp : p = pane <;> by_cases hi : in_ = way <;> simp [withT_mk, cutK, cutT_mk, cutD, Spl.way, Spl.pane, Spl.size, hp, hi]
    · have hw0 : ¬ w = 0 := by omega
      rw [withT_mk, cutK, cutT_mk, if_neg hw0, if_neg (by simp [Spl.way, hw0]), if_neg hw0, hp]
      rw [flat_congr fun k hk => ih k hk w (hkr k hk)]
def cutR (t : Spl) (pane way fresh : Int) : Spl × Int :=
  if (visS t 0 (0, [])).1 ≠ 0 then (zeroT, (visS t 0 (0, [])).1) else if pane ∉ panesT t then (zeroT, 6) else if (way ≠ 1 ∧ way ≠ 2) ∨ fresh < 1 ∨ 9999 < fresh then (zeroT, 4)
  else if fresh ∈ panesT t then (zeroT, 7) else if (panesT t).length = 12 then (zeroT, 10) else (cutT pane way fresh t, 0)
theorem cutP_ok (t : Spl) (ht : t.ok) (pane way fresh : Int) : Pure Tryd.prog W 47 [encSpl t, .int .i64 pane, .int .i64 way, .int .i64 fresh] (.tup [encSpl (cutR t pane way fresh).1, .int .i64 (cutR t pane way fresh).2]) := by
  have hc := checkS_ok W t ht
  have hcp := copyT_ok W t ht
  have hr := @vis_right t
  have hpn := fun h => panes_ok W t 0 (hr h).1 (hr h).2.2.1
  have hwt := fun h => with_ok W (cutD way fresh) pane 84 [.ip (.int .i64 fresh) 0, .ip (.int .i64 way) 0] (cutD_len way fresh) (cut1_ok W way fresh pane) t 0 (hr h).1 (hr h).2.2.1
  have hwc := fun h => with_cut pane way fresh t 0 (hr h).1
  unfold cutR
  generalize visS t 0 (0, []) = st at *
  by_cases h0 : st.1 = 0
  · rw [if_neg (by simpa using h0)]
    have hpn := hpn h0
    have hwt := hwt h0
    rw [hwc h0] at hwt
    have hl12 := (hr h0).2.2.1
    have hct := containsI_ok W (panesT t) pane (by omega)
    have hcf := containsI_ok W (panesT t) fresh (by omega)
    by_cases h1 : pane ∈ panesT t
    · rw [if_neg (by simpa using h1)]
      by_cases h2 : (way ≠ 1 ∧ way ≠ 2) ∨ fresh < 1 ∨ 9999 < fresh
      · rw [if_pos h2]
        obtain ⟨w, p, s, ks⟩ := t
        rw [encSpl_mk] at hc hpn hcp hwt ⊢
        generalize panesT (.mk w p s ks) = l at *
        rw [decide_eq_true h1] at hct
        refine Pure.of (acalls_of_vc (drawOk W) Tryd.func47 rfl (by decide) (by decide) rfl ?_)
        (refine g0_ ?_; repeat (refine n1_ fun b_ => ?_; refine g0_ ?_))
        refine (hc).use ?_; refine g0_ ?_
        refine g1_ ?_
        refine (hpn).use ?_; refine g0_ ?_
        refine (hct).use ?_; refine g0_ ?_
        refine g1_ ?_
        exact frz_t2 (frz_zeroT _)
      · rw [if_neg h2]
        by_cases h3 : fresh ∈ panesT t
        · rw [if_pos h3]
          obtain ⟨w, p, s, ks⟩ := t
          rw [encSpl_mk] at hc hpn hcp hwt ⊢
          generalize panesT (.mk w p s ks) = l at *
          rw [decide_eq_true h1] at hct
          rw [decide_eq_true h3] at hcf
          have hw12 : way = 1 ∨ way = 2 := by omega
          refine Pure.of (acalls_of_vc (drawOk W) Tryd.func47 rfl (by decide) (by decide) rfl ?_)
          (refine g0_ ?_; repeat (refine n1_ fun b_ => ?_; refine g0_ ?_))
          refine (hc).use ?_; refine g0_ ?_
          refine g1_ ?_
          refine (hpn).use ?_; refine g0_ ?_
          refine (hct).use ?_; refine g0_ ?_
          refine g1_ ?_
          refine (hcf).use ?_; refine g0_ ?_
          refine g1_ ?_
          exact frz_t2 (frz_zeroT _)
        · rw [if_neg h3]
          rw [decide_eq_true h1] at hct
          rw [decide_eq_false h3] at hcf
          have hw12 : way = 1 ∨ way = 2 := by omega
          by_cases h4 : (panesT t).length = 12
          · rw [if_pos h4]
            obtain ⟨w, p, s, ks⟩ := t
            rw [encSpl_mk] at hc hpn hcp hwt ⊢
            generalize panesT (.mk w p s ks) = l at *
            have hln := panesV_len l
            refine Pure.of (acalls_of_vc (drawOk W) Tryd.func47 rfl (by decide) (by decide) rfl ?_)
            (refine g0_ ?_; repeat (refine n1_ fun b_ => ?_; refine g0_ ?_))
            refine (hc).use ?_; refine g0_ ?_
            refine g1_ ?_
            refine (hpn).use ?_; refine g0_ ?_
            refine (hct).use ?_; refine g0_ ?_
            refine g1_ ?_
            refine (hcf).use ?_; refine g0_ ?_
            refine g1_ ?_
            exact frz_t2 (frz_zeroT _)
          · rw [if_neg h4]
            rw [cutK, if_neg (by omega)] at hwt
            generalize hcc : cutT pane way fresh t = C at *
            obtain ⟨w, p, s, ks⟩ := t
            obtain ⟨w3, p3, s3, ks3⟩ := C
            rw [show splsV [Spl.mk w3 p3 s3 ks3] = [encSpl (.mk w3 p3 s3 ks3)] from rfl] at hwt
            rw [encSpl_mk] at hc hpn hcp hwt ⊢
            rw [encSpl_mk] at hwt ⊢
            generalize panesT (.mk w p s ks) = l at *
            have hln := panesV_len l
            refine Pure.of (acalls_of_vc (drawOk W) Tryd.func47 rfl (by decide) (by decide) rfl ?_)
            (refine g0_ ?_; repeat (refine n1_ fun b_ => ?_; refine g0_ ?_))
            refine (hc).use ?_; refine g0_ ?_
            refine g1_ ?_
            refine (hpn).use ?_; refine g0_ ?_
            refine (hct).use ?_; refine g0_ ?_
            refine g1_ ?_
            refine (hcf).use ?_; refine g0_ ?_
            refine g1_ ?_
            refine (hcp).use ?_; refine g0_ ?_
            refine hwt.giveUp (τ := [_]) (ρ := [_, _, _]) rfl (.refl _) (fun j hj => ?_) ?_
            · match j, hj with
              | 0, _ => exact .refl _
              | 1, _ => exact .refl _
              | 3, _ => exact .refl _
              | 2, _ =>
                refine .fn _ _ _ rfl fun j hj => ?_
                match j, hj with
                | 0, _ => exact .bref _ _ _ _ _ _ (.here _ _ _)
                | 1, _ => exact .bref _ _ _ _ _ _ (.there _ _ _ _ _ (.here _ _ _))
            refine g0_ ?_
            exact .refl _
    · rw [if_pos h1]
      obtain ⟨w, p, s, ks⟩ := t
      rw [encSpl_mk] at hc hpn hcp hwt ⊢
      generalize panesT (.mk w p s ks) = l at *
      rw [decide_eq_false h1] at hct
      refine Pure.of (acalls_of_vc (drawOk W) Tryd.func47 rfl (by decide) (by decide) rfl ?_)
      (refine g0_ ?_; repeat (refine n1_ fun b_ => ?_; refine g0_ ?_))
      refine (hc).use ?_; refine g0_ ?_
      refine g1_ ?_
      refine (hpn).use ?_; refine g0_ ?_
      refine (hct).use ?_; refine g0_ ?_
      refine g1_ ?_
      exact frz_t2 (frz_zeroT _)
  · rw [if_pos h0]
    obtain ⟨w, p, s, ks⟩ := t
    rw [encSpl_mk] at hc ⊢
    refine Pure.of (acalls_of_vc (drawOk W) Tryd.func47 rfl (by decide) (by decide) rfl ?_)
    (refine g0_ ?_; repeat (refine n1_ fun b_ => ?_; refine g0_ ?_))
    refine (hc).use ?_; refine g0_ ?_
    refine g1_ ?_
    exact frz_t2 (frz_zeroT _)
end Go.Eng.YtkenlcaifhffoaaDoor
end

/- Splits: the document's CutSplit (b_ x_ q_ e_). -/
section
namespace Go.Eng.YtkenlcaifhffoaaDoor
open Go Go.Eng Go.Proofs
variable (W : World)
set_option linter.unusedSimpArgs false
set_option maxRecDepth 100000
set_option linter.unusedVariables false
set_option maxHeartbeats 4000000
inductive El where
  | old (k : Spl)
  | new (p s : Int)
def El.v : El → PV
  | .old k => encSpl k
  | .new p s => .agg [.int .i64 0, .int .i64 p, .int .i64 s, .nils]
def El.t : El → Spl
  | .old k => k
  | .new p s => .mk 0 p s []
theorem cutK_len (pane way fresh w : Int) (k : Spl) : (cutK pane way fresh w k).length ≤ 2 := by unfold cutK; split <;> simp
theorem cuts_len (pane way fresh w : Int) : ∀ ks : List Spl, (ks.flatMap (cutK pane way fresh w)).length ≤ 2 * ks.length
  | [] => by simp
  | k :: ks => by
    have h1 := cutK_len pane way fresh w k
    have h2 := cuts_len pane way fresh w ks
    rw [List.flatMap_cons, List.length_append, List.length_cons]; omega
end Go.Eng.YtkenlcaifhffoaaDoor
end
