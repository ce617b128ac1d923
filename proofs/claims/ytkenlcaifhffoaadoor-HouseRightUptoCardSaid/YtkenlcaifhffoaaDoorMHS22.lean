/- Texts put together: Hs21, Hs22. -/
import Derived.Test.YtkenlcaifhffoaaDoorMSB
import Derived.Test.YtkenlcaifhffoaaDoorMHS13
/- Splits: Panes, in memory of its own (b_ x_ q_ e_). -/
section
namespace Go.Eng.YtkenlcaifhffoaaDoor
open Go Go.Eng Go.Proofs
variable (W : World)
set_option linter.unusedSimpArgs false
set_option maxRecDepth 100000
set_option linter.unusedVariables false
set_option maxHeartbeats 4000000
theorem panesOwn_ok (t : Spl) (way : Int) (hr : t.right way) (hn : (panesT t).length ≤ 12) (hw1 : t.way ≠ 0) :
    ACalls Tryd.prog W 31 [encSpl t] [] (Gives (fun b : Nat => .rsl b 1 0 (panesT t).length) (fun b => [⟨b, .row 1 (panesV (panesT t)) 0⟩]) (fun _ => True)) := by
  obtain ⟨w, p, s, ks⟩ := t
  have hw0 : ¬ w = 0 := hw1
  have hkl : (ks.map encSpl).length = ks.length := List.length_map _
  have hpt : panesT (.mk w p s ks) = ks.flatMap panesT := by rw [panesT_mk, if_neg hw0]
  rw [right_mk] at hr
  rw [hpt] at hn ⊢
  rw [encSpl_mk]
  rcases hr.2 with ⟨h0, hk, -⟩ | ⟨hw, -, hk2, -, hkr⟩
  · exact absurd h0 hw0
  have hkp := kids_panes hkr
  have hfl : 1 ≤ (ks.flatMap panesT).length := by
    rcases ks with _ | ⟨k0, ks⟩
    · simp at hk2
    · rw [List.flatMap_cons, List.length_append]
      have := right_panes k0 w (hkr k0 (by simp))
      omega
  refine acalls_of_vc (drawOk W) Tryd.func31 rfl (by decide) (by decide) rfl ?_
  (refine g0_ ?_; repeat (refine n1_ fun b_ => ?_; refine g0_ ?_))
  revert b_
  intro bX
  refine g1_ ?_
  refine' loopI (α := Nat × Nat × (List Int)) (fun (i, b', l) => [(15, .int .i64 i), (3, accV b' 1 (panesV l))]) [(13, _), (14, _)] (fun (i, b', l) => ⟨bX, .row 4 [.agg [.int .i64 w, .int .i64 p, .int .i64 s, .sl 4 (ks.map encSpl)]] 0⟩ :: accM b' 1 (panesV l)) (fun (i, b', l) => i ≤ ks.length ∧ l ++ (ks.drop i).flatMap panesT = ks.flatMap panesT) (fun (i, b', l) => ks.length - i) (0, 0, []) ?_ ?_
  · exact ⟨Nat.zero_le _, rfl⟩
  rintro ⟨i, b', l⟩ ⟨hi, hl⟩
  rcases l with _ | ⟨l0, l⟩
  · refine g0_ ?_
    refine brec ?_; intro c_ hlt; (try rw [hlt]); cases c_ <;> replace hlt := nm_ hlt
    · have : i = ks.length := by omega
      subst this
      rw [List.drop_length, List.flatMap_nil, List.append_nil] at hl
      refine g0_ ?_
      exact absurd hfl (hl ▸ by decide)
    · have hil : i < ks.length := by omega
      (refine g0_ ?_; repeat (refine em_ fun x_ hx_ => ?_; refine g0_ ?_))
      have hm := List.mem_of_getElem? hx_
      have hkp := kid_panes hm
      have hk1 := right_panes x_ w (hkr _ hm)
      have hcl := panes_ok W x_ w (hkr _ hm) (by omega)
      have hnx : ([] ++ panesT x_) ++ (ks.drop (i + 1)).flatMap panesT = ks.flatMap panesT := by
        rw [← hl, List.drop_eq_getElem_cons hil, (List.getElem?_eq_some_iff.1 hx_).2, List.flatMap_cons, List.append_assoc]
      have hsm := congrArg List.length hnx
      simp only [List.length_append, List.length_cons, List.length_nil] at hsm
      generalize hq : panesT x_ = q at *
      obtain ⟨q0, q, rfl⟩ : ∃ a l, q = a :: l := by
        cases q with
        | nil => simp at hk1
        | cons a l => exact ⟨a, l, rfl⟩
      simp only [List.length_cons] at hsm hkp hk1
      have hql : (panesV q).length = q.length := List.length_map _
      obtain ⟨w2, p2, s2, ks2⟩ := x_
      rw [encSpl_mk] at hcl ⊢
      rw [show panesV (q0 :: q) = .int .i64 q0 :: panesV q from rfl] at hcl
      (refine g0_ ?_; repeat (refine n1_ fun b_ => ?_; refine g0_ ?_))
      refine (hcl).use ?_; refine g0_ ?_
      refine need.mk (panes_all (q0 :: q)) ?_
      (refine g0_ ?_; repeat (refine n1_ fun b_ => ?_; refine g0_ ?_))
      try rw [show (List.map (PV.int .i64) l).length + 1 + (PV.int .i64 q0 :: panesV q).length = (List.map (PV.int .i64) (l ++ q0 :: q)).length + 1 from by simp [panesV]; omega]
      try rw [show (PV.int .i64 l0 :: List.map (PV.int .i64) l) ++ (PV.int .i64 q0 :: panesV q) = panesV (l0 :: l ++ q0 :: q) from by simp [panesV]]
      refine nx_ (i + 1, b_, [] ++ q0 :: q) ?_ ?_
      · exact ⟨hil, hnx⟩
      · ((try dsimp only); (try simp only [List.length_drop, List.length_take, List.length_append, List.length_cons, List.length_nil, List.length_map] at *); omega)
  · refine g0_ ?_
    refine brec ?_; intro c_ hlt; (try rw [hlt]); cases c_ <;> replace hlt := nm_ hlt
    · have : i = ks.length := by omega
      subst this
      rw [List.drop_length, List.flatMap_nil, List.append_nil] at hl
      refine g0_ ?_
      rw [← hl]
      refine ⟨b', trivial, by simp, ?_⟩
      (first | exact ⟨_, .refl _⟩ | exact wkMem.rfl' | exact ⟨_, .swap _ _ _⟩ | (repeat (first | exact wkMem.nil _ | exact wkMem.rfl' | exact wk_snoc _ _ _ | exact wk_fam (by assumption) _ _ _ | exact wk_famN (by assumption) _ _ _ | (apply wkMem.cons; (case' hl => (repeat (first | exact .here _ _ _ | apply Look.there)))) | apply wkMem.skip)))
    · have hil : i < ks.length := by omega
      (refine g0_ ?_; repeat (refine em_ fun x_ hx_ => ?_; refine g0_ ?_))
      have hm := List.mem_of_getElem? hx_
      have hkp := kid_panes hm
      have hk1 := right_panes x_ w (hkr _ hm)
      have hcl := panes_ok W x_ w (hkr _ hm) (by omega)
      have hnx : ((l0 :: l) ++ panesT x_) ++ (ks.drop (i + 1)).flatMap panesT = ks.flatMap panesT := by
        rw [← hl, List.drop_eq_getElem_cons hil, (List.getElem?_eq_some_iff.1 hx_).2, List.flatMap_cons, List.append_assoc]
      have hsm := congrArg List.length hnx
      simp only [List.length_append, List.length_cons, List.length_nil] at hsm
      generalize hq : panesT x_ = q at *
      obtain ⟨q0, q, rfl⟩ : ∃ a l, q = a :: l := by
        cases q with
        | nil => simp at hk1
        | cons a l => exact ⟨a, l, rfl⟩
      simp only [List.length_cons] at hsm hkp hk1
      have hql : (panesV q).length = q.length := List.length_map _
      obtain ⟨w2, p2, s2, ks2⟩ := x_
      rw [encSpl_mk] at hcl ⊢
      rw [show panesV (q0 :: q) = .int .i64 q0 :: panesV q from rfl] at hcl
      (refine g0_ ?_; repeat (refine n1_ fun b_ => ?_; refine g0_ ?_))
      refine (hcl).use ?_; refine g0_ ?_
      refine need.mk (panes_all (q0 :: q)) ?_
      (refine g0_ ?_; repeat (refine n2_ fun b_ => ?_; refine g0_ ?_))
      try rw [show (List.map (PV.int .i64) l).length + 1 + (PV.int .i64 q0 :: panesV q).length = (List.map (PV.int .i64) (l ++ q0 :: q)).length + 1 from by simp [panesV]; omega]
      try rw [show (PV.int .i64 l0 :: List.map (PV.int .i64) l) ++ (PV.int .i64 q0 :: panesV q) = panesV (l0 :: l ++ q0 :: q) from by simp [panesV]]
      refine nx_ (i + 1, b_, (l0 :: l) ++ q0 :: q) ?_ ?_
      · exact ⟨hil, hnx⟩
      · ((try dsimp only); (try simp only [List.length_drop, List.length_take, List.length_append, List.length_cons, List.length_nil, List.length_map] at *); omega)
end Go.Eng.YtkenlcaifhffoaaDoor
end

/- Houses: rows that are longer than what is told of them. -/
section
namespace Go.Eng.YtkenlcaifhffoaaDoor
open Go Go.Eng Go.Proofs
variable (W : World)
set_option linter.unusedSimpArgs false
set_option maxRecDepth 100000
set_option linter.unusedVariables false
set_option maxHeartbeats 8000000
theorem FrzL.rowJ {σ r : Mem} {es es' js : List PV} {b sz n fz : Nat} (h : FrzL σ es es') (hl : Look σ b (.row sz (es ++ js) fz) r) (hn : n = es.length) : Frz σ (.rsl b sz 0 n) (.sl sz es') := by
  subst hn
  refine .rsl b sz 0 _ (es ++ js) es' fz r hl (by simp) h.1.symm fun j hj => ?_
  rw [Nat.zero_add, List.getD_eq_getElem?_getD, List.getElem?_append_left hj, ← List.getD_eq_getElem?_getD]
  exact h.2 j hj
theorem FrzL.same {σ : Mem} (es : List PV) : FrzL σ es es := ⟨rfl, fun j hj => .refl _⟩
theorem frz_sesJ {σ r : Mem} {b fz : Nat} {x : Ses} {js : List PV} (hl : Look σ b (.row 8 (x.wins.map encWin ++ js) fz) r) : Frz σ (sesR (b, x)) (encSes x) := by
  refine .agg _ _ rfl fun j hj => ?_
  match j, hj with
  | 0, _ => exact .refl _
  | 1, _ => exact (FrzL.same _).rowJ hl (by simp)
  | 2, _ => exact .refl _
  | 3, _ => exact .refl _
theorem frz_sesLJ {σ : Mem} {L : List (Nat × Ses)} (h : ∀ p ∈ L, ∃ js fz r, Look σ p.1 (.row 8 (p.2.wins.map encWin ++ js) fz) r) : FrzL σ (L.map sesR) ((L.map Prod.snd).map encSes) := by
  rw [List.map_map]
  exact .map fun p hp => by
    obtain ⟨js, fz, r, hl⟩ := h p hp
    exact frz_sesJ hl
theorem done_ses3 {b bs nb i : Nat} {L : List (Nat × Ses)} {x : Nat × Ses} {x' : Ses} {next : Int} {o : Option Nat} {vs : List Vw} {σ T : Mem} {Y : Hs} {R' js : List PV} (hx : L[i]? = some x) (eR : R' = (L.set i (nb, x')).map sesR)
    (hY : Y = ⟨(L.map Prod.snd).set i x', vs, next⟩) (ho : o = none → vs = [])
    (hσ : σ.Perm (⟨b, .row 3 [.agg [.rsl bs 4 0 L.length, vwV o vs, .int .i64 next]] 0⟩ :: ⟨bs, .row 4 R' 0⟩ :: ⟨nb, .row 8 (x'.wins.map encWin ++ js) 0⟩ :: (T ++ (vwM o vs ++ famM 8 encWin ((L.map winsP).eraseIdx i))))) : HsDone b Y σ := by
  subst hY
  refine ⟨_, _, _, hσ, .inr (.inl ⟨_, _, _, _, rfl⟩), ?_, ?_, ?_⟩
  · cases o with
    | none => exact .inl rfl
    | some c => exact .inr (.inl ⟨_, _, _, _, rfl⟩)
  · obtain ⟨r, hr⟩ := Look.of_wk (σ := ⟨bs, .row 4 R' 0⟩ :: ⟨nb, .row 8 (x'.wins.map encWin ++ js) 0⟩ :: (T ++ (vwM o vs ++ famM 8 encWin ((L.map winsP).eraseIdx i)))) wkMem.rfl' List.mem_cons_self
    have hF : FrzL (⟨bs, .row 4 R' 0⟩ :: ⟨nb, .row 8 (x'.wins.map encWin ++ js) 0⟩ :: (T ++ (vwM o vs ++ famM 8 encWin ((L.map winsP).eraseIdx i)))) R' (((L.set i (nb, x')).map Prod.snd).map encSes) := by
      rw [eR]
      refine frz_sesLJ fun p hp => ?_
      rcases List.mem_iff_getElem?.1 hp with ⟨j, hj⟩
      by_cases hji : i = j
      · subst hji
        rw [List.getElem?_set, if_pos rfl, if_pos (lt_of_at hx)] at hj
        obtain rfl := Option.some.inj hj
        exact ⟨js, 0, Look.of_wk wkMem.rfl' (List.mem_cons_of_mem _ List.mem_cons_self)⟩
      · rw [List.getElem?_set, if_neg hji] at hj
        have hm : ⟨p.1, .row 8 (p.2.wins.map encWin) 0⟩ ∈ famM 8 encWin ((L.map winsP).eraseIdx i) := by
          have hmem : (p.1, p.2.wins) ∈ (L.map winsP).eraseIdx i := by
            have := winsP_at hj
            refine List.mem_iff_getElem?.2 ?_
            by_cases hlt : j < i
            · exact ⟨j, by rw [List.getElem?_eraseIdx, if_pos hlt]; exact this⟩
            · exact ⟨j - 1, by rw [List.getElem?_eraseIdx, if_neg (by omega), show j - 1 + 1 = j by omega]; exact this⟩
          unfold famM
          exact List.mem_map.2 ⟨_, hmem, rfl⟩
        obtain ⟨r2, hr2⟩ := Look.of_wk (σ := ⟨bs, .row 4 R' 0⟩ :: ⟨nb, .row 8 (x'.wins.map encWin ++ js) 0⟩ :: (T ++ (vwM o vs ++ famM 8 encWin ((L.map winsP).eraseIdx i)))) wkMem.rfl' (List.mem_cons_of_mem _ (List.mem_cons_of_mem _ (List.mem_append_right _ (List.mem_append_right _ hm))))
        exact ⟨[], 0, r2, by rw [List.append_nil, ← eR]; exact hr2⟩
    have h3 := hF.row hr (show L.length = R'.length by rw [eR]; simp)
    rw [List.map_set] at h3
    exact h3
  · exact frz_vw ho fun c hc => Look.of_wk wkMem.rfl' (List.mem_cons_of_mem _ (List.mem_cons_of_mem _ (List.mem_append_right _ (List.mem_append_left _ (by rw [hc]; exact List.mem_singleton.2 rfl)))))
theorem done_gone {b bs i : Nat} {L : List (Nat × Ses)} {next : Int} {vv : PV} {vs : List Vw} {σ ρ T V : Mem} {Y : Hs} {js : List PV} (hY : Y = ⟨(L.map Prod.snd).eraseIdx i, vs, next⟩) (hi : i < L.length)
    (hσ : σ.Perm (⟨b, .row 3 [.agg [.rsl bs 4 0 (L.length - 1), vv, .int .i64 next]] 0⟩ :: ρ))
    (hw : wkMem ρ (⟨bs, .row 4 ((L.map sesR).take i ++ (L.map sesR).drop (i + 1) ++ js) 0⟩ :: famM 8 encWin ((L.map winsP).eraseIdx i))) (h2 : SlV vv) (f2 : Frz ρ vv (.sl 3 (vs.map encVw))) : HsDone b Y σ := by
  subst hY
  refine ⟨_, _, _, hσ, .inr (.inl ⟨_, _, _, _, rfl⟩), h2, ?_, f2⟩
  obtain ⟨r, hr⟩ := Look.of_wk hw List.mem_cons_self
  have e1 : (L.map sesR).take i ++ (L.map sesR).drop (i + 1) = (L.eraseIdx i).map sesR := by
    rw [List.eraseIdx_eq_take_drop_succ, List.map_append, List.map_take, List.map_drop]
  have e2 : (L.map winsP).eraseIdx i = (L.eraseIdx i).map winsP := by
    rw [List.eraseIdx_eq_take_drop_succ, List.eraseIdx_eq_take_drop_succ, List.map_append, List.map_take, List.map_drop]
  have e3 : (L.map Prod.snd).eraseIdx i = (L.eraseIdx i).map Prod.snd := by
    rw [List.eraseIdx_eq_take_drop_succ, List.eraseIdx_eq_take_drop_succ, List.map_append, List.map_take, List.map_drop]
  rw [e1] at hr
  have hF : FrzL ρ ((L.eraseIdx i).map sesR) (((L.eraseIdx i).map Prod.snd).map encSes) := by
    refine frz_sesLJ fun p hp => ?_
    have hm : ⟨p.1, .row 8 (p.2.wins.map encWin) 0⟩ ∈ famM 8 encWin ((L.map winsP).eraseIdx i) := by
      rw [e2]
      unfold famM
      rw [List.map_map]
      exact List.mem_map.2 ⟨p, hp, rfl⟩
    obtain ⟨r2, hr2⟩ := Look.of_wk hw (List.mem_cons_of_mem _ hm)
    exact ⟨[], 0, r2, by rw [List.append_nil]; exact hr2⟩
  dsimp only
  rw [e3]
  exact hF.rowJ hr (by rw [List.length_map, List.length_eraseIdx, if_pos hi])
end Go.Eng.YtkenlcaifhffoaaDoor
end
