/- Texts put together: Hs29, Hs30. -/
import Derived.Test.YtkenlcaifhffoaaDoorMHS25
import Derived.Test.YtkenlcaifhffoaaDoorMHS26
import Derived.Test.YtkenlcaifhffoaaDoorMHS17
/- Houses: the document's CloseOf, where the session goes (b_ x_ q_ e_). -/
section
namespace Go.Eng.YtkenlcaifhffoaaDoor
open Go Go.Eng Go.Proofs
variable (W : World)
set_option linter.unusedSimpArgs false
set_option maxRecDepth 100000
set_option linter.unusedVariables false
set_option maxHeartbeats 8000000
theorem gone_next {s : Int} {l : List Vw} {j : Nat} {v : Vw} (h : l[j]? = some v) : goneV s (l.take (j + 1)) = if v.s = s then goneV s (l.take j) else goneV s (l.take j) ++ [decV s v] := by
  rw [take_snoc_of h, goneV, goneV, stayV, stayV, List.filter_append, List.map_append]
  by_cases hv : v.s = s
  · rw [if_pos hv, List.filter_cons_of_neg (by simpa using hv)]
    simp
  · rw [if_neg hv, List.filter_cons_of_pos (by simpa using hv)]
    simp
theorem closeOf_ses (h : Hs) (hok : h.ok) (h0 : chkH h = 0) (pane : Int) (i k : Nat) (w : Win) (hps : posS h.ses pane = some (i, k)) (hwa : winAt h.ses i k = some w) (hmany : ¬ 1 < (panesT w.s).length) (s0 : Ses) (hs0 : h.ses[i]? = some s0) (hsn : ¬ 1 < s0.wins.length) : Pure Tryd.prog W 10 [encHs h, .int .i64 pane] (.tup [encHs ⟨h.ses.eraseIdx i, goneV i h.views, h.next⟩, .int .i64 0]) := by
  have hwh := whereR_ok W h hok h0 pane
  unfold whereI at hwh
  rw [hps] at hwh
  dsimp only at hwh
  obtain ⟨s, w', hs, hw, hp, hb1, hb2⟩ := posS_some hps
  obtain rfl : w' = w := by
    unfold winAt at hwa
    rw [hs] at hwa
    exact Option.some.inj (hw.symm.trans hwa)
  have hcl := cloneIn_ok W h hok h0 i s hs
  have hwr := (right_win h0 s (List.mem_of_getElem? hs)).win w' (List.mem_of_getElem? hw)
  have hsm := right_win h0 s (List.mem_of_getElem? hs)
  have hsk := hok.se s (List.mem_of_getElem? hs)
  have hck := checkR_ok W w'.s (hsk.win w' (List.mem_of_getElem? hw)).s
  have hv0 : (chkT w'.s 0 []).1 = 0 := by rw [← chk_eqL]; exact hwr.vis
  rw [chk_panesL hv0, hv0] at hck
  have hl12 := (vis_right hwr.vis).2.2.1
  have hcn := cnt_right w'.s 0 (vis_right hwr.vis).1
  have hln := panesV_len (panesT w'.s)
  obtain rfl : s0 = s := Option.some.inj (hs0.symm.trans hs)
  have hs1 := hsm.many.1
  have hi4 : i < 4 := Nat.lt_of_lt_of_le (lt_of_at hs) (right_ses h0).1
  have hvk := hok.view
  have hvl := (right_ses h0).2.1
  rw [encSpl_eta] at hck
  rw [encHs_mk] at hwh hcl ⊢
  refine Pure.of (acalls_of_vc (drawOk W) Tryd.func10 rfl (by decide) (by decide) rfl ?_)
  (refine g0_ ?_; repeat (refine n1_ fun b_ => ?_; refine g0_ ?_))
  rename_i b2
  obtain ⟨b4, rfl⟩ : ∃ z, z = b_ := ⟨_, rfl⟩
  refine (hwh).use ?_; refine g0_ ?_
  refine g1_ ?_
  refine ACalls.giveE hcl ?_
  rintro ⟨⟨bs, L, o, vs, nx⟩, x0, R, E⟩ ⟨hT2, ho, hx, hs5, hR, hE⟩
  dsimp only at hT2 ho hx hR hE hs5
  subst hs5
  have hil := lt_of_at hx
  have hkl := lt_of_at hw
  have hEl : E.length = x0.2.wins.length := by rw [hE]; exact List.length_map _
  have hRl : R.length = L.length := by rw [hR]; exact List.length_map _
  have hbS : R[0 + i]? = some (.agg [.str x0.2.name, .rsl x0.1 8 0 x0.2.wins.length, .int .i64 x0.2.act, .int .i64 x0.2.bef]) := by
    rw [Nat.zero_add, hR, List.getElem?_map, hx]
    rfl
  have hbW : E[0 + k]? = some (encWin w') := by
    rw [Nat.zero_add, hE, List.getElem?_map, hw]
    rfl
  unfold encWin at hbW
  dsimp only
  have hR4 : (L.map sesR).length = L.length := List.length_map _
  have hcR : (L.map sesR).all cellsB = true := List.all_eq_true.2 fun v hv => by
    obtain ⟨p, -, rfl⟩ := List.mem_map.1 hv
    rfl
  rw [← hR] at hcR
  have hdl := delSnD_ok W bs i (i + 1) rfl R hcR (by omega)
  rw [show ((i + 1 : Nat) : Int) = (i : Int) + 1 from rfl, hRl] at hdl
  have hV : h.views = vs := by rw [← hT2]; rfl
  rw [hV] at hvk hvl
  rcases o with _ | bo
  · obtain rfl := ho rfl
    (refine g0_ ?_; repeat (refine Elem1.mk fun e_ he_ => ?_; refine g0_ ?_))
    (repeat ((first | obtain rfl := Option.some.inj (hbW.symm.trans he_) | obtain rfl := Option.some.inj (hbS.symm.trans he_) | obtain rfl := Option.some.inj ((set_at hbS _).symm.trans he_) | obtain rfl := Option.some.inj ((set_at (set_at hbS _) _).symm.trans he_) | obtain rfl := Option.some.inj ((set_at (set_at (set_at hbS _) _) _).symm.trans he_) | obtain rfl := Option.some.inj ((set_at (set_at (set_at (set_at hbS _) _) _) _).symm.trans he_) | obtain rfl := Option.some.inj ((set_at (set_at (set_at (set_at (set_at hbS _) _) _) _) _).symm.trans he_)); clear he_; (refine g0_ ?_; repeat (refine Elem1.mk fun e_ he_ => ?_; refine g0_ ?_))))
    refine (hck).use ?_; refine g0_ ?_
    (refine g1_ ?_; repeat (refine Elem1.mk fun e_ he_ => ?_; refine g1_ ?_))
    (repeat ((first | obtain rfl := Option.some.inj (hbW.symm.trans he_) | obtain rfl := Option.some.inj (hbS.symm.trans he_) | obtain rfl := Option.some.inj ((set_at hbS _).symm.trans he_) | obtain rfl := Option.some.inj ((set_at (set_at hbS _) _).symm.trans he_) | obtain rfl := Option.some.inj ((set_at (set_at (set_at hbS _) _) _).symm.trans he_) | obtain rfl := Option.some.inj ((set_at (set_at (set_at (set_at hbS _) _) _) _).symm.trans he_) | obtain rfl := Option.some.inj ((set_at (set_at (set_at (set_at (set_at hbS _) _) _) _) _).symm.trans he_)); clear he_; refine g0_ ?_))
    refine g1_ ?_
    refine' loopI (α := Nat) (fun j => [(129, .int .i64 j), (13, .nils)]) [(2, _), (4, _), (6, _), (127, _), (128, _)] (fun j => ⟨bs, .row 4 R 0⟩ :: ⟨x0.1, .row 8 E 0⟩ :: ⟨b2, .row 3 [.agg [.rsl bs 4 0 L.length, .nils, .int .i64 nx]] 0⟩ :: ⟨b4, .row 3 [.agg [.nils, .nils, .int .i64 0]] 0⟩ :: famM 8 encWin ((L.map winsP).eraseIdx i)) (fun j => j = 0) (fun j => 0) 0 ?_ ?_
    · rfl
    rintro j rfl
    refine g0_ ?_
    refine g1_ ?_
    refine ACalls.lend1 hdl lk_ ?_
    rintro _ -
    refine g0_ ?_
    rw [hV, show goneV (i : Int) [] = [] from rfl]
    subst hT2
    refine .tup _ _ rfl fun j hj => ?_
    match j, hj with
    | 0, _ =>
      refine HsDone.frz fun b => done_gone (T := []) (V := []) (js := [zSnD]) rfl hil (.refl _) ?_ (.inl rfl) (.nils 3)
      rw [← hR]
      (first | exact ⟨_, .refl _⟩ | exact wkMem.rfl' | exact ⟨_, .swap _ _ _⟩ | (repeat (first | exact wkMem.nil _ | exact wkMem.rfl' | exact wk_snoc _ _ _ | exact wk_fam (by assumption) _ _ _ | exact wk_famN (by assumption) _ _ _ | (apply wkMem.cons; (case' hl => (repeat (first | exact .here _ _ _ | apply Look.there)))) | apply wkMem.skip)))
    | 1, _ => exact .refl _
  · (refine g0_ ?_; repeat (refine Elem1.mk fun e_ he_ => ?_; refine g0_ ?_))
    (repeat ((first | obtain rfl := Option.some.inj (hbW.symm.trans he_) | obtain rfl := Option.some.inj (hbS.symm.trans he_) | obtain rfl := Option.some.inj ((set_at hbS _).symm.trans he_) | obtain rfl := Option.some.inj ((set_at (set_at hbS _) _).symm.trans he_) | obtain rfl := Option.some.inj ((set_at (set_at (set_at hbS _) _) _).symm.trans he_) | obtain rfl := Option.some.inj ((set_at (set_at (set_at (set_at hbS _) _) _) _).symm.trans he_) | obtain rfl := Option.some.inj ((set_at (set_at (set_at (set_at (set_at hbS _) _) _) _) _).symm.trans he_)); clear he_; (refine g0_ ?_; repeat (refine Elem1.mk fun e_ he_ => ?_; refine g0_ ?_))))
    refine (hck).use ?_; refine g0_ ?_
    (refine g1_ ?_; repeat (refine Elem1.mk fun e_ he_ => ?_; refine g1_ ?_))
    (repeat ((first | obtain rfl := Option.some.inj (hbW.symm.trans he_) | obtain rfl := Option.some.inj (hbS.symm.trans he_) | obtain rfl := Option.some.inj ((set_at hbS _).symm.trans he_) | obtain rfl := Option.some.inj ((set_at (set_at hbS _) _).symm.trans he_) | obtain rfl := Option.some.inj ((set_at (set_at (set_at hbS _) _) _).symm.trans he_) | obtain rfl := Option.some.inj ((set_at (set_at (set_at (set_at hbS _) _) _) _).symm.trans he_) | obtain rfl := Option.some.inj ((set_at (set_at (set_at (set_at (set_at hbS _) _) _) _) _).symm.trans he_)); clear he_; refine g0_ ?_))
    refine g1_ ?_
    have hvm : (vs.map encVw).length = vs.length := List.length_map _
    refine' loopI (α := Nat × Nat × (List Vw)) (fun (j, b', l) => [(129, .int .i64 j), (13, accV b' 3 (l.map encVw))]) [(2, _), (4, _), (6, _), (127, _), (128, _)] (fun (j, b', l) => ⟨bs, .row 4 R 0⟩ :: ⟨x0.1, .row 8 E 0⟩ :: ⟨b2, .row 3 [.agg [.rsl bs 4 0 L.length, .rsl bo 3 0 vs.length, .int .i64 nx]] 0⟩ :: ⟨b4, .row 3 [.agg [.nils, .nils, .int .i64 0]] 0⟩ :: ⟨bo, .row 3 (vs.map encVw) 0⟩ :: (accM b' 3 (l.map encVw) ++ famM 8 encWin ((L.map winsP).eraseIdx i))) (fun (j, b', l) => j ≤ vs.length ∧ l = goneV i (vs.take j)) (fun (j, b', l) => vs.length - j) (0, 0, []) ?_ ?_
    · exact ⟨Nat.zero_le _, rfl⟩
    rintro ⟨j, b', l⟩ ⟨hj, hl⟩
    by_cases hje : j = vs.length
    · subst hje
      rw [List.take_length] at hl
      rcases l with _ | ⟨l0, l⟩
      · refine g0_ ?_
        refine g1_ ?_
        refine ACalls.lend1 hdl lk_ ?_
        rintro _ -
        refine g0_ ?_
        rw [hV, ← hl]
        subst hT2
        refine .tup _ _ rfl fun j hj => ?_
        match j, hj with
        | 0, _ =>
          refine HsDone.frz fun b => done_gone (T := []) (V := []) (js := [zSnD]) rfl hil (.refl _) ?_ (.inl rfl) (.nils 3)
          rw [← hR]
          (first | exact ⟨_, .refl _⟩ | exact wkMem.rfl' | exact ⟨_, .swap _ _ _⟩ | (repeat (first | exact wkMem.nil _ | exact wkMem.rfl' | exact wk_snoc _ _ _ | exact wk_fam (by assumption) _ _ _ | exact wk_famN (by assumption) _ _ _ | (apply wkMem.cons; (case' hl => (repeat (first | exact .here _ _ _ | apply Look.there)))) | apply wkMem.skip)))
        | 1, _ => exact .refl _
      · refine g0_ ?_
        refine g1_ ?_
        refine ACalls.lend1 hdl lk_ ?_
        rintro _ -
        refine g0_ ?_
        rw [hV, ← hl]
        subst hT2
        refine .tup _ _ rfl fun j hj => ?_
        match j, hj with
        | 0, _ =>
          refine HsDone.frz fun b => done_gone (T := []) (V := []) (js := [zSnD]) rfl hil (.refl _) ?_ (.inr (.inl ⟨_, _, _, _, rfl⟩)) (frz_row lk_ _ (by simp))
          rw [← hR]
          (first | exact ⟨_, .refl _⟩ | exact wkMem.rfl' | exact ⟨_, .swap _ _ _⟩ | (repeat (first | exact wkMem.nil _ | exact wkMem.rfl' | exact wk_snoc _ _ _ | exact wk_fam (by assumption) _ _ _ | exact wk_famN (by assumption) _ _ _ | (apply wkMem.cons; (case' hl => (repeat (first | exact .here _ _ _ | apply Look.there)))) | apply wkMem.skip)))
        | 1, _ => exact .refl _
    · obtain ⟨v, hv⟩ : ∃ v, vs[j]? = some v := ⟨_, List.getElem?_eq_getElem (show j < vs.length by omega)⟩
      have hvz : vs[0 + j]? = some v := by rw [Nat.zero_add]; exact hv
      have hgn := gone_next (s := (i : Int)) hv
      rw [← hl] at hgn
      obtain ⟨hv1, hv2, hv3⟩ := hvk v (List.mem_of_getElem? hv)
      have hll : l.length ≤ 4 := by
        rw [hl, goneV, List.length_map, stayV]
        exact Nat.le_trans (List.length_filter_le _ _) (by rw [List.length_take]; omega)
      unfold i64ok at hv1 hv2 hv3
      by_cases hvi : v.s = i
      · rw [if_pos hvi] at hgn
        rcases l with _ | ⟨l0, l⟩
        · refine g0_ ?_
          (refine g1_ ?_; repeat (refine n1_ fun b_ => ?_; refine g1_ ?_))
          refine nx_ (j + 1, b', []) ?_ ?_
          · exact ⟨by omega, hgn.symm⟩
          · ((try dsimp only); (try simp only [List.length_drop, List.length_take, List.length_append, List.length_cons, List.length_nil, List.length_map] at *); omega)
        · refine g0_ ?_
          (refine g1_ ?_; repeat (refine n1_ fun b_ => ?_; refine g1_ ?_))
          refine nx_ (j + 1, b', l0 :: l) ?_ ?_
          · exact ⟨by omega, hgn.symm⟩
          · ((try dsimp only); (try simp only [List.length_drop, List.length_take, List.length_append, List.length_cons, List.length_nil, List.length_map] at *); omega)
      · rw [if_neg hvi] at hgn
        by_cases hvg : (i : Int) < v.s
        · have e1 : encVw (decV i v) = .agg [.int .i64 (v.s - 1), .int .i64 v.w, .int .i64 v.h] := by
            unfold decV
            rw [if_pos hvg]
            rfl
          rcases l with _ | ⟨l0, l⟩
          · refine g0_ ?_
            (refine g1_ ?_; repeat (refine n1_ fun b_ => ?_; refine g1_ ?_))
            refine .inl ?_
            (refine g0_ ?_; repeat (refine n1_ fun b_ => ?_; refine g0_ ?_))
            rw [← e1]
            try rw [show ∀ v : PV, (List.map encVw l).length + 1 + [v].length = (List.map encVw (l ++ [(decV i v)])).length + 1 from fun v => by simp]
            try rw [show (encVw l0 :: List.map encVw l) ++ [encVw (decV i v)] = List.map encVw (l0 :: l ++ [(decV i v)]) from by simp]
            refine nx_ (j + 1, b_, [] ++ [(decV i v)]) ?_ ?_
            · exact ⟨by omega, hgn.symm⟩
            · ((try dsimp only); (try simp only [List.length_drop, List.length_take, List.length_append, List.length_cons, List.length_nil, List.length_map] at *); omega)
          · rw [List.length_cons] at hll
            have hlm : (List.map encVw l).length = l.length := List.length_map _
            refine g0_ ?_
            (refine g1_ ?_; repeat (refine n1_ fun b_ => ?_; refine g1_ ?_))
            refine .inl ?_
            (refine g0_ ?_; repeat (refine n2_ fun b_ => ?_; refine g0_ ?_))
            rw [← e1]
            try rw [show ∀ v : PV, (List.map encVw l).length + 1 + [v].length = (List.map encVw (l ++ [(decV i v)])).length + 1 from fun v => by simp]
            try rw [show (encVw l0 :: List.map encVw l) ++ [encVw (decV i v)] = List.map encVw (l0 :: l ++ [(decV i v)]) from by simp]
            refine nx_ (j + 1, b_, (l0 :: l) ++ [(decV i v)]) ?_ ?_
            · exact ⟨by omega, hgn.symm⟩
            · ((try dsimp only); (try simp only [List.length_drop, List.length_take, List.length_append, List.length_cons, List.length_nil, List.length_map] at *); omega)
        · have e1 : encVw (decV i v) = .agg [.int .i64 v.s, .int .i64 v.w, .int .i64 v.h] := by
            unfold decV
            rw [if_neg hvg]
            rfl
          rcases l with _ | ⟨l0, l⟩
          · refine g0_ ?_
            (refine g1_ ?_; repeat (refine n1_ fun b_ => ?_; refine g1_ ?_))
            refine .inl ?_
            (refine g0_ ?_; repeat (refine n1_ fun b_ => ?_; refine g0_ ?_))
            rw [← e1]
            try rw [show ∀ v : PV, (List.map encVw l).length + 1 + [v].length = (List.map encVw (l ++ [(decV i v)])).length + 1 from fun v => by simp]
            try rw [show (encVw l0 :: List.map encVw l) ++ [encVw (decV i v)] = List.map encVw (l0 :: l ++ [(decV i v)]) from by simp]
            refine nx_ (j + 1, b_, [] ++ [(decV i v)]) ?_ ?_
            · exact ⟨by omega, hgn.symm⟩
            · ((try dsimp only); (try simp only [List.length_drop, List.length_take, List.length_append, List.length_cons, List.length_nil, List.length_map] at *); omega)
          · rw [List.length_cons] at hll
            have hlm : (List.map encVw l).length = l.length := List.length_map _
            refine g0_ ?_
            (refine g1_ ?_; repeat (refine n1_ fun b_ => ?_; refine g1_ ?_))
            refine .inl ?_
            (refine g0_ ?_; repeat (refine n2_ fun b_ => ?_; refine g0_ ?_))
            rw [← e1]
            try rw [show ∀ v : PV, (List.map encVw l).length + 1 + [v].length = (List.map encVw (l ++ [(decV i v)])).length + 1 from fun v => by simp]
            try rw [show (encVw l0 :: List.map encVw l) ++ [encVw (decV i v)] = List.map encVw (l0 :: l ++ [(decV i v)]) from by simp]
            refine nx_ (j + 1, b_, (l0 :: l) ++ [(decV i v)]) ?_ ?_
            · exact ⟨by omega, hgn.symm⟩
            · ((try dsimp only); (try simp only [List.length_drop, List.length_take, List.length_append, List.length_cons, List.length_nil, List.length_map] at *); omega)
end Go.Eng.YtkenlcaifhffoaaDoor
end

/- Houses: the law HouseClose (b_ x_ q_ e_). -/
section
namespace Go.Eng.YtkenlcaifhffoaaDoor
open Go Go.Eng Go.Proofs
variable (W : World)
set_option linter.unusedSimpArgs false
set_option maxRecDepth 100000
set_option linter.unusedVariables false
set_option maxHeartbeats 8000000
theorem closeOf_ok (h : Hs) (hok : h.ok) (h0 : chkH h = 0) (pane : Int) : Pure Tryd.prog W 10 [encHs h, .int .i64 pane] (.tup [encHs (if onE h pane = 0 then closeY h pane else noHs), .int .i64 (onE h pane)]) := by
  cases hps : posS h.ses pane with
  | none =>
    rw [show onE h pane = 6 by rw [onE, hps, if_pos rfl], if_neg (by decide)]
    exact closeOf_none W h hok h0 pane hps
  | some y =>
    obtain ⟨i, k⟩ := y
    obtain ⟨s, w, hs, hw, hp, hb1, hb2⟩ := posS_some hps
    have hwa : winAt h.ses i k = some w := by rw [winAt, hs]; exact hw
    rw [show onE h pane = 0 by rw [onE, hps, if_neg (by simp)], if_pos rfl]
    unfold closeY
    rw [hps]
    dsimp only
    rw [hwa, hs]
    dsimp only
    by_cases hm : 1 < (panesT w.s).length
    · rw [if_pos hm]
      exact closeOf_many W h hok h0 pane i k w hps hwa hm
    · rw [if_neg hm]
      by_cases hsm : 1 < s.wins.length
      · rw [if_pos hsm]
        exact closeOf_win W h hok h0 pane i k w hps hwa hm s hs hsm
      · rw [if_neg hsm]
        exact closeOf_ses W h hok h0 pane i k w hps hwa hm s hs hsm
theorem dropR_okT {t : Spl} (ht : t.ok) (hn : cntT t ≤ 1000) (pane : Int) : (dropR t pane).1.ok := by
  unfold dropR
  split
  · exact zeroT_ok
  split
  · exact zeroT_ok
  split
  · exact zeroT_ok
  have hc := cnt_with pane t 0
  cases hq : withT noD pane t 0 with
  | nil => exact plain_okT zeroT (by decide) zeroT_ok
  | cons x l =>
    have hx := with_okT pane t hn ht 0 x (by rw [hq]; simp)
    rw [hq, cntTs] at hc
    exact plain_okT x (by omega) hx
theorem nextP_ok {l : List Int} (hl : ∀ p ∈ l, 1 ≤ p ∧ p ≤ 9999) (p : Int) : i64ok (nextP l p) := by
  unfold nextP
  rw [List.getD_eq_getElem?_getD]
  cases hq : (l.take (l.idxOf p) ++ l.drop (l.idxOf p + 1))[l.idxOf p - 1]? with
  | none => exact ⟨by decide, by decide⟩
  | some x =>
    have hm := List.mem_of_getElem? hq
    have hx : x ∈ l := by
      rcases List.mem_append.1 hm with h | h
      · exact List.mem_of_mem_take h
      · exact List.mem_of_mem_drop h
    have := hl x hx
    exact ⟨by show _ ≤ x; omega, by show x ≤ _; omega⟩
theorem closeY_ok {h : Hs} (hok : h.ok) (h0 : chkH h = 0) (pane : Int) : (closeY h pane).ok := by
  unfold closeY
  cases hps : posS h.ses pane with
  | none => exact hok
  | some y =>
    obtain ⟨i, k⟩ := y
    obtain ⟨s, w, hs, hw, hp, hb1, hb2⟩ := posS_some hps
    have hwa : winAt h.ses i k = some w := by rw [winAt, hs]; exact hw
    have hsm := List.mem_of_getElem? hs
    have hwm := List.mem_of_getElem? hw
    have hso := hok.se s hsm
    have hwo := hso.win w hwm
    have hsr := right_win h0 s hsm
    have hwr := hsr.win w hwm
    obtain ⟨hT1, hT2⟩ := winT_of hwr
    have hkw := lt_of_at hw
    dsimp only
    rw [hwa, hs]
    dsimp only
    split
    · have hcn : cntT w.s ≤ 1000 := by have := cnt_right w.s 0 hT1; omega
      have hd := dropR_okT hwo.s hcn pane
      have h00 : i64ok 0 := ⟨by decide, by decide⟩
      have hcl : (clsV w pane).ok := by
        unfold clsV
        split
        · exact ⟨hwo.name, hd, nextP_ok (panes_pos1 w.s 0 hT1) pane, h00⟩
        · unfold clsW
          split
          · refine ⟨hwo.name, hd, ?_, h00⟩
            show i64ok (if w.bef = pane then 0 else w.bef)
            split
            · exact h00
            · exact hwo.bef
          · refine ⟨hwo.name, hd, hwo.act, ?_⟩
            show i64ok (if w.bef = pane then 0 else w.bef)
            split
            · exact h00
            · exact hwo.bef
      exact ⟨by (show (setW _ _ _ _).length ≤ _); rw [setW_len]; exact hok.ses, setW_ok hok.se _ _ _ hcl, hok.views, hok.view, hok.next⟩
    split
    · have h6 := hsr.many.2
      have h7 := hsr.act
      have h8 := hsr.bef
      have hlv : (lvS s k).ok := by
        refine ⟨hso.name, ?_, ?_, ?_, ?_⟩
        · show (s.wins.eraseIdx k).length ≤ _
          rw [List.length_eraseIdx]
          split <;> omega
        · intro w' hw'
          exact hso.win w' (List.mem_of_mem_eraseIdx hw')
        · show i64ok (lvD (lvA s.act s.bef k) k)
          unfold lvD lvA i64ok
          (repeat' split) <;> omega
        · show i64ok (lvD (lvB s.act s.bef k) k)
          unfold lvD lvB lvA i64ok
          (repeat' split) <;> omega
      refine ⟨by show (h.ses.set i _).length ≤ _; rw [List.length_set]; exact hok.ses, fun s' hs' => ?_, hok.views, hok.view, hok.next⟩
      rcases List.mem_or_eq_of_mem_set hs' with h1 | rfl
      · exact hok.se s' h1
      · exact hlv
    · refine ⟨?_, fun s' hs' => hok.se s' (List.mem_of_mem_eraseIdx hs'), ?_, fun v hv => ?_, hok.next⟩
      · show (h.ses.eraseIdx i).length ≤ _
        have := hok.ses
        rw [List.length_eraseIdx]
        split <;> omega
      · show (goneV i h.views).length ≤ _
        rw [goneV, List.length_map, stayV]
        exact Nat.le_trans (List.length_filter_le _ _) hok.views
      · obtain ⟨v0, hv0, rfl⟩ := List.mem_map.1 (show v ∈ (stayV i h.views).map (decV i) from hv)
        obtain ⟨a1, a2, a3⟩ := hok.view v0 (List.mem_filter.1 hv0).1
        unfold decV
        split
        · refine ⟨?_, a2, a3⟩
          unfold i64ok at a1 ⊢
          dsimp only
          omega
        · exact ⟨a1, a2, a3⟩
theorem close1P_ok (hT : Tabs W) (h : Hs) (hok : h.ok) (pane : Int) : Pure Tryd.prog W 7 [encHs h, .ip (.int .i64 pane) 0] (.tup [encHs (chgR h (onE h pane) (closeY h pane)).1, .int .i64 (chgR h (onE h pane) (closeY h pane)).2]) := by
  have hs := hcloseP_ok W hT h hok pane
  generalize chgR h (onE h pane) (closeY h pane) = R at *
  obtain ⟨X, E⟩ := R
  dsimp only at *
  rw [encHs_mk h, encHs_mk X] at *
  refine Pure.of (acalls_of_vc (drawOk W) Tryd.func7 rfl (by decide) (by decide) rfl ?_)
  (refine g0_ ?_; repeat (refine n1_ fun b_ => ?_; refine g0_ ?_))
  refine (hs).use ?_; refine g0_ ?_
  exact .refl _
theorem close2_ok (h : Hs) (hok : h.ok) (h0 : chkH h = 0) (pane : Int) : DoesTo W 9 [.ip (.int .i64 pane) 0] h (closeY h pane) (onE h pane) := by
  have hc := closeOf_ok W h hok h0 pane
  intro b x hx ho
  have hz : Frz x.M x.V (encHs x.T) := frz_oh ho wkMem.rfl'
  subst hx
  generalize onE x.T pane = E at *
  generalize closeY x.T pane = Y at *
  obtain ⟨X, hX⟩ : ∃ X, X = (if E = 0 then Y else noHs) := ⟨_, rfl⟩
  rw [← hX] at hc
  rw [encHs_mk X] at hc
  obtain ⟨bs, L, o, vs, nx⟩ := x
  rcases L with _ | ⟨l0, L⟩
  · rcases o with _ | bo
    · unfold OH.V at *
      dsimp only at *
      refine acalls_of_vc (DM_ok (by decide)) Tryd.func9 rfl (by decide) (by decide) rfl ?_
      refine g0_ ?_
      refine Draws11.tree ⟨10, [.new, .new, .new, .new, .turn, .skip, .skip, .skip, .turn, .skip], (.two 4 [.keep, .keep, .keep, .keep, .keep, .new, .new, .new, .turn, .skip] (.one 8 [.keep, .keep, .keep, .keep, .keep, .again, .again, .again, .keep, .turn] (.one 9 [.keep, .keep, .keep, .keep, .keep, .keep, .keep, .again, .keep, .keep] .fin)) 8 [.again, .again, .again, .again, .turn, .skip, .skip, .skip, .keep, .skip] (.one 4 [.keep, .keep, .keep, .keep, .keep, .new, .new, .new, .keep, .turn] (.one 9 [.keep, .keep, .keep, .keep, .keep, .keep, .keep, .again, .keep, .keep] .fin))), by decide +kernel, ?_⟩; refine g0_ ?_
      refine ⟨?_, ?_⟩
      · refine g0_ ?_
        refine Pure.giveUp (τ := [_]) hc rfl (.refl _) (fun i hi => ?_) ?_
        · match i, hi with
          | 0, _ => exact hz
          | 1, _ => exact .refl _
        (refine g0_ ?_; repeat (refine n1_ fun b_ => ?_; refine g0_ ?_))
        refine ⟨rfl, fun hE => ?_⟩
        rw [if_pos hE] at hX
        subst hX
        exact ⟨_, _, _, .refl _, .inr (.inr ⟨_, _, rfl⟩), .inr (.inr ⟨_, _, rfl⟩), .refl _, .refl _⟩
      · (refine g0_ ?_; repeat (refine n1_ fun b_ => ?_; refine g0_ ?_))
        refine Pure.giveUp (τ := [_, _]) hc rfl (.refl _) (fun i hi => ?_) ?_
        · match i, hi with
          | 0, _ => exact hz
          | 1, _ => exact .refl _
        refine g0_ ?_
        refine ⟨rfl, fun hE => ?_⟩
        rw [if_pos hE] at hX
        subst hX
        exact ⟨_, _, _, .refl _, .inr (.inr ⟨_, _, rfl⟩), .inr (.inr ⟨_, _, rfl⟩), .refl _, .refl _⟩
    · unfold OH.V at *
      dsimp only at *
      refine acalls_of_vc (DM_ok (by decide)) Tryd.func9 rfl (by decide) (by decide) rfl ?_
      refine g0_ ?_
      refine Draws11.tree ⟨10, [.new, .new, .new, .new, .turn, .skip, .skip, .skip, .turn, .skip], (.two 4 [.keep, .keep, .keep, .keep, .keep, .new, .new, .new, .turn, .skip] (.one 8 [.keep, .keep, .keep, .keep, .keep, .again, .again, .again, .keep, .turn] (.one 9 [.keep, .keep, .keep, .keep, .keep, .keep, .keep, .again, .keep, .keep] .fin)) 8 [.again, .again, .again, .again, .turn, .skip, .skip, .skip, .keep, .skip] (.one 4 [.keep, .keep, .keep, .keep, .keep, .new, .new, .new, .keep, .turn] (.one 9 [.keep, .keep, .keep, .keep, .keep, .keep, .keep, .again, .keep, .keep] .fin))), by decide +kernel, ?_⟩; refine g0_ ?_
      refine ⟨?_, ?_⟩
      · refine g0_ ?_
        refine Pure.giveUp (τ := [_]) hc rfl (.refl _) (fun i hi => ?_) ?_
        · match i, hi with
          | 0, _ => exact hz
          | 1, _ => exact .refl _
        (refine g0_ ?_; repeat (refine n1_ fun b_ => ?_; refine g0_ ?_))
        refine ⟨rfl, fun hE => ?_⟩
        rw [if_pos hE] at hX
        subst hX
        exact ⟨_, _, _, .refl _, .inr (.inr ⟨_, _, rfl⟩), .inr (.inr ⟨_, _, rfl⟩), .refl _, .refl _⟩
      · (refine g0_ ?_; repeat (refine n1_ fun b_ => ?_; refine g0_ ?_))
        refine Pure.giveUp (τ := [_, _]) hc rfl (.refl _) (fun i hi => ?_) ?_
        · match i, hi with
          | 0, _ => exact hz
          | 1, _ => exact .refl _
        refine g0_ ?_
        refine ⟨rfl, fun hE => ?_⟩
        rw [if_pos hE] at hX
        subst hX
        exact ⟨_, _, _, .refl _, .inr (.inr ⟨_, _, rfl⟩), .inr (.inr ⟨_, _, rfl⟩), .refl _, .refl _⟩
  · rcases o with _ | bo
    · unfold OH.V at *
      dsimp only at *
      refine acalls_of_vc (DM_ok (by decide)) Tryd.func9 rfl (by decide) (by decide) rfl ?_
      refine g0_ ?_
      refine Draws11.tree ⟨10, [.new, .new, .new, .new, .turn, .skip, .skip, .skip, .turn, .skip], (.two 4 [.keep, .keep, .keep, .keep, .keep, .new, .new, .new, .turn, .skip] (.one 8 [.keep, .keep, .keep, .keep, .keep, .again, .again, .again, .keep, .turn] (.one 9 [.keep, .keep, .keep, .keep, .keep, .keep, .keep, .again, .keep, .keep] .fin)) 8 [.again, .again, .again, .again, .turn, .skip, .skip, .skip, .keep, .skip] (.one 4 [.keep, .keep, .keep, .keep, .keep, .new, .new, .new, .keep, .turn] (.one 9 [.keep, .keep, .keep, .keep, .keep, .keep, .keep, .again, .keep, .keep] .fin))), by decide +kernel, ?_⟩; refine g0_ ?_
      refine ⟨?_, ?_⟩
      · refine g0_ ?_
        refine Pure.giveUp (τ := [_]) hc rfl (.refl _) (fun i hi => ?_) ?_
        · match i, hi with
          | 0, _ => exact hz
          | 1, _ => exact .refl _
        (refine g0_ ?_; repeat (refine n1_ fun b_ => ?_; refine g0_ ?_))
        refine ⟨rfl, fun hE => ?_⟩
        rw [if_pos hE] at hX
        subst hX
        exact ⟨_, _, _, .refl _, .inr (.inr ⟨_, _, rfl⟩), .inr (.inr ⟨_, _, rfl⟩), .refl _, .refl _⟩
      · (refine g0_ ?_; repeat (refine n1_ fun b_ => ?_; refine g0_ ?_))
        refine Pure.giveUp (τ := [_, _]) hc rfl (.refl _) (fun i hi => ?_) ?_
        · match i, hi with
          | 0, _ => exact hz
          | 1, _ => exact .refl _
        refine g0_ ?_
        refine ⟨rfl, fun hE => ?_⟩
        rw [if_pos hE] at hX
        subst hX
        exact ⟨_, _, _, .refl _, .inr (.inr ⟨_, _, rfl⟩), .inr (.inr ⟨_, _, rfl⟩), .refl _, .refl _⟩
    · unfold OH.V at *
      dsimp only at *
      refine acalls_of_vc (DM_ok (by decide)) Tryd.func9 rfl (by decide) (by decide) rfl ?_
      refine g0_ ?_
      refine Draws11.tree ⟨10, [.new, .new, .new, .new, .turn, .skip, .skip, .skip, .turn, .skip], (.two 4 [.keep, .keep, .keep, .keep, .keep, .new, .new, .new, .turn, .skip] (.one 8 [.keep, .keep, .keep, .keep, .keep, .again, .again, .again, .keep, .turn] (.one 9 [.keep, .keep, .keep, .keep, .keep, .keep, .keep, .again, .keep, .keep] .fin)) 8 [.again, .again, .again, .again, .turn, .skip, .skip, .skip, .keep, .skip] (.one 4 [.keep, .keep, .keep, .keep, .keep, .new, .new, .new, .keep, .turn] (.one 9 [.keep, .keep, .keep, .keep, .keep, .keep, .keep, .again, .keep, .keep] .fin))), by decide +kernel, ?_⟩; refine g0_ ?_
      refine ⟨?_, ?_⟩
      · refine g0_ ?_
        refine Pure.giveUp (τ := [_]) hc rfl (.refl _) (fun i hi => ?_) ?_
        · match i, hi with
          | 0, _ => exact hz
          | 1, _ => exact .refl _
        (refine g0_ ?_; repeat (refine n1_ fun b_ => ?_; refine g0_ ?_))
        refine ⟨rfl, fun hE => ?_⟩
        rw [if_pos hE] at hX
        subst hX
        exact ⟨_, _, _, .refl _, .inr (.inr ⟨_, _, rfl⟩), .inr (.inr ⟨_, _, rfl⟩), .refl _, .refl _⟩
      · (refine g0_ ?_; repeat (refine n1_ fun b_ => ?_; refine g0_ ?_))
        refine Pure.giveUp (τ := [_, _]) hc rfl (.refl _) (fun i hi => ?_) ?_
        · match i, hi with
          | 0, _ => exact hz
          | 1, _ => exact .refl _
        refine g0_ ?_
        refine ⟨rfl, fun hE => ?_⟩
        rw [if_pos hE] at hX
        subst hX
        exact ⟨_, _, _, .refl _, .inr (.inr ⟨_, _, rfl⟩), .inr (.inr ⟨_, _, rfl⟩), .refl _, .refl _⟩
theorem houseClose_ok (hT : Tabs W) (h : Hs) (hok : h.ok) (pane : Int) (_ : i64ok pane) : Pure Tryd.prog W 3 [encHs h, .int .i64 pane] (.bool true) := by
  have hh := houses_ok W hT h hok 7 9 [.ip (.int .i64 pane) 0] [.ip (.int .i64 pane) 0] (closeY h pane) (onE h pane)
    (fun h0 _ => closeY_ok hok h0 pane) (close1P_ok W hT h hok pane) (fun h0 => close2_ok W h hok h0 pane)
  rw [encHs_mk h] at *
  refine Pure.of (acalls_of_vc (drawOk W) Tryd.func3 rfl (by decide) (by decide) rfl ?_)
  (refine g0_ ?_; repeat (refine n1_ fun b_ => ?_; refine g0_ ?_))
  refine hh.borrow (args' := [.agg [.sl 4 (h.ses.map encSes), .sl 3 (h.views.map encVw), .int .i64 h.next], .fn 7 [.ip (.int .i64 pane) 0], .fn 9 [.ip (.int .i64 pane) 0]]) rfl rfl (fun j hj => ?_) ?_
  · match j, hj with
    | 0, _ => exact .refl _
    | 1, _ => exact .fn _ _ _ rfl fun j hj => (by match j, hj with | 0, _ => exact .bref _ _ _ _ _ _ lk_)
    | 2, _ => exact .fn _ _ _ rfl fun j hj => (by match j, hj with | 0, _ => exact .bref _ _ _ _ _ _ lk_)
  refine g0_ ?_
  exact .refl _
end Go.Eng.YtkenlcaifhffoaaDoor
end
