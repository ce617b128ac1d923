/- Texts put together: HseX, HseY, HseZ. -/
import Derived.Test.YtkenlcaifhffoaaDoorMHS4
import Derived.Test.YtkenlcaifhffoaaDoorMSB
/- Houses: the document's copy: its splits (b_ x_ q_ e_). -/
section
namespace Go.Eng.YtkenlcaifhffoaaDoor
open Go Go.Eng Go.Proofs
variable (W : World)
set_option linter.unusedSimpArgs false
set_option maxRecDepth 100000
set_option linter.unusedVariables false
set_option maxHeartbeats 4000000
theorem idS_ok (t : Spl) : Pure Tryd.prog W 65 [encSpl t] (encSpl t) := by
  obtain ⟨w, p, s, ks⟩ := t
  rw [encSpl_mk]
  refine Pure.of (acalls_of_vc (drawOk W) Tryd.func65 rfl (by decide) (by decide) rfl ?_)
  (refine g0_ ?_; repeat (refine n1_ fun b_ => ?_; refine g0_ ?_))
  exact .refl _
theorem mapId_ok (t : Spl) : t.ok → Pure Tryd.prog W 64 [encSpl t, .fn 65 []] (encSpl t) := by
  induction t using spl_induct with
  | h w p s ks ih =>
    intro ht
    obtain ⟨o1, o2, o3, o4, hks⟩ := spl_ok.1 ht
    have hkl : (ks.map encSpl).length = ks.length := List.length_map _
    have hid := idS_ok W (.mk w p s ks)
    rw [encSpl_mk] at hid ⊢
    refine Pure.of (acalls_of_vc (drawOk W) Tryd.func64 rfl (by decide) (by decide) rfl ?_)
    (refine g0_ ?_; repeat (refine n1_ fun b_ => ?_; refine g0_ ?_))
    by_cases hw : w = 0
    · refine g1_ ?_
      refine (hid).use ?_; refine g0_ ?_
      refine g0_ ?_
      exact .refl _
    · (refine g1_ ?_; repeat (refine n1_ fun b_ => ?_; refine g1_ ?_))
      rename_i bT bR
      obtain ⟨bO, rfl⟩ : ∃ z, z = b_ := ⟨_, rfl⟩
      refine' loopI (α := Nat × Nat × (List Spl)) (fun (i, b', l) => [(19, .int .i64 i)]) [(1, _), (4, _), (5, _), (17, _), (18, _)] (fun (i, b', l) => ⟨bO, .row 4 [.agg [.int .i64 w, .int .i64 p, .int .i64 s, accV b' 4 (splsV l)]] 0⟩ :: ⟨bR, .row 4 [.agg [.int .i64 0, .int .i64 0, .int .i64 0, .nils]] 0⟩ :: ⟨bT, .row 4 [.agg [.int .i64 w, .int .i64 p, .int .i64 s, .sl 4 (ks.map encSpl)]] 0⟩ :: accM b' 4 (splsV l)) (fun (i, b', l) => i ≤ ks.length ∧ l = ks.take i) (fun (i, b', l) => ks.length - i) (0, 0, []) ?_ ?_
      · exact ⟨Nat.zero_le _, rfl⟩
      rintro ⟨i, b', l⟩ ⟨hi, hl⟩
      rcases l with _ | ⟨l0, l⟩
      · refine g0_ ?_
        refine brec ?_; intro c_ hlt; (try rw [hlt]); cases c_ <;> replace hlt := nm_ hlt
        · have : i = ks.length := by omega
          subst this
          rw [List.take_length] at hl
          refine g0_ ?_
          rw [← hl]
          refine .agg _ _ rfl fun j hj => ?_
          match j, hj with
          | 0, _ => exact .refl _
          | 1, _ => exact .refl _
          | 2, _ => exact .refl _
          | 3, _ => exact .nils 4
        · have hil : i < ks.length := by omega
          have hee := congrArg List.length hl
          simp only [List.length_cons, List.length_nil, List.length_take] at hee
          (refine g0_ ?_; repeat (refine em_ fun x_ hx_ => ?_; refine g0_ ?_))
          have hcl := ih x_ (List.mem_of_getElem? hx_) (hks _ (List.mem_of_getElem? hx_))
          have hnx : ks.take (i + 1) = [] ++ [x_] := by rw [take_snoc_of hx_, ← hl]
          obtain ⟨w2, p2, s2, ks2⟩ := x_
          have e2 := encSpl_mk w2 p2 s2 ks2
          rw [e2] at hcl ⊢
          (refine g0_ ?_; repeat (refine n1_ fun b_ => ?_; refine g0_ ?_))
          refine head_ ?_; refine g0_ ?_
          refine ⟨_, (hcl).quiet, ?_⟩; (refine g0_ ?_; repeat (refine n1_ fun b_ => ?_; refine g0_ ?_))
          rw [← e2]
          try rw [show ∀ v : PV, (List.map encSpl l).length + 1 + [v].length = (List.map encSpl (l ++ [.mk w2 p2 s2 ks2])).length + 1 from fun v => by simp]
          try rw [show (encSpl l0 :: List.map encSpl l) ++ [encSpl (.mk w2 p2 s2 ks2)] = splsV (l0 :: l ++ [.mk w2 p2 s2 ks2]) from by simp [splsV]]
          refine nx_ (i + 1, b_, [] ++ [.mk w2 p2 s2 ks2]) ?_ ?_
          · exact ⟨hil, hnx.symm⟩
          · ((try dsimp only); (try simp only [List.length_drop, List.length_take, List.length_append, List.length_cons, List.length_nil, List.length_map] at *); omega)
      · refine g0_ ?_
        refine brec ?_; intro c_ hlt; (try rw [hlt]); cases c_ <;> replace hlt := nm_ hlt
        · have : i = ks.length := by omega
          subst this
          rw [List.take_length] at hl
          refine g0_ ?_
          rw [← hl]
          refine .agg _ _ rfl fun j hj => ?_
          match j, hj with
          | 0, _ => exact .refl _
          | 1, _ => exact .refl _
          | 2, _ => exact .refl _
          | 3, _ => exact frz_row (l := splsV (l0 :: l)) (.there _ _ _ _ _ (.there _ _ _ _ _ (.there _ _ _ _ _ (.here _ _ _)))) _ rfl
        · have hil : i < ks.length := by omega
          have hee := congrArg List.length hl
          simp only [List.length_cons, List.length_nil, List.length_take] at hee
          (refine g0_ ?_; repeat (refine em_ fun x_ hx_ => ?_; refine g0_ ?_))
          have hcl := ih x_ (List.mem_of_getElem? hx_) (hks _ (List.mem_of_getElem? hx_))
          have hnx : ks.take (i + 1) = (l0 :: l) ++ [x_] := by rw [take_snoc_of hx_, ← hl]
          obtain ⟨w2, p2, s2, ks2⟩ := x_
          have e2 := encSpl_mk w2 p2 s2 ks2
          rw [e2] at hcl ⊢
          (refine g0_ ?_; repeat (refine n1_ fun b_ => ?_; refine g0_ ?_))
          refine head_ ?_; refine g0_ ?_
          refine ⟨_, (hcl).quiet, ?_⟩; (refine g0_ ?_; repeat (refine n2_ fun b_ => ?_; refine g0_ ?_))
          rw [← e2]
          try rw [show ∀ v : PV, (List.map encSpl l).length + 1 + [v].length = (List.map encSpl (l ++ [.mk w2 p2 s2 ks2])).length + 1 from fun v => by simp]
          try rw [show (encSpl l0 :: List.map encSpl l) ++ [encSpl (.mk w2 p2 s2 ks2)] = splsV (l0 :: l ++ [.mk w2 p2 s2 ks2]) from by simp [splsV]]
          refine nx_ (i + 1, b_, (l0 :: l) ++ [.mk w2 p2 s2 ks2]) ?_ ?_
          · exact ⟨hil, hnx.symm⟩
          · ((try dsimp only); (try simp only [List.length_drop, List.length_take, List.length_append, List.length_cons, List.length_nil, List.length_map] at *); omega)
end Go.Eng.YtkenlcaifhffoaaDoor
end

/- Houses: the document's copy (b_ x_ q_ e_). -/
section
namespace Go.Eng.YtkenlcaifhffoaaDoor
open Go Go.Eng Go.Proofs
variable (W : World)
set_option linter.unusedSimpArgs false
set_option maxRecDepth 100000
set_option linter.unusedVariables false
set_option maxHeartbeats 16000000
theorem cloneHR_ok (h : Hs) (hok : h.ok) : ACalls Tryd.prog W 24 [encHs h] [] (Gives OH.V OH.M (fun x => x.T = h ∧ (x.o = none → x.views = []))) := by
  obtain ⟨hsl, hse, hvl, hvv, hnx⟩ := hok
  obtain ⟨ses, views, next⟩ := h
  dsimp only at hsl hse hvl hvv hnx
  have hm1 : (ses.map encSes).length = ses.length := List.length_map _
  have hm2 : (views.map encVw).length = views.length := List.length_map _
  have hcv := clone_vw W views hvl
  unfold encHs
  dsimp only
  refine acalls_of_vc (DM_ok (by decide)) Tryd.func24 rfl (by decide) (by decide) rfl ?_
  (refine g0_ ?_; repeat (refine n1_ fun b_ => ?_; refine g0_ ?_))
  rename_i bH
  obtain ⟨bR, rfl⟩ : ∃ z, z = b_ := ⟨_, rfl⟩
  refine Draws11.tree ⟨8, [.new, .new, .new, .new, .turn, .skip, .turn, .skip], (.two 4 [.again, .again, .keep, .keep, .keep, .new, .turn, .skip] (.one 6 [.again, .again, .keep, .keep, .keep, .again, .keep, .turn] (.one 7 [.keep, .keep, .keep, .keep, .keep, .keep, .keep, .keep] .fin)) 6 [.again, .again, .again, .again, .turn, .skip, .keep, .skip] (.one 4 [.again, .again, .keep, .keep, .keep, .new, .keep, .turn] (.one 7 [.keep, .keep, .keep, .keep, .keep, .keep, .keep, .keep] .fin))), by decide +kernel, ?_⟩; refine g0_ ?_
  refine ⟨?_, ?_⟩
  · refine g0_ ?_
    refine ACalls.give hcv ?_
    rintro o ho
    rcases o with _ | bo
    · (refine g0_ ?_; repeat (refine n1_ fun b_ => ?_; refine g0_ ?_))
      obtain ⟨bO, rfl⟩ : ∃ z, z = b_ := ⟨_, rfl⟩
      refine' loopI (α := Nat × Nat × (List (Nat × Ses))) (fun (i, bs, L) => [(18, .int .i64 i)]) [(2, _), (3, _), (16, _), (17, _)] (fun (i, bs, L) => ⟨bO, .row 3 [.agg [accV bs 4 ((L).map sesV), .nils, .int .i64 next]] 0⟩ :: ⟨bR, .row 3 [.agg [.nils, .nils, .int .i64 0]] 0⟩ :: ⟨bH, .row 3 [.agg [.sl 4 (ses.map encSes), .sl 3 (views.map encVw), .int .i64 next]] 0⟩ :: (accM bs 4 (L.map sesV) ++ famR L)) (fun (i, bs, L) => i ≤ ses.length ∧ L.map Prod.snd = ses.take i) (fun (i, bs, L) => ses.length - i) (0, 0, []) ?_ ?_
      · exact ⟨Nat.zero_le _, rfl⟩
      rintro ⟨i, bs, L⟩ ⟨hi, hL⟩
      by_cases hie : i = ses.length
      · subst hie
        rw [List.take_length] at hL
        rcases L with _ | ⟨l0, L⟩
        · refine g0_ ?_
          refine g1_ ?_
          exact ⟨⟨bs, ([] : List (Nat × Ses)), none, views, next⟩, ⟨by rw [OH.T]; dsimp only; rw [hL], ho⟩, rfl, by (show wkMem _ (([] : Mem) ++ (accM bs 4 ((([] : List (Nat × Ses))).map sesV) ++ famR (([] : List (Nat × Ses)))))); (try rw [List.nil_append]); (first | exact ⟨_, .refl _⟩ | exact wkMem.rfl' | exact ⟨_, .swap _ _ _⟩ | (repeat (first | exact wkMem.nil _ | exact wkMem.rfl' | exact wk_snoc _ _ _ | exact wk_fam (by assumption) _ _ _ | exact wk_famN (by assumption) _ _ _ | (apply wkMem.cons; (case' hl => (repeat (first | exact .here _ _ _ | apply Look.there)))) | apply wkMem.skip)))⟩
        · refine g0_ ?_
          refine g1_ ?_
          exact ⟨⟨bs, (l0 :: L), none, views, next⟩, ⟨by rw [OH.T]; dsimp only; rw [hL], ho⟩, rfl, by (show wkMem _ (([] : Mem) ++ (accM bs 4 (((l0 :: L)).map sesV) ++ famR ((l0 :: L))))); (try rw [List.nil_append]); (first | exact ⟨_, .refl _⟩ | exact wkMem.rfl' | exact ⟨_, .swap _ _ _⟩ | (repeat (first | exact wkMem.nil _ | exact wkMem.rfl' | exact wk_snoc _ _ _ | exact wk_fam (by assumption) _ _ _ | exact wk_famN (by assumption) _ _ _ | (apply wkMem.cons; (case' hl => (repeat (first | exact .here _ _ _ | apply Look.there)))) | apply wkMem.skip)))⟩
      · have hil : i < ses.length := by omega
        obtain ⟨x, hx⟩ : ∃ x, ses[i]? = some x := ⟨_, List.getElem?_eq_getElem hil⟩
        obtain ⟨hxn, hxw, hxx, -, -⟩ := hse x (List.mem_of_getElem? hx)
        have hwm : (x.wins.map encWin).length = x.wins.length := List.length_map _
        refine g0_ ?_
        (refine g1_ ?_; repeat (refine n1_ fun b_ => ?_; refine g1_ ?_))
        rename_i b5
        obtain ⟨b6, rfl⟩ : ∃ z, z = b_ := ⟨_, rfl⟩
        refine' loopI (α := Nat × Nat × (List Win)) (fun (j, bw, ws) => [(27, .int .i64 j)]) [(2, _), (3, _), (6, _), (16, _), (17, _), (18, _), (25, _), (26, _)] (fun (j, bw, ws) => ⟨b6, .row 4 [.agg [.str x.name, accV bw 8 (ws.map encWin), .int .i64 x.act, .int .i64 x.bef]] 0⟩ :: ⟨b5, .row 4 [.agg [.str x.name, .sl 8 (x.wins.map encWin), .int .i64 x.act, .int .i64 x.bef]] 0⟩ :: ⟨bO, .row 3 [.agg [accV bs 4 ((L).map sesV), .nils, .int .i64 next]] 0⟩ :: ⟨bR, .row 3 [.agg [.nils, .nils, .int .i64 0]] 0⟩ :: ⟨bH, .row 3 [.agg [.sl 4 (ses.map encSes), .sl 3 (views.map encVw), .int .i64 next]] 0⟩ :: (accM bw 8 (ws.map encWin) ++ (accM bs 4 (L.map sesV) ++ famR L))) (fun (j, bw, ws) => j ≤ x.wins.length ∧ ws = x.wins.take j) (fun (j, bw, ws) => x.wins.length - j) (0, 0, []) ?_ ?_
        · exact ⟨Nat.zero_le _, rfl⟩
        rintro ⟨j, bw, ws⟩ ⟨hj, hws⟩
        by_cases hje : j = x.wins.length
        · subst hje
          rw [List.take_length] at hws
          rcases ws with _ | ⟨w0, ws⟩
          · rcases L with _ | ⟨l0, L⟩
            · have e3 : sesV (bw, x) = .agg [.str x.name, accV bw 8 (List.map encWin (([] : List Win))), .int .i64 x.act, .int .i64 x.bef] := by
                unfold sesV
                rw [← hws]
              have hLl : (([] : List (Nat × Ses))).length ≤ 1048576 := by
                have := congrArg List.length hL
                rw [List.length_map, List.length_take] at this
                omega
              have hLn : (([] : List (Nat × Ses)) ++ [(bw, x)]).map Prod.snd = ses.take (i + 1) := by rw [take_snoc_of hx, List.map_append, hL]; rfl
              have hfm : famR (([] : List (Nat × Ses)) ++ [(bw, x)]) = accM bw 8 ((([] : List Win)).map encWin) ++ famR (([] : List (Nat × Ses))) := by rw [famR_snoc, hws]
              simp only [List.length_cons, List.length_nil] at hLl
              try have hLm : (List.map sesV L).length = L.length := List.length_map _
              refine g0_ ?_
              refine g1_ ?_
              refine .inl ?_
              (refine g0_ ?_; repeat (refine n1_ fun b_ => ?_; refine g0_ ?_))
              rw [← e3]
              try rw [show ∀ v : PV, (List.map sesV L).length + 1 + [v].length = (List.map sesV (L ++ [(bw, x)])).length + 1 from fun v => by simp]
              try rw [show (sesV l0 :: List.map sesV L) ++ [sesV (bw, x)] = List.map sesV (l0 :: L ++ [(bw, x)]) from by simp]
              refine ⟨(i + 1, b_, ([] : List (Nat × Ses)) ++ [(bw, x)]), ⟨hil, hLn⟩, (show ses.length - (i + 1) < ses.length - i by omega), ?_, ?_⟩
              · (repeat (refine wkEnv.cons (by first | rfl | ((conv => lhs; whnf); first | rfl | (congr 1; (try push_cast); omega) | (congr 1; simp; done) | (congr 1; simp; omega) | (simp; done) | (simp [*]; done))) ?_))
                exact wkEnv.nil
              · refine (show wkMem _ (⟨bO, .row 3 [.agg [accV b_ 4 ((([] : List (Nat × Ses)) ++ [(bw, x)]).map sesV), .nils, .int .i64 next]] 0⟩ :: ⟨bR, .row 3 [.agg [.nils, .nils, .int .i64 0]] 0⟩ :: ⟨bH, .row 3 [.agg [.sl 4 (ses.map encSes), .sl 3 (views.map encVw), .int .i64 next]] 0⟩ :: (accM b_ 4 ((([] : List (Nat × Ses)) ++ [(bw, x)]).map sesV) ++ famR (([] : List (Nat × Ses)) ++ [(bw, x)]))) from ?_)
                rw [hfm]
                (first | exact ⟨_, .refl _⟩ | exact wkMem.rfl' | exact ⟨_, .swap _ _ _⟩ | (repeat (first | exact wkMem.nil _ | exact wkMem.rfl' | exact wk_snoc _ _ _ | exact wk_fam (by assumption) _ _ _ | exact wk_famN (by assumption) _ _ _ | (apply wkMem.cons; (case' hl => (repeat (first | exact .here _ _ _ | apply Look.there)))) | apply wkMem.skip)))
            · have e3 : sesV (bw, x) = .agg [.str x.name, accV bw 8 (List.map encWin (([] : List Win))), .int .i64 x.act, .int .i64 x.bef] := by
                unfold sesV
                rw [← hws]
              have hLl : ((l0 :: L)).length ≤ 1048576 := by
                have := congrArg List.length hL
                rw [List.length_map, List.length_take] at this
                omega
              have hLn : ((l0 :: L) ++ [(bw, x)]).map Prod.snd = ses.take (i + 1) := by rw [take_snoc_of hx, List.map_append, hL]; rfl
              have hfm : famR ((l0 :: L) ++ [(bw, x)]) = accM bw 8 ((([] : List Win)).map encWin) ++ famR ((l0 :: L)) := by rw [famR_snoc, hws]
              simp only [List.length_cons, List.length_nil] at hLl
              try have hLm : (List.map sesV L).length = L.length := List.length_map _
              refine g0_ ?_
              refine g1_ ?_
              refine .inl ?_
              (refine g0_ ?_; repeat (refine n2_ fun b_ => ?_; refine g0_ ?_))
              rw [← e3]
              try rw [show ∀ v : PV, (List.map sesV L).length + 1 + [v].length = (List.map sesV (L ++ [(bw, x)])).length + 1 from fun v => by simp]
              try rw [show (sesV l0 :: List.map sesV L) ++ [sesV (bw, x)] = List.map sesV (l0 :: L ++ [(bw, x)]) from by simp]
              refine ⟨(i + 1, b_, (l0 :: L) ++ [(bw, x)]), ⟨hil, hLn⟩, (show ses.length - (i + 1) < ses.length - i by omega), ?_, ?_⟩
              · (repeat (refine wkEnv.cons (by first | rfl | ((conv => lhs; whnf); first | rfl | (congr 1; (try push_cast); omega) | (congr 1; simp; done) | (congr 1; simp; omega) | (simp; done) | (simp [*]; done))) ?_))
                exact wkEnv.nil
              · refine (show wkMem _ (⟨bO, .row 3 [.agg [accV b_ 4 (((l0 :: L) ++ [(bw, x)]).map sesV), .nils, .int .i64 next]] 0⟩ :: ⟨bR, .row 3 [.agg [.nils, .nils, .int .i64 0]] 0⟩ :: ⟨bH, .row 3 [.agg [.sl 4 (ses.map encSes), .sl 3 (views.map encVw), .int .i64 next]] 0⟩ :: (accM b_ 4 (((l0 :: L) ++ [(bw, x)]).map sesV) ++ famR ((l0 :: L) ++ [(bw, x)]))) from ?_)
                rw [hfm]
                (first | exact ⟨_, .refl _⟩ | exact wkMem.rfl' | exact ⟨_, .swap _ _ _⟩ | (repeat (first | exact wkMem.nil _ | exact wkMem.rfl' | exact wk_snoc _ _ _ | exact wk_fam (by assumption) _ _ _ | exact wk_famN (by assumption) _ _ _ | (apply wkMem.cons; (case' hl => (repeat (first | exact .here _ _ _ | apply Look.there)))) | apply wkMem.skip)))
          · rcases L with _ | ⟨l0, L⟩
            · have e3 : sesV (bw, x) = .agg [.str x.name, accV bw 8 (List.map encWin ((w0 :: ws))), .int .i64 x.act, .int .i64 x.bef] := by
                unfold sesV
                rw [← hws]
              have hLl : (([] : List (Nat × Ses))).length ≤ 1048576 := by
                have := congrArg List.length hL
                rw [List.length_map, List.length_take] at this
                omega
              have hLn : (([] : List (Nat × Ses)) ++ [(bw, x)]).map Prod.snd = ses.take (i + 1) := by rw [take_snoc_of hx, List.map_append, hL]; rfl
              have hfm : famR (([] : List (Nat × Ses)) ++ [(bw, x)]) = accM bw 8 (((w0 :: ws)).map encWin) ++ famR (([] : List (Nat × Ses))) := by rw [famR_snoc, hws]
              simp only [List.length_cons, List.length_nil] at hLl
              try have hLm : (List.map sesV L).length = L.length := List.length_map _
              refine g0_ ?_
              refine g1_ ?_
              refine .inl ?_
              (refine g0_ ?_; repeat (refine n1_ fun b_ => ?_; refine g0_ ?_))
              rw [← e3]
              try rw [show ∀ v : PV, (List.map sesV L).length + 1 + [v].length = (List.map sesV (L ++ [(bw, x)])).length + 1 from fun v => by simp]
              try rw [show (sesV l0 :: List.map sesV L) ++ [sesV (bw, x)] = List.map sesV (l0 :: L ++ [(bw, x)]) from by simp]
              refine ⟨(i + 1, b_, ([] : List (Nat × Ses)) ++ [(bw, x)]), ⟨hil, hLn⟩, (show ses.length - (i + 1) < ses.length - i by omega), ?_, ?_⟩
              · (repeat (refine wkEnv.cons (by first | rfl | ((conv => lhs; whnf); first | rfl | (congr 1; (try push_cast); omega) | (congr 1; simp; done) | (congr 1; simp; omega) | (simp; done) | (simp [*]; done))) ?_))
                exact wkEnv.nil
              · refine (show wkMem _ (⟨bO, .row 3 [.agg [accV b_ 4 ((([] : List (Nat × Ses)) ++ [(bw, x)]).map sesV), .nils, .int .i64 next]] 0⟩ :: ⟨bR, .row 3 [.agg [.nils, .nils, .int .i64 0]] 0⟩ :: ⟨bH, .row 3 [.agg [.sl 4 (ses.map encSes), .sl 3 (views.map encVw), .int .i64 next]] 0⟩ :: (accM b_ 4 ((([] : List (Nat × Ses)) ++ [(bw, x)]).map sesV) ++ famR (([] : List (Nat × Ses)) ++ [(bw, x)]))) from ?_)
                rw [hfm]
                (first | exact ⟨_, .refl _⟩ | exact wkMem.rfl' | exact ⟨_, .swap _ _ _⟩ | (repeat (first | exact wkMem.nil _ | exact wkMem.rfl' | exact wk_snoc _ _ _ | exact wk_fam (by assumption) _ _ _ | exact wk_famN (by assumption) _ _ _ | (apply wkMem.cons; (case' hl => (repeat (first | exact .here _ _ _ | apply Look.there)))) | apply wkMem.skip)))
            · have e3 : sesV (bw, x) = .agg [.str x.name, accV bw 8 (List.map encWin ((w0 :: ws))), .int .i64 x.act, .int .i64 x.bef] := by
                unfold sesV
                rw [← hws]
              have hLl : ((l0 :: L)).length ≤ 1048576 := by
                have := congrArg List.length hL
                rw [List.length_map, List.length_take] at this
                omega
              have hLn : ((l0 :: L) ++ [(bw, x)]).map Prod.snd = ses.take (i + 1) := by rw [take_snoc_of hx, List.map_append, hL]; rfl
              have hfm : famR ((l0 :: L) ++ [(bw, x)]) = accM bw 8 (((w0 :: ws)).map encWin) ++ famR ((l0 :: L)) := by rw [famR_snoc, hws]
              simp only [List.length_cons, List.length_nil] at hLl
              try have hLm : (List.map sesV L).length = L.length := List.length_map _
              refine g0_ ?_
              refine g1_ ?_
              refine .inl ?_
              (refine g0_ ?_; repeat (refine n2_ fun b_ => ?_; refine g0_ ?_))
              rw [← e3]
              try rw [show ∀ v : PV, (List.map sesV L).length + 1 + [v].length = (List.map sesV (L ++ [(bw, x)])).length + 1 from fun v => by simp]
              try rw [show (sesV l0 :: List.map sesV L) ++ [sesV (bw, x)] = List.map sesV (l0 :: L ++ [(bw, x)]) from by simp]
              refine ⟨(i + 1, b_, (l0 :: L) ++ [(bw, x)]), ⟨hil, hLn⟩, (show ses.length - (i + 1) < ses.length - i by omega), ?_, ?_⟩
              · (repeat (refine wkEnv.cons (by first | rfl | ((conv => lhs; whnf); first | rfl | (congr 1; (try push_cast); omega) | (congr 1; simp; done) | (congr 1; simp; omega) | (simp; done) | (simp [*]; done))) ?_))
                exact wkEnv.nil
              · refine (show wkMem _ (⟨bO, .row 3 [.agg [accV b_ 4 (((l0 :: L) ++ [(bw, x)]).map sesV), .nils, .int .i64 next]] 0⟩ :: ⟨bR, .row 3 [.agg [.nils, .nils, .int .i64 0]] 0⟩ :: ⟨bH, .row 3 [.agg [.sl 4 (ses.map encSes), .sl 3 (views.map encVw), .int .i64 next]] 0⟩ :: (accM b_ 4 (((l0 :: L) ++ [(bw, x)]).map sesV) ++ famR ((l0 :: L) ++ [(bw, x)]))) from ?_)
                rw [hfm]
                (first | exact ⟨_, .refl _⟩ | exact wkMem.rfl' | exact ⟨_, .swap _ _ _⟩ | (repeat (first | exact wkMem.nil _ | exact wkMem.rfl' | exact wk_snoc _ _ _ | exact wk_fam (by assumption) _ _ _ | exact wk_famN (by assumption) _ _ _ | (apply wkMem.cons; (case' hl => (repeat (first | exact .here _ _ _ | apply Look.there)))) | apply wkMem.skip)))
        · have hjl : j < x.wins.length := by omega
          obtain ⟨y, hy⟩ : ∃ y, x.wins[j]? = some y := ⟨_, List.getElem?_eq_getElem hjl⟩
          have hcp := mapId_ok W y.s (hxx y (List.mem_of_getElem? hy)).s
          have e2 : encWin y = .agg [.str y.name, .int .i64 y.s.way, .int .i64 y.s.pane, .int .i64 y.s.size, .sl 4 (encSpls y.s.kids), .int .i64 y.act, .int .i64 y.bef, .bool y.zoom] := rfl
          have hws2 : ws ++ [y] = x.wins.take (j + 1) := by rw [take_snoc_of hy, hws]
          have hwl : ws.length ≤ 1048576 := by rw [hws, List.length_take]; omega
          rw [encSpl_eta] at hcp
          rcases ws with _ | ⟨w0, ws⟩
          · refine g0_ ?_
            (refine g1_ ?_; repeat (refine n1_ fun b_ => ?_; refine g1_ ?_))
            refine (hcp).use ?_; refine g0_ ?_
            refine g0_ ?_
            refine .inl ?_
            (refine g0_ ?_; repeat (refine n1_ fun b_ => ?_; refine g0_ ?_))
            rw [← e2]
            try rw [show ∀ v : PV, (List.map encWin ws).length + 1 + [v].length = (List.map encWin (ws ++ [y])).length + 1 from fun v => by simp]
            try rw [show (encWin w0 :: List.map encWin ws) ++ [encWin y] = List.map encWin (w0 :: ws ++ [y]) from by simp]
            refine nx_ (j + 1, b_, [] ++ [y]) ?_ ?_
            · exact ⟨hjl, hws2⟩
            · ((try dsimp only); (try simp only [List.length_drop, List.length_take, List.length_append, List.length_cons, List.length_nil, List.length_map] at *); omega)
          · rw [List.length_cons] at hwl
            have hwm : (List.map encWin ws).length = ws.length := List.length_map _
            refine g0_ ?_
            (refine g1_ ?_; repeat (refine n1_ fun b_ => ?_; refine g1_ ?_))
            refine (hcp).use ?_; refine g0_ ?_
            refine g0_ ?_
            refine .inl ?_
            (refine g0_ ?_; repeat (refine n2_ fun b_ => ?_; refine g0_ ?_))
            rw [← e2]
            try rw [show ∀ v : PV, (List.map encWin ws).length + 1 + [v].length = (List.map encWin (ws ++ [y])).length + 1 from fun v => by simp]
            try rw [show (encWin w0 :: List.map encWin ws) ++ [encWin y] = List.map encWin (w0 :: ws ++ [y]) from by simp]
            refine nx_ (j + 1, b_, (w0 :: ws) ++ [y]) ?_ ?_
            · exact ⟨hjl, hws2⟩
            · ((try dsimp only); (try simp only [List.length_drop, List.length_take, List.length_append, List.length_cons, List.length_nil, List.length_map] at *); omega)
    · (refine g0_ ?_; repeat (refine n1_ fun b_ => ?_; refine g0_ ?_))
      obtain ⟨bO, rfl⟩ : ∃ z, z = b_ := ⟨_, rfl⟩
      refine' loopI (α := Nat × Nat × (List (Nat × Ses))) (fun (i, bs, L) => [(18, .int .i64 i)]) [(2, _), (3, _), (16, _), (17, _)] (fun (i, bs, L) => ⟨bO, .row 3 [.agg [accV bs 4 ((L).map sesV), .rsl bo 3 0 views.length, .int .i64 next]] 0⟩ :: ⟨bR, .row 3 [.agg [.nils, .nils, .int .i64 0]] 0⟩ :: ⟨bH, .row 3 [.agg [.sl 4 (ses.map encSes), .sl 3 (views.map encVw), .int .i64 next]] 0⟩ :: ⟨bo, .row 3 (views.map encVw) 0⟩ :: (accM bs 4 (L.map sesV) ++ famR L)) (fun (i, bs, L) => i ≤ ses.length ∧ L.map Prod.snd = ses.take i) (fun (i, bs, L) => ses.length - i) (0, 0, []) ?_ ?_
      · exact ⟨Nat.zero_le _, rfl⟩
      rintro ⟨i, bs, L⟩ ⟨hi, hL⟩
      by_cases hie : i = ses.length
      · subst hie
        rw [List.take_length] at hL
        rcases L with _ | ⟨l0, L⟩
        · refine g0_ ?_
          refine g1_ ?_
          exact ⟨⟨bs, ([] : List (Nat × Ses)), (some bo), views, next⟩, ⟨by rw [OH.T]; dsimp only; rw [hL], ho⟩, rfl, by (show wkMem _ (⟨bo, .row 3 (views.map encVw) 0⟩ :: (accM bs 4 ((([] : List (Nat × Ses))).map sesV) ++ famR (([] : List (Nat × Ses)))))); (try rw [List.nil_append]); (first | exact ⟨_, .refl _⟩ | exact wkMem.rfl' | exact ⟨_, .swap _ _ _⟩ | (repeat (first | exact wkMem.nil _ | exact wkMem.rfl' | exact wk_snoc _ _ _ | exact wk_fam (by assumption) _ _ _ | exact wk_famN (by assumption) _ _ _ | (apply wkMem.cons; (case' hl => (repeat (first | exact .here _ _ _ | apply Look.there)))) | apply wkMem.skip)))⟩
        · refine g0_ ?_
          refine g1_ ?_
          exact ⟨⟨bs, (l0 :: L), (some bo), views, next⟩, ⟨by rw [OH.T]; dsimp only; rw [hL], ho⟩, rfl, by (show wkMem _ (⟨bo, .row 3 (views.map encVw) 0⟩ :: (accM bs 4 (((l0 :: L)).map sesV) ++ famR ((l0 :: L))))); (try rw [List.nil_append]); (first | exact ⟨_, .refl _⟩ | exact wkMem.rfl' | exact ⟨_, .swap _ _ _⟩ | (repeat (first | exact wkMem.nil _ | exact wkMem.rfl' | exact wk_snoc _ _ _ | exact wk_fam (by assumption) _ _ _ | exact wk_famN (by assumption) _ _ _ | (apply wkMem.cons; (case' hl => (repeat (first | exact .here _ _ _ | apply Look.there)))) | apply wkMem.skip)))⟩
      · have hil : i < ses.length := by omega
        obtain ⟨x, hx⟩ : ∃ x, ses[i]? = some x := ⟨_, List.getElem?_eq_getElem hil⟩
        obtain ⟨hxn, hxw, hxx, -, -⟩ := hse x (List.mem_of_getElem? hx)
        have hwm : (x.wins.map encWin).length = x.wins.length := List.length_map _
        refine g0_ ?_
        (refine g1_ ?_; repeat (refine n1_ fun b_ => ?_; refine g1_ ?_))
        rename_i b5
        obtain ⟨b6, rfl⟩ : ∃ z, z = b_ := ⟨_, rfl⟩
        refine' loopI (α := Nat × Nat × (List Win)) (fun (j, bw, ws) => [(27, .int .i64 j)]) [(2, _), (3, _), (6, _), (16, _), (17, _), (18, _), (25, _), (26, _)] (fun (j, bw, ws) => ⟨b6, .row 4 [.agg [.str x.name, accV bw 8 (ws.map encWin), .int .i64 x.act, .int .i64 x.bef]] 0⟩ :: ⟨b5, .row 4 [.agg [.str x.name, .sl 8 (x.wins.map encWin), .int .i64 x.act, .int .i64 x.bef]] 0⟩ :: ⟨bO, .row 3 [.agg [accV bs 4 ((L).map sesV), .rsl bo 3 0 views.length, .int .i64 next]] 0⟩ :: ⟨bR, .row 3 [.agg [.nils, .nils, .int .i64 0]] 0⟩ :: ⟨bH, .row 3 [.agg [.sl 4 (ses.map encSes), .sl 3 (views.map encVw), .int .i64 next]] 0⟩ :: ⟨bo, .row 3 (views.map encVw) 0⟩ :: (accM bw 8 (ws.map encWin) ++ (accM bs 4 (L.map sesV) ++ famR L))) (fun (j, bw, ws) => j ≤ x.wins.length ∧ ws = x.wins.take j) (fun (j, bw, ws) => x.wins.length - j) (0, 0, []) ?_ ?_
        · exact ⟨Nat.zero_le _, rfl⟩
        rintro ⟨j, bw, ws⟩ ⟨hj, hws⟩
        by_cases hje : j = x.wins.length
        · subst hje
          rw [List.take_length] at hws
          rcases ws with _ | ⟨w0, ws⟩
          · rcases L with _ | ⟨l0, L⟩
            · have e3 : sesV (bw, x) = .agg [.str x.name, accV bw 8 (List.map encWin (([] : List Win))), .int .i64 x.act, .int .i64 x.bef] := by
                unfold sesV
                rw [← hws]
              have hLl : (([] : List (Nat × Ses))).length ≤ 1048576 := by
                have := congrArg List.length hL
                rw [List.length_map, List.length_take] at this
                omega
              have hLn : (([] : List (Nat × Ses)) ++ [(bw, x)]).map Prod.snd = ses.take (i + 1) := by rw [take_snoc_of hx, List.map_append, hL]; rfl
              have hfm : famR (([] : List (Nat × Ses)) ++ [(bw, x)]) = accM bw 8 ((([] : List Win)).map encWin) ++ famR (([] : List (Nat × Ses))) := by rw [famR_snoc, hws]
              simp only [List.length_cons, List.length_nil] at hLl
              try have hLm : (List.map sesV L).length = L.length := List.length_map _
              refine g0_ ?_
              refine g1_ ?_
              refine .inl ?_
              (refine g0_ ?_; repeat (refine n1_ fun b_ => ?_; refine g0_ ?_))
              rw [← e3]
              try rw [show ∀ v : PV, (List.map sesV L).length + 1 + [v].length = (List.map sesV (L ++ [(bw, x)])).length + 1 from fun v => by simp]
              try rw [show (sesV l0 :: List.map sesV L) ++ [sesV (bw, x)] = List.map sesV (l0 :: L ++ [(bw, x)]) from by simp]
              refine ⟨(i + 1, b_, ([] : List (Nat × Ses)) ++ [(bw, x)]), ⟨hil, hLn⟩, (show ses.length - (i + 1) < ses.length - i by omega), ?_, ?_⟩
              · (repeat (refine wkEnv.cons (by first | rfl | ((conv => lhs; whnf); first | rfl | (congr 1; (try push_cast); omega) | (congr 1; simp; done) | (congr 1; simp; omega) | (simp; done) | (simp [*]; done))) ?_))
                exact wkEnv.nil
              · refine (show wkMem _ (⟨bO, .row 3 [.agg [accV b_ 4 ((([] : List (Nat × Ses)) ++ [(bw, x)]).map sesV), .rsl bo 3 0 views.length, .int .i64 next]] 0⟩ :: ⟨bR, .row 3 [.agg [.nils, .nils, .int .i64 0]] 0⟩ :: ⟨bH, .row 3 [.agg [.sl 4 (ses.map encSes), .sl 3 (views.map encVw), .int .i64 next]] 0⟩ :: ⟨bo, .row 3 (views.map encVw) 0⟩ :: (accM b_ 4 ((([] : List (Nat × Ses)) ++ [(bw, x)]).map sesV) ++ famR (([] : List (Nat × Ses)) ++ [(bw, x)]))) from ?_)
                rw [hfm]
                (first | exact ⟨_, .refl _⟩ | exact wkMem.rfl' | exact ⟨_, .swap _ _ _⟩ | (repeat (first | exact wkMem.nil _ | exact wkMem.rfl' | exact wk_snoc _ _ _ | exact wk_fam (by assumption) _ _ _ | exact wk_famN (by assumption) _ _ _ | (apply wkMem.cons; (case' hl => (repeat (first | exact .here _ _ _ | apply Look.there)))) | apply wkMem.skip)))
            · have e3 : sesV (bw, x) = .agg [.str x.name, accV bw 8 (List.map encWin (([] : List Win))), .int .i64 x.act, .int .i64 x.bef] := by
                unfold sesV
                rw [← hws]
              have hLl : ((l0 :: L)).length ≤ 1048576 := by
                have := congrArg List.length hL
                rw [List.length_map, List.length_take] at this
                omega
              have hLn : ((l0 :: L) ++ [(bw, x)]).map Prod.snd = ses.take (i + 1) := by rw [take_snoc_of hx, List.map_append, hL]; rfl
              have hfm : famR ((l0 :: L) ++ [(bw, x)]) = accM bw 8 ((([] : List Win)).map encWin) ++ famR ((l0 :: L)) := by rw [famR_snoc, hws]
              simp only [List.length_cons, List.length_nil] at hLl
              try have hLm : (List.map sesV L).length = L.length := List.length_map _
              refine g0_ ?_
              refine g1_ ?_
              refine .inl ?_
              (refine g0_ ?_; repeat (refine n2_ fun b_ => ?_; refine g0_ ?_))
              rw [← e3]
              try rw [show ∀ v : PV, (List.map sesV L).length + 1 + [v].length = (List.map sesV (L ++ [(bw, x)])).length + 1 from fun v => by simp]
              try rw [show (sesV l0 :: List.map sesV L) ++ [sesV (bw, x)] = List.map sesV (l0 :: L ++ [(bw, x)]) from by simp]
              refine ⟨(i + 1, b_, (l0 :: L) ++ [(bw, x)]), ⟨hil, hLn⟩, (show ses.length - (i + 1) < ses.length - i by omega), ?_, ?_⟩
              · (repeat (refine wkEnv.cons (by first | rfl | ((conv => lhs; whnf); first | rfl | (congr 1; (try push_cast); omega) | (congr 1; simp; done) | (congr 1; simp; omega) | (simp; done) | (simp [*]; done))) ?_))
                exact wkEnv.nil
              · refine (show wkMem _ (⟨bO, .row 3 [.agg [accV b_ 4 (((l0 :: L) ++ [(bw, x)]).map sesV), .rsl bo 3 0 views.length, .int .i64 next]] 0⟩ :: ⟨bR, .row 3 [.agg [.nils, .nils, .int .i64 0]] 0⟩ :: ⟨bH, .row 3 [.agg [.sl 4 (ses.map encSes), .sl 3 (views.map encVw), .int .i64 next]] 0⟩ :: ⟨bo, .row 3 (views.map encVw) 0⟩ :: (accM b_ 4 (((l0 :: L) ++ [(bw, x)]).map sesV) ++ famR ((l0 :: L) ++ [(bw, x)]))) from ?_)
                rw [hfm]
                (first | exact ⟨_, .refl _⟩ | exact wkMem.rfl' | exact ⟨_, .swap _ _ _⟩ | (repeat (first | exact wkMem.nil _ | exact wkMem.rfl' | exact wk_snoc _ _ _ | exact wk_fam (by assumption) _ _ _ | exact wk_famN (by assumption) _ _ _ | (apply wkMem.cons; (case' hl => (repeat (first | exact .here _ _ _ | apply Look.there)))) | apply wkMem.skip)))
          · rcases L with _ | ⟨l0, L⟩
            · have e3 : sesV (bw, x) = .agg [.str x.name, accV bw 8 (List.map encWin ((w0 :: ws))), .int .i64 x.act, .int .i64 x.bef] := by
                unfold sesV
                rw [← hws]
              have hLl : (([] : List (Nat × Ses))).length ≤ 1048576 := by
                have := congrArg List.length hL
                rw [List.length_map, List.length_take] at this
                omega
              have hLn : (([] : List (Nat × Ses)) ++ [(bw, x)]).map Prod.snd = ses.take (i + 1) := by rw [take_snoc_of hx, List.map_append, hL]; rfl
              have hfm : famR (([] : List (Nat × Ses)) ++ [(bw, x)]) = accM bw 8 (((w0 :: ws)).map encWin) ++ famR (([] : List (Nat × Ses))) := by rw [famR_snoc, hws]
              simp only [List.length_cons, List.length_nil] at hLl
              try have hLm : (List.map sesV L).length = L.length := List.length_map _
              refine g0_ ?_
              refine g1_ ?_
              refine .inl ?_
              (refine g0_ ?_; repeat (refine n1_ fun b_ => ?_; refine g0_ ?_))
              rw [← e3]
              try rw [show ∀ v : PV, (List.map sesV L).length + 1 + [v].length = (List.map sesV (L ++ [(bw, x)])).length + 1 from fun v => by simp]
              try rw [show (sesV l0 :: List.map sesV L) ++ [sesV (bw, x)] = List.map sesV (l0 :: L ++ [(bw, x)]) from by simp]
              refine ⟨(i + 1, b_, ([] : List (Nat × Ses)) ++ [(bw, x)]), ⟨hil, hLn⟩, (show ses.length - (i + 1) < ses.length - i by omega), ?_, ?_⟩
              · (repeat (refine wkEnv.cons (by first | rfl | ((conv => lhs; whnf); first | rfl | (congr 1; (try push_cast); omega) | (congr 1; simp; done) | (congr 1; simp; omega) | (simp; done) | (simp [*]; done))) ?_))
                exact wkEnv.nil
              · refine (show wkMem _ (⟨bO, .row 3 [.agg [accV b_ 4 ((([] : List (Nat × Ses)) ++ [(bw, x)]).map sesV), .rsl bo 3 0 views.length, .int .i64 next]] 0⟩ :: ⟨bR, .row 3 [.agg [.nils, .nils, .int .i64 0]] 0⟩ :: ⟨bH, .row 3 [.agg [.sl 4 (ses.map encSes), .sl 3 (views.map encVw), .int .i64 next]] 0⟩ :: ⟨bo, .row 3 (views.map encVw) 0⟩ :: (accM b_ 4 ((([] : List (Nat × Ses)) ++ [(bw, x)]).map sesV) ++ famR (([] : List (Nat × Ses)) ++ [(bw, x)]))) from ?_)
                rw [hfm]
                (first | exact ⟨_, .refl _⟩ | exact wkMem.rfl' | exact ⟨_, .swap _ _ _⟩ | (repeat (first | exact wkMem.nil _ | exact wkMem.rfl' | exact wk_snoc _ _ _ | exact wk_fam (by assumption) _ _ _ | exact wk_famN (by assumption) _ _ _ | (apply wkMem.cons; (case' hl => (repeat (first | exact .here _ _ _ | apply Look.there)))) | apply wkMem.skip)))
            · have e3 : sesV (bw, x) = .agg [.str x.name, accV bw 8 (List.map encWin ((w0 :: ws))), .int .i64 x.act, .int .i64 x.bef] := by
                unfold sesV
                rw [← hws]
              have hLl : ((l0 :: L)).length ≤ 1048576 := by
                have := congrArg List.length hL
                rw [List.length_map, List.length_take] at this
                omega
              have hLn : ((l0 :: L) ++ [(bw, x)]).map Prod.snd = ses.take (i + 1) := by rw [take_snoc_of hx, List.map_append, hL]; rfl
              have hfm : famR ((l0 :: L) ++ [(bw, x)]) = accM bw 8 (((w0 :: ws)).map encWin) ++ famR ((l0 :: L)) := by rw [famR_snoc, hws]
              simp only [List.length_cons, List.length_nil] at hLl
              try have hLm : (List.map sesV L).length = L.length := List.length_map _
              refine g0_ ?_
              refine g1_ ?_
              refine .inl ?_
              (refine g0_ ?_; repeat (refine n2_ fun b_ => ?_; refine g0_ ?_))
              rw [← e3]
              try rw [show ∀ v : PV, (List.map sesV L).length + 1 + [v].length = (List.map sesV (L ++ [(bw, x)])).length + 1 from fun v => by simp]
              try rw [show (sesV l0 :: List.map sesV L) ++ [sesV (bw, x)] = List.map sesV (l0 :: L ++ [(bw, x)]) from by simp]
              refine ⟨(i + 1, b_, (l0 :: L) ++ [(bw, x)]), ⟨hil, hLn⟩, (show ses.length - (i + 1) < ses.length - i by omega), ?_, ?_⟩
              · (repeat (refine wkEnv.cons (by first | rfl | ((conv => lhs; whnf); first | rfl | (congr 1; (try push_cast); omega) | (congr 1; simp; done) | (congr 1; simp; omega) | (simp; done) | (simp [*]; done))) ?_))
                exact wkEnv.nil
              · refine (show wkMem _ (⟨bO, .row 3 [.agg [accV b_ 4 (((l0 :: L) ++ [(bw, x)]).map sesV), .rsl bo 3 0 views.length, .int .i64 next]] 0⟩ :: ⟨bR, .row 3 [.agg [.nils, .nils, .int .i64 0]] 0⟩ :: ⟨bH, .row 3 [.agg [.sl 4 (ses.map encSes), .sl 3 (views.map encVw), .int .i64 next]] 0⟩ :: ⟨bo, .row 3 (views.map encVw) 0⟩ :: (accM b_ 4 (((l0 :: L) ++ [(bw, x)]).map sesV) ++ famR ((l0 :: L) ++ [(bw, x)]))) from ?_)
                rw [hfm]
                (first | exact ⟨_, .refl _⟩ | exact wkMem.rfl' | exact ⟨_, .swap _ _ _⟩ | (repeat (first | exact wkMem.nil _ | exact wkMem.rfl' | exact wk_snoc _ _ _ | exact wk_fam (by assumption) _ _ _ | exact wk_famN (by assumption) _ _ _ | (apply wkMem.cons; (case' hl => (repeat (first | exact .here _ _ _ | apply Look.there)))) | apply wkMem.skip)))
        · have hjl : j < x.wins.length := by omega
          obtain ⟨y, hy⟩ : ∃ y, x.wins[j]? = some y := ⟨_, List.getElem?_eq_getElem hjl⟩
          have hcp := mapId_ok W y.s (hxx y (List.mem_of_getElem? hy)).s
          have e2 : encWin y = .agg [.str y.name, .int .i64 y.s.way, .int .i64 y.s.pane, .int .i64 y.s.size, .sl 4 (encSpls y.s.kids), .int .i64 y.act, .int .i64 y.bef, .bool y.zoom] := rfl
          have hws2 : ws ++ [y] = x.wins.take (j + 1) := by rw [take_snoc_of hy, hws]
          have hwl : ws.length ≤ 1048576 := by rw [hws, List.length_take]; omega
          rw [encSpl_eta] at hcp
          rcases ws with _ | ⟨w0, ws⟩
          · refine g0_ ?_
            (refine g1_ ?_; repeat (refine n1_ fun b_ => ?_; refine g1_ ?_))
            refine (hcp).use ?_; refine g0_ ?_
            refine g0_ ?_
            refine .inl ?_
            (refine g0_ ?_; repeat (refine n1_ fun b_ => ?_; refine g0_ ?_))
            rw [← e2]
            try rw [show ∀ v : PV, (List.map encWin ws).length + 1 + [v].length = (List.map encWin (ws ++ [y])).length + 1 from fun v => by simp]
            try rw [show (encWin w0 :: List.map encWin ws) ++ [encWin y] = List.map encWin (w0 :: ws ++ [y]) from by simp]
            refine nx_ (j + 1, b_, [] ++ [y]) ?_ ?_
            · exact ⟨hjl, hws2⟩
            · ((try dsimp only); (try simp only [List.length_drop, List.length_take, List.length_append, List.length_cons, List.length_nil, List.length_map] at *); omega)
          · rw [List.length_cons] at hwl
            have hwm : (List.map encWin ws).length = ws.length := List.length_map _
            refine g0_ ?_
            (refine g1_ ?_; repeat (refine n1_ fun b_ => ?_; refine g1_ ?_))
            refine (hcp).use ?_; refine g0_ ?_
            refine g0_ ?_
            refine .inl ?_
            (refine g0_ ?_; repeat (refine n2_ fun b_ => ?_; refine g0_ ?_))
            rw [← e2]
            try rw [show ∀ v : PV, (List.map encWin ws).length + 1 + [v].length = (List.map encWin (ws ++ [y])).length + 1 from fun v => by simp]
            try rw [show (encWin w0 :: List.map encWin ws) ++ [encWin y] = List.map encWin (w0 :: ws ++ [y]) from by simp]
            refine nx_ (j + 1, b_, (w0 :: ws) ++ [y]) ?_ ?_
            · exact ⟨hjl, hws2⟩
            · ((try dsimp only); (try simp only [List.length_drop, List.length_take, List.length_append, List.length_cons, List.length_nil, List.length_map] at *); omega)
  · (refine g0_ ?_; repeat (refine n1_ fun b_ => ?_; refine g0_ ?_))
    refine ACalls.give hcv ?_
    rintro o ho
    rcases o with _ | bo
    · refine g0_ ?_
      obtain ⟨bO, rfl⟩ : ∃ z, z = b_ := ⟨_, rfl⟩
      refine' loopI (α := Nat × Nat × (List (Nat × Ses))) (fun (i, bs, L) => [(18, .int .i64 i)]) [(2, _), (3, _), (16, _), (17, _)] (fun (i, bs, L) => ⟨bO, .row 3 [.agg [accV bs 4 ((L).map sesV), .nils, .int .i64 next]] 0⟩ :: ⟨bR, .row 3 [.agg [.nils, .nils, .int .i64 0]] 0⟩ :: ⟨bH, .row 3 [.agg [.sl 4 (ses.map encSes), .sl 3 (views.map encVw), .int .i64 next]] 0⟩ :: (accM bs 4 (L.map sesV) ++ famR L)) (fun (i, bs, L) => i ≤ ses.length ∧ L.map Prod.snd = ses.take i) (fun (i, bs, L) => ses.length - i) (0, 0, []) ?_ ?_
      · exact ⟨Nat.zero_le _, rfl⟩
      rintro ⟨i, bs, L⟩ ⟨hi, hL⟩
      by_cases hie : i = ses.length
      · subst hie
        rw [List.take_length] at hL
        rcases L with _ | ⟨l0, L⟩
        · refine g0_ ?_
          refine g1_ ?_
          exact ⟨⟨bs, ([] : List (Nat × Ses)), none, views, next⟩, ⟨by rw [OH.T]; dsimp only; rw [hL], ho⟩, rfl, by (show wkMem _ (([] : Mem) ++ (accM bs 4 ((([] : List (Nat × Ses))).map sesV) ++ famR (([] : List (Nat × Ses)))))); (try rw [List.nil_append]); (first | exact ⟨_, .refl _⟩ | exact wkMem.rfl' | exact ⟨_, .swap _ _ _⟩ | (repeat (first | exact wkMem.nil _ | exact wkMem.rfl' | exact wk_snoc _ _ _ | exact wk_fam (by assumption) _ _ _ | exact wk_famN (by assumption) _ _ _ | (apply wkMem.cons; (case' hl => (repeat (first | exact .here _ _ _ | apply Look.there)))) | apply wkMem.skip)))⟩
        · refine g0_ ?_
          refine g1_ ?_
          exact ⟨⟨bs, (l0 :: L), none, views, next⟩, ⟨by rw [OH.T]; dsimp only; rw [hL], ho⟩, rfl, by (show wkMem _ (([] : Mem) ++ (accM bs 4 (((l0 :: L)).map sesV) ++ famR ((l0 :: L))))); (try rw [List.nil_append]); (first | exact ⟨_, .refl _⟩ | exact wkMem.rfl' | exact ⟨_, .swap _ _ _⟩ | (repeat (first | exact wkMem.nil _ | exact wkMem.rfl' | exact wk_snoc _ _ _ | exact wk_fam (by assumption) _ _ _ | exact wk_famN (by assumption) _ _ _ | (apply wkMem.cons; (case' hl => (repeat (first | exact .here _ _ _ | apply Look.there)))) | apply wkMem.skip)))⟩
      · have hil : i < ses.length := by omega
        obtain ⟨x, hx⟩ : ∃ x, ses[i]? = some x := ⟨_, List.getElem?_eq_getElem hil⟩
        obtain ⟨hxn, hxw, hxx, -, -⟩ := hse x (List.mem_of_getElem? hx)
        have hwm : (x.wins.map encWin).length = x.wins.length := List.length_map _
        refine g0_ ?_
        (refine g1_ ?_; repeat (refine n1_ fun b_ => ?_; refine g1_ ?_))
        rename_i b5
        obtain ⟨b6, rfl⟩ : ∃ z, z = b_ := ⟨_, rfl⟩
        refine' loopI (α := Nat × Nat × (List Win)) (fun (j, bw, ws) => [(27, .int .i64 j)]) [(2, _), (3, _), (6, _), (16, _), (17, _), (18, _), (25, _), (26, _)] (fun (j, bw, ws) => ⟨b6, .row 4 [.agg [.str x.name, accV bw 8 (ws.map encWin), .int .i64 x.act, .int .i64 x.bef]] 0⟩ :: ⟨b5, .row 4 [.agg [.str x.name, .sl 8 (x.wins.map encWin), .int .i64 x.act, .int .i64 x.bef]] 0⟩ :: ⟨bO, .row 3 [.agg [accV bs 4 ((L).map sesV), .nils, .int .i64 next]] 0⟩ :: ⟨bR, .row 3 [.agg [.nils, .nils, .int .i64 0]] 0⟩ :: ⟨bH, .row 3 [.agg [.sl 4 (ses.map encSes), .sl 3 (views.map encVw), .int .i64 next]] 0⟩ :: (accM bw 8 (ws.map encWin) ++ (accM bs 4 (L.map sesV) ++ famR L))) (fun (j, bw, ws) => j ≤ x.wins.length ∧ ws = x.wins.take j) (fun (j, bw, ws) => x.wins.length - j) (0, 0, []) ?_ ?_
        · exact ⟨Nat.zero_le _, rfl⟩
        rintro ⟨j, bw, ws⟩ ⟨hj, hws⟩
        by_cases hje : j = x.wins.length
        · subst hje
          rw [List.take_length] at hws
          rcases ws with _ | ⟨w0, ws⟩
          · rcases L with _ | ⟨l0, L⟩
            · have e3 : sesV (bw, x) = .agg [.str x.name, accV bw 8 (List.map encWin (([] : List Win))), .int .i64 x.act, .int .i64 x.bef] := by
                unfold sesV
                rw [← hws]
              have hLl : (([] : List (Nat × Ses))).length ≤ 1048576 := by
                have := congrArg List.length hL
                rw [List.length_map, List.length_take] at this
                omega
              have hLn : (([] : List (Nat × Ses)) ++ [(bw, x)]).map Prod.snd = ses.take (i + 1) := by rw [take_snoc_of hx, List.map_append, hL]; rfl
              have hfm : famR (([] : List (Nat × Ses)) ++ [(bw, x)]) = accM bw 8 ((([] : List Win)).map encWin) ++ famR (([] : List (Nat × Ses))) := by rw [famR_snoc, hws]
              simp only [List.length_cons, List.length_nil] at hLl
              try have hLm : (List.map sesV L).length = L.length := List.length_map _
              refine g0_ ?_
              refine g1_ ?_
              refine .inl ?_
              (refine g0_ ?_; repeat (refine n1_ fun b_ => ?_; refine g0_ ?_))
              rw [← e3]
              try rw [show ∀ v : PV, (List.map sesV L).length + 1 + [v].length = (List.map sesV (L ++ [(bw, x)])).length + 1 from fun v => by simp]
              try rw [show (sesV l0 :: List.map sesV L) ++ [sesV (bw, x)] = List.map sesV (l0 :: L ++ [(bw, x)]) from by simp]
              refine ⟨(i + 1, b_, ([] : List (Nat × Ses)) ++ [(bw, x)]), ⟨hil, hLn⟩, (show ses.length - (i + 1) < ses.length - i by omega), ?_, ?_⟩
              · (repeat (refine wkEnv.cons (by first | rfl | ((conv => lhs; whnf); first | rfl | (congr 1; (try push_cast); omega) | (congr 1; simp; done) | (congr 1; simp; omega) | (simp; done) | (simp [*]; done))) ?_))
                exact wkEnv.nil
              · refine (show wkMem _ (⟨bO, .row 3 [.agg [accV b_ 4 ((([] : List (Nat × Ses)) ++ [(bw, x)]).map sesV), .nils, .int .i64 next]] 0⟩ :: ⟨bR, .row 3 [.agg [.nils, .nils, .int .i64 0]] 0⟩ :: ⟨bH, .row 3 [.agg [.sl 4 (ses.map encSes), .sl 3 (views.map encVw), .int .i64 next]] 0⟩ :: (accM b_ 4 ((([] : List (Nat × Ses)) ++ [(bw, x)]).map sesV) ++ famR (([] : List (Nat × Ses)) ++ [(bw, x)]))) from ?_)
                rw [hfm]
                (first | exact ⟨_, .refl _⟩ | exact wkMem.rfl' | exact ⟨_, .swap _ _ _⟩ | (repeat (first | exact wkMem.nil _ | exact wkMem.rfl' | exact wk_snoc _ _ _ | exact wk_fam (by assumption) _ _ _ | exact wk_famN (by assumption) _ _ _ | (apply wkMem.cons; (case' hl => (repeat (first | exact .here _ _ _ | apply Look.there)))) | apply wkMem.skip)))
            · have e3 : sesV (bw, x) = .agg [.str x.name, accV bw 8 (List.map encWin (([] : List Win))), .int .i64 x.act, .int .i64 x.bef] := by
                unfold sesV
                rw [← hws]
              have hLl : ((l0 :: L)).length ≤ 1048576 := by
                have := congrArg List.length hL
                rw [List.length_map, List.length_take] at this
                omega
              have hLn : ((l0 :: L) ++ [(bw, x)]).map Prod.snd = ses.take (i + 1) := by rw [take_snoc_of hx, List.map_append, hL]; rfl
              have hfm : famR ((l0 :: L) ++ [(bw, x)]) = accM bw 8 ((([] : List Win)).map encWin) ++ famR ((l0 :: L)) := by rw [famR_snoc, hws]
              simp only [List.length_cons, List.length_nil] at hLl
              try have hLm : (List.map sesV L).length = L.length := List.length_map _
              refine g0_ ?_
              refine g1_ ?_
              refine .inl ?_
              (refine g0_ ?_; repeat (refine n2_ fun b_ => ?_; refine g0_ ?_))
              rw [← e3]
              try rw [show ∀ v : PV, (List.map sesV L).length + 1 + [v].length = (List.map sesV (L ++ [(bw, x)])).length + 1 from fun v => by simp]
              try rw [show (sesV l0 :: List.map sesV L) ++ [sesV (bw, x)] = List.map sesV (l0 :: L ++ [(bw, x)]) from by simp]
              refine ⟨(i + 1, b_, (l0 :: L) ++ [(bw, x)]), ⟨hil, hLn⟩, (show ses.length - (i + 1) < ses.length - i by omega), ?_, ?_⟩
              · (repeat (refine wkEnv.cons (by first | rfl | ((conv => lhs; whnf); first | rfl | (congr 1; (try push_cast); omega) | (congr 1; simp; done) | (congr 1; simp; omega) | (simp; done) | (simp [*]; done))) ?_))
                exact wkEnv.nil
              · refine (show wkMem _ (⟨bO, .row 3 [.agg [accV b_ 4 (((l0 :: L) ++ [(bw, x)]).map sesV), .nils, .int .i64 next]] 0⟩ :: ⟨bR, .row 3 [.agg [.nils, .nils, .int .i64 0]] 0⟩ :: ⟨bH, .row 3 [.agg [.sl 4 (ses.map encSes), .sl 3 (views.map encVw), .int .i64 next]] 0⟩ :: (accM b_ 4 (((l0 :: L) ++ [(bw, x)]).map sesV) ++ famR ((l0 :: L) ++ [(bw, x)]))) from ?_)
                rw [hfm]
                (first | exact ⟨_, .refl _⟩ | exact wkMem.rfl' | exact ⟨_, .swap _ _ _⟩ | (repeat (first | exact wkMem.nil _ | exact wkMem.rfl' | exact wk_snoc _ _ _ | exact wk_fam (by assumption) _ _ _ | exact wk_famN (by assumption) _ _ _ | (apply wkMem.cons; (case' hl => (repeat (first | exact .here _ _ _ | apply Look.there)))) | apply wkMem.skip)))
          · rcases L with _ | ⟨l0, L⟩
            · have e3 : sesV (bw, x) = .agg [.str x.name, accV bw 8 (List.map encWin ((w0 :: ws))), .int .i64 x.act, .int .i64 x.bef] := by
                unfold sesV
                rw [← hws]
              have hLl : (([] : List (Nat × Ses))).length ≤ 1048576 := by
                have := congrArg List.length hL
                rw [List.length_map, List.length_take] at this
                omega
              have hLn : (([] : List (Nat × Ses)) ++ [(bw, x)]).map Prod.snd = ses.take (i + 1) := by rw [take_snoc_of hx, List.map_append, hL]; rfl
              have hfm : famR (([] : List (Nat × Ses)) ++ [(bw, x)]) = accM bw 8 (((w0 :: ws)).map encWin) ++ famR (([] : List (Nat × Ses))) := by rw [famR_snoc, hws]
              simp only [List.length_cons, List.length_nil] at hLl
              try have hLm : (List.map sesV L).length = L.length := List.length_map _
              refine g0_ ?_
              refine g1_ ?_
              refine .inl ?_
              (refine g0_ ?_; repeat (refine n1_ fun b_ => ?_; refine g0_ ?_))
              rw [← e3]
              try rw [show ∀ v : PV, (List.map sesV L).length + 1 + [v].length = (List.map sesV (L ++ [(bw, x)])).length + 1 from fun v => by simp]
              try rw [show (sesV l0 :: List.map sesV L) ++ [sesV (bw, x)] = List.map sesV (l0 :: L ++ [(bw, x)]) from by simp]
              refine ⟨(i + 1, b_, ([] : List (Nat × Ses)) ++ [(bw, x)]), ⟨hil, hLn⟩, (show ses.length - (i + 1) < ses.length - i by omega), ?_, ?_⟩
              · (repeat (refine wkEnv.cons (by first | rfl | ((conv => lhs; whnf); first | rfl | (congr 1; (try push_cast); omega) | (congr 1; simp; done) | (congr 1; simp; omega) | (simp; done) | (simp [*]; done))) ?_))
                exact wkEnv.nil
              · refine (show wkMem _ (⟨bO, .row 3 [.agg [accV b_ 4 ((([] : List (Nat × Ses)) ++ [(bw, x)]).map sesV), .nils, .int .i64 next]] 0⟩ :: ⟨bR, .row 3 [.agg [.nils, .nils, .int .i64 0]] 0⟩ :: ⟨bH, .row 3 [.agg [.sl 4 (ses.map encSes), .sl 3 (views.map encVw), .int .i64 next]] 0⟩ :: (accM b_ 4 ((([] : List (Nat × Ses)) ++ [(bw, x)]).map sesV) ++ famR (([] : List (Nat × Ses)) ++ [(bw, x)]))) from ?_)
                rw [hfm]
                (first | exact ⟨_, .refl _⟩ | exact wkMem.rfl' | exact ⟨_, .swap _ _ _⟩ | (repeat (first | exact wkMem.nil _ | exact wkMem.rfl' | exact wk_snoc _ _ _ | exact wk_fam (by assumption) _ _ _ | exact wk_famN (by assumption) _ _ _ | (apply wkMem.cons; (case' hl => (repeat (first | exact .here _ _ _ | apply Look.there)))) | apply wkMem.skip)))
            · have e3 : sesV (bw, x) = .agg [.str x.name, accV bw 8 (List.map encWin ((w0 :: ws))), .int .i64 x.act, .int .i64 x.bef] := by
                unfold sesV
                rw [← hws]
              have hLl : ((l0 :: L)).length ≤ 1048576 := by
                have := congrArg List.length hL
                rw [List.length_map, List.length_take] at this
                omega
              have hLn : ((l0 :: L) ++ [(bw, x)]).map Prod.snd = ses.take (i + 1) := by rw [take_snoc_of hx, List.map_append, hL]; rfl
              have hfm : famR ((l0 :: L) ++ [(bw, x)]) = accM bw 8 (((w0 :: ws)).map encWin) ++ famR ((l0 :: L)) := by rw [famR_snoc, hws]
              simp only [List.length_cons, List.length_nil] at hLl
              try have hLm : (List.map sesV L).length = L.length := List.length_map _
              refine g0_ ?_
              refine g1_ ?_
              refine .inl ?_
              (refine g0_ ?_; repeat (refine n2_ fun b_ => ?_; refine g0_ ?_))
              rw [← e3]
              try rw [show ∀ v : PV, (List.map sesV L).length + 1 + [v].length = (List.map sesV (L ++ [(bw, x)])).length + 1 from fun v => by simp]
              try rw [show (sesV l0 :: List.map sesV L) ++ [sesV (bw, x)] = List.map sesV (l0 :: L ++ [(bw, x)]) from by simp]
              refine ⟨(i + 1, b_, (l0 :: L) ++ [(bw, x)]), ⟨hil, hLn⟩, (show ses.length - (i + 1) < ses.length - i by omega), ?_, ?_⟩
              · (repeat (refine wkEnv.cons (by first | rfl | ((conv => lhs; whnf); first | rfl | (congr 1; (try push_cast); omega) | (congr 1; simp; done) | (congr 1; simp; omega) | (simp; done) | (simp [*]; done))) ?_))
                exact wkEnv.nil
              · refine (show wkMem _ (⟨bO, .row 3 [.agg [accV b_ 4 (((l0 :: L) ++ [(bw, x)]).map sesV), .nils, .int .i64 next]] 0⟩ :: ⟨bR, .row 3 [.agg [.nils, .nils, .int .i64 0]] 0⟩ :: ⟨bH, .row 3 [.agg [.sl 4 (ses.map encSes), .sl 3 (views.map encVw), .int .i64 next]] 0⟩ :: (accM b_ 4 (((l0 :: L) ++ [(bw, x)]).map sesV) ++ famR ((l0 :: L) ++ [(bw, x)]))) from ?_)
                rw [hfm]
                (first | exact ⟨_, .refl _⟩ | exact wkMem.rfl' | exact ⟨_, .swap _ _ _⟩ | (repeat (first | exact wkMem.nil _ | exact wkMem.rfl' | exact wk_snoc _ _ _ | exact wk_fam (by assumption) _ _ _ | exact wk_famN (by assumption) _ _ _ | (apply wkMem.cons; (case' hl => (repeat (first | exact .here _ _ _ | apply Look.there)))) | apply wkMem.skip)))
        · have hjl : j < x.wins.length := by omega
          obtain ⟨y, hy⟩ : ∃ y, x.wins[j]? = some y := ⟨_, List.getElem?_eq_getElem hjl⟩
          have hcp := mapId_ok W y.s (hxx y (List.mem_of_getElem? hy)).s
          have e2 : encWin y = .agg [.str y.name, .int .i64 y.s.way, .int .i64 y.s.pane, .int .i64 y.s.size, .sl 4 (encSpls y.s.kids), .int .i64 y.act, .int .i64 y.bef, .bool y.zoom] := rfl
          have hws2 : ws ++ [y] = x.wins.take (j + 1) := by rw [take_snoc_of hy, hws]
          have hwl : ws.length ≤ 1048576 := by rw [hws, List.length_take]; omega
          rw [encSpl_eta] at hcp
          rcases ws with _ | ⟨w0, ws⟩
          · refine g0_ ?_
            (refine g1_ ?_; repeat (refine n1_ fun b_ => ?_; refine g1_ ?_))
            refine (hcp).use ?_; refine g0_ ?_
            refine g0_ ?_
            refine .inl ?_
            (refine g0_ ?_; repeat (refine n1_ fun b_ => ?_; refine g0_ ?_))
            rw [← e2]
            try rw [show ∀ v : PV, (List.map encWin ws).length + 1 + [v].length = (List.map encWin (ws ++ [y])).length + 1 from fun v => by simp]
            try rw [show (encWin w0 :: List.map encWin ws) ++ [encWin y] = List.map encWin (w0 :: ws ++ [y]) from by simp]
            refine nx_ (j + 1, b_, [] ++ [y]) ?_ ?_
            · exact ⟨hjl, hws2⟩
            · ((try dsimp only); (try simp only [List.length_drop, List.length_take, List.length_append, List.length_cons, List.length_nil, List.length_map] at *); omega)
          · rw [List.length_cons] at hwl
            have hwm : (List.map encWin ws).length = ws.length := List.length_map _
            refine g0_ ?_
            (refine g1_ ?_; repeat (refine n1_ fun b_ => ?_; refine g1_ ?_))
            refine (hcp).use ?_; refine g0_ ?_
            refine g0_ ?_
            refine .inl ?_
            (refine g0_ ?_; repeat (refine n2_ fun b_ => ?_; refine g0_ ?_))
            rw [← e2]
            try rw [show ∀ v : PV, (List.map encWin ws).length + 1 + [v].length = (List.map encWin (ws ++ [y])).length + 1 from fun v => by simp]
            try rw [show (encWin w0 :: List.map encWin ws) ++ [encWin y] = List.map encWin (w0 :: ws ++ [y]) from by simp]
            refine nx_ (j + 1, b_, (w0 :: ws) ++ [y]) ?_ ?_
            · exact ⟨hjl, hws2⟩
            · ((try dsimp only); (try simp only [List.length_drop, List.length_take, List.length_append, List.length_cons, List.length_nil, List.length_map] at *); omega)
    · refine g0_ ?_
      obtain ⟨bO, rfl⟩ : ∃ z, z = b_ := ⟨_, rfl⟩
      refine' loopI (α := Nat × Nat × (List (Nat × Ses))) (fun (i, bs, L) => [(18, .int .i64 i)]) [(2, _), (3, _), (16, _), (17, _)] (fun (i, bs, L) => ⟨bO, .row 3 [.agg [accV bs 4 ((L).map sesV), .rsl bo 3 0 views.length, .int .i64 next]] 0⟩ :: ⟨bR, .row 3 [.agg [.nils, .nils, .int .i64 0]] 0⟩ :: ⟨bH, .row 3 [.agg [.sl 4 (ses.map encSes), .sl 3 (views.map encVw), .int .i64 next]] 0⟩ :: ⟨bo, .row 3 (views.map encVw) 0⟩ :: (accM bs 4 (L.map sesV) ++ famR L)) (fun (i, bs, L) => i ≤ ses.length ∧ L.map Prod.snd = ses.take i) (fun (i, bs, L) => ses.length - i) (0, 0, []) ?_ ?_
      · exact ⟨Nat.zero_le _, rfl⟩
      rintro ⟨i, bs, L⟩ ⟨hi, hL⟩
      by_cases hie : i = ses.length
      · subst hie
        rw [List.take_length] at hL
        rcases L with _ | ⟨l0, L⟩
        · refine g0_ ?_
          refine g1_ ?_
          exact ⟨⟨bs, ([] : List (Nat × Ses)), (some bo), views, next⟩, ⟨by rw [OH.T]; dsimp only; rw [hL], ho⟩, rfl, by (show wkMem _ (⟨bo, .row 3 (views.map encVw) 0⟩ :: (accM bs 4 ((([] : List (Nat × Ses))).map sesV) ++ famR (([] : List (Nat × Ses)))))); (try rw [List.nil_append]); (first | exact ⟨_, .refl _⟩ | exact wkMem.rfl' | exact ⟨_, .swap _ _ _⟩ | (repeat (first | exact wkMem.nil _ | exact wkMem.rfl' | exact wk_snoc _ _ _ | exact wk_fam (by assumption) _ _ _ | exact wk_famN (by assumption) _ _ _ | (apply wkMem.cons; (case' hl => (repeat (first | exact .here _ _ _ | apply Look.there)))) | apply wkMem.skip)))⟩
        · refine g0_ ?_
          refine g1_ ?_
          exact ⟨⟨bs, (l0 :: L), (some bo), views, next⟩, ⟨by rw [OH.T]; dsimp only; rw [hL], ho⟩, rfl, by (show wkMem _ (⟨bo, .row 3 (views.map encVw) 0⟩ :: (accM bs 4 (((l0 :: L)).map sesV) ++ famR ((l0 :: L))))); (try rw [List.nil_append]); (first | exact ⟨_, .refl _⟩ | exact wkMem.rfl' | exact ⟨_, .swap _ _ _⟩ | (repeat (first | exact wkMem.nil _ | exact wkMem.rfl' | exact wk_snoc _ _ _ | exact wk_fam (by assumption) _ _ _ | exact wk_famN (by assumption) _ _ _ | (apply wkMem.cons; (case' hl => (repeat (first | exact .here _ _ _ | apply Look.there)))) | apply wkMem.skip)))⟩
      · have hil : i < ses.length := by omega
        obtain ⟨x, hx⟩ : ∃ x, ses[i]? = some x := ⟨_, List.getElem?_eq_getElem hil⟩
        obtain ⟨hxn, hxw, hxx, -, -⟩ := hse x (List.mem_of_getElem? hx)
        have hwm : (x.wins.map encWin).length = x.wins.length := List.length_map _
        refine g0_ ?_
        (refine g1_ ?_; repeat (refine n1_ fun b_ => ?_; refine g1_ ?_))
        rename_i b5
        obtain ⟨b6, rfl⟩ : ∃ z, z = b_ := ⟨_, rfl⟩
        refine' loopI (α := Nat × Nat × (List Win)) (fun (j, bw, ws) => [(27, .int .i64 j)]) [(2, _), (3, _), (6, _), (16, _), (17, _), (18, _), (25, _), (26, _)] (fun (j, bw, ws) => ⟨b6, .row 4 [.agg [.str x.name, accV bw 8 (ws.map encWin), .int .i64 x.act, .int .i64 x.bef]] 0⟩ :: ⟨b5, .row 4 [.agg [.str x.name, .sl 8 (x.wins.map encWin), .int .i64 x.act, .int .i64 x.bef]] 0⟩ :: ⟨bO, .row 3 [.agg [accV bs 4 ((L).map sesV), .rsl bo 3 0 views.length, .int .i64 next]] 0⟩ :: ⟨bR, .row 3 [.agg [.nils, .nils, .int .i64 0]] 0⟩ :: ⟨bH, .row 3 [.agg [.sl 4 (ses.map encSes), .sl 3 (views.map encVw), .int .i64 next]] 0⟩ :: ⟨bo, .row 3 (views.map encVw) 0⟩ :: (accM bw 8 (ws.map encWin) ++ (accM bs 4 (L.map sesV) ++ famR L))) (fun (j, bw, ws) => j ≤ x.wins.length ∧ ws = x.wins.take j) (fun (j, bw, ws) => x.wins.length - j) (0, 0, []) ?_ ?_
        · exact ⟨Nat.zero_le _, rfl⟩
        rintro ⟨j, bw, ws⟩ ⟨hj, hws⟩
        by_cases hje : j = x.wins.length
        · subst hje
          rw [List.take_length] at hws
          rcases ws with _ | ⟨w0, ws⟩
          · rcases L with _ | ⟨l0, L⟩
            · have e3 : sesV (bw, x) = .agg [.str x.name, accV bw 8 (List.map encWin (([] : List Win))), .int .i64 x.act, .int .i64 x.bef] := by
                unfold sesV
                rw [← hws]
              have hLl : (([] : List (Nat × Ses))).length ≤ 1048576 := by
                have := congrArg List.length hL
                rw [List.length_map, List.length_take] at this
                omega
              have hLn : (([] : List (Nat × Ses)) ++ [(bw, x)]).map Prod.snd = ses.take (i + 1) := by rw [take_snoc_of hx, List.map_append, hL]; rfl
              have hfm : famR (([] : List (Nat × Ses)) ++ [(bw, x)]) = accM bw 8 ((([] : List Win)).map encWin) ++ famR (([] : List (Nat × Ses))) := by rw [famR_snoc, hws]
              simp only [List.length_cons, List.length_nil] at hLl
              try have hLm : (List.map sesV L).length = L.length := List.length_map _
              refine g0_ ?_
              refine g1_ ?_
              refine .inl ?_
              (refine g0_ ?_; repeat (refine n1_ fun b_ => ?_; refine g0_ ?_))
              rw [← e3]
              try rw [show ∀ v : PV, (List.map sesV L).length + 1 + [v].length = (List.map sesV (L ++ [(bw, x)])).length + 1 from fun v => by simp]
              try rw [show (sesV l0 :: List.map sesV L) ++ [sesV (bw, x)] = List.map sesV (l0 :: L ++ [(bw, x)]) from by simp]
              refine ⟨(i + 1, b_, ([] : List (Nat × Ses)) ++ [(bw, x)]), ⟨hil, hLn⟩, (show ses.length - (i + 1) < ses.length - i by omega), ?_, ?_⟩
              · (repeat (refine wkEnv.cons (by first | rfl | ((conv => lhs; whnf); first | rfl | (congr 1; (try push_cast); omega) | (congr 1; simp; done) | (congr 1; simp; omega) | (simp; done) | (simp [*]; done))) ?_))
                exact wkEnv.nil
              · refine (show wkMem _ (⟨bO, .row 3 [.agg [accV b_ 4 ((([] : List (Nat × Ses)) ++ [(bw, x)]).map sesV), .rsl bo 3 0 views.length, .int .i64 next]] 0⟩ :: ⟨bR, .row 3 [.agg [.nils, .nils, .int .i64 0]] 0⟩ :: ⟨bH, .row 3 [.agg [.sl 4 (ses.map encSes), .sl 3 (views.map encVw), .int .i64 next]] 0⟩ :: ⟨bo, .row 3 (views.map encVw) 0⟩ :: (accM b_ 4 ((([] : List (Nat × Ses)) ++ [(bw, x)]).map sesV) ++ famR (([] : List (Nat × Ses)) ++ [(bw, x)]))) from ?_)
                rw [hfm]
                (first | exact ⟨_, .refl _⟩ | exact wkMem.rfl' | exact ⟨_, .swap _ _ _⟩ | (repeat (first | exact wkMem.nil _ | exact wkMem.rfl' | exact wk_snoc _ _ _ | exact wk_fam (by assumption) _ _ _ | exact wk_famN (by assumption) _ _ _ | (apply wkMem.cons; (case' hl => (repeat (first | exact .here _ _ _ | apply Look.there)))) | apply wkMem.skip)))
            · have e3 : sesV (bw, x) = .agg [.str x.name, accV bw 8 (List.map encWin (([] : List Win))), .int .i64 x.act, .int .i64 x.bef] := by
                unfold sesV
                rw [← hws]
              have hLl : ((l0 :: L)).length ≤ 1048576 := by
                have := congrArg List.length hL
                rw [List.length_map, List.length_take] at this
                omega
              have hLn : ((l0 :: L) ++ [(bw, x)]).map Prod.snd = ses.take (i + 1) := by rw [take_snoc_of hx, List.map_append, hL]; rfl
              have hfm : famR ((l0 :: L) ++ [(bw, x)]) = accM bw 8 ((([] : List Win)).map encWin) ++ famR ((l0 :: L)) := by rw [famR_snoc, hws]
              simp only [List.length_cons, List.length_nil] at hLl
              try have hLm : (List.map sesV L).length = L.length := List.length_map _
              refine g0_ ?_
              refine g1_ ?_
              refine .inl ?_
              (refine g0_ ?_; repeat (refine n2_ fun b_ => ?_; refine g0_ ?_))
              rw [← e3]
              try rw [show ∀ v : PV, (List.map sesV L).length + 1 + [v].length = (List.map sesV (L ++ [(bw, x)])).length + 1 from fun v => by simp]
              try rw [show (sesV l0 :: List.map sesV L) ++ [sesV (bw, x)] = List.map sesV (l0 :: L ++ [(bw, x)]) from by simp]
              refine ⟨(i + 1, b_, (l0 :: L) ++ [(bw, x)]), ⟨hil, hLn⟩, (show ses.length - (i + 1) < ses.length - i by omega), ?_, ?_⟩
              · (repeat (refine wkEnv.cons (by first | rfl | ((conv => lhs; whnf); first | rfl | (congr 1; (try push_cast); omega) | (congr 1; simp; done) | (congr 1; simp; omega) | (simp; done) | (simp [*]; done))) ?_))
                exact wkEnv.nil
              · refine (show wkMem _ (⟨bO, .row 3 [.agg [accV b_ 4 (((l0 :: L) ++ [(bw, x)]).map sesV), .rsl bo 3 0 views.length, .int .i64 next]] 0⟩ :: ⟨bR, .row 3 [.agg [.nils, .nils, .int .i64 0]] 0⟩ :: ⟨bH, .row 3 [.agg [.sl 4 (ses.map encSes), .sl 3 (views.map encVw), .int .i64 next]] 0⟩ :: ⟨bo, .row 3 (views.map encVw) 0⟩ :: (accM b_ 4 (((l0 :: L) ++ [(bw, x)]).map sesV) ++ famR ((l0 :: L) ++ [(bw, x)]))) from ?_)
                rw [hfm]
                (first | exact ⟨_, .refl _⟩ | exact wkMem.rfl' | exact ⟨_, .swap _ _ _⟩ | (repeat (first | exact wkMem.nil _ | exact wkMem.rfl' | exact wk_snoc _ _ _ | exact wk_fam (by assumption) _ _ _ | exact wk_famN (by assumption) _ _ _ | (apply wkMem.cons; (case' hl => (repeat (first | exact .here _ _ _ | apply Look.there)))) | apply wkMem.skip)))
          · rcases L with _ | ⟨l0, L⟩
            · have e3 : sesV (bw, x) = .agg [.str x.name, accV bw 8 (List.map encWin ((w0 :: ws))), .int .i64 x.act, .int .i64 x.bef] := by
                unfold sesV
                rw [← hws]
              have hLl : (([] : List (Nat × Ses))).length ≤ 1048576 := by
                have := congrArg List.length hL
                rw [List.length_map, List.length_take] at this
                omega
              have hLn : (([] : List (Nat × Ses)) ++ [(bw, x)]).map Prod.snd = ses.take (i + 1) := by rw [take_snoc_of hx, List.map_append, hL]; rfl
              have hfm : famR (([] : List (Nat × Ses)) ++ [(bw, x)]) = accM bw 8 (((w0 :: ws)).map encWin) ++ famR (([] : List (Nat × Ses))) := by rw [famR_snoc, hws]
              simp only [List.length_cons, List.length_nil] at hLl
              try have hLm : (List.map sesV L).length = L.length := List.length_map _
              refine g0_ ?_
              refine g1_ ?_
              refine .inl ?_
              (refine g0_ ?_; repeat (refine n1_ fun b_ => ?_; refine g0_ ?_))
              rw [← e3]
              try rw [show ∀ v : PV, (List.map sesV L).length + 1 + [v].length = (List.map sesV (L ++ [(bw, x)])).length + 1 from fun v => by simp]
              try rw [show (sesV l0 :: List.map sesV L) ++ [sesV (bw, x)] = List.map sesV (l0 :: L ++ [(bw, x)]) from by simp]
              refine ⟨(i + 1, b_, ([] : List (Nat × Ses)) ++ [(bw, x)]), ⟨hil, hLn⟩, (show ses.length - (i + 1) < ses.length - i by omega), ?_, ?_⟩
              · (repeat (refine wkEnv.cons (by first | rfl | ((conv => lhs; whnf); first | rfl | (congr 1; (try push_cast); omega) | (congr 1; simp; done) | (congr 1; simp; omega) | (simp; done) | (simp [*]; done))) ?_))
                exact wkEnv.nil
              · refine (show wkMem _ (⟨bO, .row 3 [.agg [accV b_ 4 ((([] : List (Nat × Ses)) ++ [(bw, x)]).map sesV), .rsl bo 3 0 views.length, .int .i64 next]] 0⟩ :: ⟨bR, .row 3 [.agg [.nils, .nils, .int .i64 0]] 0⟩ :: ⟨bH, .row 3 [.agg [.sl 4 (ses.map encSes), .sl 3 (views.map encVw), .int .i64 next]] 0⟩ :: ⟨bo, .row 3 (views.map encVw) 0⟩ :: (accM b_ 4 ((([] : List (Nat × Ses)) ++ [(bw, x)]).map sesV) ++ famR (([] : List (Nat × Ses)) ++ [(bw, x)]))) from ?_)
                rw [hfm]
                (first | exact ⟨_, .refl _⟩ | exact wkMem.rfl' | exact ⟨_, .swap _ _ _⟩ | (repeat (first | exact wkMem.nil _ | exact wkMem.rfl' | exact wk_snoc _ _ _ | exact wk_fam (by assumption) _ _ _ | exact wk_famN (by assumption) _ _ _ | (apply wkMem.cons; (case' hl => (repeat (first | exact .here _ _ _ | apply Look.there)))) | apply wkMem.skip)))
            · have e3 : sesV (bw, x) = .agg [.str x.name, accV bw 8 (List.map encWin ((w0 :: ws))), .int .i64 x.act, .int .i64 x.bef] := by
                unfold sesV
                rw [← hws]
              have hLl : ((l0 :: L)).length ≤ 1048576 := by
                have := congrArg List.length hL
                rw [List.length_map, List.length_take] at this
                omega
              have hLn : ((l0 :: L) ++ [(bw, x)]).map Prod.snd = ses.take (i + 1) := by rw [take_snoc_of hx, List.map_append, hL]; rfl
              have hfm : famR ((l0 :: L) ++ [(bw, x)]) = accM bw 8 (((w0 :: ws)).map encWin) ++ famR ((l0 :: L)) := by rw [famR_snoc, hws]
              simp only [List.length_cons, List.length_nil] at hLl
              try have hLm : (List.map sesV L).length = L.length := List.length_map _
              refine g0_ ?_
              refine g1_ ?_
              refine .inl ?_
              (refine g0_ ?_; repeat (refine n2_ fun b_ => ?_; refine g0_ ?_))
              rw [← e3]
              try rw [show ∀ v : PV, (List.map sesV L).length + 1 + [v].length = (List.map sesV (L ++ [(bw, x)])).length + 1 from fun v => by simp]
              try rw [show (sesV l0 :: List.map sesV L) ++ [sesV (bw, x)] = List.map sesV (l0 :: L ++ [(bw, x)]) from by simp]
              refine ⟨(i + 1, b_, (l0 :: L) ++ [(bw, x)]), ⟨hil, hLn⟩, (show ses.length - (i + 1) < ses.length - i by omega), ?_, ?_⟩
              · (repeat (refine wkEnv.cons (by first | rfl | ((conv => lhs; whnf); first | rfl | (congr 1; (try push_cast); omega) | (congr 1; simp; done) | (congr 1; simp; omega) | (simp; done) | (simp [*]; done))) ?_))
                exact wkEnv.nil
              · refine (show wkMem _ (⟨bO, .row 3 [.agg [accV b_ 4 (((l0 :: L) ++ [(bw, x)]).map sesV), .rsl bo 3 0 views.length, .int .i64 next]] 0⟩ :: ⟨bR, .row 3 [.agg [.nils, .nils, .int .i64 0]] 0⟩ :: ⟨bH, .row 3 [.agg [.sl 4 (ses.map encSes), .sl 3 (views.map encVw), .int .i64 next]] 0⟩ :: ⟨bo, .row 3 (views.map encVw) 0⟩ :: (accM b_ 4 (((l0 :: L) ++ [(bw, x)]).map sesV) ++ famR ((l0 :: L) ++ [(bw, x)]))) from ?_)
                rw [hfm]
                (first | exact ⟨_, .refl _⟩ | exact wkMem.rfl' | exact ⟨_, .swap _ _ _⟩ | (repeat (first | exact wkMem.nil _ | exact wkMem.rfl' | exact wk_snoc _ _ _ | exact wk_fam (by assumption) _ _ _ | exact wk_famN (by assumption) _ _ _ | (apply wkMem.cons; (case' hl => (repeat (first | exact .here _ _ _ | apply Look.there)))) | apply wkMem.skip)))
        · have hjl : j < x.wins.length := by omega
          obtain ⟨y, hy⟩ : ∃ y, x.wins[j]? = some y := ⟨_, List.getElem?_eq_getElem hjl⟩
          have hcp := mapId_ok W y.s (hxx y (List.mem_of_getElem? hy)).s
          have e2 : encWin y = .agg [.str y.name, .int .i64 y.s.way, .int .i64 y.s.pane, .int .i64 y.s.size, .sl 4 (encSpls y.s.kids), .int .i64 y.act, .int .i64 y.bef, .bool y.zoom] := rfl
          have hws2 : ws ++ [y] = x.wins.take (j + 1) := by rw [take_snoc_of hy, hws]
          have hwl : ws.length ≤ 1048576 := by rw [hws, List.length_take]; omega
          rw [encSpl_eta] at hcp
          rcases ws with _ | ⟨w0, ws⟩
          · refine g0_ ?_
            (refine g1_ ?_; repeat (refine n1_ fun b_ => ?_; refine g1_ ?_))
            refine (hcp).use ?_; refine g0_ ?_
            refine g0_ ?_
            refine .inl ?_
            (refine g0_ ?_; repeat (refine n1_ fun b_ => ?_; refine g0_ ?_))
            rw [← e2]
            try rw [show ∀ v : PV, (List.map encWin ws).length + 1 + [v].length = (List.map encWin (ws ++ [y])).length + 1 from fun v => by simp]
            try rw [show (encWin w0 :: List.map encWin ws) ++ [encWin y] = List.map encWin (w0 :: ws ++ [y]) from by simp]
            refine nx_ (j + 1, b_, [] ++ [y]) ?_ ?_
            · exact ⟨hjl, hws2⟩
            · ((try dsimp only); (try simp only [List.length_drop, List.length_take, List.length_append, List.length_cons, List.length_nil, List.length_map] at *); omega)
          · rw [List.length_cons] at hwl
            have hwm : (List.map encWin ws).length = ws.length := List.length_map _
            refine g0_ ?_
            (refine g1_ ?_; repeat (refine n1_ fun b_ => ?_; refine g1_ ?_))
            refine (hcp).use ?_; refine g0_ ?_
            refine g0_ ?_
            refine .inl ?_
            (refine g0_ ?_; repeat (refine n2_ fun b_ => ?_; refine g0_ ?_))
            rw [← e2]
            try rw [show ∀ v : PV, (List.map encWin ws).length + 1 + [v].length = (List.map encWin (ws ++ [y])).length + 1 from fun v => by simp]
            try rw [show (encWin w0 :: List.map encWin ws) ++ [encWin y] = List.map encWin (w0 :: ws ++ [y]) from by simp]
            refine nx_ (j + 1, b_, (w0 :: ws) ++ [y]) ?_ ?_
            · exact ⟨hjl, hws2⟩
            · ((try dsimp only); (try simp only [List.length_drop, List.length_take, List.length_append, List.length_cons, List.length_nil, List.length_map] at *); omega)
theorem cloneP_ok (h : Hs) (hok : h.ok) : Pure Tryd.prog W 24 [encHs h] (encHs h) :=
  (cloneHR_ok W h hok).pure fun x hx => hx.1 ▸ frz_oh hx.2 wkMem.rfl'
end Go.Eng.YtkenlcaifhffoaaDoor
end

/- Houses: the document's SameHouse, of a house and itself; noHouse (b_ x_ q_ e_). -/
section
namespace Go.Eng.YtkenlcaifhffoaaDoor
open Go Go.Eng Go.Proofs
variable (W : World)
set_option linter.unusedSimpArgs false
set_option maxRecDepth 100000
set_option linter.unusedVariables false
set_option maxHeartbeats 8000000
theorem wf_vw {n : Int} (h : i64ok n) : (Lit.int .i64 n).wf = true := by
  simp [Lit.wf, IntKind.min, IntKind.max, IntKind.signed, IntKind.bits]; exact h
theorem cells_vw : Tryd.prog.cellsOf 84 = 3 := by kernel_rfl
theorem cells_vwI : Tryd.prog.cellsOf 3 = 1 := by kernel_rfl
def litsVw (a : Vw) : List Lit := [.int .i64 a.s, .int .i64 a.w, .int .i64 a.h]
theorem lits_vw (a : Vw) (h : a.ok) : Tryd.prog.keyLits 3 84 [.int .i64 a.s, .int .i64 a.w, .int .i64 a.h] = some (litsVw a) := by
  obtain ⟨h1, h2, h3⟩ := h
  have hk : ∀ n : Int, (Lit.int .i64 n).wf = true → Tryd.prog.keyLits 2 3 [.int .i64 n] = some [.int .i64 n] := fun n hn => by simp [Program.keyLits, Tryd.underlying3, hn]
  conv => lhs; unfold Program.keyLits
  rw [Tryd.underlying84]
  dsimp only
  rw [if_pos ⟨by rw [cells_vw]; rfl, by simp⟩]
  simp only [List.mapM_cons, List.mapM_nil]
  rw [cells_vwI]
  simp only [List.drop_zero, List.drop_succ_cons, List.take_succ_cons, List.take_zero, hk _ (wf_vw h1), hk _ (wf_vw h2), hk _ (wf_vw h3)]
  rfl
theorem neq_vw (a : Vw) (ha : a.ok) (xo yo : Operand) : EqLaw Tryd.prog .neq 84 xo yo (.agg [.int .i64 a.s, .int .i64 a.w, .int .i64 a.h]) (.agg [.int .i64 a.s, .int .i64 a.w, .int .i64 a.h]) (!true) :=
  neqLaw_agg 3 (by kernel_rfl) (by decide) (by kernel_rfl) Tryd.underlying84 rfl rfl (by rw [cells_vw]; rfl) (by rw [cells_vw]; rfl) (lits_vw a ha) (lits_vw a ha) (by simp)
theorem eqVws_ok (a : List Vw) (ha : a.length ≤ 1048576) (hv : ∀ v ∈ a, v.ok) : Pure Tryd.prog W 66 [.sl 3 (a.map encVw), .sl 3 (a.map encVw)] (.bool true) := by
  have hm : (a.map encVw).length = a.length := List.length_map _
  refine Pure.of (acalls_of_vc (drawOk W) Tryd.func66 rfl (by decide) (by decide) rfl ?_)
  refine g0_ ?_
  refine g1_ ?_
  refine' loopI (α := Nat) (fun i => [(13, .int .i64 i)]) [(0, _), (1, _), (12, _)] (fun i => []) (fun i => i ≤ a.length) (fun i => a.length - i) 0 ?_ ?_
  · exact Nat.zero_le _
  rintro i hi
  refine g0_ ?_
  refine brec ?_; intro c_ h1; (try rw [h1]); cases c_ <;> replace h1 := nm_ h1
  · refine g0_ ?_
    exact .refl _
  · have hlt : i < a.length := by omega
    obtain ⟨x, hx⟩ : ∃ x, a[i]? = some x := ⟨_, List.getElem?_eq_getElem hlt⟩
    refine g0_ ?_
    refine head_ ?_; refine g0_ ?_
    refine ⟨_, neq_vw x (hv _ (List.mem_of_getElem? hx)) _ _, ?_⟩
    refine g0_ ?_
    refine nx_ (i + 1) ?_ ?_
    · exact hlt
    · omega
theorem eqWin_ok (x : Win) (hx : x.s.ok) : Pure Tryd.prog W 70 [encWin x, encWin x] (.bool true) := by
  have hs := sameT_ok W x.s hx x.s
  rw [sameT_rfl, encSpl_eta] at hs
  unfold encWin
  refine Pure.of (acalls_of_vc (drawOk W) Tryd.func70 rfl (by decide) (by decide) rfl ?_)
  (refine g0_ ?_; repeat (refine n1_ fun b_ => ?_; refine g0_ ?_))
  refine g1_ ?_
  refine (hs).use ?_; refine g0_ ?_
  refine g1_ ?_
  exact .of_eq (by simp)
theorem eqWins_ok (a : List Win) (ha : a.length ≤ 1048576) (h : ∀ x ∈ a, x.s.ok) :
    Pure Tryd.prog W 69 [.sl 8 (a.map encWin), .sl 8 (a.map encWin), .fn 70 []] (.bool true) := by
  have hm : (a.map encWin).length = a.length := List.length_map _
  refine Pure.of (acalls_of_vc (drawOk W) Tryd.func69 rfl (by decide) (by decide) rfl ?_)
  refine g0_ ?_
  refine g1_ ?_
  refine' loopI (α := Nat) (fun i => [(17, .int .i64 i)]) [(1, _), (2, _), (15, _), (16, _)] (fun i => []) (fun i => i ≤ a.length) (fun i => a.length - i) 0 ?_ ?_
  · exact Nat.zero_le _
  rintro i hi
  refine g0_ ?_
  refine brec ?_; intro c_ h1; (try rw [h1]); cases c_ <;> replace h1 := nm_ h1
  · refine g0_ ?_
    exact .refl _
  · have hlt : i < a.length := by omega
    obtain ⟨x, hx⟩ : ∃ x, a[i]? = some x := ⟨_, List.getElem?_eq_getElem hlt⟩
    have hc := eqWin_ok W x (h x (List.mem_of_getElem? hx))
    unfold encWin at hc
    (refine g0_ ?_; repeat (refine n1_ fun b_ => ?_; refine g0_ ?_))
    refine g1_ ?_
    refine (hc).use ?_; refine g0_ ?_
    refine g1_ ?_
    refine nx_ (i + 1) ?_ ?_
    · exact hlt
    · omega
theorem eqSes_ok (x : Ses) (hx : x.ok) : Pure Tryd.prog W 68 [encSes x, encSes x] (.bool true) := by
  have hs := eqWins_ok W x.wins hx.wins fun w hw => (hx.win w hw).s
  unfold encSes
  refine Pure.of (acalls_of_vc (drawOk W) Tryd.func68 rfl (by decide) (by decide) rfl ?_)
  (refine g0_ ?_; repeat (refine n1_ fun b_ => ?_; refine g0_ ?_))
  refine g1_ ?_
  refine (hs).use ?_; refine g0_ ?_
  refine g1_ ?_
  exact .of_eq (by simp)
theorem eqSess_ok (a : List Ses) (ha : a.length ≤ 1048576) (h : ∀ x ∈ a, x.ok) :
    Pure Tryd.prog W 67 [.sl 4 (a.map encSes), .sl 4 (a.map encSes), .fn 68 []] (.bool true) := by
  have hm : (a.map encSes).length = a.length := List.length_map _
  refine Pure.of (acalls_of_vc (drawOk W) Tryd.func67 rfl (by decide) (by decide) rfl ?_)
  refine g0_ ?_
  refine g1_ ?_
  refine' loopI (α := Nat) (fun i => [(17, .int .i64 i)]) [(1, _), (2, _), (15, _), (16, _)] (fun i => []) (fun i => i ≤ a.length) (fun i => a.length - i) 0 ?_ ?_
  · exact Nat.zero_le _
  rintro i hi
  refine g0_ ?_
  refine brec ?_; intro c_ h1; (try rw [h1]); cases c_ <;> replace h1 := nm_ h1
  · refine g0_ ?_
    exact .refl _
  · have hlt : i < a.length := by omega
    obtain ⟨x, hx⟩ : ∃ x, a[i]? = some x := ⟨_, List.getElem?_eq_getElem hlt⟩
    have hc := eqSes_ok W x (h x (List.mem_of_getElem? hx))
    unfold encSes at hc
    (refine g0_ ?_; repeat (refine n1_ fun b_ => ?_; refine g0_ ?_))
    refine g1_ ?_
    refine (hc).use ?_; refine g0_ ?_
    refine g1_ ?_
    refine nx_ (i + 1) ?_ ?_
    · exact hlt
    · omega
theorem sameHR_ok (h : Hs) (hok : h.ok) : Pure Tryd.prog W 25 [encHs h, encHs h] (.bool true) := by
  have h1 := eqVws_ok W h.views hok.views hok.view
  have h2 := eqSess_ok W h.ses hok.ses hok.se
  unfold encHs
  refine Pure.of (acalls_of_vc (drawOk W) Tryd.func25 rfl (by decide) (by decide) rfl ?_)
  (refine g0_ ?_; repeat (refine n1_ fun b_ => ?_; refine g0_ ?_))
  refine g1_ ?_
  refine (h1).use ?_; refine g0_ ?_
  refine g1_ ?_
  refine (h2).use ?_; refine g0_ ?_
  refine g1_ ?_
  exact .of_eq (by simp)
theorem noHs_ok : noHs.ok := ⟨Nat.zero_le _, (fun s h => by cases h), Nat.zero_le _, (fun s h => by cases h), by decide⟩
theorem noHouse_ok : Pure Tryd.prog W 27 [encHs noHs] (.bool true) := by
  have h := (sameHR_ok W noHs noHs_ok).nilS (args := [encHs noHs, .agg [.nils, .nils, .int .i64 0]]) rfl (fun i hi => by
    match i, hi with
    | 0, _ => exact .refl _
    | 1, _ => exact frz_noHs _)
  rw [show encHs noHs = .agg [.sl 4 [], .sl 3 [], .int .i64 0] from rfl] at *
  refine Pure.of (acalls_of_vc (drawOk W) Tryd.func27 rfl (by decide) (by decide) rfl ?_)
  (refine g0_ ?_; repeat (refine n1_ fun b_ => ?_; refine g0_ ?_))
  refine (h).use ?_; refine g0_ ?_
  exact .refl _
end Go.Eng.YtkenlcaifhffoaaDoor
end
