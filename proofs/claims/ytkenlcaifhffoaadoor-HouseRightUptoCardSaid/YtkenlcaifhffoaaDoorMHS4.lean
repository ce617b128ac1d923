/- Texts put together: HseO, HseV, HseG. -/
import Derived.Test.YtkenlcaifhffoaaDoorMHS1
import Derived.Test.YtkenlcaifhffoaaDoorMSH
import Derived.Test.YtkenlcaifhffoaaDoorME3
import Derived.Test.YtkenlcaifhffoaaDoorME10
import Derived.Test.YtkenlcaifhffoaaDoorMG1
import Derived.Test.YtkenlcaifhffoaaDoorMHS2
/- Houses of the call's own: sessions, each with its row of windows; viewers (b_ x_ q_ e_). -/
section
namespace Go.Eng
open Go
variable {P : Program} {W : World}
theorem ACalls.of_empty {f : FuncId} {σ : Mem} {k : PV → Mem → Prop} {sz : Nat} (h : ∀ a cap, ACalls P W f [.lit (.slice a 0 cap)] σ k) : ACalls P W f [.sl sz []] σ k := by
  refine ⟨(h none 0).body, fun K w vs hl hr hm hp => ?_⟩
  obtain ⟨v, rfl⟩ := List.length_eq_one_iff.1 hl.symm
  have h0 := hr 0 (by simp)
  simp only [List.getD_cons_zero] at h0
  obtain ⟨a, cap, rfl⟩ : ∃ a cap, v = .slice a 0 cap := by
    cases h0 with
    | sl0 _ a cap => exact ⟨a, cap, rfl⟩
    | sl _ _ b o cap => exact ⟨_, cap, rfl⟩
  exact (h a cap).run K w _ rfl (fun i hi => by
    obtain rfl : i = 0 := by simpa using hi
    exact .lit _) hm hp
end Go.Eng
namespace Go.Eng.YtkenlcaifhffoaaDoor
open Go Go.Eng Go.Proofs
variable (W : World)
set_option linter.unusedSimpArgs false
set_option maxRecDepth 100000
set_option linter.unusedVariables false
set_option maxHeartbeats 8000000
def sesV (p : Nat × Ses) : PV := .agg [.str p.2.name, accV p.1 8 (p.2.wins.map encWin), .int .i64 p.2.act, .int .i64 p.2.bef]
def famR (L : List (Nat × Ses)) : Mem := L.reverse.flatMap fun p => accM p.1 8 (p.2.wins.map encWin)
theorem famR_snoc (L : List (Nat × Ses)) (p : Nat × Ses) : famR (L ++ [p]) = accM p.1 8 (p.2.wins.map encWin) ++ famR L := by simp [famR]
def vwV (o : Option Nat) (views : List Vw) : PV := match o with
  | none => .nils
  | some b => .rsl b 3 0 views.length
def vwM (o : Option Nat) (views : List Vw) : Mem := match o with
  | none => []
  | some b => [⟨b, .row 3 (views.map encVw) 0⟩]
structure OH where
  bs : Nat
  L : List (Nat × Ses)
  o : Option Nat
  views : List Vw
  next : Int
def OH.V (x : OH) : PV := .agg [accV x.bs 4 (x.L.map sesV), vwV x.o x.views, .int .i64 x.next]
def OH.M (x : OH) : Mem := vwM x.o x.views ++ (accM x.bs 4 (x.L.map sesV) ++ famR x.L)
def OH.T (x : OH) : Hs := ⟨x.L.map Prod.snd, x.views, x.next⟩
theorem mem_acc {b sz : Nat} {l : List PV} (h : l ≠ []) : ⟨b, .row sz l 0⟩ ∈ accM b sz l := by
  cases l with
  | nil => exact absurd rfl h
  | cons x l => exact List.mem_singleton.2 rfl
theorem mem_famR {L : List (Nat × Ses)} {p : Nat × Ses} (hp : p ∈ L) (h : p.2.wins ≠ []) : ⟨p.1, .row 8 (p.2.wins.map encWin) 0⟩ ∈ famR L :=
  List.mem_flatMap.2 ⟨p, List.mem_reverse.2 hp, mem_acc (by simpa using h)⟩
theorem frz_ses {σ : Mem} {p : Nat × Ses} (h : p.2.wins ≠ [] → ∃ r, Look σ p.1 (.row 8 (p.2.wins.map encWin) 0) r) : Frz σ (sesV p) (encSes p.2) := by
  refine .agg _ _ rfl fun j hj => ?_
  match j, hj with
  | 0, _ => exact .refl _
  | 1, _ => exact frz_of_acc fun hn => h (by simpa using hn)
  | 2, _ => exact .refl _
  | 3, _ => exact .refl _
theorem frz_sess {σ : Mem} {b : Nat} {L : List (Nat × Ses)} (h0 : L ≠ [] → ∃ r, Look σ b (.row 4 (L.map sesV) 0) r) (h : ∀ p ∈ L, p.2.wins ≠ [] → ∃ r, Look σ p.1 (.row 8 (p.2.wins.map encWin) 0) r) : Frz σ (accV b 4 (L.map sesV)) (.sl 4 ((L.map Prod.snd).map encSes)) := by
  cases L with
  | nil => exact .nils 4
  | cons p l =>
    obtain ⟨r, hr⟩ := h0 (by simp)
    refine .rsl b 4 0 _ ((p :: l).map sesV) (((p :: l).map Prod.snd).map encSes) 0 r hr (by simp) (by simp) fun j hj => ?_
    have hjl : j < (p :: l).length := by simpa using hj
    have e1 : ((p :: l).map sesV).getD (0 + j) .dead = sesV (p :: l)[j] := by rw [Nat.zero_add, List.getD_eq_getElem?_getD, List.getElem?_map, List.getElem?_eq_getElem hjl]; rfl
    have e2 : (((p :: l).map Prod.snd).map encSes).getD j .dead = encSes (p :: l)[j].2 := by rw [List.getD_eq_getElem?_getD, List.getElem?_map, List.getElem?_map, List.getElem?_eq_getElem hjl]; rfl
    rw [e1, e2]
    exact frz_ses (h _ (List.getElem_mem hjl))
theorem frz_vw {σ : Mem} {o : Option Nat} {views : List Vw} (h0 : o = none → views = []) (h : ∀ b, o = some b → ∃ r, Look σ b (.row 3 (views.map encVw) 0) r) : Frz σ (vwV o views) (.sl 3 (views.map encVw)) := by
  cases o with
  | none => rw [h0 rfl]; exact .nils 3
  | some b =>
    obtain ⟨r, hr⟩ := h b rfl
    exact frz_row hr _ (by simp)
end Go.Eng.YtkenlcaifhffoaaDoor
end

/- Houses: copies in memory of one's own (b_ x_ q_ e_). -/
section
namespace Go.Eng.YtkenlcaifhffoaaDoor
open Go Go.Eng Go.Proofs
variable (W : World)
set_option linter.unusedSimpArgs false
set_option maxRecDepth 100000
set_option linter.unusedVariables false
set_option maxHeartbeats 8000000
theorem vws_all (l : List Vw) : (l.map encVw).all cellsB = true := by simp [cellsB, PV.flat, cellB, encVw]
theorem clone_vw (l : List Vw) (hl : l.length ≤ 1048576) : ACalls Tryd.prog W 63 [.sl 3 (l.map encVw)] [] (Gives (fun o => vwV o l) (fun o => vwM o l) (fun o => o = none → l = [])) := by
  cases l with
  | nil =>
    refine ACalls.of_empty fun a cap => ?_
    refine acalls_of_vc (drawOk W) Tryd.func63 rfl (by decide) (by decide) rfl ?_
    refine g0_ ?_
    refine ⟨_, eql_nil Tryd.underlying23 (.inl ⟨_, _, rfl, rfl⟩), ?_⟩
    refine g0_ ?_
    refine brec ?_; intro c_ h; (try rw [h]); cases c_ <;> replace h := nm_ h
    · refine g0_ ?_
      refine .inr ?_
      (refine g0_ ?_; repeat ((first | refine n1_ fun b_ => ?_ | refine n2_ fun b_ => ?_); refine g0_ ?_))
      exact ⟨some b_, fun h => (by cases h), rfl, wkMem.rfl'⟩
    · refine g0_ ?_
      exact ⟨none, fun _ => rfl, rfl, wkMem.rfl'⟩
  | cons x l =>
    have hc := vws_all (x :: l)
    have hlm : (List.map encVw l).length = l.length := List.length_map _
    rw [List.length_cons] at hl
    refine acalls_of_vc (drawOk W) Tryd.func63 rfl (by decide) (by decide) rfl ?_
    rw [List.map_cons] at *
    refine g0_ ?_
    refine ⟨_, eql_nil Tryd.underlying23 (.inr (.inl ⟨_, _, _, rfl, rfl⟩)), ?_⟩
    refine g0_ ?_
    refine .inr ?_
    (refine g0_ ?_; repeat ((first | refine n1_ fun b_ => ?_ | refine n2_ fun b_ => ?_); refine g0_ ?_))
    exact ⟨some b_, fun h => (by cases h), by (simp [vwV]; rfl), wkMem.rfl'⟩
theorem accM_neH {b sz : Nat} {l : List PV} (h : l ≠ []) : accM b sz l = [⟨b, .row sz l 0⟩] := by
  cases l with
  | nil => exact absurd rfl h
  | cons x l => rfl
theorem accV_neH {b sz : Nat} {l : List PV} (h : l ≠ []) : accV b sz l = .rsl b sz 0 l.length := by
  cases l with
  | nil => exact absurd rfl h
  | cons x l => rfl
theorem copyH_ok (h : Hs) (hok : h.ok) : ACalls Tryd.prog W 73 [encHs h] [] (Gives OH.V OH.M (fun x => x.T = h ∧ (x.o = none → x.views = []))) := by
  obtain ⟨hsl, hse, hvl, hvv, hnx⟩ := hok
  obtain ⟨ses, views, next⟩ := h
  dsimp only at hsl hse hvl hvv hnx
  have hm1 : (ses.map encSes).length = ses.length := List.length_map _
  have hm2 : (views.map encVw).length = views.length := List.length_map _
  have hcv := clone_vw W views hvl
  unfold encHs
  dsimp only
  refine acalls_of_vc (drawOk W) Tryd.func73 rfl (by decide) (by decide) rfl ?_
  (refine g0_ ?_; repeat (refine n1_ fun b_ => ?_; refine g0_ ?_))
  rename_i bH
  obtain ⟨bR, rfl⟩ : ∃ z, z = b_ := ⟨_, rfl⟩
  refine' loopI (α := Nat × Nat × (List (Nat × Ses))) (fun (i, bs, L) => [(3, accV bs 4 (L.map sesV)), (12, .int .i64 i)]) [(1, _), (2, _), (10, _), (11, _)] (fun (i, bs, L) => ⟨bR, .row 3 [.agg [.nils, .nils, .int .i64 0]] 0⟩ :: ⟨bH, .row 3 [.agg [.sl 4 (ses.map encSes), .sl 3 (views.map encVw), .int .i64 next]] 0⟩ :: (accM bs 4 (L.map sesV) ++ famR L)) (fun (i, bs, L) => i ≤ ses.length ∧ L.map Prod.snd = ses.take i) (fun (i, bs, L) => ses.length - i) (0, 0, []) ?_ ?_
  · exact ⟨Nat.zero_le _, rfl⟩
  rintro ⟨i, bs, L⟩ ⟨hi, hL⟩
  by_cases hie : i = ses.length
  · subst hie
    rw [List.take_length] at hL
    rcases L with _ | ⟨l0, L⟩
    · refine g0_ ?_
      refine g1_ ?_
      refine ACalls.give hcv ?_
      rintro o ho
      rcases o with _ | bo
      · refine g0_ ?_
        exact ⟨⟨bs, ([] : List (Nat × Ses)), none, views, next⟩, ⟨by rw [OH.T]; dsimp only; rw [hL], ho⟩, rfl, by (show wkMem _ (([] : Mem) ++ (accM bs 4 ((([] : List (Nat × Ses))).map sesV) ++ famR (([] : List (Nat × Ses)))))); rw [List.nil_append]; (first | exact ⟨_, .refl _⟩ | exact wkMem.rfl' | exact ⟨_, .swap _ _ _⟩ | (repeat (first | exact wkMem.nil _ | exact wkMem.rfl' | exact wk_snoc _ _ _ | exact wk_fam (by assumption) _ _ _ | exact wk_famN (by assumption) _ _ _ | (apply wkMem.cons; (case' hl => (repeat (first | exact .here _ _ _ | apply Look.there)))) | apply wkMem.skip)))⟩
      · refine g0_ ?_
        exact ⟨⟨bs, ([] : List (Nat × Ses)), some bo, views, next⟩, ⟨by rw [OH.T]; dsimp only; rw [hL], ho⟩, rfl, by (show wkMem _ (⟨bo, .row 3 (views.map encVw) 0⟩ :: (accM bs 4 ((([] : List (Nat × Ses))).map sesV) ++ famR (([] : List (Nat × Ses)))))); (first | exact ⟨_, .refl _⟩ | exact wkMem.rfl' | exact ⟨_, .swap _ _ _⟩ | (repeat (first | exact wkMem.nil _ | exact wkMem.rfl' | exact wk_snoc _ _ _ | exact wk_fam (by assumption) _ _ _ | exact wk_famN (by assumption) _ _ _ | (apply wkMem.cons; (case' hl => (repeat (first | exact .here _ _ _ | apply Look.there)))) | apply wkMem.skip)))⟩
    · refine g0_ ?_
      refine g1_ ?_
      refine ACalls.give hcv ?_
      rintro o ho
      rcases o with _ | bo
      · refine g0_ ?_
        exact ⟨⟨bs, (l0 :: L), none, views, next⟩, ⟨by rw [OH.T]; dsimp only; rw [hL], ho⟩, rfl, by (show wkMem _ (([] : Mem) ++ (accM bs 4 (((l0 :: L)).map sesV) ++ famR ((l0 :: L))))); rw [List.nil_append]; (first | exact ⟨_, .refl _⟩ | exact wkMem.rfl' | exact ⟨_, .swap _ _ _⟩ | (repeat (first | exact wkMem.nil _ | exact wkMem.rfl' | exact wk_snoc _ _ _ | exact wk_fam (by assumption) _ _ _ | exact wk_famN (by assumption) _ _ _ | (apply wkMem.cons; (case' hl => (repeat (first | exact .here _ _ _ | apply Look.there)))) | apply wkMem.skip)))⟩
      · refine g0_ ?_
        exact ⟨⟨bs, (l0 :: L), some bo, views, next⟩, ⟨by rw [OH.T]; dsimp only; rw [hL], ho⟩, rfl, by (show wkMem _ (⟨bo, .row 3 (views.map encVw) 0⟩ :: (accM bs 4 (((l0 :: L)).map sesV) ++ famR ((l0 :: L))))); (first | exact ⟨_, .refl _⟩ | exact wkMem.rfl' | exact ⟨_, .swap _ _ _⟩ | (repeat (first | exact wkMem.nil _ | exact wkMem.rfl' | exact wk_snoc _ _ _ | exact wk_fam (by assumption) _ _ _ | exact wk_famN (by assumption) _ _ _ | (apply wkMem.cons; (case' hl => (repeat (first | exact .here _ _ _ | apply Look.there)))) | apply wkMem.skip)))⟩
  · have hil : i < ses.length := by omega
    obtain ⟨x, hx⟩ : ∃ x, ses[i]? = some x := ⟨_, List.getElem?_eq_getElem hil⟩
    obtain ⟨hxn, hxw, hxx, -, -⟩ := hse x (List.mem_of_getElem? hx)
    have hwm : (x.wins.map encWin).length = x.wins.length := List.length_map _
    refine g0_ ?_
    (refine g1_ ?_; repeat (refine n1_ fun b_ => ?_; refine g1_ ?_))
    obtain ⟨bx, rfl⟩ : ∃ z, z = b_ := ⟨_, rfl⟩
    refine' loopI (α := Nat × Nat × (List Win)) (fun (j, bw, ws) => [(6, accV bw 8 (ws.map encWin)), (19, .int .i64 j)]) [(1, _), (2, _), (3, _), (5, _), (10, _), (11, _), (12, _), (17, _), (18, _)] (fun (j, bw, ws) => ⟨bx, .row 4 [.agg [.str x.name, .sl 8 (x.wins.map encWin), .int .i64 x.act, .int .i64 x.bef]] 0⟩ :: ⟨bR, .row 3 [.agg [.nils, .nils, .int .i64 0]] 0⟩ :: ⟨bH, .row 3 [.agg [.sl 4 (ses.map encSes), .sl 3 (views.map encVw), .int .i64 next]] 0⟩ :: (accM bw 8 (ws.map encWin) ++ (accM bs 4 (L.map sesV) ++ famR L))) (fun (j, bw, ws) => j ≤ x.wins.length ∧ ws = x.wins.take j) (fun (j, bw, ws) => x.wins.length - j) (0, 0, []) ?_ ?_
    · exact ⟨Nat.zero_le _, rfl⟩
    rintro ⟨j, bw, ws⟩ ⟨hj, hws⟩
    by_cases hje : j = x.wins.length
    · subst hje
      rw [List.take_length] at hws
      rcases ws with _ | ⟨w0, ws⟩
      · rcases L with _ | ⟨l0, L⟩
        · have e3 : sesV (bw, x) = .agg [.str x.name, .nils, .int .i64 x.act, .int .i64 x.bef] := by
            unfold sesV
            rw [← hws]
            rfl
          have hLl : (([] : List (Nat × Ses))).length ≤ 1048576 := by
            have := congrArg List.length hL
            rw [List.length_map, List.length_take] at this
            omega
          have hLn : (([] : List (Nat × Ses)) ++ [(bw, x)]).map Prod.snd = ses.take (i + 1) := by rw [take_snoc_of hx, List.map_append, hL]; rfl
          have hfm : famR (([] : List (Nat × Ses)) ++ [(bw, x)]) = accM bw 8 ((([] : List Win)).map encWin) ++ famR (([] : List (Nat × Ses))) := by rw [famR_snoc, hws]
          simp only [List.length_cons, List.length_nil] at hLl
          try have hLm : (List.map sesV L).length = L.length := List.length_map _
          refine g0_ ?_
          refine g1_ ?_
          refine .inl ?_
          (refine g0_ ?_; repeat (refine n1_ fun b_ => ?_; refine g0_ ?_))
          rw [← e3]
          try rw [show ∀ v : PV, (List.map sesV L).length + 1 + [v].length = (List.map sesV (L ++ [(bw, x)])).length + 1 from fun v => by simp]
          try rw [show (sesV l0 :: List.map sesV L) ++ [sesV (bw, x)] = List.map sesV (l0 :: L ++ [(bw, x)]) from by simp]
          refine ⟨(i + 1, b_, ([] : List (Nat × Ses)) ++ [(bw, x)]), ⟨hil, hLn⟩, (show ses.length - (i + 1) < ses.length - i by omega), ?_, ?_⟩
          · (repeat (refine wkEnv.cons (by first | rfl | ((conv => lhs; whnf); first | rfl | (congr 1; (try push_cast); omega) | (congr 1; simp; done) | (congr 1; simp; omega) | (simp; done) | (simp [*]; done))) ?_))
            exact wkEnv.nil
          · refine (show wkMem _ (⟨bR, .row 3 [.agg [.nils, .nils, .int .i64 0]] 0⟩ :: ⟨bH, .row 3 [.agg [.sl 4 (ses.map encSes), .sl 3 (views.map encVw), .int .i64 next]] 0⟩ :: (accM b_ 4 ((([] : List (Nat × Ses)) ++ [(bw, x)]).map sesV) ++ famR (([] : List (Nat × Ses)) ++ [(bw, x)]))) from ?_)
            rw [hfm]
            (first | exact ⟨_, .refl _⟩ | exact wkMem.rfl' | exact ⟨_, .swap _ _ _⟩ | (repeat (first | exact wkMem.nil _ | exact wkMem.rfl' | exact wk_snoc _ _ _ | exact wk_fam (by assumption) _ _ _ | exact wk_famN (by assumption) _ _ _ | (apply wkMem.cons; (case' hl => (repeat (first | exact .here _ _ _ | apply Look.there)))) | apply wkMem.skip)))
        · have e3 : sesV (bw, x) = .agg [.str x.name, .nils, .int .i64 x.act, .int .i64 x.bef] := by
            unfold sesV
            rw [← hws]
            rfl
          have hLl : ((l0 :: L)).length ≤ 1048576 := by
            have := congrArg List.length hL
            rw [List.length_map, List.length_take] at this
            omega
          have hLn : ((l0 :: L) ++ [(bw, x)]).map Prod.snd = ses.take (i + 1) := by rw [take_snoc_of hx, List.map_append, hL]; rfl
          have hfm : famR ((l0 :: L) ++ [(bw, x)]) = accM bw 8 ((([] : List Win)).map encWin) ++ famR ((l0 :: L)) := by rw [famR_snoc, hws]
          simp only [List.length_cons, List.length_nil] at hLl
          try have hLm : (List.map sesV L).length = L.length := List.length_map _
          refine g0_ ?_
          refine g1_ ?_
          refine .inl ?_
          (refine g0_ ?_; repeat (refine n2_ fun b_ => ?_; refine g0_ ?_))
          rw [← e3]
          try rw [show ∀ v : PV, (List.map sesV L).length + 1 + [v].length = (List.map sesV (L ++ [(bw, x)])).length + 1 from fun v => by simp]
          try rw [show (sesV l0 :: List.map sesV L) ++ [sesV (bw, x)] = List.map sesV (l0 :: L ++ [(bw, x)]) from by simp]
          refine ⟨(i + 1, b_, (l0 :: L) ++ [(bw, x)]), ⟨hil, hLn⟩, (show ses.length - (i + 1) < ses.length - i by omega), ?_, ?_⟩
          · (repeat (refine wkEnv.cons (by first | rfl | ((conv => lhs; whnf); first | rfl | (congr 1; (try push_cast); omega) | (congr 1; simp; done) | (congr 1; simp; omega) | (simp; done) | (simp [*]; done))) ?_))
            exact wkEnv.nil
          · refine (show wkMem _ (⟨bR, .row 3 [.agg [.nils, .nils, .int .i64 0]] 0⟩ :: ⟨bH, .row 3 [.agg [.sl 4 (ses.map encSes), .sl 3 (views.map encVw), .int .i64 next]] 0⟩ :: (accM b_ 4 (((l0 :: L) ++ [(bw, x)]).map sesV) ++ famR ((l0 :: L) ++ [(bw, x)]))) from ?_)
            rw [hfm]
            (first | exact ⟨_, .refl _⟩ | exact wkMem.rfl' | exact ⟨_, .swap _ _ _⟩ | (repeat (first | exact wkMem.nil _ | exact wkMem.rfl' | exact wk_snoc _ _ _ | exact wk_fam (by assumption) _ _ _ | exact wk_famN (by assumption) _ _ _ | (apply wkMem.cons; (case' hl => (repeat (first | exact .here _ _ _ | apply Look.there)))) | apply wkMem.skip)))
      · rcases L with _ | ⟨l0, L⟩
        · have e3 : sesV (bw, x) = .agg [.str x.name, .rsl bw 8 0 ((List.map encWin ws).length + 1), .int .i64 x.act, .int .i64 x.bef] := by
            unfold sesV
            rw [← hws]
            rfl
          have hLl : (([] : List (Nat × Ses))).length ≤ 1048576 := by
            have := congrArg List.length hL
            rw [List.length_map, List.length_take] at this
            omega
          have hLn : (([] : List (Nat × Ses)) ++ [(bw, x)]).map Prod.snd = ses.take (i + 1) := by rw [take_snoc_of hx, List.map_append, hL]; rfl
          have hfm : famR (([] : List (Nat × Ses)) ++ [(bw, x)]) = accM bw 8 (((w0 :: ws)).map encWin) ++ famR (([] : List (Nat × Ses))) := by rw [famR_snoc, hws]
          simp only [List.length_cons, List.length_nil] at hLl
          try have hLm : (List.map sesV L).length = L.length := List.length_map _
          refine g0_ ?_
          refine g1_ ?_
          refine .inl ?_
          (refine g0_ ?_; repeat (refine n1_ fun b_ => ?_; refine g0_ ?_))
          rw [← e3]
          try rw [show ∀ v : PV, (List.map sesV L).length + 1 + [v].length = (List.map sesV (L ++ [(bw, x)])).length + 1 from fun v => by simp]
          try rw [show (sesV l0 :: List.map sesV L) ++ [sesV (bw, x)] = List.map sesV (l0 :: L ++ [(bw, x)]) from by simp]
          refine ⟨(i + 1, b_, ([] : List (Nat × Ses)) ++ [(bw, x)]), ⟨hil, hLn⟩, (show ses.length - (i + 1) < ses.length - i by omega), ?_, ?_⟩
          · (repeat (refine wkEnv.cons (by first | rfl | ((conv => lhs; whnf); first | rfl | (congr 1; (try push_cast); omega) | (congr 1; simp; done) | (congr 1; simp; omega) | (simp; done) | (simp [*]; done))) ?_))
            exact wkEnv.nil
          · refine (show wkMem _ (⟨bR, .row 3 [.agg [.nils, .nils, .int .i64 0]] 0⟩ :: ⟨bH, .row 3 [.agg [.sl 4 (ses.map encSes), .sl 3 (views.map encVw), .int .i64 next]] 0⟩ :: (accM b_ 4 ((([] : List (Nat × Ses)) ++ [(bw, x)]).map sesV) ++ famR (([] : List (Nat × Ses)) ++ [(bw, x)]))) from ?_)
            rw [hfm]
            (first | exact ⟨_, .refl _⟩ | exact wkMem.rfl' | exact ⟨_, .swap _ _ _⟩ | (repeat (first | exact wkMem.nil _ | exact wkMem.rfl' | exact wk_snoc _ _ _ | exact wk_fam (by assumption) _ _ _ | exact wk_famN (by assumption) _ _ _ | (apply wkMem.cons; (case' hl => (repeat (first | exact .here _ _ _ | apply Look.there)))) | apply wkMem.skip)))
        · have e3 : sesV (bw, x) = .agg [.str x.name, .rsl bw 8 0 ((List.map encWin ws).length + 1), .int .i64 x.act, .int .i64 x.bef] := by
            unfold sesV
            rw [← hws]
            rfl
          have hLl : ((l0 :: L)).length ≤ 1048576 := by
            have := congrArg List.length hL
            rw [List.length_map, List.length_take] at this
            omega
          have hLn : ((l0 :: L) ++ [(bw, x)]).map Prod.snd = ses.take (i + 1) := by rw [take_snoc_of hx, List.map_append, hL]; rfl
          have hfm : famR ((l0 :: L) ++ [(bw, x)]) = accM bw 8 (((w0 :: ws)).map encWin) ++ famR ((l0 :: L)) := by rw [famR_snoc, hws]
          simp only [List.length_cons, List.length_nil] at hLl
          try have hLm : (List.map sesV L).length = L.length := List.length_map _
          refine g0_ ?_
          refine g1_ ?_
          refine .inl ?_
          (refine g0_ ?_; repeat (refine n2_ fun b_ => ?_; refine g0_ ?_))
          rw [← e3]
          try rw [show ∀ v : PV, (List.map sesV L).length + 1 + [v].length = (List.map sesV (L ++ [(bw, x)])).length + 1 from fun v => by simp]
          try rw [show (sesV l0 :: List.map sesV L) ++ [sesV (bw, x)] = List.map sesV (l0 :: L ++ [(bw, x)]) from by simp]
          refine ⟨(i + 1, b_, (l0 :: L) ++ [(bw, x)]), ⟨hil, hLn⟩, (show ses.length - (i + 1) < ses.length - i by omega), ?_, ?_⟩
          · (repeat (refine wkEnv.cons (by first | rfl | ((conv => lhs; whnf); first | rfl | (congr 1; (try push_cast); omega) | (congr 1; simp; done) | (congr 1; simp; omega) | (simp; done) | (simp [*]; done))) ?_))
            exact wkEnv.nil
          · refine (show wkMem _ (⟨bR, .row 3 [.agg [.nils, .nils, .int .i64 0]] 0⟩ :: ⟨bH, .row 3 [.agg [.sl 4 (ses.map encSes), .sl 3 (views.map encVw), .int .i64 next]] 0⟩ :: (accM b_ 4 (((l0 :: L) ++ [(bw, x)]).map sesV) ++ famR ((l0 :: L) ++ [(bw, x)]))) from ?_)
            rw [hfm]
            (first | exact ⟨_, .refl _⟩ | exact wkMem.rfl' | exact ⟨_, .swap _ _ _⟩ | (repeat (first | exact wkMem.nil _ | exact wkMem.rfl' | exact wk_snoc _ _ _ | exact wk_fam (by assumption) _ _ _ | exact wk_famN (by assumption) _ _ _ | (apply wkMem.cons; (case' hl => (repeat (first | exact .here _ _ _ | apply Look.there)))) | apply wkMem.skip)))
    · have hjl : j < x.wins.length := by omega
      obtain ⟨y, hy⟩ : ∃ y, x.wins[j]? = some y := ⟨_, List.getElem?_eq_getElem hjl⟩
      have hcp := copyT_ok W y.s (hxx y (List.mem_of_getElem? hy)).s
      have e2 : encWin y = .agg [.str y.name, .int .i64 y.s.way, .int .i64 y.s.pane, .int .i64 y.s.size, .sl 4 (encSpls y.s.kids), .int .i64 y.act, .int .i64 y.bef, .bool y.zoom] := rfl
      have hws2 : ws ++ [y] = x.wins.take (j + 1) := by rw [take_snoc_of hy, hws]
      have hwl : ws.length ≤ 1048576 := by rw [hws, List.length_take]; omega
      rw [encSpl_eta] at hcp
      rcases ws with _ | ⟨w0, ws⟩
      · refine g0_ ?_
        (refine g1_ ?_; repeat (refine n1_ fun b_ => ?_; refine g1_ ?_))
        refine (hcp).use ?_; refine g0_ ?_
        refine g0_ ?_
        refine .inl ?_
        (refine g0_ ?_; repeat (refine n1_ fun b_ => ?_; refine g0_ ?_))
        rw [← e2]
        try rw [show ∀ v : PV, (List.map encWin ws).length + 1 + [v].length = (List.map encWin (ws ++ [y])).length + 1 from fun v => by simp]
        try rw [show (encWin w0 :: List.map encWin ws) ++ [encWin y] = List.map encWin (w0 :: ws ++ [y]) from by simp]
        refine nx_ (j + 1, b_, [] ++ [y]) ?_ ?_
        · exact ⟨hjl, hws2⟩
        · ((try dsimp only); (try simp only [List.length_drop, List.length_take, List.length_append, List.length_cons, List.length_nil, List.length_map] at *); omega)
      · rw [List.length_cons] at hwl
        have hwm : (List.map encWin ws).length = ws.length := List.length_map _
        refine g0_ ?_
        (refine g1_ ?_; repeat (refine n1_ fun b_ => ?_; refine g1_ ?_))
        refine (hcp).use ?_; refine g0_ ?_
        refine g0_ ?_
        refine .inl ?_
        (refine g0_ ?_; repeat (refine n2_ fun b_ => ?_; refine g0_ ?_))
        rw [← e2]
        try rw [show ∀ v : PV, (List.map encWin ws).length + 1 + [v].length = (List.map encWin (ws ++ [y])).length + 1 from fun v => by simp]
        try rw [show (encWin w0 :: List.map encWin ws) ++ [encWin y] = List.map encWin (w0 :: ws ++ [y]) from by simp]
        refine nx_ (j + 1, b_, (w0 :: ws) ++ [y]) ?_ ?_
        · exact ⟨hjl, hws2⟩
        · ((try dsimp only); (try simp only [List.length_drop, List.length_take, List.length_append, List.length_cons, List.length_nil, List.length_map] at *); omega)
end Go.Eng.YtkenlcaifhffoaaDoor
end

/- Houses: change, whatever is done (b_ x_ q_ e_). -/
section
namespace Go.Eng
open Go
theorem Frz.consH {σ : Mem} (k : Blk) {p q : PV} (h : Frz σ p q) : Frz (k :: σ) p q := by
  induction h with
  | refl p => exact .refl p
  | nils sz => exact .nils sz
  | rsl b sz i n es es' fz r hl hi hn _ ih => exact .rsl b sz i n es es' fz (k :: r) (.there _ _ _ _ _ hl) hi hn ih
  | byt e b n p _ ih => exact .byt e b n p ih
  | fn f cs cs' hl _ ih => exact .fn f cs cs' hl ih
  | agg cs cs' hl _ ih => exact .agg cs cs' hl ih
  | tup cs cs' hl _ ih => exact .tup cs cs' hl ih
  | bref b f sz e fz r hl => exact .bref b f sz e fz (k :: r) (.there _ _ _ _ _ hl)
end Go.Eng
namespace Go.Eng.YtkenlcaifhffoaaDoor
open Go Go.Eng Go.Proofs
variable (W : World)
set_option linter.unusedSimpArgs false
set_option maxRecDepth 100000
set_option linter.unusedVariables false
set_option maxHeartbeats 8000000
def noHs : Hs := ⟨[], [], 0⟩
def SlV (v : PV) : Prop := v = .nils ∨ (∃ b sz i n, v = .rsl b sz i n) ∨ ∃ sz es, v = .sl sz es
def HsDone (b : Nat) (Y : Hs) (σ : Mem) : Prop := ∃ sv vv ρ, σ.Perm (⟨b, .row 3 [.agg [sv, vv, .int .i64 Y.next]] 0⟩ :: ρ) ∧ SlV sv ∧ SlV vv ∧ Frz ρ sv (.sl 4 (Y.ses.map encSes)) ∧ Frz ρ vv (.sl 3 (Y.views.map encVw))
theorem frz_hs {σ : Mem} {sv vv : PV} {Y : Hs} (h1 : Frz σ sv (.sl 4 (Y.ses.map encSes))) (h2 : Frz σ vv (.sl 3 (Y.views.map encVw))) : Frz σ (.agg [sv, vv, .int .i64 Y.next]) (encHs Y) := by
  refine .agg _ _ rfl fun j hj => ?_
  match j, hj with
  | 0, _ => exact h1
  | 1, _ => exact h2
  | 2, _ => exact .refl _
theorem frz_noHs (σ : Mem) : Frz σ (.agg [.nils, .nils, .int .i64 0]) (encHs noHs) := frz_hs (Y := noHs) (.nils 4) (.nils 3)
theorem changeH_bad (hT : Tabs W) (h : Hs) (hok : h.ok) (hb : chkH h ≠ 0) (g : Nat) (cap : List PV) : Pure Tryd.prog W 28 [encHs h, .fn g cap] (.tup [encHs noHs, .int .i64 (chkH h)]) := by
  have hck := checkH_ok W hT h hok
  generalize chkH h = E at *
  obtain ⟨ses, views, next⟩ := h
  refine Pure.of (acalls_of_vc (drawOk W) Tryd.func28 rfl (by decide) (by decide) rfl ?_)
  (refine g0_ ?_; repeat (refine n1_ fun b_ => ?_; refine g0_ ?_))
  refine (hck).use ?_; refine g0_ ?_
  refine g1_ ?_
  exact frz_tup2 (frz_noHs _) (.refl _)
theorem perm_chg {A z : Blk} {τ M : Mem} : (A :: z :: (τ ++ M)).Perm ((A :: (M ++ τ)) ++ [z]) :=
  List.Perm.cons A ((List.perm_append_comm.cons z).trans (List.perm_append_comm (l₁ := [z])))
theorem changeH_ok (hT : Tabs W) (h : Hs) (hok : h.ok) (hb : chkH h = 0) (g : Nat) (cap : List PV) (τ : Mem) (E : Int) (Y : Hs)
    (hg : ∀ b (x : OH), x.T = h → (x.o = none → x.views = []) → ACalls Tryd.prog W g (.bref b 0 :: cap) (⟨b, .row 3 [x.V] 0⟩ :: (x.M ++ τ)) fun v σ' => v = .int .i64 E ∧ (E = 0 → HsDone b Y σ')) :
    ACalls Tryd.prog W 28 [encHs h, .fn g cap] τ fun v σ' => Frz σ' v (.tup [encHs (if E = 0 then Y else noHs), .int .i64 E]) := by
  have hck := checkH_ok W hT h hok
  have hcp := copyH_ok W h hok
  rw [hb] at hck
  obtain ⟨ses, views, next⟩ := h
  unfold encHs at hck hcp
  dsimp only at hck hcp
  rw [show encHs ⟨ses, views, next⟩ = .agg [.sl 4 (ses.map encSes), .sl 3 (views.map encVw), .int .i64 next] from rfl]
  refine acalls_of_vc (drawOk W) Tryd.func28 rfl (by decide) (by decide) rfl ?_
  (refine g0_ ?_; repeat (refine n1_ fun b_ => ?_; refine g0_ ?_))
  refine (hck).use ?_; refine g0_ ?_
  refine g1_ ?_
  refine ACalls.giveE hcp ?_
  rintro ⟨bs, L, o, vs, nx⟩ ⟨hT2, ho⟩
  rename_i b1
  obtain ⟨bz, rfl⟩ : ∃ z, z = b_ := ⟨_, rfl⟩
  have hg := hg b1 ⟨bs, L, o, vs, nx⟩ hT2 ho
  clear hT2 ho hck hcp
  unfold OH.V OH.M at *
  dsimp only at *
  rcases L with _ | ⟨l0, L⟩
  · rcases o with _ | bo
    · refine g0_ ?_
      rw [forceL_eq]
      refine callV_of ?_
      obtain ⟨z, hz⟩ : ∃ z : Blk, z = ⟨bz, .row 3 [.agg [.nils, .nils, .int .i64 0]] 0⟩ := ⟨_, rfl⟩
      refine ACalls.weak (((hg.frame [z]).perm ?_).mono ?_)
      · subst hz
        exact perm_chg
      rintro v σ' ⟨σ1, ⟨rfl, hd⟩, rfl⟩
      by_cases hE : E = 0
      · obtain ⟨sv, vv, ρ, hp, hs1, hs2, f1, f2⟩ := hd hE
        refine ⟨⟨b1, .row 3 [.agg [sv, vv, .int .i64 Y.next]] 0⟩ :: z :: ρ, ?_, [], ?_⟩
        · subst hz
          subst hE
          rcases hs1 with rfl | ⟨c1, c2, c3, c4, rfl⟩ | ⟨c1, c2, rfl⟩
          all_goals
            rcases hs2 with rfl | ⟨d1, d2, d3, d4, rfl⟩ | ⟨d1, d2, rfl⟩
            all_goals
              refine g0_ ?_
              refine g1_ ?_
              exact frz_tup2 (a' := encHs Y) (frz_hs (Y := Y) (f1.consH _ |>.consH _) (f2.consH _ |>.consH _)) (.refl _)
        · rw [List.append_nil]
          exact (hp.append_right [z]).trans (List.Perm.cons _ (List.perm_append_comm (l₁ := ρ) (l₂ := [z])))
      · refine ⟨[z], ?_, σ1, List.perm_append_comm⟩
        subst hz
        rw [if_neg hE]
        refine g0_ ?_
        refine g1_ ?_
        exact frz_tup2 (frz_noHs _) (.refl _)
    · refine g0_ ?_
      rw [forceL_eq]
      refine callV_of ?_
      obtain ⟨z, hz⟩ : ∃ z : Blk, z = ⟨bz, .row 3 [.agg [.nils, .nils, .int .i64 0]] 0⟩ := ⟨_, rfl⟩
      refine ACalls.weak (((hg.frame [z]).perm ?_).mono ?_)
      · subst hz
        exact perm_chg
      rintro v σ' ⟨σ1, ⟨rfl, hd⟩, rfl⟩
      by_cases hE : E = 0
      · obtain ⟨sv, vv, ρ, hp, hs1, hs2, f1, f2⟩ := hd hE
        refine ⟨⟨b1, .row 3 [.agg [sv, vv, .int .i64 Y.next]] 0⟩ :: z :: ρ, ?_, [], ?_⟩
        · subst hz
          subst hE
          rcases hs1 with rfl | ⟨c1, c2, c3, c4, rfl⟩ | ⟨c1, c2, rfl⟩
          all_goals
            rcases hs2 with rfl | ⟨d1, d2, d3, d4, rfl⟩ | ⟨d1, d2, rfl⟩
            all_goals
              refine g0_ ?_
              refine g1_ ?_
              exact frz_tup2 (a' := encHs Y) (frz_hs (Y := Y) (f1.consH _ |>.consH _) (f2.consH _ |>.consH _)) (.refl _)
        · rw [List.append_nil]
          exact (hp.append_right [z]).trans (List.Perm.cons _ (List.perm_append_comm (l₁ := ρ) (l₂ := [z])))
      · refine ⟨[z], ?_, σ1, List.perm_append_comm⟩
        subst hz
        rw [if_neg hE]
        refine g0_ ?_
        refine g1_ ?_
        exact frz_tup2 (frz_noHs _) (.refl _)
  · rcases o with _ | bo
    · refine g0_ ?_
      rw [forceL_eq]
      refine callV_of ?_
      obtain ⟨z, hz⟩ : ∃ z : Blk, z = ⟨bz, .row 3 [.agg [.nils, .nils, .int .i64 0]] 0⟩ := ⟨_, rfl⟩
      refine ACalls.weak (((hg.frame [z]).perm ?_).mono ?_)
      · subst hz
        exact perm_chg
      rintro v σ' ⟨σ1, ⟨rfl, hd⟩, rfl⟩
      by_cases hE : E = 0
      · obtain ⟨sv, vv, ρ, hp, hs1, hs2, f1, f2⟩ := hd hE
        refine ⟨⟨b1, .row 3 [.agg [sv, vv, .int .i64 Y.next]] 0⟩ :: z :: ρ, ?_, [], ?_⟩
        · subst hz
          subst hE
          rcases hs1 with rfl | ⟨c1, c2, c3, c4, rfl⟩ | ⟨c1, c2, rfl⟩
          all_goals
            rcases hs2 with rfl | ⟨d1, d2, d3, d4, rfl⟩ | ⟨d1, d2, rfl⟩
            all_goals
              refine g0_ ?_
              refine g1_ ?_
              exact frz_tup2 (a' := encHs Y) (frz_hs (Y := Y) (f1.consH _ |>.consH _) (f2.consH _ |>.consH _)) (.refl _)
        · rw [List.append_nil]
          exact (hp.append_right [z]).trans (List.Perm.cons _ (List.perm_append_comm (l₁ := ρ) (l₂ := [z])))
      · refine ⟨[z], ?_, σ1, List.perm_append_comm⟩
        subst hz
        rw [if_neg hE]
        refine g0_ ?_
        refine g1_ ?_
        exact frz_tup2 (frz_noHs _) (.refl _)
    · refine g0_ ?_
      rw [forceL_eq]
      refine callV_of ?_
      obtain ⟨z, hz⟩ : ∃ z : Blk, z = ⟨bz, .row 3 [.agg [.nils, .nils, .int .i64 0]] 0⟩ := ⟨_, rfl⟩
      refine ACalls.weak (((hg.frame [z]).perm ?_).mono ?_)
      · subst hz
        exact perm_chg
      rintro v σ' ⟨σ1, ⟨rfl, hd⟩, rfl⟩
      by_cases hE : E = 0
      · obtain ⟨sv, vv, ρ, hp, hs1, hs2, f1, f2⟩ := hd hE
        refine ⟨⟨b1, .row 3 [.agg [sv, vv, .int .i64 Y.next]] 0⟩ :: z :: ρ, ?_, [], ?_⟩
        · subst hz
          subst hE
          rcases hs1 with rfl | ⟨c1, c2, c3, c4, rfl⟩ | ⟨c1, c2, rfl⟩
          all_goals
            rcases hs2 with rfl | ⟨d1, d2, d3, d4, rfl⟩ | ⟨d1, d2, rfl⟩
            all_goals
              refine g0_ ?_
              refine g1_ ?_
              exact frz_tup2 (a' := encHs Y) (frz_hs (Y := Y) (f1.consH _ |>.consH _) (f2.consH _ |>.consH _)) (.refl _)
        · rw [List.append_nil]
          exact (hp.append_right [z]).trans (List.Perm.cons _ (List.perm_append_comm (l₁ := ρ) (l₂ := [z])))
      · refine ⟨[z], ?_, σ1, List.perm_append_comm⟩
        subst hz
        rw [if_neg hE]
        refine g0_ ?_
        refine g1_ ?_
        exact frz_tup2 (frz_noHs _) (.refl _)
end Go.Eng.YtkenlcaifhffoaaDoor
end
