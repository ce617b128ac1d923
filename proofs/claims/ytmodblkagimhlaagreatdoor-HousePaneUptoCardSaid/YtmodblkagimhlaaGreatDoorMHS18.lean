/- Texts put together: Hs15, Hs16. -/
import Derived.Test.YtmodblkagimhlaaGreatDoorMHS17
import Derived.Test.YtmodblkagimhlaaGreatDoorMSI
import Derived.Test.YtmodblkagimhlaaGreatDoorMHS7
/- Houses: a window cut, in the document (b_ x_ q_ e_). -/
section
namespace Go.Eng.YtmodblkagimhlaaGreatDoor
open Go Go.Eng Go.Proofs
variable (W : World)
set_option linter.unusedSimpArgs false
set_option maxRecDepth 100000
set_option linter.unusedVariables false
set_option maxHeartbeats 8000000
def ctE (w : Win) (way next : Int) : Int := if way ≠ 1 ∧ way ≠ 2 then 4 else if 12 ≤ (panesT w.s).length then 10 else if next = 9999 then 10 else 0
theorem cut3_ok (pane way next : Int) (w : Win) (hwo : w.ok) (hwr : WinR next w) (hn : 1 ≤ next ∧ next ≤ 9999) :
    WinTo W 11 [.ip (.int .i64 way) 0, .ip (.int .i64 pane) 0] (ctE w way next) next (next + 1) w ⟨w.name, cutT pane way next w.s, next, w.act, false⟩ := by
  intro b bw k ws sv vv hb
  have hkl := lt_of_at hb
  have hpn := checkR_ok W w.s hwo.s
  have hv := hwr.vis
  rw [chk_eq] at hv
  rw [chk_panes hv, hv, encSpl_eta] at hpn
  have h12 := (winT_of hwr).2
  have hpl : (panesV (panesT w.s)).length = (panesT w.s).length := panesV_len _
  unfold ctE
  by_cases h1 : way ≠ 1 ∧ way ≠ 2
  · rw [if_pos h1]
    obtain ⟨h1, h2⟩ := h1
    refine acalls_of_vc (DL_ok (by decide)) Tryz.func11 rfl (by decide) (by decide) rfl ?_
    (refine g0_ ?_; repeat (refine Elem1.mk fun e_ he_ => ?_; refine g0_ ?_))
    (repeat ((first | obtain rfl := Option.some.inj (hb.symm.trans he_) | obtain rfl := Option.some.inj ((set_at hb _).symm.trans he_) | obtain rfl := Option.some.inj ((set_at (set_at hb _) _).symm.trans he_) | obtain rfl := Option.some.inj ((set_at (set_at (set_at hb _) _) _).symm.trans he_)); clear he_; refine g0_ ?_))
    refine (hpn).use ?_; refine g0_ ?_
    refine g1_ ?_
    exact ⟨rfl, fun h => by cases h⟩
  rw [if_neg h1]
  have h1' : way = 1 ∨ way = 2 := by omega
  by_cases h3 : 12 ≤ (panesT w.s).length
  · rw [if_pos h3]
    rcases h1' with h1' | h1'
    · refine acalls_of_vc (DL_ok (by decide)) Tryz.func11 rfl (by decide) (by decide) rfl ?_
      (refine g0_ ?_; repeat (refine Elem1.mk fun e_ he_ => ?_; refine g0_ ?_))
      (repeat ((first | obtain rfl := Option.some.inj (hb.symm.trans he_) | obtain rfl := Option.some.inj ((set_at hb _).symm.trans he_) | obtain rfl := Option.some.inj ((set_at (set_at hb _) _).symm.trans he_) | obtain rfl := Option.some.inj ((set_at (set_at (set_at hb _) _) _).symm.trans he_)); clear he_; refine g0_ ?_))
      refine (hpn).use ?_; refine g0_ ?_
      refine g1_ ?_
      exact ⟨rfl, fun h => by cases h⟩
    · refine acalls_of_vc (DL_ok (by decide)) Tryz.func11 rfl (by decide) (by decide) rfl ?_
      (refine g0_ ?_; repeat (refine Elem1.mk fun e_ he_ => ?_; refine g0_ ?_))
      (repeat ((first | obtain rfl := Option.some.inj (hb.symm.trans he_) | obtain rfl := Option.some.inj ((set_at hb _).symm.trans he_) | obtain rfl := Option.some.inj ((set_at (set_at hb _) _).symm.trans he_) | obtain rfl := Option.some.inj ((set_at (set_at (set_at hb _) _) _).symm.trans he_)); clear he_; refine g0_ ?_))
      refine (hpn).use ?_; refine g0_ ?_
      refine g1_ ?_
      exact ⟨rfl, fun h => by cases h⟩
  rw [if_neg h3]
  by_cases h4 : next = 9999
  · rw [if_pos h4]
    subst h4
    rcases h1' with h1' | h1'
    all_goals
      refine acalls_of_vc (DL_ok (by decide)) Tryz.func11 rfl (by decide) (by decide) rfl ?_
      (refine g0_ ?_; repeat (refine Elem1.mk fun e_ he_ => ?_; refine g0_ ?_))
      (repeat ((first | obtain rfl := Option.some.inj (hb.symm.trans he_) | obtain rfl := Option.some.inj ((set_at hb _).symm.trans he_) | obtain rfl := Option.some.inj ((set_at (set_at hb _) _).symm.trans he_) | obtain rfl := Option.some.inj ((set_at (set_at (set_at hb _) _) _).symm.trans he_)); clear he_; refine g0_ ?_))
      refine (hpn).use ?_; refine g0_ ?_
      refine g1_ ?_
      refine ACalls.lend1 (freshR_fullW W b _ _) (by repeat (first | exact .here _ _ _ | apply Look.there)) ?_
      rintro _ -
      refine g0_ ?_
      have hcut := splCut_ok W pane way 0 w.s 0 (winT_of hwr).1 (winT_of hwr).2
      generalize cutT pane way 0 w.s = S at *
      rw [encSpl_eta, encSpl_eta S] at hcut
      refine Draws10.chain ⟨12, [.new, .new, .new, .new, .new, .new, .new, .new, .new, .new, .new, .turn], [(11, [.keep, .keep, .keep, .keep, .keep, .keep, .keep, .keep, .keep, .keep, .keep, .keep])], by decide +kernel, ?_⟩; (refine g0_ ?_; repeat (refine Elem1.mk fun e_ he_ => ?_; refine g0_ ?_))
      (repeat ((first | obtain rfl := Option.some.inj (hb.symm.trans he_) | obtain rfl := Option.some.inj ((set_at hb _).symm.trans he_) | obtain rfl := Option.some.inj ((set_at (set_at hb _) _).symm.trans he_) | obtain rfl := Option.some.inj ((set_at (set_at (set_at hb _) _) _).symm.trans he_)); clear he_; refine g0_ ?_))
      refine ⟨_, (hcut).quiet, ?_⟩; (refine g0_ ?_; repeat (refine Elem1.mk fun e_ he_ => ?_; refine g0_ ?_))
      (repeat ((first | obtain rfl := Option.some.inj (hb.symm.trans he_) | obtain rfl := Option.some.inj ((set_at hb _).symm.trans he_) | obtain rfl := Option.some.inj ((set_at (set_at hb _) _).symm.trans he_) | obtain rfl := Option.some.inj ((set_at (set_at (set_at hb _) _) _).symm.trans he_)); clear he_; (refine g0_ ?_; repeat (refine Elem1.mk fun e_ he_ => ?_; refine g0_ ?_))))
      refine ACalls.lend1 (actR_ok W bw _ k ⟨w.name, S, w.act, w.bef, false⟩ 0 (set_at (set_at hb _) _)) (by repeat (first | exact .here _ _ _ | apply Look.there)) ?_
      rintro _ -
      refine g0_ ?_
      exact ⟨rfl, fun h => by cases h⟩
  rw [if_neg h4]
  rcases h1' with h1' | h1'
  all_goals
    refine acalls_of_vc (DL_ok (by decide)) Tryz.func11 rfl (by decide) (by decide) rfl ?_
    (refine g0_ ?_; repeat (refine Elem1.mk fun e_ he_ => ?_; refine g0_ ?_))
    (repeat ((first | obtain rfl := Option.some.inj (hb.symm.trans he_) | obtain rfl := Option.some.inj ((set_at hb _).symm.trans he_) | obtain rfl := Option.some.inj ((set_at (set_at hb _) _).symm.trans he_) | obtain rfl := Option.some.inj ((set_at (set_at (set_at hb _) _) _).symm.trans he_)); clear he_; refine g0_ ?_))
    refine (hpn).use ?_; refine g0_ ?_
    refine g1_ ?_
    refine ACalls.lend1 (freshR_okW W b _ _ next (by omega)) (by repeat (first | exact .here _ _ _ | apply Look.there)) ?_
    rintro _ -
    refine g0_ ?_
    have hcut := splCut_ok W pane way next w.s 0 (winT_of hwr).1 (winT_of hwr).2
    generalize cutT pane way next w.s = S at *
    rw [encSpl_eta, encSpl_eta S] at hcut
    refine Draws10.chain ⟨12, [.new, .new, .new, .new, .new, .new, .new, .new, .new, .new, .new, .turn], [(11, [.keep, .keep, .keep, .keep, .keep, .keep, .keep, .keep, .keep, .keep, .keep, .keep])], by decide +kernel, ?_⟩; (refine g0_ ?_; repeat (refine Elem1.mk fun e_ he_ => ?_; refine g0_ ?_))
    (repeat ((first | obtain rfl := Option.some.inj (hb.symm.trans he_) | obtain rfl := Option.some.inj ((set_at hb _).symm.trans he_) | obtain rfl := Option.some.inj ((set_at (set_at hb _) _).symm.trans he_) | obtain rfl := Option.some.inj ((set_at (set_at (set_at hb _) _) _).symm.trans he_)); clear he_; refine g0_ ?_))
    refine ⟨_, (hcut).quiet, ?_⟩; (refine g0_ ?_; repeat (refine Elem1.mk fun e_ he_ => ?_; refine g0_ ?_))
    (repeat ((first | obtain rfl := Option.some.inj (hb.symm.trans he_) | obtain rfl := Option.some.inj ((set_at hb _).symm.trans he_) | obtain rfl := Option.some.inj ((set_at (set_at hb _) _).symm.trans he_) | obtain rfl := Option.some.inj ((set_at (set_at (set_at hb _) _) _).symm.trans he_)); clear he_; (refine g0_ ?_; repeat (refine Elem1.mk fun e_ he_ => ?_; refine g0_ ?_))))
    have hac := fun ws' hb' => actR_ok W bw ws' k ⟨w.name, S, w.act, w.bef, false⟩ next hb'
    rw [show actR next ⟨w.name, S, w.act, w.bef, false⟩ = ⟨w.name, S, next, w.act, false⟩ from if_neg (by have := hwr.lt _ hwr.act; dsimp only; omega)] at hac
    refine ACalls.lend1 (hac _ (set_at (set_at hb _) _)) (by repeat (first | exact .here _ _ _ | apply Look.there)) ?_
    rintro _ -
    refine g0_ ?_
    refine ⟨rfl, fun _ => ?_⟩
    rw [List.set_set, List.set_set]
    (first | exact ⟨_, .refl _⟩ | exact wkMem.rfl' | exact ⟨_, .swap _ _ _⟩ | (repeat (first | exact wkMem.nil _ | exact wkMem.rfl' | exact wk_snoc _ _ _ | exact wk_fam (by assumption) _ _ _ | exact wk_famN (by assumption) _ _ _ | (apply wkMem.cons; (case' hl => (repeat (first | exact .here _ _ _ | apply Look.there)))) | apply wkMem.skip)))
end Go.Eng.YtmodblkagimhlaaGreatDoor
end

/- The law HousePane (b_ x_ q_ e_). -/
section
namespace Go.Eng.YtmodblkagimhlaaGreatDoor
open Go Go.Eng Go.Proofs
variable (W : World)
set_option linter.unusedSimpArgs false
set_option maxRecDepth 100000
set_option linter.unusedVariables false
set_option maxHeartbeats 8000000
theorem cutR_right {w : Win} {next pane way : Int} (hwr : WinR next w) (hp : pane ∈ panesT w.s) (hn : 1 ≤ next ∧ next ≤ 9999) : cutR w.s pane way next = if way ≠ 1 ∧ way ≠ 2 then (zeroT, 4) else if (panesT w.s).length = 12 then (zeroT, 10) else (cutT pane way next w.s, 0) := by
  unfold cutR
  rw [if_neg (by rw [hwr.vis]; decide), if_neg (by simpa using hp)]
  by_cases h1 : way ≠ 1 ∧ way ≠ 2
  · rw [if_pos (.inl h1), if_pos h1]
  · rw [if_neg (by omega), if_neg h1, if_neg (fun hm => by have := hwr.lt _ hm; omega)]
theorem winAt_of {h : Hs} (h0 : chkH h = 0) {pane : Int} {i k : Nat} {w : Win} (hps : posS h.ses pane = some (i, k)) (hwa : winAt h.ses i k = some w) : ∃ s, s ∈ h.ses ∧ h.ses[i]? = some s ∧ w ∈ s.wins ∧ WinR h.next w ∧ pane ∈ panesT w.s := by
  obtain ⟨s, w1, hs, hw, hp, -, -⟩ := posS_some hps
  rw [winAt, hs] at hwa
  obtain rfl : w1 = w := Option.some.inj (hw.symm.trans hwa)
  exact ⟨s, List.mem_of_getElem? hs, hs, List.mem_of_getElem? hw, (right_win h0 s (List.mem_of_getElem? hs)).win _ (List.mem_of_getElem? hw), hp⟩
theorem setW_ok {l : List Ses} (hl : ∀ s ∈ l, s.ok) (i k : Nat) (w : Win) (hw : w.ok) : ∀ s ∈ setW l i k w, s.ok := by
  intro s hs
  unfold setW at hs
  split at hs
  · rename_i s0 h0
    rcases List.mem_or_eq_of_mem_set hs with hs | rfl
    · exact hl s hs
    · have ho := hl s0 (List.mem_of_getElem? h0)
      refine ⟨ho.name, by (show (s0.wins.set k w).length ≤ _); rw [List.length_set]; exact ho.wins, fun y hy => ?_, ho.act, ho.bef⟩
      rcases List.mem_or_eq_of_mem_set hy with hy | rfl
      · exact ho.win y hy
      · exact hw
  · exact hl s hs
theorem setW_len (l : List Ses) (i k : Nat) (w : Win) : (setW l i k w).length = l.length := by
  unfold setW
  split
  · rw [List.length_set]
  · rfl
theorem onW_ok {h : Hs} (hok : h.ok) (f : Win → Win) (hf : ∀ w, w.ok → (f w).ok) (pane : Int) : (onW f h pane).ok := by
  unfold onW
  split
  · exact hok
  · split
    · exact hok
    · rename_i i k _ _ w hw
      have hwo : w.ok := by
        unfold winAt at hw
        obtain ⟨s, hs, hw⟩ := Option.bind_eq_some_iff.1 hw
        exact (hok.se s (List.mem_of_getElem? hs)).win w (List.mem_of_getElem? hw)
      exact ⟨by (show (setW _ _ _ _).length ≤ _); rw [setW_len]; exact hok.ses, setW_ok hok.se _ _ _ (hf w hwo), hok.views, hok.view, hok.next⟩
theorem cutY_ok {h : Hs} (hok : h.ok) (h0 : chkH h = 0) (pane way : Int) (hpa : i64ok pane) (hwa : i64ok way) (hE : cutE h pane way = 0) : (cutY h pane way).ok := by
  obtain ⟨h1, h2, h3, h4, -, -⟩ := right_ses h0
  have hnx : i64ok h.next := ⟨by omega, by omega⟩
  unfold cutE at hE
  unfold cutY
  cases hps : posS h.ses pane with
  | none => exact hok
  | some y =>
    obtain ⟨i, k⟩ := y
    rw [hps] at hE
    dsimp only at hE ⊢
    cases hw : winAt h.ses i k with
    | none => exact hok
    | some w =>
      rw [hw] at hE
      dsimp only at hE ⊢
      obtain ⟨s, hs, -, hws, hwr, hp⟩ := winAt_of h0 hps hw
      have hwo := (hok.se s hs).win w hws
      have hct : (cutR w.s pane way h.next).1 = cutT pane way h.next w.s := by
        rw [cutR_right hwr hp ⟨h3, h4⟩] at hE ⊢
        split
        · rename_i g; rw [if_pos g] at hE; exact absurd hE (by simp)
        · rename_i g
          rw [if_neg g] at hE
          split
          · rename_i g2; rw [if_pos g2] at hE; exact absurd hE (by simp)
          · rfl
      rw [hct]
      have hcn : cntT w.s ≤ 1000 := by have := cnt_right w.s 0 (winT_of hwr).1; have := (winT_of hwr).2; omega
      refine ⟨by (show (setW _ _ _ _).length ≤ _); rw [setW_len]; exact hok.ses, setW_ok hok.se _ _ _ ⟨hwo.name, cut_okT hpa hwa hnx w.s hcn hwo.s, hnx, hwo.act⟩, hok.views, hok.view, ⟨by (show _ ≤ h.next + 1); omega, by (show h.next + 1 ≤ _); omega⟩⟩
theorem cutWith_ok (hT : Tabs W) (h : Hs) (hok : h.ok) (h0 : chkH h = 0) (pane way : Int) : DoesTo W 6 [.ip (.int .i64 pane) 0, .ip (.fn 11 [.ip (.int .i64 way) 0, .ip (.int .i64 pane) 0]) 0] h (cutY h pane way) (cutE h pane way) := by
  obtain ⟨h1, h2, h3, h4, -, -⟩ := right_ses h0
  refine withH_ok W h hok h0 pane _ _ _ _ (fun hn => by unfold cutE; rw [hn]) fun i k w hps hwa => ?_
  obtain ⟨s, hs, -, hws, hwr, hp⟩ := winAt_of h0 hps hwa
  have hwo := (hok.se s hs).win w hws
  have hcr := cutR_right (way := way) hwr hp ⟨h3, h4⟩
  have h12 := (winT_of hwr).2
  have hE : cutE h pane way = ctE w way h.next := by
    unfold cutE ctE
    rw [hps]
    dsimp only
    rw [hwa]
    dsimp only
    rw [hcr]
    by_cases g1 : way ≠ 1 ∧ way ≠ 2
    · rw [if_pos g1, if_pos g1]; rfl
    · rw [if_neg g1, if_neg g1]
      by_cases g2 : (panesT w.s).length = 12
      · rw [if_pos g2, if_pos (show 12 ≤ (panesT w.s).length by omega)]; rfl
      · rw [if_neg g2, if_neg (show ¬ 12 ≤ (panesT w.s).length by omega)]; rfl
  refine ⟨h.next + 1, ⟨w.name, cutT pane way h.next w.s, h.next, w.act, false⟩, ?_, fun hz => ?_⟩
  · rw [hE]
    exact cut3_ok W pane way h.next w hwo hwr ⟨h3, h4⟩
  · rw [hE] at hz
    unfold cutY
    rw [hps]
    dsimp only
    rw [hwa]
    dsimp only
    unfold ctE at hz
    by_cases g1 : way ≠ 1 ∧ way ≠ 2
    · rw [if_pos g1] at hz; exact absurd hz (by decide)
    · rw [if_neg g1] at hz
      by_cases g2 : 12 ≤ (panesT w.s).length
      · rw [if_pos g2] at hz; exact absurd hz (by decide)
      · rw [hcr, if_neg g1, if_neg (by omega)]
theorem onWith_ok (h : Hs) (hok : h.ok) (h0 : chkH h = 0) (pane : Int) (g : FuncId) (c : List PV) (f : Win → Win) (hg : ∀ next w, WinTo W g c 0 next next w (f w)) : DoesTo W 6 [.ip (.int .i64 pane) 0, .ip (.fn g c) 0] h (onW f h pane) (onE h pane) := by
  refine withH_ok W h hok h0 pane _ _ _ _ (fun hn => if_pos hn) fun i k w hps hwa => ?_
  have hE : onE h pane = 0 := by unfold onE; rw [hps]; exact if_neg (by simp)
  rw [hE]
  refine ⟨h.next, f w, hg _ _, fun _ => ?_⟩
  unfold onW
  rw [hps]
  dsimp only
  rw [hwa]
theorem pane2_ok (hT : Tabs W) (h : Hs) (hok : h.ok) (pane way : Int) : Pure Tryz.prog W 9 [encHs h, .ip (.int .i64 pane) 0, .ip (.int .i64 way) 0] (.tup [encHs (chgR h (cutE h pane way) (cutY h pane way)).1, .int .i64 (chgR h (cutE h pane way) (cutY h pane way)).2]) := by
  have hs := cutHP_ok W hT h hok pane way
  generalize chgR h (cutE h pane way) (cutY h pane way) = R at *
  obtain ⟨X, E⟩ := R
  dsimp only at *
  rw [encHs_mk h, encHs_mk X] at *
  refine Pure.of (acalls_of_vc (drawOk W) Tryz.func9 rfl (by decide) (by decide) rfl ?_)
  (refine g0_ ?_; repeat (refine n1_ fun b_ => ?_; refine g0_ ?_))
  refine (hs).use ?_; refine g0_ ?_
  exact .refl _
theorem pane4_ok (hT : Tabs W) (h : Hs) (hok : h.ok) (pane : Int) : Pure Tryz.prog W 16 [encHs h, .ip (.int .i64 pane) 0] (.tup [encHs (chgR h (onE h pane) (onW (pickW pane) h pane)).1, .int .i64 (chgR h (onE h pane) (onW (pickW pane) h pane)).2]) := by
  have hs := hpickP_ok W hT h hok pane
  generalize chgR h (onE h pane) (onW (pickW pane) h pane) = R at *
  obtain ⟨X, E⟩ := R
  dsimp only at *
  rw [encHs_mk h, encHs_mk X] at *
  refine Pure.of (acalls_of_vc (drawOk W) Tryz.func16 rfl (by decide) (by decide) rfl ?_)
  (refine g0_ ?_; repeat (refine n1_ fun b_ => ?_; refine g0_ ?_))
  refine (hs).use ?_; refine g0_ ?_
  exact .refl _
theorem pane6_ok (hT : Tabs W) (h : Hs) (hok : h.ok) (pane : Int) : Pure Tryz.prog W 19 [encHs h, .ip (.int .i64 pane) 0] (.tup [encHs (chgR h (onE h pane) (onW (zoomW pane) h pane)).1, .int .i64 (chgR h (onE h pane) (onW (zoomW pane) h pane)).2]) := by
  have hs := hzoomP_ok W hT h hok pane
  generalize chgR h (onE h pane) (onW (zoomW pane) h pane) = R at *
  obtain ⟨X, E⟩ := R
  dsimp only at *
  rw [encHs_mk h, encHs_mk X] at *
  refine Pure.of (acalls_of_vc (drawOk W) Tryz.func19 rfl (by decide) (by decide) rfl ?_)
  (refine g0_ ?_; repeat (refine n1_ fun b_ => ?_; refine g0_ ?_))
  refine (hs).use ?_; refine g0_ ?_
  exact .refl _
theorem pane1_ok (g : FuncId) (cs : List PV) (bp : Nat) : ACalls Tryz.prog W 5 [.fn g cs, .bref bp 0] [] (Gives (fun bd : Nat => .fn 6 [.bref bp 0, .bref bd 0]) (fun bd => [⟨bd, .row 1 [.fn g cs] 0⟩]) (fun _ => True)) := by
  refine acalls_of_vc (DL_ok (by decide)) Tryz.func5 rfl (by decide) (by decide) rfl ?_
  (refine g0_ ?_; repeat (refine n1_ fun b_ => ?_; refine g0_ ?_))
  exact ⟨_, trivial, rfl, wkMem.rfl'⟩
theorem pickW_ok {pane : Int} (hp : i64ok pane) (w : Win) (hw : w.ok) : (pickW pane w).ok := by
  unfold pickW
  split
  · exact hw
  · exact ⟨hw.name, hw.s, hp, hw.act⟩
theorem zoomW_ok {pane : Int} (hp : i64ok pane) (w : Win) (hw : w.ok) : (zoomW pane w).ok := by
  refine ⟨hw.name, hw.s, hp, ?_⟩
  show i64ok (if w.act = pane then w.bef else w.act)
  split
  · exact hw.bef
  · exact hw.act
theorem housePane_ok (hT : Tabs W) (h : Hs) (hok : h.ok) (pane : Int) (hpa : i64ok pane) (way : Int) (hwa : i64ok way) : Pure Tryz.prog W 3 [encHs h, .int .i64 pane, .int .i64 way] (.bool true) := by
  have hh1 := houses_ok W hT h hok 9 6 [.ip (.int .i64 pane) 0, .ip (.int .i64 way) 0] [.ip (.int .i64 pane) 0, .ip (.fn 11 [.ip (.int .i64 way) 0, .ip (.int .i64 pane) 0]) 0] (cutY h pane way) (cutE h pane way)
    (fun h0 hE => cutY_ok hok h0 pane way hpa hwa hE) (pane2_ok W hT h hok pane way) (fun h0 => cutWith_ok W hT h hok h0 pane way)
  have hh2 := houses_ok W hT h hok 16 6 [.ip (.int .i64 pane) 0] [.ip (.int .i64 pane) 0, .ip (.fn 18 [.ip (.int .i64 pane) 0]) 0] (onW (pickW pane) h pane) (onE h pane)
    (fun h0 _ => onW_ok hok _ (pickW_ok hpa) pane) (pane4_ok W hT h hok pane) (fun h0 => onWith_ok W h hok h0 pane _ _ _ fun next w => pick5_ok W pane next w)
  have hh3 := houses_ok W hT h hok 19 6 [.ip (.int .i64 pane) 0] [.ip (.int .i64 pane) 0, .ip (.fn 21 [.ip (.int .i64 pane) 0]) 0] (onW (zoomW pane) h pane) (onE h pane)
    (fun h0 _ => onW_ok hok _ (zoomW_ok hpa) pane) (pane6_ok W hT h hok pane) (fun h0 => onWith_ok W h hok h0 pane _ _ _ fun next w => zoom7_ok W pane next w)
  rw [encHs_mk h] at *
  refine Pure.of (acalls_of_vc (DL_ok (by decide)) Tryz.func3 rfl (by decide) (by decide) rfl ?_)
  (refine g0_ ?_; repeat (refine n1_ fun b_ => ?_; refine g0_ ?_))
  rename_i bh bp
  obtain ⟨bw, rfl⟩ : ∃ z, z = b_ := ⟨_, rfl⟩
  refine Draws10.chain ⟨5, [.new, .new, .new, .new, .turn], [(4, [.again, .again, .keep, .keep, .keep])], by decide +kernel, ?_⟩; refine g0_ ?_
  refine ACalls.give (pane1_ok W _ _ _) ?_
  rintro bd1 -
  refine g0_ ?_
  refine hh1.borrowS (args' := [PV.agg [.sl 4 (h.ses.map encSes), .sl 3 (h.views.map encVw), .int .i64 h.next], .fn 9 [.ip (.int .i64 pane) 0, .ip (.int .i64 way) 0], .fn 6 [.ip (.int .i64 pane) 0, .ip (.fn 11 [.ip (.int .i64 way) 0, .ip (.int .i64 pane) 0]) 0]]) rfl rfl (fun j hj => ?_) ?_
  · match j, hj with
    | 0, _ => exact .of (.refl _)
    | 1, _ => exact .fn _ rfl fun j hj => (by match j, hj with | 0, _ => exact .of (.bref _ _ _ _ _ _ (by repeat (first | exact .here _ _ _ | apply Look.there))) | 1, _ => exact .of (.bref _ _ _ _ _ _ (by repeat (first | exact .here _ _ _ | apply Look.there))))
    | 2, _ =>
      refine .fn _ rfl fun j hj => ?_
      match j, hj with
      | 0, _ => exact .of (.bref _ _ _ _ _ _ (by repeat (first | exact .here _ _ _ | apply Look.there)))
      | 1, _ =>
        refine FrzS.clo (cs := [.bref bw 0, .bref bp 0]) (fz := 0) ?_ rfl fun j hj => ?_
        · exact ⟨_, by repeat (first | exact .here _ _ _ | apply Look.there)⟩
        · match j, hj with
          | 0, _ => exact .of (.bref _ _ _ _ _ _ (by repeat (first | exact .here _ _ _ | apply Look.there)))
          | 1, _ => exact .of (.bref _ _ _ _ _ _ (by repeat (first | exact .here _ _ _ | apply Look.there)))
  refine g0_ ?_
  refine Draws10.chain ⟨5, [.new, .new, .new, .new, .turn], [(4, [.again, .again, .keep, .keep, .keep])], by decide +kernel, ?_⟩; refine g0_ ?_
  refine ACalls.give (pane1_ok W _ _ _) ?_
  rintro bd2 -
  refine g0_ ?_
  refine hh2.borrowS (args' := [PV.agg [.sl 4 (h.ses.map encSes), .sl 3 (h.views.map encVw), .int .i64 h.next], .fn 16 [.ip (.int .i64 pane) 0], .fn 6 [.ip (.int .i64 pane) 0, .ip (.fn 18 [.ip (.int .i64 pane) 0]) 0]]) rfl rfl (fun j hj => ?_) ?_
  · match j, hj with
    | 0, _ => exact .of (.refl _)
    | 1, _ => exact .fn _ rfl fun j hj => (by match j, hj with | 0, _ => exact .of (.bref _ _ _ _ _ _ (by repeat (first | exact .here _ _ _ | apply Look.there))))
    | 2, _ =>
      refine .fn _ rfl fun j hj => ?_
      match j, hj with
      | 0, _ => exact .of (.bref _ _ _ _ _ _ (by repeat (first | exact .here _ _ _ | apply Look.there)))
      | 1, _ =>
        refine FrzS.clo (cs := [.bref bp 0]) (fz := 0) ?_ rfl fun j hj => ?_
        · exact ⟨_, by repeat (first | exact .here _ _ _ | apply Look.there)⟩
        · match j, hj with
          | 0, _ => exact .of (.bref _ _ _ _ _ _ (by repeat (first | exact .here _ _ _ | apply Look.there)))
  refine g0_ ?_
  refine Draws10.chain ⟨5, [.new, .new, .new, .new, .turn], [(4, [.again, .again, .keep, .keep, .keep])], by decide +kernel, ?_⟩; refine g0_ ?_
  refine ACalls.give (pane1_ok W _ _ _) ?_
  rintro bd3 -
  refine g0_ ?_
  refine hh3.borrowS (args' := [PV.agg [.sl 4 (h.ses.map encSes), .sl 3 (h.views.map encVw), .int .i64 h.next], .fn 19 [.ip (.int .i64 pane) 0], .fn 6 [.ip (.int .i64 pane) 0, .ip (.fn 21 [.ip (.int .i64 pane) 0]) 0]]) rfl rfl (fun j hj => ?_) ?_
  · match j, hj with
    | 0, _ => exact .of (.refl _)
    | 1, _ => exact .fn _ rfl fun j hj => (by match j, hj with | 0, _ => exact .of (.bref _ _ _ _ _ _ (by repeat (first | exact .here _ _ _ | apply Look.there))))
    | 2, _ =>
      refine .fn _ rfl fun j hj => ?_
      match j, hj with
      | 0, _ => exact .of (.bref _ _ _ _ _ _ (by repeat (first | exact .here _ _ _ | apply Look.there)))
      | 1, _ =>
        refine FrzS.clo (cs := [.bref bp 0]) (fz := 0) ?_ rfl fun j hj => ?_
        · exact ⟨_, by repeat (first | exact .here _ _ _ | apply Look.there)⟩
        · match j, hj with
          | 0, _ => exact .of (.bref _ _ _ _ _ _ (by repeat (first | exact .here _ _ _ | apply Look.there)))
  refine g0_ ?_
  refine g1_ ?_
  exact .of_eq (by simp)
end Go.Eng.YtmodblkagimhlaaGreatDoor
end
