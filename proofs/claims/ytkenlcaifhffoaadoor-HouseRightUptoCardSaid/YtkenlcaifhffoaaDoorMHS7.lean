/- Texts put together: HseJ, HseK, HseM. -/
import Derived.Test.YtkenlcaifhffoaaDoorMHS6
import Derived.Test.YtkenlcaifhffoaaDoorMSI
import Derived.Test.YtkenlcaifhffoaaDoorME3
/- Houses: package house's Cut; a pane closed, where others stay (b_ x_ q_ e_). -/
section
namespace Go.Eng.YtkenlcaifhffoaaDoor
open Go Go.Eng Go.Proofs
variable (W : World)
set_option linter.unusedSimpArgs false
set_option maxRecDepth 100000
set_option linter.unusedVariables false
set_option maxHeartbeats 8000000
theorem cutHP_ok (hT : Tabs W) (h : Hs) (hok : h.ok) (pane way : Int) :
    Pure Tryd.prog W 13 [encHs h, .int .i64 pane, .int .i64 way] (.tup [encHs (chgR h (cutE h pane way) (cutY h pane way)).1, .int .i64 (chgR h (cutE h pane way) (cutY h pane way)).2]) := by
  have hg := fun h0 b bn bw x hx ho => hcut1_ok W hT h hok h0 pane way b bn bw x hx ho
  generalize cutE h pane way = E at *
  generalize cutY h pane way = Y at *
  by_cases h0 : chkH h = 0
  · have hg := hg h0
    have hc := fun cap τ hg => changeH_ok W hT h hok h0 46 cap τ E Y hg
    unfold chgR
    rw [if_neg (by simpa using h0)]
    by_cases hE : E = 0
    · rw [if_pos hE, ← hE]
      rw [if_pos hE] at hc
      dsimp only
      rw [encHs_mk h] at *
      rw [encHs_mk Y] at *
      refine Pure.of (acalls_of_vc (drawOk W) Tryd.func13 rfl (by decide) (by decide) rfl ?_)
      (refine g0_ ?_; repeat (refine n1_ fun b_ => ?_; refine g0_ ?_))
      refine ACalls.lendF (hc _ _ (fun b x hx ho => hg b _ _ x hx ho)) (lookH2 lk_ lk_) ?_
      refine g0_ ?_
      exact .refl _
    · rw [if_neg hE]
      rw [if_neg hE] at hc
      dsimp only
      rw [encHs_mk h] at *
      rw [encHs_mk noHs] at *
      refine Pure.of (acalls_of_vc (drawOk W) Tryd.func13 rfl (by decide) (by decide) rfl ?_)
      (refine g0_ ?_; repeat (refine n1_ fun b_ => ?_; refine g0_ ?_))
      refine ACalls.lendF (hc _ _ (fun b x hx ho => hg b _ _ x hx ho)) (lookH2 lk_ lk_) ?_
      refine g0_ ?_
      exact .refl _
  · have hc := fun cap => changeH_bad W hT h hok h0 46 cap
    unfold chgR
    rw [if_pos h0]
    dsimp only
    generalize chkH h = C at *
    rw [encHs_mk h, encHs_mk noHs] at *
    refine Pure.of (acalls_of_vc (drawOk W) Tryd.func13 rfl (by decide) (by decide) rfl ?_)
    (refine g0_ ?_; repeat (refine n1_ fun b_ => ?_; refine g0_ ?_))
    refine (hc _).use ?_; refine g0_ ?_
    exact .refl _
def clsW (w : Win) (pane : Int) : Win :=
  if w.act = pane then ⟨w.name, (dropR w.s pane).1, if w.bef = pane then 0 else w.bef, 0, false⟩ else ⟨w.name, (dropR w.s pane).1, w.act, if w.bef = pane then 0 else w.bef, false⟩
theorem close_many (hT : Tabs W) (h : Hs) (hok : h.ok) (h0 : chkH h = 0) (pane : Int) (i k : Nat) (w : Win) (hps : posS h.ses pane = some (i, k)) (hwa : winAt h.ses i k = some w) (hmany : 1 < (panesT w.s).length) (hnb : ¬ (w.act = pane ∧ (w.bef = pane ∨ w.bef = 0))) (b bp : Nat) (x : OH) (hx : x.T = h) (ho : x.o = none → x.views = []) :
    ACalls Tryd.prog W 29 [.bref b 0, .bref bp 0] (⟨b, .row 3 [x.V] 0⟩ :: (x.M ++ [⟨bp, .row 1 [.int .i64 pane] 0⟩])) fun v σ' => v = .int .i64 0 ∧ ((0 : Int) = 0 → HsDone b ⟨setW h.ses i k (clsW w pane), h.views, h.next⟩ σ') := by
  have hsr := right_win h0
  obtain ⟨hl4, -, hn1, hn2, -, -⟩ := right_ses h0
  subst hx
  have hwr : ∀ p ∈ x.L, SesR x.next p.2 := fun p hp => hsr p.2 (List.mem_map.2 ⟨p, hp, rfl⟩)
  have hl4' : x.L.length ≤ 4 := by simpa [OH.T] using hl4
  have hse : ∀ p ∈ x.L, p.2.ok := fun p hp => hok.se p.2 (List.mem_map.2 ⟨p, hp, rfl⟩)
  obtain ⟨s, w', hs, hw, hp, hb1, hb2⟩ := posS_some hps
  obtain rfl : w' = w := by
    unfold winAt at hwa
    rw [hs] at hwa
    exact Option.some.inj (hw.symm.trans hwa)
  have hne : x.L ≠ [] := fun e => by
    unfold OH.T at hs
    rw [e] at hs
    cases hs
  refine ACalls.perm ?_ (own_perm hne (fun p hp h => by have := (hwr p hp).many; rw [h] at this; simp at this) b _)
  obtain ⟨bs, L, o, vs, nx⟩ := x
  unfold OH.T at *
  dsimp only at *
  have hw6 : ∀ p ∈ L, p.2.wins.length ≤ 6 := fun p hp => (hwr p hp).many.2
  have hwt : ∀ p ∈ L, ∀ w ∈ p.2.wins, WinT w := fun p hp w hw => winT_of ((hwr p hp).win w hw)
  rw [List.getElem?_map] at hs
  obtain ⟨x0, hx, rfl⟩ := Option.map_eq_some_iff.1 hs
  have hfn := find_some W b bs (vwV o vs) nx L pane hl4' hw6 hwt i k x0 w' hx hw hp (fun p hp => hb1 p.2 (by rw [← List.map_take]; exact List.mem_map.2 ⟨p, hp, rfl⟩)) hb2
  have hfx := winsP_at hx
  have hkw := lt_of_at hw
  have hb : (List.map encWin x0.2.wins)[k]? = some (encWin w') := by rw [List.getElem?_map, hw]; rfl
  have hkl : k < (List.map encWin x0.2.wins).length := by rw [List.length_map]; exact lt_of_at hw
  have hxm := List.mem_of_getElem? hx
  have hwm := List.mem_of_getElem? hw
  have hyt := hwt x0 hxm w' hwm
  have hpn := panes_ok W w'.s 0 hyt.1 hyt.2
  have hdr := dropP_ok W w'.s ((hse x0 hxm).win w' hwm).s pane
  have hln := panesV_len (panesT w'.s)
  unfold clsW
  generalize dropR w'.s pane = D at *
  obtain ⟨S, e⟩ := D
  dsimp only at hdr ⊢
  rw [encSpl_eta, encSpl_eta S] at hdr
  rw [encSpl_eta] at hpn
  generalize panesT w'.s = l at *
  by_cases ha : w'.act = pane
  · have hbp : w'.bef ≠ pane := fun h => hnb ⟨ha, .inl h⟩
    have hb0 : w'.bef ≠ 0 := fun h => hnb ⟨ha, .inr h⟩
    rw [if_pos ha, if_neg hbp]
    rcases o with _ | bo
    · refine acalls_of_vc (DL_ok (by decide)) Tryd.func29 rfl (by decide) (by decide) rfl ?_
      refine g0_ ?_
      refine ACalls.sameN hfn (permF [_] _) ?_
      refine g0_ ?_
      refine ⟨_, eqlH_ref Tryd.underlying59, ?_⟩
      refine g0_ ?_
      refine g1_ ?_
      refine (hpn).use ?_; refine g0_ ?_
      refine g1_ ?_
      refine Draws10.chain ⟨13, [.new, .new, .new, .new, .new, .new, .new, .new, .new, .new, .new, .new, .turn], [(12, [.keep, .keep, .keep, .keep, .keep, .keep, .keep, .keep, .keep, .again, .keep, .keep, .keep])], by decide +kernel, ?_⟩; refine g0_ ?_
      refine ⟨_, (hdr).quiet, ?_⟩; (refine g0_ ?_; repeat (refine Elem1.mk fun e_ he_ => ?_; refine g0_ ?_))
      obtain rfl := Option.some.inj ((set_at hb _).symm.trans he_)
      clear he_
      refine g0_ ?_
      refine headL_ (head_ ?_); (refine g0_ ?_; repeat (refine Elem1.mk fun e_ he_ => ?_; refine g0_ ?_))
      obtain rfl := Option.some.inj ((set_at (set_at hb _) _).symm.trans he_)
      clear he_
      refine g0_ ?_
      refine g1_ ?_
      refine headL_ (head_ ?_); (refine g0_ ?_; repeat (refine Elem1.mk fun e_ he_ => ?_; refine g0_ ?_))
      obtain rfl := Option.some.inj ((set_at (set_at hb _) _).symm.trans he_)
      clear he_
      refine g0_ ?_
      (refine g1_ ?_; repeat (refine Elem1.mk fun e_ he_ => ?_; refine g1_ ?_))
      obtain rfl := Option.some.inj ((set_at (set_at hb _) _).symm.trans he_)
      clear he_
      (refine g0_ ?_; repeat (refine Elem1.mk fun e_ he_ => ?_; refine g0_ ?_))
      obtain rfl := Option.some.inj ((set_at (set_at hb _) _).symm.trans he_)
      clear he_
      (refine g0_ ?_; repeat (refine Elem1.mk fun e_ he_ => ?_; refine g0_ ?_))
      obtain rfl := Option.some.inj ((set_at (set_at (set_at hb _) _) _).symm.trans he_)
      clear he_
      (refine g0_ ?_; repeat (refine Elem1.mk fun e_ he_ => ?_; refine g0_ ?_))
      obtain rfl := Option.some.inj ((set_at (set_at (set_at (set_at hb _) _) _) _).symm.trans he_)
      clear he_
      refine g0_ ?_
      refine g1_ ?_
      refine ⟨rfl, fun _ => ?_⟩
      simp only [List.set_set]
      refine done_win hx (by first | exact .refl _ | exact List.Perm.swap _ _ _) rfl ?_ (.inl rfl) (frz_vw (o := none) ho (fun b hb => by cases hb))
      rw [List.map_set]
      (first | exact ⟨_, .refl _⟩ | exact wkMem.rfl' | exact ⟨_, .swap _ _ _⟩ | (repeat (first | exact wkMem.nil _ | exact wkMem.rfl' | exact wk_snoc _ _ _ | exact wk_fam (by assumption) _ _ _ | exact wk_famN (by assumption) _ _ _ | (apply wkMem.cons; (case' hl => (repeat (first | exact .here _ _ _ | apply Look.there)))) | apply wkMem.skip)))
    · refine acalls_of_vc (DL_ok (by decide)) Tryd.func29 rfl (by decide) (by decide) rfl ?_
      refine g0_ ?_
      refine ACalls.sameN hfn (permF [_, _] _) ?_
      refine g0_ ?_
      refine ⟨_, eqlH_ref Tryd.underlying59, ?_⟩
      refine g0_ ?_
      refine g1_ ?_
      refine (hpn).use ?_; refine g0_ ?_
      refine g1_ ?_
      refine Draws10.chain ⟨13, [.new, .new, .new, .new, .new, .new, .new, .new, .new, .new, .new, .new, .turn], [(12, [.keep, .keep, .keep, .keep, .keep, .keep, .keep, .keep, .keep, .again, .keep, .keep, .keep])], by decide +kernel, ?_⟩; refine g0_ ?_
      refine ⟨_, (hdr).quiet, ?_⟩; (refine g0_ ?_; repeat (refine Elem1.mk fun e_ he_ => ?_; refine g0_ ?_))
      obtain rfl := Option.some.inj ((set_at hb _).symm.trans he_)
      clear he_
      refine g0_ ?_
      refine headL_ (head_ ?_); (refine g0_ ?_; repeat (refine Elem1.mk fun e_ he_ => ?_; refine g0_ ?_))
      obtain rfl := Option.some.inj ((set_at (set_at hb _) _).symm.trans he_)
      clear he_
      refine g0_ ?_
      refine g1_ ?_
      refine headL_ (head_ ?_); (refine g0_ ?_; repeat (refine Elem1.mk fun e_ he_ => ?_; refine g0_ ?_))
      obtain rfl := Option.some.inj ((set_at (set_at hb _) _).symm.trans he_)
      clear he_
      refine g0_ ?_
      (refine g1_ ?_; repeat (refine Elem1.mk fun e_ he_ => ?_; refine g1_ ?_))
      obtain rfl := Option.some.inj ((set_at (set_at hb _) _).symm.trans he_)
      clear he_
      (refine g0_ ?_; repeat (refine Elem1.mk fun e_ he_ => ?_; refine g0_ ?_))
      obtain rfl := Option.some.inj ((set_at (set_at hb _) _).symm.trans he_)
      clear he_
      (refine g0_ ?_; repeat (refine Elem1.mk fun e_ he_ => ?_; refine g0_ ?_))
      obtain rfl := Option.some.inj ((set_at (set_at (set_at hb _) _) _).symm.trans he_)
      clear he_
      (refine g0_ ?_; repeat (refine Elem1.mk fun e_ he_ => ?_; refine g0_ ?_))
      obtain rfl := Option.some.inj ((set_at (set_at (set_at (set_at hb _) _) _) _).symm.trans he_)
      clear he_
      refine g0_ ?_
      refine g1_ ?_
      refine ⟨rfl, fun _ => ?_⟩
      simp only [List.set_set]
      refine done_win hx (by first | exact .refl _ | exact List.Perm.swap _ _ _) rfl ?_ (.inr (.inl ⟨_, _, _, _, rfl⟩)) ?_
      · rw [List.map_set]
        (first | exact ⟨_, .refl _⟩ | exact wkMem.rfl' | exact ⟨_, .swap _ _ _⟩ | (repeat (first | exact wkMem.nil _ | exact wkMem.rfl' | exact wk_snoc _ _ _ | exact wk_fam (by assumption) _ _ _ | exact wk_famN (by assumption) _ _ _ | (apply wkMem.cons; (case' hl => (repeat (first | exact .here _ _ _ | apply Look.there)))) | apply wkMem.skip)))
      · exact frz_row lk_ _ (by simp)
  · rw [if_neg ha]
    by_cases hbp : w'.bef = pane
    · rw [if_pos hbp]
      rcases o with _ | bo
      · refine acalls_of_vc (DL_ok (by decide)) Tryd.func29 rfl (by decide) (by decide) rfl ?_
        refine g0_ ?_
        refine ACalls.sameN hfn (permF [_] _) ?_
        refine g0_ ?_
        refine ⟨_, eqlH_ref Tryd.underlying59, ?_⟩
        refine g0_ ?_
        refine g1_ ?_
        refine (hpn).use ?_; refine g0_ ?_
        refine g1_ ?_
        refine Draws10.chain ⟨13, [.new, .new, .new, .new, .new, .new, .new, .new, .new, .new, .new, .new, .turn], [(12, [.keep, .keep, .keep, .keep, .keep, .keep, .keep, .keep, .keep, .again, .keep, .keep, .keep])], by decide +kernel, ?_⟩; refine g0_ ?_
        refine ⟨_, (hdr).quiet, ?_⟩; (refine g0_ ?_; repeat (refine Elem1.mk fun e_ he_ => ?_; refine g0_ ?_))
        obtain rfl := Option.some.inj ((set_at hb _).symm.trans he_)
        clear he_
        refine g0_ ?_
        refine headL_ (head_ ?_); (refine g0_ ?_; repeat (refine Elem1.mk fun e_ he_ => ?_; refine g0_ ?_))
        obtain rfl := Option.some.inj ((set_at (set_at hb _) _).symm.trans he_)
        clear he_
        refine g0_ ?_
        (refine g1_ ?_; repeat (refine Elem1.mk fun e_ he_ => ?_; refine g1_ ?_))
        obtain rfl := Option.some.inj ((set_at (set_at hb _) _).symm.trans he_)
        clear he_
        refine g0_ ?_
        refine headL_ (head_ ?_); (refine g0_ ?_; repeat (refine Elem1.mk fun e_ he_ => ?_; refine g0_ ?_))
        obtain rfl := Option.some.inj ((set_at (set_at (set_at hb _) _) _).symm.trans he_)
        clear he_
        refine g0_ ?_
        refine g1_ ?_
        refine ⟨rfl, fun _ => ?_⟩
        simp only [List.set_set]
        refine done_win hx (by first | exact .refl _ | exact List.Perm.swap _ _ _) rfl ?_ (.inl rfl) (frz_vw (o := none) ho (fun b hb => by cases hb))
        rw [List.map_set]
        (first | exact ⟨_, .refl _⟩ | exact wkMem.rfl' | exact ⟨_, .swap _ _ _⟩ | (repeat (first | exact wkMem.nil _ | exact wkMem.rfl' | exact wk_snoc _ _ _ | exact wk_fam (by assumption) _ _ _ | exact wk_famN (by assumption) _ _ _ | (apply wkMem.cons; (case' hl => (repeat (first | exact .here _ _ _ | apply Look.there)))) | apply wkMem.skip)))
      · refine acalls_of_vc (DL_ok (by decide)) Tryd.func29 rfl (by decide) (by decide) rfl ?_
        refine g0_ ?_
        refine ACalls.sameN hfn (permF [_, _] _) ?_
        refine g0_ ?_
        refine ⟨_, eqlH_ref Tryd.underlying59, ?_⟩
        refine g0_ ?_
        refine g1_ ?_
        refine (hpn).use ?_; refine g0_ ?_
        refine g1_ ?_
        refine Draws10.chain ⟨13, [.new, .new, .new, .new, .new, .new, .new, .new, .new, .new, .new, .new, .turn], [(12, [.keep, .keep, .keep, .keep, .keep, .keep, .keep, .keep, .keep, .again, .keep, .keep, .keep])], by decide +kernel, ?_⟩; refine g0_ ?_
        refine ⟨_, (hdr).quiet, ?_⟩; (refine g0_ ?_; repeat (refine Elem1.mk fun e_ he_ => ?_; refine g0_ ?_))
        obtain rfl := Option.some.inj ((set_at hb _).symm.trans he_)
        clear he_
        refine g0_ ?_
        refine headL_ (head_ ?_); (refine g0_ ?_; repeat (refine Elem1.mk fun e_ he_ => ?_; refine g0_ ?_))
        obtain rfl := Option.some.inj ((set_at (set_at hb _) _).symm.trans he_)
        clear he_
        refine g0_ ?_
        (refine g1_ ?_; repeat (refine Elem1.mk fun e_ he_ => ?_; refine g1_ ?_))
        obtain rfl := Option.some.inj ((set_at (set_at hb _) _).symm.trans he_)
        clear he_
        refine g0_ ?_
        refine headL_ (head_ ?_); (refine g0_ ?_; repeat (refine Elem1.mk fun e_ he_ => ?_; refine g0_ ?_))
        obtain rfl := Option.some.inj ((set_at (set_at (set_at hb _) _) _).symm.trans he_)
        clear he_
        refine g0_ ?_
        refine g1_ ?_
        refine ⟨rfl, fun _ => ?_⟩
        simp only [List.set_set]
        refine done_win hx (by first | exact .refl _ | exact List.Perm.swap _ _ _) rfl ?_ (.inr (.inl ⟨_, _, _, _, rfl⟩)) ?_
        · rw [List.map_set]
          (first | exact ⟨_, .refl _⟩ | exact wkMem.rfl' | exact ⟨_, .swap _ _ _⟩ | (repeat (first | exact wkMem.nil _ | exact wkMem.rfl' | exact wk_snoc _ _ _ | exact wk_fam (by assumption) _ _ _ | exact wk_famN (by assumption) _ _ _ | (apply wkMem.cons; (case' hl => (repeat (first | exact .here _ _ _ | apply Look.there)))) | apply wkMem.skip)))
        · exact frz_row lk_ _ (by simp)
    · rw [if_neg hbp]
      rcases o with _ | bo
      · refine acalls_of_vc (DL_ok (by decide)) Tryd.func29 rfl (by decide) (by decide) rfl ?_
        refine g0_ ?_
        refine ACalls.sameN hfn (permF [_] _) ?_
        refine g0_ ?_
        refine ⟨_, eqlH_ref Tryd.underlying59, ?_⟩
        refine g0_ ?_
        refine g1_ ?_
        refine (hpn).use ?_; refine g0_ ?_
        refine g1_ ?_
        refine Draws10.chain ⟨13, [.new, .new, .new, .new, .new, .new, .new, .new, .new, .new, .new, .new, .turn], [(12, [.keep, .keep, .keep, .keep, .keep, .keep, .keep, .keep, .keep, .again, .keep, .keep, .keep])], by decide +kernel, ?_⟩; refine g0_ ?_
        refine ⟨_, (hdr).quiet, ?_⟩; (refine g0_ ?_; repeat (refine Elem1.mk fun e_ he_ => ?_; refine g0_ ?_))
        obtain rfl := Option.some.inj ((set_at hb _).symm.trans he_)
        clear he_
        refine g0_ ?_
        refine headL_ (head_ ?_); (refine g0_ ?_; repeat (refine Elem1.mk fun e_ he_ => ?_; refine g0_ ?_))
        obtain rfl := Option.some.inj ((set_at (set_at hb _) _).symm.trans he_)
        clear he_
        refine g0_ ?_
        refine g1_ ?_
        refine headL_ (head_ ?_); (refine g0_ ?_; repeat (refine Elem1.mk fun e_ he_ => ?_; refine g0_ ?_))
        obtain rfl := Option.some.inj ((set_at (set_at hb _) _).symm.trans he_)
        clear he_
        refine g0_ ?_
        refine g1_ ?_
        refine ⟨rfl, fun _ => ?_⟩
        simp only [List.set_set]
        refine done_win hx (by first | exact .refl _ | exact List.Perm.swap _ _ _) rfl ?_ (.inl rfl) (frz_vw (o := none) ho (fun b hb => by cases hb))
        rw [List.map_set]
        (first | exact ⟨_, .refl _⟩ | exact wkMem.rfl' | exact ⟨_, .swap _ _ _⟩ | (repeat (first | exact wkMem.nil _ | exact wkMem.rfl' | exact wk_snoc _ _ _ | exact wk_fam (by assumption) _ _ _ | exact wk_famN (by assumption) _ _ _ | (apply wkMem.cons; (case' hl => (repeat (first | exact .here _ _ _ | apply Look.there)))) | apply wkMem.skip)))
      · refine acalls_of_vc (DL_ok (by decide)) Tryd.func29 rfl (by decide) (by decide) rfl ?_
        refine g0_ ?_
        refine ACalls.sameN hfn (permF [_, _] _) ?_
        refine g0_ ?_
        refine ⟨_, eqlH_ref Tryd.underlying59, ?_⟩
        refine g0_ ?_
        refine g1_ ?_
        refine (hpn).use ?_; refine g0_ ?_
        refine g1_ ?_
        refine Draws10.chain ⟨13, [.new, .new, .new, .new, .new, .new, .new, .new, .new, .new, .new, .new, .turn], [(12, [.keep, .keep, .keep, .keep, .keep, .keep, .keep, .keep, .keep, .again, .keep, .keep, .keep])], by decide +kernel, ?_⟩; refine g0_ ?_
        refine ⟨_, (hdr).quiet, ?_⟩; (refine g0_ ?_; repeat (refine Elem1.mk fun e_ he_ => ?_; refine g0_ ?_))
        obtain rfl := Option.some.inj ((set_at hb _).symm.trans he_)
        clear he_
        refine g0_ ?_
        refine headL_ (head_ ?_); (refine g0_ ?_; repeat (refine Elem1.mk fun e_ he_ => ?_; refine g0_ ?_))
        obtain rfl := Option.some.inj ((set_at (set_at hb _) _).symm.trans he_)
        clear he_
        refine g0_ ?_
        refine g1_ ?_
        refine headL_ (head_ ?_); (refine g0_ ?_; repeat (refine Elem1.mk fun e_ he_ => ?_; refine g0_ ?_))
        obtain rfl := Option.some.inj ((set_at (set_at hb _) _).symm.trans he_)
        clear he_
        refine g0_ ?_
        refine g1_ ?_
        refine ⟨rfl, fun _ => ?_⟩
        simp only [List.set_set]
        refine done_win hx (by first | exact .refl _ | exact List.Perm.swap _ _ _) rfl ?_ (.inr (.inl ⟨_, _, _, _, rfl⟩)) ?_
        · rw [List.map_set]
          (first | exact ⟨_, .refl _⟩ | exact wkMem.rfl' | exact ⟨_, .swap _ _ _⟩ | (repeat (first | exact wkMem.nil _ | exact wkMem.rfl' | exact wk_snoc _ _ _ | exact wk_fam (by assumption) _ _ _ | exact wk_famN (by assumption) _ _ _ | (apply wkMem.cons; (case' hl => (repeat (first | exact .here _ _ _ | apply Look.there)))) | apply wkMem.skip)))
        · exact frz_row lk_ _ (by simp)
end Go.Eng.YtkenlcaifhffoaaDoor
end

/- Houses: panes in order; the fact that the laws look at first (b_ x_ q_ e_). -/
section
namespace Go.Eng.YtkenlcaifhffoaaDoor
open Go Go.Eng Go.Proofs
variable (W : World)
set_option linter.unusedSimpArgs false
set_option maxRecDepth 100000
set_option linter.unusedVariables false
set_option maxHeartbeats 8000000
theorem closeHP_many (hT : Tabs W) (h : Hs) (hok : h.ok) (h0 : chkH h = 0) (pane : Int) (i k : Nat) (w : Win) (hps : posS h.ses pane = some (i, k)) (hwa : winAt h.ses i k = some w) (hmany : 1 < (panesT w.s).length) (hnb : ¬ (w.act = pane ∧ (w.bef = pane ∨ w.bef = 0))) :
    Pure Tryd.prog W 8 [encHs h, .int .i64 pane] (.tup [encHs ⟨setW h.ses i k (clsW w pane), h.views, h.next⟩, .int .i64 0]) := by
  have hg := fun b bp x hx ho => close_many W hT h hok h0 pane i k w hps hwa hmany hnb b bp x hx ho
  generalize (⟨setW h.ses i k (clsW w pane), h.views, h.next⟩ : Hs) = Y at *
  have hc := fun cap τ hg => changeH_ok W hT h hok h0 29 cap τ 0 Y hg
  rw [if_pos rfl] at hc
  rw [encHs_mk h] at *
  rw [encHs_mk Y] at *
  refine Pure.of (acalls_of_vc (drawOk W) Tryd.func8 rfl (by decide) (by decide) rfl ?_)
  (refine g0_ ?_; repeat (refine n1_ fun b_ => ?_; refine g0_ ?_))
  refine ACalls.lendF (hc _ [⟨_, .row 1 [.int .i64 pane] 0⟩] (fun b x hx ho => hg b _ x hx ho)) (lookH1 lk_) ?_
  refine g0_ ?_
  exact .refl _
def panesH (h : Hs) : List Int := h.ses.flatMap panesS
theorem ints_all (l : List Int) : (panesV l).all cellsB = true := by simp [panesV, cellsB, PV.flat, cellB]
theorem panesHP_ok (hT : Tabs W) (h : Hs) (hok : h.ok) (h0 : chkH h = 0) : Pure Tryd.prog W 19 [encHs h] (.tup [.sl 1 (panesV (panesH h)), .int .i64 0]) := by
  have hck := checkH_ok W hT h hok
  have hsr := right_win h0
  obtain ⟨hl4, -, -, -, -, -⟩ := right_ses h0
  rw [h0] at hck
  rw [encHs_mk h] at *
  have hm1 : (h.ses.map encSes).length = h.ses.length := List.length_map _
  refine Pure.of (acalls_of_vc (drawOk W) Tryd.func19 rfl (by decide) (by decide) rfl ?_)
  (refine g0_ ?_; repeat (refine n1_ fun b_ => ?_; refine g0_ ?_))
  refine (hck).use ?_; refine g0_ ?_
  refine g1_ ?_
  refine' loopI (α := Nat × Nat × (List Int)) (fun (i, bo, o) => [(18, .int .i64 i), (5, accV bo 1 (panesV o))]) [(16, _), (17, _)] (fun (i, bo, o) => accM bo 1 (panesV o)) (fun (i, bo, o) => i ≤ h.ses.length ∧ o = (h.ses.take i).flatMap panesS ∧ o.length ≤ 72 * i) (fun (i, bo, o) => h.ses.length - i) (0, 0, []) ?_ ?_
  · exact ⟨Nat.zero_le _, rfl, Nat.zero_le _⟩
  rintro ⟨i, bo, o⟩ ⟨hi, ho, hol⟩
  by_cases hie : i = h.ses.length
  · subst hie
    rw [List.take_length] at ho
    rw [show panesH h = o from ho.symm]
    rcases o with _ | ⟨o0, o⟩
    · refine g0_ ?_
      refine g1_ ?_
      exact frz_tup2 (.nils 1) (.refl _)
    · refine g0_ ?_
      refine g1_ ?_
      exact frz_tup2 (frz_row lk_ _ rfl) (.refl _)
  · have hil : i < h.ses.length := by omega
    obtain ⟨x, hx⟩ : ∃ x, h.ses[i]? = some x := ⟨_, List.getElem?_eq_getElem hil⟩
    have hxr := hsr x (List.mem_of_getElem? hx)
    have hwm : (x.wins.map encWin).length = x.wins.length := List.length_map _
    have hx6 := hxr.many
    refine g0_ ?_
    (refine g1_ ?_; repeat (refine n1_ fun b_ => ?_; refine g1_ ?_))
    refine' loopI (α := Nat × Nat × (List Int)) (fun (j, bo, o) => [(25, .int .i64 j), (5, accV bo 1 (panesV o))]) [(16, _), (17, _), (18, _), (23, _), (24, _)] (fun (j, bo, o) => accM bo 1 (panesV o)) (fun (j, bo, o) => j ≤ x.wins.length ∧ o = (h.ses.take i).flatMap panesS ++ (x.wins.take j).flatMap (fun w => panesT w.s) ∧ o.length ≤ 72 * i + 12 * j) (fun (j, bo, o) => x.wins.length - j) (0, bo, o) ?_ ?_
    · exact ⟨Nat.zero_le _, by rw [ho]; simp, hol⟩
    clear ho hol
    rintro ⟨j, bo, o⟩ ⟨hj, ho, hol⟩
    by_cases hje : j = x.wins.length
    · subst hje
      rw [List.take_length] at ho
      refine g0_ ?_
      refine g1_ ?_
      refine nx_ (i + 1, bo, o) ?_ ?_
      · exact ⟨hil, by rw [ho, take_snoc_of hx, List.flatMap_append]; simp [panesS], (show o.length ≤ 72 * (i + 1) by omega)⟩
      · ((try dsimp only); (try simp only [List.length_drop, List.length_take, List.length_append, List.length_cons, List.length_nil, List.length_map] at *); omega)
    · have hjl : j < x.wins.length := by omega
      obtain ⟨y, hy⟩ : ∃ y, x.wins[j]? = some y := ⟨_, List.getElem?_eq_getElem hjl⟩
      have hyt := winT_of (hxr.win y (List.mem_of_getElem? hy))
      have hpn := panes_ok W y.s 0 hyt.1 hyt.2
      have hy1 := right_panes y.s 0 hyt.1
      have hy12 := hyt.2
      have ho2 : o ++ panesT y.s = (h.ses.take i).flatMap panesS ++ (x.wins.take (j + 1)).flatMap (fun w => panesT w.s) := by rw [take_snoc_of hy, List.flatMap_append, ← List.append_assoc, ← ho]; simp
      clear ho
      rw [encSpl_eta] at hpn
      generalize panesT y.s = P at *
      obtain ⟨p0, ps, rfl⟩ : ∃ a m, P = a :: m := by
        cases P with
        | nil => simp at hy1
        | cons a m => exact ⟨a, m, rfl⟩
      rw [show panesV (p0 :: ps) = .int .i64 p0 :: panesV ps from rfl] at hpn
      have hpl := panesV_len ps
      rw [List.length_cons] at hy12
      rcases o with _ | ⟨o0, o⟩
      · refine g0_ ?_
        (refine g1_ ?_; repeat (refine n1_ fun b_ => ?_; refine g1_ ?_))
        refine (hpn).use ?_; refine g0_ ?_
        refine need.mk (ints_all (p0 :: ps)) ?_
        (refine g0_ ?_; repeat (refine n1_ fun b_ => ?_; refine g0_ ?_))
        try rw [show (List.map (PV.int .i64) o).length + 1 + (PV.int .i64 p0 :: panesV ps).length = (List.map (PV.int .i64) (o ++ p0 :: ps)).length + 1 from by simp [panesV]; omega]
        try rw [show (PV.int .i64 o0 :: List.map (PV.int .i64) o) ++ (PV.int .i64 p0 :: panesV ps) = panesV (o0 :: o ++ p0 :: ps) from by simp [panesV]]
        refine nx_ (j + 1, b_, ([] : List Int) ++ p0 :: ps) ?_ ?_
        · exact ⟨hjl, ho2, (by rw [List.length_append, List.length_cons]; (try rw [List.length_cons] at *); (try rw [List.length_nil] at *); omega)⟩
        · ((try dsimp only); (try simp only [List.length_drop, List.length_take, List.length_append, List.length_cons, List.length_nil, List.length_map] at *); omega)
      · have hom : (List.map (PV.int .i64) o).length = o.length := List.length_map _
        have hol2 := hol
        rw [List.length_cons] at hol2
        refine g0_ ?_
        (refine g1_ ?_; repeat (refine n1_ fun b_ => ?_; refine g1_ ?_))
        refine (hpn).use ?_; refine g0_ ?_
        refine need.mk (ints_all (p0 :: ps)) ?_
        (refine g0_ ?_; repeat (refine n2_ fun b_ => ?_; refine g0_ ?_))
        try rw [show (List.map (PV.int .i64) o).length + 1 + (PV.int .i64 p0 :: panesV ps).length = (List.map (PV.int .i64) (o ++ p0 :: ps)).length + 1 from by simp [panesV]; omega]
        try rw [show (PV.int .i64 o0 :: List.map (PV.int .i64) o) ++ (PV.int .i64 p0 :: panesV ps) = panesV (o0 :: o ++ p0 :: ps) from by simp [panesV]]
        refine nx_ (j + 1, b_, (o0 :: o) ++ p0 :: ps) ?_ ?_
        · exact ⟨hjl, ho2, (by rw [List.length_append, List.length_cons]; (try rw [List.length_cons] at *); (try rw [List.length_nil] at *); omega)⟩
        · ((try dsimp only); (try simp only [List.length_drop, List.length_take, List.length_append, List.length_cons, List.length_nil, List.length_map] at *); omega)
end Go.Eng.YtkenlcaifhffoaaDoor
end

/- Houses: the fact that the laws look at first (b_ x_ q_ e_). -/
section
namespace Go.Eng.YtkenlcaifhffoaaDoor
open Go Go.Eng Go.Proofs
variable (W : World)
set_option linter.unusedSimpArgs false
set_option maxRecDepth 100000
set_option linter.unusedVariables false
set_option maxHeartbeats 8000000
def hMain : List UInt8 := [109, 97, 105, 110]
def hFirst : List UInt8 := [102, 105, 114, 115, 116]
def hZ : Hs := ⟨[], [], 1⟩
def hA : Hs := ⟨[⟨hMain, [winN hFirst 1], 0, 0⟩], [], 2⟩
def hB : Hs := ⟨[⟨hMain, [⟨hFirst, .mk 1 0 1 [.mk 0 1 1 [], .mk 0 2 1 []], 2, 1, false⟩], 0, 0⟩], [], 3⟩
def hC : Hs := ⟨[⟨hMain, [⟨hFirst, .mk 0 1 1 [], 1, 0, false⟩], 0, 0⟩], [], 3⟩
theorem fact_A : chgR hZ (sesE hZ hMain hFirst) (sesY hZ hMain hFirst) = (hA, 0) := by
  have h1 : chkH hZ = 0 := by decide +kernel
  have h2 : sesE hZ hMain hFirst = 0 := by decide +kernel
  rw [chgR, if_neg (by rw [h1]; decide), if_pos h2]
  rfl
theorem fact_A0 : chkH hA = 0 := by decide +kernel
theorem fact_B : chgR hA (cutE hA 1 1) (cutY hA 1 1) = (hB, 0) := by
  have h2 : cutE hA 1 1 = 0 := by decide +kernel
  rw [chgR, if_neg (by rw [fact_A0]; decide), if_pos h2]
  rfl
theorem fact_B0 : chkH hB = 0 := by decide +kernel
theorem fact_P : panesH hB = [1, 2] := by decide +kernel
theorem ok_Z : hZ.ok := ⟨by decide, by simp [hZ], by decide, by simp [hZ], by simp [hZ, i64ok]⟩
theorem ok_A : hA.ok := ⟨by decide, by
  simp only [hA, List.mem_singleton, forall_eq]
  refine ⟨by decide, by decide, ?_, by simp [i64ok], by simp [i64ok]⟩
  simp only [List.mem_singleton, forall_eq]
  exact ⟨by decide, by simp [winN, spl_ok, i64ok], by simp [winN, i64ok], by simp [winN, i64ok]⟩, by decide, by simp [hA], by simp [hA, i64ok]⟩
theorem ok_B : hB.ok := ⟨by decide, by
  simp only [hB, List.mem_singleton, forall_eq]
  refine ⟨by decide, by decide, ?_, by simp [i64ok], by simp [i64ok]⟩
  simp only [List.mem_singleton, forall_eq]
  exact ⟨by decide, by simp [spl_ok, i64ok], by simp [i64ok], by simp [i64ok]⟩, by decide, by simp [hB], by simp [hB, i64ok]⟩
theorem fact_C : (⟨setW hB.ses 0 0 (clsW ⟨hFirst, .mk 1 0 1 [.mk 0 1 1 [], .mk 0 2 1 []], 2, 1, false⟩ 2), hB.views, hB.next⟩ : Hs) = hC := by rfl
theorem housed_ok (hT : Tabs W) : Pure Tryd.prog W 18 [] (.bool true) := by
  have h1 := sessionP_ok W hT hZ ok_Z hMain hFirst (by decide) (by decide)
  rw [fact_A] at h1
  have h2 := cutHP_ok W hT hA ok_A 1 1
  rw [fact_B] at h2
  have h3 := closeHP_many W hT hB ok_B fact_B0 2 0 0 ⟨hFirst, .mk 1 0 1 [.mk 0 1 1 [], .mk 0 2 1 []], 2, 1, false⟩ (by decide +kernel) rfl (by decide +kernel) (by decide)
  rw [fact_C] at h3
  have h4 := panesHP_ok W hT hB ok_B fact_B0
  rw [fact_P] at h4
  have h5 := equal_ints W [1, 2] [1, 2] (by decide)
  rw [decide_eq_true rfl] at h5
  dsimp only at h1 h2 h3 h4
  rw [encHs_mk hZ] at h1
  have h1 := h1.nilS (args := [.agg [.nils, .nils, .int .i64 1], .str hMain, .str hFirst]) rfl (fun i hi => by
    match i, hi with
    | 0, _ => exact frz_hs (Y := hZ) (.nils 4) (.nils 3)
    | 1, _ => exact .refl _
    | 2, _ => exact .refl _)
  rw [encHs_mk hA] at *
  rw [encHs_mk hB] at *
  rw [show encHs hC = .agg [.sl 4 [.agg [.str hMain, .sl 8 [.agg [.str hFirst, .int .i64 0, .int .i64 1, .int .i64 1, .sl 4 [], .int .i64 1, .int .i64 0, .bool false]], .int .i64 0, .int .i64 0]], .sl 3 [], .int .i64 3] from rfl] at h3
  refine Pure.of (acalls_of_vc (drawOk W) Tryd.func18 rfl (by decide) (by decide) rfl ?_)
  refine g0_ ?_
  refine (h1).use ?_; (refine g0_ ?_; repeat (refine n1_ fun b_ => ?_; refine g0_ ?_))
  refine g0_ ?_
  refine (h2).use ?_; (refine g0_ ?_; repeat (refine n1_ fun b_ => ?_; refine g0_ ?_))
  refine g0_ ?_
  refine (h3).use ?_; (refine g0_ ?_; repeat (refine n1_ fun b_ => ?_; refine g0_ ?_))
  refine g0_ ?_
  refine (h4).use ?_; refine g0_ ?_
  refine g1_ ?_
  refine .inl ?_
  refine g0_ ?_
  refine (h5).use ?_; refine g0_ ?_
  refine g1_ ?_
  exact .refl _
end Go.Eng.YtkenlcaifhffoaaDoor
end
