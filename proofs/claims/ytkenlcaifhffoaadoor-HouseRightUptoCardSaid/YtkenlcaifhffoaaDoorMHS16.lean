/- Texts put together: Hs11, Hs12. -/
import Derived.Test.YtkenlcaifhffoaaDoorMHS13
import Derived.Test.YtkenlcaifhffoaaDoorMHS3
/- Houses: a pane picked, a pane zoomed (b_ x_ q_ e_). -/
section
namespace Go.Eng.YtkenlcaifhffoaaDoor
open Go Go.Eng Go.Proofs
variable (W : World)
set_option linter.unusedSimpArgs false
set_option maxRecDepth 100000
set_option linter.unusedVariables false
set_option maxHeartbeats 8000000
theorem perm_row {A B : Blk} {T : Mem} {L : List (Nat × Ses)} {i : Nat} {x : Nat × Ses} (hx : L[i]? = some x) : (A :: B :: (T ++ (famM 8 encWin (L.map winsP) ++ []))).Perm ([⟨x.1, .row 8 (x.2.wins.map encWin) 0⟩] ++ (A :: B :: (T ++ famM 8 encWin ((L.map winsP).eraseIdx i)))) := by
  rw [List.append_nil]
  have h1 : (A :: B :: (T ++ famM 8 encWin (L.map winsP))).Perm ((A :: B :: T) ++ (⟨x.1, .row 8 (x.2.wins.map encWin) 0⟩ :: famM 8 encWin ((L.map winsP).eraseIdx i))) := List.Perm.cons _ (List.Perm.cons _ ((famAt hx).append_left T))
  exact h1.trans List.perm_middle
def pickW (p : Int) (w : Win) : Win := if w.act = p then w else ⟨w.name, w.s, p, w.act, false⟩
def zoomW (p : Int) (w : Win) : Win := ⟨w.name, w.s, p, if w.act = p then w.bef else w.act, !(w.zoom && decide (w.act = p))⟩
def onW (f : Win → Win) (h : Hs) (pane : Int) : Hs := match posS h.ses pane with
  | none => h
  | some (i, k) => match winAt h.ses i k with
    | none => h
    | some w => ⟨setW h.ses i k (f w), h.views, h.next⟩
def onE (h : Hs) (pane : Int) : Int := if posS h.ses pane = none then 6 else 0
theorem perm_oneP {A B : Blk} {M : Mem} : (A :: (M ++ [B])).Perm (A :: B :: M) := List.Perm.cons A (List.perm_append_comm (l₁ := M) (l₂ := [B]))
theorem turnedH_ok (bw : Nat) (ws : List PV) (k : Nat) (w : Win) (p : Int) (hb : ws[k]? = some (encWin w)) : ACalls Tryd.prog W 50 [.ref bw 8 k 0, .int .i64 p] [⟨bw, .row 8 ws 0⟩] (Gives (fun _ : Unit => .int .i64 (if w.act = p then w.bef else w.act)) (fun _ => [⟨bw, .row 8 ws 0⟩]) (fun _ => True)) := by
  have hkl := lt_of_at hb
  by_cases h1 : w.act = p
  · refine acalls_of_vc (DL_ok (by decide)) Tryd.func50 rfl (by decide) (by decide) rfl ?_
    (refine g0_ ?_; repeat (refine Elem1.mk fun e_ he_ => ?_; refine g0_ ?_))
    obtain rfl := Option.some.inj ((hb).symm.trans he_)
    clear he_
    refine g0_ ?_
    (refine g1_ ?_; repeat (refine Elem1.mk fun e_ he_ => ?_; refine g1_ ?_))
    obtain rfl := Option.some.inj ((hb).symm.trans he_)
    clear he_
    refine g0_ ?_
    exact ⟨(), trivial, by rw [if_pos h1], wkMem.rfl'⟩
  · refine acalls_of_vc (DL_ok (by decide)) Tryd.func50 rfl (by decide) (by decide) rfl ?_
    (refine g0_ ?_; repeat (refine Elem1.mk fun e_ he_ => ?_; refine g0_ ?_))
    obtain rfl := Option.some.inj ((hb).symm.trans he_)
    clear he_
    refine g0_ ?_
    (refine g1_ ?_; repeat (refine Elem1.mk fun e_ he_ => ?_; refine g1_ ?_))
    obtain rfl := Option.some.inj ((hb).symm.trans he_)
    clear he_
    refine g0_ ?_
    exact ⟨(), trivial, by rw [if_neg h1], wkMem.rfl'⟩
theorem hzoom1_ok (hT : Tabs W) (h : Hs) (hok : h.ok) (h0 : chkH h = 0) (pane : Int) (b bp : Nat) (x : OH) (hx : x.T = h) (ho : x.o = none → x.views = []) :
    ACalls Tryd.prog W 49 [.bref b 0, .bref bp 0] (⟨b, .row 3 [x.V] 0⟩ :: (x.M ++ [⟨bp, .row 1 [.int .i64 pane] 0⟩])) fun v σ' => v = .int .i64 (onE h pane) ∧ (onE h pane = 0 → HsDone b (onW (zoomW pane) h pane) σ') := by
  have hsr := right_win h0
  obtain ⟨hl4, -, hn1, hn2, -, -⟩ := right_ses h0
  subst hx
  have hwr : ∀ p ∈ x.L, SesR x.next p.2 := fun p hp => hsr p.2 (List.mem_map.2 ⟨p, hp, rfl⟩)
  have hl4' : x.L.length ≤ 4 := by simpa [OH.T] using hl4
  have hse : ∀ p ∈ x.L, p.2.ok := fun p hp => hok.se p.2 (List.mem_map.2 ⟨p, hp, rfl⟩)
  by_cases hne : x.L = []
  · obtain ⟨bs, L, o, vs, nx⟩ := x
    dsimp only at hne
    subst hne
    refine ACalls.perm ?_ perm_oneP
    unfold OH.V OH.M OH.T onE onW
    dsimp only
    have hfn := fun vv => find_nil W b vv nx pane
    rcases o with _ | bo
    · refine acalls_of_vc (DL_ok (by decide)) Tryd.func49 rfl (by decide) (by decide) rfl ?_
      refine g0_ ?_
      refine ACalls.sameN (hfn _) (lookH1 lk_) ?_
      refine g0_ ?_
      refine ⟨_, eqlH_nil Tryd.underlying59, ?_⟩
      refine g0_ ?_
      refine g1_ ?_
      exact ⟨rfl, fun h => by cases h⟩
    · refine acalls_of_vc (DL_ok (by decide)) Tryd.func49 rfl (by decide) (by decide) rfl ?_
      refine g0_ ?_
      refine ACalls.sameN (hfn _) (lookH1 lk_) ?_
      refine g0_ ?_
      refine ⟨_, eqlH_nil Tryd.underlying59, ?_⟩
      refine g0_ ?_
      refine g1_ ?_
      exact ⟨rfl, fun h => by cases h⟩
  · refine ACalls.perm ?_ (own_perm hne (fun p hp h => by have := (hwr p hp).many; rw [h] at this; simp at this) b _)
    obtain ⟨bs, L, o, vs, nx⟩ := x
    unfold OH.T at *
    dsimp only at *
    have hw6 : ∀ p ∈ L, p.2.wins.length ≤ 6 := fun p hp => (hwr p hp).many.2
    have hwt : ∀ p ∈ L, ∀ w ∈ p.2.wins, WinT w := fun p hp w hw => winT_of ((hwr p hp).win w hw)
    unfold onE onW
    dsimp only
    cases hps : posS (L.map Prod.snd) pane with
    | none =>
      have hfn := find_none W b bs (vwV o vs) nx L pane hl4' hw6 hwt (fun p hp => posS_none hps p.2 (List.mem_map.2 ⟨p, hp, rfl⟩))
      rw [if_pos rfl]
      dsimp only
      rcases o with _ | bo
      · refine acalls_of_vc (DL_ok (by decide)) Tryd.func49 rfl (by decide) (by decide) rfl ?_
        refine g0_ ?_
        refine ACalls.sameN hfn (permF [_] _) ?_
        refine g0_ ?_
        refine ⟨_, eqlH_nil Tryd.underlying59, ?_⟩
        refine g0_ ?_
        refine g1_ ?_
        exact ⟨rfl, fun h => by cases h⟩
      · refine acalls_of_vc (DL_ok (by decide)) Tryd.func49 rfl (by decide) (by decide) rfl ?_
        refine g0_ ?_
        refine ACalls.sameN hfn (permF [_, _] _) ?_
        refine g0_ ?_
        refine ⟨_, eqlH_nil Tryd.underlying59, ?_⟩
        refine g0_ ?_
        refine g1_ ?_
        exact ⟨rfl, fun h => by cases h⟩
    | some y =>
      obtain ⟨i, k⟩ := y
      obtain ⟨s, w, hs, hw, hp, hb1, hb2⟩ := posS_some hps
      rw [List.getElem?_map] at hs
      obtain ⟨x0, hx, rfl⟩ := Option.map_eq_some_iff.1 hs
      have hfn := find_some W b bs (vwV o vs) nx L pane hl4' hw6 hwt i k x0 w hx hw hp (fun p hp => hb1 p.2 (by rw [← List.map_take]; exact List.mem_map.2 ⟨p, hp, rfl⟩)) hb2
      have hfx := winsP_at hx
      have hkw := lt_of_at hw
      have hb : (List.map encWin x0.2.wins)[k]? = some (encWin w) := by rw [List.getElem?_map, hw]; rfl
      have hkl : k < (List.map encWin x0.2.wins).length := by rw [List.length_map]; exact lt_of_at hw
      have hwa : winAt (L.map Prod.snd) i k = some w := by rw [winAt, List.getElem?_map, hx]; exact hw
      rw [if_neg (by simp)]
      dsimp only
      rw [hwa]
      dsimp only
      rcases o with _ | bo
      · have htn := turnedH_ok W x0.1 _ k w pane hb
        by_cases hac : w.act = pane
        · rw [if_pos hac] at htn
          rcases Bool.eq_false_or_eq_true w.zoom with hz | hz
          · rw [show zoomW pane w = ⟨w.name, w.s, pane, w.bef, !decide (w.act = pane)⟩ from by unfold zoomW; simp [hac, hz]]
            refine acalls_of_vc (DL_ok (by decide)) Tryd.func49 rfl (by decide) (by decide) rfl ?_
            refine g0_ ?_
            refine ACalls.sameN hfn (permF [_] _) ?_
            refine g0_ ?_
            refine ⟨_, eqlH_ref Tryd.underlying59, ?_⟩
            refine g0_ ?_
            refine g1_ ?_
            refine Draws10.chain ⟨29, [.new, .new, .new, .new, .new, .new, .new, .new, .new, .new, .new, .new, .new, .new, .new, .new, .new, .new, .new, .new, .new, .new, .turn, .skip, .skip, .skip, .skip, .skip, .skip], [(22, [.keep, .again, .again, .keep, .keep, .keep, .again, .keep, .keep, .keep, .keep, .keep, .keep, .keep, .keep, .keep, .again, .again, .again, .again, .keep, .keep, .keep, .new, .new, .turn, .skip, .skip, .skip]), (25, [.keep, .keep, .again, .keep, .keep, .keep, .keep, .keep, .keep, .keep, .keep, .keep, .keep, .keep, .keep, .keep, .again, .again, .again, .again, .keep, .keep, .keep, .keep, .keep, .keep, .new, .new, .turn]), (28, [.keep, .keep, .keep, .keep, .keep, .keep, .keep, .keep, .keep, .keep, .keep, .keep, .keep, .keep, .keep, .keep, .keep, .keep, .keep, .keep, .keep, .keep, .keep, .keep, .keep, .keep, .keep, .keep, .keep])], by decide +kernel, ?_⟩; refine g0_ ?_
            refine ⟨_, ⟨fun _ hk => ACalls.sameN htn (perm_row hx) hk⟩, ?_⟩
            refine g0_ ?_
            (refine g1_ ?_; repeat (refine Elem1.mk fun e_ he_ => ?_; refine g1_ ?_))
            first | obtain rfl := Option.some.inj (hb.symm.trans he_) | obtain rfl := Option.some.inj ((set_at hb _).symm.trans he_) | obtain rfl := Option.some.inj ((set_at (set_at hb _) _).symm.trans he_) | obtain rfl := Option.some.inj ((set_at (set_at (set_at hb _) _) _).symm.trans he_)
            clear he_
            (refine g0_ ?_; repeat (refine Elem1.mk fun e_ he_ => ?_; refine g0_ ?_))
            first | obtain rfl := Option.some.inj (hb.symm.trans he_) | obtain rfl := Option.some.inj ((set_at hb _).symm.trans he_) | obtain rfl := Option.some.inj ((set_at (set_at hb _) _).symm.trans he_) | obtain rfl := Option.some.inj ((set_at (set_at (set_at hb _) _) _).symm.trans he_)
            clear he_
            refine g0_ ?_
            refine ⟨rfl, fun _ => ?_⟩
            simp only [List.set_set]
            refine done_win (w := ⟨w.name, w.s, pane, w.bef, !decide (w.act = pane)⟩) hx (List.Perm.swap _ _ _) rfl ?_ ?_ ?_
            · rw [List.map_set]
              (first | exact ⟨_, .refl _⟩ | exact wkMem.rfl' | exact ⟨_, .swap _ _ _⟩ | (repeat (first | exact wkMem.nil _ | exact wkMem.rfl' | exact wk_snoc _ _ _ | exact wk_fam (by assumption) _ _ _ | exact wk_famN (by assumption) _ _ _ | (apply wkMem.cons; (case' hl => (repeat (first | exact .here _ _ _ | apply Look.there)))) | apply wkMem.skip)))
            · first | exact .inl rfl | exact .inr (.inl ⟨_, _, _, _, rfl⟩)
            · first | exact frz_vw (o := none) ho (fun b hb => by cases hb) | exact frz_row lk_ _ (by simp)
          · rw [show zoomW pane w = ⟨w.name, w.s, pane, w.bef, !false⟩ from by unfold zoomW; simp [hac, hz]]
            refine acalls_of_vc (DL_ok (by decide)) Tryd.func49 rfl (by decide) (by decide) rfl ?_
            refine g0_ ?_
            refine ACalls.sameN hfn (permF [_] _) ?_
            refine g0_ ?_
            refine ⟨_, eqlH_ref Tryd.underlying59, ?_⟩
            refine g0_ ?_
            refine g1_ ?_
            refine Draws10.chain ⟨29, [.new, .new, .new, .new, .new, .new, .new, .new, .new, .new, .new, .new, .new, .new, .new, .new, .new, .new, .new, .new, .new, .new, .turn, .skip, .skip, .skip, .skip, .skip, .skip], [(22, [.keep, .again, .again, .keep, .keep, .keep, .again, .keep, .keep, .keep, .keep, .keep, .keep, .keep, .keep, .keep, .again, .again, .again, .again, .keep, .keep, .keep, .new, .new, .turn, .skip, .skip, .skip]), (25, [.keep, .keep, .again, .keep, .keep, .keep, .keep, .keep, .keep, .keep, .keep, .keep, .keep, .keep, .keep, .keep, .again, .again, .again, .again, .keep, .keep, .keep, .keep, .keep, .keep, .new, .new, .turn]), (28, [.keep, .keep, .keep, .keep, .keep, .keep, .keep, .keep, .keep, .keep, .keep, .keep, .keep, .keep, .keep, .keep, .keep, .keep, .keep, .keep, .keep, .keep, .keep, .keep, .keep, .keep, .keep, .keep, .keep])], by decide +kernel, ?_⟩; refine g0_ ?_
            refine ⟨_, ⟨fun _ hk => ACalls.sameN htn (perm_row hx) hk⟩, ?_⟩
            refine g0_ ?_
            (refine g1_ ?_; repeat (refine Elem1.mk fun e_ he_ => ?_; refine g1_ ?_))
            first | obtain rfl := Option.some.inj (hb.symm.trans he_) | obtain rfl := Option.some.inj ((set_at hb _).symm.trans he_) | obtain rfl := Option.some.inj ((set_at (set_at hb _) _).symm.trans he_) | obtain rfl := Option.some.inj ((set_at (set_at (set_at hb _) _) _).symm.trans he_)
            clear he_
            (refine g0_ ?_; repeat (refine Elem1.mk fun e_ he_ => ?_; refine g0_ ?_))
            first | obtain rfl := Option.some.inj (hb.symm.trans he_) | obtain rfl := Option.some.inj ((set_at hb _).symm.trans he_) | obtain rfl := Option.some.inj ((set_at (set_at hb _) _).symm.trans he_) | obtain rfl := Option.some.inj ((set_at (set_at (set_at hb _) _) _).symm.trans he_)
            clear he_
            refine g0_ ?_
            refine ⟨rfl, fun _ => ?_⟩
            simp only [List.set_set]
            refine done_win (w := ⟨w.name, w.s, pane, w.bef, !false⟩) hx (List.Perm.swap _ _ _) rfl ?_ ?_ ?_
            · rw [List.map_set]
              (first | exact ⟨_, .refl _⟩ | exact wkMem.rfl' | exact ⟨_, .swap _ _ _⟩ | (repeat (first | exact wkMem.nil _ | exact wkMem.rfl' | exact wk_snoc _ _ _ | exact wk_fam (by assumption) _ _ _ | exact wk_famN (by assumption) _ _ _ | (apply wkMem.cons; (case' hl => (repeat (first | exact .here _ _ _ | apply Look.there)))) | apply wkMem.skip)))
            · first | exact .inl rfl | exact .inr (.inl ⟨_, _, _, _, rfl⟩)
            · first | exact frz_vw (o := none) ho (fun b hb => by cases hb) | exact frz_row lk_ _ (by simp)
        · rw [if_neg hac] at htn
          rcases Bool.eq_false_or_eq_true w.zoom with hz | hz
          · rw [show zoomW pane w = ⟨w.name, w.s, pane, w.act, !decide (w.act = pane)⟩ from by unfold zoomW; simp [hac, hz]]
            refine acalls_of_vc (DL_ok (by decide)) Tryd.func49 rfl (by decide) (by decide) rfl ?_
            refine g0_ ?_
            refine ACalls.sameN hfn (permF [_] _) ?_
            refine g0_ ?_
            refine ⟨_, eqlH_ref Tryd.underlying59, ?_⟩
            refine g0_ ?_
            refine g1_ ?_
            refine Draws10.chain ⟨29, [.new, .new, .new, .new, .new, .new, .new, .new, .new, .new, .new, .new, .new, .new, .new, .new, .new, .new, .new, .new, .new, .new, .turn, .skip, .skip, .skip, .skip, .skip, .skip], [(22, [.keep, .again, .again, .keep, .keep, .keep, .again, .keep, .keep, .keep, .keep, .keep, .keep, .keep, .keep, .keep, .again, .again, .again, .again, .keep, .keep, .keep, .new, .new, .turn, .skip, .skip, .skip]), (25, [.keep, .keep, .again, .keep, .keep, .keep, .keep, .keep, .keep, .keep, .keep, .keep, .keep, .keep, .keep, .keep, .again, .again, .again, .again, .keep, .keep, .keep, .keep, .keep, .keep, .new, .new, .turn]), (28, [.keep, .keep, .keep, .keep, .keep, .keep, .keep, .keep, .keep, .keep, .keep, .keep, .keep, .keep, .keep, .keep, .keep, .keep, .keep, .keep, .keep, .keep, .keep, .keep, .keep, .keep, .keep, .keep, .keep])], by decide +kernel, ?_⟩; refine g0_ ?_
            refine ⟨_, ⟨fun _ hk => ACalls.sameN htn (perm_row hx) hk⟩, ?_⟩
            refine g0_ ?_
            (refine g1_ ?_; repeat (refine Elem1.mk fun e_ he_ => ?_; refine g1_ ?_))
            first | obtain rfl := Option.some.inj (hb.symm.trans he_) | obtain rfl := Option.some.inj ((set_at hb _).symm.trans he_) | obtain rfl := Option.some.inj ((set_at (set_at hb _) _).symm.trans he_) | obtain rfl := Option.some.inj ((set_at (set_at (set_at hb _) _) _).symm.trans he_)
            clear he_
            (refine g0_ ?_; repeat (refine Elem1.mk fun e_ he_ => ?_; refine g0_ ?_))
            first | obtain rfl := Option.some.inj (hb.symm.trans he_) | obtain rfl := Option.some.inj ((set_at hb _).symm.trans he_) | obtain rfl := Option.some.inj ((set_at (set_at hb _) _).symm.trans he_) | obtain rfl := Option.some.inj ((set_at (set_at (set_at hb _) _) _).symm.trans he_)
            clear he_
            refine g0_ ?_
            refine ⟨rfl, fun _ => ?_⟩
            simp only [List.set_set]
            refine done_win (w := ⟨w.name, w.s, pane, w.act, !decide (w.act = pane)⟩) hx (List.Perm.swap _ _ _) rfl ?_ ?_ ?_
            · rw [List.map_set]
              (first | exact ⟨_, .refl _⟩ | exact wkMem.rfl' | exact ⟨_, .swap _ _ _⟩ | (repeat (first | exact wkMem.nil _ | exact wkMem.rfl' | exact wk_snoc _ _ _ | exact wk_fam (by assumption) _ _ _ | exact wk_famN (by assumption) _ _ _ | (apply wkMem.cons; (case' hl => (repeat (first | exact .here _ _ _ | apply Look.there)))) | apply wkMem.skip)))
            · first | exact .inl rfl | exact .inr (.inl ⟨_, _, _, _, rfl⟩)
            · first | exact frz_vw (o := none) ho (fun b hb => by cases hb) | exact frz_row lk_ _ (by simp)
          · rw [show zoomW pane w = ⟨w.name, w.s, pane, w.act, !false⟩ from by unfold zoomW; simp [hac, hz]]
            refine acalls_of_vc (DL_ok (by decide)) Tryd.func49 rfl (by decide) (by decide) rfl ?_
            refine g0_ ?_
            refine ACalls.sameN hfn (permF [_] _) ?_
            refine g0_ ?_
            refine ⟨_, eqlH_ref Tryd.underlying59, ?_⟩
            refine g0_ ?_
            refine g1_ ?_
            refine Draws10.chain ⟨29, [.new, .new, .new, .new, .new, .new, .new, .new, .new, .new, .new, .new, .new, .new, .new, .new, .new, .new, .new, .new, .new, .new, .turn, .skip, .skip, .skip, .skip, .skip, .skip], [(22, [.keep, .again, .again, .keep, .keep, .keep, .again, .keep, .keep, .keep, .keep, .keep, .keep, .keep, .keep, .keep, .again, .again, .again, .again, .keep, .keep, .keep, .new, .new, .turn, .skip, .skip, .skip]), (25, [.keep, .keep, .again, .keep, .keep, .keep, .keep, .keep, .keep, .keep, .keep, .keep, .keep, .keep, .keep, .keep, .again, .again, .again, .again, .keep, .keep, .keep, .keep, .keep, .keep, .new, .new, .turn]), (28, [.keep, .keep, .keep, .keep, .keep, .keep, .keep, .keep, .keep, .keep, .keep, .keep, .keep, .keep, .keep, .keep, .keep, .keep, .keep, .keep, .keep, .keep, .keep, .keep, .keep, .keep, .keep, .keep, .keep])], by decide +kernel, ?_⟩; refine g0_ ?_
            refine ⟨_, ⟨fun _ hk => ACalls.sameN htn (perm_row hx) hk⟩, ?_⟩
            refine g0_ ?_
            (refine g1_ ?_; repeat (refine Elem1.mk fun e_ he_ => ?_; refine g1_ ?_))
            first | obtain rfl := Option.some.inj (hb.symm.trans he_) | obtain rfl := Option.some.inj ((set_at hb _).symm.trans he_) | obtain rfl := Option.some.inj ((set_at (set_at hb _) _).symm.trans he_) | obtain rfl := Option.some.inj ((set_at (set_at (set_at hb _) _) _).symm.trans he_)
            clear he_
            (refine g0_ ?_; repeat (refine Elem1.mk fun e_ he_ => ?_; refine g0_ ?_))
            first | obtain rfl := Option.some.inj (hb.symm.trans he_) | obtain rfl := Option.some.inj ((set_at hb _).symm.trans he_) | obtain rfl := Option.some.inj ((set_at (set_at hb _) _).symm.trans he_) | obtain rfl := Option.some.inj ((set_at (set_at (set_at hb _) _) _).symm.trans he_)
            clear he_
            refine g0_ ?_
            refine ⟨rfl, fun _ => ?_⟩
            simp only [List.set_set]
            refine done_win (w := ⟨w.name, w.s, pane, w.act, !false⟩) hx (List.Perm.swap _ _ _) rfl ?_ ?_ ?_
            · rw [List.map_set]
              (first | exact ⟨_, .refl _⟩ | exact wkMem.rfl' | exact ⟨_, .swap _ _ _⟩ | (repeat (first | exact wkMem.nil _ | exact wkMem.rfl' | exact wk_snoc _ _ _ | exact wk_fam (by assumption) _ _ _ | exact wk_famN (by assumption) _ _ _ | (apply wkMem.cons; (case' hl => (repeat (first | exact .here _ _ _ | apply Look.there)))) | apply wkMem.skip)))
            · first | exact .inl rfl | exact .inr (.inl ⟨_, _, _, _, rfl⟩)
            · first | exact frz_vw (o := none) ho (fun b hb => by cases hb) | exact frz_row lk_ _ (by simp)
      · have htn := turnedH_ok W x0.1 _ k w pane hb
        by_cases hac : w.act = pane
        · rw [if_pos hac] at htn
          rcases Bool.eq_false_or_eq_true w.zoom with hz | hz
          · rw [show zoomW pane w = ⟨w.name, w.s, pane, w.bef, !decide (w.act = pane)⟩ from by unfold zoomW; simp [hac, hz]]
            refine acalls_of_vc (DL_ok (by decide)) Tryd.func49 rfl (by decide) (by decide) rfl ?_
            refine g0_ ?_
            refine ACalls.sameN hfn (permF [_, _] _) ?_
            refine g0_ ?_
            refine ⟨_, eqlH_ref Tryd.underlying59, ?_⟩
            refine g0_ ?_
            refine g1_ ?_
            refine Draws10.chain ⟨29, [.new, .new, .new, .new, .new, .new, .new, .new, .new, .new, .new, .new, .new, .new, .new, .new, .new, .new, .new, .new, .new, .new, .turn, .skip, .skip, .skip, .skip, .skip, .skip], [(22, [.keep, .again, .again, .keep, .keep, .keep, .again, .keep, .keep, .keep, .keep, .keep, .keep, .keep, .keep, .keep, .again, .again, .again, .again, .keep, .keep, .keep, .new, .new, .turn, .skip, .skip, .skip]), (25, [.keep, .keep, .again, .keep, .keep, .keep, .keep, .keep, .keep, .keep, .keep, .keep, .keep, .keep, .keep, .keep, .again, .again, .again, .again, .keep, .keep, .keep, .keep, .keep, .keep, .new, .new, .turn]), (28, [.keep, .keep, .keep, .keep, .keep, .keep, .keep, .keep, .keep, .keep, .keep, .keep, .keep, .keep, .keep, .keep, .keep, .keep, .keep, .keep, .keep, .keep, .keep, .keep, .keep, .keep, .keep, .keep, .keep])], by decide +kernel, ?_⟩; refine g0_ ?_
            refine ⟨_, ⟨fun _ hk => ACalls.sameN htn (perm_row hx) hk⟩, ?_⟩
            refine g0_ ?_
            (refine g1_ ?_; repeat (refine Elem1.mk fun e_ he_ => ?_; refine g1_ ?_))
            first | obtain rfl := Option.some.inj (hb.symm.trans he_) | obtain rfl := Option.some.inj ((set_at hb _).symm.trans he_) | obtain rfl := Option.some.inj ((set_at (set_at hb _) _).symm.trans he_) | obtain rfl := Option.some.inj ((set_at (set_at (set_at hb _) _) _).symm.trans he_)
            clear he_
            (refine g0_ ?_; repeat (refine Elem1.mk fun e_ he_ => ?_; refine g0_ ?_))
            first | obtain rfl := Option.some.inj (hb.symm.trans he_) | obtain rfl := Option.some.inj ((set_at hb _).symm.trans he_) | obtain rfl := Option.some.inj ((set_at (set_at hb _) _).symm.trans he_) | obtain rfl := Option.some.inj ((set_at (set_at (set_at hb _) _) _).symm.trans he_)
            clear he_
            refine g0_ ?_
            refine ⟨rfl, fun _ => ?_⟩
            simp only [List.set_set]
            refine done_win (w := ⟨w.name, w.s, pane, w.bef, !decide (w.act = pane)⟩) hx (List.Perm.swap _ _ _) rfl ?_ ?_ ?_
            · rw [List.map_set]
              (first | exact ⟨_, .refl _⟩ | exact wkMem.rfl' | exact ⟨_, .swap _ _ _⟩ | (repeat (first | exact wkMem.nil _ | exact wkMem.rfl' | exact wk_snoc _ _ _ | exact wk_fam (by assumption) _ _ _ | exact wk_famN (by assumption) _ _ _ | (apply wkMem.cons; (case' hl => (repeat (first | exact .here _ _ _ | apply Look.there)))) | apply wkMem.skip)))
            · first | exact .inl rfl | exact .inr (.inl ⟨_, _, _, _, rfl⟩)
            · first | exact frz_vw (o := none) ho (fun b hb => by cases hb) | exact frz_row lk_ _ (by simp)
          · rw [show zoomW pane w = ⟨w.name, w.s, pane, w.bef, !false⟩ from by unfold zoomW; simp [hac, hz]]
            refine acalls_of_vc (DL_ok (by decide)) Tryd.func49 rfl (by decide) (by decide) rfl ?_
            refine g0_ ?_
            refine ACalls.sameN hfn (permF [_, _] _) ?_
            refine g0_ ?_
            refine ⟨_, eqlH_ref Tryd.underlying59, ?_⟩
            refine g0_ ?_
            refine g1_ ?_
            refine Draws10.chain ⟨29, [.new, .new, .new, .new, .new, .new, .new, .new, .new, .new, .new, .new, .new, .new, .new, .new, .new, .new, .new, .new, .new, .new, .turn, .skip, .skip, .skip, .skip, .skip, .skip], [(22, [.keep, .again, .again, .keep, .keep, .keep, .again, .keep, .keep, .keep, .keep, .keep, .keep, .keep, .keep, .keep, .again, .again, .again, .again, .keep, .keep, .keep, .new, .new, .turn, .skip, .skip, .skip]), (25, [.keep, .keep, .again, .keep, .keep, .keep, .keep, .keep, .keep, .keep, .keep, .keep, .keep, .keep, .keep, .keep, .again, .again, .again, .again, .keep, .keep, .keep, .keep, .keep, .keep, .new, .new, .turn]), (28, [.keep, .keep, .keep, .keep, .keep, .keep, .keep, .keep, .keep, .keep, .keep, .keep, .keep, .keep, .keep, .keep, .keep, .keep, .keep, .keep, .keep, .keep, .keep, .keep, .keep, .keep, .keep, .keep, .keep])], by decide +kernel, ?_⟩; refine g0_ ?_
            refine ⟨_, ⟨fun _ hk => ACalls.sameN htn (perm_row hx) hk⟩, ?_⟩
            refine g0_ ?_
            (refine g1_ ?_; repeat (refine Elem1.mk fun e_ he_ => ?_; refine g1_ ?_))
            first | obtain rfl := Option.some.inj (hb.symm.trans he_) | obtain rfl := Option.some.inj ((set_at hb _).symm.trans he_) | obtain rfl := Option.some.inj ((set_at (set_at hb _) _).symm.trans he_) | obtain rfl := Option.some.inj ((set_at (set_at (set_at hb _) _) _).symm.trans he_)
            clear he_
            (refine g0_ ?_; repeat (refine Elem1.mk fun e_ he_ => ?_; refine g0_ ?_))
            first | obtain rfl := Option.some.inj (hb.symm.trans he_) | obtain rfl := Option.some.inj ((set_at hb _).symm.trans he_) | obtain rfl := Option.some.inj ((set_at (set_at hb _) _).symm.trans he_) | obtain rfl := Option.some.inj ((set_at (set_at (set_at hb _) _) _).symm.trans he_)
            clear he_
            refine g0_ ?_
            refine ⟨rfl, fun _ => ?_⟩
            simp only [List.set_set]
            refine done_win (w := ⟨w.name, w.s, pane, w.bef, !false⟩) hx (List.Perm.swap _ _ _) rfl ?_ ?_ ?_
            · rw [List.map_set]
              (first | exact ⟨_, .refl _⟩ | exact wkMem.rfl' | exact ⟨_, .swap _ _ _⟩ | (repeat (first | exact wkMem.nil _ | exact wkMem.rfl' | exact wk_snoc _ _ _ | exact wk_fam (by assumption) _ _ _ | exact wk_famN (by assumption) _ _ _ | (apply wkMem.cons; (case' hl => (repeat (first | exact .here _ _ _ | apply Look.there)))) | apply wkMem.skip)))
            · first | exact .inl rfl | exact .inr (.inl ⟨_, _, _, _, rfl⟩)
            · first | exact frz_vw (o := none) ho (fun b hb => by cases hb) | exact frz_row lk_ _ (by simp)
        · rw [if_neg hac] at htn
          rcases Bool.eq_false_or_eq_true w.zoom with hz | hz
          · rw [show zoomW pane w = ⟨w.name, w.s, pane, w.act, !decide (w.act = pane)⟩ from by unfold zoomW; simp [hac, hz]]
            refine acalls_of_vc (DL_ok (by decide)) Tryd.func49 rfl (by decide) (by decide) rfl ?_
            refine g0_ ?_
            refine ACalls.sameN hfn (permF [_, _] _) ?_
            refine g0_ ?_
            refine ⟨_, eqlH_ref Tryd.underlying59, ?_⟩
            refine g0_ ?_
            refine g1_ ?_
            refine Draws10.chain ⟨29, [.new, .new, .new, .new, .new, .new, .new, .new, .new, .new, .new, .new, .new, .new, .new, .new, .new, .new, .new, .new, .new, .new, .turn, .skip, .skip, .skip, .skip, .skip, .skip], [(22, [.keep, .again, .again, .keep, .keep, .keep, .again, .keep, .keep, .keep, .keep, .keep, .keep, .keep, .keep, .keep, .again, .again, .again, .again, .keep, .keep, .keep, .new, .new, .turn, .skip, .skip, .skip]), (25, [.keep, .keep, .again, .keep, .keep, .keep, .keep, .keep, .keep, .keep, .keep, .keep, .keep, .keep, .keep, .keep, .again, .again, .again, .again, .keep, .keep, .keep, .keep, .keep, .keep, .new, .new, .turn]), (28, [.keep, .keep, .keep, .keep, .keep, .keep, .keep, .keep, .keep, .keep, .keep, .keep, .keep, .keep, .keep, .keep, .keep, .keep, .keep, .keep, .keep, .keep, .keep, .keep, .keep, .keep, .keep, .keep, .keep])], by decide +kernel, ?_⟩; refine g0_ ?_
            refine ⟨_, ⟨fun _ hk => ACalls.sameN htn (perm_row hx) hk⟩, ?_⟩
            refine g0_ ?_
            (refine g1_ ?_; repeat (refine Elem1.mk fun e_ he_ => ?_; refine g1_ ?_))
            first | obtain rfl := Option.some.inj (hb.symm.trans he_) | obtain rfl := Option.some.inj ((set_at hb _).symm.trans he_) | obtain rfl := Option.some.inj ((set_at (set_at hb _) _).symm.trans he_) | obtain rfl := Option.some.inj ((set_at (set_at (set_at hb _) _) _).symm.trans he_)
            clear he_
            (refine g0_ ?_; repeat (refine Elem1.mk fun e_ he_ => ?_; refine g0_ ?_))
            first | obtain rfl := Option.some.inj (hb.symm.trans he_) | obtain rfl := Option.some.inj ((set_at hb _).symm.trans he_) | obtain rfl := Option.some.inj ((set_at (set_at hb _) _).symm.trans he_) | obtain rfl := Option.some.inj ((set_at (set_at (set_at hb _) _) _).symm.trans he_)
            clear he_
            refine g0_ ?_
            refine ⟨rfl, fun _ => ?_⟩
            simp only [List.set_set]
            refine done_win (w := ⟨w.name, w.s, pane, w.act, !decide (w.act = pane)⟩) hx (List.Perm.swap _ _ _) rfl ?_ ?_ ?_
            · rw [List.map_set]
              (first | exact ⟨_, .refl _⟩ | exact wkMem.rfl' | exact ⟨_, .swap _ _ _⟩ | (repeat (first | exact wkMem.nil _ | exact wkMem.rfl' | exact wk_snoc _ _ _ | exact wk_fam (by assumption) _ _ _ | exact wk_famN (by assumption) _ _ _ | (apply wkMem.cons; (case' hl => (repeat (first | exact .here _ _ _ | apply Look.there)))) | apply wkMem.skip)))
            · first | exact .inl rfl | exact .inr (.inl ⟨_, _, _, _, rfl⟩)
            · first | exact frz_vw (o := none) ho (fun b hb => by cases hb) | exact frz_row lk_ _ (by simp)
          · rw [show zoomW pane w = ⟨w.name, w.s, pane, w.act, !false⟩ from by unfold zoomW; simp [hac, hz]]
            refine acalls_of_vc (DL_ok (by decide)) Tryd.func49 rfl (by decide) (by decide) rfl ?_
            refine g0_ ?_
            refine ACalls.sameN hfn (permF [_, _] _) ?_
            refine g0_ ?_
            refine ⟨_, eqlH_ref Tryd.underlying59, ?_⟩
            refine g0_ ?_
            refine g1_ ?_
            refine Draws10.chain ⟨29, [.new, .new, .new, .new, .new, .new, .new, .new, .new, .new, .new, .new, .new, .new, .new, .new, .new, .new, .new, .new, .new, .new, .turn, .skip, .skip, .skip, .skip, .skip, .skip], [(22, [.keep, .again, .again, .keep, .keep, .keep, .again, .keep, .keep, .keep, .keep, .keep, .keep, .keep, .keep, .keep, .again, .again, .again, .again, .keep, .keep, .keep, .new, .new, .turn, .skip, .skip, .skip]), (25, [.keep, .keep, .again, .keep, .keep, .keep, .keep, .keep, .keep, .keep, .keep, .keep, .keep, .keep, .keep, .keep, .again, .again, .again, .again, .keep, .keep, .keep, .keep, .keep, .keep, .new, .new, .turn]), (28, [.keep, .keep, .keep, .keep, .keep, .keep, .keep, .keep, .keep, .keep, .keep, .keep, .keep, .keep, .keep, .keep, .keep, .keep, .keep, .keep, .keep, .keep, .keep, .keep, .keep, .keep, .keep, .keep, .keep])], by decide +kernel, ?_⟩; refine g0_ ?_
            refine ⟨_, ⟨fun _ hk => ACalls.sameN htn (perm_row hx) hk⟩, ?_⟩
            refine g0_ ?_
            (refine g1_ ?_; repeat (refine Elem1.mk fun e_ he_ => ?_; refine g1_ ?_))
            first | obtain rfl := Option.some.inj (hb.symm.trans he_) | obtain rfl := Option.some.inj ((set_at hb _).symm.trans he_) | obtain rfl := Option.some.inj ((set_at (set_at hb _) _).symm.trans he_) | obtain rfl := Option.some.inj ((set_at (set_at (set_at hb _) _) _).symm.trans he_)
            clear he_
            (refine g0_ ?_; repeat (refine Elem1.mk fun e_ he_ => ?_; refine g0_ ?_))
            first | obtain rfl := Option.some.inj (hb.symm.trans he_) | obtain rfl := Option.some.inj ((set_at hb _).symm.trans he_) | obtain rfl := Option.some.inj ((set_at (set_at hb _) _).symm.trans he_) | obtain rfl := Option.some.inj ((set_at (set_at (set_at hb _) _) _).symm.trans he_)
            clear he_
            refine g0_ ?_
            refine ⟨rfl, fun _ => ?_⟩
            simp only [List.set_set]
            refine done_win (w := ⟨w.name, w.s, pane, w.act, !false⟩) hx (List.Perm.swap _ _ _) rfl ?_ ?_ ?_
            · rw [List.map_set]
              (first | exact ⟨_, .refl _⟩ | exact wkMem.rfl' | exact ⟨_, .swap _ _ _⟩ | (repeat (first | exact wkMem.nil _ | exact wkMem.rfl' | exact wk_snoc _ _ _ | exact wk_fam (by assumption) _ _ _ | exact wk_famN (by assumption) _ _ _ | (apply wkMem.cons; (case' hl => (repeat (first | exact .here _ _ _ | apply Look.there)))) | apply wkMem.skip)))
            · first | exact .inl rfl | exact .inr (.inl ⟨_, _, _, _, rfl⟩)
            · first | exact frz_vw (o := none) ho (fun b hb => by cases hb) | exact frz_row lk_ _ (by simp)
theorem hzoomP_ok (hT : Tabs W) (h : Hs) (hok : h.ok) (pane : Int) :
    Pure Tryd.prog W 14 [encHs h, .int .i64 pane] (.tup [encHs (chgR h (onE h pane) (onW (zoomW pane) h pane)).1, .int .i64 (chgR h (onE h pane) (onW (zoomW pane) h pane)).2]) := by
  have hg := fun h0 b bp x hx ho => hzoom1_ok W hT h hok h0 pane b bp x hx ho
  generalize onE h pane = E at *
  generalize onW (zoomW pane) h pane = Y at *
  by_cases h0 : chkH h = 0
  · have hg := hg h0
    have hc := fun cap τ hg => changeH_ok W hT h hok h0 49 cap τ E Y hg
    unfold chgR
    rw [if_neg (by simpa using h0)]
    by_cases hE : E = 0
    · rw [if_pos hE, ← hE]
      rw [if_pos hE] at hc
      dsimp only
      rw [encHs_mk h] at *
      rw [encHs_mk Y] at *
      refine Pure.of (acalls_of_vc (drawOk W) Tryd.func14 rfl (by decide) (by decide) rfl ?_)
      (refine g0_ ?_; repeat (refine n1_ fun b_ => ?_; refine g0_ ?_))
      refine ACalls.lendF (hc _ _ (fun b x hx ho => hg b _ x hx ho)) (lookH1 lk_) ?_
      refine g0_ ?_
      exact .refl _
    · rw [if_neg hE]
      rw [if_neg hE] at hc
      dsimp only
      rw [encHs_mk h] at *
      rw [encHs_mk noHs] at *
      refine Pure.of (acalls_of_vc (drawOk W) Tryd.func14 rfl (by decide) (by decide) rfl ?_)
      (refine g0_ ?_; repeat (refine n1_ fun b_ => ?_; refine g0_ ?_))
      refine ACalls.lendF (hc _ _ (fun b x hx ho => hg b _ x hx ho)) (lookH1 lk_) ?_
      refine g0_ ?_
      exact .refl _
  · have hc := fun cap => changeH_bad W hT h hok h0 49 cap
    unfold chgR
    rw [if_pos h0]
    dsimp only
    generalize chkH h = C at *
    rw [encHs_mk h, encHs_mk noHs] at *
    refine Pure.of (acalls_of_vc (drawOk W) Tryd.func14 rfl (by decide) (by decide) rfl ?_)
    (refine g0_ ?_; repeat (refine n1_ fun b_ => ?_; refine g0_ ?_))
    refine (hc _).use ?_; refine g0_ ?_
    exact .refl _
end Go.Eng.YtkenlcaifhffoaaDoor
end

/- Houses: where a pane is, in the document; Activate (b_ x_ q_ e_). -/
section
namespace Go.Eng.YtkenlcaifhffoaaDoor
open Go Go.Eng Go.Proofs
variable (W : World)
set_option linter.unusedSimpArgs false
set_option maxRecDepth 100000
set_option linter.unusedVariables false
set_option maxHeartbeats 8000000
def whereI (h : Hs) (pane : Int) : Int × Int := match posS h.ses pane with
  | none => (-1, -1)
  | some (i, k) => (i, k)
def actR (p : Int) (w : Win) : Win := if w.act = p then w else ⟨w.name, w.s, p, w.act, w.zoom⟩
end Go.Eng.YtkenlcaifhffoaaDoor
end
