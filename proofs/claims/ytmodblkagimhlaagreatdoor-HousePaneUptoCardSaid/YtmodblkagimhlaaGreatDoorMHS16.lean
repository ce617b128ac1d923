/- Texts put together: Hs11, Hs12. -/
import Derived.Test.YtmodblkagimhlaaGreatDoorMHS13
import Derived.Test.YtmodblkagimhlaaGreatDoorMHS3
/- Houses: a pane picked, a pane zoomed (b_ x_ q_ e_). -/
section
namespace Go.Eng.YtmodblkagimhlaaGreatDoor
open Go Go.Eng Go.Proofs
variable (W : World)
set_option linter.unusedSimpArgs false
set_option maxRecDepth 100000
set_option linter.unusedVariables false
set_option maxHeartbeats 8000000
theorem wk_fam_at {A : Blk} {T : Mem} {L : List (Nat × Ses)} {i : Nat} {x : Nat × Ses} (hx : L[i]? = some x) : wkMem (A :: (T ++ (famM 8 encWin (L.map winsP) ++ []))) (A :: ⟨x.1, .row 8 (x.2.wins.map encWin) 0⟩ :: (famM 8 encWin ((L.map winsP).eraseIdx i) ++ [])) :=
  ⟨T, List.Perm.cons _ (List.perm_append_comm.trans (by rw [List.append_nil, List.append_nil]; exact (famAt hx).append_right T))⟩
theorem perm_row {A B : Blk} {T : Mem} {L : List (Nat × Ses)} {i : Nat} {x : Nat × Ses} (hx : L[i]? = some x) : (A :: B :: (T ++ (famM 8 encWin (L.map winsP) ++ []))).Perm ([⟨x.1, .row 8 (x.2.wins.map encWin) 0⟩] ++ (A :: B :: (T ++ famM 8 encWin ((L.map winsP).eraseIdx i)))) := by
  rw [List.append_nil]
  have h1 : (A :: B :: (T ++ famM 8 encWin (L.map winsP))).Perm ((A :: B :: T) ++ (⟨x.1, .row 8 (x.2.wins.map encWin) 0⟩ :: famM 8 encWin ((L.map winsP).eraseIdx i))) := List.Perm.cons _ (List.Perm.cons _ ((famAt hx).append_left T))
  exact h1.trans List.perm_middle
def pickW (p : Int) (w : Win) : Win := if w.act = p then w else ⟨w.name, w.s, p, w.act, false⟩
def zoomW (p : Int) (w : Win) : Win := ⟨w.name, w.s, p, if w.act = p then w.bef else w.act, !(w.zoom && decide (w.act = p))⟩
def onW (f : Win → Win) (h : Hs) (pane : Int) : Hs := match posS h.ses pane with
  | none => h
  | some (i, k) => match winAt h.ses i k with
    | none => h
    | some w => ⟨setW h.ses i k (f w), h.views, h.next⟩
def onE (h : Hs) (pane : Int) : Int := if posS h.ses pane = none then 6 else 0
theorem perm_oneP {A B : Blk} {M : Mem} : (A :: (M ++ [B])).Perm (A :: B :: M) := List.Perm.cons A (List.perm_append_comm (l₁ := M) (l₂ := [B]))
theorem turnedH_ok (bw : Nat) (ws : List PV) (k : Nat) (w : Win) (p : Int) (hb : ws[k]? = some (encWin w)) : ACalls Tryz.prog W 45 [.ref bw 8 k 0, .int .i64 p] [⟨bw, .row 8 ws 0⟩] (Gives (fun _ : Unit => .int .i64 (if w.act = p then w.bef else w.act)) (fun _ => [⟨bw, .row 8 ws 0⟩]) (fun _ => True)) := by
  have hkl := lt_of_at hb
  by_cases h1 : w.act = p
  · refine acalls_of_vc (DL_ok (by decide)) Tryz.func45 rfl (by decide) (by decide) rfl ?_
    (refine g0_ ?_; repeat (refine Elem1.mk fun e_ he_ => ?_; refine g0_ ?_))
    obtain rfl := Option.some.inj ((hb).symm.trans he_)
    clear he_
    refine g0_ ?_
    (refine g1_ ?_; repeat (refine Elem1.mk fun e_ he_ => ?_; refine g1_ ?_))
    obtain rfl := Option.some.inj ((hb).symm.trans he_)
    clear he_
    refine g0_ ?_
    exact ⟨(), trivial, by rw [if_pos h1], wkMem.rfl'⟩
  · refine acalls_of_vc (DL_ok (by decide)) Tryz.func45 rfl (by decide) (by decide) rfl ?_
    (refine g0_ ?_; repeat (refine Elem1.mk fun e_ he_ => ?_; refine g0_ ?_))
    obtain rfl := Option.some.inj ((hb).symm.trans he_)
    clear he_
    refine g0_ ?_
    (refine g1_ ?_; repeat (refine Elem1.mk fun e_ he_ => ?_; refine g1_ ?_))
    obtain rfl := Option.some.inj ((hb).symm.trans he_)
    clear he_
    refine g0_ ?_
    exact ⟨(), trivial, by rw [if_neg h1], wkMem.rfl'⟩
theorem hpick1_ok (hT : Tabs W) (h : Hs) (hok : h.ok) (h0 : chkH h = 0) (pane : Int) (b bp : Nat) (x : OH) (hx : x.T = h) (ho : x.o = none → x.views = []) :
    ACalls Tryz.prog W 43 [.bref b 0, .bref bp 0] (⟨b, .row 3 [x.V] 0⟩ :: (x.M ++ [⟨bp, .row 1 [.int .i64 pane] 0⟩])) fun v σ' => v = .int .i64 (onE h pane) ∧ (onE h pane = 0 → HsDone b (onW (pickW pane) h pane) σ') := by
  have hsr := right_win h0
  obtain ⟨hl4, -, hn1, hn2, -, -⟩ := right_ses h0
  subst hx
  have hwr : ∀ p ∈ x.L, SesR x.next p.2 := fun p hp => hsr p.2 (List.mem_map.2 ⟨p, hp, rfl⟩)
  have hl4' : x.L.length ≤ 4 := by simpa [OH.T] using hl4
  have hse : ∀ p ∈ x.L, p.2.ok := fun p hp => hok.se p.2 (List.mem_map.2 ⟨p, hp, rfl⟩)
  by_cases hne : x.L = []
  · obtain ⟨bs, L, o, vs, nx⟩ := x
    dsimp only at hne
    subst hne
    refine ACalls.perm ?_ perm_oneP
    unfold OH.V OH.M OH.T onE onW
    dsimp only
    have hfn := fun vv => find_nil W b vv nx pane
    rcases o with _ | bo
    · refine acalls_of_vc (DL_ok (by decide)) Tryz.func43 rfl (by decide) (by decide) rfl ?_
      refine g0_ ?_
      refine ACalls.sameN (hfn _) (lookH1 (by repeat (first | exact .here _ _ _ | apply Look.there))) ?_
      refine g0_ ?_
      refine ⟨_, eqlH_nil Tryz.underlying32, ?_⟩
      refine g0_ ?_
      refine g1_ ?_
      exact ⟨rfl, fun h => by cases h⟩
    · refine acalls_of_vc (DL_ok (by decide)) Tryz.func43 rfl (by decide) (by decide) rfl ?_
      refine g0_ ?_
      refine ACalls.sameN (hfn _) (lookH1 (by repeat (first | exact .here _ _ _ | apply Look.there))) ?_
      refine g0_ ?_
      refine ⟨_, eqlH_nil Tryz.underlying32, ?_⟩
      refine g0_ ?_
      refine g1_ ?_
      exact ⟨rfl, fun h => by cases h⟩
  · refine ACalls.perm ?_ (own_perm hne (fun p hp h => by have := (hwr p hp).many; rw [h] at this; simp at this) b _)
    obtain ⟨bs, L, o, vs, nx⟩ := x
    unfold OH.T at *
    dsimp only at *
    have hw6 : ∀ p ∈ L, p.2.wins.length ≤ 6 := fun p hp => (hwr p hp).many.2
    have hwt : ∀ p ∈ L, ∀ w ∈ p.2.wins, WinT w := fun p hp w hw => winT_of ((hwr p hp).win w hw)
    unfold onE onW
    dsimp only
    cases hps : posS (L.map Prod.snd) pane with
    | none =>
      have hfn := find_none W b bs (vwV o vs) nx L pane hl4' hw6 hwt (fun p hp => posS_none hps p.2 (List.mem_map.2 ⟨p, hp, rfl⟩))
      rw [if_pos rfl]
      dsimp only
      rcases o with _ | bo
      · refine acalls_of_vc (DL_ok (by decide)) Tryz.func43 rfl (by decide) (by decide) rfl ?_
        refine g0_ ?_
        refine ACalls.sameN hfn (permF [_] _) ?_
        refine g0_ ?_
        refine ⟨_, eqlH_nil Tryz.underlying32, ?_⟩
        refine g0_ ?_
        refine g1_ ?_
        exact ⟨rfl, fun h => by cases h⟩
      · refine acalls_of_vc (DL_ok (by decide)) Tryz.func43 rfl (by decide) (by decide) rfl ?_
        refine g0_ ?_
        refine ACalls.sameN hfn (permF [_, _] _) ?_
        refine g0_ ?_
        refine ⟨_, eqlH_nil Tryz.underlying32, ?_⟩
        refine g0_ ?_
        refine g1_ ?_
        exact ⟨rfl, fun h => by cases h⟩
    | some y =>
      obtain ⟨i, k⟩ := y
      obtain ⟨s, w, hs, hw, hp, hb1, hb2⟩ := posS_some hps
      rw [List.getElem?_map] at hs
      obtain ⟨x0, hx, rfl⟩ := Option.map_eq_some_iff.1 hs
      have hfn := find_some W b bs (vwV o vs) nx L pane hl4' hw6 hwt i k x0 w hx hw hp (fun p hp => hb1 p.2 (by rw [← List.map_take]; exact List.mem_map.2 ⟨p, hp, rfl⟩)) hb2
      have hfx := winsP_at hx
      have hkw := lt_of_at hw
      have hb : (List.map encWin x0.2.wins)[k]? = some (encWin w) := by rw [List.getElem?_map, hw]; rfl
      have hkl : k < (List.map encWin x0.2.wins).length := by rw [List.length_map]; exact lt_of_at hw
      have hwa : winAt (L.map Prod.snd) i k = some w := by rw [winAt, List.getElem?_map, hx]; exact hw
      rw [if_neg (by simp)]
      dsimp only
      rw [hwa]
      dsimp only
      rcases o with _ | bo
      · by_cases hac : w.act = pane
        · rw [show pickW pane w = w from if_pos hac]
          refine acalls_of_vc (DL_ok (by decide)) Tryz.func43 rfl (by decide) (by decide) rfl ?_
          refine g0_ ?_
          refine ACalls.sameN hfn (permF [_] _) ?_
          refine g0_ ?_
          refine ⟨_, eqlH_ref Tryz.underlying32, ?_⟩
          refine g0_ ?_
          refine g1_ ?_
          refine headL_ (head_ ?_); refine g0_ ?_
          refine g1_ ?_
          refine ⟨rfl, fun _ => done_win (w := w) hx (.refl _) rfl ?_ ?_ ?_⟩
          · rw [set_self hw]
            exact wk_fam_at hx
          · first | exact .inl rfl | exact .inr (.inl ⟨_, _, _, _, rfl⟩)
          · first | exact frz_vw (o := none) ho (fun b hb => by cases hb) | exact frz_row (by repeat (first | exact .here _ _ _ | apply Look.there)) _ (by simp)
        · rw [show pickW pane w = ⟨w.name, w.s, pane, w.act, false⟩ from if_neg hac]
          refine acalls_of_vc (DL_ok (by decide)) Tryz.func43 rfl (by decide) (by decide) rfl ?_
          refine g0_ ?_
          refine ACalls.sameN hfn (permF [_] _) ?_
          refine g0_ ?_
          refine ⟨_, eqlH_ref Tryz.underlying32, ?_⟩
          refine g0_ ?_
          refine g1_ ?_
          refine headL_ (head_ ?_); refine g0_ ?_
          refine g1_ ?_
          refine Draws10.chain ⟨17, [.new, .new, .new, .new, .new, .new, .new, .new, .new, .new, .turn, .skip, .skip, .skip, .skip, .skip, .skip], [(10, [.keep, .again, .again, .keep, .keep, .keep, .keep, .again, .keep, .keep, .keep, .new, .new, .turn, .skip, .skip, .skip]), (13, [.keep, .keep, .again, .keep, .keep, .keep, .keep, .keep, .keep, .keep, .keep, .keep, .keep, .keep, .new, .new, .turn]), (16, [.keep, .keep, .keep, .keep, .keep, .keep, .keep, .keep, .keep, .keep, .keep, .keep, .keep, .keep, .keep, .keep, .keep])], by decide +kernel, ?_⟩; (refine g0_ ?_; repeat (refine Elem1.mk fun e_ he_ => ?_; refine g0_ ?_))
          first | obtain rfl := Option.some.inj (hb.symm.trans he_) | obtain rfl := Option.some.inj ((set_at hb _).symm.trans he_) | obtain rfl := Option.some.inj ((set_at (set_at hb _) _).symm.trans he_) | obtain rfl := Option.some.inj ((set_at (set_at (set_at hb _) _) _).symm.trans he_)
          clear he_
          (refine g0_ ?_; repeat (refine Elem1.mk fun e_ he_ => ?_; refine g0_ ?_))
          first | obtain rfl := Option.some.inj (hb.symm.trans he_) | obtain rfl := Option.some.inj ((set_at hb _).symm.trans he_) | obtain rfl := Option.some.inj ((set_at (set_at hb _) _).symm.trans he_) | obtain rfl := Option.some.inj ((set_at (set_at (set_at hb _) _) _).symm.trans he_)
          clear he_
          refine g0_ ?_
          refine ⟨rfl, fun _ => ?_⟩
          simp only [List.set_set]
          refine done_win (w := ⟨w.name, w.s, pane, w.act, false⟩) hx (List.Perm.swap _ _ _) rfl ?_ ?_ ?_
          · rw [List.map_set]
            (first | exact ⟨_, .refl _⟩ | exact wkMem.rfl' | exact ⟨_, .swap _ _ _⟩ | (repeat (first | exact wkMem.nil _ | exact wkMem.rfl' | exact wk_snoc _ _ _ | exact wk_fam (by assumption) _ _ _ | exact wk_famN (by assumption) _ _ _ | (apply wkMem.cons; (case' hl => (repeat (first | exact .here _ _ _ | apply Look.there)))) | apply wkMem.skip)))
          · first | exact .inl rfl | exact .inr (.inl ⟨_, _, _, _, rfl⟩)
          · first | exact frz_vw (o := none) ho (fun b hb => by cases hb) | exact frz_row (by repeat (first | exact .here _ _ _ | apply Look.there)) _ (by simp)
      · by_cases hac : w.act = pane
        · rw [show pickW pane w = w from if_pos hac]
          refine acalls_of_vc (DL_ok (by decide)) Tryz.func43 rfl (by decide) (by decide) rfl ?_
          refine g0_ ?_
          refine ACalls.sameN hfn (permF [_, _] _) ?_
          refine g0_ ?_
          refine ⟨_, eqlH_ref Tryz.underlying32, ?_⟩
          refine g0_ ?_
          refine g1_ ?_
          refine headL_ (head_ ?_); refine g0_ ?_
          refine g1_ ?_
          refine ⟨rfl, fun _ => done_win (w := w) hx (.refl _) rfl ?_ ?_ ?_⟩
          · rw [set_self hw]
            exact wk_fam_at hx
          · first | exact .inl rfl | exact .inr (.inl ⟨_, _, _, _, rfl⟩)
          · first | exact frz_vw (o := none) ho (fun b hb => by cases hb) | exact frz_row (by repeat (first | exact .here _ _ _ | apply Look.there)) _ (by simp)
        · rw [show pickW pane w = ⟨w.name, w.s, pane, w.act, false⟩ from if_neg hac]
          refine acalls_of_vc (DL_ok (by decide)) Tryz.func43 rfl (by decide) (by decide) rfl ?_
          refine g0_ ?_
          refine ACalls.sameN hfn (permF [_, _] _) ?_
          refine g0_ ?_
          refine ⟨_, eqlH_ref Tryz.underlying32, ?_⟩
          refine g0_ ?_
          refine g1_ ?_
          refine headL_ (head_ ?_); refine g0_ ?_
          refine g1_ ?_
          refine Draws10.chain ⟨17, [.new, .new, .new, .new, .new, .new, .new, .new, .new, .new, .turn, .skip, .skip, .skip, .skip, .skip, .skip], [(10, [.keep, .again, .again, .keep, .keep, .keep, .keep, .again, .keep, .keep, .keep, .new, .new, .turn, .skip, .skip, .skip]), (13, [.keep, .keep, .again, .keep, .keep, .keep, .keep, .keep, .keep, .keep, .keep, .keep, .keep, .keep, .new, .new, .turn]), (16, [.keep, .keep, .keep, .keep, .keep, .keep, .keep, .keep, .keep, .keep, .keep, .keep, .keep, .keep, .keep, .keep, .keep])], by decide +kernel, ?_⟩; (refine g0_ ?_; repeat (refine Elem1.mk fun e_ he_ => ?_; refine g0_ ?_))
          first | obtain rfl := Option.some.inj (hb.symm.trans he_) | obtain rfl := Option.some.inj ((set_at hb _).symm.trans he_) | obtain rfl := Option.some.inj ((set_at (set_at hb _) _).symm.trans he_) | obtain rfl := Option.some.inj ((set_at (set_at (set_at hb _) _) _).symm.trans he_)
          clear he_
          (refine g0_ ?_; repeat (refine Elem1.mk fun e_ he_ => ?_; refine g0_ ?_))
          first | obtain rfl := Option.some.inj (hb.symm.trans he_) | obtain rfl := Option.some.inj ((set_at hb _).symm.trans he_) | obtain rfl := Option.some.inj ((set_at (set_at hb _) _).symm.trans he_) | obtain rfl := Option.some.inj ((set_at (set_at (set_at hb _) _) _).symm.trans he_)
          clear he_
          refine g0_ ?_
          refine ⟨rfl, fun _ => ?_⟩
          simp only [List.set_set]
          refine done_win (w := ⟨w.name, w.s, pane, w.act, false⟩) hx (List.Perm.swap _ _ _) rfl ?_ ?_ ?_
          · rw [List.map_set]
            (first | exact ⟨_, .refl _⟩ | exact wkMem.rfl' | exact ⟨_, .swap _ _ _⟩ | (repeat (first | exact wkMem.nil _ | exact wkMem.rfl' | exact wk_snoc _ _ _ | exact wk_fam (by assumption) _ _ _ | exact wk_famN (by assumption) _ _ _ | (apply wkMem.cons; (case' hl => (repeat (first | exact .here _ _ _ | apply Look.there)))) | apply wkMem.skip)))
          · first | exact .inl rfl | exact .inr (.inl ⟨_, _, _, _, rfl⟩)
          · first | exact frz_vw (o := none) ho (fun b hb => by cases hb) | exact frz_row (by repeat (first | exact .here _ _ _ | apply Look.there)) _ (by simp)
theorem hzoom1_ok (hT : Tabs W) (h : Hs) (hok : h.ok) (h0 : chkH h = 0) (pane : Int) (b bp : Nat) (x : OH) (hx : x.T = h) (ho : x.o = none → x.views = []) :
    ACalls Tryz.prog W 44 [.bref b 0, .bref bp 0] (⟨b, .row 3 [x.V] 0⟩ :: (x.M ++ [⟨bp, .row 1 [.int .i64 pane] 0⟩])) fun v σ' => v = .int .i64 (onE h pane) ∧ (onE h pane = 0 → HsDone b (onW (zoomW pane) h pane) σ') := by
  have hsr := right_win h0
  obtain ⟨hl4, -, hn1, hn2, -, -⟩ := right_ses h0
  subst hx
  have hwr : ∀ p ∈ x.L, SesR x.next p.2 := fun p hp => hsr p.2 (List.mem_map.2 ⟨p, hp, rfl⟩)
  have hl4' : x.L.length ≤ 4 := by simpa [OH.T] using hl4
  have hse : ∀ p ∈ x.L, p.2.ok := fun p hp => hok.se p.2 (List.mem_map.2 ⟨p, hp, rfl⟩)
  by_cases hne : x.L = []
  · obtain ⟨bs, L, o, vs, nx⟩ := x
    dsimp only at hne
    subst hne
    refine ACalls.perm ?_ perm_oneP
    unfold OH.V OH.M OH.T onE onW
    dsimp only
    have hfn := fun vv => find_nil W b vv nx pane
    rcases o with _ | bo
    · refine acalls_of_vc (DL_ok (by decide)) Tryz.func44 rfl (by decide) (by decide) rfl ?_
      refine g0_ ?_
      refine ACalls.sameN (hfn _) (lookH1 (by repeat (first | exact .here _ _ _ | apply Look.there))) ?_
      refine g0_ ?_
      refine ⟨_, eqlH_nil Tryz.underlying32, ?_⟩
      refine g0_ ?_
      refine g1_ ?_
      exact ⟨rfl, fun h => by cases h⟩
    · refine acalls_of_vc (DL_ok (by decide)) Tryz.func44 rfl (by decide) (by decide) rfl ?_
      refine g0_ ?_
      refine ACalls.sameN (hfn _) (lookH1 (by repeat (first | exact .here _ _ _ | apply Look.there))) ?_
      refine g0_ ?_
      refine ⟨_, eqlH_nil Tryz.underlying32, ?_⟩
      refine g0_ ?_
      refine g1_ ?_
      exact ⟨rfl, fun h => by cases h⟩
  · refine ACalls.perm ?_ (own_perm hne (fun p hp h => by have := (hwr p hp).many; rw [h] at this; simp at this) b _)
    obtain ⟨bs, L, o, vs, nx⟩ := x
    unfold OH.T at *
    dsimp only at *
    have hw6 : ∀ p ∈ L, p.2.wins.length ≤ 6 := fun p hp => (hwr p hp).many.2
    have hwt : ∀ p ∈ L, ∀ w ∈ p.2.wins, WinT w := fun p hp w hw => winT_of ((hwr p hp).win w hw)
    unfold onE onW
    dsimp only
    cases hps : posS (L.map Prod.snd) pane with
    | none =>
      have hfn := find_none W b bs (vwV o vs) nx L pane hl4' hw6 hwt (fun p hp => posS_none hps p.2 (List.mem_map.2 ⟨p, hp, rfl⟩))
      rw [if_pos rfl]
      dsimp only
      rcases o with _ | bo
      · refine acalls_of_vc (DL_ok (by decide)) Tryz.func44 rfl (by decide) (by decide) rfl ?_
        refine g0_ ?_
        refine ACalls.sameN hfn (permF [_] _) ?_
        refine g0_ ?_
        refine ⟨_, eqlH_nil Tryz.underlying32, ?_⟩
        refine g0_ ?_
        refine g1_ ?_
        exact ⟨rfl, fun h => by cases h⟩
      · refine acalls_of_vc (DL_ok (by decide)) Tryz.func44 rfl (by decide) (by decide) rfl ?_
        refine g0_ ?_
        refine ACalls.sameN hfn (permF [_, _] _) ?_
        refine g0_ ?_
        refine ⟨_, eqlH_nil Tryz.underlying32, ?_⟩
        refine g0_ ?_
        refine g1_ ?_
        exact ⟨rfl, fun h => by cases h⟩
    | some y =>
      obtain ⟨i, k⟩ := y
      obtain ⟨s, w, hs, hw, hp, hb1, hb2⟩ := posS_some hps
      rw [List.getElem?_map] at hs
      obtain ⟨x0, hx, rfl⟩ := Option.map_eq_some_iff.1 hs
      have hfn := find_some W b bs (vwV o vs) nx L pane hl4' hw6 hwt i k x0 w hx hw hp (fun p hp => hb1 p.2 (by rw [← List.map_take]; exact List.mem_map.2 ⟨p, hp, rfl⟩)) hb2
      have hfx := winsP_at hx
      have hkw := lt_of_at hw
      have hb : (List.map encWin x0.2.wins)[k]? = some (encWin w) := by rw [List.getElem?_map, hw]; rfl
      have hkl : k < (List.map encWin x0.2.wins).length := by rw [List.length_map]; exact lt_of_at hw
      have hwa : winAt (L.map Prod.snd) i k = some w := by rw [winAt, List.getElem?_map, hx]; exact hw
      rw [if_neg (by simp)]
      dsimp only
      rw [hwa]
      dsimp only
      rcases o with _ | bo
      · have htn := turnedH_ok W x0.1 _ k w pane hb
        by_cases hac : w.act = pane
        · rw [if_pos hac] at htn
          rcases Bool.eq_false_or_eq_true w.zoom with hz | hz
          · rw [show zoomW pane w = ⟨w.name, w.s, pane, w.bef, !decide (w.act = pane)⟩ from by unfold zoomW; simp [hac, hz]]
            refine acalls_of_vc (DL_ok (by decide)) Tryz.func44 rfl (by decide) (by decide) rfl ?_
            refine g0_ ?_
            refine ACalls.sameN hfn (permF [_] _) ?_
            refine g0_ ?_
            refine ⟨_, eqlH_ref Tryz.underlying32, ?_⟩
            refine g0_ ?_
            refine g1_ ?_
            refine Draws10.chain ⟨29, [.new, .new, .new, .new, .new, .new, .new, .new, .new, .new, .new, .new, .new, .new, .new, .new, .new, .new, .new, .new, .new, .new, .turn, .skip, .skip, .skip, .skip, .skip, .skip], [(22, [.keep, .again, .again, .keep, .keep, .keep, .again, .keep, .keep, .keep, .keep, .keep, .keep, .keep, .keep, .keep, .again, .again, .again, .again, .keep, .keep, .keep, .new, .new, .turn, .skip, .skip, .skip]), (25, [.keep, .keep, .again, .keep, .keep, .keep, .keep, .keep, .keep, .keep, .keep, .keep, .keep, .keep, .keep, .keep, .again, .again, .again, .again, .keep, .keep, .keep, .keep, .keep, .keep, .new, .new, .turn]), (28, [.keep, .keep, .keep, .keep, .keep, .keep, .keep, .keep, .keep, .keep, .keep, .keep, .keep, .keep, .keep, .keep, .keep, .keep, .keep, .keep, .keep, .keep, .keep, .keep, .keep, .keep, .keep, .keep, .keep])], by decide +kernel, ?_⟩; refine g0_ ?_
            refine ⟨_, ⟨fun _ hk => ACalls.sameN htn (perm_row hx) hk⟩, ?_⟩
            refine g0_ ?_
            (refine g1_ ?_; repeat (refine Elem1.mk fun e_ he_ => ?_; refine g1_ ?_))
            first | obtain rfl := Option.some.inj (hb.symm.trans he_) | obtain rfl := Option.some.inj ((set_at hb _).symm.trans he_) | obtain rfl := Option.some.inj ((set_at (set_at hb _) _).symm.trans he_) | obtain rfl := Option.some.inj ((set_at (set_at (set_at hb _) _) _).symm.trans he_)
            clear he_
            (refine g0_ ?_; repeat (refine Elem1.mk fun e_ he_ => ?_; refine g0_ ?_))
            first | obtain rfl := Option.some.inj (hb.symm.trans he_) | obtain rfl := Option.some.inj ((set_at hb _).symm.trans he_) | obtain rfl := Option.some.inj ((set_at (set_at hb _) _).symm.trans he_) | obtain rfl := Option.some.inj ((set_at (set_at (set_at hb _) _) _).symm.trans he_)
            clear he_
            refine g0_ ?_
            refine ⟨rfl, fun _ => ?_⟩
            simp only [List.set_set]
            refine done_win (w := ⟨w.name, w.s, pane, w.bef, !decide (w.act = pane)⟩) hx (List.Perm.swap _ _ _) rfl ?_ ?_ ?_
            · rw [List.map_set]
              (first | exact ⟨_, .refl _⟩ | exact wkMem.rfl' | exact ⟨_, .swap _ _ _⟩ | (repeat (first | exact wkMem.nil _ | exact wkMem.rfl' | exact wk_snoc _ _ _ | exact wk_fam (by assumption) _ _ _ | exact wk_famN (by assumption) _ _ _ | (apply wkMem.cons; (case' hl => (repeat (first | exact .here _ _ _ | apply Look.there)))) | apply wkMem.skip)))
            · first | exact .inl rfl | exact .inr (.inl ⟨_, _, _, _, rfl⟩)
            · first | exact frz_vw (o := none) ho (fun b hb => by cases hb) | exact frz_row (by repeat (first | exact .here _ _ _ | apply Look.there)) _ (by simp)
          · rw [show zoomW pane w = ⟨w.name, w.s, pane, w.bef, !false⟩ from by unfold zoomW; simp [hac, hz]]
            refine acalls_of_vc (DL_ok (by decide)) Tryz.func44 rfl (by decide) (by decide) rfl ?_
            refine g0_ ?_
            refine ACalls.sameN hfn (permF [_] _) ?_
            refine g0_ ?_
            refine ⟨_, eqlH_ref Tryz.underlying32, ?_⟩
            refine g0_ ?_
            refine g1_ ?_
            refine Draws10.chain ⟨29, [.new, .new, .new, .new, .new, .new, .new, .new, .new, .new, .new, .new, .new, .new, .new, .new, .new, .new, .new, .new, .new, .new, .turn, .skip, .skip, .skip, .skip, .skip, .skip], [(22, [.keep, .again, .again, .keep, .keep, .keep, .again, .keep, .keep, .keep, .keep, .keep, .keep, .keep, .keep, .keep, .again, .again, .again, .again, .keep, .keep, .keep, .new, .new, .turn, .skip, .skip, .skip]), (25, [.keep, .keep, .again, .keep, .keep, .keep, .keep, .keep, .keep, .keep, .keep, .keep, .keep, .keep, .keep, .keep, .again, .again, .again, .again, .keep, .keep, .keep, .keep, .keep, .keep, .new, .new, .turn]), (28, [.keep, .keep, .keep, .keep, .keep, .keep, .keep, .keep, .keep, .keep, .keep, .keep, .keep, .keep, .keep, .keep, .keep, .keep, .keep, .keep, .keep, .keep, .keep, .keep, .keep, .keep, .keep, .keep, .keep])], by decide +kernel, ?_⟩; refine g0_ ?_
            refine ⟨_, ⟨fun _ hk => ACalls.sameN htn (perm_row hx) hk⟩, ?_⟩
            refine g0_ ?_
            (refine g1_ ?_; repeat (refine Elem1.mk fun e_ he_ => ?_; refine g1_ ?_))
            first | obtain rfl := Option.some.inj (hb.symm.trans he_) | obtain rfl := Option.some.inj ((set_at hb _).symm.trans he_) | obtain rfl := Option.some.inj ((set_at (set_at hb _) _).symm.trans he_) | obtain rfl := Option.some.inj ((set_at (set_at (set_at hb _) _) _).symm.trans he_)
            clear he_
            (refine g0_ ?_; repeat (refine Elem1.mk fun e_ he_ => ?_; refine g0_ ?_))
            first | obtain rfl := Option.some.inj (hb.symm.trans he_) | obtain rfl := Option.some.inj ((set_at hb _).symm.trans he_) | obtain rfl := Option.some.inj ((set_at (set_at hb _) _).symm.trans he_) | obtain rfl := Option.some.inj ((set_at (set_at (set_at hb _) _) _).symm.trans he_)
            clear he_
            refine g0_ ?_
            refine ⟨rfl, fun _ => ?_⟩
            simp only [List.set_set]
            refine done_win (w := ⟨w.name, w.s, pane, w.bef, !false⟩) hx (List.Perm.swap _ _ _) rfl ?_ ?_ ?_
            · rw [List.map_set]
              (first | exact ⟨_, .refl _⟩ | exact wkMem.rfl' | exact ⟨_, .swap _ _ _⟩ | (repeat (first | exact wkMem.nil _ | exact wkMem.rfl' | exact wk_snoc _ _ _ | exact wk_fam (by assumption) _ _ _ | exact wk_famN (by assumption) _ _ _ | (apply wkMem.cons; (case' hl => (repeat (first | exact .here _ _ _ | apply Look.there)))) | apply wkMem.skip)))
            · first | exact .inl rfl | exact .inr (.inl ⟨_, _, _, _, rfl⟩)
            · first | exact frz_vw (o := none) ho (fun b hb => by cases hb) | exact frz_row (by repeat (first | exact .here _ _ _ | apply Look.there)) _ (by simp)
        · rw [if_neg hac] at htn
          rcases Bool.eq_false_or_eq_true w.zoom with hz | hz
          · rw [show zoomW pane w = ⟨w.name, w.s, pane, w.act, !decide (w.act = pane)⟩ from by unfold zoomW; simp [hac, hz]]
            refine acalls_of_vc (DL_ok (by decide)) Tryz.func44 rfl (by decide) (by decide) rfl ?_
            refine g0_ ?_
            refine ACalls.sameN hfn (permF [_] _) ?_
            refine g0_ ?_
            refine ⟨_, eqlH_ref Tryz.underlying32, ?_⟩
            refine g0_ ?_
            refine g1_ ?_
            refine Draws10.chain ⟨29, [.new, .new, .new, .new, .new, .new, .new, .new, .new, .new, .new, .new, .new, .new, .new, .new, .new, .new, .new, .new, .new, .new, .turn, .skip, .skip, .skip, .skip, .skip, .skip], [(22, [.keep, .again, .again, .keep, .keep, .keep, .again, .keep, .keep, .keep, .keep, .keep, .keep, .keep, .keep, .keep, .again, .again, .again, .again, .keep, .keep, .keep, .new, .new, .turn, .skip, .skip, .skip]), (25, [.keep, .keep, .again, .keep, .keep, .keep, .keep, .keep, .keep, .keep, .keep, .keep, .keep, .keep, .keep, .keep, .again, .again, .again, .again, .keep, .keep, .keep, .keep, .keep, .keep, .new, .new, .turn]), (28, [.keep, .keep, .keep, .keep, .keep, .keep, .keep, .keep, .keep, .keep, .keep, .keep, .keep, .keep, .keep, .keep, .keep, .keep, .keep, .keep, .keep, .keep, .keep, .keep, .keep, .keep, .keep, .keep, .keep])], by decide +kernel, ?_⟩; refine g0_ ?_
            refine ⟨_, ⟨fun _ hk => ACalls.sameN htn (perm_row hx) hk⟩, ?_⟩
            refine g0_ ?_
            (refine g1_ ?_; repeat (refine Elem1.mk fun e_ he_ => ?_; refine g1_ ?_))
            first | obtain rfl := Option.some.inj (hb.symm.trans he_) | obtain rfl := Option.some.inj ((set_at hb _).symm.trans he_) | obtain rfl := Option.some.inj ((set_at (set_at hb _) _).symm.trans he_) | obtain rfl := Option.some.inj ((set_at (set_at (set_at hb _) _) _).symm.trans he_)
            clear he_
            (refine g0_ ?_; repeat (refine Elem1.mk fun e_ he_ => ?_; refine g0_ ?_))
            first | obtain rfl := Option.some.inj (hb.symm.trans he_) | obtain rfl := Option.some.inj ((set_at hb _).symm.trans he_) | obtain rfl := Option.some.inj ((set_at (set_at hb _) _).symm.trans he_) | obtain rfl := Option.some.inj ((set_at (set_at (set_at hb _) _) _).symm.trans he_)
            clear he_
            refine g0_ ?_
            refine ⟨rfl, fun _ => ?_⟩
            simp only [List.set_set]
            refine done_win (w := ⟨w.name, w.s, pane, w.act, !decide (w.act = pane)⟩) hx (List.Perm.swap _ _ _) rfl ?_ ?_ ?_
            · rw [List.map_set]
              (first | exact ⟨_, .refl _⟩ | exact wkMem.rfl' | exact ⟨_, .swap _ _ _⟩ | (repeat (first | exact wkMem.nil _ | exact wkMem.rfl' | exact wk_snoc _ _ _ | exact wk_fam (by assumption) _ _ _ | exact wk_famN (by assumption) _ _ _ | (apply wkMem.cons; (case' hl => (repeat (first | exact .here _ _ _ | apply Look.there)))) | apply wkMem.skip)))
            · first | exact .inl rfl | exact .inr (.inl ⟨_, _, _, _, rfl⟩)
            · first | exact frz_vw (o := none) ho (fun b hb => by cases hb) | exact frz_row (by repeat (first | exact .here _ _ _ | apply Look.there)) _ (by simp)
          · rw [show zoomW pane w = ⟨w.name, w.s, pane, w.act, !false⟩ from by unfold zoomW; simp [hac, hz]]
            refine acalls_of_vc (DL_ok (by decide)) Tryz.func44 rfl (by decide) (by decide) rfl ?_
            refine g0_ ?_
            refine ACalls.sameN hfn (permF [_] _) ?_
            refine g0_ ?_
            refine ⟨_, eqlH_ref Tryz.underlying32, ?_⟩
            refine g0_ ?_
            refine g1_ ?_
            refine Draws10.chain ⟨29, [.new, .new, .new, .new, .new, .new, .new, .new, .new, .new, .new, .new, .new, .new, .new, .new, .new, .new, .new, .new, .new, .new, .turn, .skip, .skip, .skip, .skip, .skip, .skip], [(22, [.keep, .again, .again, .keep, .keep, .keep, .again, .keep, .keep, .keep, .keep, .keep, .keep, .keep, .keep, .keep, .again, .again, .again, .again, .keep, .keep, .keep, .new, .new, .turn, .skip, .skip, .skip]), (25, [.keep, .keep, .again, .keep, .keep, .keep, .keep, .keep, .keep, .keep, .keep, .keep, .keep, .keep, .keep, .keep, .again, .again, .again, .again, .keep, .keep, .keep, .keep, .keep, .keep, .new, .new, .turn]), (28, [.keep, .keep, .keep, .keep, .keep, .keep, .keep, .keep, .keep, .keep, .keep, .keep, .keep, .keep, .keep, .keep, .keep, .keep, .keep, .keep, .keep, .keep, .keep, .keep, .keep, .keep, .keep, .keep, .keep])], by decide +kernel, ?_⟩; refine g0_ ?_
            refine ⟨_, ⟨fun _ hk => ACalls.sameN htn (perm_row hx) hk⟩, ?_⟩
            refine g0_ ?_
            (refine g1_ ?_; repeat (refine Elem1.mk fun e_ he_ => ?_; refine g1_ ?_))
            first | obtain rfl := Option.some.inj (hb.symm.trans he_) | obtain rfl := Option.some.inj ((set_at hb _).symm.trans he_) | obtain rfl := Option.some.inj ((set_at (set_at hb _) _).symm.trans he_) | obtain rfl := Option.some.inj ((set_at (set_at (set_at hb _) _) _).symm.trans he_)
            clear he_
            (refine g0_ ?_; repeat (refine Elem1.mk fun e_ he_ => ?_; refine g0_ ?_))
            first | obtain rfl := Option.some.inj (hb.symm.trans he_) | obtain rfl := Option.some.inj ((set_at hb _).symm.trans he_) | obtain rfl := Option.some.inj ((set_at (set_at hb _) _).symm.trans he_) | obtain rfl := Option.some.inj ((set_at (set_at (set_at hb _) _) _).symm.trans he_)
            clear he_
            refine g0_ ?_
            refine ⟨rfl, fun _ => ?_⟩
            simp only [List.set_set]
            refine done_win (w := ⟨w.name, w.s, pane, w.act, !false⟩) hx (List.Perm.swap _ _ _) rfl ?_ ?_ ?_
            · rw [List.map_set]
              (first | exact ⟨_, .refl _⟩ | exact wkMem.rfl' | exact ⟨_, .swap _ _ _⟩ | (repeat (first | exact wkMem.nil _ | exact wkMem.rfl' | exact wk_snoc _ _ _ | exact wk_fam (by assumption) _ _ _ | exact wk_famN (by assumption) _ _ _ | (apply wkMem.cons; (case' hl => (repeat (first | exact .here _ _ _ | apply Look.there)))) | apply wkMem.skip)))
            · first | exact .inl rfl | exact .inr (.inl ⟨_, _, _, _, rfl⟩)
            · first | exact frz_vw (o := none) ho (fun b hb => by cases hb) | exact frz_row (by repeat (first | exact .here _ _ _ | apply Look.there)) _ (by simp)
      · have htn := turnedH_ok W x0.1 _ k w pane hb
        by_cases hac : w.act = pane
        · rw [if_pos hac] at htn
          rcases Bool.eq_false_or_eq_true w.zoom with hz | hz
          · rw [show zoomW pane w = ⟨w.name, w.s, pane, w.bef, !decide (w.act = pane)⟩ from by unfold zoomW; simp [hac, hz]]
            refine acalls_of_vc (DL_ok (by decide)) Tryz.func44 rfl (by decide) (by decide) rfl ?_
            refine g0_ ?_
            refine ACalls.sameN hfn (permF [_, _] _) ?_
            refine g0_ ?_
            refine ⟨_, eqlH_ref Tryz.underlying32, ?_⟩
            refine g0_ ?_
            refine g1_ ?_
            refine Draws10.chain ⟨29, [.new, .new, .new, .new, .new, .new, .new, .new, .new, .new, .new, .new, .new, .new, .new, .new, .new, .new, .new, .new, .new, .new, .turn, .skip, .skip, .skip, .skip, .skip, .skip], [(22, [.keep, .again, .again, .keep, .keep, .keep, .again, .keep, .keep, .keep, .keep, .keep, .keep, .keep, .keep, .keep, .again, .again, .again, .again, .keep, .keep, .keep, .new, .new, .turn, .skip, .skip, .skip]), (25, [.keep, .keep, .again, .keep, .keep, .keep, .keep, .keep, .keep, .keep, .keep, .keep, .keep, .keep, .keep, .keep, .again, .again, .again, .again, .keep, .keep, .keep, .keep, .keep, .keep, .new, .new, .turn]), (28, [.keep, .keep, .keep, .keep, .keep, .keep, .keep, .keep, .keep, .keep, .keep, .keep, .keep, .keep, .keep, .keep, .keep, .keep, .keep, .keep, .keep, .keep, .keep, .keep, .keep, .keep, .keep, .keep, .keep])], by decide +kernel, ?_⟩; refine g0_ ?_
            refine ⟨_, ⟨fun _ hk => ACalls.sameN htn (perm_row hx) hk⟩, ?_⟩
            refine g0_ ?_
            (refine g1_ ?_; repeat (refine Elem1.mk fun e_ he_ => ?_; refine g1_ ?_))
            first | obtain rfl := Option.some.inj (hb.symm.trans he_) | obtain rfl := Option.some.inj ((set_at hb _).symm.trans he_) | obtain rfl := Option.some.inj ((set_at (set_at hb _) _).symm.trans he_) | obtain rfl := Option.some.inj ((set_at (set_at (set_at hb _) _) _).symm.trans he_)
            clear he_
            (refine g0_ ?_; repeat (refine Elem1.mk fun e_ he_ => ?_; refine g0_ ?_))
            first | obtain rfl := Option.some.inj (hb.symm.trans he_) | obtain rfl := Option.some.inj ((set_at hb _).symm.trans he_) | obtain rfl := Option.some.inj ((set_at (set_at hb _) _).symm.trans he_) | obtain rfl := Option.some.inj ((set_at (set_at (set_at hb _) _) _).symm.trans he_)
            clear he_
            refine g0_ ?_
            refine ⟨rfl, fun _ => ?_⟩
            simp only [List.set_set]
            refine done_win (w := ⟨w.name, w.s, pane, w.bef, !decide (w.act = pane)⟩) hx (List.Perm.swap _ _ _) rfl ?_ ?_ ?_
            · rw [List.map_set]
              (first | exact ⟨_, .refl _⟩ | exact wkMem.rfl' | exact ⟨_, .swap _ _ _⟩ | (repeat (first | exact wkMem.nil _ | exact wkMem.rfl' | exact wk_snoc _ _ _ | exact wk_fam (by assumption) _ _ _ | exact wk_famN (by assumption) _ _ _ | (apply wkMem.cons; (case' hl => (repeat (first | exact .here _ _ _ | apply Look.there)))) | apply wkMem.skip)))
            · first | exact .inl rfl | exact .inr (.inl ⟨_, _, _, _, rfl⟩)
            · first | exact frz_vw (o := none) ho (fun b hb => by cases hb) | exact frz_row (by repeat (first | exact .here _ _ _ | apply Look.there)) _ (by simp)
          · rw [show zoomW pane w = ⟨w.name, w.s, pane, w.bef, !false⟩ from by unfold zoomW; simp [hac, hz]]
            refine acalls_of_vc (DL_ok (by decide)) Tryz.func44 rfl (by decide) (by decide) rfl ?_
            refine g0_ ?_
            refine ACalls.sameN hfn (permF [_, _] _) ?_
            refine g0_ ?_
            refine ⟨_, eqlH_ref Tryz.underlying32, ?_⟩
            refine g0_ ?_
            refine g1_ ?_
            refine Draws10.chain ⟨29, [.new, .new, .new, .new, .new, .new, .new, .new, .new, .new, .new, .new, .new, .new, .new, .new, .new, .new, .new, .new, .new, .new, .turn, .skip, .skip, .skip, .skip, .skip, .skip], [(22, [.keep, .again, .again, .keep, .keep, .keep, .again, .keep, .keep, .keep, .keep, .keep, .keep, .keep, .keep, .keep, .again, .again, .again, .again, .keep, .keep, .keep, .new, .new, .turn, .skip, .skip, .skip]), (25, [.keep, .keep, .again, .keep, .keep, .keep, .keep, .keep, .keep, .keep, .keep, .keep, .keep, .keep, .keep, .keep, .again, .again, .again, .again, .keep, .keep, .keep, .keep, .keep, .keep, .new, .new, .turn]), (28, [.keep, .keep, .keep, .keep, .keep, .keep, .keep, .keep, .keep, .keep, .keep, .keep, .keep, .keep, .keep, .keep, .keep, .keep, .keep, .keep, .keep, .keep, .keep, .keep, .keep, .keep, .keep, .keep, .keep])], by decide +kernel, ?_⟩; refine g0_ ?_
            refine ⟨_, ⟨fun _ hk => ACalls.sameN htn (perm_row hx) hk⟩, ?_⟩
            refine g0_ ?_
            (refine g1_ ?_; repeat (refine Elem1.mk fun e_ he_ => ?_; refine g1_ ?_))
            first | obtain rfl := Option.some.inj (hb.symm.trans he_) | obtain rfl := Option.some.inj ((set_at hb _).symm.trans he_) | obtain rfl := Option.some.inj ((set_at (set_at hb _) _).symm.trans he_) | obtain rfl := Option.some.inj ((set_at (set_at (set_at hb _) _) _).symm.trans he_)
            clear he_
            (refine g0_ ?_; repeat (refine Elem1.mk fun e_ he_ => ?_; refine g0_ ?_))
            first | obtain rfl := Option.some.inj (hb.symm.trans he_) | obtain rfl := Option.some.inj ((set_at hb _).symm.trans he_) | obtain rfl := Option.some.inj ((set_at (set_at hb _) _).symm.trans he_) | obtain rfl := Option.some.inj ((set_at (set_at (set_at hb _) _) _).symm.trans he_)
            clear he_
            refine g0_ ?_
            refine ⟨rfl, fun _ => ?_⟩
            simp only [List.set_set]
            refine done_win (w := ⟨w.name, w.s, pane, w.bef, !false⟩) hx (List.Perm.swap _ _ _) rfl ?_ ?_ ?_
            · rw [List.map_set]
              (first | exact ⟨_, .refl _⟩ | exact wkMem.rfl' | exact ⟨_, .swap _ _ _⟩ | (repeat (first | exact wkMem.nil _ | exact wkMem.rfl' | exact wk_snoc _ _ _ | exact wk_fam (by assumption) _ _ _ | exact wk_famN (by assumption) _ _ _ | (apply wkMem.cons; (case' hl => (repeat (first | exact .here _ _ _ | apply Look.there)))) | apply wkMem.skip)))
            · first | exact .inl rfl | exact .inr (.inl ⟨_, _, _, _, rfl⟩)
            · first | exact frz_vw (o := none) ho (fun b hb => by cases hb) | exact frz_row (by repeat (first | exact .here _ _ _ | apply Look.there)) _ (by simp)
        · rw [if_neg hac] at htn
          rcases Bool.eq_false_or_eq_true w.zoom with hz | hz
          · rw [show zoomW pane w = ⟨w.name, w.s, pane, w.act, !decide (w.act = pane)⟩ from by unfold zoomW; simp [hac, hz]]
            refine acalls_of_vc (DL_ok (by decide)) Tryz.func44 rfl (by decide) (by decide) rfl ?_
            refine g0_ ?_
            refine ACalls.sameN hfn (permF [_, _] _) ?_
            refine g0_ ?_
            refine ⟨_, eqlH_ref Tryz.underlying32, ?_⟩
            refine g0_ ?_
            refine g1_ ?_
            refine Draws10.chain ⟨29, [.new, .new, .new, .new, .new, .new, .new, .new, .new, .new, .new, .new, .new, .new, .new, .new, .new, .new, .new, .new, .new, .new, .turn, .skip, .skip, .skip, .skip, .skip, .skip], [(22, [.keep, .again, .again, .keep, .keep, .keep, .again, .keep, .keep, .keep, .keep, .keep, .keep, .keep, .keep, .keep, .again, .again, .again, .again, .keep, .keep, .keep, .new, .new, .turn, .skip, .skip, .skip]), (25, [.keep, .keep, .again, .keep, .keep, .keep, .keep, .keep, .keep, .keep, .keep, .keep, .keep, .keep, .keep, .keep, .again, .again, .again, .again, .keep, .keep, .keep, .keep, .keep, .keep, .new, .new, .turn]), (28, [.keep, .keep, .keep, .keep, .keep, .keep, .keep, .keep, .keep, .keep, .keep, .keep, .keep, .keep, .keep, .keep, .keep, .keep, .keep, .keep, .keep, .keep, .keep, .keep, .keep, .keep, .keep, .keep, .keep])], by decide +kernel, ?_⟩; refine g0_ ?_
            refine ⟨_, ⟨fun _ hk => ACalls.sameN htn (perm_row hx) hk⟩, ?_⟩
            refine g0_ ?_
            (refine g1_ ?_; repeat (refine Elem1.mk fun e_ he_ => ?_; refine g1_ ?_))
            first | obtain rfl := Option.some.inj (hb.symm.trans he_) | obtain rfl := Option.some.inj ((set_at hb _).symm.trans he_) | obtain rfl := Option.some.inj ((set_at (set_at hb _) _).symm.trans he_) | obtain rfl := Option.some.inj ((set_at (set_at (set_at hb _) _) _).symm.trans he_)
            clear he_
            (refine g0_ ?_; repeat (refine Elem1.mk fun e_ he_ => ?_; refine g0_ ?_))
            first | obtain rfl := Option.some.inj (hb.symm.trans he_) | obtain rfl := Option.some.inj ((set_at hb _).symm.trans he_) | obtain rfl := Option.some.inj ((set_at (set_at hb _) _).symm.trans he_) | obtain rfl := Option.some.inj ((set_at (set_at (set_at hb _) _) _).symm.trans he_)
            clear he_
            refine g0_ ?_
            refine ⟨rfl, fun _ => ?_⟩
            simp only [List.set_set]
            refine done_win (w := ⟨w.name, w.s, pane, w.act, !decide (w.act = pane)⟩) hx (List.Perm.swap _ _ _) rfl ?_ ?_ ?_
            · rw [List.map_set]
              (first | exact ⟨_, .refl _⟩ | exact wkMem.rfl' | exact ⟨_, .swap _ _ _⟩ | (repeat (first | exact wkMem.nil _ | exact wkMem.rfl' | exact wk_snoc _ _ _ | exact wk_fam (by assumption) _ _ _ | exact wk_famN (by assumption) _ _ _ | (apply wkMem.cons; (case' hl => (repeat (first | exact .here _ _ _ | apply Look.there)))) | apply wkMem.skip)))
            · first | exact .inl rfl | exact .inr (.inl ⟨_, _, _, _, rfl⟩)
            · first | exact frz_vw (o := none) ho (fun b hb => by cases hb) | exact frz_row (by repeat (first | exact .here _ _ _ | apply Look.there)) _ (by simp)
          · rw [show zoomW pane w = ⟨w.name, w.s, pane, w.act, !false⟩ from by unfold zoomW; simp [hac, hz]]
            refine acalls_of_vc (DL_ok (by decide)) Tryz.func44 rfl (by decide) (by decide) rfl ?_
            refine g0_ ?_
            refine ACalls.sameN hfn (permF [_, _] _) ?_
            refine g0_ ?_
            refine ⟨_, eqlH_ref Tryz.underlying32, ?_⟩
            refine g0_ ?_
            refine g1_ ?_
            refine Draws10.chain ⟨29, [.new, .new, .new, .new, .new, .new, .new, .new, .new, .new, .new, .new, .new, .new, .new, .new, .new, .new, .new, .new, .new, .new, .turn, .skip, .skip, .skip, .skip, .skip, .skip], [(22, [.keep, .again, .again, .keep, .keep, .keep, .again, .keep, .keep, .keep, .keep, .keep, .keep, .keep, .keep, .keep, .again, .again, .again, .again, .keep, .keep, .keep, .new, .new, .turn, .skip, .skip, .skip]), (25, [.keep, .keep, .again, .keep, .keep, .keep, .keep, .keep, .keep, .keep, .keep, .keep, .keep, .keep, .keep, .keep, .again, .again, .again, .again, .keep, .keep, .keep, .keep, .keep, .keep, .new, .new, .turn]), (28, [.keep, .keep, .keep, .keep, .keep, .keep, .keep, .keep, .keep, .keep, .keep, .keep, .keep, .keep, .keep, .keep, .keep, .keep, .keep, .keep, .keep, .keep, .keep, .keep, .keep, .keep, .keep, .keep, .keep])], by decide +kernel, ?_⟩; refine g0_ ?_
            refine ⟨_, ⟨fun _ hk => ACalls.sameN htn (perm_row hx) hk⟩, ?_⟩
            refine g0_ ?_
            (refine g1_ ?_; repeat (refine Elem1.mk fun e_ he_ => ?_; refine g1_ ?_))
            first | obtain rfl := Option.some.inj (hb.symm.trans he_) | obtain rfl := Option.some.inj ((set_at hb _).symm.trans he_) | obtain rfl := Option.some.inj ((set_at (set_at hb _) _).symm.trans he_) | obtain rfl := Option.some.inj ((set_at (set_at (set_at hb _) _) _).symm.trans he_)
            clear he_
            (refine g0_ ?_; repeat (refine Elem1.mk fun e_ he_ => ?_; refine g0_ ?_))
            first | obtain rfl := Option.some.inj (hb.symm.trans he_) | obtain rfl := Option.some.inj ((set_at hb _).symm.trans he_) | obtain rfl := Option.some.inj ((set_at (set_at hb _) _).symm.trans he_) | obtain rfl := Option.some.inj ((set_at (set_at (set_at hb _) _) _).symm.trans he_)
            clear he_
            refine g0_ ?_
            refine ⟨rfl, fun _ => ?_⟩
            simp only [List.set_set]
            refine done_win (w := ⟨w.name, w.s, pane, w.act, !false⟩) hx (List.Perm.swap _ _ _) rfl ?_ ?_ ?_
            · rw [List.map_set]
              (first | exact ⟨_, .refl _⟩ | exact wkMem.rfl' | exact ⟨_, .swap _ _ _⟩ | (repeat (first | exact wkMem.nil _ | exact wkMem.rfl' | exact wk_snoc _ _ _ | exact wk_fam (by assumption) _ _ _ | exact wk_famN (by assumption) _ _ _ | (apply wkMem.cons; (case' hl => (repeat (first | exact .here _ _ _ | apply Look.there)))) | apply wkMem.skip)))
            · first | exact .inl rfl | exact .inr (.inl ⟨_, _, _, _, rfl⟩)
            · first | exact frz_vw (o := none) ho (fun b hb => by cases hb) | exact frz_row (by repeat (first | exact .here _ _ _ | apply Look.there)) _ (by simp)
theorem hpickP_ok (hT : Tabs W) (h : Hs) (hok : h.ok) (pane : Int) :
    Pure Tryz.prog W 17 [encHs h, .int .i64 pane] (.tup [encHs (chgR h (onE h pane) (onW (pickW pane) h pane)).1, .int .i64 (chgR h (onE h pane) (onW (pickW pane) h pane)).2]) := by
  have hg := fun h0 b bp x hx ho => hpick1_ok W hT h hok h0 pane b bp x hx ho
  generalize onE h pane = E at *
  generalize onW (pickW pane) h pane = Y at *
  by_cases h0 : chkH h = 0
  · have hg := hg h0
    have hc := fun cap τ hg => changeH_ok W hT h hok h0 43 cap τ E Y hg
    unfold chgR
    rw [if_neg (by simpa using h0)]
    by_cases hE : E = 0
    · rw [if_pos hE, ← hE]
      rw [if_pos hE] at hc
      dsimp only
      rw [encHs_mk h] at *
      rw [encHs_mk Y] at *
      refine Pure.of (acalls_of_vc (drawOk W) Tryz.func17 rfl (by decide) (by decide) rfl ?_)
      (refine g0_ ?_; repeat (refine n1_ fun b_ => ?_; refine g0_ ?_))
      refine ACalls.lendF (hc _ _ (fun b x hx ho => hg b _ x hx ho)) (lookH1 (by repeat (first | exact .here _ _ _ | apply Look.there))) ?_
      refine g0_ ?_
      exact .refl _
    · rw [if_neg hE]
      rw [if_neg hE] at hc
      dsimp only
      rw [encHs_mk h] at *
      rw [encHs_mk noHs] at *
      refine Pure.of (acalls_of_vc (drawOk W) Tryz.func17 rfl (by decide) (by decide) rfl ?_)
      (refine g0_ ?_; repeat (refine n1_ fun b_ => ?_; refine g0_ ?_))
      refine ACalls.lendF (hc _ _ (fun b x hx ho => hg b _ x hx ho)) (lookH1 (by repeat (first | exact .here _ _ _ | apply Look.there))) ?_
      refine g0_ ?_
      exact .refl _
  · have hc := fun cap => changeH_bad W hT h hok h0 43 cap
    unfold chgR
    rw [if_pos h0]
    dsimp only
    generalize chkH h = C at *
    rw [encHs_mk h, encHs_mk noHs] at *
    refine Pure.of (acalls_of_vc (drawOk W) Tryz.func17 rfl (by decide) (by decide) rfl ?_)
    (refine g0_ ?_; repeat (refine n1_ fun b_ => ?_; refine g0_ ?_))
    refine (hc _).use ?_; refine g0_ ?_
    exact .refl _
theorem hzoomP_ok (hT : Tabs W) (h : Hs) (hok : h.ok) (pane : Int) :
    Pure Tryz.prog W 20 [encHs h, .int .i64 pane] (.tup [encHs (chgR h (onE h pane) (onW (zoomW pane) h pane)).1, .int .i64 (chgR h (onE h pane) (onW (zoomW pane) h pane)).2]) := by
  have hg := fun h0 b bp x hx ho => hzoom1_ok W hT h hok h0 pane b bp x hx ho
  generalize onE h pane = E at *
  generalize onW (zoomW pane) h pane = Y at *
  by_cases h0 : chkH h = 0
  · have hg := hg h0
    have hc := fun cap τ hg => changeH_ok W hT h hok h0 44 cap τ E Y hg
    unfold chgR
    rw [if_neg (by simpa using h0)]
    by_cases hE : E = 0
    · rw [if_pos hE, ← hE]
      rw [if_pos hE] at hc
      dsimp only
      rw [encHs_mk h] at *
      rw [encHs_mk Y] at *
      refine Pure.of (acalls_of_vc (drawOk W) Tryz.func20 rfl (by decide) (by decide) rfl ?_)
      (refine g0_ ?_; repeat (refine n1_ fun b_ => ?_; refine g0_ ?_))
      refine ACalls.lendF (hc _ _ (fun b x hx ho => hg b _ x hx ho)) (lookH1 (by repeat (first | exact .here _ _ _ | apply Look.there))) ?_
      refine g0_ ?_
      exact .refl _
    · rw [if_neg hE]
      rw [if_neg hE] at hc
      dsimp only
      rw [encHs_mk h] at *
      rw [encHs_mk noHs] at *
      refine Pure.of (acalls_of_vc (drawOk W) Tryz.func20 rfl (by decide) (by decide) rfl ?_)
      (refine g0_ ?_; repeat (refine n1_ fun b_ => ?_; refine g0_ ?_))
      refine ACalls.lendF (hc _ _ (fun b x hx ho => hg b _ x hx ho)) (lookH1 (by repeat (first | exact .here _ _ _ | apply Look.there))) ?_
      refine g0_ ?_
      exact .refl _
  · have hc := fun cap => changeH_bad W hT h hok h0 44 cap
    unfold chgR
    rw [if_pos h0]
    dsimp only
    generalize chkH h = C at *
    rw [encHs_mk h, encHs_mk noHs] at *
    refine Pure.of (acalls_of_vc (drawOk W) Tryz.func20 rfl (by decide) (by decide) rfl ?_)
    (refine g0_ ?_; repeat (refine n1_ fun b_ => ?_; refine g0_ ?_))
    refine (hc _).use ?_; refine g0_ ?_
    exact .refl _
end Go.Eng.YtmodblkagimhlaaGreatDoor
end

/- Houses: where a pane is, in the document; Activate (b_ x_ q_ e_). -/
section
namespace Go.Eng.YtmodblkagimhlaaGreatDoor
open Go Go.Eng Go.Proofs
variable (W : World)
set_option linter.unusedSimpArgs false
set_option maxRecDepth 100000
set_option linter.unusedVariables false
set_option maxHeartbeats 8000000
def whereI (h : Hs) (pane : Int) : Int × Int := match posS h.ses pane with
  | none => (-1, -1)
  | some (i, k) => (i, k)
theorem whereR_ok (h : Hs) (hok : h.ok) (h0 : chkH h = 0) (pane : Int) : Pure Tryz.prog W 7 [encHs h, .int .i64 pane] (.tup [.int .i64 (whereI h pane).1, .int .i64 (whereI h pane).2]) := by
  have hsr := right_win h0
  have hsl := hok.ses
  have hm1 : (h.ses.map encSes).length = h.ses.length := List.length_map _
  unfold whereI
  cases hps : posS h.ses pane with
  | none =>
    have hnn := posS_none hps
    dsimp only
    rw [encHs_mk h] at *
    refine Pure.of (acalls_of_vc (DL_ok (by decide)) Tryz.func7 rfl (by decide) (by decide) rfl ?_)
    (refine g0_ ?_; repeat (refine n1_ fun b_ => ?_; refine g0_ ?_))
    obtain ⟨bH, rfl⟩ : ∃ z, z = b_ := ⟨_, rfl⟩
    refine' loopI (α := Nat) (fun i => [(15, .int .i64 i)]) [(1, _), (13, _), (14, _)] (fun i => [⟨bH, .row 3 [.agg [.sl 4 (h.ses.map encSes), .sl 3 (h.views.map encVw), .int .i64 h.next]] 0⟩]) (fun i => i ≤ h.ses.length) (fun i => h.ses.length - i) 0 ?_ ?_
    · exact Nat.zero_le _
    rintro i hi
    by_cases hie : i = h.ses.length
    · subst hie
      refine g0_ ?_
      refine g1_ ?_
      exact .refl _
    · have hil : i < h.ses.length := by omega
      obtain ⟨x, hx⟩ : ∃ x, h.ses[i]? = some x := ⟨_, List.getElem?_eq_getElem hil⟩
      have hxm := List.mem_of_getElem? hx
      have hxo := hok.se x hxm
      have hxr := hsr x hxm
      have hwm : (x.wins.map encWin).length = x.wins.length := List.length_map _
      have hxw := hxo.wins
      refine g0_ ?_
      (refine g1_ ?_; repeat (refine n1_ fun b_ => ?_; refine g1_ ?_))
      obtain ⟨bx, rfl⟩ : ∃ z, z = b_ := ⟨_, rfl⟩
      refine' loopI (α := Nat) (fun k => [(23, .int .i64 k)]) [(1, _), (6, _), (13, _), (14, _), (15, _), (21, _), (22, _)] (fun k => [⟨bx, .row 4 [.agg [.str x.name, .sl 8 (x.wins.map encWin), .int .i64 x.act, .int .i64 x.bef]] 0⟩, ⟨bH, .row 3 [.agg [.sl 4 (h.ses.map encSes), .sl 3 (h.views.map encVw), .int .i64 h.next]] 0⟩]) (fun k => k ≤ x.wins.length) (fun k => x.wins.length - k) 0 ?_ ?_
      · exact Nat.zero_le _
      rintro k hk
      by_cases hke : k = x.wins.length
      · subst hke
        refine g0_ ?_
        refine g1_ ?_
        refine nx_ (i + 1) ?_ ?_
        · exact hil
        · ((try dsimp only); (try simp only [List.length_drop, List.length_take, List.length_append, List.length_cons, List.length_nil, List.length_map] at *); omega)
      · have hkl : k < x.wins.length := by omega
        obtain ⟨y, hy⟩ : ∃ y, x.wins[k]? = some y := ⟨_, List.getElem?_eq_getElem hkl⟩
        have hym := List.mem_of_getElem? hy
        have hpn := checkR_ok W y.s (hxo.win y hym).s
        have hyw := (hxr.win y hym)
        have hyt := winT_of hyw
        have hyv := hyw.vis
        rw [chk_eq] at hyv
        rw [chk_panes hyv, hyv, encSpl_eta] at hpn
        have hct := containsI_ok W (panesT y.s) pane (by have := hyt.2; omega)
        rw [decide_eq_false (hnn x hxm y hym)] at hct
        rw [show (panesT y.s).map (PV.int .i64) = panesV (panesT y.s) from rfl] at hct
        refine g0_ ?_
        (refine g1_ ?_; repeat (refine n1_ fun b_ => ?_; refine g1_ ?_))
        refine (hpn).use ?_; refine g0_ ?_
        refine g1_ ?_
        refine (hct).use ?_; refine g0_ ?_
        refine g1_ ?_
        refine nx_ (k + 1) ?_ ?_
        · exact hkl
        · ((try dsimp only); (try simp only [List.length_drop, List.length_take, List.length_append, List.length_cons, List.length_nil, List.length_map] at *); omega)
  | some y =>
    obtain ⟨i0, k0⟩ := y
    obtain ⟨x0, w0, hx0, hw0, hp, hb1, hb2⟩ := posS_some hps
    have hi0 := lt_of_at hx0
    have hk0 := lt_of_at hw0
    dsimp only
    rw [encHs_mk h] at *
    refine Pure.of (acalls_of_vc (DL_ok (by decide)) Tryz.func7 rfl (by decide) (by decide) rfl ?_)
    (refine g0_ ?_; repeat (refine n1_ fun b_ => ?_; refine g0_ ?_))
    obtain ⟨bH, rfl⟩ : ∃ z, z = b_ := ⟨_, rfl⟩
    refine' loopI (α := Nat) (fun i => [(15, .int .i64 i)]) [(1, _), (13, _), (14, _)] (fun i => [⟨bH, .row 3 [.agg [.sl 4 (h.ses.map encSes), .sl 3 (h.views.map encVw), .int .i64 h.next]] 0⟩]) (fun i => i ≤ i0) (fun i => i0 - i) 0 ?_ ?_
    · exact Nat.zero_le _
    rintro i hi
    by_cases hie : i = i0
    · subst hie
      have hil := hi0
      obtain ⟨x, hx⟩ : ∃ x, h.ses[i]? = some x := ⟨_, List.getElem?_eq_getElem hil⟩
      have hxm := List.mem_of_getElem? hx
      have hxo := hok.se x hxm
      have hxr := hsr x hxm
      have hwm : (x.wins.map encWin).length = x.wins.length := List.length_map _
      have hxw := hxo.wins
      obtain rfl : x = x0 := Option.some.inj (hx.symm.trans hx0)
      refine g0_ ?_
      (refine g1_ ?_; repeat (refine n1_ fun b_ => ?_; refine g1_ ?_))
      obtain ⟨bx, rfl⟩ : ∃ z, z = b_ := ⟨_, rfl⟩
      refine' loopI (α := Nat) (fun k => [(23, .int .i64 k)]) [(1, _), (6, _), (13, _), (14, _), (15, _), (21, _), (22, _)] (fun k => [⟨bx, .row 4 [.agg [.str x.name, .sl 8 (x.wins.map encWin), .int .i64 x.act, .int .i64 x.bef]] 0⟩, ⟨bH, .row 3 [.agg [.sl 4 (h.ses.map encSes), .sl 3 (h.views.map encVw), .int .i64 h.next]] 0⟩]) (fun k => k ≤ k0) (fun k => k0 - k) 0 ?_ ?_
      · exact Nat.zero_le _
      rintro k hk
      by_cases hke : k = k0
      · subst hke
        have hkl := hk0
        have hy0 : ∀ y, x.wins[k]? = some y → pane ∈ panesT y.s := fun y hy => (Option.some.inj (hw0.symm.trans hy)) ▸ hp
        obtain ⟨y, hy⟩ : ∃ y, x.wins[k]? = some y := ⟨_, List.getElem?_eq_getElem hkl⟩
        have hym := List.mem_of_getElem? hy
        have hpn := checkR_ok W y.s (hxo.win y hym).s
        have hyw := (hxr.win y hym)
        have hyt := winT_of hyw
        have hyv := hyw.vis
        rw [chk_eq] at hyv
        rw [chk_panes hyv, hyv, encSpl_eta] at hpn
        have hct := containsI_ok W (panesT y.s) pane (by have := hyt.2; omega)
        rw [decide_eq_true (hy0 y hy)] at hct
        rw [show (panesT y.s).map (PV.int .i64) = panesV (panesT y.s) from rfl] at hct
        refine g0_ ?_
        (refine g1_ ?_; repeat (refine n1_ fun b_ => ?_; refine g1_ ?_))
        refine (hpn).use ?_; refine g0_ ?_
        refine g1_ ?_
        refine (hct).use ?_; refine g0_ ?_
        refine g1_ ?_
        exact .refl _
      · have hkl : k < x.wins.length := by omega
        have hyk : ∀ y, x.wins[k]? = some y → pane ∉ panesT y.s := fun y hy => hb2 y (List.mem_of_getElem? (i := k) (by rw [List.getElem?_take, if_pos (by omega)]; exact hy))
        obtain ⟨y, hy⟩ : ∃ y, x.wins[k]? = some y := ⟨_, List.getElem?_eq_getElem hkl⟩
        have hym := List.mem_of_getElem? hy
        have hpn := checkR_ok W y.s (hxo.win y hym).s
        have hyw := (hxr.win y hym)
        have hyt := winT_of hyw
        have hyv := hyw.vis
        rw [chk_eq] at hyv
        rw [chk_panes hyv, hyv, encSpl_eta] at hpn
        have hct := containsI_ok W (panesT y.s) pane (by have := hyt.2; omega)
        rw [decide_eq_false (hyk y hy)] at hct
        rw [show (panesT y.s).map (PV.int .i64) = panesV (panesT y.s) from rfl] at hct
        refine g0_ ?_
        (refine g1_ ?_; repeat (refine n1_ fun b_ => ?_; refine g1_ ?_))
        refine (hpn).use ?_; refine g0_ ?_
        refine g1_ ?_
        refine (hct).use ?_; refine g0_ ?_
        refine g1_ ?_
        refine nx_ (k + 1) ?_ ?_
        · exact (show k + 1 ≤ k0 by omega)
        · ((try dsimp only); (try simp only [List.length_drop, List.length_take, List.length_append, List.length_cons, List.length_nil, List.length_map] at *); omega)
    · have hil : i < h.ses.length := by omega
      obtain ⟨x, hx⟩ : ∃ x, h.ses[i]? = some x := ⟨_, List.getElem?_eq_getElem hil⟩
      have hxm := List.mem_of_getElem? hx
      have hxo := hok.se x hxm
      have hxr := hsr x hxm
      have hwm : (x.wins.map encWin).length = x.wins.length := List.length_map _
      have hxw := hxo.wins
      have hxk : x ∈ h.ses.take i0 := List.mem_of_getElem? (i := i) (by rw [List.getElem?_take, if_pos (by omega)]; exact hx)
      refine g0_ ?_
      (refine g1_ ?_; repeat (refine n1_ fun b_ => ?_; refine g1_ ?_))
      obtain ⟨bx, rfl⟩ : ∃ z, z = b_ := ⟨_, rfl⟩
      refine' loopI (α := Nat) (fun k => [(23, .int .i64 k)]) [(1, _), (6, _), (13, _), (14, _), (15, _), (21, _), (22, _)] (fun k => [⟨bx, .row 4 [.agg [.str x.name, .sl 8 (x.wins.map encWin), .int .i64 x.act, .int .i64 x.bef]] 0⟩, ⟨bH, .row 3 [.agg [.sl 4 (h.ses.map encSes), .sl 3 (h.views.map encVw), .int .i64 h.next]] 0⟩]) (fun k => k ≤ x.wins.length) (fun k => x.wins.length - k) 0 ?_ ?_
      · exact Nat.zero_le _
      rintro k hk
      by_cases hke : k = x.wins.length
      · subst hke
        refine g0_ ?_
        refine g1_ ?_
        refine nx_ (i + 1) ?_ ?_
        · exact (show i + 1 ≤ i0 by omega)
        · ((try dsimp only); (try simp only [List.length_drop, List.length_take, List.length_append, List.length_cons, List.length_nil, List.length_map] at *); omega)
      · have hkl : k < x.wins.length := by omega
        obtain ⟨y, hy⟩ : ∃ y, x.wins[k]? = some y := ⟨_, List.getElem?_eq_getElem hkl⟩
        have hym := List.mem_of_getElem? hy
        have hpn := checkR_ok W y.s (hxo.win y hym).s
        have hyw := (hxr.win y hym)
        have hyt := winT_of hyw
        have hyv := hyw.vis
        rw [chk_eq] at hyv
        rw [chk_panes hyv, hyv, encSpl_eta] at hpn
        have hct := containsI_ok W (panesT y.s) pane (by have := hyt.2; omega)
        rw [decide_eq_false (hb1 x hxk y hym)] at hct
        rw [show (panesT y.s).map (PV.int .i64) = panesV (panesT y.s) from rfl] at hct
        refine g0_ ?_
        (refine g1_ ?_; repeat (refine n1_ fun b_ => ?_; refine g1_ ?_))
        refine (hpn).use ?_; refine g0_ ?_
        refine g1_ ?_
        refine (hct).use ?_; refine g0_ ?_
        refine g1_ ?_
        refine nx_ (k + 1) ?_ ?_
        · exact hkl
        · ((try dsimp only); (try simp only [List.length_drop, List.length_take, List.length_append, List.length_cons, List.length_nil, List.length_map] at *); omega)
def actR (p : Int) (w : Win) : Win := if w.act = p then w else ⟨w.name, w.s, p, w.act, w.zoom⟩
theorem actR_ok (bw : Nat) (ws : List PV) (k : Nat) (w : Win) (p : Int) (hb : ws[k]? = some (encWin w)) : ACalls Tryz.prog W 15 [.ref bw 8 k 0, .int .i64 p] [⟨bw, .row 8 ws 0⟩] (Gives (fun _ : Unit => .tup []) (fun _ => [⟨bw, .row 8 (ws.set k (encWin (actR p w))) 0⟩]) (fun _ => True)) := by
  have hkl := lt_of_at hb
  by_cases h1 : w.act = p
  · rw [show actR p w = w from if_pos h1, set_self hb]
    refine acalls_of_vc (DL_ok (by decide)) Tryz.func15 rfl (by decide) (by decide) rfl ?_
    (refine g0_ ?_; repeat (refine Elem1.mk fun e_ he_ => ?_; refine g0_ ?_))
    first | obtain rfl := Option.some.inj (hb.symm.trans he_) | obtain rfl := Option.some.inj ((set_at hb _).symm.trans he_) | obtain rfl := Option.some.inj ((set_at (set_at hb _) _).symm.trans he_) | obtain rfl := Option.some.inj ((set_at (set_at (set_at hb _) _) _).symm.trans he_)
    clear he_
    refine g0_ ?_
    refine g1_ ?_
    exact ⟨(), trivial, rfl, wkMem.rfl'⟩
  · rw [show actR p w = ⟨w.name, w.s, p, w.act, w.zoom⟩ from if_neg h1]
    refine acalls_of_vc (DL_ok (by decide)) Tryz.func15 rfl (by decide) (by decide) rfl ?_
    (refine g0_ ?_; repeat (refine Elem1.mk fun e_ he_ => ?_; refine g0_ ?_))
    first | obtain rfl := Option.some.inj (hb.symm.trans he_) | obtain rfl := Option.some.inj ((set_at hb _).symm.trans he_) | obtain rfl := Option.some.inj ((set_at (set_at hb _) _).symm.trans he_) | obtain rfl := Option.some.inj ((set_at (set_at (set_at hb _) _) _).symm.trans he_)
    clear he_
    refine g0_ ?_
    (refine g1_ ?_; repeat (refine Elem1.mk fun e_ he_ => ?_; refine g1_ ?_))
    first | obtain rfl := Option.some.inj (hb.symm.trans he_) | obtain rfl := Option.some.inj ((set_at hb _).symm.trans he_) | obtain rfl := Option.some.inj ((set_at (set_at hb _) _).symm.trans he_) | obtain rfl := Option.some.inj ((set_at (set_at (set_at hb _) _) _).symm.trans he_)
    clear he_
    (refine g0_ ?_; repeat (refine Elem1.mk fun e_ he_ => ?_; refine g0_ ?_))
    first | obtain rfl := Option.some.inj (hb.symm.trans he_) | obtain rfl := Option.some.inj ((set_at hb _).symm.trans he_) | obtain rfl := Option.some.inj ((set_at (set_at hb _) _).symm.trans he_) | obtain rfl := Option.some.inj ((set_at (set_at (set_at hb _) _) _).symm.trans he_)
    clear he_
    (refine g0_ ?_; repeat (refine Elem1.mk fun e_ he_ => ?_; refine g0_ ?_))
    first | obtain rfl := Option.some.inj (hb.symm.trans he_) | obtain rfl := Option.some.inj ((set_at hb _).symm.trans he_) | obtain rfl := Option.some.inj ((set_at (set_at hb _) _).symm.trans he_) | obtain rfl := Option.some.inj ((set_at (set_at (set_at hb _) _) _).symm.trans he_)
    clear he_
    refine g0_ ?_
    refine ⟨(), trivial, rfl, ?_⟩
    rw [List.set_set]
    exact wkMem.rfl'
end Go.Eng.YtmodblkagimhlaaGreatDoor
end
