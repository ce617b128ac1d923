/- Texts put together: Hs23. -/
import Derived.Test.YtkenlcaifhffoaaDoorMHS7
import Derived.Test.YtkenlcaifhffoaaDoorMHS22
import Derived.Test.YtkenlcaifhffoaaDoorMHS6
/- Houses: a pane closed that was the last that one can go back to (b_ x_ q_). -/
section
namespace Go.Eng.YtkenlcaifhffoaaDoor
open Go Go.Eng Go.Proofs
variable (W : World)
set_option linter.unusedSimpArgs false
set_option maxRecDepth 100000
set_option linter.unusedVariables false
set_option maxHeartbeats 8000000
def nextP (l : List Int) (p : Int) : Int := (l.take (l.idxOf p) ++ l.drop (l.idxOf p + 1)).getD (l.idxOf p - 1) 0
theorem leaf_one {t : Spl} (hr : t.right 0) (hn : 1 < (panesT t).length) : t.way ≠ 0 := by
  obtain ⟨w, p, s, ks⟩ := t
  intro h
  obtain rfl : w = 0 := h
  rw [panesT_mk, if_pos rfl] at hn
  simp at hn
theorem close_lastN (hT : Tabs W) (h : Hs) (hok : h.ok) (h0 : chkH h = 0) (pane : Int) (i k : Nat) (w : Win) (hps : posS h.ses pane = some (i, k)) (hwa : winAt h.ses i k = some w) (hmany : 1 < (panesT w.s).length) (hac : w.act = pane) (hbz : w.bef = pane ∨ w.bef = 0) (b bp : Nat) (x : OH) (hx : x.T = h) (ho : x.o = none → x.views = []) :
    ACalls Tryd.prog W 29 [.bref b 0, .bref bp 0] (⟨b, .row 3 [x.V] 0⟩ :: (x.M ++ [⟨bp, .row 1 [.int .i64 pane] 0⟩])) fun v σ' => v = .int .i64 0 ∧ ((0 : Int) = 0 → HsDone b ⟨setW h.ses i k ⟨w.name, (dropR w.s pane).1, nextP (panesT w.s) pane, 0, false⟩, h.views, h.next⟩ σ') := by
  have hsr := right_win h0
  obtain ⟨hl4, -, hn1, hn2, -, -⟩ := right_ses h0
  subst hx
  have hwr : ∀ p ∈ x.L, SesR x.next p.2 := fun p hp => hsr p.2 (List.mem_map.2 ⟨p, hp, rfl⟩)
  have hl4' : x.L.length ≤ 4 := by simpa [OH.T] using hl4
  have hse : ∀ p ∈ x.L, p.2.ok := fun p hp => hok.se p.2 (List.mem_map.2 ⟨p, hp, rfl⟩)
  obtain ⟨s, w', hs, hw, hp, hb1, hb2⟩ := posS_some hps
  obtain rfl : w' = w := by
    unfold winAt at hwa
    rw [hs] at hwa
    exact Option.some.inj (hw.symm.trans hwa)
  have hne : x.L ≠ [] := fun e => by
    unfold OH.T at hs
    rw [e] at hs
    cases hs
  refine ACalls.perm ?_ (own_perm hne (fun p hp h => by have := (hwr p hp).many; rw [h] at this; simp at this) b _)
  obtain ⟨bs, L, o, vs, nx⟩ := x
  unfold OH.T at *
  dsimp only at *
  have hw6 : ∀ p ∈ L, p.2.wins.length ≤ 6 := fun p hp => (hwr p hp).many.2
  have hwt : ∀ p ∈ L, ∀ w ∈ p.2.wins, WinT w := fun p hp w hw => winT_of ((hwr p hp).win w hw)
  rw [List.getElem?_map] at hs
  obtain ⟨x0, hx, rfl⟩ := Option.map_eq_some_iff.1 hs
  have hfn := find_some W b bs (vwV o vs) nx L pane hl4' hw6 hwt i k x0 w' hx hw hp (fun p hp => hb1 p.2 (by rw [← List.map_take]; exact List.mem_map.2 ⟨p, hp, rfl⟩)) hb2
  have hfx := winsP_at hx
  have hkw := lt_of_at hw
  have hb : (List.map encWin x0.2.wins)[k]? = some (encWin w') := by rw [List.getElem?_map, hw]; rfl
  have hkl : k < (List.map encWin x0.2.wins).length := by rw [List.length_map]; exact lt_of_at hw
  have hxm := List.mem_of_getElem? hx
  have hwm := List.mem_of_getElem? hw
  have hyt := hwt x0 hxm w' hwm
  have hwy : w'.s.way ≠ 0 := leaf_one hyt.1 hmany
  have hpn := panesOwn_ok W w'.s 0 hyt.1 hyt.2 hwy
  have hdr := dropP_ok W w'.s ((hse x0 hxm).win w' hwm).s pane
  have hln := panesV_len (panesT w'.s)
  have hl12 : (panesT w'.s).length ≤ 12 := hyt.2
  generalize dropR w'.s pane = D at *
  obtain ⟨S, e⟩ := D
  dsimp only at hdr ⊢
  rw [encSpl_eta, encSpl_eta S] at hdr
  rw [encSpl_eta] at hpn
  generalize panesT w'.s = l at *
  have hix := indexI_ok W l pane (by omega)
  rw [show l.map (PV.int .i64) = panesV l from rfl] at hix
  obtain ⟨q, hq⟩ : ∃ q, q = l.idxOf pane := ⟨_, rfl⟩
  have hql : q < l.length := by rw [hq]; exact List.idxOf_lt_length_of_mem hp
  rw [show idxI l pane = (q : Int) by unfold idxI; rw [if_pos hp, ← hq]] at hix
  have hmx : (if ((q : Int) - 1 < 0) then (0 : Int) else (q : Int) - 1) = ((q - 1 : Nat) : Int) := by split <;> omega
  have hrow2 : (List.take (q - 0) (panesV l) ++ panesV (l.drop (q + 1)))[0 + (q - 1)]? = some (.int .i64 (nextP l pane)) := by
    rw [Nat.sub_zero, Nat.zero_add]
    unfold panesV
    rw [← List.map_take, ← List.map_append, List.getElem?_map]
    have hlt : q - 1 < (l.take q ++ l.drop (q + 1)).length := by
      rw [List.length_append, List.length_take, List.length_drop]; omega
    unfold nextP
    rw [← hq, List.getD_eq_getElem?_getD, List.getElem?_eq_getElem hlt]
    rfl
  have hrow : ∀ T, (List.take (q - 0) (panesV l) ++ panesV (l.drop (q + 1)) ++ T)[0 + (q - 1)]? = some (.int .i64 (nextP l pane)) := fun T => by
    rw [List.getElem?_append_left (lt_of_at hrow2), hrow2]
  rcases o with _ | bo
  · by_cases hb1 : w'.bef = pane
    · refine acalls_of_vc (DL_ok (by decide)) Tryd.func29 rfl (by decide) (by decide) rfl ?_
      refine g0_ ?_
      refine ACalls.sameN hfn (permF [_] _) ?_
      refine g0_ ?_
      refine ⟨_, eqlH_ref Tryd.underlying59, ?_⟩
      refine g0_ ?_
      refine g1_ ?_
      refine ACalls.give hpn ?_
      rintro bl -
      refine g0_ ?_
      refine g1_ ?_
      refine Draws10.chain ⟨13, [.new, .new, .new, .new, .new, .new, .new, .new, .new, .new, .new, .new, .turn], [(12, [.keep, .keep, .keep, .keep, .keep, .keep, .keep, .keep, .keep, .again, .keep, .keep, .keep])], by decide +kernel, ?_⟩; refine g0_ ?_
      refine ⟨_, (hdr).quiet, ?_⟩; refine g0_ ?_
      (repeat (refine at_ ?_; refine g0_ ?_))
      refine headL_ (head_ ?_); refine g0_ ?_
      (repeat (refine at_ ?_; refine g0_ ?_))
      refine g1_ ?_
      (repeat (refine at_ ?_; refine g0_ ?_))
      refine headL_ (head_ ?_); refine g0_ ?_
      (repeat (refine at_ ?_; refine g0_ ?_))
      refine g1_ ?_
      (repeat (refine at_ ?_; refine g0_ ?_))
      refine g1_ ?_
      (repeat (refine at_ ?_; refine g0_ ?_))
      refine g1_ ?_
      refine hix.borrow (args' := [.sl 1 (panesV l), .int .i64 pane]) rfl rfl (fun j hj => ?_) ?_
      · match j, hj with
        | 0, _ => exact frz_row lk_ _ (by rw [hln])
        | 1, _ => exact .refl _
      refine g0_ ?_
      refine Draws10.chain ⟨18, [.new, .new, .new, .new, .new, .new, .new, .new, .new, .turn, .new, .new, .new, .skip, .skip, .skip, .skip, .skip], [(9, [.again, .keep, .keep, .keep, .keep, .keep, .keep, .keep, .keep, .keep, .again, .again, .again, .new, .new, .new, .new, .turn]), (17, [.keep, .keep, .keep, .keep, .keep, .keep, .keep, .keep, .keep, .keep, .keep, .keep, .keep, .keep, .keep, .keep, .keep, .keep])], by decide +kernel, ?_⟩; refine g0_ ?_
      have hX : List.take (l.length - (q + 1)) (List.drop (0 + (q + 1)) (panesV l)) = panesV (l.drop (q + 1)) := by
        rw [Nat.zero_add, List.take_of_length_le (by rw [List.length_drop, hln]; exact Nat.le_refl _)]
        exact (List.map_drop).symm
      rw [hX]
      refine need.mk (panes_all _) ?_
      rcases hD : l.drop (q + 1) with _ | ⟨d0, D⟩
      · refine g0_ ?_
        have hDl := congrArg List.length hD
        rw [List.length_drop, List.length_nil] at hDl
        refine Alt.b (need.mk ⟨by rw [hln]; omega, Nat.zero_le _, by show (q - 0 + 0) * 8 ≤ _; omega⟩ ?_)
        rw [hD] at hrow hrow2
        refine Both.mk ?_ ?_
        · (refine g0_ ?_; repeat (refine Nat1.mk fun q_ hq_ => ?_; refine g0_ ?_))
          rw [hmx]
          refine g0_ ?_
          obtain rfl : q_ = q - 1 := by omega
          refine Elem1.mk fun e9 h9 => ?_
          obtain rfl := Option.some.inj ((hrow _).symm.trans h9)
          clear h9
          refine g0_ ?_
          (repeat (refine at_ ?_; refine g0_ ?_))
          refine ⟨rfl, fun _ => ?_⟩
          simp only [List.set_set]
          refine done_win hx (by first | exact .refl _ | exact (List.perm_middle (l₁ := [_, _]) (l₂ := _)) | exact (List.perm_middle (l₁ := [_]) (l₂ := _)) | exact (List.perm_middle (l₁ := [_, _, _]) (l₂ := _))) rfl ?_ (.inl rfl) (frz_vw (o := none) ho (fun b hb => by cases hb))
          rw [List.map_set]
          (first | exact ⟨_, .refl _⟩ | exact wkMem.rfl' | exact ⟨_, .swap _ _ _⟩ | (repeat (first | exact wkMem.nil _ | exact wkMem.rfl' | exact wk_snoc _ _ _ | exact wk_fam (by assumption) _ _ _ | exact wk_famN (by assumption) _ _ _ | (apply wkMem.cons; (case' hl => (repeat (first | exact .here _ _ _ | apply Look.there)))) | apply wkMem.skip)))
        · (refine g0_ ?_; repeat ((first | refine n1_ fun b_ => ?_ | refine Nat1.mk fun q_ hq_ => ?_); refine g0_ ?_))
          rw [hmx]
          refine g0_ ?_
          obtain rfl : q_ = q - 1 := by omega
          refine Elem1.mk fun e9 h9 => ?_
          obtain rfl := Option.some.inj ((hrow2).symm.trans h9)
          clear h9
          refine g0_ ?_
          (repeat (refine at_ ?_; refine g0_ ?_))
          refine ⟨rfl, fun _ => ?_⟩
          simp only [List.set_set]
          refine done_win hx (by first | exact .refl _ | exact (List.perm_middle (l₁ := [_, _]) (l₂ := _)) | exact (List.perm_middle (l₁ := [_]) (l₂ := _)) | exact (List.perm_middle (l₁ := [_, _, _]) (l₂ := _))) rfl ?_ (.inl rfl) (frz_vw (o := none) ho (fun b hb => by cases hb))
          rw [List.map_set]
          (first | exact ⟨_, .refl _⟩ | exact wkMem.rfl' | exact ⟨_, .swap _ _ _⟩ | (repeat (first | exact wkMem.nil _ | exact wkMem.rfl' | exact wk_snoc _ _ _ | exact wk_fam (by assumption) _ _ _ | exact wk_famN (by assumption) _ _ _ | (apply wkMem.cons; (case' hl => (repeat (first | exact .here _ _ _ | apply Look.there)))) | apply wkMem.skip)))
      · rw [show panesV (d0 :: D) = .int .i64 d0 :: panesV D from rfl]
        refine g0_ ?_
        have hDl := congrArg List.length hD
        rw [List.length_drop, List.length_cons] at hDl
        have hvl := panesV_len D
        refine Alt.b (need.mk ⟨by rw [hln]; omega, Nat.zero_le _, by show (q - 0 + ((panesV D).length + 1)) * 8 ≤ _; omega⟩ ?_)
        rw [hD] at hrow hrow2
        refine Both.mk ?_ ?_
        · (refine g0_ ?_; repeat (refine Nat1.mk fun q_ hq_ => ?_; refine g0_ ?_))
          rw [hmx]
          refine g0_ ?_
          obtain rfl : q_ = q - 1 := by omega
          refine Elem1.mk fun e9 h9 => ?_
          obtain rfl := Option.some.inj ((hrow _).symm.trans h9)
          clear h9
          refine g0_ ?_
          (repeat (refine at_ ?_; refine g0_ ?_))
          refine ⟨rfl, fun _ => ?_⟩
          simp only [List.set_set]
          refine done_win hx (by first | exact .refl _ | exact (List.perm_middle (l₁ := [_, _]) (l₂ := _)) | exact (List.perm_middle (l₁ := [_]) (l₂ := _)) | exact (List.perm_middle (l₁ := [_, _, _]) (l₂ := _))) rfl ?_ (.inl rfl) (frz_vw (o := none) ho (fun b hb => by cases hb))
          rw [List.map_set]
          (first | exact ⟨_, .refl _⟩ | exact wkMem.rfl' | exact ⟨_, .swap _ _ _⟩ | (repeat (first | exact wkMem.nil _ | exact wkMem.rfl' | exact wk_snoc _ _ _ | exact wk_fam (by assumption) _ _ _ | exact wk_famN (by assumption) _ _ _ | (apply wkMem.cons; (case' hl => (repeat (first | exact .here _ _ _ | apply Look.there)))) | apply wkMem.skip)))
        · (refine g0_ ?_; repeat ((first | refine n1_ fun b_ => ?_ | refine Nat1.mk fun q_ hq_ => ?_); refine g0_ ?_))
          rw [hmx]
          refine g0_ ?_
          obtain rfl : q_ = q - 1 := by omega
          refine Elem1.mk fun e9 h9 => ?_
          obtain rfl := Option.some.inj ((hrow2).symm.trans h9)
          clear h9
          refine g0_ ?_
          (repeat (refine at_ ?_; refine g0_ ?_))
          refine ⟨rfl, fun _ => ?_⟩
          simp only [List.set_set]
          refine done_win hx (by first | exact .refl _ | exact (List.perm_middle (l₁ := [_, _]) (l₂ := _)) | exact (List.perm_middle (l₁ := [_]) (l₂ := _)) | exact (List.perm_middle (l₁ := [_, _, _]) (l₂ := _))) rfl ?_ (.inl rfl) (frz_vw (o := none) ho (fun b hb => by cases hb))
          rw [List.map_set]
          (first | exact ⟨_, .refl _⟩ | exact wkMem.rfl' | exact ⟨_, .swap _ _ _⟩ | (repeat (first | exact wkMem.nil _ | exact wkMem.rfl' | exact wk_snoc _ _ _ | exact wk_fam (by assumption) _ _ _ | exact wk_famN (by assumption) _ _ _ | (apply wkMem.cons; (case' hl => (repeat (first | exact .here _ _ _ | apply Look.there)))) | apply wkMem.skip)))
    · have hb0 : w'.bef = 0 := by omega
      refine acalls_of_vc (DL_ok (by decide)) Tryd.func29 rfl (by decide) (by decide) rfl ?_
      refine g0_ ?_
      refine ACalls.sameN hfn (permF [_] _) ?_
      refine g0_ ?_
      refine ⟨_, eqlH_ref Tryd.underlying59, ?_⟩
      refine g0_ ?_
      refine g1_ ?_
      refine ACalls.give hpn ?_
      rintro bl -
      refine g0_ ?_
      refine g1_ ?_
      refine Draws10.chain ⟨13, [.new, .new, .new, .new, .new, .new, .new, .new, .new, .new, .new, .new, .turn], [(12, [.keep, .keep, .keep, .keep, .keep, .keep, .keep, .keep, .keep, .again, .keep, .keep, .keep])], by decide +kernel, ?_⟩; refine g0_ ?_
      refine ⟨_, (hdr).quiet, ?_⟩; refine g0_ ?_
      (repeat (refine at_ ?_; refine g0_ ?_))
      refine headL_ (head_ ?_); refine g0_ ?_
      (repeat (refine at_ ?_; refine g0_ ?_))
      refine g1_ ?_
      (repeat (refine at_ ?_; refine g0_ ?_))
      refine headL_ (head_ ?_); refine g0_ ?_
      (repeat (refine at_ ?_; refine g0_ ?_))
      refine g1_ ?_
      (repeat (refine at_ ?_; refine g0_ ?_))
      refine g1_ ?_
      (repeat (refine at_ ?_; refine g0_ ?_))
      refine g1_ ?_
      refine hix.borrow (args' := [.sl 1 (panesV l), .int .i64 pane]) rfl rfl (fun j hj => ?_) ?_
      · match j, hj with
        | 0, _ => exact frz_row lk_ _ (by rw [hln])
        | 1, _ => exact .refl _
      refine g0_ ?_
      refine Draws10.chain ⟨18, [.new, .new, .new, .new, .new, .new, .new, .new, .new, .turn, .new, .new, .new, .skip, .skip, .skip, .skip, .skip], [(9, [.again, .keep, .keep, .keep, .keep, .keep, .keep, .keep, .keep, .keep, .again, .again, .again, .new, .new, .new, .new, .turn]), (17, [.keep, .keep, .keep, .keep, .keep, .keep, .keep, .keep, .keep, .keep, .keep, .keep, .keep, .keep, .keep, .keep, .keep, .keep])], by decide +kernel, ?_⟩; refine g0_ ?_
      have hX : List.take (l.length - (q + 1)) (List.drop (0 + (q + 1)) (panesV l)) = panesV (l.drop (q + 1)) := by
        rw [Nat.zero_add, List.take_of_length_le (by rw [List.length_drop, hln]; exact Nat.le_refl _)]
        exact (List.map_drop).symm
      rw [hX]
      refine need.mk (panes_all _) ?_
      rcases hD : l.drop (q + 1) with _ | ⟨d0, D⟩
      · refine g0_ ?_
        have hDl := congrArg List.length hD
        rw [List.length_drop, List.length_nil] at hDl
        refine Alt.b (need.mk ⟨by rw [hln]; omega, Nat.zero_le _, by show (q - 0 + 0) * 8 ≤ _; omega⟩ ?_)
        rw [hD] at hrow hrow2
        refine Both.mk ?_ ?_
        · (refine g0_ ?_; repeat (refine Nat1.mk fun q_ hq_ => ?_; refine g0_ ?_))
          rw [hmx]
          refine g0_ ?_
          obtain rfl : q_ = q - 1 := by omega
          refine Elem1.mk fun e9 h9 => ?_
          obtain rfl := Option.some.inj ((hrow _).symm.trans h9)
          clear h9
          refine g0_ ?_
          (repeat (refine at_ ?_; refine g0_ ?_))
          refine ⟨rfl, fun _ => ?_⟩
          simp only [List.set_set]
          refine done_win hx (by first | exact .refl _ | exact (List.perm_middle (l₁ := [_, _]) (l₂ := _)) | exact (List.perm_middle (l₁ := [_]) (l₂ := _)) | exact (List.perm_middle (l₁ := [_, _, _]) (l₂ := _))) rfl ?_ (.inl rfl) (frz_vw (o := none) ho (fun b hb => by cases hb))
          rw [List.map_set]
          (first | exact ⟨_, .refl _⟩ | exact wkMem.rfl' | exact ⟨_, .swap _ _ _⟩ | (repeat (first | exact wkMem.nil _ | exact wkMem.rfl' | exact wk_snoc _ _ _ | exact wk_fam (by assumption) _ _ _ | exact wk_famN (by assumption) _ _ _ | (apply wkMem.cons; (case' hl => (repeat (first | exact .here _ _ _ | apply Look.there)))) | apply wkMem.skip)))
        · (refine g0_ ?_; repeat ((first | refine n1_ fun b_ => ?_ | refine Nat1.mk fun q_ hq_ => ?_); refine g0_ ?_))
          rw [hmx]
          refine g0_ ?_
          obtain rfl : q_ = q - 1 := by omega
          refine Elem1.mk fun e9 h9 => ?_
          obtain rfl := Option.some.inj ((hrow2).symm.trans h9)
          clear h9
          refine g0_ ?_
          (repeat (refine at_ ?_; refine g0_ ?_))
          refine ⟨rfl, fun _ => ?_⟩
          simp only [List.set_set]
          refine done_win hx (by first | exact .refl _ | exact (List.perm_middle (l₁ := [_, _]) (l₂ := _)) | exact (List.perm_middle (l₁ := [_]) (l₂ := _)) | exact (List.perm_middle (l₁ := [_, _, _]) (l₂ := _))) rfl ?_ (.inl rfl) (frz_vw (o := none) ho (fun b hb => by cases hb))
          rw [List.map_set]
          (first | exact ⟨_, .refl _⟩ | exact wkMem.rfl' | exact ⟨_, .swap _ _ _⟩ | (repeat (first | exact wkMem.nil _ | exact wkMem.rfl' | exact wk_snoc _ _ _ | exact wk_fam (by assumption) _ _ _ | exact wk_famN (by assumption) _ _ _ | (apply wkMem.cons; (case' hl => (repeat (first | exact .here _ _ _ | apply Look.there)))) | apply wkMem.skip)))
      · rw [show panesV (d0 :: D) = .int .i64 d0 :: panesV D from rfl]
        refine g0_ ?_
        have hDl := congrArg List.length hD
        rw [List.length_drop, List.length_cons] at hDl
        have hvl := panesV_len D
        refine Alt.b (need.mk ⟨by rw [hln]; omega, Nat.zero_le _, by show (q - 0 + ((panesV D).length + 1)) * 8 ≤ _; omega⟩ ?_)
        rw [hD] at hrow hrow2
        refine Both.mk ?_ ?_
        · (refine g0_ ?_; repeat (refine Nat1.mk fun q_ hq_ => ?_; refine g0_ ?_))
          rw [hmx]
          refine g0_ ?_
          obtain rfl : q_ = q - 1 := by omega
          refine Elem1.mk fun e9 h9 => ?_
          obtain rfl := Option.some.inj ((hrow _).symm.trans h9)
          clear h9
          refine g0_ ?_
          (repeat (refine at_ ?_; refine g0_ ?_))
          refine ⟨rfl, fun _ => ?_⟩
          simp only [List.set_set]
          refine done_win hx (by first | exact .refl _ | exact (List.perm_middle (l₁ := [_, _]) (l₂ := _)) | exact (List.perm_middle (l₁ := [_]) (l₂ := _)) | exact (List.perm_middle (l₁ := [_, _, _]) (l₂ := _))) rfl ?_ (.inl rfl) (frz_vw (o := none) ho (fun b hb => by cases hb))
          rw [List.map_set]
          (first | exact ⟨_, .refl _⟩ | exact wkMem.rfl' | exact ⟨_, .swap _ _ _⟩ | (repeat (first | exact wkMem.nil _ | exact wkMem.rfl' | exact wk_snoc _ _ _ | exact wk_fam (by assumption) _ _ _ | exact wk_famN (by assumption) _ _ _ | (apply wkMem.cons; (case' hl => (repeat (first | exact .here _ _ _ | apply Look.there)))) | apply wkMem.skip)))
        · (refine g0_ ?_; repeat ((first | refine n1_ fun b_ => ?_ | refine Nat1.mk fun q_ hq_ => ?_); refine g0_ ?_))
          rw [hmx]
          refine g0_ ?_
          obtain rfl : q_ = q - 1 := by omega
          refine Elem1.mk fun e9 h9 => ?_
          obtain rfl := Option.some.inj ((hrow2).symm.trans h9)
          clear h9
          refine g0_ ?_
          (repeat (refine at_ ?_; refine g0_ ?_))
          refine ⟨rfl, fun _ => ?_⟩
          simp only [List.set_set]
          refine done_win hx (by first | exact .refl _ | exact (List.perm_middle (l₁ := [_, _]) (l₂ := _)) | exact (List.perm_middle (l₁ := [_]) (l₂ := _)) | exact (List.perm_middle (l₁ := [_, _, _]) (l₂ := _))) rfl ?_ (.inl rfl) (frz_vw (o := none) ho (fun b hb => by cases hb))
          rw [List.map_set]
          (first | exact ⟨_, .refl _⟩ | exact wkMem.rfl' | exact ⟨_, .swap _ _ _⟩ | (repeat (first | exact wkMem.nil _ | exact wkMem.rfl' | exact wk_snoc _ _ _ | exact wk_fam (by assumption) _ _ _ | exact wk_famN (by assumption) _ _ _ | (apply wkMem.cons; (case' hl => (repeat (first | exact .here _ _ _ | apply Look.there)))) | apply wkMem.skip)))
  · by_cases hb1 : w'.bef = pane
    · refine acalls_of_vc (DL_ok (by decide)) Tryd.func29 rfl (by decide) (by decide) rfl ?_
      refine g0_ ?_
      refine ACalls.sameN hfn (permF [_, _] _) ?_
      refine g0_ ?_
      refine ⟨_, eqlH_ref Tryd.underlying59, ?_⟩
      refine g0_ ?_
      refine g1_ ?_
      refine ACalls.give hpn ?_
      rintro bl -
      refine g0_ ?_
      refine g1_ ?_
      refine Draws10.chain ⟨13, [.new, .new, .new, .new, .new, .new, .new, .new, .new, .new, .new, .new, .turn], [(12, [.keep, .keep, .keep, .keep, .keep, .keep, .keep, .keep, .keep, .again, .keep, .keep, .keep])], by decide +kernel, ?_⟩; refine g0_ ?_
      refine ⟨_, (hdr).quiet, ?_⟩; refine g0_ ?_
      (repeat (refine at_ ?_; refine g0_ ?_))
      refine headL_ (head_ ?_); refine g0_ ?_
      (repeat (refine at_ ?_; refine g0_ ?_))
      refine g1_ ?_
      (repeat (refine at_ ?_; refine g0_ ?_))
      refine headL_ (head_ ?_); refine g0_ ?_
      (repeat (refine at_ ?_; refine g0_ ?_))
      refine g1_ ?_
      (repeat (refine at_ ?_; refine g0_ ?_))
      refine g1_ ?_
      (repeat (refine at_ ?_; refine g0_ ?_))
      refine g1_ ?_
      refine hix.borrow (args' := [.sl 1 (panesV l), .int .i64 pane]) rfl rfl (fun j hj => ?_) ?_
      · match j, hj with
        | 0, _ => exact frz_row lk_ _ (by rw [hln])
        | 1, _ => exact .refl _
      refine g0_ ?_
      refine Draws10.chain ⟨18, [.new, .new, .new, .new, .new, .new, .new, .new, .new, .turn, .new, .new, .new, .skip, .skip, .skip, .skip, .skip], [(9, [.again, .keep, .keep, .keep, .keep, .keep, .keep, .keep, .keep, .keep, .again, .again, .again, .new, .new, .new, .new, .turn]), (17, [.keep, .keep, .keep, .keep, .keep, .keep, .keep, .keep, .keep, .keep, .keep, .keep, .keep, .keep, .keep, .keep, .keep, .keep])], by decide +kernel, ?_⟩; refine g0_ ?_
      have hX : List.take (l.length - (q + 1)) (List.drop (0 + (q + 1)) (panesV l)) = panesV (l.drop (q + 1)) := by
        rw [Nat.zero_add, List.take_of_length_le (by rw [List.length_drop, hln]; exact Nat.le_refl _)]
        exact (List.map_drop).symm
      rw [hX]
      refine need.mk (panes_all _) ?_
      rcases hD : l.drop (q + 1) with _ | ⟨d0, D⟩
      · refine g0_ ?_
        have hDl := congrArg List.length hD
        rw [List.length_drop, List.length_nil] at hDl
        refine Alt.b (need.mk ⟨by rw [hln]; omega, Nat.zero_le _, by show (q - 0 + 0) * 8 ≤ _; omega⟩ ?_)
        rw [hD] at hrow hrow2
        refine Both.mk ?_ ?_
        · (refine g0_ ?_; repeat (refine Nat1.mk fun q_ hq_ => ?_; refine g0_ ?_))
          rw [hmx]
          refine g0_ ?_
          obtain rfl : q_ = q - 1 := by omega
          refine Elem1.mk fun e9 h9 => ?_
          obtain rfl := Option.some.inj ((hrow _).symm.trans h9)
          clear h9
          refine g0_ ?_
          (repeat (refine at_ ?_; refine g0_ ?_))
          refine ⟨rfl, fun _ => ?_⟩
          simp only [List.set_set]
          refine done_win hx (by first | exact .refl _ | exact (List.perm_middle (l₁ := [_, _]) (l₂ := _)) | exact (List.perm_middle (l₁ := [_]) (l₂ := _)) | exact (List.perm_middle (l₁ := [_, _, _]) (l₂ := _))) rfl ?_ (.inr (.inl ⟨_, _, _, _, rfl⟩)) ?_
          · rw [List.map_set]
            (first | exact ⟨_, .refl _⟩ | exact wkMem.rfl' | exact ⟨_, .swap _ _ _⟩ | (repeat (first | exact wkMem.nil _ | exact wkMem.rfl' | exact wk_snoc _ _ _ | exact wk_fam (by assumption) _ _ _ | exact wk_famN (by assumption) _ _ _ | (apply wkMem.cons; (case' hl => (repeat (first | exact .here _ _ _ | apply Look.there)))) | apply wkMem.skip)))
          · exact frz_row lk_ _ (by simp)
        · (refine g0_ ?_; repeat ((first | refine n1_ fun b_ => ?_ | refine Nat1.mk fun q_ hq_ => ?_); refine g0_ ?_))
          rw [hmx]
          refine g0_ ?_
          obtain rfl : q_ = q - 1 := by omega
          refine Elem1.mk fun e9 h9 => ?_
          obtain rfl := Option.some.inj ((hrow2).symm.trans h9)
          clear h9
          refine g0_ ?_
          (repeat (refine at_ ?_; refine g0_ ?_))
          refine ⟨rfl, fun _ => ?_⟩
          simp only [List.set_set]
          refine done_win hx (by first | exact .refl _ | exact (List.perm_middle (l₁ := [_, _]) (l₂ := _)) | exact (List.perm_middle (l₁ := [_]) (l₂ := _)) | exact (List.perm_middle (l₁ := [_, _, _]) (l₂ := _))) rfl ?_ (.inr (.inl ⟨_, _, _, _, rfl⟩)) ?_
          · rw [List.map_set]
            (first | exact ⟨_, .refl _⟩ | exact wkMem.rfl' | exact ⟨_, .swap _ _ _⟩ | (repeat (first | exact wkMem.nil _ | exact wkMem.rfl' | exact wk_snoc _ _ _ | exact wk_fam (by assumption) _ _ _ | exact wk_famN (by assumption) _ _ _ | (apply wkMem.cons; (case' hl => (repeat (first | exact .here _ _ _ | apply Look.there)))) | apply wkMem.skip)))
          · exact frz_row lk_ _ (by simp)
      · rw [show panesV (d0 :: D) = .int .i64 d0 :: panesV D from rfl]
        refine g0_ ?_
        have hDl := congrArg List.length hD
        rw [List.length_drop, List.length_cons] at hDl
        have hvl := panesV_len D
        refine Alt.b (need.mk ⟨by rw [hln]; omega, Nat.zero_le _, by show (q - 0 + ((panesV D).length + 1)) * 8 ≤ _; omega⟩ ?_)
        rw [hD] at hrow hrow2
        refine Both.mk ?_ ?_
        · (refine g0_ ?_; repeat (refine Nat1.mk fun q_ hq_ => ?_; refine g0_ ?_))
          rw [hmx]
          refine g0_ ?_
          obtain rfl : q_ = q - 1 := by omega
          refine Elem1.mk fun e9 h9 => ?_
          obtain rfl := Option.some.inj ((hrow _).symm.trans h9)
          clear h9
          refine g0_ ?_
          (repeat (refine at_ ?_; refine g0_ ?_))
          refine ⟨rfl, fun _ => ?_⟩
          simp only [List.set_set]
          refine done_win hx (by first | exact .refl _ | exact (List.perm_middle (l₁ := [_, _]) (l₂ := _)) | exact (List.perm_middle (l₁ := [_]) (l₂ := _)) | exact (List.perm_middle (l₁ := [_, _, _]) (l₂ := _))) rfl ?_ (.inr (.inl ⟨_, _, _, _, rfl⟩)) ?_
          · rw [List.map_set]
            (first | exact ⟨_, .refl _⟩ | exact wkMem.rfl' | exact ⟨_, .swap _ _ _⟩ | (repeat (first | exact wkMem.nil _ | exact wkMem.rfl' | exact wk_snoc _ _ _ | exact wk_fam (by assumption) _ _ _ | exact wk_famN (by assumption) _ _ _ | (apply wkMem.cons; (case' hl => (repeat (first | exact .here _ _ _ | apply Look.there)))) | apply wkMem.skip)))
          · exact frz_row lk_ _ (by simp)
        · (refine g0_ ?_; repeat ((first | refine n1_ fun b_ => ?_ | refine Nat1.mk fun q_ hq_ => ?_); refine g0_ ?_))
          rw [hmx]
          refine g0_ ?_
          obtain rfl : q_ = q - 1 := by omega
          refine Elem1.mk fun e9 h9 => ?_
          obtain rfl := Option.some.inj ((hrow2).symm.trans h9)
          clear h9
          refine g0_ ?_
          (repeat (refine at_ ?_; refine g0_ ?_))
          refine ⟨rfl, fun _ => ?_⟩
          simp only [List.set_set]
          refine done_win hx (by first | exact .refl _ | exact (List.perm_middle (l₁ := [_, _]) (l₂ := _)) | exact (List.perm_middle (l₁ := [_]) (l₂ := _)) | exact (List.perm_middle (l₁ := [_, _, _]) (l₂ := _))) rfl ?_ (.inr (.inl ⟨_, _, _, _, rfl⟩)) ?_
          · rw [List.map_set]
            (first | exact ⟨_, .refl _⟩ | exact wkMem.rfl' | exact ⟨_, .swap _ _ _⟩ | (repeat (first | exact wkMem.nil _ | exact wkMem.rfl' | exact wk_snoc _ _ _ | exact wk_fam (by assumption) _ _ _ | exact wk_famN (by assumption) _ _ _ | (apply wkMem.cons; (case' hl => (repeat (first | exact .here _ _ _ | apply Look.there)))) | apply wkMem.skip)))
          · exact frz_row lk_ _ (by simp)
    · have hb0 : w'.bef = 0 := by omega
      refine acalls_of_vc (DL_ok (by decide)) Tryd.func29 rfl (by decide) (by decide) rfl ?_
      refine g0_ ?_
      refine ACalls.sameN hfn (permF [_, _] _) ?_
      refine g0_ ?_
      refine ⟨_, eqlH_ref Tryd.underlying59, ?_⟩
      refine g0_ ?_
      refine g1_ ?_
      refine ACalls.give hpn ?_
      rintro bl -
      refine g0_ ?_
      refine g1_ ?_
      refine Draws10.chain ⟨13, [.new, .new, .new, .new, .new, .new, .new, .new, .new, .new, .new, .new, .turn], [(12, [.keep, .keep, .keep, .keep, .keep, .keep, .keep, .keep, .keep, .again, .keep, .keep, .keep])], by decide +kernel, ?_⟩; refine g0_ ?_
      refine ⟨_, (hdr).quiet, ?_⟩; refine g0_ ?_
      (repeat (refine at_ ?_; refine g0_ ?_))
      refine headL_ (head_ ?_); refine g0_ ?_
      (repeat (refine at_ ?_; refine g0_ ?_))
      refine g1_ ?_
      (repeat (refine at_ ?_; refine g0_ ?_))
      refine headL_ (head_ ?_); refine g0_ ?_
      (repeat (refine at_ ?_; refine g0_ ?_))
      refine g1_ ?_
      (repeat (refine at_ ?_; refine g0_ ?_))
      refine g1_ ?_
      (repeat (refine at_ ?_; refine g0_ ?_))
      refine g1_ ?_
      refine hix.borrow (args' := [.sl 1 (panesV l), .int .i64 pane]) rfl rfl (fun j hj => ?_) ?_
      · match j, hj with
        | 0, _ => exact frz_row lk_ _ (by rw [hln])
        | 1, _ => exact .refl _
      refine g0_ ?_
      refine Draws10.chain ⟨18, [.new, .new, .new, .new, .new, .new, .new, .new, .new, .turn, .new, .new, .new, .skip, .skip, .skip, .skip, .skip], [(9, [.again, .keep, .keep, .keep, .keep, .keep, .keep, .keep, .keep, .keep, .again, .again, .again, .new, .new, .new, .new, .turn]), (17, [.keep, .keep, .keep, .keep, .keep, .keep, .keep, .keep, .keep, .keep, .keep, .keep, .keep, .keep, .keep, .keep, .keep, .keep])], by decide +kernel, ?_⟩; refine g0_ ?_
      have hX : List.take (l.length - (q + 1)) (List.drop (0 + (q + 1)) (panesV l)) = panesV (l.drop (q + 1)) := by
        rw [Nat.zero_add, List.take_of_length_le (by rw [List.length_drop, hln]; exact Nat.le_refl _)]
        exact (List.map_drop).symm
      rw [hX]
      refine need.mk (panes_all _) ?_
      rcases hD : l.drop (q + 1) with _ | ⟨d0, D⟩
      · refine g0_ ?_
        have hDl := congrArg List.length hD
        rw [List.length_drop, List.length_nil] at hDl
        refine Alt.b (need.mk ⟨by rw [hln]; omega, Nat.zero_le _, by show (q - 0 + 0) * 8 ≤ _; omega⟩ ?_)
        rw [hD] at hrow hrow2
        refine Both.mk ?_ ?_
        · (refine g0_ ?_; repeat (refine Nat1.mk fun q_ hq_ => ?_; refine g0_ ?_))
          rw [hmx]
          refine g0_ ?_
          obtain rfl : q_ = q - 1 := by omega
          refine Elem1.mk fun e9 h9 => ?_
          obtain rfl := Option.some.inj ((hrow _).symm.trans h9)
          clear h9
          refine g0_ ?_
          (repeat (refine at_ ?_; refine g0_ ?_))
          refine ⟨rfl, fun _ => ?_⟩
          simp only [List.set_set]
          refine done_win hx (by first | exact .refl _ | exact (List.perm_middle (l₁ := [_, _]) (l₂ := _)) | exact (List.perm_middle (l₁ := [_]) (l₂ := _)) | exact (List.perm_middle (l₁ := [_, _, _]) (l₂ := _))) rfl ?_ (.inr (.inl ⟨_, _, _, _, rfl⟩)) ?_
          · rw [List.map_set]
            (first | exact ⟨_, .refl _⟩ | exact wkMem.rfl' | exact ⟨_, .swap _ _ _⟩ | (repeat (first | exact wkMem.nil _ | exact wkMem.rfl' | exact wk_snoc _ _ _ | exact wk_fam (by assumption) _ _ _ | exact wk_famN (by assumption) _ _ _ | (apply wkMem.cons; (case' hl => (repeat (first | exact .here _ _ _ | apply Look.there)))) | apply wkMem.skip)))
          · exact frz_row lk_ _ (by simp)
        · (refine g0_ ?_; repeat ((first | refine n1_ fun b_ => ?_ | refine Nat1.mk fun q_ hq_ => ?_); refine g0_ ?_))
          rw [hmx]
          refine g0_ ?_
          obtain rfl : q_ = q - 1 := by omega
          refine Elem1.mk fun e9 h9 => ?_
          obtain rfl := Option.some.inj ((hrow2).symm.trans h9)
          clear h9
          refine g0_ ?_
          (repeat (refine at_ ?_; refine g0_ ?_))
          refine ⟨rfl, fun _ => ?_⟩
          simp only [List.set_set]
          refine done_win hx (by first | exact .refl _ | exact (List.perm_middle (l₁ := [_, _]) (l₂ := _)) | exact (List.perm_middle (l₁ := [_]) (l₂ := _)) | exact (List.perm_middle (l₁ := [_, _, _]) (l₂ := _))) rfl ?_ (.inr (.inl ⟨_, _, _, _, rfl⟩)) ?_
          · rw [List.map_set]
            (first | exact ⟨_, .refl _⟩ | exact wkMem.rfl' | exact ⟨_, .swap _ _ _⟩ | (repeat (first | exact wkMem.nil _ | exact wkMem.rfl' | exact wk_snoc _ _ _ | exact wk_fam (by assumption) _ _ _ | exact wk_famN (by assumption) _ _ _ | (apply wkMem.cons; (case' hl => (repeat (first | exact .here _ _ _ | apply Look.there)))) | apply wkMem.skip)))
          · exact frz_row lk_ _ (by simp)
      · rw [show panesV (d0 :: D) = .int .i64 d0 :: panesV D from rfl]
        refine g0_ ?_
        have hDl := congrArg List.length hD
        rw [List.length_drop, List.length_cons] at hDl
        have hvl := panesV_len D
        refine Alt.b (need.mk ⟨by rw [hln]; omega, Nat.zero_le _, by show (q - 0 + ((panesV D).length + 1)) * 8 ≤ _; omega⟩ ?_)
        rw [hD] at hrow hrow2
        refine Both.mk ?_ ?_
        · (refine g0_ ?_; repeat (refine Nat1.mk fun q_ hq_ => ?_; refine g0_ ?_))
          rw [hmx]
          refine g0_ ?_
          obtain rfl : q_ = q - 1 := by omega
          refine Elem1.mk fun e9 h9 => ?_
          obtain rfl := Option.some.inj ((hrow _).symm.trans h9)
          clear h9
          refine g0_ ?_
          (repeat (refine at_ ?_; refine g0_ ?_))
          refine ⟨rfl, fun _ => ?_⟩
          simp only [List.set_set]
          refine done_win hx (by first | exact .refl _ | exact (List.perm_middle (l₁ := [_, _]) (l₂ := _)) | exact (List.perm_middle (l₁ := [_]) (l₂ := _)) | exact (List.perm_middle (l₁ := [_, _, _]) (l₂ := _))) rfl ?_ (.inr (.inl ⟨_, _, _, _, rfl⟩)) ?_
          · rw [List.map_set]
            (first | exact ⟨_, .refl _⟩ | exact wkMem.rfl' | exact ⟨_, .swap _ _ _⟩ | (repeat (first | exact wkMem.nil _ | exact wkMem.rfl' | exact wk_snoc _ _ _ | exact wk_fam (by assumption) _ _ _ | exact wk_famN (by assumption) _ _ _ | (apply wkMem.cons; (case' hl => (repeat (first | exact .here _ _ _ | apply Look.there)))) | apply wkMem.skip)))
          · exact frz_row lk_ _ (by simp)
        · (refine g0_ ?_; repeat ((first | refine n1_ fun b_ => ?_ | refine Nat1.mk fun q_ hq_ => ?_); refine g0_ ?_))
          rw [hmx]
          refine g0_ ?_
          obtain rfl : q_ = q - 1 := by omega
          refine Elem1.mk fun e9 h9 => ?_
          obtain rfl := Option.some.inj ((hrow2).symm.trans h9)
          clear h9
          refine g0_ ?_
          (repeat (refine at_ ?_; refine g0_ ?_))
          refine ⟨rfl, fun _ => ?_⟩
          simp only [List.set_set]
          refine done_win hx (by first | exact .refl _ | exact (List.perm_middle (l₁ := [_, _]) (l₂ := _)) | exact (List.perm_middle (l₁ := [_]) (l₂ := _)) | exact (List.perm_middle (l₁ := [_, _, _]) (l₂ := _))) rfl ?_ (.inr (.inl ⟨_, _, _, _, rfl⟩)) ?_
          · rw [List.map_set]
            (first | exact ⟨_, .refl _⟩ | exact wkMem.rfl' | exact ⟨_, .swap _ _ _⟩ | (repeat (first | exact wkMem.nil _ | exact wkMem.rfl' | exact wk_snoc _ _ _ | exact wk_fam (by assumption) _ _ _ | exact wk_famN (by assumption) _ _ _ | (apply wkMem.cons; (case' hl => (repeat (first | exact .here _ _ _ | apply Look.there)))) | apply wkMem.skip)))
          · exact frz_row lk_ _ (by simp)
end Go.Eng.YtkenlcaifhffoaaDoor
end
