/- Texts put together: Hs24, Hs25. -/
import Derived.Test.YtkenlcaifhffoaaDoorMHS20
import Derived.Test.YtkenlcaifhffoaaDoorMHS21
import Derived.Test.YtkenlcaifhffoaaDoorMHS22
import Derived.Test.YtkenlcaifhffoaaDoorMHS7
import Derived.Test.YtkenlcaifhffoaaDoorMHS23
import Derived.Test.YtkenlcaifhffoaaDoorMHS16
/- Houses: a pane closed whose window goes, or its session (b_ x_ q_ e_). -/
section
namespace Go.Eng.YtkenlcaifhffoaaDoor
open Go Go.Eng Go.Proofs
variable (W : World)
set_option linter.unusedSimpArgs false
set_option maxRecDepth 100000
set_option linter.unusedVariables false
set_option maxHeartbeats 8000000
theorem leaf_of_one {t : Spl} (hr : t.right 0) (hn : ¬ 1 < (panesT t).length) : panesT t = [t.pane] := by
  obtain ⟨w, p, s, ks⟩ := t
  obtain ⟨-, h⟩ := right_mk.1 hr
  rcases h with ⟨rfl, rfl, -⟩ | ⟨hw, -, h2, -, hk⟩
  · rw [panesT_mk, if_pos rfl]
    rfl
  · exfalso
    have := kids_panes hk
    rw [panesT_mk, if_neg (by omega)] at hn
    omega
theorem pane_in {t : Spl} (hr : t.right 0) : t.pane = 0 ∨ t.pane ∈ panesT t := by
  obtain ⟨w, p, s, ks⟩ := t
  obtain ⟨-, h⟩ := right_mk.1 hr
  rcases h with ⟨rfl, rfl, -⟩ | ⟨hw, -, h2, hp, hk⟩
  · right
    rw [panesT_mk, if_pos rfl]
    exact List.mem_singleton.2 rfl
  · exact .inl hp
theorem permLv {b bs bw : Blk} {X F F' : Mem} (h : F.Perm (bw :: F')) : (b :: bs :: (X ++ (F ++ []))).Perm ([bs, bw] ++ (b :: (X ++ F'))) := by
  rw [List.append_nil]
  have h1 : (X ++ F).Perm (bw :: (X ++ F')) := (h.append_left X).trans List.perm_middle
  exact (List.Perm.swap _ _ _).trans (List.Perm.cons _ ((h1.cons _).trans (.swap _ _ _)))
def lvS (s : Ses) (k : Nat) : Ses := ⟨s.name, s.wins.eraseIdx k, lvD (lvA s.act s.bef k) k, lvD (lvB s.act s.bef k) k⟩
theorem pane_ne {w : Win} {pane : Int} (hw : WinT w) (hp0 : pane ≠ 0) (h : pane ∉ panesT w.s) : paneW w ≠ pane := fun e => by
  rcases pane_in hw.1 with h1 | h1
  · exact hp0 (e ▸ h1)
  · exact h (e ▸ h1)
theorem idx_no {l : List Win} {pane : Int} (hl : ∀ w ∈ l, paneW w ≠ pane) : ¬ pane ∈ l.map paneW := fun h => by
  obtain ⟨w, hw, e⟩ := List.mem_map.1 h
  exact hl w hw e
theorem idx_yes {l : List Win} {pane : Int} {k : Nat} {w : Win} (hk : l[k]? = some w) (hp : paneW w = pane) (hl : ∀ w ∈ l.take k, paneW w ≠ pane) : pane ∈ l.map paneW ∧ (l.map paneW).idxOf pane = k := by
  refine ⟨List.mem_map.2 ⟨w, List.mem_of_getElem? hk, hp⟩, ?_⟩
  have e : l.map paneW = (l.take k).map paneW ++ (l.drop k).map paneW := by rw [← List.map_append, List.take_append_drop]
  have := lt_of_at hk
  rw [e, List.idxOf_append, if_neg (idx_no hl), drop_cons_of hk, List.map_cons, hp, List.idxOf_cons_self, List.length_map, List.length_take]
  omega
theorem close_win (hT : Tabs W) (h : Hs) (hok : h.ok) (h0 : chkH h = 0) (pane : Int) (i k : Nat) (w : Win) (hps : posS h.ses pane = some (i, k)) (hwa : winAt h.ses i k = some w) (hmany : ¬ 1 < (panesT w.s).length) (hp0 : pane ≠ 0) (s0 : Ses) (hs0 : h.ses[i]? = some s0) (hsm : 1 < s0.wins.length) (b bp : Nat) (x : OH) (hx : x.T = h) (ho : x.o = none → x.views = []) :
    ACalls Tryd.prog W 29 [.bref b 0, .bref bp 0] (⟨b, .row 3 [x.V] 0⟩ :: (x.M ++ [⟨bp, .row 1 [.int .i64 pane] 0⟩])) fun v σ' => v = .int .i64 0 ∧ ((0 : Int) = 0 → HsDone b ⟨h.ses.set i (lvS s0 k), h.views, h.next⟩ σ') := by
  have hsr := right_win h0
  obtain ⟨hl4, -, hn1, hn2, -, -⟩ := right_ses h0
  subst hx
  have hwr : ∀ p ∈ x.L, SesR x.next p.2 := fun p hp => hsr p.2 (List.mem_map.2 ⟨p, hp, rfl⟩)
  have hl4' : x.L.length ≤ 4 := by simpa [OH.T] using hl4
  obtain ⟨s, w', hs, hw, hp, hb1, hb2⟩ := posS_some hps
  obtain rfl : w' = w := by
    unfold winAt at hwa
    rw [hs] at hwa
    exact Option.some.inj (hw.symm.trans hwa)
  have hne : x.L ≠ [] := fun e => by
    unfold OH.T at hs
    rw [e] at hs
    cases hs
  refine ACalls.perm ?_ (own_perm hne (fun p hp h => by have := (hwr p hp).many; rw [h] at this; simp at this) b _)
  obtain ⟨bs, L, o, vs, nx⟩ := x
  unfold OH.T at *
  dsimp only at *
  have hw6 : ∀ p ∈ L, p.2.wins.length ≤ 6 := fun p hp => (hwr p hp).many.2
  have hwt : ∀ p ∈ L, ∀ w ∈ p.2.wins, WinT w := fun p hp w hw => winT_of ((hwr p hp).win w hw)
  rw [List.getElem?_map] at hs
  obtain ⟨x0, hx, rfl⟩ := Option.map_eq_some_iff.1 hs
  have hfn := find_some W b bs (vwV o vs) nx L pane hl4' hw6 hwt i k x0 w' hx hw hp (fun p hp => hb1 p.2 (by rw [← List.map_take]; exact List.mem_map.2 ⟨p, hp, rfl⟩)) hb2
  have hfx := winsP_at hx
  have hkw := lt_of_at hw
  have hxm := List.mem_of_getElem? hx
  have hwm := List.mem_of_getElem? hw
  have hyt := hwt x0 hxm w' hwm
  have hpn := panes_ok W w'.s 0 hyt.1 hyt.2
  have hlf := leaf_of_one hyt.1 hmany
  have hln := panesV_len (panesT w'.s)
  rw [encSpl_eta] at hpn
  rw [hlf] at hpn hp hmany hln
  have hpw : paneW w' = pane := (List.mem_singleton.1 hp).symm
  have hbef : ∀ j x, j < i → L[j]? = some x → ¬ pane ∈ x.2.wins.map paneW := fun j x hji hxj => idx_no fun w hw => pane_ne (hwt x (List.mem_of_getElem? hxj) w hw) hp0 (hb1 x.2 (by
    rw [← List.map_take]
    exact List.mem_map.2 ⟨x, List.mem_of_getElem? (i := j) (by rw [List.getElem?_take, if_pos hji]; exact hxj), rfl⟩) w hw)
  have hat := idx_yes hw hpw fun w hwk => pane_ne (hwt x0 hxm w (List.mem_of_mem_take hwk)) hp0 (hb2 w hwk)
  have hil := lt_of_at hx
  rw [List.getElem?_map, hx] at hs0
  obtain rfl := Option.some.inj hs0
  have hlv : ACalls Tryd.prog W 36 [.ref bs 4 i 0, .int .i64 k] [⟨bs, .row 4 (L.map sesR) 0⟩, ⟨x0.1, .row 8 (x0.2.wins.map encWin) 0⟩]
      (Gives (fun _ : Unit => .tup []) (fun _ => [⟨bs, .row 4 ((L.set i (x0.1, lvS x0.2 k)).map sesR) 0⟩, ⟨x0.1, .row 8 ((lvS x0.2 k).wins.map encWin ++ [zWnD]) 0⟩]) (fun _ => True)) := by
    have hs1 := hwr x0 hxm
    have h6 := hs1.many.2
    have h7 := hs1.act
    have h8 := hs1.bef
    have hm9 : (x0.2.wins.map encWin).length = x0.2.wins.length := List.length_map _
    have hcw : (x0.2.wins.map encWin).all cellsB = true := List.all_eq_true.2 fun v hv => by
      obtain ⟨w, -, rfl⟩ := List.mem_map.1 hv
      rfl
    have := leaveH_ok W bs x0.1 i k (L.map sesR) (x0.2.wins.map encWin) x0.2.name x0.2.act x0.2.bef (by rw [List.getElem?_map, hx, hm9]; rfl) hcw (by omega) (by omega) (by omega) (by omega)
    have e1 : (x0.2.wins.map encWin).take k ++ (x0.2.wins.map encWin).drop (k + 1) = (lvS x0.2 k).wins.map encWin := by
      rw [lvS, List.eraseIdx_eq_take_drop_succ, List.map_append, List.map_take, List.map_drop]
    have e2 : (x0.2.wins.map encWin).length - 1 = (lvS x0.2 k).wins.length := by
      rw [lvS, hm9, List.length_eraseIdx, if_pos hkw]
    rw [e1, e2] at this
    rw [List.map_set]
    exact this
  rcases o with _ | bo
  · refine acalls_of_vc (DL_ok (by decide)) Tryd.func29 rfl (by decide) (by decide) rfl ?_
    refine g0_ ?_
    refine ACalls.sameN hfn (permF [_] _) ?_
    refine g0_ ?_
    refine ⟨_, eqlH_ref Tryd.underlying59, ?_⟩
    refine g0_ ?_
    refine g1_ ?_
    refine (hpn).use ?_; refine g0_ ?_
    refine g1_ ?_
    refine' loopI (α := Nat) (fun j => [(93, .int .i64 j)]) [(0, _), (1, _), (92, _)] (fun j => ⟨b, .row 3 [.agg [.rsl bs 4 0 L.length, vwV none vs, .int .i64 nx]] 0⟩ :: ⟨bs, .row 4 (L.map sesR) 0⟩ :: ([⟨bp, .row 1 [.int .i64 pane] 0⟩] ++ (famM 8 encWin (L.map winsP) ++ []))) (fun j => j ≤ i) (fun j => i - j) 0 ?_ ?_
    · exact Nat.zero_le _
    rintro j hj
    obtain ⟨xj, hxj⟩ : ∃ x, L[j]? = some x := ⟨_, List.getElem?_eq_getElem (show j < L.length by omega)⟩
    have hfj := winsP_at hxj
    have hxz0 : L[0 + j]? = some xj := by rw [Nat.zero_add]; exact hxj
    have hx6 := hw6 xj (List.mem_of_getElem? hxj)
    have hxjm : (List.map encWin xj.2.wins).length = xj.2.wins.length := List.length_map _
    have hix := idxWin_ok W xj.2.wins pane (by omega)
    by_cases hji : j = i
    case neg =>
      rw [if_neg (hbef j xj (by omega) hxj)] at hix
      refine g0_ ?_
      refine g1_ ?_
      refine hix.borrow (args' := [.sl 8 (xj.2.wins.map encWin), .fn 35 [.ip (.int .i64 pane) 0]]) rfl rfl (fun j hj => ?_) ?_
      · match j, hj with
        | 0, _ => exact frz_row (by repeat (first | exact .here _ _ _ | apply Look.there | exact Look.fam (by assumption) _)) _ (by simp)
        | 1, _ => exact .fn _ _ _ rfl fun j hj => (by match j, hj with | 0, _ => exact .bref _ _ _ _ _ _ lk_)
      refine g0_ ?_
      refine g1_ ?_
      refine nx_ (j + 1) ?_ ?_
      · exact (show j + 1 ≤ i by omega)
      · ((try dsimp only); (try simp only [List.length_drop, List.length_take, List.length_append, List.length_cons, List.length_nil, List.length_map] at *); omega)
    subst hji
    obtain rfl : xj = x0 := Option.some.inj (hxj.symm.trans hx)
    rw [if_pos hat.1, hat.2] at hix
    refine g0_ ?_
    refine g1_ ?_
    refine hix.borrow (args' := [.sl 8 (xj.2.wins.map encWin), .fn 35 [.ip (.int .i64 pane) 0]]) rfl rfl (fun j hj => ?_) ?_
    · match j, hj with
      | 0, _ => exact frz_row (by repeat (first | exact .here _ _ _ | apply Look.there | exact Look.fam (by assumption) _)) _ (by simp)
      | 1, _ => exact .fn _ _ _ rfl fun j hj => (by match j, hj with | 0, _ => exact .bref _ _ _ _ _ _ lk_)
    refine g0_ ?_
    refine g1_ ?_
    rw [Nat.zero_add j]
    refine ACalls.lend hlv (permLv (famAt hx)) ?_
    rintro _ -
    refine g0_ ?_
    exact ⟨rfl, fun _ => done_ses3 (T := [⟨bp, .row 1 [.int .i64 pane] 0⟩]) hx rfl rfl ho (List.perm_middle (l₁ := [_, _]))⟩
  · refine acalls_of_vc (DL_ok (by decide)) Tryd.func29 rfl (by decide) (by decide) rfl ?_
    refine g0_ ?_
    refine ACalls.sameN hfn (permF [_, _] _) ?_
    refine g0_ ?_
    refine ⟨_, eqlH_ref Tryd.underlying59, ?_⟩
    refine g0_ ?_
    refine g1_ ?_
    refine (hpn).use ?_; refine g0_ ?_
    refine g1_ ?_
    refine' loopI (α := Nat) (fun j => [(93, .int .i64 j)]) [(0, _), (1, _), (92, _)] (fun j => ⟨b, .row 3 [.agg [.rsl bs 4 0 L.length, vwV (some bo) vs, .int .i64 nx]] 0⟩ :: ⟨bs, .row 4 (L.map sesR) 0⟩ :: ([⟨bp, .row 1 [.int .i64 pane] 0⟩, ⟨bo, .row 3 (vs.map encVw) 0⟩] ++ (famM 8 encWin (L.map winsP) ++ []))) (fun j => j ≤ i) (fun j => i - j) 0 ?_ ?_
    · exact Nat.zero_le _
    rintro j hj
    obtain ⟨xj, hxj⟩ : ∃ x, L[j]? = some x := ⟨_, List.getElem?_eq_getElem (show j < L.length by omega)⟩
    have hfj := winsP_at hxj
    have hxz0 : L[0 + j]? = some xj := by rw [Nat.zero_add]; exact hxj
    have hx6 := hw6 xj (List.mem_of_getElem? hxj)
    have hxjm : (List.map encWin xj.2.wins).length = xj.2.wins.length := List.length_map _
    have hix := idxWin_ok W xj.2.wins pane (by omega)
    by_cases hji : j = i
    case neg =>
      rw [if_neg (hbef j xj (by omega) hxj)] at hix
      refine g0_ ?_
      refine g1_ ?_
      refine hix.borrow (args' := [.sl 8 (xj.2.wins.map encWin), .fn 35 [.ip (.int .i64 pane) 0]]) rfl rfl (fun j hj => ?_) ?_
      · match j, hj with
        | 0, _ => exact frz_row (by repeat (first | exact .here _ _ _ | apply Look.there | exact Look.fam (by assumption) _)) _ (by simp)
        | 1, _ => exact .fn _ _ _ rfl fun j hj => (by match j, hj with | 0, _ => exact .bref _ _ _ _ _ _ lk_)
      refine g0_ ?_
      refine g1_ ?_
      refine nx_ (j + 1) ?_ ?_
      · exact (show j + 1 ≤ i by omega)
      · ((try dsimp only); (try simp only [List.length_drop, List.length_take, List.length_append, List.length_cons, List.length_nil, List.length_map] at *); omega)
    subst hji
    obtain rfl : xj = x0 := Option.some.inj (hxj.symm.trans hx)
    rw [if_pos hat.1, hat.2] at hix
    refine g0_ ?_
    refine g1_ ?_
    refine hix.borrow (args' := [.sl 8 (xj.2.wins.map encWin), .fn 35 [.ip (.int .i64 pane) 0]]) rfl rfl (fun j hj => ?_) ?_
    · match j, hj with
      | 0, _ => exact frz_row (by repeat (first | exact .here _ _ _ | apply Look.there | exact Look.fam (by assumption) _)) _ (by simp)
      | 1, _ => exact .fn _ _ _ rfl fun j hj => (by match j, hj with | 0, _ => exact .bref _ _ _ _ _ _ lk_)
    refine g0_ ?_
    refine g1_ ?_
    rw [Nat.zero_add j]
    refine ACalls.lend hlv (permLv (famAt hx)) ?_
    rintro _ -
    refine g0_ ?_
    exact ⟨rfl, fun _ => done_ses3 (T := [⟨bp, .row 1 [.int .i64 pane] 0⟩]) hx rfl rfl ho (List.perm_middle (l₁ := [_, _]))⟩
theorem permGn {b bs bo bp : Blk} {F : Mem} : (b :: bs :: ([bp, bo] ++ (F ++ []))).Perm ([b, bs, bo] ++ (bp :: F)) := by
  rw [List.append_nil]
  exact List.Perm.cons _ (List.Perm.cons _ (.swap _ _ _))
theorem wkGn {bs bw : Blk} {X F F' : Mem} (h : F.Perm (bw :: F')) : wkMem (bs :: (X ++ F)) (bs :: F') :=
  ⟨X ++ [bw], List.Perm.cons _ (((h.append_left X).trans (by rw [List.append_assoc]; exact .refl _ : (X ++ bw :: F').Perm ((X ++ [bw]) ++ F'))).trans List.perm_append_comm)⟩
theorem permGs {b bs bp : Blk} {F : Mem} : (b :: bs :: ([bp] ++ (F ++ []))).Perm ([b, bs] ++ (bp :: F)) := by
  rw [List.append_nil]
  exact .refl _
theorem close_ses (hT : Tabs W) (h : Hs) (hok : h.ok) (h0 : chkH h = 0) (pane : Int) (i k : Nat) (w : Win) (hps : posS h.ses pane = some (i, k)) (hwa : winAt h.ses i k = some w) (hmany : ¬ 1 < (panesT w.s).length) (hp0 : pane ≠ 0) (s0 : Ses) (hs0 : h.ses[i]? = some s0) (hsm : ¬ 1 < s0.wins.length) (b bp : Nat) (x : OH) (hx : x.T = h) (ho : x.o = none → x.views = []) :
    ACalls Tryd.prog W 29 [.bref b 0, .bref bp 0] (⟨b, .row 3 [x.V] 0⟩ :: (x.M ++ [⟨bp, .row 1 [.int .i64 pane] 0⟩])) fun v σ' => v = .int .i64 0 ∧ ((0 : Int) = 0 → HsDone b ⟨h.ses.eraseIdx i, goneV i h.views, h.next⟩ σ') := by
  have hsr := right_win h0
  obtain ⟨hl4, hvl4, hn1, hn2, -, -⟩ := right_ses h0
  subst hx
  have hwr : ∀ p ∈ x.L, SesR x.next p.2 := fun p hp => hsr p.2 (List.mem_map.2 ⟨p, hp, rfl⟩)
  have hl4' : x.L.length ≤ 4 := by simpa [OH.T] using hl4
  obtain ⟨s, w', hs, hw, hp, hb1, hb2⟩ := posS_some hps
  obtain rfl : w' = w := by
    unfold winAt at hwa
    rw [hs] at hwa
    exact Option.some.inj (hw.symm.trans hwa)
  have hne : x.L ≠ [] := fun e => by
    unfold OH.T at hs
    rw [e] at hs
    cases hs
  refine ACalls.perm ?_ (own_perm hne (fun p hp h => by have := (hwr p hp).many; rw [h] at this; simp at this) b _)
  obtain ⟨bs, L, o, vs, nx⟩ := x
  unfold OH.T at *
  dsimp only at *
  have hw6 : ∀ p ∈ L, p.2.wins.length ≤ 6 := fun p hp => (hwr p hp).many.2
  have hwt : ∀ p ∈ L, ∀ w ∈ p.2.wins, WinT w := fun p hp w hw => winT_of ((hwr p hp).win w hw)
  rw [List.getElem?_map] at hs
  obtain ⟨x0, hx, rfl⟩ := Option.map_eq_some_iff.1 hs
  have hfn := find_some W b bs (vwV o vs) nx L pane hl4' hw6 hwt i k x0 w' hx hw hp (fun p hp => hb1 p.2 (by rw [← List.map_take]; exact List.mem_map.2 ⟨p, hp, rfl⟩)) hb2
  have hfx := winsP_at hx
  have hkw := lt_of_at hw
  have hxm := List.mem_of_getElem? hx
  have hwm := List.mem_of_getElem? hw
  have hyt := hwt x0 hxm w' hwm
  have hpn := panes_ok W w'.s 0 hyt.1 hyt.2
  have hlf := leaf_of_one hyt.1 hmany
  have hln := panesV_len (panesT w'.s)
  rw [encSpl_eta] at hpn
  rw [hlf] at hpn hp hmany hln
  have hpw : paneW w' = pane := (List.mem_singleton.1 hp).symm
  have hbef : ∀ j x, j < i → L[j]? = some x → ¬ pane ∈ x.2.wins.map paneW := fun j x hji hxj => idx_no fun w hw => pane_ne (hwt x (List.mem_of_getElem? hxj) w hw) hp0 (hb1 x.2 (by
    rw [← List.map_take]
    exact List.mem_map.2 ⟨x, List.mem_of_getElem? (i := j) (by rw [List.getElem?_take, if_pos hji]; exact hxj), rfl⟩) w hw)
  have hat := idx_yes hw hpw fun w hwk => pane_ne (hwt x0 hxm w (List.mem_of_mem_take hwk)) hp0 (hb2 w hwk)
  have hil := lt_of_at hx
  rw [List.getElem?_map, hx] at hs0
  obtain rfl := Option.some.inj hs0
  have hR4 : (L.map sesR).length = L.length := List.length_map _
  have hcR : (L.map sesR).all cellsB = true := List.all_eq_true.2 fun v hv => by
    obtain ⟨p, -, rfl⟩ := List.mem_map.1 hv
    rfl
  have hvl : vs.length ≤ 4 := hvl4
  rcases o with _ | bo
  · refine acalls_of_vc (DL_ok (by decide)) Tryd.func29 rfl (by decide) (by decide) rfl ?_
    refine g0_ ?_
    refine ACalls.sameN hfn (permF [_] _) ?_
    refine g0_ ?_
    refine ⟨_, eqlH_ref Tryd.underlying59, ?_⟩
    refine g0_ ?_
    refine g1_ ?_
    refine (hpn).use ?_; refine g0_ ?_
    refine g1_ ?_
    refine' loopI (α := Nat) (fun j => [(93, .int .i64 j)]) [(0, _), (1, _), (92, _)] (fun j => ⟨b, .row 3 [.agg [.rsl bs 4 0 L.length, vwV none vs, .int .i64 nx]] 0⟩ :: ⟨bs, .row 4 (L.map sesR) 0⟩ :: ([⟨bp, .row 1 [.int .i64 pane] 0⟩] ++ (famM 8 encWin (L.map winsP) ++ []))) (fun j => j ≤ i) (fun j => i - j) 0 ?_ ?_
    · exact Nat.zero_le _
    rintro j hj
    obtain ⟨xj, hxj⟩ : ∃ x, L[j]? = some x := ⟨_, List.getElem?_eq_getElem (show j < L.length by omega)⟩
    have hfj := winsP_at hxj
    have hxz0 : L[0 + j]? = some xj := by rw [Nat.zero_add]; exact hxj
    have hx6 := hw6 xj (List.mem_of_getElem? hxj)
    have hxjm : (List.map encWin xj.2.wins).length = xj.2.wins.length := List.length_map _
    have hix := idxWin_ok W xj.2.wins pane (by omega)
    by_cases hji : j = i
    case neg =>
      rw [if_neg (hbef j xj (by omega) hxj)] at hix
      refine g0_ ?_
      refine g1_ ?_
      refine hix.borrow (args' := [.sl 8 (xj.2.wins.map encWin), .fn 35 [.ip (.int .i64 pane) 0]]) rfl rfl (fun j hj => ?_) ?_
      · match j, hj with
        | 0, _ => exact frz_row (by repeat (first | exact .here _ _ _ | apply Look.there | exact Look.fam (by assumption) _)) _ (by simp)
        | 1, _ => exact .fn _ _ _ rfl fun j hj => (by match j, hj with | 0, _ => exact .bref _ _ _ _ _ _ lk_)
      refine g0_ ?_
      refine g1_ ?_
      refine nx_ (j + 1) ?_ ?_
      · exact (show j + 1 ≤ i by omega)
      · ((try dsimp only); (try simp only [List.length_drop, List.length_take, List.length_append, List.length_cons, List.length_nil, List.length_map] at *); omega)
    subst hji
    obtain rfl : xj = x0 := Option.some.inj (hxj.symm.trans hx)
    rw [if_pos hat.1, hat.2] at hix
    refine g0_ ?_
    refine g1_ ?_
    refine hix.borrow (args' := [.sl 8 (xj.2.wins.map encWin), .fn 35 [.ip (.int .i64 pane) 0]]) rfl rfl (fun j hj => ?_) ?_
    · match j, hj with
      | 0, _ => exact frz_row (by repeat (first | exact .here _ _ _ | apply Look.there | exact Look.fam (by assumption) _)) _ (by simp)
      | 1, _ => exact .fn _ _ _ rfl fun j hj => (by match j, hj with | 0, _ => exact .bref _ _ _ _ _ _ lk_)
    refine g0_ ?_
    refine g1_ ?_
    have hgn := goneH_nil W b bs j (L.map sesR) nx hcR (by rw [hR4]; exact lt_of_at hx) (by rw [hR4]; exact hl4')
    rw [hR4] at hgn
    refine ACalls.lend hgn permGs ?_
    rintro _ -
    refine g0_ ?_
    obtain rfl := ho rfl
    refine ⟨rfl, fun _ => done_gone (vs := []) (T := []) (V := []) (js := [zSnD]) rfl (lt_of_at hx) (.refl _) ?_ (.inl rfl) (.nils 3)⟩
    exact wkGn (X := [_]) (famAt hx)
  · refine acalls_of_vc (DL_ok (by decide)) Tryd.func29 rfl (by decide) (by decide) rfl ?_
    refine g0_ ?_
    refine ACalls.sameN hfn (permF [_, _] _) ?_
    refine g0_ ?_
    refine ⟨_, eqlH_ref Tryd.underlying59, ?_⟩
    refine g0_ ?_
    refine g1_ ?_
    refine (hpn).use ?_; refine g0_ ?_
    refine g1_ ?_
    refine' loopI (α := Nat) (fun j => [(93, .int .i64 j)]) [(0, _), (1, _), (92, _)] (fun j => ⟨b, .row 3 [.agg [.rsl bs 4 0 L.length, vwV (some bo) vs, .int .i64 nx]] 0⟩ :: ⟨bs, .row 4 (L.map sesR) 0⟩ :: ([⟨bp, .row 1 [.int .i64 pane] 0⟩, ⟨bo, .row 3 (vs.map encVw) 0⟩] ++ (famM 8 encWin (L.map winsP) ++ []))) (fun j => j ≤ i) (fun j => i - j) 0 ?_ ?_
    · exact Nat.zero_le _
    rintro j hj
    obtain ⟨xj, hxj⟩ : ∃ x, L[j]? = some x := ⟨_, List.getElem?_eq_getElem (show j < L.length by omega)⟩
    have hfj := winsP_at hxj
    have hxz0 : L[0 + j]? = some xj := by rw [Nat.zero_add]; exact hxj
    have hx6 := hw6 xj (List.mem_of_getElem? hxj)
    have hxjm : (List.map encWin xj.2.wins).length = xj.2.wins.length := List.length_map _
    have hix := idxWin_ok W xj.2.wins pane (by omega)
    by_cases hji : j = i
    case neg =>
      rw [if_neg (hbef j xj (by omega) hxj)] at hix
      refine g0_ ?_
      refine g1_ ?_
      refine hix.borrow (args' := [.sl 8 (xj.2.wins.map encWin), .fn 35 [.ip (.int .i64 pane) 0]]) rfl rfl (fun j hj => ?_) ?_
      · match j, hj with
        | 0, _ => exact frz_row (by repeat (first | exact .here _ _ _ | apply Look.there | exact Look.fam (by assumption) _)) _ (by simp)
        | 1, _ => exact .fn _ _ _ rfl fun j hj => (by match j, hj with | 0, _ => exact .bref _ _ _ _ _ _ lk_)
      refine g0_ ?_
      refine g1_ ?_
      refine nx_ (j + 1) ?_ ?_
      · exact (show j + 1 ≤ i by omega)
      · ((try dsimp only); (try simp only [List.length_drop, List.length_take, List.length_append, List.length_cons, List.length_nil, List.length_map] at *); omega)
    subst hji
    obtain rfl : xj = x0 := Option.some.inj (hxj.symm.trans hx)
    rw [if_pos hat.1, hat.2] at hix
    refine g0_ ?_
    refine g1_ ?_
    refine hix.borrow (args' := [.sl 8 (xj.2.wins.map encWin), .fn 35 [.ip (.int .i64 pane) 0]]) rfl rfl (fun j hj => ?_) ?_
    · match j, hj with
      | 0, _ => exact frz_row (by repeat (first | exact .here _ _ _ | apply Look.there | exact Look.fam (by assumption) _)) _ (by simp)
      | 1, _ => exact .fn _ _ _ rfl fun j hj => (by match j, hj with | 0, _ => exact .bref _ _ _ _ _ _ lk_)
    refine g0_ ?_
    refine g1_ ?_
    have hgn := goneH_ok W b bs bo j (L.map sesR) vs nx hcR (by rw [hR4]; exact lt_of_at hx) (by rw [hR4]; exact hl4') hvl hok.view
    rw [hR4] at hgn
    refine ACalls.lend hgn permGn ?_
    rintro r -
    refine g0_ ?_
    refine ⟨rfl, fun _ => done_gone (T := []) (V := []) (js := [zSnD]) rfl (lt_of_at hx) (.refl _) ?_ (.inr (.inl ⟨_, _, _, _, rfl⟩)) ?_⟩
    · exact wkGn (X := [_, _]) (famAt hx)
    · exact (FrzL.same ((goneV j vs).map encVw)).rowJ (by apply Look.there; exact .here _ _ _) (by simp)
end Go.Eng.YtkenlcaifhffoaaDoor
end

/- Houses: package house's Close (b_ x_ q_ e_). -/
section
namespace Go.Eng.YtkenlcaifhffoaaDoor
open Go Go.Eng Go.Proofs
variable (W : World)
set_option linter.unusedSimpArgs false
set_option maxRecDepth 100000
set_option linter.unusedVariables false
set_option maxHeartbeats 8000000
theorem panes_pos1 (t : Spl) : ∀ way, t.right way → ∀ p ∈ panesT t, 1 ≤ p ∧ p ≤ 9999 := by
  induction t using spl_induct with
  | h w p s ks ih =>
    intro way h q hq
    rw [panesT_mk] at hq
    obtain ⟨-, h⟩ := right_mk.1 h
    rcases h with ⟨rfl, rfl, hpp⟩ | ⟨hw, -, h2, -, hk⟩
    · rw [if_pos rfl] at hq
      rw [List.mem_singleton.1 hq]
      exact hpp
    · rw [if_neg (by omega)] at hq
      obtain ⟨k, hk1, hk2⟩ := List.mem_flatMap.1 hq
      exact ih k hk1 w (hk k hk1) q hk2
def clsV (w : Win) (pane : Int) : Win := if w.act = pane ∧ (w.bef = pane ∨ w.bef = 0) then ⟨w.name, (dropR w.s pane).1, nextP (panesT w.s) pane, 0, false⟩ else clsW w pane
def closeY (h : Hs) (pane : Int) : Hs := match posS h.ses pane with
  | none => h
  | some (i, k) => match winAt h.ses i k with
    | none => h
    | some w => if 1 < (panesT w.s).length then ⟨setW h.ses i k (clsV w pane), h.views, h.next⟩ else match h.ses[i]? with
      | none => h
      | some s => if 1 < s.wins.length then ⟨h.ses.set i (lvS s k), h.views, h.next⟩ else ⟨h.ses.eraseIdx i, goneV i h.views, h.next⟩
theorem hclose1_ok (hT : Tabs W) (h : Hs) (hok : h.ok) (h0 : chkH h = 0) (pane : Int) (b bp : Nat) (x : OH) (hx : x.T = h) (ho : x.o = none → x.views = []) :
    ACalls Tryd.prog W 29 [.bref b 0, .bref bp 0] (⟨b, .row 3 [x.V] 0⟩ :: (x.M ++ [⟨bp, .row 1 [.int .i64 pane] 0⟩])) fun v σ' => v = .int .i64 (onE h pane) ∧ (onE h pane = 0 → HsDone b (closeY h pane) σ') := by
  cases hps : posS h.ses pane with
  | some y =>
    obtain ⟨i, k⟩ := y
    obtain ⟨s, w, hs, hw, hp, hb1, hb2⟩ := posS_some hps
    have hwa : winAt h.ses i k = some w := by rw [winAt, hs]; exact hw
    have he : onE h pane = 0 := by rw [onE, hps, if_neg (by simp)]
    have hwr := (right_win h0 s (List.mem_of_getElem? hs)).win w (List.mem_of_getElem? hw)
    rw [he]
    unfold closeY
    rw [hps]
    dsimp only
    rw [hwa, hs]
    dsimp only
    by_cases hm : 1 < (panesT w.s).length
    · rw [if_pos hm]
      unfold clsV
      by_cases hl : w.act = pane ∧ (w.bef = pane ∨ w.bef = 0)
      · rw [if_pos hl]
        exact close_lastN W hT h hok h0 pane i k w hps hwa hm hl.1 hl.2 b bp x hx ho
      · rw [if_neg hl]
        exact close_many W hT h hok h0 pane i k w hps hwa hm hl b bp x hx ho
    · rw [if_neg hm]
      have hp0 : pane ≠ 0 := by have := (panes_pos1 w.s 0 (winT_of hwr).1 pane hp).1; omega
      by_cases hsm : 1 < s.wins.length
      · rw [if_pos hsm]
        exact close_win W hT h hok h0 pane i k w hps hwa hm hp0 s hs hsm b bp x hx ho
      · rw [if_neg hsm]
        exact close_ses W hT h hok h0 pane i k w hps hwa hm hp0 s hs hsm b bp x hx ho
  | none =>
    have hsr := right_win h0
    obtain ⟨hl4, -, hn1, hn2, -, -⟩ := right_ses h0
    subst hx
    have hwr : ∀ p ∈ x.L, SesR x.next p.2 := fun p hp => hsr p.2 (List.mem_map.2 ⟨p, hp, rfl⟩)
    have hl4' : x.L.length ≤ 4 := by simpa [OH.T] using hl4
    have he : onE x.T pane = 6 := by rw [onE, hps, if_pos rfl]
    rw [he]
    by_cases hne : x.L = []
    · obtain ⟨bs, L, o, vs, nx⟩ := x
      dsimp only at hne
      subst hne
      refine ACalls.perm ?_ perm_oneP
      unfold OH.V OH.M
      dsimp only
      have hfn := fun vv => find_nil W b vv nx pane
      rcases o with _ | bo
      · refine acalls_of_vc (DL_ok (by decide)) Tryd.func29 rfl (by decide) (by decide) rfl ?_
        refine g0_ ?_
        refine ACalls.sameN (hfn _) (lookH1 lk_) ?_
        refine g0_ ?_
        refine ⟨_, eqlH_nil Tryd.underlying59, ?_⟩
        refine g0_ ?_
        refine g1_ ?_
        exact ⟨rfl, fun h => by cases h⟩
      · refine acalls_of_vc (DL_ok (by decide)) Tryd.func29 rfl (by decide) (by decide) rfl ?_
        refine g0_ ?_
        refine ACalls.sameN (hfn _) (lookH1 lk_) ?_
        refine g0_ ?_
        refine ⟨_, eqlH_nil Tryd.underlying59, ?_⟩
        refine g0_ ?_
        refine g1_ ?_
        exact ⟨rfl, fun h => by cases h⟩
    · refine ACalls.perm ?_ (own_perm hne (fun p hp h => by have := (hwr p hp).many; rw [h] at this; simp at this) b _)
      obtain ⟨bs, L, o, vs, nx⟩ := x
      unfold OH.T at hps
      dsimp only at *
      have hw6 : ∀ p ∈ L, p.2.wins.length ≤ 6 := fun p hp => (hwr p hp).many.2
      have hwt : ∀ p ∈ L, ∀ w ∈ p.2.wins, WinT w := fun p hp w hw => winT_of ((hwr p hp).win w hw)
      have hfn := find_none W b bs (vwV o vs) nx L pane hl4' hw6 hwt (fun p hp => posS_none hps p.2 (List.mem_map.2 ⟨p, hp, rfl⟩))
      rcases o with _ | bo
      · refine acalls_of_vc (DL_ok (by decide)) Tryd.func29 rfl (by decide) (by decide) rfl ?_
        refine g0_ ?_
        refine ACalls.sameN hfn (permF [_] _) ?_
        refine g0_ ?_
        refine ⟨_, eqlH_nil Tryd.underlying59, ?_⟩
        refine g0_ ?_
        refine g1_ ?_
        exact ⟨rfl, fun h => by cases h⟩
      · refine acalls_of_vc (DL_ok (by decide)) Tryd.func29 rfl (by decide) (by decide) rfl ?_
        refine g0_ ?_
        refine ACalls.sameN hfn (permF [_, _] _) ?_
        refine g0_ ?_
        refine ⟨_, eqlH_nil Tryd.underlying59, ?_⟩
        refine g0_ ?_
        refine g1_ ?_
        exact ⟨rfl, fun h => by cases h⟩
theorem hcloseP_ok (hT : Tabs W) (h : Hs) (hok : h.ok) (pane : Int) :
    Pure Tryd.prog W 8 [encHs h, .int .i64 pane] (.tup [encHs (chgR h (onE h pane) (closeY h pane)).1, .int .i64 (chgR h (onE h pane) (closeY h pane)).2]) := by
  have hg := fun h0 b bp x hx ho => hclose1_ok W hT h hok h0 pane b bp x hx ho
  generalize onE h pane = E at *
  generalize closeY h pane = Y at *
  by_cases h0 : chkH h = 0
  · have hg := hg h0
    have hc := fun cap τ hg => changeH_ok W hT h hok h0 29 cap τ E Y hg
    unfold chgR
    rw [if_neg (by simpa using h0)]
    by_cases hE : E = 0
    · rw [if_pos hE, ← hE]
      rw [if_pos hE] at hc
      dsimp only
      rw [encHs_mk h] at *
      rw [encHs_mk Y] at *
      refine Pure.of (acalls_of_vc (drawOk W) Tryd.func8 rfl (by decide) (by decide) rfl ?_)
      (refine g0_ ?_; repeat (refine n1_ fun b_ => ?_; refine g0_ ?_))
      refine ACalls.lendF (hc _ _ (fun b x hx ho => hg b _ x hx ho)) (lookH1 lk_) ?_
      refine g0_ ?_
      exact .refl _
    · rw [if_neg hE]
      rw [if_neg hE] at hc
      dsimp only
      rw [encHs_mk h] at *
      rw [encHs_mk noHs] at *
      refine Pure.of (acalls_of_vc (drawOk W) Tryd.func8 rfl (by decide) (by decide) rfl ?_)
      (refine g0_ ?_; repeat (refine n1_ fun b_ => ?_; refine g0_ ?_))
      refine ACalls.lendF (hc _ _ (fun b x hx ho => hg b _ x hx ho)) (lookH1 lk_) ?_
      refine g0_ ?_
      exact .refl _
  · have hc := fun cap => changeH_bad W hT h hok h0 29 cap
    unfold chgR
    rw [if_pos h0]
    dsimp only
    generalize chkH h = C at *
    rw [encHs_mk h, encHs_mk noHs] at *
    refine Pure.of (acalls_of_vc (drawOk W) Tryd.func8 rfl (by decide) (by decide) rfl ?_)
    (refine g0_ ?_; repeat (refine n1_ fun b_ => ?_; refine g0_ ?_))
    refine (hc _).use ?_; refine g0_ ?_
    exact .refl _
end Go.Eng.YtkenlcaifhffoaaDoor
end
