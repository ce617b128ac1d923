/- Texts put together: Hs26, Hs27. -/
import Derived.Test.YtkenlcaifhffoaaDoorMHS24
import Derived.Test.YtkenlcaifhffoaaDoorMHS16
import Derived.Test.YtkenlcaifhffoaaDoorMHS9
import Derived.Test.YtkenlcaifhffoaaDoorMSI
import Derived.Test.YtkenlcaifhffoaaDoorMSG
import Derived.Test.YtkenlcaifhffoaaDoorMHS6
/- Houses: the document's CloseOf: what it stands on (b_ x_ q_ e_). -/
section
namespace Go.Eng
open Go
theorem fresh_block (σ : Mem) : ∃ b, ∀ k ∈ σ, k.b ≠ b := by
  induction σ with
  | nil => exact ⟨0, fun k hk => by cases hk⟩
  | cons a σ ih =>
    have key : ∀ l : Mem, ∃ n, ∀ k ∈ l, k.b < n := by
      intro l
      induction l with
      | nil => exact ⟨0, fun k hk => by cases hk⟩
      | cons a l ih =>
        obtain ⟨n, hn⟩ := ih
        refine ⟨n + a.b + 1, fun k hk => ?_⟩
        rcases List.mem_cons.1 hk with rfl | hk
        · omega
        · have := hn k hk; omega
    obtain ⟨n, hn⟩ := key (a :: σ)
    exact ⟨n, fun k hk e => by have := hn k hk; omega⟩
end Go.Eng
namespace Go.Eng.YtkenlcaifhffoaaDoor
open Go Go.Eng Go.Proofs
variable (W : World)
set_option linter.unusedSimpArgs false
set_option maxRecDepth 100000
set_option linter.unusedVariables false
set_option maxHeartbeats 8000000
theorem frz_sub {σ τ : Mem} (hs : ∀ k ∈ σ, k ∈ τ) {p p' : PV} (h : Frz σ p p') : Frz τ p p' := by
  induction h with
  | refl p => exact .refl p
  | nils sz => exact .nils sz
  | rsl b sz i n es es' fz r hl hi hn _ ih =>
    obtain ⟨r', hr'⟩ := Look.of_mem (hs _ hl.mem)
    exact .rsl b sz i n es es' fz r' hr' hi hn ih
  | agg cs cs' hl _ ih => exact .agg cs cs' hl ih
  | tup cs cs' hl _ ih => exact .tup cs cs' hl ih
  | bref b f sz e fz r hl =>
    obtain ⟨r', hr'⟩ := Look.of_mem (hs _ hl.mem)
    exact .bref b f sz e fz r' hr'
  | byt e b n p _ ih => exact .byt e b n p ih
  | fn f cs cs' hl _ ih => exact .fn f cs cs' hl ih
theorem HsDone.frz {sv vv : PV} {next : Int} {Y : Hs} {ρ : Mem} (h : ∀ b, HsDone b Y (⟨b, .row 3 [.agg [sv, vv, .int .i64 next]] 0⟩ :: ρ)) : Frz ρ (.agg [sv, vv, .int .i64 next]) (encHs Y) := by
  obtain ⟨b, hb⟩ := fresh_block ρ
  obtain ⟨sv', vv', ρ', hp, -, -, f1, f2⟩ := h b
  have hm : (⟨b, .row 3 [.agg [sv', vv', .int .i64 Y.next]] 0⟩ : Blk) ∈ (⟨b, .row 3 [.agg [sv, vv, .int .i64 next]] 0⟩ :: ρ : Mem) := hp.mem_iff.2 List.mem_cons_self
  have he : (⟨b, .row 3 [.agg [sv', vv', .int .i64 Y.next]] 0⟩ : Blk) = ⟨b, .row 3 [.agg [sv, vv, .int .i64 next]] 0⟩ := by
    rcases List.mem_cons.1 hm with h1 | h1
    · exact h1
    · exact absurd rfl (hb _ h1)
  injection he with _ he
  injection he with _ he _
  injection he with he _
  injection he with he
  injection he with e1 he
  injection he with e2 he
  injection he with e3 _
  subst e1 e2
  rw [← e3]
  have hs : ∀ k ∈ ρ', k ∈ ρ := by
    rw [← e3] at hp
    exact fun k hk => (List.Perm.cons_inv hp).mem_iff.2 hk
  exact frz_hs (frz_sub hs f1) (frz_sub hs f2)
theorem drop_same {w : Win} {next pane : Int} (hw : WinR next w) (hp : pane ∈ panesT w.s) (hm : 1 < (panesT w.s).length) : dropT pane w.s = ((dropR w.s pane).1, true) := by
  obtain ⟨h1, -, h3, h4⟩ := vis_right hw.vis
  rcases drop_rel pane w.s 0 h1 h4 with ⟨g1, g2, -⟩ | ⟨t', g1, g2, -⟩
  · rw [leaf_panes g1 g2] at hm
    simp at hm
  · unfold dropR
    rw [if_neg (by simpa using hw.vis), if_neg (by simpa using hp), if_neg (by omega), g1, g2]
    rfl
theorem cloneIn_ok (h : Hs) (hok : h.ok) (h0 : chkH h = 0) (i : Nat) (s : Ses) (hs : h.ses[i]? = some s) : ACalls Tryd.prog W 24 [encHs h] [] (Gives
    (fun y : OH × (Nat × Ses) × List PV × List PV => .agg [.rsl y.1.bs 4 0 y.1.L.length, vwV y.1.o y.1.views, .int .i64 y.1.next])
    (fun y => ⟨y.1.bs, .row 4 y.2.2.1 0⟩ :: ⟨y.2.1.1, .row 8 y.2.2.2 0⟩ :: (vwM y.1.o y.1.views ++ famM 8 encWin ((y.1.L.map winsP).eraseIdx i)))
    (fun y => y.1.T = h ∧ (y.1.o = none → y.1.views = []) ∧ y.1.L[i]? = some y.2.1 ∧ y.2.1.2 = s ∧ y.2.2.1 = y.1.L.map sesR ∧ y.2.2.2 = y.2.1.2.wins.map encWin)) := by
  refine (cloneHR_ok W h hok).mono ?_
  rintro v σ' ⟨x, ⟨hT, ho⟩, rfl, r, hr⟩
  subst hT
  have hsr := right_win h0
  have hw : ∀ p ∈ x.L, p.2.wins ≠ [] := fun p hp hn => by
    have := (hsr p.2 (List.mem_map.2 ⟨p, hp, rfl⟩)).many
    rw [hn] at this
    simp at this
  have hs' : (x.L.map Prod.snd)[i]? = some s := hs
  rw [List.getElem?_map] at hs'
  obtain ⟨p, hp, rfl⟩ := Option.map_eq_some_iff.1 hs'
  have hne : x.L.map sesR ≠ [] := fun e => by
    have := lt_of_at hp
    have := congrArg List.length e
    rw [List.length_map] at this
    simp at this
    rw [this] at hp
    cases hp
  refine ⟨(x, p, x.L.map sesR, p.2.wins.map encWin), ⟨rfl, ho, hp, rfl, rfl, rfl⟩, ?_, r, hr.trans (List.Perm.append_right r ?_)⟩
  · unfold OH.V
    rw [sess_R hw, accV_neH hne, List.length_map]
  · unfold OH.M
    rw [sess_R hw, accM_neH hne]
    refine (List.perm_append_comm_assoc _ _ _).trans (List.Perm.cons _ ?_)
    exact (((famR_perm hw).trans (famAt hp)).append_left _).trans List.perm_middle
end Go.Eng.YtkenlcaifhffoaaDoor
end

/- Houses: the document's CloseOf, where the window stays (b_ x_ q_). -/
section
namespace Go.Eng.YtkenlcaifhffoaaDoor
open Go Go.Eng Go.Proofs
variable (W : World)
set_option linter.unusedSimpArgs false
set_option maxRecDepth 100000
set_option linter.unusedVariables false
set_option maxHeartbeats 8000000
theorem wkVw (o : Option Nat) (vs : List Vw) (F : Mem) : wkMem (vwM o vs ++ F) (F ++ []) := ⟨vwM o vs, by rw [List.append_nil]; exact List.perm_append_comm⟩
theorem closeOf_none (h : Hs) (hok : h.ok) (h0 : chkH h = 0) (pane : Int) (hps : posS h.ses pane = none) : Pure Tryd.prog W 10 [encHs h, .int .i64 pane] (.tup [encHs noHs, .int .i64 6]) := by
  have hwh := whereR_ok W h hok h0 pane
  unfold whereI at hwh
  rw [hps] at hwh
  dsimp only at hwh
  rw [encHs_mk] at *
  refine Pure.of (acalls_of_vc (drawOk W) Tryd.func10 rfl (by decide) (by decide) rfl ?_)
  (refine g0_ ?_; repeat (refine n1_ fun b_ => ?_; refine g0_ ?_))
  refine (hwh).use ?_; refine g0_ ?_
  refine g1_ ?_
  rw [encHs_mk]
  refine .tup _ _ rfl fun j hj => ?_
  match j, hj with
  | 0, _ =>
    refine .agg _ _ rfl fun j hj => ?_
    match j, hj with
    | 0, _ => exact .nils 4
    | 1, _ => exact .nils 3
    | 2, _ => exact .refl _
  | 1, _ => exact .refl _
theorem closeOf_many (h : Hs) (hok : h.ok) (h0 : chkH h = 0) (pane : Int) (i k : Nat) (w : Win) (hps : posS h.ses pane = some (i, k)) (hwa : winAt h.ses i k = some w) (hmany : 1 < (panesT w.s).length) : Pure Tryd.prog W 10 [encHs h, .int .i64 pane] (.tup [encHs ⟨setW h.ses i k (clsV w pane), h.views, h.next⟩, .int .i64 0]) := by
  have hwh := whereR_ok W h hok h0 pane
  unfold whereI at hwh
  rw [hps] at hwh
  dsimp only at hwh
  obtain ⟨s, w', hs, hw, hp, hb1, hb2⟩ := posS_some hps
  obtain rfl : w' = w := by
    unfold winAt at hwa
    rw [hs] at hwa
    exact Option.some.inj (hw.symm.trans hwa)
  have hcl := cloneIn_ok W h hok h0 i s hs
  have hwr := (right_win h0 s (List.mem_of_getElem? hs)).win w' (List.mem_of_getElem? hw)
  have hsm := right_win h0 s (List.mem_of_getElem? hs)
  have hsk := hok.se s (List.mem_of_getElem? hs)
  have hck := checkR_ok W w'.s (hsk.win w' (List.mem_of_getElem? hw)).s
  have hv0 : (chkT w'.s 0 []).1 = 0 := by rw [← chk_eqL]; exact hwr.vis
  rw [chk_panesL hv0, hv0] at hck
  have hl12 := (vis_right hwr.vis).2.2.1
  have hcn := cnt_right w'.s 0 (vis_right hwr.vis).1
  have hln := panesV_len (panesT w'.s)
  rw [encSpl_eta] at hck
  have hdr := dropSplit_ok W pane w'.s (by omega)
  rw [drop_same hwr hp hmany] at hdr
  have hix := indexI_ok W (panesT w'.s) pane (by omega)
  rw [show (panesT w'.s).map (PV.int .i64) = panesV (panesT w'.s) from rfl] at hix
  obtain ⟨q, hq⟩ : ∃ q, q = (panesT w'.s).idxOf pane := ⟨_, rfl⟩
  have hql : q < (panesT w'.s).length := by rw [hq]; exact List.idxOf_lt_length_of_mem hp
  rw [show idxI (panesT w'.s) pane = (q : Int) by unfold idxI; rw [if_pos hp, ← hq]] at hix
  unfold clsV clsW nextP
  rw [← hq]
  generalize dropR w'.s pane = D at *
  obtain ⟨S, e5⟩ := D
  dsimp only at hdr ⊢
  rw [encSpl_eta, encSpl_eta S] at hdr
  rw [encHs_mk] at hwh hcl ⊢
  refine Pure.of (acalls_of_vc (drawOk W) Tryd.func10 rfl (by decide) (by decide) rfl ?_)
  (refine g0_ ?_; repeat (refine n1_ fun b_ => ?_; refine g0_ ?_))
  refine (hwh).use ?_; refine g0_ ?_
  refine g1_ ?_
  refine ACalls.giveE hcl ?_
  rintro ⟨⟨bs, L, o, vs, nx⟩, x0, R, E⟩ ⟨hT2, ho, hx, hs5, hR, hE⟩
  dsimp only at hT2 ho hx hR hE hs5
  subst hs5
  have hil := lt_of_at hx
  have hkl := lt_of_at hw
  have hEl : E.length = x0.2.wins.length := by rw [hE]; exact List.length_map _
  have hRl : R.length = L.length := by rw [hR]; exact List.length_map _
  have hbS : R[0 + i]? = some (.agg [.str x0.2.name, .rsl x0.1 8 0 x0.2.wins.length, .int .i64 x0.2.act, .int .i64 x0.2.bef]) := by
    rw [Nat.zero_add, hR, List.getElem?_map, hx]
    rfl
  have hbW : E[0 + k]? = some (encWin w') := by
    rw [Nat.zero_add, hE, List.getElem?_map, hw]
    rfl
  unfold encWin at hbW
  dsimp only
  generalize panesT w'.s = l at *
  generalize hN : (List.take q l ++ List.drop (q + 1) l).getD (q - 1) 0 = N at *
  have hN1 : q = 0 → l[1]? = some N := fun h => by
    subst h
    rw [← hN, List.take_zero, List.nil_append, List.getD_eq_getElem?_getD, List.getElem?_drop, List.getElem?_eq_getElem hmany]
    rfl
  have hN2 : q ≠ 0 → l[q - 1]? = some N := fun h => by
    rw [← hN, List.getD_eq_getElem?_getD, List.getElem?_append_left (by rw [List.length_take]; omega), List.getElem?_take, if_pos (by omega), List.getElem?_eq_getElem (by omega)]
    rfl
  clear hN
  by_cases ha : w'.act = pane
  · by_cases hb : w'.bef = pane
    · rw [if_pos ⟨ha, .inl hb⟩]
      by_cases hq0 : q = 0
      · rcases o with _ | bo
        · refine g0_ ?_
          (repeat (refine at_ ?_; refine g0_ ?_))
          refine (hck).use ?_; refine g0_ ?_
          refine g1_ ?_
          refine (hix).use ?_; refine g0_ ?_
          (repeat (refine at_ ?_; refine g0_ ?_))
          refine (hdr).use ?_; refine g0_ ?_
          (repeat (refine at_ ?_; refine g0_ ?_))
          refine g1_ ?_
          (repeat (refine at_ ?_; refine g0_ ?_))
          refine g1_ ?_
          (repeat (refine at_ ?_; refine g0_ ?_))
          (refine g1_ ?_; repeat (refine em_ fun x_ hx_ => ?_; refine g1_ ?_))
          (repeat (refine at_ ?_; refine g0_ ?_))
          refine g1_ ?_
          (repeat (refine at_ ?_; refine g0_ ?_))
          refine g1_ ?_
          obtain rfl := Option.some.inj (hx_.symm.trans (hN1 hq0))
          refine g0_ ?_
          (repeat (refine at_ ?_; refine g0_ ?_))
          simp only [List.set_set, Nat.zero_add]
          subst hT2
          refine .tup _ _ rfl fun j hj => ?_
          match j, hj with
          | 0, _ =>
            refine HsDone.frz fun b => done_win (b := b) hx (.refl _) rfl ?_ (.inl rfl) (frz_vw (o := none) ho (fun b hb => by cases hb))
            rw [List.map_set, ← hE, ← hR]
            (first | exact ⟨_, .refl _⟩ | exact wkMem.rfl' | exact ⟨_, .swap _ _ _⟩ | (repeat (first | exact wkMem.nil _ | exact wkMem.rfl' | exact wk_snoc _ _ _ | exact wk_fam (by assumption) _ _ _ | exact wk_famN (by assumption) _ _ _ | (apply wkMem.cons; (case' hl => (repeat (first | exact .here _ _ _ | apply Look.there)))) | apply wkMem.skip)))
            first | exact wkVw _ _ _ | exact wkVw none [] _
          | 1, _ => exact .refl _
        · refine g0_ ?_
          (repeat (refine at_ ?_; refine g0_ ?_))
          refine (hck).use ?_; refine g0_ ?_
          refine g1_ ?_
          refine (hix).use ?_; refine g0_ ?_
          (repeat (refine at_ ?_; refine g0_ ?_))
          refine (hdr).use ?_; refine g0_ ?_
          (repeat (refine at_ ?_; refine g0_ ?_))
          refine g1_ ?_
          (repeat (refine at_ ?_; refine g0_ ?_))
          refine g1_ ?_
          (repeat (refine at_ ?_; refine g0_ ?_))
          (refine g1_ ?_; repeat (refine em_ fun x_ hx_ => ?_; refine g1_ ?_))
          (repeat (refine at_ ?_; refine g0_ ?_))
          refine g1_ ?_
          (repeat (refine at_ ?_; refine g0_ ?_))
          refine g1_ ?_
          obtain rfl := Option.some.inj (hx_.symm.trans (hN1 hq0))
          refine g0_ ?_
          (repeat (refine at_ ?_; refine g0_ ?_))
          simp only [List.set_set, Nat.zero_add]
          subst hT2
          refine .tup _ _ rfl fun j hj => ?_
          match j, hj with
          | 0, _ =>
            refine HsDone.frz fun b => done_win (b := b) hx (.refl _) rfl ?_ (.inr (.inl ⟨_, _, _, _, rfl⟩)) (frz_row lk_ _ (by simp [OH.T]))
            rw [List.map_set, ← hE, ← hR]
            (first | exact ⟨_, .refl _⟩ | exact wkMem.rfl' | exact ⟨_, .swap _ _ _⟩ | (repeat (first | exact wkMem.nil _ | exact wkMem.rfl' | exact wk_snoc _ _ _ | exact wk_fam (by assumption) _ _ _ | exact wk_famN (by assumption) _ _ _ | (apply wkMem.cons; (case' hl => (repeat (first | exact .here _ _ _ | apply Look.there)))) | apply wkMem.skip)))
            first | exact wkVw _ _ _ | exact wkVw none [] _
          | 1, _ => exact .refl _
      · rcases o with _ | bo
        · refine g0_ ?_
          (repeat (refine at_ ?_; refine g0_ ?_))
          refine (hck).use ?_; refine g0_ ?_
          refine g1_ ?_
          refine (hix).use ?_; refine g0_ ?_
          (repeat (refine at_ ?_; refine g0_ ?_))
          refine (hdr).use ?_; refine g0_ ?_
          (repeat (refine at_ ?_; refine g0_ ?_))
          refine g1_ ?_
          (repeat (refine at_ ?_; refine g0_ ?_))
          refine g1_ ?_
          (repeat (refine at_ ?_; refine g0_ ?_))
          refine g1_ ?_
          (repeat (refine at_ ?_; (refine g0_ ?_; repeat ((first | refine Nat1.mk fun q_ hq_ => ?_ | refine em_ fun x_ hx_ => ?_); refine g0_ ?_))))
          refine g1_ ?_
          (repeat (refine at_ ?_; refine g0_ ?_))
          refine g1_ ?_
          obtain rfl : q_ = q - 1 := by omega
          obtain rfl := Option.some.inj (hx_.symm.trans (hN2 hq0))
          refine g0_ ?_
          (repeat (refine at_ ?_; refine g0_ ?_))
          simp only [List.set_set, Nat.zero_add]
          subst hT2
          refine .tup _ _ rfl fun j hj => ?_
          match j, hj with
          | 0, _ =>
            refine HsDone.frz fun b => done_win (b := b) hx (.refl _) rfl ?_ (.inl rfl) (frz_vw (o := none) ho (fun b hb => by cases hb))
            rw [List.map_set, ← hE, ← hR]
            (first | exact ⟨_, .refl _⟩ | exact wkMem.rfl' | exact ⟨_, .swap _ _ _⟩ | (repeat (first | exact wkMem.nil _ | exact wkMem.rfl' | exact wk_snoc _ _ _ | exact wk_fam (by assumption) _ _ _ | exact wk_famN (by assumption) _ _ _ | (apply wkMem.cons; (case' hl => (repeat (first | exact .here _ _ _ | apply Look.there)))) | apply wkMem.skip)))
            first | exact wkVw _ _ _ | exact wkVw none [] _
          | 1, _ => exact .refl _
        · refine g0_ ?_
          (repeat (refine at_ ?_; refine g0_ ?_))
          refine (hck).use ?_; refine g0_ ?_
          refine g1_ ?_
          refine (hix).use ?_; refine g0_ ?_
          (repeat (refine at_ ?_; refine g0_ ?_))
          refine (hdr).use ?_; refine g0_ ?_
          (repeat (refine at_ ?_; refine g0_ ?_))
          refine g1_ ?_
          (repeat (refine at_ ?_; refine g0_ ?_))
          refine g1_ ?_
          (repeat (refine at_ ?_; refine g0_ ?_))
          refine g1_ ?_
          (repeat (refine at_ ?_; (refine g0_ ?_; repeat ((first | refine Nat1.mk fun q_ hq_ => ?_ | refine em_ fun x_ hx_ => ?_); refine g0_ ?_))))
          refine g1_ ?_
          (repeat (refine at_ ?_; refine g0_ ?_))
          refine g1_ ?_
          obtain rfl : q_ = q - 1 := by omega
          obtain rfl := Option.some.inj (hx_.symm.trans (hN2 hq0))
          refine g0_ ?_
          (repeat (refine at_ ?_; refine g0_ ?_))
          simp only [List.set_set, Nat.zero_add]
          subst hT2
          refine .tup _ _ rfl fun j hj => ?_
          match j, hj with
          | 0, _ =>
            refine HsDone.frz fun b => done_win (b := b) hx (.refl _) rfl ?_ (.inr (.inl ⟨_, _, _, _, rfl⟩)) (frz_row lk_ _ (by simp [OH.T]))
            rw [List.map_set, ← hE, ← hR]
            (first | exact ⟨_, .refl _⟩ | exact wkMem.rfl' | exact ⟨_, .swap _ _ _⟩ | (repeat (first | exact wkMem.nil _ | exact wkMem.rfl' | exact wk_snoc _ _ _ | exact wk_fam (by assumption) _ _ _ | exact wk_famN (by assumption) _ _ _ | (apply wkMem.cons; (case' hl => (repeat (first | exact .here _ _ _ | apply Look.there)))) | apply wkMem.skip)))
            first | exact wkVw _ _ _ | exact wkVw none [] _
          | 1, _ => exact .refl _
    · by_cases hz : w'.bef = 0
      · rw [if_pos ⟨ha, .inr hz⟩]
        by_cases hq0 : q = 0
        · rcases o with _ | bo
          · refine g0_ ?_
            (repeat (refine at_ ?_; refine g0_ ?_))
            refine (hck).use ?_; refine g0_ ?_
            refine g1_ ?_
            refine (hix).use ?_; refine g0_ ?_
            (repeat (refine at_ ?_; refine g0_ ?_))
            refine (hdr).use ?_; refine g0_ ?_
            (repeat (refine at_ ?_; refine g0_ ?_))
            refine g1_ ?_
            (repeat (refine at_ ?_; refine g0_ ?_))
            refine g1_ ?_
            (repeat (refine at_ ?_; refine g0_ ?_))
            (refine g1_ ?_; repeat (refine em_ fun x_ hx_ => ?_; refine g1_ ?_))
            (repeat (refine at_ ?_; refine g0_ ?_))
            refine g1_ ?_
            (repeat (refine at_ ?_; refine g0_ ?_))
            refine g1_ ?_
            obtain rfl := Option.some.inj (hx_.symm.trans (hN1 hq0))
            refine g0_ ?_
            (repeat (refine at_ ?_; refine g0_ ?_))
            simp only [List.set_set, Nat.zero_add]
            subst hT2
            refine .tup _ _ rfl fun j hj => ?_
            match j, hj with
            | 0, _ =>
              refine HsDone.frz fun b => done_win (b := b) hx (.refl _) rfl ?_ (.inl rfl) (frz_vw (o := none) ho (fun b hb => by cases hb))
              rw [List.map_set, ← hE, ← hR]
              (first | exact ⟨_, .refl _⟩ | exact wkMem.rfl' | exact ⟨_, .swap _ _ _⟩ | (repeat (first | exact wkMem.nil _ | exact wkMem.rfl' | exact wk_snoc _ _ _ | exact wk_fam (by assumption) _ _ _ | exact wk_famN (by assumption) _ _ _ | (apply wkMem.cons; (case' hl => (repeat (first | exact .here _ _ _ | apply Look.there)))) | apply wkMem.skip)))
              first | exact wkVw _ _ _ | exact wkVw none [] _
            | 1, _ => exact .refl _
          · refine g0_ ?_
            (repeat (refine at_ ?_; refine g0_ ?_))
            refine (hck).use ?_; refine g0_ ?_
            refine g1_ ?_
            refine (hix).use ?_; refine g0_ ?_
            (repeat (refine at_ ?_; refine g0_ ?_))
            refine (hdr).use ?_; refine g0_ ?_
            (repeat (refine at_ ?_; refine g0_ ?_))
            refine g1_ ?_
            (repeat (refine at_ ?_; refine g0_ ?_))
            refine g1_ ?_
            (repeat (refine at_ ?_; refine g0_ ?_))
            (refine g1_ ?_; repeat (refine em_ fun x_ hx_ => ?_; refine g1_ ?_))
            (repeat (refine at_ ?_; refine g0_ ?_))
            refine g1_ ?_
            (repeat (refine at_ ?_; refine g0_ ?_))
            refine g1_ ?_
            obtain rfl := Option.some.inj (hx_.symm.trans (hN1 hq0))
            refine g0_ ?_
            (repeat (refine at_ ?_; refine g0_ ?_))
            simp only [List.set_set, Nat.zero_add]
            subst hT2
            refine .tup _ _ rfl fun j hj => ?_
            match j, hj with
            | 0, _ =>
              refine HsDone.frz fun b => done_win (b := b) hx (.refl _) rfl ?_ (.inr (.inl ⟨_, _, _, _, rfl⟩)) (frz_row lk_ _ (by simp [OH.T]))
              rw [List.map_set, ← hE, ← hR]
              (first | exact ⟨_, .refl _⟩ | exact wkMem.rfl' | exact ⟨_, .swap _ _ _⟩ | (repeat (first | exact wkMem.nil _ | exact wkMem.rfl' | exact wk_snoc _ _ _ | exact wk_fam (by assumption) _ _ _ | exact wk_famN (by assumption) _ _ _ | (apply wkMem.cons; (case' hl => (repeat (first | exact .here _ _ _ | apply Look.there)))) | apply wkMem.skip)))
              first | exact wkVw _ _ _ | exact wkVw none [] _
            | 1, _ => exact .refl _
        · rcases o with _ | bo
          · refine g0_ ?_
            (repeat (refine at_ ?_; refine g0_ ?_))
            refine (hck).use ?_; refine g0_ ?_
            refine g1_ ?_
            refine (hix).use ?_; refine g0_ ?_
            (repeat (refine at_ ?_; refine g0_ ?_))
            refine (hdr).use ?_; refine g0_ ?_
            (repeat (refine at_ ?_; refine g0_ ?_))
            refine g1_ ?_
            (repeat (refine at_ ?_; refine g0_ ?_))
            refine g1_ ?_
            (repeat (refine at_ ?_; refine g0_ ?_))
            refine g1_ ?_
            (repeat (refine at_ ?_; refine g0_ ?_))
            (refine g1_ ?_; repeat ((first | refine Nat1.mk fun q_ hq_ => ?_ | refine em_ fun x_ hx_ => ?_); refine g1_ ?_))
            (repeat (refine at_ ?_; refine g0_ ?_))
            refine g1_ ?_
            obtain rfl : q_ = q - 1 := by omega
            obtain rfl := Option.some.inj (hx_.symm.trans (hN2 hq0))
            refine g0_ ?_
            (repeat (refine at_ ?_; refine g0_ ?_))
            simp only [List.set_set, Nat.zero_add]
            subst hT2
            refine .tup _ _ rfl fun j hj => ?_
            match j, hj with
            | 0, _ =>
              refine HsDone.frz fun b => done_win (b := b) hx (.refl _) rfl ?_ (.inl rfl) (frz_vw (o := none) ho (fun b hb => by cases hb))
              rw [List.map_set, ← hE, ← hR]
              (first | exact ⟨_, .refl _⟩ | exact wkMem.rfl' | exact ⟨_, .swap _ _ _⟩ | (repeat (first | exact wkMem.nil _ | exact wkMem.rfl' | exact wk_snoc _ _ _ | exact wk_fam (by assumption) _ _ _ | exact wk_famN (by assumption) _ _ _ | (apply wkMem.cons; (case' hl => (repeat (first | exact .here _ _ _ | apply Look.there)))) | apply wkMem.skip)))
              first | exact wkVw _ _ _ | exact wkVw none [] _
            | 1, _ => exact .refl _
          · refine g0_ ?_
            (repeat (refine at_ ?_; refine g0_ ?_))
            refine (hck).use ?_; refine g0_ ?_
            refine g1_ ?_
            refine (hix).use ?_; refine g0_ ?_
            (repeat (refine at_ ?_; refine g0_ ?_))
            refine (hdr).use ?_; refine g0_ ?_
            (repeat (refine at_ ?_; refine g0_ ?_))
            refine g1_ ?_
            (repeat (refine at_ ?_; refine g0_ ?_))
            refine g1_ ?_
            (repeat (refine at_ ?_; refine g0_ ?_))
            refine g1_ ?_
            (repeat (refine at_ ?_; refine g0_ ?_))
            (refine g1_ ?_; repeat ((first | refine Nat1.mk fun q_ hq_ => ?_ | refine em_ fun x_ hx_ => ?_); refine g1_ ?_))
            (repeat (refine at_ ?_; refine g0_ ?_))
            refine g1_ ?_
            obtain rfl : q_ = q - 1 := by omega
            obtain rfl := Option.some.inj (hx_.symm.trans (hN2 hq0))
            refine g0_ ?_
            (repeat (refine at_ ?_; refine g0_ ?_))
            simp only [List.set_set, Nat.zero_add]
            subst hT2
            refine .tup _ _ rfl fun j hj => ?_
            match j, hj with
            | 0, _ =>
              refine HsDone.frz fun b => done_win (b := b) hx (.refl _) rfl ?_ (.inr (.inl ⟨_, _, _, _, rfl⟩)) (frz_row lk_ _ (by simp [OH.T]))
              rw [List.map_set, ← hE, ← hR]
              (first | exact ⟨_, .refl _⟩ | exact wkMem.rfl' | exact ⟨_, .swap _ _ _⟩ | (repeat (first | exact wkMem.nil _ | exact wkMem.rfl' | exact wk_snoc _ _ _ | exact wk_fam (by assumption) _ _ _ | exact wk_famN (by assumption) _ _ _ | (apply wkMem.cons; (case' hl => (repeat (first | exact .here _ _ _ | apply Look.there)))) | apply wkMem.skip)))
              first | exact wkVw _ _ _ | exact wkVw none [] _
            | 1, _ => exact .refl _
      · rw [if_neg (fun h => h.2.elim hb hz), if_pos ha, if_neg hb]
        rcases o with _ | bo
        · refine g0_ ?_
          (repeat (refine at_ ?_; refine g0_ ?_))
          refine (hck).use ?_; refine g0_ ?_
          refine g1_ ?_
          refine (hix).use ?_; refine g0_ ?_
          (repeat (refine at_ ?_; refine g0_ ?_))
          refine (hdr).use ?_; refine g0_ ?_
          (repeat (refine at_ ?_; refine g0_ ?_))
          refine g1_ ?_
          (repeat (refine at_ ?_; refine g0_ ?_))
          refine g1_ ?_
          (repeat (refine at_ ?_; refine g0_ ?_))
          refine g1_ ?_
          (repeat (refine at_ ?_; refine g0_ ?_))
          refine g1_ ?_
          (repeat (refine at_ ?_; refine g0_ ?_))
          refine g1_ ?_
          simp only [List.set_set, Nat.zero_add]
          subst hT2
          refine .tup _ _ rfl fun j hj => ?_
          match j, hj with
          | 0, _ =>
            refine HsDone.frz fun b => done_win (b := b) hx (.refl _) rfl ?_ (.inl rfl) (frz_vw (o := none) ho (fun b hb => by cases hb))
            rw [List.map_set, ← hE, ← hR]
            (first | exact ⟨_, .refl _⟩ | exact wkMem.rfl' | exact ⟨_, .swap _ _ _⟩ | (repeat (first | exact wkMem.nil _ | exact wkMem.rfl' | exact wk_snoc _ _ _ | exact wk_fam (by assumption) _ _ _ | exact wk_famN (by assumption) _ _ _ | (apply wkMem.cons; (case' hl => (repeat (first | exact .here _ _ _ | apply Look.there)))) | apply wkMem.skip)))
            first | exact wkVw _ _ _ | exact wkVw none [] _
          | 1, _ => exact .refl _
        · refine g0_ ?_
          (repeat (refine at_ ?_; refine g0_ ?_))
          refine (hck).use ?_; refine g0_ ?_
          refine g1_ ?_
          refine (hix).use ?_; refine g0_ ?_
          (repeat (refine at_ ?_; refine g0_ ?_))
          refine (hdr).use ?_; refine g0_ ?_
          (repeat (refine at_ ?_; refine g0_ ?_))
          refine g1_ ?_
          (repeat (refine at_ ?_; refine g0_ ?_))
          refine g1_ ?_
          (repeat (refine at_ ?_; refine g0_ ?_))
          refine g1_ ?_
          (repeat (refine at_ ?_; refine g0_ ?_))
          refine g1_ ?_
          (repeat (refine at_ ?_; refine g0_ ?_))
          refine g1_ ?_
          simp only [List.set_set, Nat.zero_add]
          subst hT2
          refine .tup _ _ rfl fun j hj => ?_
          match j, hj with
          | 0, _ =>
            refine HsDone.frz fun b => done_win (b := b) hx (.refl _) rfl ?_ (.inr (.inl ⟨_, _, _, _, rfl⟩)) (frz_row lk_ _ (by simp [OH.T]))
            rw [List.map_set, ← hE, ← hR]
            (first | exact ⟨_, .refl _⟩ | exact wkMem.rfl' | exact ⟨_, .swap _ _ _⟩ | (repeat (first | exact wkMem.nil _ | exact wkMem.rfl' | exact wk_snoc _ _ _ | exact wk_fam (by assumption) _ _ _ | exact wk_famN (by assumption) _ _ _ | (apply wkMem.cons; (case' hl => (repeat (first | exact .here _ _ _ | apply Look.there)))) | apply wkMem.skip)))
            first | exact wkVw _ _ _ | exact wkVw none [] _
          | 1, _ => exact .refl _
  · rw [if_neg (fun h => ha h.1), if_neg ha]
    by_cases hb : w'.bef = pane
    · rw [if_pos hb]
      rcases o with _ | bo
      · refine g0_ ?_
        (repeat (refine at_ ?_; refine g0_ ?_))
        refine (hck).use ?_; refine g0_ ?_
        refine g1_ ?_
        refine (hix).use ?_; refine g0_ ?_
        (repeat (refine at_ ?_; refine g0_ ?_))
        refine (hdr).use ?_; refine g0_ ?_
        (repeat (refine at_ ?_; refine g0_ ?_))
        refine g1_ ?_
        (repeat (refine at_ ?_; refine g0_ ?_))
        refine g1_ ?_
        (repeat (refine at_ ?_; refine g0_ ?_))
        refine g1_ ?_
        (repeat (refine at_ ?_; refine g0_ ?_))
        refine g1_ ?_
        (repeat (refine at_ ?_; refine g0_ ?_))
        refine g1_ ?_
        simp only [List.set_set, Nat.zero_add]
        subst hT2
        refine .tup _ _ rfl fun j hj => ?_
        match j, hj with
        | 0, _ =>
          refine HsDone.frz fun b => done_win (b := b) hx (.refl _) rfl ?_ (.inl rfl) (frz_vw (o := none) ho (fun b hb => by cases hb))
          rw [List.map_set, ← hE, ← hR]
          (first | exact ⟨_, .refl _⟩ | exact wkMem.rfl' | exact ⟨_, .swap _ _ _⟩ | (repeat (first | exact wkMem.nil _ | exact wkMem.rfl' | exact wk_snoc _ _ _ | exact wk_fam (by assumption) _ _ _ | exact wk_famN (by assumption) _ _ _ | (apply wkMem.cons; (case' hl => (repeat (first | exact .here _ _ _ | apply Look.there)))) | apply wkMem.skip)))
          first | exact wkVw _ _ _ | exact wkVw none [] _
        | 1, _ => exact .refl _
      · refine g0_ ?_
        (repeat (refine at_ ?_; refine g0_ ?_))
        refine (hck).use ?_; refine g0_ ?_
        refine g1_ ?_
        refine (hix).use ?_; refine g0_ ?_
        (repeat (refine at_ ?_; refine g0_ ?_))
        refine (hdr).use ?_; refine g0_ ?_
        (repeat (refine at_ ?_; refine g0_ ?_))
        refine g1_ ?_
        (repeat (refine at_ ?_; refine g0_ ?_))
        refine g1_ ?_
        (repeat (refine at_ ?_; refine g0_ ?_))
        refine g1_ ?_
        (repeat (refine at_ ?_; refine g0_ ?_))
        refine g1_ ?_
        (repeat (refine at_ ?_; refine g0_ ?_))
        refine g1_ ?_
        simp only [List.set_set, Nat.zero_add]
        subst hT2
        refine .tup _ _ rfl fun j hj => ?_
        match j, hj with
        | 0, _ =>
          refine HsDone.frz fun b => done_win (b := b) hx (.refl _) rfl ?_ (.inr (.inl ⟨_, _, _, _, rfl⟩)) (frz_row lk_ _ (by simp [OH.T]))
          rw [List.map_set, ← hE, ← hR]
          (first | exact ⟨_, .refl _⟩ | exact wkMem.rfl' | exact ⟨_, .swap _ _ _⟩ | (repeat (first | exact wkMem.nil _ | exact wkMem.rfl' | exact wk_snoc _ _ _ | exact wk_fam (by assumption) _ _ _ | exact wk_famN (by assumption) _ _ _ | (apply wkMem.cons; (case' hl => (repeat (first | exact .here _ _ _ | apply Look.there)))) | apply wkMem.skip)))
          first | exact wkVw _ _ _ | exact wkVw none [] _
        | 1, _ => exact .refl _
    · rw [if_neg hb]
      rcases o with _ | bo
      · refine g0_ ?_
        (repeat (refine at_ ?_; refine g0_ ?_))
        refine (hck).use ?_; refine g0_ ?_
        refine g1_ ?_
        refine (hix).use ?_; refine g0_ ?_
        (repeat (refine at_ ?_; refine g0_ ?_))
        refine (hdr).use ?_; refine g0_ ?_
        (repeat (refine at_ ?_; refine g0_ ?_))
        refine g1_ ?_
        (repeat (refine at_ ?_; refine g0_ ?_))
        refine g1_ ?_
        (repeat (refine at_ ?_; refine g0_ ?_))
        refine g1_ ?_
        (repeat (refine at_ ?_; refine g0_ ?_))
        refine g1_ ?_
        (repeat (refine at_ ?_; refine g0_ ?_))
        refine g1_ ?_
        simp only [List.set_set, Nat.zero_add]
        subst hT2
        refine .tup _ _ rfl fun j hj => ?_
        match j, hj with
        | 0, _ =>
          refine HsDone.frz fun b => done_win (b := b) hx (.refl _) rfl ?_ (.inl rfl) (frz_vw (o := none) ho (fun b hb => by cases hb))
          rw [List.map_set, ← hE, ← hR]
          (first | exact ⟨_, .refl _⟩ | exact wkMem.rfl' | exact ⟨_, .swap _ _ _⟩ | (repeat (first | exact wkMem.nil _ | exact wkMem.rfl' | exact wk_snoc _ _ _ | exact wk_fam (by assumption) _ _ _ | exact wk_famN (by assumption) _ _ _ | (apply wkMem.cons; (case' hl => (repeat (first | exact .here _ _ _ | apply Look.there)))) | apply wkMem.skip)))
          first | exact wkVw _ _ _ | exact wkVw none [] _
        | 1, _ => exact .refl _
      · refine g0_ ?_
        (repeat (refine at_ ?_; refine g0_ ?_))
        refine (hck).use ?_; refine g0_ ?_
        refine g1_ ?_
        refine (hix).use ?_; refine g0_ ?_
        (repeat (refine at_ ?_; refine g0_ ?_))
        refine (hdr).use ?_; refine g0_ ?_
        (repeat (refine at_ ?_; refine g0_ ?_))
        refine g1_ ?_
        (repeat (refine at_ ?_; refine g0_ ?_))
        refine g1_ ?_
        (repeat (refine at_ ?_; refine g0_ ?_))
        refine g1_ ?_
        (repeat (refine at_ ?_; refine g0_ ?_))
        refine g1_ ?_
        (repeat (refine at_ ?_; refine g0_ ?_))
        refine g1_ ?_
        simp only [List.set_set, Nat.zero_add]
        subst hT2
        refine .tup _ _ rfl fun j hj => ?_
        match j, hj with
        | 0, _ =>
          refine HsDone.frz fun b => done_win (b := b) hx (.refl _) rfl ?_ (.inr (.inl ⟨_, _, _, _, rfl⟩)) (frz_row lk_ _ (by simp [OH.T]))
          rw [List.map_set, ← hE, ← hR]
          (first | exact ⟨_, .refl _⟩ | exact wkMem.rfl' | exact ⟨_, .swap _ _ _⟩ | (repeat (first | exact wkMem.nil _ | exact wkMem.rfl' | exact wk_snoc _ _ _ | exact wk_fam (by assumption) _ _ _ | exact wk_famN (by assumption) _ _ _ | (apply wkMem.cons; (case' hl => (repeat (first | exact .here _ _ _ | apply Look.there)))) | apply wkMem.skip)))
          first | exact wkVw _ _ _ | exact wkVw none [] _
        | 1, _ => exact .refl _
end Go.Eng.YtkenlcaifhffoaaDoor
end
