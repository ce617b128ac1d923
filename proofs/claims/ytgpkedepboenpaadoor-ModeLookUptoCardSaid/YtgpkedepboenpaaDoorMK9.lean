/- Texts put together: Dsk14, Dsk15. -/
import Derived.Test.YtgpkedepboenpaaDoorMW15
/- A desk that is reset. -/
section
namespace Go.Eng
open Go
variable {P : Program} {W : World}
/-- A call at a block whose values are read out beforehand; what they read is written no more. -/
theorem ACalls.frzIn {f : FuncId} {args : List PV} {σ τ ρ : Mem} {b sz fz : Nat} {es es' : List PV} {k : PV → Mem → Prop} (h : ACalls P W f args (⟨b, .row sz es' fz⟩ :: τ) k) (hp : σ.Perm ((⟨b, .row sz es fz⟩ :: τ) ++ ρ)) (hl : es.length = es'.length) (hz : ∀ e ∈ es', e.flat.length = sz)
    (hF : ∀ i j, i < es.length → j < sz → Frz ρ ((es.getD i .dead).flat.getD j .dead) ((es'.getD i .dead).flat.getD j .dead)) : ACalls P W f args σ k := by
  refine ⟨h.body, fun K w vs hlen hr hm hpre => ?_⟩
  have hm1 := hm.perm hp
  have hρ : SatM K ρ w := hm1.drop (List.sublist_append_right _ _)
  have hm2 := hm1.freeze
  have hB : RowOk K w b sz es fz := hm1.blk ⟨b, .row sz es fz⟩ (List.mem_append_left _ List.mem_cons_self)
  have hB2 : RowOk (allK K ρ) w b sz es fz := hm2.blk ⟨b, .row sz es fz⟩ List.mem_cons_self
  have hm3 : SatM (allK K ρ) (⟨b, .row sz es' fz⟩ :: τ) w := by
    refine ⟨hm2.kin, hm2.nodup, fun k hk => ?_⟩
    rcases List.mem_cons.1 hk with rfl | hk
    · obtain ⟨_, _, _, cs, ty, h4, h5, h6⟩ := hB
      exact ⟨hl ▸ hB2.le, hB2.ex, hz, cs, ty, h4, hl ▸ h5, fun i j hi hj => frz_sound hρ (hF i j (hl ▸ hi) hj) _ (h6 i j (hl ▸ hi) hj)⟩
    · exact hm2.blk k (List.mem_cons_of_mem _ hk)
  have hx : Ext σ K w (⟨b, .row sz es' fz⟩ :: τ) (allK K ρ) w := by
    have h0 := (Ext.freeze (K := K) (τ := ⟨b, .row sz es fz⟩ :: τ) (ρ := ρ) (w := w)).perm hp.symm (.refl _)
    refine ⟨h0.os, h0.tape, h0.output, h0.size, h0.shape, h0.keep, h0.kn, fun k hk => ?_, h0.fresh⟩
    rcases List.mem_cons.1 hk with rfl | hk
    · exact h0.own ⟨b, .row sz es fz⟩ List.mem_cons_self
    · exact h0.own k (List.mem_cons_of_mem _ hk)
  refine (h.run (allK K ρ) w vs hlen (fun i hi => allK_mono (hr i hi)) hm3 ⟨hpre.size, hpre.base, fun k hk => ?_⟩).mono ?_
  · rcases List.mem_cons.1 hk with rfl | hk
    · exact hpre.own ⟨b, .row sz es fz⟩ (hp.mem_iff.2 (List.mem_append_left _ List.mem_cons_self))
    · exact hpre.own k (hp.mem_iff.2 (List.mem_append_left _ (List.mem_cons_of_mem _ hk)))
  · rintro e w' ⟨v, pv, σ', K', h2, h3, h4, h5, h6⟩
    exact ⟨v, pv, σ', K', h2, h3, h4, h5, hx.trans h6⟩
end Go.Eng
namespace Go.Eng.YtgpkedepboenpaaDoor
open Go Go.Eng Go.Proofs
variable (W : World)
set_option linter.unusedSimpArgs false
set_option maxRecDepth 100000
set_option linter.unusedVariables false
set_option maxHeartbeats 8000000
theorem reset_right {s : Scr} {w h : Nat} (hr : s.right w h) : (resetS s).right w h := by
  have e : resetS s = { newS w h with gone := s.gone } := by rw [resetS, hr.fit.ew, hr.fit.eh, Int.toNat_natCast, Int.toNat_natCast]
  have h1 := hr.fit.w1
  have h2 := hr.fit.w2
  have h3 := hr.fit.h1
  have h4 := hr.fit.h2
  rw [e]
  refine ⟨⟨rfl, rfl, h1, h2, h3, h4, ?_⟩, (by show 0 ≤ (0 : Int) ∧ (0 : Int) < w; omega), (by show 0 ≤ (0 : Int) ∧ (0 : Int) < h; omega), (by show 0 ≤ (0 : Int) ∧ (0 : Int) ≤ (h : Int) - 1 ∧ (h : Int) - 1 < h; omega), tabs_len w w, hr.gone, hr.rows⟩
  show (List.replicate ((w : Int) * h).toNat blankC).length = w * h
  rw [List.length_replicate]
  exact_mod_cast Int.toNat_natCast (w * h)
theorem DeskP.perm {d : Nat} {s : Scr} {L : List (List Cell)} {σ σ' : Mem} (h : DeskP d s L σ) (hp : σ'.Perm σ) : DeskP d s L σ' := by
  obtain ⟨cs, bt, nt, gv, bo, no, ρ, h1, h2⟩ := h
  exact ⟨cs, bt, nt, gv, bo, no, ρ, hp.trans h1, h2⟩
theorem dreset_ok (s : Scr) {w h : Nat} (hr : s.right w h) (n m : Int) (d : Nat) (cv tv lv : PV) :
    ACalls Tryd.prog W 75 (actArgs [114, 101, 115, 101, 116] n m d) [dskB d cv tv (.sl 1 (s.gone.map encRow)) lv s] fun v σ' => v = .tup [] ∧ DeskP d (resetS s) (resetS s).g.rows σ' := by
  have f := hr.fit
  have e : resetS s = { newS w h with gone := s.gone } := by rw [resetS, f.ew, f.eh, Int.toNat_natCast, Int.toNat_natCast]
  have hns := newScreen_ok W w h f.w1 f.w2 f.h1 f.h2
  have hta := dtake_ok W (resetS s) (reset_right hr)
  rw [show encScr (newS w h) = .agg (scrA (.sl 4 ((newG w h).cs.map encCell)) (.sl 1 ((tabsN w w).map PV.bool)) (.sl 1 []) (newS w h)) from rfl] at hns
  rw [e] at hta ⊢
  rw [show encScr { newS w h with gone := s.gone } = .agg (scrA (.sl 4 ((newG w h).cs.map encCell)) (.sl 1 ((tabsN w w).map PV.bool)) (.sl 1 (s.gone.map encRow)) (newS w h)) from rfl] at hta
  have e1 := f.ew
  have e2 := f.eh
  clear f hr e
  obtain ⟨⟨gw, gh, cs⟩, X, Y, late, ⟨fo, ba, bi⟩, tp, bo, modes, tabs, kx, ky, ⟨f2, b2', bi2⟩, km, last, title, gone⟩ := s
  dsimp only at e1 e2 hta ⊢
  subst e1 e2
  rw [dskB_eq]
  refine acalls_of_vc (DL_ok (by decide)) Tryd.func75 rfl (by decide) (by decide) rfl ?_
  (refine g0_ ?_; repeat ((first | refine n1_ fun b_ => ?_ | refine n2_ fun b_ => ?_ | refine n3_ fun b_ pre_ => ?_ | refine Nat1.mk fun q_ hq_ => ?_ | refine em_ fun x_ hx_ => ?_ | refine Elem1.mk fun e_ he_ => ?_); refine g0_ ?_))
  refine Draws10.chain ⟨15, [.new, .new, .new, .new, .new, .new, .new, .new, .new, .new, .new, .new, .new, .turn, .skip], [(13, [.again, .again, .again, .again, .again, .again, .again, .again, .again, .again, .again, .again, .again, .keep, .turn]), (14, [.keep, .keep, .keep, .keep, .keep, .keep, .keep, .keep, .keep, .keep, .keep, .keep, .keep, .keep, .keep])], by decide +kernel, ?_⟩; (refine g0_ ?_; repeat ((first | refine n1_ fun b_ => ?_ | refine n2_ fun b_ => ?_ | refine n3_ fun b_ pre_ => ?_ | refine Nat1.mk fun q_ hq_ => ?_ | refine em_ fun x_ hx_ => ?_ | refine Elem1.mk fun e_ he_ => ?_); refine g0_ ?_))
  refine ⟨_, (hns).quiet, ?_⟩; (refine g0_ ?_; repeat ((first | refine n1_ fun b_ => ?_ | refine n2_ fun b_ => ?_ | refine n3_ fun b_ pre_ => ?_ | refine Nat1.mk fun q_ hq_ => ?_ | refine em_ fun x_ hx_ => ?_ | refine Elem1.mk fun e_ he_ => ?_); refine g0_ ?_))
  (refine g0_ ?_; repeat ((first | refine n1_ fun b_ => ?_ | refine n2_ fun b_ => ?_ | refine n3_ fun b_ pre_ => ?_ | refine Nat1.mk fun q_ hq_ => ?_ | refine em_ fun x_ hx_ => ?_ | refine Elem1.mk fun e_ he_ => ?_); refine g0_ ?_))
  refine ⟨_, (hns).quiet, ?_⟩; (refine g0_ ?_; repeat ((first | refine n1_ fun b_ => ?_ | refine n2_ fun b_ => ?_ | refine n3_ fun b_ pre_ => ?_ | refine Nat1.mk fun q_ hq_ => ?_ | refine em_ fun x_ hx_ => ?_ | refine Elem1.mk fun e_ he_ => ?_); refine g0_ ?_))
  (refine g0_ ?_; repeat ((first | refine n1_ fun b_ => ?_ | refine n2_ fun b_ => ?_ | refine n3_ fun b_ pre_ => ?_ | refine Nat1.mk fun q_ hq_ => ?_ | refine em_ fun x_ hx_ => ?_ | refine Elem1.mk fun e_ he_ => ?_); refine g0_ ?_))
  refine ACalls.giveE hta ?_
  rintro ⟨d', bt, bo', gx, l⟩ ⟨hrows, hgx⟩
  dsimp only at hrows hgx ⊢
  rw [← hrows]
  rcases gx with _ | bg'
  · have hD := desk_of d bt bo' none l ((newS w h).g.cs.map encCell) { newS w h with gone := gone } hgx
    rw [deskM, dskB, goneV, goneM]
    (refine g0_ ?_; repeat ((first | refine n1_ fun b_ => ?_ | refine n2_ fun b_ => ?_ | refine n3_ fun b_ pre_ => ?_ | refine Nat1.mk fun q_ hq_ => ?_ | refine em_ fun x_ hx_ => ?_ | refine Elem1.mk fun e_ he_ => ?_); refine g0_ ?_))
    exact ⟨rfl, DeskP.perm (hD [_, _]) (List.Perm.cons _ (List.perm_append_comm (l₁ := [_, _]) (l₂ := _)))⟩
  · have hD := desk_of d bt bo' (some bg') l ((newS w h).g.cs.map encCell) { newS w h with gone := gone } hgx
    rw [deskM, dskB, goneV, goneM]
    (refine g0_ ?_; repeat ((first | refine n1_ fun b_ => ?_ | refine n2_ fun b_ => ?_ | refine n3_ fun b_ pre_ => ?_ | refine Nat1.mk fun q_ hq_ => ?_ | refine em_ fun x_ hx_ => ?_ | refine Elem1.mk fun e_ he_ => ?_); refine g0_ ?_))
    exact ⟨rfl, DeskP.perm (hD [_, _]) (List.Perm.cons _ (List.perm_append_comm (l₁ := [_, _]) (l₂ := _)))⟩
theorem desk_cells {ρ : Mem} (cv tv gv gv' lv : PV) (s : Scr) (hg : Frz ρ gv gv') : ∀ j, j < 23 → Frz ρ ((scrA cv tv gv s ++ [lv]).getD j .dead) ((scrA cv tv gv' s ++ [lv]).getD j .dead) := by
  intro j hj
  match j, hj with
  | 0, _ => exact .refl _
  | 1, _ => exact .refl _
  | 2, _ => exact .refl _
  | 3, _ => exact .refl _
  | 4, _ => exact .refl _
  | 5, _ => exact .refl _
  | 6, _ => exact .refl _
  | 7, _ => exact .refl _
  | 8, _ => exact .refl _
  | 9, _ => exact .refl _
  | 10, _ => exact .refl _
  | 11, _ => exact .refl _
  | 12, _ => exact .refl _
  | 13, _ => exact .refl _
  | 14, _ => exact .refl _
  | 15, _ => exact .refl _
  | 16, _ => exact .refl _
  | 17, _ => exact .refl _
  | 18, _ => exact .refl _
  | 19, _ => exact .refl _
  | 20, _ => exact .refl _
  | 21, _ => exact hg
  | 22, _ => exact .refl _
  | k + 23, h => exact absurd h (by omega)
theorem actOp_reset (s : Scr) : ActOp W s (moveE s (resetS s)).1 (moveE s (resetS s)).2 [114, 101, 115, 101, 116] 0 0 := by
  refine ⟨fun h0 => ?_, fun h0 => ?_⟩
  · rw [moveE, if_neg h0]; exact ⟨rfl, rfl⟩
  · rw [moveE, if_pos h0]
    obtain ⟨w, h', hr⟩ := right_of h0
    have hq := reset_right hr
    have f := hq.fit
    have hw2 := f.w2
    have hh1 := f.h1
    have hh2 := f.h2
    refine ⟨rfl, resetS s, (resetS s).g.rows, w, f.row, fun e => ?_, f.w1, by rw [f.rlen]; omega, by omega, ?_, fun d bt bo gx l hl hgx => ?_⟩
    · have := f.rlen
      rw [e] at this; simp at this; omega
    · rw [f.rlen, f.flat]
      have e : (⟨w, h', (resetS s).g.cs⟩ : Grid) = (resetS s).g := by rw [← f.ew, ← f.eh]
      rw [e]
    · have hF : Frz (goneM gx (s.gone.map encRow)) (goneV gx s.gone.length) (.sl 1 (s.gone.map encRow)) := by
        cases gx with
        | none => rw [hgx rfl]; exact .nils _
        | some b => exact frz_row (l := s.gone.map encRow) (.here _ _ _) _ (by simp)
      have h1 := ACalls.frzIn (σ := dskB d (.sl 4 (s.g.cs.map encCell)) (.rsl bt 1 0 s.tabs.length) (goneV gx s.gone.length) (.rsl bo 1 0 l.length) s :: goneM gx (s.gone.map encRow)) (τ := []) (ρ := goneM gx (s.gone.map encRow)) (dreset_ok W s hr 0 0 d (.sl 4 (s.g.cs.map encCell)) (.rsl bt 1 0 s.tabs.length) (.rsl bo 1 0 l.length)) (es := [.agg (scrA (.sl 4 (s.g.cs.map encCell)) (.rsl bt 1 0 s.tabs.length) (goneV gx s.gone.length) s ++ [.rsl bo 1 0 l.length])]) (.refl _) rfl (by intro e he; rw [List.mem_singleton.1 he]; rfl) (by
          intro i j hi hj
          obtain rfl : i = 0 := by simp at hi; exact hi
          exact desk_cells _ _ _ _ _ s hF j hj)
      refine ACalls.lendW h1 (ρ := ⟨bt, .row 1 (s.tabs.map PV.bool) 0⟩ :: rowsM bo l) ?_ ?_
      · rw [List.append_nil, deskM]
        refine List.Perm.cons _ ?_
        generalize (⟨bt, .row 1 (s.tabs.map PV.bool) 0⟩ : Blk) = B
        exact (List.perm_middle (l₁ := goneM gx (s.gone.map encRow)) (a := B) (l₂ := rowsM bo l)).symm
      · rintro v σ1 ⟨rfl, hP⟩
        exact ⟨σ1, ⟨_, .refl _⟩, rfl, hP⟩
end Go.Eng.YtgpkedepboenpaaDoor
end

/- The law ModeLook. -/
section
namespace Go.Eng.YtgpkedepboenpaaDoor
open Go Go.Eng Go.Proofs
variable (W : World)
set_option linter.unusedSimpArgs false
set_option maxRecDepth 100000
set_option linter.unusedVariables false
set_option maxHeartbeats 8000000
theorem modeLook_ok (hT : Tabs W) (s : Scr) (hs : s.ok) (l : List Int) (hi : ∀ n ∈ l, i64ok n) (hl : l.length ≤ 1048576) (t : List UInt8) (ht : t.length ≤ 1048576) :
    Pure Tryd.prog W 13 [encScr s, .sl 1 (l.map (PV.int .i64)), .str t] (.bool true) := by
  have h1 := fun bl => does_okS W hT s hs 51 [.bref bl 0] 55 [.bref bl 0] [intsB bl l] _ _ (moveE_ok hs fun _ => lookS_ok hs l) (lookC_ok W hT s hs l (by omega) bl) (deskOp_block W (s' := lookS s l) _ _ _ rfl rfl rfl fun _ d cv tv gv lv => lookD_ok W s hs l hi (by omega) d bl cv tv gv lv)
  have h2 := fun bl => does_okS W hT s hs 52 [.bref bl 0] 57 [.bref bl 0] [strB bl t] _ _ (moveE_ok hs fun _ => nameS_ok hs t) (nameC_ok W hT s hs t ht bl) (deskOp_block W (s' := nameS s t) _ _ _ rfl rfl rfl fun _ d cv tv gv lv => nameD_ok W s t ht d bl cv tv gv lv)
  have h3 := acts0_ok W hT s hs 59 _ _ (moveE_ok hs fun h0 => resetS_ok hs h0) [114, 101, 115, 101, 116] 0 0 (modeReset_ok W hT s hs) (actOp_reset W s)
  refine Pure.of (acalls_of_vc (drawOk W) Tryd.func13 rfl (by decide) (by decide) rfl ?_)
  (refine g0_ ?_; repeat ((first | refine n1_ fun b_ => ?_ | refine n2_ fun b_ => ?_ | refine n3_ fun b_ pre_ => ?_ | refine Nat1.mk fun q_ hq_ => ?_ | refine em_ fun x_ hx_ => ?_ | refine Elem1.mk fun e_ he_ => ?_); refine g0_ ?_))
  rename_i bs bl
  refine ACalls.lendW (h1 bl) (ρ := [strB b_ t, ⟨bs, .row 22 [encScr s] 0⟩]) (.swap _ _ _) ?_
  rintro v σ1 rfl
  refine ⟨[strB b_ t, ⟨bs, .row 22 [encScr s] 0⟩], wkMem.comm ⟨σ1, .refl _⟩, ?_⟩
  (refine g1_ ?_; repeat ((first | refine n1_ fun b_ => ?_ | refine n2_ fun b_ => ?_ | refine n3_ fun b_ pre_ => ?_ | refine Nat1.mk fun q_ hq_ => ?_ | refine em_ fun x_ hx_ => ?_ | refine Elem1.mk fun e_ he_ => ?_); refine g1_ ?_))
  refine ACalls.lendW (h2 b_) (ρ := [⟨bs, .row 22 [encScr s] 0⟩]) (.refl _) ?_
  rintro v σ1 rfl
  refine ⟨[⟨bs, .row 22 [encScr s] 0⟩], wkMem.comm ⟨σ1, .refl _⟩, ?_⟩
  (refine g1_ ?_; repeat ((first | refine n1_ fun b_ => ?_ | refine n2_ fun b_ => ?_ | refine n3_ fun b_ pre_ => ?_ | refine Nat1.mk fun q_ hq_ => ?_ | refine em_ fun x_ hx_ => ?_ | refine Elem1.mk fun e_ he_ => ?_); refine g1_ ?_))
  refine (h3).use ?_; (refine g0_ ?_; repeat ((first | refine n1_ fun b_ => ?_ | refine n2_ fun b_ => ?_ | refine n3_ fun b_ pre_ => ?_ | refine Nat1.mk fun q_ hq_ => ?_ | refine em_ fun x_ hx_ => ?_ | refine Elem1.mk fun e_ he_ => ?_); refine g0_ ?_))
  exact .refl _
end Go.Eng.YtgpkedepboenpaaDoor
end
