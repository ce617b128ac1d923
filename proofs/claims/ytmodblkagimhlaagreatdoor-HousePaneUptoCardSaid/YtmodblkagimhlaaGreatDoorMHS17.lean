/- Texts put together: Hs13, Hs14. -/
import Derived.Test.YtmodblkagimhlaaGreatDoorMHS16
import Derived.Test.YtmodblkagimhlaaGreatDoorMHS10
import Derived.Test.YtmodblkagimhlaaGreatDoorMHS13
import Derived.Test.YtmodblkagimhlaaGreatDoorMHS14
import Derived.Test.YtmodblkagimhlaaGreatDoorMSH
/- Houses: with: a pane's window, and what is done to it, in the document (b_ x_ q_ e_). -/
section
namespace Go.Eng
open Go
variable {P : Program} {W : World}
theorem Pure.borrowTT {f : FuncId} {args args' : List PV} {a b : Int} {σ : Mem} {k : PV → Mem → Prop} (h : Pure P W f args' (.tup [.int .i64 a, .int .i64 b])) (hl : args.length = args'.length)
    (ha : ∀ i, i < args.length → Frz σ (args.getD i .dead) (args'.getD i .dead)) (hk : k (.tup [.int .i64 a, .int .i64 b]) σ) : ACalls P W f args σ k := by
  refine ⟨h.calls.body, fun K w vs hlen hr hm hpre => ?_⟩
  have hrel : ∀ i, i < args'.length → VRel (allK K σ) w (args'.getD i .dead) (vs.getD i undef) := fun i hi => frz_sound hm (ha i (by omega)) _ (hr i (by omega))
  refine (h.calls.run _ w vs (hl ▸ hlen) hrel (allK_sat hm) ⟨hpre.size, hpre.base, fun k hk => by cases hk⟩).mono ?_
  rintro e w' ⟨v, pv, σ', K', h2, rfl, h4, h5, h6⟩
  have hplain : VRel K w' (.tup [.int .i64 a, .int .i64 b]) v := by
    cases h4 with
    | tup _ us hl2 hr2 =>
      have key : ∀ (n : Int) u, VRel K' w' (.int .i64 n) u → VRel K w' (.int .i64 n) u := fun n u h => by cases h; exact .int _ _
      refine .tup _ us hl2 fun i hi => ?_
      match i, hi with
      | 0, hi => exact key _ _ (hr2 0 hi)
      | 1, hi => exact key _ _ (hr2 1 hi)
  have hkn : ∀ b o, K b o → K b o ∧ w'.cell? ⟨b, o, none⟩ = w.cell? ⟨b, o, none⟩ := fun b o hb => ⟨hb, (h6.kn b o (.inl hb)).2⟩
  refine ⟨v, _, σ, K, h2, hk, hplain, ⟨fun b o hb => Nat.lt_of_lt_of_le (hm.kin b o hb) h6.size, hm.nodup, fun k hk => ?_⟩, ?_⟩
  · exact (hm.blk k hk).move (h6.keep k.b (hm.blk k hk).lt (fun k0 h0 => by cases h0)) (fun _ h => h) hkn h6.shape
  · exact ⟨h6.os, h6.tape, h6.output, h6.size, h6.shape, fun b hb _ => h6.keep b hb (fun k0 h0 => by cases h0), hkn, fun k hk => .inl ⟨k, hk, rfl⟩, fun _ _ h => .inl h⟩
end Go.Eng
namespace Go.Eng.YtmodblkagimhlaaGreatDoor
open Go Go.Eng Go.Proofs
variable (W : World)
set_option linter.unusedSimpArgs false
set_option maxRecDepth 100000
set_option linter.unusedVariables false
set_option maxHeartbeats 8000000
/-- What is done to a window in memory. -/
def WinTo (g : FuncId) (c : List PV) (E next next' : Int) (w w' : Win) : Prop := ∀ (b bw k : Nat) (ws : List PV) (sv vv : PV), ws[k]? = some (encWin w) →
  ACalls Tryz.prog W g (.bref b 0 :: .ref bw 8 k 0 :: c) [⟨b, .row 3 [.agg [sv, vv, .int .i64 next]] 0⟩, ⟨bw, .row 8 ws 0⟩] fun v σ' => v = .int .i64 E ∧ (E = 0 → wkMem σ' [⟨b, .row 3 [.agg [sv, vv, .int .i64 next']] 0⟩, ⟨bw, .row 8 (ws.set k (encWin w')) 0⟩])
theorem perm_lendW {A B C : Blk} {M : Mem} : (A :: B :: C :: M).Perm ([A, C] ++ (B :: M)) := List.Perm.cons _ (.swap _ _ _)
theorem lendW {P : Program} {g : FuncId} {args : List PV} {A B C A' C' : Blk} {M : Mem} {E : Int} {k : PV → Mem → Prop} (h : ACalls P W g args [A, C] fun v σ' => v = .int .i64 E ∧ (E = 0 → wkMem σ' [A', C']))
    (k0 : E = 0 → k (.int .i64 E) (A' :: B :: C' :: M)) (k1 : E ≠ 0 → k (.int .i64 E) (B :: M)) : ACalls P W g args (A :: B :: C :: M) k := by
  refine ACalls.weak (((h.frame (B :: M)).perm perm_lendW).mono ?_)
  rintro v σ' ⟨σ1, ⟨rfl, hd⟩, rfl⟩
  by_cases hE : E = 0
  · obtain ⟨q, hq⟩ := hd hE
    refine ⟨_, k0 hE, q, ?_⟩
    have h1 : (([A', C'] ++ q) ++ (B :: M)).Perm ([A', C'] ++ ((B :: M) ++ q)) := by
      rw [List.append_assoc]
      exact List.Perm.append_left _ List.perm_append_comm
    refine ((hq.append_right (B :: M)).trans h1).trans ?_
    exact List.Perm.cons _ (List.Perm.swap _ _ _)
  · exact ⟨B :: M, k1 hE, σ1, List.perm_append_comm⟩
theorem withH_ok (h : Hs) (hok : h.ok) (h0 : chkH h = 0) (pane : Int) (g : FuncId) (c : List PV) (E : Int) (Y : Hs) (hnone : posS h.ses pane = none → E = 6)
    (hsome : ∀ i k w, posS h.ses pane = some (i, k) → winAt h.ses i k = some w → ∃ next' w', WinTo W g c E h.next next' w w' ∧ (E = 0 → Y = ⟨setW h.ses i k w', h.views, next'⟩)) :
    DoesTo W 6 [.ip (.int .i64 pane) 0, .ip (.fn g c) 0] h Y E := by
  intro b x hx ho
  have hwh := whereR_ok W h hok h0 pane
  have hsr := right_win h0
  obtain ⟨hl4, -, hn1, hn2, -, -⟩ := right_ses h0
  subst hx
  have hwr : ∀ p ∈ x.L, SesR x.next p.2 := fun p hp => hsr p.2 (List.mem_map.2 ⟨p, hp, rfl⟩)
  have hl4' : x.L.length ≤ 4 := by simpa [OH.T] using hl4
  have hwne : ∀ p ∈ x.L, p.2.wins ≠ [] := fun p hp h => by have := (hwr p hp).many; rw [h] at this; simp at this
  unfold whereI at hwh
  cases hps : posS x.T.ses pane with
  | none =>
    rw [hps] at hwh
    dsimp only at hwh
    rw [hnone hps]
    have hfz : ∀ {σ : Mem}, wkMem σ x.M → Frz σ x.V (encHs x.T) := fun hm => frz_oh ho hm
    obtain ⟨bs, L, o, vs, nx⟩ := x
    have hMM : OH.M ⟨bs, L, o, vs, nx⟩ = vwM o vs ++ (accM bs 4 (L.map sesV) ++ famR L) := rfl
    rw [encHs_mk] at hwh
    unfold OH.V at *
    dsimp only at *
    rcases L with _ | ⟨l0, L⟩
    all_goals
      rcases o with _ | bo
      all_goals
        refine acalls_of_vc (DL_ok (by decide)) Tryz.func6 rfl (by decide) (by decide) rfl ?_
        refine g0_ ?_
        refine headL_ (head_ ?_); refine g0_ ?_
        refine ⟨_, ⟨fun _ hk => hwh.borrowTT rfl (fun j hj => ?_) hk⟩, ?_⟩
        · match j, hj with
          | 0, _ => exact hfz (.skip wkMem.rfl')
          | 1, _ => exact .refl _
        refine g0_ ?_
        refine g1_ ?_
        exact ⟨rfl, fun h => by cases h⟩
  | some y =>
    obtain ⟨i, k⟩ := y
    obtain ⟨s, w, hs, hw, hp, -, -⟩ := posS_some hps
    have hwa : winAt x.T.ses i k = some w := by rw [winAt, hs]; exact hw
    obtain ⟨next', w', hW, hY⟩ := hsome i k w hps hwa
    rw [hps] at hwh
    dsimp only at hwh
    rw [show x.T.ses = x.L.map Prod.snd from rfl, List.getElem?_map] at hs
    obtain ⟨x0, hsi, rfl⟩ := Option.map_eq_some_iff.1 hs
    have hpm := own_permS hwne b [] hsi
    rw [List.append_nil, List.nil_append] at hpm
    have hfz := frz_oh ho (σ := _) ⟨[_], hpm.symm.trans (List.perm_append_singleton _ _).symm⟩
    refine ACalls.perm ?_ hpm
    have hne : x.L.map sesR ≠ [] := by
      intro e
      rw [List.map_eq_nil_iff] at e
      rw [e] at hsi
      simp at hsi
    rw [show x.V = .agg [.rsl x.bs 4 0 x.L.length, vwV x.o x.views, .int .i64 x.next] by unfold OH.V; rw [sess_R hwne, accV_neH hne, List.length_map]] at hfz
    clear hpm
    obtain ⟨bs, L, o, vs, nx⟩ := x
    unfold OH.T at *
    dsimp only at *
    have hil := lt_of_at hsi
    have hkl := lt_of_at hw
    have hLm : (L.map sesR).length = L.length := List.length_map _
    have hb0 : (L.map sesR)[0 + i]? = some (sesR x0) := by rw [Nat.zero_add, List.getElem?_map, hsi]; rfl
    rw [sesR_mk] at hb0
    obtain ⟨R, hR⟩ : ∃ R, R = L.map sesR := ⟨_, rfl⟩
    rw [← hR] at hLm hb0 hfz ⊢
    have hw6 := (hwr x0 (List.mem_of_getElem? hsi)).many.2
    have hxm : (x0.2.wins.map encWin).length = x0.2.wins.length := List.length_map _
    have hbk : (x0.2.wins.map encWin)[0 + k]? = some (encWin w) := by rw [Nat.zero_add, List.getElem?_map, hw]; rfl
    rw [encHs_mk] at hwh hfz
    refine acalls_of_vc (DL_ok (by decide)) Tryz.func6 rfl (by decide) (by decide) rfl ?_
    refine g0_ ?_
    refine headL_ (head_ ?_); refine g0_ ?_
    refine ⟨_, ⟨fun _ hk => hwh.borrowTT rfl (fun j hj => ?_) hk⟩, ?_⟩
    · match j, hj with
      | 0, _ => exact hfz
      | 1, _ => exact .refl _
    refine g0_ ?_
    refine g1_ ?_
    refine Draws10.chain ⟨13, [.new, .new, .new, .new, .new, .new, .new, .new, .new, .new, .new, .new, .turn], [(12, [.keep, .keep, .keep, .keep, .keep, .keep, .keep, .keep, .keep, .keep, .keep, .keep, .keep])], by decide +kernel, ?_⟩; (refine g0_ ?_; repeat (refine Elem1.mk fun e_ he_ => ?_; refine g0_ ?_))
    obtain rfl := Option.some.inj ((hb0).symm.trans he_)
    clear he_
    refine g0_ ?_
    rw [forceL_eq]
    refine callV_of ?_
    refine lendW W (hW b x0.1 (0 + k) _ _ _ hbk) (fun hE => ?_) (fun hE => ?_)
    · refine g0_ ?_
      refine ⟨rfl, fun _ => done_ses2 (T := []) (nb := x0.1) (x' := { x0.2 with wins := x0.2.wins.set k w' }) hsi ?_ ?_ ?_ ho (.refl _)⟩
      · rw [hR, set_R hsi]
      · rw [Nat.zero_add, List.map_set]
      · rw [hY hE, ← set_T hsi, List.map_set]
    · refine g0_ ?_
      exact ⟨rfl, fun h => absurd h hE⟩
end Go.Eng.YtmodblkagimhlaaGreatDoor
end

/- Houses: what is done to a pane's window, in the document (b_ x_ q_ e_). -/
section
namespace Go.Eng.YtmodblkagimhlaaGreatDoor
open Go Go.Eng Go.Proofs
variable (W : World)
set_option linter.unusedSimpArgs false
set_option maxRecDepth 100000
set_option linter.unusedVariables false
set_option maxHeartbeats 8000000
theorem pick5_ok (pane next : Int) (w : Win) : WinTo W 18 [.ip (.int .i64 pane) 0] 0 next next w (pickW pane w) := by
  intro b bw k ws sv vv hb
  have hkl := lt_of_at hb
  rcases Bool.eq_false_or_eq_true w.zoom with hz | hz
  · rw [show pickW pane w = actR pane ⟨w.name, w.s, w.act, w.bef, decide (w.act = pane)⟩ by unfold pickW actR; dsimp only; split; (rename_i h1; obtain ⟨wn, wsp, wa, wb, wz⟩ := w; dsimp only at *; rw [hz, decide_eq_true h1]); (rename_i h1; rw [decide_eq_false h1])]
    refine acalls_of_vc (DL_ok (by decide)) Tryz.func18 rfl (by decide) (by decide) rfl ?_
    refine g0_ ?_
    refine Draws10.chain ⟨16, [.new, .new, .new, .new, .new, .new, .new, .new, .new, .new, .new, .new, .new, .new, .new, .turn], [(15, [.keep, .keep, .keep, .keep, .keep, .keep, .keep, .keep, .keep, .keep, .keep, .keep, .keep, .keep, .keep, .keep])], by decide +kernel, ?_⟩; (refine g0_ ?_; repeat (refine Elem1.mk fun e_ he_ => ?_; refine g0_ ?_))
    (repeat ((first | obtain rfl := Option.some.inj (hb.symm.trans he_) | obtain rfl := Option.some.inj ((set_at hb _).symm.trans he_) | obtain rfl := Option.some.inj ((set_at (set_at hb _) _).symm.trans he_) | obtain rfl := Option.some.inj ((set_at (set_at (set_at hb _) _) _).symm.trans he_)); clear he_; refine g0_ ?_))
    (refine g1_ ?_; repeat (refine Elem1.mk fun e_ he_ => ?_; refine g1_ ?_))
    (repeat ((first | obtain rfl := Option.some.inj (hb.symm.trans he_) | obtain rfl := Option.some.inj ((set_at hb _).symm.trans he_) | obtain rfl := Option.some.inj ((set_at (set_at hb _) _).symm.trans he_) | obtain rfl := Option.some.inj ((set_at (set_at (set_at hb _) _) _).symm.trans he_)); clear he_; (refine g0_ ?_; repeat (refine Elem1.mk fun e_ he_ => ?_; refine g0_ ?_))))
    refine ACalls.lend1 (actR_ok W bw _ k ⟨w.name, w.s, w.act, w.bef, decide (w.act = pane)⟩ pane (set_at hb _)) (by repeat (first | exact .here _ _ _ | apply Look.there)) ?_
    rintro _ -
    refine g0_ ?_
    refine ⟨rfl, fun _ => ?_⟩
    rw [List.set_set]
    (first | exact ⟨_, .refl _⟩ | exact wkMem.rfl' | exact ⟨_, .swap _ _ _⟩ | (repeat (first | exact wkMem.nil _ | exact wkMem.rfl' | exact wk_snoc _ _ _ | exact wk_fam (by assumption) _ _ _ | exact wk_famN (by assumption) _ _ _ | (apply wkMem.cons; (case' hl => (repeat (first | exact .here _ _ _ | apply Look.there)))) | apply wkMem.skip)))
  · rw [show pickW pane w = actR pane ⟨w.name, w.s, w.act, w.bef, false⟩ by unfold pickW actR; dsimp only; split; (obtain ⟨wn, wsp, wa, wb, wz⟩ := w; dsimp only at *; rw [hz]); rfl]
    refine acalls_of_vc (DL_ok (by decide)) Tryz.func18 rfl (by decide) (by decide) rfl ?_
    refine g0_ ?_
    refine Draws10.chain ⟨16, [.new, .new, .new, .new, .new, .new, .new, .new, .new, .new, .new, .new, .new, .new, .new, .turn], [(15, [.keep, .keep, .keep, .keep, .keep, .keep, .keep, .keep, .keep, .keep, .keep, .keep, .keep, .keep, .keep, .keep])], by decide +kernel, ?_⟩; (refine g0_ ?_; repeat (refine Elem1.mk fun e_ he_ => ?_; refine g0_ ?_))
    (repeat ((first | obtain rfl := Option.some.inj (hb.symm.trans he_) | obtain rfl := Option.some.inj ((set_at hb _).symm.trans he_) | obtain rfl := Option.some.inj ((set_at (set_at hb _) _).symm.trans he_) | obtain rfl := Option.some.inj ((set_at (set_at (set_at hb _) _) _).symm.trans he_)); clear he_; refine g0_ ?_))
    (refine g1_ ?_; repeat (refine Elem1.mk fun e_ he_ => ?_; refine g1_ ?_))
    (repeat ((first | obtain rfl := Option.some.inj (hb.symm.trans he_) | obtain rfl := Option.some.inj ((set_at hb _).symm.trans he_) | obtain rfl := Option.some.inj ((set_at (set_at hb _) _).symm.trans he_) | obtain rfl := Option.some.inj ((set_at (set_at (set_at hb _) _) _).symm.trans he_)); clear he_; refine g0_ ?_))
    refine ACalls.lend1 (actR_ok W bw _ k ⟨w.name, w.s, w.act, w.bef, false⟩ pane (set_at hb _)) (by repeat (first | exact .here _ _ _ | apply Look.there)) ?_
    rintro _ -
    refine g0_ ?_
    refine ⟨rfl, fun _ => ?_⟩
    rw [List.set_set]
    (first | exact ⟨_, .refl _⟩ | exact wkMem.rfl' | exact ⟨_, .swap _ _ _⟩ | (repeat (first | exact wkMem.nil _ | exact wkMem.rfl' | exact wk_snoc _ _ _ | exact wk_fam (by assumption) _ _ _ | exact wk_famN (by assumption) _ _ _ | (apply wkMem.cons; (case' hl => (repeat (first | exact .here _ _ _ | apply Look.there)))) | apply wkMem.skip)))
theorem zoom7_ok (pane next : Int) (w : Win) : WinTo W 21 [.ip (.int .i64 pane) 0] 0 next next w (zoomW pane w) := by
  intro b bw k ws sv vv hb
  have hkl := lt_of_at hb
  by_cases h1 : w.act = pane
  · rw [show zoomW pane w = actR pane ⟨w.name, w.s, w.act, w.bef, !w.zoom⟩ by unfold zoomW actR; dsimp only; rw [if_pos h1, if_pos h1, decide_eq_true h1, Bool.and_true, h1]]
    refine acalls_of_vc (DL_ok (by decide)) Tryz.func21 rfl (by decide) (by decide) rfl ?_
    refine g0_ ?_
    refine Draws10.chain ⟨17, [.new, .new, .new, .new, .new, .new, .new, .new, .new, .new, .new, .new, .new, .new, .new, .new, .turn], [(16, [.keep, .keep, .keep, .keep, .keep, .keep, .keep, .keep, .keep, .keep, .keep, .keep, .keep, .keep, .keep, .keep, .keep])], by decide +kernel, ?_⟩; (refine g0_ ?_; repeat (refine Elem1.mk fun e_ he_ => ?_; refine g0_ ?_))
    (repeat ((first | obtain rfl := Option.some.inj (hb.symm.trans he_) | obtain rfl := Option.some.inj ((set_at hb _).symm.trans he_) | obtain rfl := Option.some.inj ((set_at (set_at hb _) _).symm.trans he_) | obtain rfl := Option.some.inj ((set_at (set_at (set_at hb _) _) _).symm.trans he_)); clear he_; refine g0_ ?_))
    (refine g1_ ?_; repeat (refine Elem1.mk fun e_ he_ => ?_; refine g1_ ?_))
    (repeat ((first | obtain rfl := Option.some.inj (hb.symm.trans he_) | obtain rfl := Option.some.inj ((set_at hb _).symm.trans he_) | obtain rfl := Option.some.inj ((set_at (set_at hb _) _).symm.trans he_) | obtain rfl := Option.some.inj ((set_at (set_at (set_at hb _) _) _).symm.trans he_)); clear he_; (refine g0_ ?_; repeat (refine Elem1.mk fun e_ he_ => ?_; refine g0_ ?_))))
    refine ACalls.lend1 (actR_ok W bw _ k ⟨w.name, w.s, w.act, w.bef, !w.zoom⟩ pane (set_at hb _)) (by repeat (first | exact .here _ _ _ | apply Look.there)) ?_
    rintro _ -
    refine g0_ ?_
    refine ⟨rfl, fun _ => ?_⟩
    rw [List.set_set]
    (first | exact ⟨_, .refl _⟩ | exact wkMem.rfl' | exact ⟨_, .swap _ _ _⟩ | (repeat (first | exact wkMem.nil _ | exact wkMem.rfl' | exact wk_snoc _ _ _ | exact wk_fam (by assumption) _ _ _ | exact wk_famN (by assumption) _ _ _ | (apply wkMem.cons; (case' hl => (repeat (first | exact .here _ _ _ | apply Look.there)))) | apply wkMem.skip)))
  · rw [show zoomW pane w = actR pane ⟨w.name, w.s, w.act, w.bef, true⟩ by unfold zoomW actR; dsimp only; rw [if_neg h1, if_neg h1, decide_eq_false h1, Bool.and_false]; rfl]
    refine acalls_of_vc (DL_ok (by decide)) Tryz.func21 rfl (by decide) (by decide) rfl ?_
    refine g0_ ?_
    refine Draws10.chain ⟨17, [.new, .new, .new, .new, .new, .new, .new, .new, .new, .new, .new, .new, .new, .new, .new, .new, .turn], [(16, [.keep, .keep, .keep, .keep, .keep, .keep, .keep, .keep, .keep, .keep, .keep, .keep, .keep, .keep, .keep, .keep, .keep])], by decide +kernel, ?_⟩; (refine g0_ ?_; repeat (refine Elem1.mk fun e_ he_ => ?_; refine g0_ ?_))
    (repeat ((first | obtain rfl := Option.some.inj (hb.symm.trans he_) | obtain rfl := Option.some.inj ((set_at hb _).symm.trans he_) | obtain rfl := Option.some.inj ((set_at (set_at hb _) _).symm.trans he_) | obtain rfl := Option.some.inj ((set_at (set_at (set_at hb _) _) _).symm.trans he_)); clear he_; refine g0_ ?_))
    (refine g1_ ?_; repeat (refine Elem1.mk fun e_ he_ => ?_; refine g1_ ?_))
    (repeat ((first | obtain rfl := Option.some.inj (hb.symm.trans he_) | obtain rfl := Option.some.inj ((set_at hb _).symm.trans he_) | obtain rfl := Option.some.inj ((set_at (set_at hb _) _).symm.trans he_) | obtain rfl := Option.some.inj ((set_at (set_at (set_at hb _) _) _).symm.trans he_)); clear he_; refine g0_ ?_))
    refine ACalls.lend1 (actR_ok W bw _ k ⟨w.name, w.s, w.act, w.bef, true⟩ pane (set_at hb _)) (by repeat (first | exact .here _ _ _ | apply Look.there)) ?_
    rintro _ -
    refine g0_ ?_
    refine ⟨rfl, fun _ => ?_⟩
    rw [List.set_set]
    (first | exact ⟨_, .refl _⟩ | exact wkMem.rfl' | exact ⟨_, .swap _ _ _⟩ | (repeat (first | exact wkMem.nil _ | exact wkMem.rfl' | exact wk_snoc _ _ _ | exact wk_fam (by assumption) _ _ _ | exact wk_famN (by assumption) _ _ _ | (apply wkMem.cons; (case' hl => (repeat (first | exact .here _ _ _ | apply Look.there)))) | apply wkMem.skip)))
end Go.Eng.YtmodblkagimhlaaGreatDoor
end
