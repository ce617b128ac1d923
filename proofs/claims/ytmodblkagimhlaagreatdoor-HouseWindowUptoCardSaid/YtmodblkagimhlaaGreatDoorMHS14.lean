/- Texts put together: Hs9. -/
import Derived.Test.YtmodblkagimhlaaGreatDoorMHS10
import Derived.Test.YtmodblkagimhlaaGreatDoorMHS13
/- Houses: what a new window is to be, what is to be shown; the law HouseWindow (b_ x_ q_ e_). -/
section
namespace Go.Eng.YtmodblkagimhlaaGreatDoor
open Go Go.Eng Go.Proofs
variable (W : World)
set_option linter.unusedSimpArgs false
set_option maxRecDepth 100000
set_option linter.unusedVariables false
set_option maxHeartbeats 8000000
theorem freshR_okW (b : Nat) (sv vv : PV) (next : Int) (hn : 1 ≤ next ∧ next < 9999) : ACalls Tryz.prog W 13 [.bref b 0] [⟨b, .row 3 [.agg [sv, vv, .int .i64 next]] 0⟩] (Gives (fun _ : Unit => .tup [.int .i64 next, .int .i64 0]) (fun _ => [⟨b, .row 3 [.agg [sv, vv, .int .i64 (next + 1)]] 0⟩]) (fun _ => True)) := by
  refine acalls_of_vc (drawOk W) Tryz.func13 rfl (by decide) (by decide) rfl ?_
  refine g0_ ?_
  refine g1_ ?_
  exact ⟨(), trivial, by rw [Int.add_sub_cancel], by (first | exact ⟨_, .refl _⟩ | exact wkMem.rfl' | exact ⟨_, .swap _ _ _⟩ | (repeat (first | exact wkMem.nil _ | exact wkMem.rfl' | exact wk_snoc _ _ _ | exact wk_fam (by assumption) _ _ _ | exact wk_famN (by assumption) _ _ _ | (apply wkMem.cons; (case' hl => (repeat (first | exact .here _ _ _ | apply Look.there)))) | apply wkMem.skip)))⟩
theorem freshR_fullW (b : Nat) (sv vv : PV) : ACalls Tryz.prog W 13 [.bref b 0] [⟨b, .row 3 [.agg [sv, vv, .int .i64 9999]] 0⟩] (Gives (fun _ : Unit => .tup [.int .i64 0, .int .i64 10]) (fun _ => [⟨b, .row 3 [.agg [sv, vv, .int .i64 9999]] 0⟩]) (fun _ => True)) := by
  refine acalls_of_vc (drawOk W) Tryz.func13 rfl (by decide) (by decide) rfl ?_
  refine g0_ ?_
  refine g1_ ?_
  exact ⟨(), trivial, rfl, by (first | exact ⟨_, .refl _⟩ | exact wkMem.rfl' | exact ⟨_, .swap _ _ _⟩ | (repeat (first | exact wkMem.nil _ | exact wkMem.rfl' | exact wk_snoc _ _ _ | exact wk_fam (by assumption) _ _ _ | exact wk_famN (by assumption) _ _ _ | (apply wkMem.cons; (case' hl => (repeat (first | exact .here _ _ _ | apply Look.there)))) | apply wkMem.skip)))⟩
theorem newWinR_okW (n : List UInt8) (p : Int) : Pure Tryz.prog W 27 [.str n, .int .i64 p] (encWin (winN n p)) := by
  refine Pure.of (acalls_of_vc (drawOk W) Tryz.func27 rfl (by decide) (by decide) rfl ?_)
  (refine g0_ ?_; repeat (refine n1_ fun b_ => ?_; refine g0_ ?_))
  refine .agg _ _ rfl fun j hj => ?_
  match j, hj with
  | 0, _ => exact .refl _
  | 1, _ => exact .refl _
  | 2, _ => exact .refl _
  | 3, _ => exact .refl _
  | 4, _ => exact .nils 4
  | 5, _ => exact .refl _
  | 6, _ => exact .refl _
  | 7, _ => exact .refl _
/-- Is there such a session? -/
theorem hereR_ok (b bs n : Nat) (vv : PV) (next s : Int) (hn : n ≤ 4) : ACalls Tryz.prog W 22 [.bref b 0, .ip (.int .i64 s) 0] [⟨b, .row 3 [.agg [.rsl bs 4 0 n, vv, .int .i64 next]] 0⟩] (Gives (fun _ : Unit => .bool (decide (0 ≤ s) && decide (s < n))) (fun _ => [⟨b, .row 3 [.agg [.rsl bs 4 0 n, vv, .int .i64 next]] 0⟩]) (fun _ => True)) := by
  by_cases h1 : 0 ≤ s
  · by_cases h2 : s < n
    · refine acalls_of_vc (DL_ok (by decide)) Tryz.func22 rfl (by decide) (by decide) rfl ?_
      refine g0_ ?_
      refine headL_ (head_ ?_); refine g0_ ?_
      refine g1_ ?_
      exact ⟨(), trivial, by simp [h1, h2], wkMem.rfl'⟩
    · refine acalls_of_vc (DL_ok (by decide)) Tryz.func22 rfl (by decide) (by decide) rfl ?_
      refine g0_ ?_
      refine headL_ (head_ ?_); refine g0_ ?_
      refine g1_ ?_
      exact ⟨(), trivial, by simp [h2], wkMem.rfl'⟩
  · refine acalls_of_vc (DL_ok (by decide)) Tryz.func22 rfl (by decide) (by decide) rfl ?_
    refine g0_ ?_
    refine headL_ (head_ ?_); refine g0_ ?_
    refine g1_ ?_
    exact ⟨(), trivial, by simp [h1], wkMem.rfl'⟩
theorem hereR_nil (b : Nat) (vv : PV) (next s : Int) : ACalls Tryz.prog W 22 [.bref b 0, .ip (.int .i64 s) 0] [⟨b, .row 3 [.agg [.nils, vv, .int .i64 next]] 0⟩] (Gives (fun _ : Unit => .bool false) (fun _ => [⟨b, .row 3 [.agg [.nils, vv, .int .i64 next]] 0⟩]) (fun _ => True)) := by
  by_cases h1 : 0 ≤ s
  · refine acalls_of_vc (DL_ok (by decide)) Tryz.func22 rfl (by decide) (by decide) rfl ?_
    refine g0_ ?_
    refine headL_ (head_ ?_); refine g0_ ?_
    refine g1_ ?_
    exact ⟨(), trivial, (by first | rfl | (simp; done) | (simp; omega)), wkMem.rfl'⟩
  · refine acalls_of_vc (DL_ok (by decide)) Tryz.func22 rfl (by decide) (by decide) rfl ?_
    refine g0_ ?_
    refine headL_ (head_ ?_); refine g0_ ?_
    refine g1_ ?_
    exact ⟨(), trivial, (by first | rfl | (simp; done) | (simp; omega)), wkMem.rfl'⟩
theorem hwin3_ok (hT : Tabs W) (h : Hs) (h0 : chkH h = 0) (s : Int) (n : List UInt8) (hns : n.length ≤ 1048576) :
    DoesTo W 25 [.ip (.fn 22 [.ip (.int .i64 s) 0]) 0, .ip (.str n) 0, .ip (.int .i64 s) 0] h (winY h s n) (winE h s n) := by
  intro b x hx ho
  have hsr := right_win h0
  obtain ⟨hl4, -, hn1, hn2, -, -⟩ := right_ses h0
  have hnm := isNameR_ok W hT n hns
  subst hx
  have hwr : ∀ p ∈ x.L, SesR x.next p.2 := fun p hp => hsr p.2 (List.mem_map.2 ⟨p, hp, rfl⟩)
  have hl4' : x.L.length ≤ 4 := by simpa [OH.T] using hl4
  have hwne : ∀ p ∈ x.L, p.2.wins ≠ [] := fun p hp h => by have := (hwr p hp).many; rw [h] at this; simp at this
  by_cases hbad : s < 0 ∨ (x.L.length : Int) ≤ s
  · have hE : winE x.T s n = 6 := by
      unfold winE OH.T
      by_cases h1 : s < 0
      · rw [if_pos h1]
      · rw [if_neg h1]
        dsimp only
        rw [show (x.L.map Prod.snd)[s.toNat]? = none by rw [List.getElem?_eq_none_iff, List.length_map]; omega]
    rw [hE]
    obtain ⟨bs, L, o, vs, nx⟩ := x
    unfold OH.V
    dsimp only at *
    rcases L with _ | ⟨l0, L⟩
    · have hhr := hereR_nil W b (vwV o vs) nx s
      refine acalls_of_vc (DL_ok (by decide)) Tryz.func25 rfl (by decide) (by decide) rfl ?_
      refine g0_ ?_
      refine ACalls.sameN hhr (lookH1 (by repeat (first | exact .here _ _ _ | apply Look.there))) ?_
      refine g0_ ?_
      refine g1_ ?_
      exact ⟨rfl, fun h => by cases h⟩
    · have hLm : (L.map sesV).length = L.length := List.length_map _
      have hhr := hereR_ok W b bs ((List.map sesV L).length + 1) (vwV o vs) nx s (by simpa using hl4')
      rw [show (decide (0 ≤ s) && decide (s < (((List.map sesV L).length + 1 : Nat) : Int))) = false by simp only [List.length_cons] at hbad; rw [Bool.and_eq_false_iff, decide_eq_false_iff_not, decide_eq_false_iff_not]; omega] at hhr
      refine acalls_of_vc (DL_ok (by decide)) Tryz.func25 rfl (by decide) (by decide) rfl ?_
      refine g0_ ?_
      refine ACalls.sameN hhr (lookH1 (by repeat (first | exact .here _ _ _ | apply Look.there))) ?_
      refine g0_ ?_
      refine g1_ ?_
      exact ⟨rfl, fun h => by cases h⟩
  obtain ⟨i, rfl⟩ := Int.eq_ofNat_of_zero_le (show 0 ≤ s by omega)
  have h1 : ¬ ((i : Nat) : Int) < 0 := by omega
  obtain ⟨x0, hsi⟩ : ∃ x0, x.L[i]? = some x0 := ⟨_, List.getElem?_eq_getElem (by omega)⟩
  have hpm := own_permS hwne b [] hsi
  rw [List.append_nil, List.nil_append] at hpm
  refine ACalls.perm ?_ hpm
  clear hpm
  obtain ⟨bs, L, o, vs, nx⟩ := x
  unfold OH.T winE winY at *
  dsimp only at *
  rw [Int.toNat_natCast, if_neg h1]
  rw [show (L.map Prod.snd)[i]? = some x0.2 by rw [List.getElem?_map, hsi]; rfl]
  dsimp only
  have hil := lt_of_at hsi
  have hhr := hereR_ok W b bs L.length (vwV o vs) nx i hl4'
  rw [show (decide (0 ≤ (i : Int)) && decide ((i : Int) < (L.length : Int))) = true by rw [Bool.and_eq_true, decide_eq_true_iff, decide_eq_true_iff]; omega] at hhr
  have hLm : (L.map sesR).length = L.length := List.length_map _
  have hb0 : (L.map sesR)[0 + i]? = some (sesR x0) := by rw [Nat.zero_add, List.getElem?_map, hsi]; rfl
  rw [sesR_mk] at hb0
  obtain ⟨R, hR⟩ : ∃ R, R = L.map sesR := ⟨_, rfl⟩
  rw [← hR] at hLm hb0 ⊢
  have hx0 := List.mem_of_getElem? hsi
  have hw6 := (hwr x0 hx0).many.2
  have hxm : (x0.2.wins.map encWin).length = x0.2.wins.length := List.length_map _
  by_cases h2 : nameB n = false
  · rw [if_pos h2]
    rw [h2] at hnm
    refine acalls_of_vc (DL_ok (by decide)) Tryz.func25 rfl (by decide) (by decide) rfl ?_
    refine g0_ ?_
    refine ACalls.sameN hhr (lookH1 (by repeat (first | exact .here _ _ _ | apply Look.there))) ?_
    refine g0_ ?_
    refine g1_ ?_
    refine (hnm).use ?_; refine g0_ ?_
    refine g1_ ?_
    exact ⟨rfl, fun h => by cases h⟩
  have h2' : nameB n = true := by simpa using h2
  rw [h2'] at hnm
  rw [if_neg h2]
  by_cases h3 : x0.2.wins.length = 6
  · rw [if_pos h3]
    refine acalls_of_vc (DL_ok (by decide)) Tryz.func25 rfl (by decide) (by decide) rfl ?_
    refine g0_ ?_
    refine ACalls.sameN hhr (lookH1 (by repeat (first | exact .here _ _ _ | apply Look.there))) ?_
    refine g0_ ?_
    refine g1_ ?_
    refine (hnm).use ?_; refine g0_ ?_
    refine g1_ ?_
    refine headL_ (head_ ?_); (refine g0_ ?_; repeat (refine Elem1.mk fun e_ he_ => ?_; refine g0_ ?_))
    obtain rfl := Option.some.inj ((hb0).symm.trans he_)
    clear he_
    refine g0_ ?_
    refine g1_ ?_
    exact ⟨rfl, fun h => by cases h⟩
  rw [if_neg h3]
  by_cases h4 : nx = 9999
  · rw [if_pos h4]
    subst h4
    refine acalls_of_vc (DL_ok (by decide)) Tryz.func25 rfl (by decide) (by decide) rfl ?_
    refine g0_ ?_
    refine ACalls.sameN hhr (lookH1 (by repeat (first | exact .here _ _ _ | apply Look.there))) ?_
    refine g0_ ?_
    refine g1_ ?_
    refine (hnm).use ?_; refine g0_ ?_
    refine g1_ ?_
    refine headL_ (head_ ?_); (refine g0_ ?_; repeat (refine Elem1.mk fun e_ he_ => ?_; refine g0_ ?_))
    obtain rfl := Option.some.inj ((hb0).symm.trans he_)
    clear he_
    refine g0_ ?_
    refine g1_ ?_
    refine ACalls.lend1 (freshR_fullW W b _ _) (by repeat (first | exact .here _ _ _ | apply Look.there)) ?_
    rintro _ -
    refine g0_ ?_
    refine g1_ ?_
    have hwn := newWinR_okW W n 0
    rw [show encWin (winN n 0) = .agg [.str n, .int .i64 0, .int .i64 0, .int .i64 1, .sl 4 [], .int .i64 0, .int .i64 0, .bool false] from rfl] at hwn
    refine headL_ (head_ ?_); (refine g0_ ?_; repeat (refine Elem1.mk fun e_ he_ => ?_; refine g0_ ?_))
    first | obtain rfl := Option.some.inj (hb0.symm.trans he_) | obtain rfl := Option.some.inj ((set_at hb0 _).symm.trans he_) | obtain rfl := Option.some.inj ((set_at (set_at hb0 _) _).symm.trans he_) | obtain rfl := Option.some.inj ((set_at (set_at (set_at hb0 _) _) _).symm.trans he_)
    clear he_
    (refine g0_ ?_; repeat (refine Elem1.mk fun e_ he_ => ?_; refine g0_ ?_))
    first | obtain rfl := Option.some.inj (hb0.symm.trans he_) | obtain rfl := Option.some.inj ((set_at hb0 _).symm.trans he_) | obtain rfl := Option.some.inj ((set_at (set_at hb0 _) _).symm.trans he_) | obtain rfl := Option.some.inj ((set_at (set_at (set_at hb0 _) _) _).symm.trans he_)
    clear he_
    (refine g0_ ?_; repeat (refine Elem1.mk fun e_ he_ => ?_; refine g0_ ?_))
    first | obtain rfl := Option.some.inj (hb0.symm.trans he_) | obtain rfl := Option.some.inj ((set_at hb0 _).symm.trans he_) | obtain rfl := Option.some.inj ((set_at (set_at hb0 _) _).symm.trans he_) | obtain rfl := Option.some.inj ((set_at (set_at (set_at hb0 _) _) _).symm.trans he_)
    clear he_
    (refine g0_ ?_; repeat (refine Elem1.mk fun e_ he_ => ?_; refine g0_ ?_))
    first | obtain rfl := Option.some.inj (hb0.symm.trans he_) | obtain rfl := Option.some.inj ((set_at hb0 _).symm.trans he_) | obtain rfl := Option.some.inj ((set_at (set_at hb0 _) _).symm.trans he_) | obtain rfl := Option.some.inj ((set_at (set_at (set_at hb0 _) _) _).symm.trans he_)
    clear he_
    refine g0_ ?_
    refine Draws10.chain ⟨13, [.new, .new, .new, .new, .new, .new, .new, .new, .new, .turn, .skip, .skip, .skip], [(9, [.again, .keep, .keep, .keep, .keep, .keep, .keep, .keep, .keep, .keep, .new, .new, .turn]), (12, [.keep, .keep, .keep, .keep, .keep, .keep, .keep, .keep, .keep, .keep, .keep, .keep, .keep])], by decide +kernel, ?_⟩; (refine g0_ ?_; repeat (refine Elem1.mk fun e_ he_ => ?_; refine g0_ ?_))
    first | obtain rfl := Option.some.inj (hb0.symm.trans he_) | obtain rfl := Option.some.inj ((set_at hb0 _).symm.trans he_) | obtain rfl := Option.some.inj ((set_at (set_at hb0 _) _).symm.trans he_) | obtain rfl := Option.some.inj ((set_at (set_at (set_at hb0 _) _) _).symm.trans he_)
    clear he_
    refine g0_ ?_
    refine ⟨_, (hwn).quiet, ?_⟩; (refine g0_ ?_; repeat ((first | refine n2_ fun b_ => ?_ | refine Elem1.mk fun e_ he_ => ?_); refine g0_ ?_))
    first | obtain rfl := Option.some.inj (hb0.symm.trans he_) | obtain rfl := Option.some.inj ((set_at hb0 _).symm.trans he_) | obtain rfl := Option.some.inj ((set_at (set_at hb0 _) _).symm.trans he_) | obtain rfl := Option.some.inj ((set_at (set_at (set_at hb0 _) _) _).symm.trans he_)
    clear he_
    refine g0_ ?_
    rw [show ∀ v : PV, x0.2.wins.length + [v].length = x0.2.wins.length + 1 from fun v => rfl]
    exact ⟨rfl, fun h => by cases h⟩
  rw [if_neg h4]
  refine acalls_of_vc (DL_ok (by decide)) Tryz.func25 rfl (by decide) (by decide) rfl ?_
  refine g0_ ?_
  refine ACalls.sameN hhr (lookH1 (by repeat (first | exact .here _ _ _ | apply Look.there))) ?_
  refine g0_ ?_
  refine g1_ ?_
  refine (hnm).use ?_; refine g0_ ?_
  refine g1_ ?_
  refine headL_ (head_ ?_); (refine g0_ ?_; repeat (refine Elem1.mk fun e_ he_ => ?_; refine g0_ ?_))
  obtain rfl := Option.some.inj ((hb0).symm.trans he_)
  clear he_
  refine g0_ ?_
  refine g1_ ?_
  refine ACalls.lend1 (freshR_okW W b _ _ nx (by omega)) (by repeat (first | exact .here _ _ _ | apply Look.there)) ?_
  rintro _ -
  refine g0_ ?_
  refine g1_ ?_
  have hwn := newWinR_okW W n nx
  rw [show encWin (winN n nx) = .agg [.str n, .int .i64 0, .int .i64 nx, .int .i64 1, .sl 4 [], .int .i64 nx, .int .i64 0, .bool false] from rfl] at hwn
  refine headL_ (head_ ?_); (refine g0_ ?_; repeat (refine Elem1.mk fun e_ he_ => ?_; refine g0_ ?_))
  first | obtain rfl := Option.some.inj (hb0.symm.trans he_) | obtain rfl := Option.some.inj ((set_at hb0 _).symm.trans he_) | obtain rfl := Option.some.inj ((set_at (set_at hb0 _) _).symm.trans he_) | obtain rfl := Option.some.inj ((set_at (set_at (set_at hb0 _) _) _).symm.trans he_)
  clear he_
  (refine g0_ ?_; repeat (refine Elem1.mk fun e_ he_ => ?_; refine g0_ ?_))
  first | obtain rfl := Option.some.inj (hb0.symm.trans he_) | obtain rfl := Option.some.inj ((set_at hb0 _).symm.trans he_) | obtain rfl := Option.some.inj ((set_at (set_at hb0 _) _).symm.trans he_) | obtain rfl := Option.some.inj ((set_at (set_at (set_at hb0 _) _) _).symm.trans he_)
  clear he_
  (refine g0_ ?_; repeat (refine Elem1.mk fun e_ he_ => ?_; refine g0_ ?_))
  first | obtain rfl := Option.some.inj (hb0.symm.trans he_) | obtain rfl := Option.some.inj ((set_at hb0 _).symm.trans he_) | obtain rfl := Option.some.inj ((set_at (set_at hb0 _) _).symm.trans he_) | obtain rfl := Option.some.inj ((set_at (set_at (set_at hb0 _) _) _).symm.trans he_)
  clear he_
  (refine g0_ ?_; repeat (refine Elem1.mk fun e_ he_ => ?_; refine g0_ ?_))
  first | obtain rfl := Option.some.inj (hb0.symm.trans he_) | obtain rfl := Option.some.inj ((set_at hb0 _).symm.trans he_) | obtain rfl := Option.some.inj ((set_at (set_at hb0 _) _).symm.trans he_) | obtain rfl := Option.some.inj ((set_at (set_at (set_at hb0 _) _) _).symm.trans he_)
  clear he_
  refine g0_ ?_
  refine Draws10.chain ⟨13, [.new, .new, .new, .new, .new, .new, .new, .new, .new, .turn, .skip, .skip, .skip], [(9, [.again, .keep, .keep, .keep, .keep, .keep, .keep, .keep, .keep, .keep, .new, .new, .turn]), (12, [.keep, .keep, .keep, .keep, .keep, .keep, .keep, .keep, .keep, .keep, .keep, .keep, .keep])], by decide +kernel, ?_⟩; (refine g0_ ?_; repeat (refine Elem1.mk fun e_ he_ => ?_; refine g0_ ?_))
  first | obtain rfl := Option.some.inj (hb0.symm.trans he_) | obtain rfl := Option.some.inj ((set_at hb0 _).symm.trans he_) | obtain rfl := Option.some.inj ((set_at (set_at hb0 _) _).symm.trans he_) | obtain rfl := Option.some.inj ((set_at (set_at (set_at hb0 _) _) _).symm.trans he_)
  clear he_
  refine g0_ ?_
  refine ⟨_, (hwn).quiet, ?_⟩; (refine g0_ ?_; repeat ((first | refine n2_ fun b_ => ?_ | refine Elem1.mk fun e_ he_ => ?_); refine g0_ ?_))
  first | obtain rfl := Option.some.inj (hb0.symm.trans he_) | obtain rfl := Option.some.inj ((set_at hb0 _).symm.trans he_) | obtain rfl := Option.some.inj ((set_at (set_at hb0 _) _).symm.trans he_) | obtain rfl := Option.some.inj ((set_at (set_at (set_at hb0 _) _) _).symm.trans he_)
  clear he_
  refine g0_ ?_
  rw [show ∀ v : PV, x0.2.wins.length + [v].length = x0.2.wins.length + 1 from fun v => rfl]
  refine ⟨rfl, fun _ => done_ses2 (T := []) (nb := b_) (x' := ⟨x0.2.name, x0.2.wins ++ [winN n nx], x0.2.wins.length, x0.2.act⟩) hsi ?_ ?_ rfl ho perm_turn⟩
  · rw [List.set_set, List.set_set, hR, Nat.zero_add, List.map_set]
    simp only [sesR_mk, List.length_append, List.length_singleton]
    rfl
  · rw [List.map_append]
    rfl
theorem hshow5_ok (h : Hs) (h0 : chkH h = 0) (s k : Int) :
    DoesTo W 30 [.ip (.fn 22 [.ip (.int .i64 s) 0]) 0, .ip (.int .i64 k) 0, .ip (.int .i64 s) 0] h (showY h s k) (showE h s k) := by
  intro b x hx ho
  have hsr := right_win h0
  obtain ⟨hl4, -, hn1, hn2, -, -⟩ := right_ses h0
  subst hx
  have hwr : ∀ p ∈ x.L, SesR x.next p.2 := fun p hp => hsr p.2 (List.mem_map.2 ⟨p, hp, rfl⟩)
  have hl4' : x.L.length ≤ 4 := by simpa [OH.T] using hl4
  have hwne : ∀ p ∈ x.L, p.2.wins ≠ [] := fun p hp h => by have := (hwr p hp).many; rw [h] at this; simp at this
  by_cases hbad : s < 0 ∨ (x.L.length : Int) ≤ s
  · have hE : showE x.T s k = 6 := by
      unfold showE OH.T
      by_cases h1 : s < 0
      · rw [if_pos h1]
      · rw [if_neg h1]
        dsimp only
        rw [show (x.L.map Prod.snd)[s.toNat]? = none by rw [List.getElem?_eq_none_iff, List.length_map]; omega]
    rw [hE]
    obtain ⟨bs, L, o, vs, nx⟩ := x
    unfold OH.V
    dsimp only at *
    rcases L with _ | ⟨l0, L⟩
    · have hhr := hereR_nil W b (vwV o vs) nx s
      refine acalls_of_vc (DL_ok (by decide)) Tryz.func30 rfl (by decide) (by decide) rfl ?_
      refine g0_ ?_
      refine headL_ (head_ ?_); refine g0_ ?_
      refine ⟨_, ⟨fun _ hk => ACalls.sameN hhr (lookH1 (by repeat (first | exact .here _ _ _ | apply Look.there))) hk⟩, ?_⟩
      refine g0_ ?_
      refine g1_ ?_
      exact ⟨rfl, fun h => by cases h⟩
    · have hLm : (L.map sesV).length = L.length := List.length_map _
      have hhr := hereR_ok W b bs ((List.map sesV L).length + 1) (vwV o vs) nx s (by simpa using hl4')
      rw [show (decide (0 ≤ s) && decide (s < (((List.map sesV L).length + 1 : Nat) : Int))) = false by simp only [List.length_cons] at hbad; rw [Bool.and_eq_false_iff, decide_eq_false_iff_not, decide_eq_false_iff_not]; omega] at hhr
      refine acalls_of_vc (DL_ok (by decide)) Tryz.func30 rfl (by decide) (by decide) rfl ?_
      refine g0_ ?_
      refine headL_ (head_ ?_); refine g0_ ?_
      refine ⟨_, ⟨fun _ hk => ACalls.sameN hhr (lookH1 (by repeat (first | exact .here _ _ _ | apply Look.there))) hk⟩, ?_⟩
      refine g0_ ?_
      refine g1_ ?_
      exact ⟨rfl, fun h => by cases h⟩
  obtain ⟨i, rfl⟩ := Int.eq_ofNat_of_zero_le (show 0 ≤ s by omega)
  have h1 : ¬ ((i : Nat) : Int) < 0 := by omega
  obtain ⟨x0, hsi⟩ : ∃ x0, x.L[i]? = some x0 := ⟨_, List.getElem?_eq_getElem (by omega)⟩
  have hpm := own_permS hwne b [] hsi
  rw [List.append_nil, List.nil_append] at hpm
  refine ACalls.perm ?_ hpm
  clear hpm
  obtain ⟨bs, L, o, vs, nx⟩ := x
  unfold OH.T showE showY at *
  dsimp only at *
  rw [Int.toNat_natCast, if_neg h1]
  rw [show (L.map Prod.snd)[i]? = some x0.2 by rw [List.getElem?_map, hsi]; rfl]
  dsimp only
  have hil := lt_of_at hsi
  have hhr := hereR_ok W b bs L.length (vwV o vs) nx i hl4'
  rw [show (decide (0 ≤ (i : Int)) && decide ((i : Int) < (L.length : Int))) = true by rw [Bool.and_eq_true, decide_eq_true_iff, decide_eq_true_iff]; omega] at hhr
  have hLm : (L.map sesR).length = L.length := List.length_map _
  have hb0 : (L.map sesR)[0 + i]? = some (sesR x0) := by rw [Nat.zero_add, List.getElem?_map, hsi]; rfl
  rw [sesR_mk] at hb0
  obtain ⟨R, hR⟩ : ∃ R, R = L.map sesR := ⟨_, rfl⟩
  rw [← hR] at hLm hb0 ⊢
  have hx0 := List.mem_of_getElem? hsi
  have hw6 := (hwr x0 hx0).many.2
  have hxm : (x0.2.wins.map encWin).length = x0.2.wins.length := List.length_map _
  by_cases h2 : k < 0
  · rw [if_pos h2]
    refine acalls_of_vc (DL_ok (by decide)) Tryz.func30 rfl (by decide) (by decide) rfl ?_
    refine g0_ ?_
    refine headL_ (head_ ?_); refine g0_ ?_
    refine ⟨_, ⟨fun _ hk => ACalls.sameN hhr (lookH1 (by repeat (first | exact .here _ _ _ | apply Look.there))) hk⟩, ?_⟩
    refine g0_ ?_
    refine g1_ ?_
    exact ⟨rfl, fun h => by cases h⟩
  rw [if_neg h2]
  by_cases h3 : (x0.2.wins.length : Int) ≤ k
  · rw [if_pos h3]
    refine acalls_of_vc (DL_ok (by decide)) Tryz.func30 rfl (by decide) (by decide) rfl ?_
    refine g0_ ?_
    refine headL_ (head_ ?_); refine g0_ ?_
    refine ⟨_, ⟨fun _ hk => ACalls.sameN hhr (lookH1 (by repeat (first | exact .here _ _ _ | apply Look.there))) hk⟩, ?_⟩
    refine g0_ ?_
    (refine g1_ ?_; repeat (refine Elem1.mk fun e_ he_ => ?_; refine g1_ ?_))
    obtain rfl := Option.some.inj ((hb0).symm.trans he_)
    clear he_
    refine g0_ ?_
    refine g1_ ?_
    exact ⟨rfl, fun h => by cases h⟩
  rw [if_neg h3]
  by_cases h4 : x0.2.act = k
  · rw [if_pos h4]
    refine acalls_of_vc (DL_ok (by decide)) Tryz.func30 rfl (by decide) (by decide) rfl ?_
    refine g0_ ?_
    refine headL_ (head_ ?_); refine g0_ ?_
    refine ⟨_, ⟨fun _ hk => ACalls.sameN hhr (lookH1 (by repeat (first | exact .here _ _ _ | apply Look.there))) hk⟩, ?_⟩
    refine g0_ ?_
    (refine g1_ ?_; repeat (refine Elem1.mk fun e_ he_ => ?_; refine g1_ ?_))
    obtain rfl := Option.some.inj ((hb0).symm.trans he_)
    clear he_
    refine g0_ ?_
    refine g1_ ?_
    refine headL_ (head_ ?_); refine g0_ ?_
    refine headL_ (head_ ?_); (refine g0_ ?_; repeat (refine Elem1.mk fun e_ he_ => ?_; refine g0_ ?_))
    obtain rfl := Option.some.inj ((hb0).symm.trans he_)
    clear he_
    refine g0_ ?_
    refine g1_ ?_
    refine ⟨rfl, fun _ => done_ses2 (T := []) (nb := x0.1) (x' := x0.2) hsi ?_ rfl ?_ ho (.refl _)⟩
    · rw [hR, set_self hsi]
    · rw [set_self (by rw [List.getElem?_map, hsi]; rfl)]
  · rw [if_neg h4]
    refine acalls_of_vc (DL_ok (by decide)) Tryz.func30 rfl (by decide) (by decide) rfl ?_
    refine g0_ ?_
    refine headL_ (head_ ?_); refine g0_ ?_
    refine ⟨_, ⟨fun _ hk => ACalls.sameN hhr (lookH1 (by repeat (first | exact .here _ _ _ | apply Look.there))) hk⟩, ?_⟩
    refine g0_ ?_
    (refine g1_ ?_; repeat (refine Elem1.mk fun e_ he_ => ?_; refine g1_ ?_))
    obtain rfl := Option.some.inj ((hb0).symm.trans he_)
    clear he_
    refine g0_ ?_
    refine g1_ ?_
    refine headL_ (head_ ?_); refine g0_ ?_
    refine headL_ (head_ ?_); (refine g0_ ?_; repeat (refine Elem1.mk fun e_ he_ => ?_; refine g0_ ?_))
    obtain rfl := Option.some.inj ((hb0).symm.trans he_)
    clear he_
    refine g0_ ?_
    refine g1_ ?_
    refine Draws10.chain ⟨13, [.new, .new, .new, .new, .new, .new, .new, .new, .new, .turn, .skip, .skip, .skip], [(9, [.keep, .again, .keep, .keep, .keep, .keep, .again, .keep, .keep, .keep, .new, .new, .turn]), (12, [.keep, .keep, .keep, .keep, .keep, .keep, .keep, .keep, .keep, .keep, .keep, .keep, .keep])], by decide +kernel, ?_⟩; (refine g0_ ?_; repeat (refine Elem1.mk fun e_ he_ => ?_; refine g0_ ?_))
    first | obtain rfl := Option.some.inj (hb0.symm.trans he_) | obtain rfl := Option.some.inj ((set_at hb0 _).symm.trans he_) | obtain rfl := Option.some.inj ((set_at (set_at hb0 _) _).symm.trans he_) | obtain rfl := Option.some.inj ((set_at (set_at (set_at hb0 _) _) _).symm.trans he_)
    clear he_
    (refine g0_ ?_; repeat (refine Elem1.mk fun e_ he_ => ?_; refine g0_ ?_))
    first | obtain rfl := Option.some.inj (hb0.symm.trans he_) | obtain rfl := Option.some.inj ((set_at hb0 _).symm.trans he_) | obtain rfl := Option.some.inj ((set_at (set_at hb0 _) _).symm.trans he_) | obtain rfl := Option.some.inj ((set_at (set_at (set_at hb0 _) _) _).symm.trans he_)
    clear he_
    (refine g0_ ?_; repeat (refine Elem1.mk fun e_ he_ => ?_; refine g0_ ?_))
    first | obtain rfl := Option.some.inj (hb0.symm.trans he_) | obtain rfl := Option.some.inj ((set_at hb0 _).symm.trans he_) | obtain rfl := Option.some.inj ((set_at (set_at hb0 _) _).symm.trans he_) | obtain rfl := Option.some.inj ((set_at (set_at (set_at hb0 _) _) _).symm.trans he_)
    clear he_
    refine g0_ ?_
    refine ⟨rfl, fun _ => done_ses2 (T := []) (nb := x0.1) (x' := ⟨x0.2.name, x0.2.wins, k, x0.2.act⟩) hsi ?_ rfl rfl ho (List.Perm.swap _ _ _)⟩
    rw [List.set_set, hR, Nat.zero_add, List.map_set]
    rfl
end Go.Eng.YtmodblkagimhlaaGreatDoor
end
