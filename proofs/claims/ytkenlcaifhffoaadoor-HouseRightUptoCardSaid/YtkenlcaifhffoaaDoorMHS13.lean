/- Texts put together: Hs6, Hs7, Hs8. -/
import Derived.Test.YtkenlcaifhffoaaDoorMHS5
import Derived.Test.YtkenlcaifhffoaaDoorMHS6
import Derived.Test.YtkenlcaifhffoaaDoorMSH
/- Houses: a session in memory; the package's Window (b_ x_ q_ e_). -/
section
namespace Go.Eng.YtkenlcaifhffoaaDoor
open Go Go.Eng Go.Proofs
variable (W : World)
set_option linter.unusedSimpArgs false
set_option maxRecDepth 100000
set_option linter.unusedVariables false
set_option maxHeartbeats 8000000
theorem permAt {α : Type} : ∀ {l : List α} {i : Nat} {p : α}, l[i]? = some p → l.Perm (p :: l.eraseIdx i)
  | [], i, p, h => by simp at h
  | q :: l, 0, p, h => by
    obtain rfl := Option.some.inj h
    exact .refl _
  | q :: l, i + 1, p, h => (List.Perm.cons q (permAt (by simpa using h))).trans (.swap _ _ _)
theorem famAt {L : List (Nat × Ses)} {i : Nat} {x : Nat × Ses} (h : L[i]? = some x) : (famM 8 encWin (L.map winsP)).Perm (⟨x.1, .row 8 (x.2.wins.map encWin) 0⟩ :: famM 8 encWin ((L.map winsP).eraseIdx i)) := by
  have := (permAt (winsP_at h)).map (fun p : Nat × List Win => (⟨p.1, .row 8 (p.2.map encWin) 0⟩ : Blk))
  exact this
theorem own_permS {x : OH} (hw : ∀ p ∈ x.L, p.2.wins ≠ []) (b : Nat) (T : Mem) {i : Nat} {p : Nat × Ses} (h : x.L[i]? = some p) : (⟨b, .row 3 [x.V] 0⟩ :: (x.M ++ T)).Perm (⟨b, .row 3 [.agg [.rsl x.bs 4 0 x.L.length, vwV x.o x.views, .int .i64 x.next]] 0⟩ :: ⟨x.bs, .row 4 (x.L.map sesR) 0⟩ ::
    ⟨p.1, .row 8 (p.2.wins.map encWin) 0⟩ :: (T ++ (vwM x.o x.views ++ famM 8 encWin ((x.L.map winsP).eraseIdx i)))) := by
  have hne : x.L ≠ [] := by intro e; rw [e] at h; simp at h
  refine (own_perm hne hw b T).trans (List.Perm.cons _ (List.Perm.cons _ ?_))
  rw [List.append_nil]
  refine ((famAt h).append_left _).trans ?_
  rw [← List.append_assoc]
  exact List.perm_middle
theorem done_ses {b bs nb i : Nat} {L : List (Nat × Ses)} {x : Nat × Ses} {x' : Ses} {next : Int} {o : Option Nat} {vs : List Vw} {σ ρ : Mem} {Y : Hs} (hx : L[i]? = some x) (hσ : σ.Perm (⟨b, .row 3 [.agg [.rsl bs 4 0 L.length, vwV o vs, .int .i64 next]] 0⟩ :: ρ))
    (hY : Y = ⟨(L.map Prod.snd).set i x', vs, next⟩) (hw : wkMem ρ (⟨bs, .row 4 ((L.set i (nb, x')).map sesR) 0⟩ :: ⟨nb, .row 8 (x'.wins.map encWin) 0⟩ :: (vwM o vs ++ famM 8 encWin ((L.map winsP).eraseIdx i)))) (ho : o = none → vs = []) : HsDone b Y σ := by
  subst hY
  refine ⟨_, _, _, hσ, .inr (.inl ⟨_, _, _, _, rfl⟩), ?_, ?_, frz_vw ho fun c hc => Look.of_wk hw (List.mem_cons_of_mem _ (List.mem_cons_of_mem _ (List.mem_append_left _ (by rw [hc]; exact List.mem_singleton.2 rfl))))⟩
  · cases o with
    | none => exact .inl rfl
    | some c => exact .inr (.inl ⟨_, _, _, _, rfl⟩)
  have h3 := frz_R (σ := ρ) (bs := bs) (n := L.length) (L := L.set i (nb, x')) ?_ (by simp)
  · rw [List.map_set] at h3
    exact h3
  · obtain ⟨q1, hq1⟩ := hw
    obtain ⟨q2, hq2⟩ := wk_fam (sz := 8) (f := encWin) (winsP_at hx) nb x'.wins []
    refine ⟨q2 ++ (vwM o vs ++ q1), hq1.trans (List.Perm.cons _ ?_)⟩
    rw [List.map_set]
    have e : (⟨nb, .row 8 (x'.wins.map encWin) 0⟩ :: (vwM o vs ++ famM 8 encWin ((L.map winsP).eraseIdx i))).Perm ((⟨nb, .row 8 (x'.wins.map encWin) 0⟩ :: (famM 8 encWin ((L.map winsP).eraseIdx i) ++ [])) ++ vwM o vs) := by
      rw [List.append_nil]
      exact List.Perm.cons _ List.perm_append_comm
    refine (e.append_right q1).trans ?_
    rw [List.append_assoc]
    refine (hq2.append_right _).trans ?_
    rw [List.append_assoc]
    exact .refl _
theorem done_ses2 {b bs nb i : Nat} {L : List (Nat × Ses)} {x : Nat × Ses} {x' : Ses} {next : Int} {o : Option Nat} {vs : List Vw} {σ T : Mem} {Y : Hs} {R' W' : List PV} (hx : L[i]? = some x) (eR : R' = (L.set i (nb, x')).map sesR) (eW : W' = x'.wins.map encWin)
    (hY : Y = ⟨(L.map Prod.snd).set i x', vs, next⟩) (ho : o = none → vs = [])
    (hσ : σ.Perm (⟨b, .row 3 [.agg [.rsl bs 4 0 L.length, vwV o vs, .int .i64 next]] 0⟩ :: ⟨bs, .row 4 R' 0⟩ :: ⟨nb, .row 8 W' 0⟩ :: (T ++ (vwM o vs ++ famM 8 encWin ((L.map winsP).eraseIdx i))))) : HsDone b Y σ := by
  subst eR eW
  refine done_ses (nb := nb) hx hσ hY ⟨T, ?_⟩ ho
  exact List.Perm.cons _ (List.Perm.cons _ List.perm_append_comm)
theorem perm_turn {A B C : Blk} {M : Mem} : (A :: B :: C :: M).Perm (C :: A :: B :: M) := List.perm_middle (l₁ := [A, B])
def winE (h : Hs) (s : Int) (n : List UInt8) : Int :=
  if s < 0 then 6 else match h.ses[s.toNat]? with
  | none => 6
  | some x => if nameB n = false then 1 else if x.wins.length = 6 then 10 else if h.next = 9999 then 10 else 0
def winY (h : Hs) (s : Int) (n : List UInt8) : Hs := match h.ses[s.toNat]? with
  | none => h
  | some x => ⟨h.ses.set s.toNat ⟨x.name, x.wins ++ [winN n h.next], x.wins.length, x.act⟩, h.views, h.next + 1⟩
theorem sesR_mk (p : Nat × Ses) : sesR p = .agg [.str p.2.name, .rsl p.1 8 0 p.2.wins.length, .int .i64 p.2.act, .int .i64 p.2.bef] := rfl
theorem hwin1_ok (hT : Tabs W) (h : Hs) (hok : h.ok) (h0 : chkH h = 0) (s : Int) (n : List UInt8) (hns : n.length ≤ 1048576) (b b1 b2 : Nat) (x : OH) (hx : x.T = h) (ho : x.o = none → x.views = []) :
    ACalls Tryd.prog W 51 [.bref b 0, .bref b1 0, .bref b2 0] (⟨b, .row 3 [x.V] 0⟩ :: (x.M ++ [⟨b1, .row 1 [.int .i64 s] 0⟩, ⟨b2, .row 1 [.str n] 0⟩])) fun v σ' => v = .int .i64 (winE h s n) ∧ (winE h s n = 0 → HsDone b (winY h s n) σ') := by
  have hsr := right_win h0
  obtain ⟨hl4, -, hn1, hn2, -, -⟩ := right_ses h0
  have hnm := nameP_ok W hT n hns
  subst hx
  have hwr : ∀ p ∈ x.L, SesR x.next p.2 := fun p hp => hsr p.2 (List.mem_map.2 ⟨p, hp, rfl⟩)
  have hl4' : x.L.length ≤ 4 := by simpa [OH.T] using hl4
  have hwne : ∀ p ∈ x.L, p.2.wins ≠ [] := fun p hp h => by have := (hwr p hp).many; rw [h] at this; simp at this
  by_cases h1 : s < 0
  · rw [show winE x.T s n = 6 from if_pos h1]
    refine ACalls.perm ?_ perm_two
    refine acalls_of_vc (DL_ok (by decide)) Tryd.func51 rfl (by decide) (by decide) rfl ?_
    refine g0_ ?_
    refine headL_ (head_ ?_); refine g0_ ?_
    refine g1_ ?_
    exact ⟨rfl, fun h => by cases h⟩
  obtain ⟨i, rfl⟩ := Int.eq_ofNat_of_zero_le (show 0 ≤ s by omega)
  cases hsi : x.L[i]? with
  | none =>
    have hE : winE x.T i n = 6 := by
      unfold winE OH.T
      rw [if_neg h1, Int.toNat_natCast]
      dsimp only
      rw [show (x.L.map Prod.snd)[i]? = none by rw [List.getElem?_map, hsi]; rfl]
    rw [hE]
    refine ACalls.perm ?_ perm_two
    have hle : x.L.length ≤ i := by simpa using hsi
    obtain ⟨bs, L, o, vs, nx⟩ := x
    unfold OH.V
    dsimp only at *
    have hLm : (L.map sesV).length = L.length := List.length_map _
    rcases L with _ | ⟨l0, L⟩
    · simp only [List.length_nil] at hle
      refine acalls_of_vc (DL_ok (by decide)) Tryd.func51 rfl (by decide) (by decide) rfl ?_
      refine g0_ ?_
      refine headL_ (head_ ?_); refine g0_ ?_
      refine g1_ ?_
      exact ⟨rfl, fun h => by cases h⟩
    · simp only [List.length_cons, List.map_cons] at hle hLm
      refine acalls_of_vc (DL_ok (by decide)) Tryd.func51 rfl (by decide) (by decide) rfl ?_
      refine g0_ ?_
      refine headL_ (head_ ?_); refine g0_ ?_
      refine g1_ ?_
      exact ⟨rfl, fun h => by cases h⟩
  | some x0 =>
    refine ACalls.perm ?_ (own_permS hwne b _ hsi)
    obtain ⟨bs, L, o, vs, nx⟩ := x
    unfold OH.T winE winY at *
    dsimp only at *
    rw [Int.toNat_natCast, if_neg h1]
    rw [show (L.map Prod.snd)[i]? = some x0.2 by rw [List.getElem?_map, hsi]; rfl]
    dsimp only
    have hil := lt_of_at hsi
    have hLm : (L.map sesR).length = L.length := List.length_map _
    have hb : (L.map sesR)[i]? = some (sesR x0) := by rw [List.getElem?_map, hsi]; rfl
    have hb0 : (L.map sesR)[0 + i]? = some (sesR x0) := by rw [Nat.zero_add]; exact hb
    rw [sesR_mk] at hb hb0
    obtain ⟨R, hR⟩ : ∃ R, R = L.map sesR := ⟨_, rfl⟩
    rw [← hR] at hLm hb hb0 ⊢
    have hx0 := List.mem_of_getElem? hsi
    have hw6 := (hwr x0 hx0).many.2
    have hxm : (x0.2.wins.map encWin).length = x0.2.wins.length := List.length_map _
    by_cases h2 : nameB n = false
    · rw [if_pos h2]
      rw [h2] at hnm
      refine acalls_of_vc (DL_ok (by decide)) Tryd.func51 rfl (by decide) (by decide) rfl ?_
      refine g0_ ?_
      refine headL_ (head_ ?_); refine g0_ ?_
      refine g1_ ?_
      refine (hnm).use ?_; refine g0_ ?_
      refine g1_ ?_
      exact ⟨rfl, fun h => by cases h⟩
    have h2' : nameB n = true := by simpa using h2
    rw [h2'] at hnm
    rw [if_neg h2]
    by_cases h3 : x0.2.wins.length = 6
    · rw [if_pos h3]
      refine acalls_of_vc (DL_ok (by decide)) Tryd.func51 rfl (by decide) (by decide) rfl ?_
      refine g0_ ?_
      refine headL_ (head_ ?_); refine g0_ ?_
      refine g1_ ?_
      refine (hnm).use ?_; refine g0_ ?_
      refine g1_ ?_
      refine headL_ (head_ ?_); (refine g0_ ?_; repeat (refine Elem1.mk fun e_ he_ => ?_; refine g0_ ?_))
      obtain rfl := Option.some.inj ((hb0).symm.trans he_)
      clear he_
      refine g0_ ?_
      refine g1_ ?_
      exact ⟨rfl, fun h => by cases h⟩
    rw [if_neg h3]
    by_cases h4 : nx = 9999
    · rw [if_pos h4]
      subst h4
      refine acalls_of_vc (DL_ok (by decide)) Tryd.func51 rfl (by decide) (by decide) rfl ?_
      refine g0_ ?_
      refine headL_ (head_ ?_); refine g0_ ?_
      refine g1_ ?_
      refine (hnm).use ?_; refine g0_ ?_
      refine g1_ ?_
      refine headL_ (head_ ?_); (refine g0_ ?_; repeat (refine Elem1.mk fun e_ he_ => ?_; refine g0_ ?_))
      obtain rfl := Option.some.inj ((hb0).symm.trans he_)
      clear he_
      refine g0_ ?_
      refine g1_ ?_
      refine ACalls.lend1 (freshH_full W b _ _) lk_ ?_
      rintro _ -
      refine g0_ ?_
      refine g1_ ?_
      have hwn := windowP_ok W n 0
      rw [show encWin (winN n 0) = .agg [.str n, .int .i64 0, .int .i64 0, .int .i64 1, .sl 4 [], .int .i64 0, .int .i64 0, .bool false] from rfl] at hwn
      refine Draws10.chain ⟨13, [.new, .new, .new, .new, .new, .new, .new, .new, .new, .turn, .skip, .skip, .skip], [(9, [.again, .keep, .keep, .keep, .keep, .keep, .keep, .keep, .keep, .keep, .new, .new, .turn]), (12, [.keep, .keep, .keep, .keep, .keep, .keep, .keep, .keep, .keep, .keep, .keep, .keep, .keep])], by decide +kernel, ?_⟩; (refine g0_ ?_; repeat (refine Elem1.mk fun e_ he_ => ?_; refine g0_ ?_))
      obtain rfl := Option.some.inj ((hb0).symm.trans he_)
      clear he_
      refine g0_ ?_
      refine ⟨_, (hwn).quiet, ?_⟩; (refine g0_ ?_; repeat ((first | refine n2_ fun b_ => ?_ | refine Elem1.mk fun e_ he_ => ?_); refine g0_ ?_))
      first | obtain rfl := Option.some.inj (hb0.symm.trans he_) | obtain rfl := Option.some.inj ((set_at hb0 _).symm.trans he_) | obtain rfl := Option.some.inj ((set_at (set_at hb0 _) _).symm.trans he_) | obtain rfl := Option.some.inj ((set_at (set_at (set_at hb0 _) _) _).symm.trans he_)
      clear he_
      refine g0_ ?_
      rw [show ∀ v : PV, x0.2.wins.length + [v].length = x0.2.wins.length + 1 from fun v => rfl]
      refine Draws10.chain ⟨18, [.new, .new, .new, .new, .new, .new, .new, .new, .new, .new, .new, .new, .new, .new, .turn, .skip, .skip, .skip], [(14, [.keep, .again, .keep, .keep, .keep, .keep, .keep, .keep, .keep, .keep, .again, .again, .keep, .keep, .keep, .new, .new, .turn]), (17, [.keep, .keep, .keep, .keep, .keep, .keep, .keep, .keep, .keep, .keep, .keep, .keep, .keep, .keep, .keep, .keep, .keep, .keep])], by decide +kernel, ?_⟩; (refine g0_ ?_; repeat (refine Elem1.mk fun e_ he_ => ?_; refine g0_ ?_))
      first | obtain rfl := Option.some.inj (hb0.symm.trans he_) | obtain rfl := Option.some.inj ((set_at hb0 _).symm.trans he_) | obtain rfl := Option.some.inj ((set_at (set_at hb0 _) _).symm.trans he_) | obtain rfl := Option.some.inj ((set_at (set_at (set_at hb0 _) _) _).symm.trans he_)
      clear he_
      (refine g0_ ?_; repeat (refine Elem1.mk fun e_ he_ => ?_; refine g0_ ?_))
      first | obtain rfl := Option.some.inj (hb0.symm.trans he_) | obtain rfl := Option.some.inj ((set_at hb0 _).symm.trans he_) | obtain rfl := Option.some.inj ((set_at (set_at hb0 _) _).symm.trans he_) | obtain rfl := Option.some.inj ((set_at (set_at (set_at hb0 _) _) _).symm.trans he_)
      clear he_
      (refine g0_ ?_; repeat (refine Elem1.mk fun e_ he_ => ?_; refine g0_ ?_))
      first | obtain rfl := Option.some.inj (hb0.symm.trans he_) | obtain rfl := Option.some.inj ((set_at hb0 _).symm.trans he_) | obtain rfl := Option.some.inj ((set_at (set_at hb0 _) _).symm.trans he_) | obtain rfl := Option.some.inj ((set_at (set_at (set_at hb0 _) _) _).symm.trans he_)
      clear he_
      (refine g0_ ?_; repeat (refine Elem1.mk fun e_ he_ => ?_; refine g0_ ?_))
      first | obtain rfl := Option.some.inj (hb0.symm.trans he_) | obtain rfl := Option.some.inj ((set_at hb0 _).symm.trans he_) | obtain rfl := Option.some.inj ((set_at (set_at hb0 _) _).symm.trans he_) | obtain rfl := Option.some.inj ((set_at (set_at (set_at hb0 _) _) _).symm.trans he_)
      clear he_
      refine g0_ ?_
      exact ⟨rfl, fun h => by cases h⟩
    rw [if_neg h4]
    refine acalls_of_vc (DL_ok (by decide)) Tryd.func51 rfl (by decide) (by decide) rfl ?_
    refine g0_ ?_
    refine headL_ (head_ ?_); refine g0_ ?_
    refine g1_ ?_
    refine (hnm).use ?_; refine g0_ ?_
    refine g1_ ?_
    refine headL_ (head_ ?_); (refine g0_ ?_; repeat (refine Elem1.mk fun e_ he_ => ?_; refine g0_ ?_))
    obtain rfl := Option.some.inj ((hb0).symm.trans he_)
    clear he_
    refine g0_ ?_
    refine g1_ ?_
    refine ACalls.lend1 (freshH_ok W b _ _ nx (by omega)) lk_ ?_
    rintro _ -
    refine g0_ ?_
    refine g1_ ?_
    have hwn := windowP_ok W n nx
    rw [show encWin (winN n nx) = .agg [.str n, .int .i64 0, .int .i64 nx, .int .i64 1, .sl 4 [], .int .i64 nx, .int .i64 0, .bool false] from rfl] at hwn
    refine Draws10.chain ⟨13, [.new, .new, .new, .new, .new, .new, .new, .new, .new, .turn, .skip, .skip, .skip], [(9, [.again, .keep, .keep, .keep, .keep, .keep, .keep, .keep, .keep, .keep, .new, .new, .turn]), (12, [.keep, .keep, .keep, .keep, .keep, .keep, .keep, .keep, .keep, .keep, .keep, .keep, .keep])], by decide +kernel, ?_⟩; (refine g0_ ?_; repeat (refine Elem1.mk fun e_ he_ => ?_; refine g0_ ?_))
    obtain rfl := Option.some.inj ((hb0).symm.trans he_)
    clear he_
    refine g0_ ?_
    refine ⟨_, (hwn).quiet, ?_⟩; (refine g0_ ?_; repeat ((first | refine n2_ fun b_ => ?_ | refine Elem1.mk fun e_ he_ => ?_); refine g0_ ?_))
    first | obtain rfl := Option.some.inj (hb0.symm.trans he_) | obtain rfl := Option.some.inj ((set_at hb0 _).symm.trans he_) | obtain rfl := Option.some.inj ((set_at (set_at hb0 _) _).symm.trans he_) | obtain rfl := Option.some.inj ((set_at (set_at (set_at hb0 _) _) _).symm.trans he_)
    clear he_
    refine g0_ ?_
    rw [show ∀ v : PV, x0.2.wins.length + [v].length = x0.2.wins.length + 1 from fun v => rfl]
    refine Draws10.chain ⟨18, [.new, .new, .new, .new, .new, .new, .new, .new, .new, .new, .new, .new, .new, .new, .turn, .skip, .skip, .skip], [(14, [.keep, .again, .keep, .keep, .keep, .keep, .keep, .keep, .keep, .keep, .again, .again, .keep, .keep, .keep, .new, .new, .turn]), (17, [.keep, .keep, .keep, .keep, .keep, .keep, .keep, .keep, .keep, .keep, .keep, .keep, .keep, .keep, .keep, .keep, .keep, .keep])], by decide +kernel, ?_⟩; (refine g0_ ?_; repeat (refine Elem1.mk fun e_ he_ => ?_; refine g0_ ?_))
    first | obtain rfl := Option.some.inj (hb0.symm.trans he_) | obtain rfl := Option.some.inj ((set_at hb0 _).symm.trans he_) | obtain rfl := Option.some.inj ((set_at (set_at hb0 _) _).symm.trans he_) | obtain rfl := Option.some.inj ((set_at (set_at (set_at hb0 _) _) _).symm.trans he_)
    clear he_
    (refine g0_ ?_; repeat (refine Elem1.mk fun e_ he_ => ?_; refine g0_ ?_))
    first | obtain rfl := Option.some.inj (hb0.symm.trans he_) | obtain rfl := Option.some.inj ((set_at hb0 _).symm.trans he_) | obtain rfl := Option.some.inj ((set_at (set_at hb0 _) _).symm.trans he_) | obtain rfl := Option.some.inj ((set_at (set_at (set_at hb0 _) _) _).symm.trans he_)
    clear he_
    (refine g0_ ?_; repeat (refine Elem1.mk fun e_ he_ => ?_; refine g0_ ?_))
    first | obtain rfl := Option.some.inj (hb0.symm.trans he_) | obtain rfl := Option.some.inj ((set_at hb0 _).symm.trans he_) | obtain rfl := Option.some.inj ((set_at (set_at hb0 _) _).symm.trans he_) | obtain rfl := Option.some.inj ((set_at (set_at (set_at hb0 _) _) _).symm.trans he_)
    clear he_
    (refine g0_ ?_; repeat (refine Elem1.mk fun e_ he_ => ?_; refine g0_ ?_))
    first | obtain rfl := Option.some.inj (hb0.symm.trans he_) | obtain rfl := Option.some.inj ((set_at hb0 _).symm.trans he_) | obtain rfl := Option.some.inj ((set_at (set_at hb0 _) _).symm.trans he_) | obtain rfl := Option.some.inj ((set_at (set_at (set_at hb0 _) _) _).symm.trans he_)
    clear he_
    refine g0_ ?_
    refine ⟨rfl, fun _ => done_ses2 (nb := b_) (x' := ⟨x0.2.name, x0.2.wins ++ [winN n nx], x0.2.wins.length, x0.2.act⟩) hsi ?_ ?_ rfl ho perm_turn⟩
    · rw [List.set_set, List.set_set, hR, Nat.zero_add, List.map_set]
      simp only [sesR_mk, List.length_append, List.length_singleton]
      rw [show ((x0.2.wins.length + 1 : Nat) : Int) - 1 = x0.2.wins.length by omega]
      rfl
    · rw [List.map_append]
      rfl
end Go.Eng.YtkenlcaifhffoaaDoor
end

/- Houses: the package's Show; Window and Show as calls (b_ x_ q_ e_). -/
section
namespace Go.Eng.YtkenlcaifhffoaaDoor
open Go Go.Eng Go.Proofs
variable (W : World)
set_option linter.unusedSimpArgs false
set_option maxRecDepth 100000
set_option linter.unusedVariables false
set_option maxHeartbeats 8000000
def showE (h : Hs) (s k : Int) : Int :=
  if s < 0 then 6 else match h.ses[s.toNat]? with
  | none => 6
  | some x => if k < 0 then 6 else if (x.wins.length : Int) ≤ k then 6 else 0
def showY (h : Hs) (s k : Int) : Hs := match h.ses[s.toNat]? with
  | none => h
  | some x => if x.act = k then h else ⟨h.ses.set s.toNat ⟨x.name, x.wins, k, x.act⟩, h.views, h.next⟩
theorem hshow1_ok (h : Hs) (hok : h.ok) (h0 : chkH h = 0) (s k : Int) (b b1 b2 : Nat) (x : OH) (hx : x.T = h) (ho : x.o = none → x.views = []) :
    ACalls Tryd.prog W 53 [.bref b 0, .bref b1 0, .bref b2 0] (⟨b, .row 3 [x.V] 0⟩ :: (x.M ++ [⟨b1, .row 1 [.int .i64 s] 0⟩, ⟨b2, .row 1 [.int .i64 k] 0⟩])) fun v σ' => v = .int .i64 (showE h s k) ∧ (showE h s k = 0 → HsDone b (showY h s k) σ') := by
  have hsr := right_win h0
  obtain ⟨hl4, -, hn1, hn2, -, -⟩ := right_ses h0
  subst hx
  have hwr : ∀ p ∈ x.L, SesR x.next p.2 := fun p hp => hsr p.2 (List.mem_map.2 ⟨p, hp, rfl⟩)
  have hl4' : x.L.length ≤ 4 := by simpa [OH.T] using hl4
  have hwne : ∀ p ∈ x.L, p.2.wins ≠ [] := fun p hp h => by have := (hwr p hp).many; rw [h] at this; simp at this
  by_cases h1 : s < 0
  · rw [show showE x.T s k = 6 from if_pos h1]
    refine ACalls.perm ?_ perm_two
    refine acalls_of_vc (DL_ok (by decide)) Tryd.func53 rfl (by decide) (by decide) rfl ?_
    refine g0_ ?_
    refine headL_ (head_ ?_); refine g0_ ?_
    refine g1_ ?_
    exact ⟨rfl, fun h => by cases h⟩
  obtain ⟨i, rfl⟩ := Int.eq_ofNat_of_zero_le (show 0 ≤ s by omega)
  cases hsi : x.L[i]? with
  | none =>
    have hE : showE x.T i k = 6 := by
      unfold showE OH.T
      rw [if_neg h1, Int.toNat_natCast]
      dsimp only
      rw [show (x.L.map Prod.snd)[i]? = none by rw [List.getElem?_map, hsi]; rfl]
    rw [hE]
    refine ACalls.perm ?_ perm_two
    have hle : x.L.length ≤ i := by simpa using hsi
    obtain ⟨bs, L, o, vs, nx⟩ := x
    unfold OH.V
    dsimp only at *
    have hLm : (L.map sesV).length = L.length := List.length_map _
    rcases L with _ | ⟨l0, L⟩
    · simp only [List.length_nil] at hle
      refine acalls_of_vc (DL_ok (by decide)) Tryd.func53 rfl (by decide) (by decide) rfl ?_
      refine g0_ ?_
      refine headL_ (head_ ?_); refine g0_ ?_
      refine g1_ ?_
      exact ⟨rfl, fun h => by cases h⟩
    · simp only [List.length_cons, List.map_cons] at hle hLm
      refine acalls_of_vc (DL_ok (by decide)) Tryd.func53 rfl (by decide) (by decide) rfl ?_
      refine g0_ ?_
      refine headL_ (head_ ?_); refine g0_ ?_
      refine g1_ ?_
      exact ⟨rfl, fun h => by cases h⟩
  | some x0 =>
    refine ACalls.perm ?_ (own_permS hwne b _ hsi)
    obtain ⟨bs, L, o, vs, nx⟩ := x
    unfold OH.T showE showY at *
    dsimp only at *
    rw [Int.toNat_natCast, if_neg h1]
    rw [show (L.map Prod.snd)[i]? = some x0.2 by rw [List.getElem?_map, hsi]; rfl]
    dsimp only
    have hil := lt_of_at hsi
    have hLm : (L.map sesR).length = L.length := List.length_map _
    have hb0 : (L.map sesR)[0 + i]? = some (sesR x0) := by rw [Nat.zero_add, List.getElem?_map, hsi]; rfl
    rw [sesR_mk] at hb0
    obtain ⟨R, hR⟩ : ∃ R, R = L.map sesR := ⟨_, rfl⟩
    rw [← hR] at hLm hb0 ⊢
    have hx0 := List.mem_of_getElem? hsi
    have hw6 := (hwr x0 hx0).many.2
    have hxm : (x0.2.wins.map encWin).length = x0.2.wins.length := List.length_map _
    by_cases h2 : k < 0
    · rw [if_pos h2]
      refine acalls_of_vc (DL_ok (by decide)) Tryd.func53 rfl (by decide) (by decide) rfl ?_
      refine g0_ ?_
      refine headL_ (head_ ?_); refine g0_ ?_
      refine g1_ ?_
      exact ⟨rfl, fun h => by cases h⟩
    rw [if_neg h2]
    by_cases h3 : (x0.2.wins.length : Int) ≤ k
    · rw [if_pos h3]
      refine acalls_of_vc (DL_ok (by decide)) Tryd.func53 rfl (by decide) (by decide) rfl ?_
      refine g0_ ?_
      refine headL_ (head_ ?_); refine g0_ ?_
      (refine g1_ ?_; repeat (refine Elem1.mk fun e_ he_ => ?_; refine g1_ ?_))
      obtain rfl := Option.some.inj ((hb0).symm.trans he_)
      clear he_
      refine g0_ ?_
      refine g1_ ?_
      exact ⟨rfl, fun h => by cases h⟩
    rw [if_neg h3]
    by_cases h4 : x0.2.act = k
    · rw [if_pos h4]
      refine acalls_of_vc (DL_ok (by decide)) Tryd.func53 rfl (by decide) (by decide) rfl ?_
      refine g0_ ?_
      refine headL_ (head_ ?_); refine g0_ ?_
      (refine g1_ ?_; repeat (refine Elem1.mk fun e_ he_ => ?_; refine g1_ ?_))
      obtain rfl := Option.some.inj ((hb0).symm.trans he_)
      clear he_
      refine g0_ ?_
      refine g1_ ?_
      refine headL_ (head_ ?_); refine g0_ ?_
      refine headL_ (head_ ?_); (refine g0_ ?_; repeat (refine Elem1.mk fun e_ he_ => ?_; refine g0_ ?_))
      obtain rfl := Option.some.inj ((hb0).symm.trans he_)
      clear he_
      refine g0_ ?_
      refine g1_ ?_
      refine ⟨rfl, fun _ => done_ses2 (nb := x0.1) (x' := x0.2) hsi ?_ rfl ?_ ho (.refl _)⟩
      · rw [hR, set_self hsi]
      · rw [set_self (by rw [List.getElem?_map, hsi]; rfl)]
    · rw [if_neg h4]
      refine acalls_of_vc (DL_ok (by decide)) Tryd.func53 rfl (by decide) (by decide) rfl ?_
      refine g0_ ?_
      refine headL_ (head_ ?_); refine g0_ ?_
      (refine g1_ ?_; repeat (refine Elem1.mk fun e_ he_ => ?_; refine g1_ ?_))
      obtain rfl := Option.some.inj ((hb0).symm.trans he_)
      clear he_
      refine g0_ ?_
      refine g1_ ?_
      refine headL_ (head_ ?_); refine g0_ ?_
      refine headL_ (head_ ?_); (refine g0_ ?_; repeat (refine Elem1.mk fun e_ he_ => ?_; refine g0_ ?_))
      obtain rfl := Option.some.inj ((hb0).symm.trans he_)
      clear he_
      refine g0_ ?_
      refine g1_ ?_
      refine Draws10.chain ⟨13, [.new, .new, .new, .new, .new, .new, .new, .new, .new, .turn, .skip, .skip, .skip], [(9, [.keep, .again, .keep, .keep, .keep, .keep, .again, .keep, .keep, .keep, .new, .new, .turn]), (12, [.keep, .keep, .keep, .keep, .keep, .keep, .keep, .keep, .keep, .keep, .keep, .keep, .keep])], by decide +kernel, ?_⟩; (refine g0_ ?_; repeat (refine Elem1.mk fun e_ he_ => ?_; refine g0_ ?_))
      first | obtain rfl := Option.some.inj (hb0.symm.trans he_) | obtain rfl := Option.some.inj ((set_at hb0 _).symm.trans he_) | obtain rfl := Option.some.inj ((set_at (set_at hb0 _) _).symm.trans he_)
      clear he_
      (refine g0_ ?_; repeat (refine Elem1.mk fun e_ he_ => ?_; refine g0_ ?_))
      first | obtain rfl := Option.some.inj (hb0.symm.trans he_) | obtain rfl := Option.some.inj ((set_at hb0 _).symm.trans he_) | obtain rfl := Option.some.inj ((set_at (set_at hb0 _) _).symm.trans he_)
      clear he_
      (refine g0_ ?_; repeat (refine Elem1.mk fun e_ he_ => ?_; refine g0_ ?_))
      first | obtain rfl := Option.some.inj (hb0.symm.trans he_) | obtain rfl := Option.some.inj ((set_at hb0 _).symm.trans he_) | obtain rfl := Option.some.inj ((set_at (set_at hb0 _) _).symm.trans he_)
      clear he_
      refine g0_ ?_
      refine ⟨rfl, fun _ => done_ses2 (nb := x0.1) (x' := ⟨x0.2.name, x0.2.wins, k, x0.2.act⟩) hsi ?_ rfl rfl ho (List.Perm.swap _ _ _)⟩
      rw [List.set_set, hR, Nat.zero_add, List.map_set]
      rfl
theorem hwinP_ok (hT : Tabs W) (h : Hs) (hok : h.ok) (s : Int) (n : List UInt8) (hns : n.length ≤ 1048576) :
    Pure Tryd.prog W 15 [encHs h, .int .i64 s, .str n] (.tup [encHs (chgR h (winE h s n) (winY h s n)).1, .int .i64 (chgR h (winE h s n) (winY h s n)).2]) := by
  have hg := fun h0 b b1 b2 x hx ho => hwin1_ok W hT h hok h0 s n hns b b1 b2 x hx ho
  generalize winE h s n = E at *
  generalize winY h s n = Y at *
  by_cases h0 : chkH h = 0
  · have hg := hg h0
    have hc := fun cap τ hg => changeH_ok W hT h hok h0 51 cap τ E Y hg
    unfold chgR
    rw [if_neg (by simpa using h0)]
    by_cases hE : E = 0
    · rw [if_pos hE, ← hE]
      rw [if_pos hE] at hc
      dsimp only
      rw [encHs_mk h] at *
      rw [encHs_mk Y] at *
      refine Pure.of (acalls_of_vc (drawOk W) Tryd.func15 rfl (by decide) (by decide) rfl ?_)
      (refine g0_ ?_; repeat (refine n1_ fun b_ => ?_; refine g0_ ?_))
      refine ACalls.lendF (hc _ _ (fun b x hx ho => hg b _ _ x hx ho)) (lookH2 lk_ lk_) ?_
      refine g0_ ?_
      exact .refl _
    · rw [if_neg hE]
      rw [if_neg hE] at hc
      dsimp only
      rw [encHs_mk h] at *
      rw [encHs_mk noHs] at *
      refine Pure.of (acalls_of_vc (drawOk W) Tryd.func15 rfl (by decide) (by decide) rfl ?_)
      (refine g0_ ?_; repeat (refine n1_ fun b_ => ?_; refine g0_ ?_))
      refine ACalls.lendF (hc _ _ (fun b x hx ho => hg b _ _ x hx ho)) (lookH2 lk_ lk_) ?_
      refine g0_ ?_
      exact .refl _
  · have hc := fun cap => changeH_bad W hT h hok h0 51 cap
    unfold chgR
    rw [if_pos h0]
    dsimp only
    generalize chkH h = C at *
    rw [encHs_mk h, encHs_mk noHs] at *
    refine Pure.of (acalls_of_vc (drawOk W) Tryd.func15 rfl (by decide) (by decide) rfl ?_)
    (refine g0_ ?_; repeat (refine n1_ fun b_ => ?_; refine g0_ ?_))
    refine (hc _).use ?_; refine g0_ ?_
    exact .refl _
theorem hshowP_ok (hT : Tabs W) (h : Hs) (hok : h.ok) (s k : Int) :
    Pure Tryd.prog W 16 [encHs h, .int .i64 s, .int .i64 k] (.tup [encHs (chgR h (showE h s k) (showY h s k)).1, .int .i64 (chgR h (showE h s k) (showY h s k)).2]) := by
  have hg := fun h0 b b1 b2 x hx ho => hshow1_ok W h hok h0 s k b b1 b2 x hx ho
  generalize showE h s k = E at *
  generalize showY h s k = Y at *
  by_cases h0 : chkH h = 0
  · have hg := hg h0
    have hc := fun cap τ hg => changeH_ok W hT h hok h0 53 cap τ E Y hg
    unfold chgR
    rw [if_neg (by simpa using h0)]
    by_cases hE : E = 0
    · rw [if_pos hE, ← hE]
      rw [if_pos hE] at hc
      dsimp only
      rw [encHs_mk h] at *
      rw [encHs_mk Y] at *
      refine Pure.of (acalls_of_vc (drawOk W) Tryd.func16 rfl (by decide) (by decide) rfl ?_)
      (refine g0_ ?_; repeat (refine n1_ fun b_ => ?_; refine g0_ ?_))
      refine ACalls.lendF (hc _ _ (fun b x hx ho => hg b _ _ x hx ho)) (lookH2 lk_ lk_) ?_
      refine g0_ ?_
      exact .refl _
    · rw [if_neg hE]
      rw [if_neg hE] at hc
      dsimp only
      rw [encHs_mk h] at *
      rw [encHs_mk noHs] at *
      refine Pure.of (acalls_of_vc (drawOk W) Tryd.func16 rfl (by decide) (by decide) rfl ?_)
      (refine g0_ ?_; repeat (refine n1_ fun b_ => ?_; refine g0_ ?_))
      refine ACalls.lendF (hc _ _ (fun b x hx ho => hg b _ _ x hx ho)) (lookH2 lk_ lk_) ?_
      refine g0_ ?_
      exact .refl _
  · have hc := fun cap => changeH_bad W hT h hok h0 53 cap
    unfold chgR
    rw [if_pos h0]
    dsimp only
    generalize chkH h = C at *
    rw [encHs_mk h, encHs_mk noHs] at *
    refine Pure.of (acalls_of_vc (drawOk W) Tryd.func16 rfl (by decide) (by decide) rfl ?_)
    (refine g0_ ?_; repeat (refine n1_ fun b_ => ?_; refine g0_ ?_))
    refine (hc _).use ?_; refine g0_ ?_
    exact .refl _
end Go.Eng.YtkenlcaifhffoaaDoor
end

/- A pointer to a closure, read out for a call. -/
section
namespace Go.Eng
open Go
variable {P : Program} {W : World}
def FrzS (σ : Mem) (p p' : PV) : Prop := ∀ (K : Kn) (w : World), SatM K σ w → ∀ v, VRel K w p v → VRel (allK K σ) w p' v
theorem FrzS.of {σ : Mem} {p p' : PV} (h : Frz σ p p') : FrzS σ p p' := fun _ _ hm v hv => frz_sound hm h v hv
theorem FrzS.fn {σ : Mem} (f : FuncId) {cs cs' : List PV} (hl : cs.length = cs'.length) (h : ∀ j, j < cs.length → FrzS σ (cs.getD j .dead) (cs'.getD j .dead)) : FrzS σ (.fn f cs) (.fn f cs') := by
  intro K w hm v hv
  cases hv
  rename_i vs hl' hr
  exact .fn _ _ _ (hl ▸ hl') (fun i hi => h i (hl ▸ hi) K w hm _ (hr i (hl ▸ hi)))
theorem FrzS.deep {σ r : Mem} {b f fz : Nat} {e e' : PV} (hl : Look σ b (.row 1 [e] fz) r) (h : FrzS σ e e') (h1 : e.flat = [e]) (h2 : e'.flat = [e']) : FrzS σ (.bref b f) (.ip e' f) := by
  intro K w hm v hv
  cases hv
  have hro : RowOk K w b 1 [e] fz := hm.blk _ hl.mem
  obtain ⟨cs, ty, g1, g2, g3⟩ := hro.cells
  simp only [List.length_cons, List.length_nil, Nat.zero_add, Nat.one_mul] at g2
  have := VRel.ip (K := allK K σ) (w := w) e' f b 0 (fun j => cs.getD j undef) (fun j hj => by
    rw [h2] at hj
    simp only [List.length_cons, List.length_nil] at hj
    have hlt : 0 + j < cs.size := by omega
    exact ⟨.inr ⟨1, [e], fz, hl.mem, by simp; omega⟩, by simp [World.cell?, g1, show j < cs.size by omega, Array.getD]⟩) (fun j hj => by
    rw [h2] at hj ⊢
    simp only [List.length_cons, List.length_nil] at hj
    obtain rfl : j = 0 := by omega
    have := g3 0 0 (by simp) (by omega)
    simp only [List.getD_cons_zero, Nat.zero_mul, Nat.zero_add] at this
    rw [h1] at this
    exact h K w hm _ (by simpa using this))
  rwa [Nat.zero_add] at this
end Go.Eng
end
