/- Texts put together: Hs4, Hs5. -/
import Derived.Test.YtkenlcaifhffoaaDoorMHS9
/- Houses: a viewer more: the package's Look, the law's (b_ x_ q_ e_). -/
section
namespace Go.Eng.YtkenlcaifhffoaaDoor
open Go Go.Eng Go.Proofs
variable (W : World)
set_option linter.unusedSimpArgs false
set_option maxRecDepth 100000
set_option linter.unusedVariables false
set_option maxHeartbeats 16000000
def lookE (h : Hs) (s w t : Int) : Int :=
  if s < 0 then 6 else if (h.ses.length : Int) ≤ s then 6 else if w < 1 then 3 else if 120 < w then 3 else if t < 1 then 3 else if 60 < t then 3 else if h.views.length = 4 then 10 else 0
def lookY (h : Hs) (s w t : Int) : Hs := ⟨h.ses, h.views ++ [⟨s, w, t⟩], h.next⟩
theorem perm_three {A B C D : Blk} {M : Mem} : (A :: (M ++ [B, C, D])).Perm (A :: B :: C :: D :: M) := List.Perm.cons A (List.perm_append_comm (l₁ := M) (l₂ := [B, C, D]))
theorem hlook1_ok (h : Hs) (hl4 : h.ses.length ≤ 4) (hv4 : h.views.length ≤ 4) (s w t : Int) (b b1 b2 b3 : Nat) (x : OH) (hx : x.T = h) (ho : x.o = none → x.views = []) :
    ACalls Tryd.prog W 54 [.bref b 0, .bref b1 0, .bref b2 0, .bref b3 0] (⟨b, .row 3 [x.V] 0⟩ :: (x.M ++ [⟨b1, .row 1 [.int .i64 s] 0⟩, ⟨b2, .row 1 [.int .i64 w] 0⟩, ⟨b3, .row 1 [.int .i64 t] 0⟩])) fun v σ' => v = .int .i64 (lookE h s w t) ∧ (lookE h s w t = 0 → HsDone b (lookY h s w t) σ') := by
  obtain ⟨bs, L, o, vs, nx⟩ := x
  subst hx
  have hlL : L.length ≤ 4 := by simpa [OH.T] using hl4
  have hvL : vs.length ≤ 4 := hv4
  clear hl4 hv4
  refine ACalls.perm ?_ perm_three
  unfold OH.V OH.M OH.T
  dsimp only at *
  have hvm : (List.map encVw vs).length = vs.length := List.length_map _
  rcases L with _ | ⟨l0, L⟩
  · rcases o with _ | bo
    · generalize hE : lookE ⟨(([] : List (Nat × Ses))).map Prod.snd, vs, nx⟩ s w t = E
      try have hlc : (l0 :: L).length = L.length + 1 := rfl
      by_cases h1 : s < 0
      · obtain rfl : E = 6 := by
          rw [← hE]
          unfold lookE
          dsimp only
          simp only [List.length_map, List.length_cons, List.length_nil]
          repeat' split
          all_goals first | rfl | (exfalso; omega)
        refine acalls_of_vc (DL_ok (by decide)) Tryd.func54 rfl (by decide) (by decide) rfl ?_
        refine g0_ ?_
        refine headL_ (head_ ?_); refine g0_ ?_
        refine g1_ ?_
        exact ⟨rfl, fun h => by cases h⟩
      by_cases h2 : ((([] : List (Nat × Ses))).length : Int) ≤ s
      · obtain rfl : E = 6 := by
          rw [← hE]
          unfold lookE
          dsimp only
          simp only [List.length_map, List.length_cons, List.length_nil]
          repeat' split
          all_goals first | rfl | (exfalso; omega)
        refine acalls_of_vc (DL_ok (by decide)) Tryd.func54 rfl (by decide) (by decide) rfl ?_
        refine g0_ ?_
        refine headL_ (head_ ?_); refine g0_ ?_
        refine g1_ ?_
        exact ⟨rfl, fun h => by cases h⟩
      exfalso
      simp only [List.length_nil] at h2
      omega
    · generalize hE : lookE ⟨(([] : List (Nat × Ses))).map Prod.snd, vs, nx⟩ s w t = E
      try have hlc : (l0 :: L).length = L.length + 1 := rfl
      by_cases h1 : s < 0
      · obtain rfl : E = 6 := by
          rw [← hE]
          unfold lookE
          dsimp only
          simp only [List.length_map, List.length_cons, List.length_nil]
          repeat' split
          all_goals first | rfl | (exfalso; omega)
        refine acalls_of_vc (DL_ok (by decide)) Tryd.func54 rfl (by decide) (by decide) rfl ?_
        refine g0_ ?_
        refine headL_ (head_ ?_); refine g0_ ?_
        refine g1_ ?_
        exact ⟨rfl, fun h => by cases h⟩
      by_cases h2 : ((([] : List (Nat × Ses))).length : Int) ≤ s
      · obtain rfl : E = 6 := by
          rw [← hE]
          unfold lookE
          dsimp only
          simp only [List.length_map, List.length_cons, List.length_nil]
          repeat' split
          all_goals first | rfl | (exfalso; omega)
        refine acalls_of_vc (DL_ok (by decide)) Tryd.func54 rfl (by decide) (by decide) rfl ?_
        refine g0_ ?_
        refine headL_ (head_ ?_); refine g0_ ?_
        refine g1_ ?_
        exact ⟨rfl, fun h => by cases h⟩
      exfalso
      simp only [List.length_nil] at h2
      omega
  · have hLm : (List.map sesV L).length = L.length := List.length_map _
    have hlL2 : L.length ≤ 3 := by simpa using hlL
    rcases o with _ | bo
    · generalize hE : lookE ⟨((l0 :: L)).map Prod.snd, vs, nx⟩ s w t = E
      try have hlc : (l0 :: L).length = L.length + 1 := rfl
      by_cases h1 : s < 0
      · obtain rfl : E = 6 := by
          rw [← hE]
          unfold lookE
          dsimp only
          simp only [List.length_map, List.length_cons, List.length_nil]
          repeat' split
          all_goals first | rfl | (exfalso; omega)
        refine acalls_of_vc (DL_ok (by decide)) Tryd.func54 rfl (by decide) (by decide) rfl ?_
        refine g0_ ?_
        refine headL_ (head_ ?_); refine g0_ ?_
        refine g1_ ?_
        exact ⟨rfl, fun h => by cases h⟩
      by_cases h2 : (((l0 :: L)).length : Int) ≤ s
      · obtain rfl : E = 6 := by
          rw [← hE]
          unfold lookE
          dsimp only
          simp only [List.length_map, List.length_cons, List.length_nil]
          repeat' split
          all_goals first | rfl | (exfalso; omega)
        refine acalls_of_vc (DL_ok (by decide)) Tryd.func54 rfl (by decide) (by decide) rfl ?_
        refine g0_ ?_
        refine headL_ (head_ ?_); refine g0_ ?_
        refine g1_ ?_
        exact ⟨rfl, fun h => by cases h⟩
      by_cases h3 : w < 1
      · obtain rfl : E = 3 := by
          rw [← hE]
          unfold lookE
          dsimp only
          simp only [List.length_map, List.length_cons, List.length_nil]
          repeat' split
          all_goals first | rfl | (exfalso; omega)
        refine acalls_of_vc (DL_ok (by decide)) Tryd.func54 rfl (by decide) (by decide) rfl ?_
        refine g0_ ?_
        refine headL_ (head_ ?_); refine g0_ ?_
        refine g1_ ?_

        exact ⟨rfl, fun h => by cases h⟩
      by_cases h4 : 120 < w
      · obtain rfl : E = 3 := by
          rw [← hE]
          unfold lookE
          dsimp only
          simp only [List.length_map, List.length_cons, List.length_nil]
          repeat' split
          all_goals first | rfl | (exfalso; omega)
        refine acalls_of_vc (DL_ok (by decide)) Tryd.func54 rfl (by decide) (by decide) rfl ?_
        refine g0_ ?_
        refine headL_ (head_ ?_); refine g0_ ?_
        refine g1_ ?_

        exact ⟨rfl, fun h => by cases h⟩
      by_cases h5 : t < 1
      · obtain rfl : E = 3 := by
          rw [← hE]
          unfold lookE
          dsimp only
          simp only [List.length_map, List.length_cons, List.length_nil]
          repeat' split
          all_goals first | rfl | (exfalso; omega)
        refine acalls_of_vc (DL_ok (by decide)) Tryd.func54 rfl (by decide) (by decide) rfl ?_
        refine g0_ ?_
        refine headL_ (head_ ?_); refine g0_ ?_
        refine g1_ ?_

        exact ⟨rfl, fun h => by cases h⟩
      by_cases h6 : 60 < t
      · obtain rfl : E = 3 := by
          rw [← hE]
          unfold lookE
          dsimp only
          simp only [List.length_map, List.length_cons, List.length_nil]
          repeat' split
          all_goals first | rfl | (exfalso; omega)
        refine acalls_of_vc (DL_ok (by decide)) Tryd.func54 rfl (by decide) (by decide) rfl ?_
        refine g0_ ?_
        refine headL_ (head_ ?_); refine g0_ ?_
        refine g1_ ?_

        exact ⟨rfl, fun h => by cases h⟩
      by_cases h7 : vs.length = 4
      · exact absurd h7 (by rw [ho rfl]; decide)
      obtain rfl : E = 0 := by
        rw [← hE]
        unfold lookE
        dsimp only
        simp only [List.length_map, List.length_cons, List.length_nil]
        repeat' split
        all_goals first | rfl | (exfalso; omega)
      refine acalls_of_vc (DL_ok (by decide)) Tryd.func54 rfl (by decide) (by decide) rfl ?_
      refine g0_ ?_
      refine headL_ (head_ ?_); refine g0_ ?_
      refine g1_ ?_

      refine Draws10.chain ⟨14, [.new, .new, .new, .new, .new, .new, .new, .new, .new, .new, .turn, .skip, .skip, .skip], [(10, [.again, .keep, .keep, .keep, .keep, .keep, .keep, .keep, .keep, .keep, .keep, .new, .new, .turn]), (13, [.keep, .keep, .keep, .keep, .keep, .keep, .keep, .keep, .keep, .keep, .keep, .keep, .keep, .keep])], by decide +kernel, ?_⟩; (refine g0_ ?_; repeat (refine n1_ fun b_ => ?_; refine g0_ ?_))
      refine ⟨rfl, fun _ => hs_done (Y := lookY ⟨((l0 :: L)).map Prod.snd, vs, nx⟩ s w t) rfl ?_ ?_ ?_ ?_⟩
      · first | exact .inl rfl | exact .inr (.inl ⟨_, _, _, _, rfl⟩)
      · exact .inr (.inl ⟨_, _, _, _, rfl⟩)
      · exact frz_ohS (x := ⟨bs, (l0 :: L), none, [], nx⟩) (by unfold OH.M; dsimp only; (try simp only [vwM, List.nil_append]); (first | exact ⟨_, .refl _⟩ | exact wkMem.rfl' | exact ⟨_, .swap _ _ _⟩ | (repeat (first | exact wkMem.nil _ | exact wkMem.rfl' | exact wk_snoc _ _ _ | exact wk_fam (by assumption) _ _ _ | exact wk_famN (by assumption) _ _ _ | (apply wkMem.cons; (case' hl => (repeat (first | exact .here _ _ _ | apply Look.there)))) | apply wkMem.skip))))
      · have e : (lookY ⟨((l0 :: L)).map Prod.snd, vs, nx⟩ s w t).views.map encVw = vs.map encVw ++ [.agg [.int .i64 s, .int .i64 w, .int .i64 t]] := by simp [lookY, encVw]
        rw [e]
        (try rw [ho rfl])
        (try simp only [List.map_nil, List.nil_append])
        exact frz_row lk_ _ (by simp)
    · generalize hE : lookE ⟨((l0 :: L)).map Prod.snd, vs, nx⟩ s w t = E
      try have hlc : (l0 :: L).length = L.length + 1 := rfl
      by_cases h1 : s < 0
      · obtain rfl : E = 6 := by
          rw [← hE]
          unfold lookE
          dsimp only
          simp only [List.length_map, List.length_cons, List.length_nil]
          repeat' split
          all_goals first | rfl | (exfalso; omega)
        refine acalls_of_vc (DL_ok (by decide)) Tryd.func54 rfl (by decide) (by decide) rfl ?_
        refine g0_ ?_
        refine headL_ (head_ ?_); refine g0_ ?_
        refine g1_ ?_
        exact ⟨rfl, fun h => by cases h⟩
      by_cases h2 : (((l0 :: L)).length : Int) ≤ s
      · obtain rfl : E = 6 := by
          rw [← hE]
          unfold lookE
          dsimp only
          simp only [List.length_map, List.length_cons, List.length_nil]
          repeat' split
          all_goals first | rfl | (exfalso; omega)
        refine acalls_of_vc (DL_ok (by decide)) Tryd.func54 rfl (by decide) (by decide) rfl ?_
        refine g0_ ?_
        refine headL_ (head_ ?_); refine g0_ ?_
        refine g1_ ?_
        exact ⟨rfl, fun h => by cases h⟩
      by_cases h3 : w < 1
      · obtain rfl : E = 3 := by
          rw [← hE]
          unfold lookE
          dsimp only
          simp only [List.length_map, List.length_cons, List.length_nil]
          repeat' split
          all_goals first | rfl | (exfalso; omega)
        refine acalls_of_vc (DL_ok (by decide)) Tryd.func54 rfl (by decide) (by decide) rfl ?_
        refine g0_ ?_
        refine headL_ (head_ ?_); refine g0_ ?_
        refine g1_ ?_

        exact ⟨rfl, fun h => by cases h⟩
      by_cases h4 : 120 < w
      · obtain rfl : E = 3 := by
          rw [← hE]
          unfold lookE
          dsimp only
          simp only [List.length_map, List.length_cons, List.length_nil]
          repeat' split
          all_goals first | rfl | (exfalso; omega)
        refine acalls_of_vc (DL_ok (by decide)) Tryd.func54 rfl (by decide) (by decide) rfl ?_
        refine g0_ ?_
        refine headL_ (head_ ?_); refine g0_ ?_
        refine g1_ ?_

        exact ⟨rfl, fun h => by cases h⟩
      by_cases h5 : t < 1
      · obtain rfl : E = 3 := by
          rw [← hE]
          unfold lookE
          dsimp only
          simp only [List.length_map, List.length_cons, List.length_nil]
          repeat' split
          all_goals first | rfl | (exfalso; omega)
        refine acalls_of_vc (DL_ok (by decide)) Tryd.func54 rfl (by decide) (by decide) rfl ?_
        refine g0_ ?_
        refine headL_ (head_ ?_); refine g0_ ?_
        refine g1_ ?_

        exact ⟨rfl, fun h => by cases h⟩
      by_cases h6 : 60 < t
      · obtain rfl : E = 3 := by
          rw [← hE]
          unfold lookE
          dsimp only
          simp only [List.length_map, List.length_cons, List.length_nil]
          repeat' split
          all_goals first | rfl | (exfalso; omega)
        refine acalls_of_vc (DL_ok (by decide)) Tryd.func54 rfl (by decide) (by decide) rfl ?_
        refine g0_ ?_
        refine headL_ (head_ ?_); refine g0_ ?_
        refine g1_ ?_

        exact ⟨rfl, fun h => by cases h⟩
      by_cases h7 : vs.length = 4
      · obtain rfl : E = 10 := by
          rw [← hE]
          unfold lookE
          dsimp only
          simp only [List.length_map, List.length_cons, List.length_nil]
          repeat' split
          all_goals first | rfl | (exfalso; omega)
        refine acalls_of_vc (DL_ok (by decide)) Tryd.func54 rfl (by decide) (by decide) rfl ?_
        refine g0_ ?_
        refine headL_ (head_ ?_); refine g0_ ?_
        refine g1_ ?_

        exact ⟨rfl, fun h => by cases h⟩
      obtain rfl : E = 0 := by
        rw [← hE]
        unfold lookE
        dsimp only
        simp only [List.length_map, List.length_cons, List.length_nil]
        repeat' split
        all_goals first | rfl | (exfalso; omega)
      refine acalls_of_vc (DL_ok (by decide)) Tryd.func54 rfl (by decide) (by decide) rfl ?_
      refine g0_ ?_
      refine headL_ (head_ ?_); refine g0_ ?_
      refine g1_ ?_

      refine Draws10.chain ⟨14, [.new, .new, .new, .new, .new, .new, .new, .new, .new, .new, .turn, .skip, .skip, .skip], [(10, [.again, .keep, .keep, .keep, .keep, .keep, .keep, .keep, .keep, .keep, .keep, .new, .new, .turn]), (13, [.keep, .keep, .keep, .keep, .keep, .keep, .keep, .keep, .keep, .keep, .keep, .keep, .keep, .keep])], by decide +kernel, ?_⟩; (refine g0_ ?_; repeat (refine n2_ fun b_ => ?_; refine g0_ ?_))
      refine ⟨rfl, fun _ => hs_done (Y := lookY ⟨((l0 :: L)).map Prod.snd, vs, nx⟩ s w t) rfl ?_ ?_ ?_ ?_⟩
      · first | exact .inl rfl | exact .inr (.inl ⟨_, _, _, _, rfl⟩)
      · exact .inr (.inl ⟨_, _, _, _, rfl⟩)
      · exact frz_ohS (x := ⟨bs, (l0 :: L), none, [], nx⟩) (by unfold OH.M; dsimp only; (try simp only [vwM, List.nil_append]); (first | exact ⟨_, .refl _⟩ | exact wkMem.rfl' | exact ⟨_, .swap _ _ _⟩ | (repeat (first | exact wkMem.nil _ | exact wkMem.rfl' | exact wk_snoc _ _ _ | exact wk_fam (by assumption) _ _ _ | exact wk_famN (by assumption) _ _ _ | (apply wkMem.cons; (case' hl => (repeat (first | exact .here _ _ _ | apply Look.there)))) | apply wkMem.skip))))
      · have e : (lookY ⟨((l0 :: L)).map Prod.snd, vs, nx⟩ s w t).views.map encVw = vs.map encVw ++ [.agg [.int .i64 s, .int .i64 w, .int .i64 t]] := by simp [lookY, encVw]
        rw [e]
        (try rw [ho rfl])
        (try simp only [List.map_nil, List.nil_append])
        exact frz_row lk_ _ (by simp)
end Go.Eng.YtkenlcaifhffoaaDoor
end

/- Houses: Look, the size of a session, the law HouseLook (b_ x_ q_ e_). -/
section
namespace Go.Eng.YtkenlcaifhffoaaDoor
open Go Go.Eng Go.Proofs
variable (W : World)
set_option linter.unusedSimpArgs false
set_option maxRecDepth 100000
set_option linter.unusedVariables false
set_option maxHeartbeats 8000000
theorem hlookP_ok (hT : Tabs W) (h : Hs) (hok : h.ok) (s w t : Int) :
    Pure Tryd.prog W 17 [encHs h, .int .i64 s, .int .i64 w, .int .i64 t] (.tup [encHs (chgR h (lookE h s w t) (lookY h s w t)).1, .int .i64 (chgR h (lookE h s w t) (lookY h s w t)).2]) := by
  have hg := fun h0 b b1 b2 b3 x hx ho => hlook1_ok W h (right_ses h0).1 (right_ses h0).2.1 s w t b b1 b2 b3 x hx ho
  generalize lookE h s w t = E at *
  generalize lookY h s w t = Y at *
  by_cases h0 : chkH h = 0
  · have hg := hg h0
    have hc := fun cap τ hg => changeH_ok W hT h hok h0 54 cap τ E Y hg
    unfold chgR
    rw [if_neg (by simpa using h0)]
    by_cases hE : E = 0
    · rw [if_pos hE, ← hE]
      rw [if_pos hE] at hc
      dsimp only
      rw [encHs_mk h] at *
      rw [encHs_mk Y] at *
      refine Pure.of (acalls_of_vc (drawOk W) Tryd.func17 rfl (by decide) (by decide) rfl ?_)
      (refine g0_ ?_; repeat (refine n1_ fun b_ => ?_; refine g0_ ?_))
      refine ACalls.lendF (hc _ _ (fun b x hx ho => hg b _ _ _ x hx ho)) (lookH3 lk_ lk_ lk_) ?_
      refine g0_ ?_
      exact .refl _
    · rw [if_neg hE]
      rw [if_neg hE] at hc
      dsimp only
      rw [encHs_mk h] at *
      rw [encHs_mk noHs] at *
      refine Pure.of (acalls_of_vc (drawOk W) Tryd.func17 rfl (by decide) (by decide) rfl ?_)
      (refine g0_ ?_; repeat (refine n1_ fun b_ => ?_; refine g0_ ?_))
      refine ACalls.lendF (hc _ _ (fun b x hx ho => hg b _ _ _ x hx ho)) (lookH3 lk_ lk_ lk_) ?_
      refine g0_ ?_
      exact .refl _
  · have hc := fun cap => changeH_bad W hT h hok h0 54 cap
    unfold chgR
    rw [if_pos h0]
    dsimp only
    generalize chkH h = C at *
    rw [encHs_mk h, encHs_mk noHs] at *
    refine Pure.of (acalls_of_vc (drawOk W) Tryd.func17 rfl (by decide) (by decide) rfl ?_)
    (refine g0_ ?_; repeat (refine n1_ fun b_ => ?_; refine g0_ ?_))
    refine (hc _).use ?_; refine g0_ ?_
    exact .refl _
def stepV (s : Int) (p : Int × Int) (v : Vw) : Int × Int := if v.s = s then (if p.1 = 0 ∨ v.w < p.1 then v.w else p.1, if p.2 = 0 ∨ v.h < p.2 then v.h else p.2) else p
def sizeV (s : Int) (l : List Vw) : Int × Int := l.foldl (stepV s) (0, 0)
def tallV (t : Int) : Int := if 1 < t then t - 1 else t
def Vw.fair (v : Vw) : Prop := 1 ≤ v.w ∧ v.w ≤ 120 ∧ 1 ≤ v.h ∧ v.h ≤ 60
def sizeE (h : Hs) (s : Int) : Int := if chkH h ≠ 0 then chkH h else if s < 0 then 6 else if (h.ses.length : Int) ≤ s then 6 else 0
def sizeR (h : Hs) (s : Int) : Int × Int := if sizeE h s = 0 then ((sizeV s h.views).1, tallV (sizeV s h.views).2) else (0, 0)
theorem lookY_ok {h : Hs} (hok : h.ok) (h0 : chkH h = 0) (s w t : Int) (hs : i64ok s) (hw : i64ok w) (ht : i64ok t) : (lookY h s w t).ok := by
  obtain ⟨h1, h2, h3, h4, -, -⟩ := right_ses h0
  refine ⟨hok.ses, hok.se, ?_, ?_, hok.next⟩
  · show (h.views ++ [_]).length ≤ _
    rw [List.length_append, List.length_singleton]; omega
  · intro v hv
    rcases List.mem_append.1 (show v ∈ h.views ++ [_] from hv) with hv | hv
    · exact hok.view v hv
    · obtain rfl := List.mem_singleton.1 hv
      exact ⟨hs, hw, ht⟩
end Go.Eng.YtkenlcaifhffoaaDoor
end
