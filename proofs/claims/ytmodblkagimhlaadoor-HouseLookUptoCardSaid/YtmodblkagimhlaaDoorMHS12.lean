/- Texts put together: Hs4, Hs5. -/
import Derived.Test.YtmodblkagimhlaaDoorMHS11
/- Houses: a viewer more: the package's Look, the law's (b_ x_ q_ e_). -/
section
namespace Go.Eng.YtmodblkagimhlaaDoor
open Go Go.Eng Go.Proofs
variable (W : World)
set_option linter.unusedSimpArgs false
set_option maxRecDepth 100000
set_option linter.unusedVariables false
set_option maxHeartbeats 16000000
def lookE (h : Hs) (s w t : Int) : Int :=
  if s < 0 then 6 else if (h.ses.length : Int) ≤ s then 6 else if w < 1 then 3 else if 120 < w then 3 else if t < 1 then 3 else if 60 < t then 3 else if h.views.length = 4 then 10 else 0
def lookY (h : Hs) (s w t : Int) : Hs := ⟨h.ses, h.views ++ [⟨s, w, t⟩], h.next⟩
theorem hsize_ok (w t : Int) : Pure Tryd.prog W 38 [.int .i64 w, .int .i64 t] (.bool (decide (1 ≤ w) && (decide (w ≤ 120) && (decide (1 ≤ t) && decide (t ≤ 60))))) := by
  by_cases h1 : 1 ≤ w
  · by_cases h2 : w ≤ 120
    · by_cases h3 : 1 ≤ t
      · refine Pure.of (acalls_of_vc (drawOk W) Tryd.func38 rfl (by decide) (by decide) rfl ?_)
        refine g0_ ?_
        refine g1_ ?_
        exact .of_eq (by simp [h1, h2, h3])
      · refine Pure.of (acalls_of_vc (drawOk W) Tryd.func38 rfl (by decide) (by decide) rfl ?_)
        refine g0_ ?_
        refine g1_ ?_
        exact .of_eq (by simp [h3])
    · refine Pure.of (acalls_of_vc (drawOk W) Tryd.func38 rfl (by decide) (by decide) rfl ?_)
      refine g0_ ?_
      refine g1_ ?_
      exact .of_eq (by simp [h2])
  · refine Pure.of (acalls_of_vc (drawOk W) Tryd.func38 rfl (by decide) (by decide) rfl ?_)
    refine g0_ ?_
    refine g1_ ?_
    exact .of_eq (by simp [h1])
theorem perm_three {A B C D : Blk} {M : Mem} : (A :: (M ++ [B, C, D])).Perm (A :: B :: C :: D :: M) := List.Perm.cons A (List.perm_append_comm (l₁ := M) (l₂ := [B, C, D]))
theorem hlook1_ok (h : Hs) (hl4 : h.ses.length ≤ 4) (hv4 : h.views.length ≤ 4) (s w t : Int) (b b1 b2 b3 : Nat) (x : OH) (hx : x.T = h) (ho : x.o = none → x.views = []) :
    ACalls Tryd.prog W 89 [.bref b 0, .bref b1 0, .bref b2 0, .bref b3 0] (⟨b, .row 3 [x.V] 0⟩ :: (x.M ++ [⟨b1, .row 1 [.int .i64 s] 0⟩, ⟨b2, .row 1 [.int .i64 w] 0⟩, ⟨b3, .row 1 [.int .i64 t] 0⟩])) fun v σ' => v = .int .i64 (lookE h s w t) ∧ (lookE h s w t = 0 → HsDone b (lookY h s w t) σ') := by
  obtain ⟨bs, L, o, vs, nx⟩ := x
  subst hx
  have hlL : L.length ≤ 4 := by simpa [OH.T] using hl4
  have hvL : vs.length ≤ 4 := hv4
  clear hl4 hv4
  refine ACalls.perm ?_ perm_three
  unfold OH.V OH.M OH.T
  dsimp only at *
  have hvm : (List.map encVw vs).length = vs.length := List.length_map _
  rcases L with _ | ⟨l0, L⟩
  · rcases o with _ | bo
    · have hsz := hsize_ok W w t
      generalize hE : lookE ⟨(([] : List (Nat × Ses))).map Prod.snd, vs, nx⟩ s w t = E
      try have hlc : (l0 :: L).length = L.length + 1 := rfl
      by_cases h1 : s < 0
      · obtain rfl : E = 6 := by
          rw [← hE]
          unfold lookE
          dsimp only
          simp only [List.length_map, List.length_cons, List.length_nil]
          repeat' split
          all_goals first | rfl | (exfalso; omega)
        refine acalls_of_vc (DL_ok (by decide)) Tryd.func89 rfl (by decide) (by decide) rfl ?_
        refine g0_ ?_
        refine headL_ (head_ ?_); refine g0_ ?_
        refine g1_ ?_
        exact ⟨rfl, fun h => by cases h⟩
      by_cases h2 : ((([] : List (Nat × Ses))).length : Int) ≤ s
      · obtain rfl : E = 6 := by
          rw [← hE]
          unfold lookE
          dsimp only
          simp only [List.length_map, List.length_cons, List.length_nil]
          repeat' split
          all_goals first | rfl | (exfalso; omega)
        refine acalls_of_vc (DL_ok (by decide)) Tryd.func89 rfl (by decide) (by decide) rfl ?_
        refine g0_ ?_
        refine headL_ (head_ ?_); refine g0_ ?_
        refine g1_ ?_
        exact ⟨rfl, fun h => by cases h⟩
      exfalso
      simp only [List.length_nil] at h2
      omega
    · have hsz := hsize_ok W w t
      generalize hE : lookE ⟨(([] : List (Nat × Ses))).map Prod.snd, vs, nx⟩ s w t = E
      try have hlc : (l0 :: L).length = L.length + 1 := rfl
      by_cases h1 : s < 0
      · obtain rfl : E = 6 := by
          rw [← hE]
          unfold lookE
          dsimp only
          simp only [List.length_map, List.length_cons, List.length_nil]
          repeat' split
          all_goals first | rfl | (exfalso; omega)
        refine acalls_of_vc (DL_ok (by decide)) Tryd.func89 rfl (by decide) (by decide) rfl ?_
        refine g0_ ?_
        refine headL_ (head_ ?_); refine g0_ ?_
        refine g1_ ?_
        exact ⟨rfl, fun h => by cases h⟩
      by_cases h2 : ((([] : List (Nat × Ses))).length : Int) ≤ s
      · obtain rfl : E = 6 := by
          rw [← hE]
          unfold lookE
          dsimp only
          simp only [List.length_map, List.length_cons, List.length_nil]
          repeat' split
          all_goals first | rfl | (exfalso; omega)
        refine acalls_of_vc (DL_ok (by decide)) Tryd.func89 rfl (by decide) (by decide) rfl ?_
        refine g0_ ?_
        refine headL_ (head_ ?_); refine g0_ ?_
        refine g1_ ?_
        exact ⟨rfl, fun h => by cases h⟩
      exfalso
      simp only [List.length_nil] at h2
      omega
  · have hLm : (List.map sesV L).length = L.length := List.length_map _
    have hlL2 : L.length ≤ 3 := by simpa using hlL
    rcases o with _ | bo
    · have hsz := hsize_ok W w t
      generalize hE : lookE ⟨((l0 :: L)).map Prod.snd, vs, nx⟩ s w t = E
      try have hlc : (l0 :: L).length = L.length + 1 := rfl
      by_cases h1 : s < 0
      · obtain rfl : E = 6 := by
          rw [← hE]
          unfold lookE
          dsimp only
          simp only [List.length_map, List.length_cons, List.length_nil]
          repeat' split
          all_goals first | rfl | (exfalso; omega)
        refine acalls_of_vc (DL_ok (by decide)) Tryd.func89 rfl (by decide) (by decide) rfl ?_
        refine g0_ ?_
        refine headL_ (head_ ?_); refine g0_ ?_
        refine g1_ ?_
        exact ⟨rfl, fun h => by cases h⟩
      by_cases h2 : (((l0 :: L)).length : Int) ≤ s
      · obtain rfl : E = 6 := by
          rw [← hE]
          unfold lookE
          dsimp only
          simp only [List.length_map, List.length_cons, List.length_nil]
          repeat' split
          all_goals first | rfl | (exfalso; omega)
        refine acalls_of_vc (DL_ok (by decide)) Tryd.func89 rfl (by decide) (by decide) rfl ?_
        refine g0_ ?_
        refine headL_ (head_ ?_); refine g0_ ?_
        refine g1_ ?_
        exact ⟨rfl, fun h => by cases h⟩
      by_cases h3 : w < 1
      · obtain rfl : E = 3 := by
          rw [← hE]
          unfold lookE
          dsimp only
          simp only [List.length_map, List.length_cons, List.length_nil]
          repeat' split
          all_goals first | rfl | (exfalso; omega)
        rw [show decide (1 ≤ w) = false from decide_eq_false (by omega), Bool.false_and] at hsz
        refine acalls_of_vc (DL_ok (by decide)) Tryd.func89 rfl (by decide) (by decide) rfl ?_
        refine g0_ ?_
        refine headL_ (head_ ?_); refine g0_ ?_
        refine g1_ ?_

        exact ⟨rfl, fun h => by cases h⟩
      rw [show decide (1 ≤ w) = true from decide_eq_true (by omega), Bool.true_and] at hsz
      by_cases h4 : 120 < w
      · obtain rfl : E = 3 := by
          rw [← hE]
          unfold lookE
          dsimp only
          simp only [List.length_map, List.length_cons, List.length_nil]
          repeat' split
          all_goals first | rfl | (exfalso; omega)
        rw [show decide (w ≤ 120) = false from decide_eq_false (by omega), Bool.false_and] at hsz
        refine acalls_of_vc (DL_ok (by decide)) Tryd.func89 rfl (by decide) (by decide) rfl ?_
        refine g0_ ?_
        refine headL_ (head_ ?_); refine g0_ ?_
        refine g1_ ?_

        exact ⟨rfl, fun h => by cases h⟩
      rw [show decide (w ≤ 120) = true from decide_eq_true (by omega), Bool.true_and] at hsz
      by_cases h5 : t < 1
      · obtain rfl : E = 3 := by
          rw [← hE]
          unfold lookE
          dsimp only
          simp only [List.length_map, List.length_cons, List.length_nil]
          repeat' split
          all_goals first | rfl | (exfalso; omega)
        rw [show decide (1 ≤ t) = false from decide_eq_false (by omega), Bool.false_and] at hsz
        refine acalls_of_vc (DL_ok (by decide)) Tryd.func89 rfl (by decide) (by decide) rfl ?_
        refine g0_ ?_
        refine headL_ (head_ ?_); refine g0_ ?_
        refine g1_ ?_

        exact ⟨rfl, fun h => by cases h⟩
      rw [show decide (1 ≤ t) = true from decide_eq_true (by omega), Bool.true_and] at hsz
      by_cases h6 : 60 < t
      · obtain rfl : E = 3 := by
          rw [← hE]
          unfold lookE
          dsimp only
          simp only [List.length_map, List.length_cons, List.length_nil]
          repeat' split
          all_goals first | rfl | (exfalso; omega)
        rw [show decide (t ≤ 60) = false from decide_eq_false (by omega)] at hsz
        refine acalls_of_vc (DL_ok (by decide)) Tryd.func89 rfl (by decide) (by decide) rfl ?_
        refine g0_ ?_
        refine headL_ (head_ ?_); refine g0_ ?_
        refine g1_ ?_

        exact ⟨rfl, fun h => by cases h⟩
      rw [show decide (t ≤ 60) = true from decide_eq_true (by omega)] at hsz
      by_cases h7 : vs.length = 4
      · exact absurd h7 (by rw [ho rfl]; decide)
      obtain rfl : E = 0 := by
        rw [← hE]
        unfold lookE
        dsimp only
        simp only [List.length_map, List.length_cons, List.length_nil]
        repeat' split
        all_goals first | rfl | (exfalso; omega)
      refine acalls_of_vc (DL_ok (by decide)) Tryd.func89 rfl (by decide) (by decide) rfl ?_
      refine g0_ ?_
      refine headL_ (head_ ?_); refine g0_ ?_
      refine g1_ ?_

      refine Draws10.chain ⟨14, [.new, .new, .new, .new, .new, .new, .new, .new, .new, .new, .turn, .skip, .skip, .skip], [(10, [.again, .keep, .keep, .keep, .keep, .keep, .keep, .keep, .keep, .keep, .keep, .new, .new, .turn]), (13, [.keep, .keep, .keep, .keep, .keep, .keep, .keep, .keep, .keep, .keep, .keep, .keep, .keep, .keep])], by decide +kernel, ?_⟩; (refine g0_ ?_; repeat (refine n1_ fun b_ => ?_; refine g0_ ?_))
      refine ⟨rfl, fun _ => hs_done (Y := lookY ⟨((l0 :: L)).map Prod.snd, vs, nx⟩ s w t) rfl ?_ ?_ ?_ ?_⟩
      · first | exact .inl rfl | exact .inr (.inl ⟨_, _, _, _, rfl⟩)
      · exact .inr (.inl ⟨_, _, _, _, rfl⟩)
      · exact frz_ohS (x := ⟨bs, (l0 :: L), none, [], nx⟩) (by unfold OH.M; dsimp only; (try simp only [vwM, List.nil_append]); (first | exact ⟨_, .refl _⟩ | exact wkMem.rfl' | exact ⟨_, .swap _ _ _⟩ | (repeat (first | exact wkMem.nil _ | exact wkMem.rfl' | exact wk_snoc _ _ _ | exact wk_fam (by assumption) _ _ _ | exact wk_famN (by assumption) _ _ _ | (apply wkMem.cons; (case' hl => (repeat (first | exact .here _ _ _ | apply Look.there)))) | apply wkMem.skip))))
      · have e : (lookY ⟨((l0 :: L)).map Prod.snd, vs, nx⟩ s w t).views.map encVw = vs.map encVw ++ [.agg [.int .i64 s, .int .i64 w, .int .i64 t]] := by simp [lookY, encVw]
        rw [e]
        (try rw [ho rfl])
        (try simp only [List.map_nil, List.nil_append])
        exact frz_row (by repeat (first | exact .here _ _ _ | apply Look.there)) _ (by simp)
    · have hsz := hsize_ok W w t
      generalize hE : lookE ⟨((l0 :: L)).map Prod.snd, vs, nx⟩ s w t = E
      try have hlc : (l0 :: L).length = L.length + 1 := rfl
      by_cases h1 : s < 0
      · obtain rfl : E = 6 := by
          rw [← hE]
          unfold lookE
          dsimp only
          simp only [List.length_map, List.length_cons, List.length_nil]
          repeat' split
          all_goals first | rfl | (exfalso; omega)
        refine acalls_of_vc (DL_ok (by decide)) Tryd.func89 rfl (by decide) (by decide) rfl ?_
        refine g0_ ?_
        refine headL_ (head_ ?_); refine g0_ ?_
        refine g1_ ?_
        exact ⟨rfl, fun h => by cases h⟩
      by_cases h2 : (((l0 :: L)).length : Int) ≤ s
      · obtain rfl : E = 6 := by
          rw [← hE]
          unfold lookE
          dsimp only
          simp only [List.length_map, List.length_cons, List.length_nil]
          repeat' split
          all_goals first | rfl | (exfalso; omega)
        refine acalls_of_vc (DL_ok (by decide)) Tryd.func89 rfl (by decide) (by decide) rfl ?_
        refine g0_ ?_
        refine headL_ (head_ ?_); refine g0_ ?_
        refine g1_ ?_
        exact ⟨rfl, fun h => by cases h⟩
      by_cases h3 : w < 1
      · obtain rfl : E = 3 := by
          rw [← hE]
          unfold lookE
          dsimp only
          simp only [List.length_map, List.length_cons, List.length_nil]
          repeat' split
          all_goals first | rfl | (exfalso; omega)
        rw [show decide (1 ≤ w) = false from decide_eq_false (by omega), Bool.false_and] at hsz
        refine acalls_of_vc (DL_ok (by decide)) Tryd.func89 rfl (by decide) (by decide) rfl ?_
        refine g0_ ?_
        refine headL_ (head_ ?_); refine g0_ ?_
        refine g1_ ?_

        exact ⟨rfl, fun h => by cases h⟩
      rw [show decide (1 ≤ w) = true from decide_eq_true (by omega), Bool.true_and] at hsz
      by_cases h4 : 120 < w
      · obtain rfl : E = 3 := by
          rw [← hE]
          unfold lookE
          dsimp only
          simp only [List.length_map, List.length_cons, List.length_nil]
          repeat' split
          all_goals first | rfl | (exfalso; omega)
        rw [show decide (w ≤ 120) = false from decide_eq_false (by omega), Bool.false_and] at hsz
        refine acalls_of_vc (DL_ok (by decide)) Tryd.func89 rfl (by decide) (by decide) rfl ?_
        refine g0_ ?_
        refine headL_ (head_ ?_); refine g0_ ?_
        refine g1_ ?_

        exact ⟨rfl, fun h => by cases h⟩
      rw [show decide (w ≤ 120) = true from decide_eq_true (by omega), Bool.true_and] at hsz
      by_cases h5 : t < 1
      · obtain rfl : E = 3 := by
          rw [← hE]
          unfold lookE
          dsimp only
          simp only [List.length_map, List.length_cons, List.length_nil]
          repeat' split
          all_goals first | rfl | (exfalso; omega)
        rw [show decide (1 ≤ t) = false from decide_eq_false (by omega), Bool.false_and] at hsz
        refine acalls_of_vc (DL_ok (by decide)) Tryd.func89 rfl (by decide) (by decide) rfl ?_
        refine g0_ ?_
        refine headL_ (head_ ?_); refine g0_ ?_
        refine g1_ ?_

        exact ⟨rfl, fun h => by cases h⟩
      rw [show decide (1 ≤ t) = true from decide_eq_true (by omega), Bool.true_and] at hsz
      by_cases h6 : 60 < t
      · obtain rfl : E = 3 := by
          rw [← hE]
          unfold lookE
          dsimp only
          simp only [List.length_map, List.length_cons, List.length_nil]
          repeat' split
          all_goals first | rfl | (exfalso; omega)
        rw [show decide (t ≤ 60) = false from decide_eq_false (by omega)] at hsz
        refine acalls_of_vc (DL_ok (by decide)) Tryd.func89 rfl (by decide) (by decide) rfl ?_
        refine g0_ ?_
        refine headL_ (head_ ?_); refine g0_ ?_
        refine g1_ ?_

        exact ⟨rfl, fun h => by cases h⟩
      rw [show decide (t ≤ 60) = true from decide_eq_true (by omega)] at hsz
      by_cases h7 : vs.length = 4
      · obtain rfl : E = 10 := by
          rw [← hE]
          unfold lookE
          dsimp only
          simp only [List.length_map, List.length_cons, List.length_nil]
          repeat' split
          all_goals first | rfl | (exfalso; omega)
        refine acalls_of_vc (DL_ok (by decide)) Tryd.func89 rfl (by decide) (by decide) rfl ?_
        refine g0_ ?_
        refine headL_ (head_ ?_); refine g0_ ?_
        refine g1_ ?_

        exact ⟨rfl, fun h => by cases h⟩
      obtain rfl : E = 0 := by
        rw [← hE]
        unfold lookE
        dsimp only
        simp only [List.length_map, List.length_cons, List.length_nil]
        repeat' split
        all_goals first | rfl | (exfalso; omega)
      refine acalls_of_vc (DL_ok (by decide)) Tryd.func89 rfl (by decide) (by decide) rfl ?_
      refine g0_ ?_
      refine headL_ (head_ ?_); refine g0_ ?_
      refine g1_ ?_

      refine Draws10.chain ⟨14, [.new, .new, .new, .new, .new, .new, .new, .new, .new, .new, .turn, .skip, .skip, .skip], [(10, [.again, .keep, .keep, .keep, .keep, .keep, .keep, .keep, .keep, .keep, .keep, .new, .new, .turn]), (13, [.keep, .keep, .keep, .keep, .keep, .keep, .keep, .keep, .keep, .keep, .keep, .keep, .keep, .keep])], by decide +kernel, ?_⟩; (refine g0_ ?_; repeat (refine n2_ fun b_ => ?_; refine g0_ ?_))
      refine ⟨rfl, fun _ => hs_done (Y := lookY ⟨((l0 :: L)).map Prod.snd, vs, nx⟩ s w t) rfl ?_ ?_ ?_ ?_⟩
      · first | exact .inl rfl | exact .inr (.inl ⟨_, _, _, _, rfl⟩)
      · exact .inr (.inl ⟨_, _, _, _, rfl⟩)
      · exact frz_ohS (x := ⟨bs, (l0 :: L), none, [], nx⟩) (by unfold OH.M; dsimp only; (try simp only [vwM, List.nil_append]); (first | exact ⟨_, .refl _⟩ | exact wkMem.rfl' | exact ⟨_, .swap _ _ _⟩ | (repeat (first | exact wkMem.nil _ | exact wkMem.rfl' | exact wk_snoc _ _ _ | exact wk_fam (by assumption) _ _ _ | exact wk_famN (by assumption) _ _ _ | (apply wkMem.cons; (case' hl => (repeat (first | exact .here _ _ _ | apply Look.there)))) | apply wkMem.skip))))
      · have e : (lookY ⟨((l0 :: L)).map Prod.snd, vs, nx⟩ s w t).views.map encVw = vs.map encVw ++ [.agg [.int .i64 s, .int .i64 w, .int .i64 t]] := by simp [lookY, encVw]
        rw [e]
        (try rw [ho rfl])
        (try simp only [List.map_nil, List.nil_append])
        exact frz_row (by repeat (first | exact .here _ _ _ | apply Look.there)) _ (by simp)
theorem hlook2_ok (h : Hs) (hl4 : h.ses.length ≤ 4) (hv4 : h.views.length ≤ 4) (s w t : Int) :
    DoesTo W 37 [.ip (.int .i64 s) 0, .ip (.int .i64 w) 0, .ip (.int .i64 t) 0] h (lookY h s w t) (lookE h s w t) := by
  intro b x hx ho
  obtain ⟨bs, L, o, vs, nx⟩ := x
  subst hx
  have hlL : L.length ≤ 4 := by simpa [OH.T] using hl4
  have hvL : vs.length ≤ 4 := hv4
  clear hl4 hv4
  unfold OH.V OH.M OH.T
  dsimp only at *
  have hvm : (List.map encVw vs).length = vs.length := List.length_map _
  rcases L with _ | ⟨l0, L⟩
  · rcases o with _ | bo
    · have hsz := hsize_ok W w t
      generalize hE : lookE ⟨(([] : List (Nat × Ses))).map Prod.snd, vs, nx⟩ s w t = E
      try have hlc : (l0 :: L).length = L.length + 1 := rfl
      by_cases h1 : s < 0
      · obtain rfl : E = 6 := by
          rw [← hE]
          unfold lookE
          dsimp only
          simp only [List.length_map, List.length_cons, List.length_nil]
          repeat' split
          all_goals first | rfl | (exfalso; omega)
        refine acalls_of_vc (DL_ok (by decide)) Tryd.func37 rfl (by decide) (by decide) rfl ?_
        refine g0_ ?_
        refine headL_ (head_ ?_); refine g0_ ?_
        refine g1_ ?_
        exact ⟨rfl, fun h => by cases h⟩
      by_cases h2 : ((([] : List (Nat × Ses))).length : Int) ≤ s
      · obtain rfl : E = 6 := by
          rw [← hE]
          unfold lookE
          dsimp only
          simp only [List.length_map, List.length_cons, List.length_nil]
          repeat' split
          all_goals first | rfl | (exfalso; omega)
        refine acalls_of_vc (DL_ok (by decide)) Tryd.func37 rfl (by decide) (by decide) rfl ?_
        refine g0_ ?_
        refine headL_ (head_ ?_); refine g0_ ?_
        refine g1_ ?_
        exact ⟨rfl, fun h => by cases h⟩
      exfalso
      simp only [List.length_nil] at h2
      omega
    · have hsz := hsize_ok W w t
      generalize hE : lookE ⟨(([] : List (Nat × Ses))).map Prod.snd, vs, nx⟩ s w t = E
      try have hlc : (l0 :: L).length = L.length + 1 := rfl
      by_cases h1 : s < 0
      · obtain rfl : E = 6 := by
          rw [← hE]
          unfold lookE
          dsimp only
          simp only [List.length_map, List.length_cons, List.length_nil]
          repeat' split
          all_goals first | rfl | (exfalso; omega)
        refine acalls_of_vc (DL_ok (by decide)) Tryd.func37 rfl (by decide) (by decide) rfl ?_
        refine g0_ ?_
        refine headL_ (head_ ?_); refine g0_ ?_
        refine g1_ ?_
        exact ⟨rfl, fun h => by cases h⟩
      by_cases h2 : ((([] : List (Nat × Ses))).length : Int) ≤ s
      · obtain rfl : E = 6 := by
          rw [← hE]
          unfold lookE
          dsimp only
          simp only [List.length_map, List.length_cons, List.length_nil]
          repeat' split
          all_goals first | rfl | (exfalso; omega)
        refine acalls_of_vc (DL_ok (by decide)) Tryd.func37 rfl (by decide) (by decide) rfl ?_
        refine g0_ ?_
        refine headL_ (head_ ?_); refine g0_ ?_
        refine g1_ ?_
        exact ⟨rfl, fun h => by cases h⟩
      exfalso
      simp only [List.length_nil] at h2
      omega
  · have hLm : (List.map sesV L).length = L.length := List.length_map _
    have hlL2 : L.length ≤ 3 := by simpa using hlL
    rcases o with _ | bo
    · have hsz := hsize_ok W w t
      generalize hE : lookE ⟨((l0 :: L)).map Prod.snd, vs, nx⟩ s w t = E
      try have hlc : (l0 :: L).length = L.length + 1 := rfl
      by_cases h1 : s < 0
      · obtain rfl : E = 6 := by
          rw [← hE]
          unfold lookE
          dsimp only
          simp only [List.length_map, List.length_cons, List.length_nil]
          repeat' split
          all_goals first | rfl | (exfalso; omega)
        refine acalls_of_vc (DL_ok (by decide)) Tryd.func37 rfl (by decide) (by decide) rfl ?_
        refine g0_ ?_
        refine headL_ (head_ ?_); refine g0_ ?_
        refine g1_ ?_
        exact ⟨rfl, fun h => by cases h⟩
      by_cases h2 : (((l0 :: L)).length : Int) ≤ s
      · obtain rfl : E = 6 := by
          rw [← hE]
          unfold lookE
          dsimp only
          simp only [List.length_map, List.length_cons, List.length_nil]
          repeat' split
          all_goals first | rfl | (exfalso; omega)
        refine acalls_of_vc (DL_ok (by decide)) Tryd.func37 rfl (by decide) (by decide) rfl ?_
        refine g0_ ?_
        refine headL_ (head_ ?_); refine g0_ ?_
        refine g1_ ?_
        exact ⟨rfl, fun h => by cases h⟩
      by_cases h3 : w < 1
      · obtain rfl : E = 3 := by
          rw [← hE]
          unfold lookE
          dsimp only
          simp only [List.length_map, List.length_cons, List.length_nil]
          repeat' split
          all_goals first | rfl | (exfalso; omega)
        rw [show decide (1 ≤ w) = false from decide_eq_false (by omega), Bool.false_and] at hsz
        refine acalls_of_vc (DL_ok (by decide)) Tryd.func37 rfl (by decide) (by decide) rfl ?_
        refine g0_ ?_
        refine headL_ (head_ ?_); refine g0_ ?_
        refine g1_ ?_
        refine (hsz).use ?_; refine g0_ ?_
        refine g1_ ?_
        exact ⟨rfl, fun h => by cases h⟩
      rw [show decide (1 ≤ w) = true from decide_eq_true (by omega), Bool.true_and] at hsz
      by_cases h4 : 120 < w
      · obtain rfl : E = 3 := by
          rw [← hE]
          unfold lookE
          dsimp only
          simp only [List.length_map, List.length_cons, List.length_nil]
          repeat' split
          all_goals first | rfl | (exfalso; omega)
        rw [show decide (w ≤ 120) = false from decide_eq_false (by omega), Bool.false_and] at hsz
        refine acalls_of_vc (DL_ok (by decide)) Tryd.func37 rfl (by decide) (by decide) rfl ?_
        refine g0_ ?_
        refine headL_ (head_ ?_); refine g0_ ?_
        refine g1_ ?_
        refine (hsz).use ?_; refine g0_ ?_
        refine g1_ ?_
        exact ⟨rfl, fun h => by cases h⟩
      rw [show decide (w ≤ 120) = true from decide_eq_true (by omega), Bool.true_and] at hsz
      by_cases h5 : t < 1
      · obtain rfl : E = 3 := by
          rw [← hE]
          unfold lookE
          dsimp only
          simp only [List.length_map, List.length_cons, List.length_nil]
          repeat' split
          all_goals first | rfl | (exfalso; omega)
        rw [show decide (1 ≤ t) = false from decide_eq_false (by omega), Bool.false_and] at hsz
        refine acalls_of_vc (DL_ok (by decide)) Tryd.func37 rfl (by decide) (by decide) rfl ?_
        refine g0_ ?_
        refine headL_ (head_ ?_); refine g0_ ?_
        refine g1_ ?_
        refine (hsz).use ?_; refine g0_ ?_
        refine g1_ ?_
        exact ⟨rfl, fun h => by cases h⟩
      rw [show decide (1 ≤ t) = true from decide_eq_true (by omega), Bool.true_and] at hsz
      by_cases h6 : 60 < t
      · obtain rfl : E = 3 := by
          rw [← hE]
          unfold lookE
          dsimp only
          simp only [List.length_map, List.length_cons, List.length_nil]
          repeat' split
          all_goals first | rfl | (exfalso; omega)
        rw [show decide (t ≤ 60) = false from decide_eq_false (by omega)] at hsz
        refine acalls_of_vc (DL_ok (by decide)) Tryd.func37 rfl (by decide) (by decide) rfl ?_
        refine g0_ ?_
        refine headL_ (head_ ?_); refine g0_ ?_
        refine g1_ ?_
        refine (hsz).use ?_; refine g0_ ?_
        refine g1_ ?_
        exact ⟨rfl, fun h => by cases h⟩
      rw [show decide (t ≤ 60) = true from decide_eq_true (by omega)] at hsz
      by_cases h7 : vs.length = 4
      · exact absurd h7 (by rw [ho rfl]; decide)
      obtain rfl : E = 0 := by
        rw [← hE]
        unfold lookE
        dsimp only
        simp only [List.length_map, List.length_cons, List.length_nil]
        repeat' split
        all_goals first | rfl | (exfalso; omega)
      refine acalls_of_vc (DL_ok (by decide)) Tryd.func37 rfl (by decide) (by decide) rfl ?_
      refine g0_ ?_
      refine headL_ (head_ ?_); refine g0_ ?_
      refine g1_ ?_
      refine (hsz).use ?_; refine g0_ ?_
      refine g1_ ?_
      refine Draws10.chain ⟨14, [.new, .new, .new, .new, .new, .new, .new, .new, .new, .new, .turn, .skip, .skip, .skip], [(10, [.again, .keep, .keep, .keep, .keep, .keep, .keep, .keep, .keep, .keep, .keep, .new, .new, .turn]), (13, [.keep, .keep, .keep, .keep, .keep, .keep, .keep, .keep, .keep, .keep, .keep, .keep, .keep, .keep])], by decide +kernel, ?_⟩; (refine g0_ ?_; repeat (refine n1_ fun b_ => ?_; refine g0_ ?_))
      refine ⟨rfl, fun _ => hs_done (Y := lookY ⟨((l0 :: L)).map Prod.snd, vs, nx⟩ s w t) rfl ?_ ?_ ?_ ?_⟩
      · first | exact .inl rfl | exact .inr (.inl ⟨_, _, _, _, rfl⟩)
      · exact .inr (.inl ⟨_, _, _, _, rfl⟩)
      · exact frz_ohS (x := ⟨bs, (l0 :: L), none, [], nx⟩) (by unfold OH.M; dsimp only; (try simp only [vwM, List.nil_append]); (first | exact ⟨_, .refl _⟩ | exact wkMem.rfl' | exact ⟨_, .swap _ _ _⟩ | (repeat (first | exact wkMem.nil _ | exact wkMem.rfl' | exact wk_snoc _ _ _ | exact wk_fam (by assumption) _ _ _ | exact wk_famN (by assumption) _ _ _ | (apply wkMem.cons; (case' hl => (repeat (first | exact .here _ _ _ | apply Look.there)))) | apply wkMem.skip))))
      · have e : (lookY ⟨((l0 :: L)).map Prod.snd, vs, nx⟩ s w t).views.map encVw = vs.map encVw ++ [.agg [.int .i64 s, .int .i64 w, .int .i64 t]] := by simp [lookY, encVw]
        rw [e]
        (try rw [ho rfl])
        (try simp only [List.map_nil, List.nil_append])
        exact frz_row (by repeat (first | exact .here _ _ _ | apply Look.there)) _ (by simp)
    · have hsz := hsize_ok W w t
      generalize hE : lookE ⟨((l0 :: L)).map Prod.snd, vs, nx⟩ s w t = E
      try have hlc : (l0 :: L).length = L.length + 1 := rfl
      by_cases h1 : s < 0
      · obtain rfl : E = 6 := by
          rw [← hE]
          unfold lookE
          dsimp only
          simp only [List.length_map, List.length_cons, List.length_nil]
          repeat' split
          all_goals first | rfl | (exfalso; omega)
        refine acalls_of_vc (DL_ok (by decide)) Tryd.func37 rfl (by decide) (by decide) rfl ?_
        refine g0_ ?_
        refine headL_ (head_ ?_); refine g0_ ?_
        refine g1_ ?_
        exact ⟨rfl, fun h => by cases h⟩
      by_cases h2 : (((l0 :: L)).length : Int) ≤ s
      · obtain rfl : E = 6 := by
          rw [← hE]
          unfold lookE
          dsimp only
          simp only [List.length_map, List.length_cons, List.length_nil]
          repeat' split
          all_goals first | rfl | (exfalso; omega)
        refine acalls_of_vc (DL_ok (by decide)) Tryd.func37 rfl (by decide) (by decide) rfl ?_
        refine g0_ ?_
        refine headL_ (head_ ?_); refine g0_ ?_
        refine g1_ ?_
        exact ⟨rfl, fun h => by cases h⟩
      by_cases h3 : w < 1
      · obtain rfl : E = 3 := by
          rw [← hE]
          unfold lookE
          dsimp only
          simp only [List.length_map, List.length_cons, List.length_nil]
          repeat' split
          all_goals first | rfl | (exfalso; omega)
        rw [show decide (1 ≤ w) = false from decide_eq_false (by omega), Bool.false_and] at hsz
        refine acalls_of_vc (DL_ok (by decide)) Tryd.func37 rfl (by decide) (by decide) rfl ?_
        refine g0_ ?_
        refine headL_ (head_ ?_); refine g0_ ?_
        refine g1_ ?_
        refine (hsz).use ?_; refine g0_ ?_
        refine g1_ ?_
        exact ⟨rfl, fun h => by cases h⟩
      rw [show decide (1 ≤ w) = true from decide_eq_true (by omega), Bool.true_and] at hsz
      by_cases h4 : 120 < w
      · obtain rfl : E = 3 := by
          rw [← hE]
          unfold lookE
          dsimp only
          simp only [List.length_map, List.length_cons, List.length_nil]
          repeat' split
          all_goals first | rfl | (exfalso; omega)
        rw [show decide (w ≤ 120) = false from decide_eq_false (by omega), Bool.false_and] at hsz
        refine acalls_of_vc (DL_ok (by decide)) Tryd.func37 rfl (by decide) (by decide) rfl ?_
        refine g0_ ?_
        refine headL_ (head_ ?_); refine g0_ ?_
        refine g1_ ?_
        refine (hsz).use ?_; refine g0_ ?_
        refine g1_ ?_
        exact ⟨rfl, fun h => by cases h⟩
      rw [show decide (w ≤ 120) = true from decide_eq_true (by omega), Bool.true_and] at hsz
      by_cases h5 : t < 1
      · obtain rfl : E = 3 := by
          rw [← hE]
          unfold lookE
          dsimp only
          simp only [List.length_map, List.length_cons, List.length_nil]
          repeat' split
          all_goals first | rfl | (exfalso; omega)
        rw [show decide (1 ≤ t) = false from decide_eq_false (by omega), Bool.false_and] at hsz
        refine acalls_of_vc (DL_ok (by decide)) Tryd.func37 rfl (by decide) (by decide) rfl ?_
        refine g0_ ?_
        refine headL_ (head_ ?_); refine g0_ ?_
        refine g1_ ?_
        refine (hsz).use ?_; refine g0_ ?_
        refine g1_ ?_
        exact ⟨rfl, fun h => by cases h⟩
      rw [show decide (1 ≤ t) = true from decide_eq_true (by omega), Bool.true_and] at hsz
      by_cases h6 : 60 < t
      · obtain rfl : E = 3 := by
          rw [← hE]
          unfold lookE
          dsimp only
          simp only [List.length_map, List.length_cons, List.length_nil]
          repeat' split
          all_goals first | rfl | (exfalso; omega)
        rw [show decide (t ≤ 60) = false from decide_eq_false (by omega)] at hsz
        refine acalls_of_vc (DL_ok (by decide)) Tryd.func37 rfl (by decide) (by decide) rfl ?_
        refine g0_ ?_
        refine headL_ (head_ ?_); refine g0_ ?_
        refine g1_ ?_
        refine (hsz).use ?_; refine g0_ ?_
        refine g1_ ?_
        exact ⟨rfl, fun h => by cases h⟩
      rw [show decide (t ≤ 60) = true from decide_eq_true (by omega)] at hsz
      by_cases h7 : vs.length = 4
      · obtain rfl : E = 10 := by
          rw [← hE]
          unfold lookE
          dsimp only
          simp only [List.length_map, List.length_cons, List.length_nil]
          repeat' split
          all_goals first | rfl | (exfalso; omega)
        refine acalls_of_vc (DL_ok (by decide)) Tryd.func37 rfl (by decide) (by decide) rfl ?_
        refine g0_ ?_
        refine headL_ (head_ ?_); refine g0_ ?_
        refine g1_ ?_
        refine (hsz).use ?_; refine g0_ ?_
        refine g1_ ?_
        exact ⟨rfl, fun h => by cases h⟩
      obtain rfl : E = 0 := by
        rw [← hE]
        unfold lookE
        dsimp only
        simp only [List.length_map, List.length_cons, List.length_nil]
        repeat' split
        all_goals first | rfl | (exfalso; omega)
      refine acalls_of_vc (DL_ok (by decide)) Tryd.func37 rfl (by decide) (by decide) rfl ?_
      refine g0_ ?_
      refine headL_ (head_ ?_); refine g0_ ?_
      refine g1_ ?_
      refine (hsz).use ?_; refine g0_ ?_
      refine g1_ ?_
      refine Draws10.chain ⟨14, [.new, .new, .new, .new, .new, .new, .new, .new, .new, .new, .turn, .skip, .skip, .skip], [(10, [.again, .keep, .keep, .keep, .keep, .keep, .keep, .keep, .keep, .keep, .keep, .new, .new, .turn]), (13, [.keep, .keep, .keep, .keep, .keep, .keep, .keep, .keep, .keep, .keep, .keep, .keep, .keep, .keep])], by decide +kernel, ?_⟩; (refine g0_ ?_; repeat (refine n2_ fun b_ => ?_; refine g0_ ?_))
      refine ⟨rfl, fun _ => hs_done (Y := lookY ⟨((l0 :: L)).map Prod.snd, vs, nx⟩ s w t) rfl ?_ ?_ ?_ ?_⟩
      · first | exact .inl rfl | exact .inr (.inl ⟨_, _, _, _, rfl⟩)
      · exact .inr (.inl ⟨_, _, _, _, rfl⟩)
      · exact frz_ohS (x := ⟨bs, (l0 :: L), none, [], nx⟩) (by unfold OH.M; dsimp only; (try simp only [vwM, List.nil_append]); (first | exact ⟨_, .refl _⟩ | exact wkMem.rfl' | exact ⟨_, .swap _ _ _⟩ | (repeat (first | exact wkMem.nil _ | exact wkMem.rfl' | exact wk_snoc _ _ _ | exact wk_fam (by assumption) _ _ _ | exact wk_famN (by assumption) _ _ _ | (apply wkMem.cons; (case' hl => (repeat (first | exact .here _ _ _ | apply Look.there)))) | apply wkMem.skip))))
      · have e : (lookY ⟨((l0 :: L)).map Prod.snd, vs, nx⟩ s w t).views.map encVw = vs.map encVw ++ [.agg [.int .i64 s, .int .i64 w, .int .i64 t]] := by simp [lookY, encVw]
        rw [e]
        (try rw [ho rfl])
        (try simp only [List.map_nil, List.nil_append])
        exact frz_row (by repeat (first | exact .here _ _ _ | apply Look.there)) _ (by simp)
end Go.Eng.YtmodblkagimhlaaDoor
end

/- Houses: Look, the size of a session, the law HouseLook (b_ x_ q_ e_). -/
section
namespace Go.Eng.YtmodblkagimhlaaDoor
open Go Go.Eng Go.Proofs
variable (W : World)
set_option linter.unusedSimpArgs false
set_option maxRecDepth 100000
set_option linter.unusedVariables false
set_option maxHeartbeats 8000000
theorem hlookP_ok (hT : Tabs W) (h : Hs) (hok : h.ok) (s w t : Int) :
    Pure Tryd.prog W 36 [encHs h, .int .i64 s, .int .i64 w, .int .i64 t] (.tup [encHs (chgR h (lookE h s w t) (lookY h s w t)).1, .int .i64 (chgR h (lookE h s w t) (lookY h s w t)).2]) := by
  have hg := fun h0 b b1 b2 b3 x hx ho => hlook1_ok W h (right_ses h0).1 (right_ses h0).2.1 s w t b b1 b2 b3 x hx ho
  generalize lookE h s w t = E at *
  generalize lookY h s w t = Y at *
  by_cases h0 : chkH h = 0
  · have hg := hg h0
    have hc := fun cap τ hg => changeH_ok W hT h hok h0 89 cap τ E Y hg
    unfold chgR
    rw [if_neg (by simpa using h0)]
    by_cases hE : E = 0
    · rw [if_pos hE, ← hE]
      rw [if_pos hE] at hc
      dsimp only
      rw [encHs_mk h] at *
      rw [encHs_mk Y] at *
      refine Pure.of (acalls_of_vc (drawOk W) Tryd.func36 rfl (by decide) (by decide) rfl ?_)
      (refine g0_ ?_; repeat (refine n1_ fun b_ => ?_; refine g0_ ?_))
      refine ACalls.lendF (hc _ _ (fun b x hx ho => hg b _ _ _ x hx ho)) (lookH3 (by repeat (first | exact .here _ _ _ | apply Look.there)) (by repeat (first | exact .here _ _ _ | apply Look.there)) (by repeat (first | exact .here _ _ _ | apply Look.there))) ?_
      refine g0_ ?_
      exact .refl _
    · rw [if_neg hE]
      rw [if_neg hE] at hc
      dsimp only
      rw [encHs_mk h] at *
      rw [encHs_mk noHs] at *
      refine Pure.of (acalls_of_vc (drawOk W) Tryd.func36 rfl (by decide) (by decide) rfl ?_)
      (refine g0_ ?_; repeat (refine n1_ fun b_ => ?_; refine g0_ ?_))
      refine ACalls.lendF (hc _ _ (fun b x hx ho => hg b _ _ _ x hx ho)) (lookH3 (by repeat (first | exact .here _ _ _ | apply Look.there)) (by repeat (first | exact .here _ _ _ | apply Look.there)) (by repeat (first | exact .here _ _ _ | apply Look.there))) ?_
      refine g0_ ?_
      exact .refl _
  · have hc := fun cap => changeH_bad W hT h hok h0 89 cap
    unfold chgR
    rw [if_pos h0]
    dsimp only
    generalize chkH h = C at *
    rw [encHs_mk h, encHs_mk noHs] at *
    refine Pure.of (acalls_of_vc (drawOk W) Tryd.func36 rfl (by decide) (by decide) rfl ?_)
    (refine g0_ ?_; repeat (refine n1_ fun b_ => ?_; refine g0_ ?_))
    refine (hc _).use ?_; refine g0_ ?_
    exact .refl _
theorem hlook1P_ok (hT : Tabs W) (h : Hs) (hok : h.ok) (s w t : Int) :
    Pure Tryd.prog W 35 [encHs h, .ip (.int .i64 s) 0, .ip (.int .i64 w) 0, .ip (.int .i64 t) 0] (.tup [encHs (chgR h (lookE h s w t) (lookY h s w t)).1, .int .i64 (chgR h (lookE h s w t) (lookY h s w t)).2]) := by
  have hs := hlookP_ok W hT h hok s w t
  generalize chgR h (lookE h s w t) (lookY h s w t) = R at *
  obtain ⟨X, E⟩ := R
  dsimp only at *
  rw [encHs_mk h, encHs_mk X] at *
  refine Pure.of (acalls_of_vc (drawOk W) Tryd.func35 rfl (by decide) (by decide) rfl ?_)
  (refine g0_ ?_; repeat (refine n1_ fun b_ => ?_; refine g0_ ?_))
  refine (hs).use ?_; refine g0_ ?_
  exact .refl _
/-- How large a session is: the smallest of those that look at it. -/
def stepV (s : Int) (p : Int × Int) (v : Vw) : Int × Int := if v.s = s then (if p.1 = 0 ∨ v.w < p.1 then v.w else p.1, if p.2 = 0 ∨ v.h < p.2 then v.h else p.2) else p
def sizeV (s : Int) (l : List Vw) : Int × Int := l.foldl (stepV s) (0, 0)
def tallV (t : Int) : Int := if 1 < t then t - 1 else t
theorem sizeV_snoc (s : Int) {l : List Vw} {i : Nat} {v : Vw} (h : l[i]? = some v) : sizeV s (l.take (i + 1)) = stepV s (sizeV s (l.take i)) v := by
  rw [take_snoc_of h, sizeV, List.foldl_append]; rfl
def Vw.fair (v : Vw) : Prop := 1 ≤ v.w ∧ v.w ≤ 120 ∧ 1 ≤ v.h ∧ v.h ≤ 60
theorem sizeV_fair (s : Int) : ∀ (l : List Vw) (p : Int × Int), (∀ v ∈ l, v.fair) → ((p.1 = 0 ∧ p.2 = 0) ∨ (1 ≤ p.1 ∧ p.1 ≤ 120 ∧ 1 ≤ p.2 ∧ p.2 ≤ 60)) → (((l.foldl (stepV s) p).1 = 0 ∧ (l.foldl (stepV s) p).2 = 0) ∨ (1 ≤ (l.foldl (stepV s) p).1 ∧ (l.foldl (stepV s) p).1 ≤ 120 ∧ 1 ≤ (l.foldl (stepV s) p).2 ∧ (l.foldl (stepV s) p).2 ≤ 60))
  | [], p, _, hp => hp
  | v :: l, p, h, hp => by
    refine sizeV_fair s l _ (fun x hx => h x (List.mem_cons_of_mem _ hx)) ?_
    obtain ⟨h1, h2, h3, h4⟩ := h v List.mem_cons_self
    unfold stepV
    split
    · right
      dsimp only
      refine ⟨?_, ?_, ?_, ?_⟩ <;> (split <;> omega)
    · exact hp
theorem vws_fair {n : Nat} : ∀ {l : List Vw}, chkVs n l = 0 → ∀ v ∈ l, v.fair
  | [], _, v, hv => by cases hv
  | x :: l, h, v, hv => by
    unfold chkVs at h
    split at h
    · rename_i hc; exact absurd h hc
    · rename_i hc
      rcases List.mem_cons.1 hv with rfl | hv
      · unfold chkV at hc
        split at hc
        · exact absurd (by decide) hc
        · split at hc
          · exact absurd (by decide) hc
          · rename_i g; exact ⟨by omega, by omega, by omega, by omega⟩
      · exact vws_fair h v hv
/-- What it says: the size, and what is wrong. -/
def sizeE (h : Hs) (s : Int) : Int := if chkH h ≠ 0 then chkH h else if s < 0 then 6 else if (h.ses.length : Int) ≤ s then 6 else 0
def sizeR (h : Hs) (s : Int) : Int × Int := if sizeE h s = 0 then ((sizeV s h.views).1, tallV (sizeV s h.views).2) else (0, 0)
theorem sizeP_ok (hT : Tabs W) (h : Hs) (hok : h.ok) (s : Int) : Pure Tryd.prog W 34 [encHs h, .int .i64 s] (.tup [.int .i64 (sizeR h s).1, .int .i64 (sizeR h s).2, .int .i64 (sizeE h s)]) := by
  have hck := checkH_ok W hT h hok
  have hsl := hok.ses
  have hvl := hok.views
  have hm1 : (h.ses.map encSes).length = h.ses.length := List.length_map _
  have hm2 : (h.views.map encVw).length = h.views.length := List.length_map _
  by_cases h0 : chkH h = 0
  · rw [h0] at hck
    by_cases h1 : s < 0
    · rw [show sizeR h s = (0, 0) from if_neg (by unfold sizeE; rw [if_neg (by simpa using h0), if_pos h1]; decide), show sizeE h s = 6 from by unfold sizeE; rw [if_neg (by simpa using h0), if_pos h1]]
      rw [encHs_mk h] at *
      refine Pure.of (acalls_of_vc (DL_ok (by decide)) Tryd.func34 rfl (by decide) (by decide) rfl ?_)
      (refine g0_ ?_; repeat (refine n1_ fun b_ => ?_; refine g0_ ?_))
      refine (hck).use ?_; refine g0_ ?_
      refine g1_ ?_
      exact .refl _
    by_cases h2 : (h.ses.length : Int) ≤ s
    · rw [show sizeR h s = (0, 0) from if_neg (by unfold sizeE; rw [if_neg (by simpa using h0), if_neg h1, if_pos h2]; decide), show sizeE h s = 6 from by unfold sizeE; rw [if_neg (by simpa using h0), if_neg h1, if_pos h2]]
      rw [encHs_mk h] at *
      refine Pure.of (acalls_of_vc (DL_ok (by decide)) Tryd.func34 rfl (by decide) (by decide) rfl ?_)
      (refine g0_ ?_; repeat (refine n1_ fun b_ => ?_; refine g0_ ?_))
      refine (hck).use ?_; refine g0_ ?_
      refine g1_ ?_
      exact .refl _
    have hE : sizeE h s = 0 := by unfold sizeE; rw [if_neg (by simpa using h0), if_neg h1, if_neg h2]
    rw [show sizeR h s = ((sizeV s h.views).1, tallV (sizeV s h.views).2) from if_pos hE, hE]
    dsimp only
    have hf := vws_fair (right_ses h0).2.2.2.2.2
    rw [encHs_mk h] at *
    refine Pure.of (acalls_of_vc (DL_ok (by decide)) Tryd.func34 rfl (by decide) (by decide) rfl ?_)
    (refine g0_ ?_; repeat (refine n1_ fun b_ => ?_; refine g0_ ?_))
    refine (hck).use ?_; refine g0_ ?_
    refine g1_ ?_
    refine' loopI (α := Nat × Int × Int) (fun (i, w, t) => [(4, .int .i64 w), (5, .int .i64 t), (27, .int .i64 i)]) [(1, _), (25, _), (26, _)] (fun (i, w, t) => [⟨b_, .row 3 [.agg [.sl 4 (h.ses.map encSes), .sl 3 (h.views.map encVw), .int .i64 h.next]] 0⟩]) (fun (i, w, t) => i ≤ h.views.length ∧ sizeV s (h.views.take i) = (w, t)) (fun (i, w, t) => h.views.length - i) (0, 0, 0) ?_ ?_
    · exact ⟨Nat.zero_le _, rfl⟩
    rintro ⟨i, w, t⟩ ⟨hi, hw⟩
    have hfr := sizeV_fair s (h.views.take i) (0, 0) (fun v hv => hf v (List.mem_of_mem_take hv)) (.inl ⟨rfl, rfl⟩)
    rw [show (h.views.take i).foldl (stepV s) (0, 0) = (w, t) from hw] at hfr
    dsimp only at hfr
    by_cases hie : i = h.views.length
    · subst hie
      rw [List.take_length] at hw
      rw [hw]
      refine g0_ ?_
      refine g1_ ?_
      refine .of_eq ?_
      have e : (if t - 1 < if 1 < t then 1 else t then if 1 < t then 1 else t else t - 1) = tallV t := by
        unfold tallV
        by_cases g1 : 1 < t
        · simp only [if_pos g1]; split <;> omega
        · simp only [if_neg g1]; split <;> omega
      dsimp only
      rw [e]
    · have hil : i < h.views.length := by omega
      obtain ⟨v, hv⟩ : ∃ v, h.views[i]? = some v := ⟨_, List.getElem?_eq_getElem hil⟩
      have hsn := sizeV_snoc s hv
      rw [hw] at hsn
      obtain ⟨v1, v2, v3, v4⟩ := hf v (List.mem_of_getElem? hv)
      by_cases hvs : v.s = s
      · by_cases hw0 : w = 0
        · refine g0_ ?_
          (refine g1_ ?_; repeat (refine n1_ fun b_ => ?_; refine g1_ ?_))
          refine headL_ (head_ ?_); refine g0_ ?_
          refine headL_ (head_ ?_); refine g0_ ?_
          refine nx_ (i + 1, (if v.w < v.w then v.w else v.w), (if v.h < v.h then v.h else v.h)) ?_ ?_
          · refine ⟨hil, ?_⟩
            rw [hsn, stepV, if_pos hvs]
            simp only [ite_self]
            rw [if_pos (.inl hw0), if_pos (.inl (by omega))]
          · ((try dsimp only); (try simp only [List.length_drop, List.length_take, List.length_append, List.length_cons, List.length_nil, List.length_map] at *); omega)
        · refine g0_ ?_
          (refine g1_ ?_; repeat (refine n1_ fun b_ => ?_; refine g1_ ?_))
          refine headL_ (head_ ?_); refine g0_ ?_
          refine nx_ (i + 1, (if v.w < w then v.w else w), (if v.h < t then v.h else t)) ?_ ?_
          · refine ⟨hil, ?_⟩
            rw [hsn, stepV, if_pos hvs]
            have e1 : (w = 0 ∨ v.w < w) ↔ v.w < w := ⟨fun h => h.resolve_left hw0, .inr⟩
            have e2 : (t = 0 ∨ v.h < t) ↔ v.h < t := ⟨fun h => h.resolve_left (by omega), .inr⟩
            simp only [e1, e2]
          · ((try dsimp only); (try simp only [List.length_drop, List.length_take, List.length_append, List.length_cons, List.length_nil, List.length_map] at *); omega)
      · refine g0_ ?_
        (refine g1_ ?_; repeat (refine n1_ fun b_ => ?_; refine g1_ ?_))
        refine nx_ (i + 1, w, t) ?_ ?_
        · exact ⟨hil, by rw [hsn, stepV, if_neg hvs]⟩
        · ((try dsimp only); (try simp only [List.length_drop, List.length_take, List.length_append, List.length_cons, List.length_nil, List.length_map] at *); omega)
  · have hE : sizeE h s = chkH h := if_pos h0
    rw [show sizeR h s = (0, 0) from if_neg (by rw [hE]; exact h0), hE]
    generalize chkH h = C at *
    rw [encHs_mk h] at *
    refine Pure.of (acalls_of_vc (DL_ok (by decide)) Tryd.func34 rfl (by decide) (by decide) rfl ?_)
    (refine g0_ ?_; repeat (refine n1_ fun b_ => ?_; refine g0_ ?_))
    refine (hck).use ?_; refine g0_ ?_
    refine g1_ ?_
    exact .refl _
theorem lookY_ok {h : Hs} (hok : h.ok) (h0 : chkH h = 0) (s w t : Int) (hs : i64ok s) (hw : i64ok w) (ht : i64ok t) : (lookY h s w t).ok := by
  obtain ⟨h1, h2, h3, h4, -, -⟩ := right_ses h0
  refine ⟨hok.ses, hok.se, ?_, ?_, hok.next⟩
  · show (h.views ++ [_]).length ≤ _
    rw [List.length_append, List.length_singleton]; omega
  · intro v hv
    rcases List.mem_append.1 (show v ∈ h.views ++ [_] from hv) with hv | hv
    · exact hok.view v hv
    · obtain rfl := List.mem_singleton.1 hv
      exact ⟨hs, hw, ht⟩
theorem houseLook_ok (hT : Tabs W) (h : Hs) (hok : h.ok) (s : Int) (hs : i64ok s) (w : Int) (hw : i64ok w) (t : Int) (ht : i64ok t) : Pure Tryd.prog W 7 [encHs h, .int .i64 s, .int .i64 w, .int .i64 t] (.bool true) := by
  have hh := houses_ok W hT h hok 35 37 [.ip (.int .i64 s) 0, .ip (.int .i64 w) 0, .ip (.int .i64 t) 0] [.ip (.int .i64 s) 0, .ip (.int .i64 w) 0, .ip (.int .i64 t) 0] (lookY h s w t) (lookE h s w t)
    (fun h0 _ => lookY_ok hok h0 s w t hs hw ht) (hlook1P_ok W hT h hok s w t)
    (fun h0 => hlook2_ok W h (right_ses h0).1 (right_ses h0).2.1 s w t)
  have hsz := sizeP_ok W hT h hok s
  have hck := checkHR_ok W hT h hok
  have hsl := hok.ses
  have hvl := hok.views
  have hm1 : (h.ses.map encSes).length = h.ses.length := List.length_map _
  have hm2 : (h.views.map encVw).length = h.views.length := List.length_map _
  by_cases h0 : chkH h = 0
  · rw [h0] at hck
    by_cases h1 : s < 0
    · have hE : sizeE h s = 6 := by unfold sizeE; rw [if_neg (by simpa using h0), if_pos h1]
      rw [show sizeR h s = (0, 0) from if_neg (by rw [hE]; decide), hE] at hsz
      rw [encHs_mk h] at *
      refine Pure.of (acalls_of_vc (DL_ok (by decide)) Tryd.func7 rfl (by decide) (by decide) rfl ?_)
      (refine g0_ ?_; repeat (refine n1_ fun b_ => ?_; refine g0_ ?_))
      refine (hsz).use ?_; refine g0_ ?_
      refine g1_ ?_
      refine hh.borrow (args' := [.agg [.sl 4 (h.ses.map encSes), .sl 3 (h.views.map encVw), .int .i64 h.next], .fn 35 [.ip (.int .i64 s) 0, .ip (.int .i64 w) 0, .ip (.int .i64 t) 0], .fn 37 [.ip (.int .i64 s) 0, .ip (.int .i64 w) 0, .ip (.int .i64 t) 0]]) rfl rfl (fun j hj => ?_) ?_
      · match j, hj with
        | 0, _ => exact .refl _
        | 1, _ => exact .fn _ _ _ rfl fun j hj => (by match j, hj with | 0, _ => exact .bref _ _ _ _ _ _ (by repeat (first | exact .here _ _ _ | apply Look.there)) | 1, _ => exact .bref _ _ _ _ _ _ (by repeat (first | exact .here _ _ _ | apply Look.there)) | 2, _ => exact .bref _ _ _ _ _ _ (by repeat (first | exact .here _ _ _ | apply Look.there)))
        | 2, _ => exact .fn _ _ _ rfl fun j hj => (by match j, hj with | 0, _ => exact .bref _ _ _ _ _ _ (by repeat (first | exact .here _ _ _ | apply Look.there)) | 1, _ => exact .bref _ _ _ _ _ _ (by repeat (first | exact .here _ _ _ | apply Look.there)) | 2, _ => exact .bref _ _ _ _ _ _ (by repeat (first | exact .here _ _ _ | apply Look.there)))
      refine g0_ ?_
      refine g1_ ?_
      refine (hck).use ?_; refine g0_ ?_
      refine g1_ ?_
      exact .of_eq (by simp)
    by_cases h2 : (h.ses.length : Int) ≤ s
    · have hE : sizeE h s = 6 := by unfold sizeE; rw [if_neg (by simpa using h0), if_neg h1, if_pos h2]
      rw [show sizeR h s = (0, 0) from if_neg (by rw [hE]; decide), hE] at hsz
      rw [encHs_mk h] at *
      refine Pure.of (acalls_of_vc (DL_ok (by decide)) Tryd.func7 rfl (by decide) (by decide) rfl ?_)
      (refine g0_ ?_; repeat (refine n1_ fun b_ => ?_; refine g0_ ?_))
      refine (hsz).use ?_; refine g0_ ?_
      refine g1_ ?_
      refine hh.borrow (args' := [.agg [.sl 4 (h.ses.map encSes), .sl 3 (h.views.map encVw), .int .i64 h.next], .fn 35 [.ip (.int .i64 s) 0, .ip (.int .i64 w) 0, .ip (.int .i64 t) 0], .fn 37 [.ip (.int .i64 s) 0, .ip (.int .i64 w) 0, .ip (.int .i64 t) 0]]) rfl rfl (fun j hj => ?_) ?_
      · match j, hj with
        | 0, _ => exact .refl _
        | 1, _ => exact .fn _ _ _ rfl fun j hj => (by match j, hj with | 0, _ => exact .bref _ _ _ _ _ _ (by repeat (first | exact .here _ _ _ | apply Look.there)) | 1, _ => exact .bref _ _ _ _ _ _ (by repeat (first | exact .here _ _ _ | apply Look.there)) | 2, _ => exact .bref _ _ _ _ _ _ (by repeat (first | exact .here _ _ _ | apply Look.there)))
        | 2, _ => exact .fn _ _ _ rfl fun j hj => (by match j, hj with | 0, _ => exact .bref _ _ _ _ _ _ (by repeat (first | exact .here _ _ _ | apply Look.there)) | 1, _ => exact .bref _ _ _ _ _ _ (by repeat (first | exact .here _ _ _ | apply Look.there)) | 2, _ => exact .bref _ _ _ _ _ _ (by repeat (first | exact .here _ _ _ | apply Look.there)))
      refine g0_ ?_
      refine g1_ ?_
      refine (hck).use ?_; refine g0_ ?_
      refine g1_ ?_
      exact .of_eq (by simp)
    have hE : sizeE h s = 0 := by unfold sizeE; rw [if_neg (by simpa using h0), if_neg h1, if_neg h2]
    rw [show sizeR h s = ((sizeV s h.views).1, tallV (sizeV s h.views).2) from if_pos hE, hE] at hsz
    dsimp only at hsz
    have hf := vws_fair (right_ses h0).2.2.2.2.2
    obtain ⟨zw, hzw⟩ : ∃ z, z = (sizeV s h.views).1 := ⟨_, rfl⟩
    obtain ⟨zt, hzt⟩ : ∃ z, z = tallV (sizeV s h.views).2 := ⟨_, rfl⟩
    rw [← hzw, ← hzt] at hsz
    rw [encHs_mk h] at *
    refine Pure.of (acalls_of_vc (DL_ok (by decide)) Tryd.func7 rfl (by decide) (by decide) rfl ?_)
    (refine g0_ ?_; repeat (refine n1_ fun b_ => ?_; refine g0_ ?_))
    refine (hsz).use ?_; refine g0_ ?_
    refine g1_ ?_
    refine hh.borrow (args' := [.agg [.sl 4 (h.ses.map encSes), .sl 3 (h.views.map encVw), .int .i64 h.next], .fn 35 [.ip (.int .i64 s) 0, .ip (.int .i64 w) 0, .ip (.int .i64 t) 0], .fn 37 [.ip (.int .i64 s) 0, .ip (.int .i64 w) 0, .ip (.int .i64 t) 0]]) rfl rfl (fun j hj => ?_) ?_
    · match j, hj with
      | 0, _ => exact .refl _
      | 1, _ => exact .fn _ _ _ rfl fun j hj => (by match j, hj with | 0, _ => exact .bref _ _ _ _ _ _ (by repeat (first | exact .here _ _ _ | apply Look.there)) | 1, _ => exact .bref _ _ _ _ _ _ (by repeat (first | exact .here _ _ _ | apply Look.there)) | 2, _ => exact .bref _ _ _ _ _ _ (by repeat (first | exact .here _ _ _ | apply Look.there)))
      | 2, _ => exact .fn _ _ _ rfl fun j hj => (by match j, hj with | 0, _ => exact .bref _ _ _ _ _ _ (by repeat (first | exact .here _ _ _ | apply Look.there)) | 1, _ => exact .bref _ _ _ _ _ _ (by repeat (first | exact .here _ _ _ | apply Look.there)) | 2, _ => exact .bref _ _ _ _ _ _ (by repeat (first | exact .here _ _ _ | apply Look.there)))
    refine g0_ ?_
    refine g1_ ?_
    refine (hck).use ?_; refine g0_ ?_
    refine g1_ ?_
    rename_i b4 b5 b6
    obtain ⟨b7, rfl⟩ : ∃ z, z = b_ := ⟨_, rfl⟩
    refine' loopI (α := Nat × Int × Int) (fun (i, cw, ct) => [(14, .int .i64 cw), (15, .int .i64 ct), (67, .int .i64 i)]) [(5, _), (9, _), (10, _), (11, _), (65, _), (66, _)] (fun (i, cw, ct) => [⟨b7, .row 1 [.int .i64 t] 0⟩, ⟨b6, .row 1 [.int .i64 w] 0⟩, ⟨b5, .row 1 [.int .i64 s] 0⟩, ⟨b4, .row 3 [.agg [.sl 4 (h.ses.map encSes), .sl 3 (h.views.map encVw), .int .i64 h.next]] 0⟩]) (fun (i, cw, ct) => i ≤ h.views.length ∧ sizeV s (h.views.take i) = (cw, ct)) (fun (i, cw, ct) => h.views.length - i) (0, 0, 0) ?_ ?_
    · exact ⟨Nat.zero_le _, rfl⟩
    rintro ⟨i, cw, ct⟩ ⟨hi, hcw⟩
    have hfr := sizeV_fair s (h.views.take i) (0, 0) (fun v hv => hf v (List.mem_of_mem_take hv)) (.inl ⟨rfl, rfl⟩)
    rw [show (h.views.take i).foldl (stepV s) (0, 0) = (cw, ct) from hcw] at hfr
    dsimp only at hfr
    by_cases hie : i = h.views.length
    · subst hie
      rw [List.take_length] at hcw
      rw [hcw] at hzw hzt
      dsimp only at hzw hzt
      subst hzw
      by_cases g1 : 1 < ct
      · rw [tallV, if_pos g1] at hzt
        subst hzt
        refine g0_ ?_
        refine g1_ ?_
        exact .of_eq (by simp)
      · rw [tallV, if_neg g1] at hzt
        subst hzt
        refine g0_ ?_
        refine g1_ ?_
        exact .of_eq (by simp)
    · have hil : i < h.views.length := by omega
      obtain ⟨v, hv⟩ : ∃ v, h.views[i]? = some v := ⟨_, List.getElem?_eq_getElem hil⟩
      have hsn := sizeV_snoc s hv
      rw [hcw] at hsn
      obtain ⟨v1, v2, v3, v4⟩ := hf v (List.mem_of_getElem? hv)
      by_cases hvs : v.s = s
      · by_cases g1 : cw = 0
        · have g2 : ct = 0 := by omega
          refine g0_ ?_
          (refine g1_ ?_; repeat (refine n1_ fun b_ => ?_; refine g1_ ?_))
          refine nx_ (i + 1, v.w, v.h) ?_ ?_
          · refine ⟨hil, ?_⟩
            rw [hsn, stepV, if_pos hvs]
            rw [if_pos (.inl g1), if_pos (.inl g2)]
          · ((try dsimp only); (try simp only [List.length_drop, List.length_take, List.length_append, List.length_cons, List.length_nil, List.length_map] at *); omega)
        · have g2 : ct ≠ 0 := by omega
          by_cases g3 : v.w < cw
          · by_cases g4 : v.h < ct
            · refine g0_ ?_
              (refine g1_ ?_; repeat (refine n1_ fun b_ => ?_; refine g1_ ?_))
              refine nx_ (i + 1, v.w, v.h) ?_ ?_
              · refine ⟨hil, ?_⟩
                rw [hsn, stepV, if_pos hvs]
                rw [if_pos (.inr g3), if_pos (.inr g4)]
              · ((try dsimp only); (try simp only [List.length_drop, List.length_take, List.length_append, List.length_cons, List.length_nil, List.length_map] at *); omega)
            · refine g0_ ?_
              (refine g1_ ?_; repeat (refine n1_ fun b_ => ?_; refine g1_ ?_))
              refine nx_ (i + 1, v.w, ct) ?_ ?_
              · refine ⟨hil, ?_⟩
                rw [hsn, stepV, if_pos hvs]
                rw [if_pos (.inr g3), if_neg (by omega)]
              · ((try dsimp only); (try simp only [List.length_drop, List.length_take, List.length_append, List.length_cons, List.length_nil, List.length_map] at *); omega)
          · by_cases g4 : v.h < ct
            · refine g0_ ?_
              (refine g1_ ?_; repeat (refine n1_ fun b_ => ?_; refine g1_ ?_))
              refine nx_ (i + 1, cw, v.h) ?_ ?_
              · refine ⟨hil, ?_⟩
                rw [hsn, stepV, if_pos hvs]
                rw [if_neg (by omega), if_pos (.inr g4)]
              · ((try dsimp only); (try simp only [List.length_drop, List.length_take, List.length_append, List.length_cons, List.length_nil, List.length_map] at *); omega)
            · refine g0_ ?_
              (refine g1_ ?_; repeat (refine n1_ fun b_ => ?_; refine g1_ ?_))
              refine nx_ (i + 1, cw, ct) ?_ ?_
              · refine ⟨hil, ?_⟩
                rw [hsn, stepV, if_pos hvs]
                rw [if_neg (by omega), if_neg (by omega)]
              · ((try dsimp only); (try simp only [List.length_drop, List.length_take, List.length_append, List.length_cons, List.length_nil, List.length_map] at *); omega)
      · refine g0_ ?_
        (refine g1_ ?_; repeat (refine n1_ fun b_ => ?_; refine g1_ ?_))
        refine nx_ (i + 1, cw, ct) ?_ ?_
        · exact ⟨hil, by rw [hsn, stepV, if_neg hvs]⟩
        · ((try dsimp only); (try simp only [List.length_drop, List.length_take, List.length_append, List.length_cons, List.length_nil, List.length_map] at *); omega)
  · have hE : sizeE h s = chkH h := if_pos h0
    rw [show sizeR h s = (0, 0) from if_neg (by rw [hE]; exact h0), hE] at hsz
    generalize chkH h = C at *
    rw [encHs_mk h] at *
    refine Pure.of (acalls_of_vc (DL_ok (by decide)) Tryd.func7 rfl (by decide) (by decide) rfl ?_)
    (refine g0_ ?_; repeat (refine n1_ fun b_ => ?_; refine g0_ ?_))
    refine (hsz).use ?_; refine g0_ ?_
    refine g1_ ?_
    refine hh.borrow (args' := [.agg [.sl 4 (h.ses.map encSes), .sl 3 (h.views.map encVw), .int .i64 h.next], .fn 35 [.ip (.int .i64 s) 0, .ip (.int .i64 w) 0, .ip (.int .i64 t) 0], .fn 37 [.ip (.int .i64 s) 0, .ip (.int .i64 w) 0, .ip (.int .i64 t) 0]]) rfl rfl (fun j hj => ?_) ?_
    · match j, hj with
      | 0, _ => exact .refl _
      | 1, _ => exact .fn _ _ _ rfl fun j hj => (by match j, hj with | 0, _ => exact .bref _ _ _ _ _ _ (by repeat (first | exact .here _ _ _ | apply Look.there)) | 1, _ => exact .bref _ _ _ _ _ _ (by repeat (first | exact .here _ _ _ | apply Look.there)) | 2, _ => exact .bref _ _ _ _ _ _ (by repeat (first | exact .here _ _ _ | apply Look.there)))
      | 2, _ => exact .fn _ _ _ rfl fun j hj => (by match j, hj with | 0, _ => exact .bref _ _ _ _ _ _ (by repeat (first | exact .here _ _ _ | apply Look.there)) | 1, _ => exact .bref _ _ _ _ _ _ (by repeat (first | exact .here _ _ _ | apply Look.there)) | 2, _ => exact .bref _ _ _ _ _ _ (by repeat (first | exact .here _ _ _ | apply Look.there)))
    refine g0_ ?_
    refine g1_ ?_
    refine (hck).use ?_; refine g0_ ?_
    refine g1_ ?_
    exact .of_eq (by simp)
end Go.Eng.YtmodblkagimhlaaDoor
end
