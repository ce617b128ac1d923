/- Texts put together: Prs22. -/
import Derived.Test.YtkcldifniomfoaaDoorMQ5
import Derived.Test.YtkcldifniomfoaaDoorMQ7
import Derived.Test.YtkcldifniomfoaaDoorMQ8
/- The reader of escape sequences: the law ParseFeed (b_). -/
section
namespace Go.Eng.YtkcldifniomfoaaDoor
open Go Go.Eng Go.Proofs
variable (W : World)
set_option linter.unusedSimpArgs false
set_option maxRecDepth 100000
set_option linter.unusedVariables false
set_option maxHeartbeats 8000000
theorem clone_pure (l : List Int) (hl : l.length * 8 ≤ 140737488351232) : Pure Tryd.prog W 17 [.sl 1 (l.map (PV.int .i64))] (.sl 1 (l.map (PV.int .i64))) := by
  rcases l with _ | ⟨x, l⟩
  · exact clone_intsE W
  · simp only [List.length_cons] at hl
    exact ACalls.pure (clone_ints1 W x l (by omega)) fun b _ => frz_row (.here _ _ _) _ rfl
theorem parseFeed_ok (hT : Tabs W) (s : PSt) (hs : s.fair) (hp : s.params.length * 8 ≤ 140737488351232) (b : List UInt8) (hb : b.length ≤ 140737488355328) : Pure Tryd.prog W 7 [encSt s, .str b] (.bool true) := by
  have hc := clone_pure W s.params hp
  have h1 := feed_all W hT s b hs
  have hck := checkState_ok W hT s hs
  have hpk := pcheck_ok W hT s hs
  have hr := readIn_ok W hT
  have hss := sameState_ok W s s hs.par
  have hs0 := sameState_zero W st0 (by decide)
  rw [decide_eq_true rfl] at hss hs0
  by_cases hok : s.ok
  · rw [decide_eq_true hok] at hck hpk
    by_cases hbl : 4000 < b.length
    · rw [show feedR s b = ((st0, []), 2) by rw [feedR, if_pos hok, if_pos hbl]] at h1
      obtain ⟨a, m, mi, p, t, l, la⟩ := s
      simp only [zeroSt, feedV, encSt, stV, encInts, encEvs, st0, List.map_nil] at *
      refine Pure.of (acalls_of_vc (drawOk W) Tryd.func7 rfl (by decide) (by decide) rfl ?_)
      (refine g0_ ?_; repeat ((first | refine n1_ fun b_ => ?_ | refine n2_ fun b_ => ?_); refine g0_ ?_))
      refine (hc).use ?_; (refine g0_ ?_; repeat ((first | refine n1_ fun b_ => ?_ | refine n2_ fun b_ => ?_); refine g0_ ?_))
      (refine g0_ ?_; repeat ((first | refine n1_ fun b_ => ?_ | refine n2_ fun b_ => ?_); refine g0_ ?_))
      refine (h1).use ?_; (refine g0_ ?_; repeat ((first | refine n1_ fun b_ => ?_ | refine n2_ fun b_ => ?_); refine g0_ ?_))
      (refine g0_ ?_; repeat ((first | refine n1_ fun b_ => ?_ | refine n2_ fun b_ => ?_); refine g0_ ?_))
      refine (hck).use ?_; (refine g0_ ?_; repeat ((first | refine n1_ fun b_ => ?_ | refine n2_ fun b_ => ?_); refine g0_ ?_))
      (refine g0_ ?_; repeat ((first | refine n1_ fun b_ => ?_ | refine n2_ fun b_ => ?_); refine g0_ ?_))
      refine (hr).use ?_; (refine g0_ ?_; repeat ((first | refine n1_ fun b_ => ?_ | refine n2_ fun b_ => ?_); refine g0_ ?_))
      (refine g0_ ?_; repeat ((first | refine n1_ fun b_ => ?_ | refine n2_ fun b_ => ?_); refine g0_ ?_))
      refine (hpk).use ?_; (refine g0_ ?_; repeat ((first | refine n1_ fun b_ => ?_ | refine n2_ fun b_ => ?_); refine g0_ ?_))
      (refine g0_ ?_; repeat ((first | refine n1_ fun b_ => ?_ | refine n2_ fun b_ => ?_); refine g0_ ?_))
      refine (hss).use ?_; (refine g0_ ?_; repeat ((first | refine n1_ fun b_ => ?_ | refine n2_ fun b_ => ?_); refine g0_ ?_))
      (refine g0_ ?_; repeat ((first | refine n1_ fun b_ => ?_ | refine n2_ fun b_ => ?_); refine g0_ ?_))
      (refine g1_ ?_; repeat ((first | refine n1_ fun b_ => ?_ | refine n2_ fun b_ => ?_); refine g1_ ?_))
      refine (hs0).use ?_; (refine g0_ ?_; repeat ((first | refine n1_ fun b_ => ?_ | refine n2_ fun b_ => ?_); refine g0_ ?_))
      (refine g0_ ?_; repeat ((first | refine n1_ fun b_ => ?_ | refine n2_ fun b_ => ?_); refine g0_ ?_))
      exact .refl _
    · rw [show feedR s b = (feedL s b, 0) by rw [feedR, if_pos hok, if_neg hbl]] at h1
      have hrd := read_ok W hT s b hok (by omega)
      have hx := feedL_ok b hok
      have hfew := feed_few b hok
      have hpar := feed_par b hok
      generalize feedL s b = q at *
      obtain ⟨x, es⟩ := q
      dsimp only at hx hfew hpar
      have hsx := sameState_ok W x x (ok_fair hx).par
      have hev := equalEvents_ok W es es (by omega) (fun e he => by have := hpar e he; omega)
      rw [decide_eq_true rfl] at hsx hev
      obtain ⟨a, m, mi, p, t, l, la⟩ := s
      simp only [zeroSt, feedV, encSt, stV, encInts, encEvs, st0, List.map_nil] at *
      refine Pure.of (acalls_of_vc (drawOk W) Tryd.func7 rfl (by decide) (by decide) rfl ?_)
      (refine g0_ ?_; repeat ((first | refine n1_ fun b_ => ?_ | refine n2_ fun b_ => ?_); refine g0_ ?_))
      refine (hc).use ?_; (refine g0_ ?_; repeat ((first | refine n1_ fun b_ => ?_ | refine n2_ fun b_ => ?_); refine g0_ ?_))
      (refine g0_ ?_; repeat ((first | refine n1_ fun b_ => ?_ | refine n2_ fun b_ => ?_); refine g0_ ?_))
      refine (h1).use ?_; (refine g0_ ?_; repeat ((first | refine n1_ fun b_ => ?_ | refine n2_ fun b_ => ?_); refine g0_ ?_))
      (refine g0_ ?_; repeat ((first | refine n1_ fun b_ => ?_ | refine n2_ fun b_ => ?_); refine g0_ ?_))
      refine (hck).use ?_; (refine g0_ ?_; repeat ((first | refine n1_ fun b_ => ?_ | refine n2_ fun b_ => ?_); refine g0_ ?_))
      (refine g0_ ?_; repeat ((first | refine n1_ fun b_ => ?_ | refine n2_ fun b_ => ?_); refine g0_ ?_))
      refine (hr).use ?_; (refine g0_ ?_; repeat ((first | refine n1_ fun b_ => ?_ | refine n2_ fun b_ => ?_); refine g0_ ?_))
      (refine g0_ ?_; repeat ((first | refine n1_ fun b_ => ?_ | refine n2_ fun b_ => ?_); refine g0_ ?_))
      refine (hpk).use ?_; (refine g0_ ?_; repeat ((first | refine n1_ fun b_ => ?_ | refine n2_ fun b_ => ?_); refine g0_ ?_))
      (refine g0_ ?_; repeat ((first | refine n1_ fun b_ => ?_ | refine n2_ fun b_ => ?_); refine g0_ ?_))
      refine (hss).use ?_; (refine g0_ ?_; repeat ((first | refine n1_ fun b_ => ?_ | refine n2_ fun b_ => ?_); refine g0_ ?_))
      (refine g0_ ?_; repeat ((first | refine n1_ fun b_ => ?_ | refine n2_ fun b_ => ?_); refine g0_ ?_))
      (refine g1_ ?_; repeat ((first | refine n1_ fun b_ => ?_ | refine n2_ fun b_ => ?_); refine g1_ ?_))
      refine (hrd).use ?_; (refine g0_ ?_; repeat ((first | refine n1_ fun b_ => ?_ | refine n2_ fun b_ => ?_); refine g0_ ?_))
      (refine g0_ ?_; repeat ((first | refine n1_ fun b_ => ?_ | refine n2_ fun b_ => ?_); refine g0_ ?_))
      refine (hsx).use ?_; (refine g0_ ?_; repeat ((first | refine n1_ fun b_ => ?_ | refine n2_ fun b_ => ?_); refine g0_ ?_))
      (refine g0_ ?_; repeat ((first | refine n1_ fun b_ => ?_ | refine n2_ fun b_ => ?_); refine g0_ ?_))
      refine (hev).use ?_; (refine g0_ ?_; repeat ((first | refine n1_ fun b_ => ?_ | refine n2_ fun b_ => ?_); refine g0_ ?_))
      (refine g0_ ?_; repeat ((first | refine n1_ fun b_ => ?_ | refine n2_ fun b_ => ?_); refine g0_ ?_))
      exact .refl _
  · rw [decide_eq_false hok] at hck hpk
    rw [show feedR s b = ((st0, []), 5) by rw [feedR, if_neg hok]] at h1
    obtain ⟨a, m, mi, p, t, l, la⟩ := s
    simp only [zeroSt, feedV, encSt, stV, encInts, encEvs, st0, List.map_nil] at *
    refine Pure.of (acalls_of_vc (drawOk W) Tryd.func7 rfl (by decide) (by decide) rfl ?_)
    (refine g0_ ?_; repeat ((first | refine n1_ fun b_ => ?_ | refine n2_ fun b_ => ?_); refine g0_ ?_))
    refine (hc).use ?_; (refine g0_ ?_; repeat ((first | refine n1_ fun b_ => ?_ | refine n2_ fun b_ => ?_); refine g0_ ?_))
    (refine g0_ ?_; repeat ((first | refine n1_ fun b_ => ?_ | refine n2_ fun b_ => ?_); refine g0_ ?_))
    refine (h1).use ?_; (refine g0_ ?_; repeat ((first | refine n1_ fun b_ => ?_ | refine n2_ fun b_ => ?_); refine g0_ ?_))
    (refine g0_ ?_; repeat ((first | refine n1_ fun b_ => ?_ | refine n2_ fun b_ => ?_); refine g0_ ?_))
    refine (hck).use ?_; (refine g0_ ?_; repeat ((first | refine n1_ fun b_ => ?_ | refine n2_ fun b_ => ?_); refine g0_ ?_))
    (refine g0_ ?_; repeat ((first | refine n1_ fun b_ => ?_ | refine n2_ fun b_ => ?_); refine g0_ ?_))
    refine (hr).use ?_; (refine g0_ ?_; repeat ((first | refine n1_ fun b_ => ?_ | refine n2_ fun b_ => ?_); refine g0_ ?_))
    (refine g0_ ?_; repeat ((first | refine n1_ fun b_ => ?_ | refine n2_ fun b_ => ?_); refine g0_ ?_))
    refine (hpk).use ?_; (refine g0_ ?_; repeat ((first | refine n1_ fun b_ => ?_ | refine n2_ fun b_ => ?_); refine g0_ ?_))
    (refine g0_ ?_; repeat ((first | refine n1_ fun b_ => ?_ | refine n2_ fun b_ => ?_); refine g0_ ?_))
    refine (hss).use ?_; (refine g0_ ?_; repeat ((first | refine n1_ fun b_ => ?_ | refine n2_ fun b_ => ?_); refine g0_ ?_))
    (refine g0_ ?_; repeat ((first | refine n1_ fun b_ => ?_ | refine n2_ fun b_ => ?_); refine g0_ ?_))
    refine (hs0).use ?_; (refine g0_ ?_; repeat ((first | refine n1_ fun b_ => ?_ | refine n2_ fun b_ => ?_); refine g0_ ?_))
    (refine g0_ ?_; repeat ((first | refine n1_ fun b_ => ?_ | refine n2_ fun b_ => ?_); refine g0_ ?_))
    exact .refl _
end Go.Eng.YtkcldifniomfoaaDoor
end
