/- Texts put together: Hs3. -/
import Derived.Test.YtmodblkagimhlaaDoorMHS10
/- The law HouseSession (b_ x_ q_ e_). -/
section
namespace Go.Eng.YtmodblkagimhlaaDoor
open Go Go.Eng Go.Proofs
variable (W : World)
set_option linter.unusedSimpArgs false
set_option maxRecDepth 100000
set_option linter.unusedVariables false
set_option maxHeartbeats 8000000
theorem winN_ok (n : List UInt8) (p : Int) (hn : n.length ≤ 1048576) (hp : i64ok p) : (winN n p).ok :=
  ⟨hn, spl_ok.2 ⟨by decide, hp, by decide, by decide, fun k hk => by cases hk⟩, hp, by (show i64ok 0); decide⟩
theorem sesY_ok {h : Hs} (hok : h.ok) (h0 : chkH h = 0) (n w : List UInt8) (hn : n.length ≤ 1048576) (hw : w.length ≤ 1048576) : (sesY h n w).ok := by
  obtain ⟨h1, h2, h3, h4, -, -⟩ := right_ses h0
  have hp : i64ok h.next := ⟨by omega, by omega⟩
  refine ⟨?_, ?_, hok.views, hok.view, ?_⟩
  · show (h.ses ++ [_]).length ≤ _
    rw [List.length_append, List.length_singleton]; omega
  · intro s hs
    rcases List.mem_append.1 (show s ∈ h.ses ++ [_] from hs) with hs | hs
    · exact hok.se s hs
    · obtain rfl := List.mem_singleton.1 hs
      exact ⟨hn, by (show 1 ≤ _); decide, fun x hx => (List.mem_singleton.1 hx) ▸ winN_ok w h.next hw hp, by (show i64ok 0); decide, by (show i64ok 0); decide⟩
  · show i64ok (h.next + 1)
    exact ⟨by omega, by omega⟩
theorem ses1P_ok (hT : Tabs W) (h : Hs) (hok : h.ok) (n w : List UInt8) (hns : n.length ≤ 1048576) (hws : w.length ≤ 1048576) :
    Pure Tryd.prog W 24 [encHs h, .ip (.str n) 0, .ip (.str w) 0] (.tup [encHs (chgR h (sesE h n w) (sesY h n w)).1, .int .i64 (chgR h (sesE h n w) (sesY h n w)).2]) := by
  have hs := sessionP_ok W hT h hok n w hns hws
  generalize chgR h (sesE h n w) (sesY h n w) = R at *
  obtain ⟨X, E⟩ := R
  dsimp only at *
  rw [encHs_mk h, encHs_mk X] at *
  refine Pure.of (acalls_of_vc (drawOk W) Tryd.func24 rfl (by decide) (by decide) rfl ?_)
  (refine g0_ ?_; repeat (refine n1_ fun b_ => ?_; refine g0_ ?_))
  refine (hs).use ?_; refine g0_ ?_
  exact .refl _
theorem houseSession_ok (hT : Tabs W) (h : Hs) (hok : h.ok) (n : List UInt8) (hns : n.length ≤ 1048576) (w : List UInt8) (hws : w.length ≤ 1048576) : Pure Tryd.prog W 5 [encHs h, .str n, .str w] (.bool true) := by
  have hh := houses_ok W hT h hok 24 26 [.ip (.str n) 0, .ip (.str w) 0] [.ip (.str n) 0, .ip (.str w) 0] (sesY h n w) (sesE h n w)
    (fun h0 _ => sesY_ok hok h0 n w hns hws) (ses1P_ok W hT h hok n w hns hws)
    (fun h0 => ses2_ok W hT h (right_ses h0).1 ⟨(right_ses h0).2.2.1, (right_ses h0).2.2.2.1⟩ n w hns hws)
  rw [encHs_mk h] at *
  refine Pure.of (acalls_of_vc (drawOk W) Tryd.func5 rfl (by decide) (by decide) rfl ?_)
  (refine g0_ ?_; repeat (refine n1_ fun b_ => ?_; refine g0_ ?_))
  refine hh.borrow (args' := [.agg [.sl 4 (h.ses.map encSes), .sl 3 (h.views.map encVw), .int .i64 h.next], .fn 24 [.ip (.str n) 0, .ip (.str w) 0], .fn 26 [.ip (.str n) 0, .ip (.str w) 0]]) rfl rfl (fun j hj => ?_) ?_
  · match j, hj with
    | 0, _ => exact .refl _
    | 1, _ => exact .fn _ _ _ rfl fun j hj => (by match j, hj with | 0, _ => exact .bref _ _ _ _ _ _ (by repeat (first | exact .here _ _ _ | apply Look.there)) | 1, _ => exact .bref _ _ _ _ _ _ (by repeat (first | exact .here _ _ _ | apply Look.there)))
    | 2, _ => exact .fn _ _ _ rfl fun j hj => (by match j, hj with | 0, _ => exact .bref _ _ _ _ _ _ (by repeat (first | exact .here _ _ _ | apply Look.there)) | 1, _ => exact .bref _ _ _ _ _ _ (by repeat (first | exact .here _ _ _ | apply Look.there)))
  refine g0_ ?_
  exact .refl _
end Go.Eng.YtmodblkagimhlaaDoor
end
