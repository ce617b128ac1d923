/- Texts put together: Spl16. -/
import Derived.Test.YtimpfhokacfobaaMSA
import Derived.Test.YtimpfhokacfobaaMSD
import Derived.Test.YtimpfhokacfobaaMSB
/- The law SplitEven (b_ x_ q_ e_). -/
section
namespace Go.Eng.Ytimpfhokacfobaa
open Go Go.Eng Go.Proofs
variable (W : World)
set_option linter.unusedSimpArgs false
set_option maxRecDepth 100000
set_option linter.unusedVariables false
set_option maxHeartbeats 4000000
theorem zeroT_ok : zeroT.ok := by simp [zeroT, Spl.ok, Spls.ok, i64ok]
def zeroV : PV := .agg [.int .i64 0, .int .i64 0, .int .i64 0, .sl 4 []]
theorem zeroV_eq : encSpl zeroT = zeroV := by rw [zeroT, encSpl_mk]; rfl
theorem chk_eq (t : Spl) : (visS t 0 (0, [])).1 = (chkT t 0 []).1 := (checks_agree t 0 [] (by decide)).1
theorem chk_panes {t : Spl} (h : (chkT t 0 []).1 = 0) : (chkT t 0 []).2 = panesT t := by
  have := (chk_right t 0 [] h).2.1
  rwa [List.nil_append] at this
theorem panes_bd (t : Spl) : ∀ way, t.right way → ∀ x ∈ panesT t, 1 ≤ x ∧ x ≤ 9999 := by
  induction t using spl_induct with
  | h w p s ks ih =>
    intro way hr x hx
    rw [right_mk] at hr
    rw [panesT_mk] at hx
    rcases hr.2 with ⟨h0, hk, h1, h2⟩ | ⟨hw, -, -, -, hkr⟩
    · rw [if_pos h0, List.mem_singleton] at hx
      subst hx
      exact ⟨h1, h2⟩
    · rw [if_neg (by omega), List.mem_flatMap] at hx
      obtain ⟨k, hk, hx⟩ := hx
      exact ih k hk w (hkr k hk) x hx
theorem leafT_ok {x : Int} (h : 1 ≤ x ∧ x ≤ 9999) : (leafT x).ok := by
  have : i64ok x := by unfold i64ok; omega
  simp [leafT, Spl.ok, Spls.ok, this]
  unfold i64ok; omega
theorem leaves_ok {way : Int} {l : List Int} (hw : way = 1 ∨ way = 2) (hl : l.length ≤ 12) (h : ∀ x ∈ l, 1 ≤ x ∧ x ≤ 9999) : (Spl.mk way 0 1 (l.map leafT)).ok := by
  rw [spl_ok]
  refine ⟨by unfold i64ok; omega, by unfold i64ok; omega, by unfold i64ok; omega, by rw [List.length_map]; omega, fun k hk => ?_⟩
  obtain ⟨x, hx, rfl⟩ := List.mem_map.1 hk
  exact leafT_ok (h x hx)
end Go.Eng.Ytimpfhokacfobaa
end
