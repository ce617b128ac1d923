/- Texts put together: Hs9. -/
import Derived.Test.YtmodblkagimhlaaGreatDoorMHS10
import Derived.Test.YtmodblkagimhlaaGreatDoorMHS13
/- Houses: what a new window is to be, what is to be shown; the law HouseWindow (b_ x_ q_ e_). -/
section
namespace Go.Eng.YtmodblkagimhlaaGreatDoor
open Go Go.Eng Go.Proofs
variable (W : World)
set_option linter.unusedSimpArgs false
set_option maxRecDepth 100000
set_option linter.unusedVariables false
set_option maxHeartbeats 8000000
theorem freshR_okW (b : Nat) (sv vv : PV) (next : Int) (hn : 1 ≤ next ∧ next < 9999) : ACalls Tryz.prog W 13 [.bref b 0] [⟨b, .row 3 [.agg [sv, vv, .int .i64 next]] 0⟩] (Gives (fun _ : Unit => .tup [.int .i64 next, .int .i64 0]) (fun _ => [⟨b, .row 3 [.agg [sv, vv, .int .i64 (next + 1)]] 0⟩]) (fun _ => True)) := by
  refine acalls_of_vc (drawOk W) Tryz.func13 rfl (by decide) (by decide) rfl ?_
  refine g0_ ?_
  refine g1_ ?_
  exact ⟨(), trivial, by rw [Int.add_sub_cancel], by (first | exact ⟨_, .refl _⟩ | exact wkMem.rfl' | exact ⟨_, .swap _ _ _⟩ | (repeat (first | exact wkMem.nil _ | exact wkMem.rfl' | exact wk_snoc _ _ _ | exact wk_fam (by assumption) _ _ _ | exact wk_famN (by assumption) _ _ _ | (apply wkMem.cons; (case' hl => (repeat (first | exact .here _ _ _ | apply Look.there)))) | apply wkMem.skip)))⟩
theorem freshR_fullW (b : Nat) (sv vv : PV) : ACalls Tryz.prog W 13 [.bref b 0] [⟨b, .row 3 [.agg [sv, vv, .int .i64 9999]] 0⟩] (Gives (fun _ : Unit => .tup [.int .i64 0, .int .i64 10]) (fun _ => [⟨b, .row 3 [.agg [sv, vv, .int .i64 9999]] 0⟩]) (fun _ => True)) := by
  refine acalls_of_vc (drawOk W) Tryz.func13 rfl (by decide) (by decide) rfl ?_
  refine g0_ ?_
  refine g1_ ?_
  exact ⟨(), trivial, rfl, by (first | exact ⟨_, .refl _⟩ | exact wkMem.rfl' | exact ⟨_, .swap _ _ _⟩ | (repeat (first | exact wkMem.nil _ | exact wkMem.rfl' | exact wk_snoc _ _ _ | exact wk_fam (by assumption) _ _ _ | exact wk_famN (by assumption) _ _ _ | (apply wkMem.cons; (case' hl => (repeat (first | exact .here _ _ _ | apply Look.there)))) | apply wkMem.skip)))⟩
end Go.Eng.YtmodblkagimhlaaGreatDoor
end
