/- Texts put together: Scr18. -/
import Derived.Test.YtphoefglfbifdaaDoorMW3
import Derived.Test.YtphoefglfbifdaaDoorME9
/- A copy of rows: nil, or a row of the call's own. -/
section
namespace Go.Eng
open Go
variable {P : Program} {W : World}
/-- A slice without elements, whatever it is: nil or not; what the call makes of it. -/
theorem ACalls.of_empty {f : FuncId} {σ : Mem} {k : PV → Mem → Prop} {sz : Nat} (h : ∀ a cap, ACalls P W f [.lit (.slice a 0 cap)] σ k) : ACalls P W f [.sl sz []] σ k := by
  refine ⟨(h none 0).body, fun K w vs hl hr hm hp => ?_⟩
  obtain ⟨v, rfl⟩ := List.length_eq_one_iff.1 hl.symm
  have h0 := hr 0 (by simp)
  simp only [List.getD_cons_zero] at h0
  obtain ⟨a, cap, rfl⟩ : ∃ a cap, v = .slice a 0 cap := by
    cases h0 with
    | sl0 _ a cap => exact ⟨a, cap, rfl⟩
    | sl _ _ b o cap => exact ⟨_, cap, rfl⟩
  exact (h a cap).run K w _ rfl (fun i hi => by
    obtain rfl : i = 0 := by simpa using hi
    exact .lit _) hm hp
end Go.Eng
namespace Go.Eng.YtphoefglfbifdaaDoor
open Go Go.Eng Go.Proofs
variable (W : World)
set_option linter.unusedSimpArgs false
set_option maxRecDepth 100000
set_option linter.unusedVariables false
set_option maxHeartbeats 8000000
/-- A copy of rows: nil, or a row of the call's own. -/
abbrev GivesCopy (l : List PV) : PV → Mem → Prop := Gives (fun x : Option Nat => match x with | none => PV.nils | some b => .rsl b 1 0 l.length) (fun x => match x with | none => [] | some b => [⟨b, .row 1 l 0⟩]) (fun x => x = none → l = [])
theorem clone_rows0 (a : Option Addr) (c : Nat) : ACalls Tryd.prog W 69 [.lit (.slice a 0 c)] [] (GivesCopy []) := by
  refine acalls_of_vc (drawOk W) Tryd.func69 rfl (by decide) (by decide) rfl ?_
  (refine g0_ ?_; repeat ((first | refine n1_ fun b_ => ?_ | refine n2_ fun b_ => ?_); refine g0_ ?_))
  refine ⟨_, eql_nil Tryd.underlying30 (.inl ⟨_, _, rfl, rfl⟩), ?_⟩
  (refine g0_ ?_; repeat ((first | refine n1_ fun b_ => ?_ | refine n2_ fun b_ => ?_); refine g0_ ?_))
  refine brec ?_; intro c_ h; (try rw [h]); cases c_ <;> replace h := nm_ h
  · (refine g0_ ?_; repeat ((first | refine n1_ fun b_ => ?_ | refine n2_ fun b_ => ?_); refine g0_ ?_))
    refine .inr ?_
    (refine g0_ ?_; repeat ((first | refine n1_ fun b_ => ?_ | refine n2_ fun b_ => ?_); refine g0_ ?_))
    exact ⟨some _, (fun h => by cases h), rfl, by (first | exact ⟨_, .refl _⟩ | exact wkMem.rfl' | exact ⟨_, .swap _ _ _⟩ | (repeat (first | exact wkMem.nil _ | exact wkMem.rfl' | exact wk_snoc _ _ _ | exact wk_fam (by assumption) _ _ _ | exact wk_famN (by assumption) _ _ _ | (apply wkMem.cons; (case' hl => (repeat (first | exact .here _ _ _ | apply Look.there)))) | apply wkMem.skip)))⟩
  · (refine g0_ ?_; repeat ((first | refine n1_ fun b_ => ?_ | refine n2_ fun b_ => ?_); refine g0_ ?_))
    exact ⟨none, (fun _ => rfl), rfl, by (first | exact ⟨_, .refl _⟩ | exact wkMem.rfl' | exact ⟨_, .swap _ _ _⟩ | (repeat (first | exact wkMem.nil _ | exact wkMem.rfl' | exact wk_snoc _ _ _ | exact wk_fam (by assumption) _ _ _ | exact wk_famN (by assumption) _ _ _ | (apply wkMem.cons; (case' hl => (repeat (first | exact .here _ _ _ | apply Look.there)))) | apply wkMem.skip)))⟩
theorem clone_rows (l : List (List Cell)) (hl : l.length ≤ 1000000) : ACalls Tryd.prog W 69 [.sl 1 (l.map encRow)] [] (GivesCopy (l.map encRow)) := by
  cases l with
  | nil => exact ACalls.of_empty (clone_rows0 W)
  | cons r l =>
    have ha : ((r :: l).map encRow).all cellsB = true := rows_all (r :: l)
    have hlm : (l.map encRow).length = l.length := List.length_map _
    simp only [List.length_cons] at hl
    refine acalls_of_vc (drawOk W) Tryd.func69 rfl (by decide) (by decide) rfl ?_
    rw [List.map_cons] at *
    (refine g0_ ?_; repeat ((first | refine n1_ fun b_ => ?_ | refine n2_ fun b_ => ?_); refine g0_ ?_))
    refine ⟨_, eql_nil Tryd.underlying30 (.inr (.inl ⟨_, _, _, rfl, rfl⟩)), ?_⟩
    (refine g0_ ?_; repeat ((first | refine n1_ fun b_ => ?_ | refine n2_ fun b_ => ?_); refine g0_ ?_))
    refine .inr ?_
    (refine g0_ ?_; repeat ((first | refine n1_ fun b_ => ?_ | refine n2_ fun b_ => ?_); refine g0_ ?_))
    refine ⟨some b_, (fun h => by cases h), ?_, by (first | exact ⟨_, .refl _⟩ | exact wkMem.rfl' | exact ⟨_, .swap _ _ _⟩ | (repeat (first | exact wkMem.nil _ | exact wkMem.rfl' | exact wk_snoc _ _ _ | exact wk_fam (by assumption) _ _ _ | exact wk_famN (by assumption) _ _ _ | (apply wkMem.cons; (case' hl => (repeat (first | exact .here _ _ _ | apply Look.there)))) | apply wkMem.skip)))⟩
    show PV.rsl b_ 1 0 _ = PV.rsl b_ 1 0 _
    simp
theorem sameP_rfl (s : Scr) : sameP s s := ⟨rfl, rfl, rfl, rfl, rfl, rfl, rfl, rfl, rfl, ⟨rfl, rfl, rfl, rfl⟩, rfl, rfl, rfl⟩
end Go.Eng.YtphoefglfbifdaaDoor
end
