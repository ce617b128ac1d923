/- Texts put together: BndW. -/
import Derived.Test.YtkenlcaifhffoaaDoorMT1
/- strings.Builder: texts written, empty ones too. -/
section
namespace Go.Eng
open Go
end Go.Eng
namespace Go.Eng.YtkenlcaifhffoaaDoor
open Go Go.Eng Go.Proofs
variable (W : World)
set_option linter.unusedSimpArgs false
set_option maxRecDepth 100000
set_option linter.unusedVariables false
set_option maxHeartbeats 4000000
/-- A builder under way; z: something was written, be it empty. -/
def bldT (b c : Nat) (z : Bool) : List UInt8 → Mem
  | [] => if z then bldM1 b else bldM0 b
  | x :: l => bldM b c (x :: l)
theorem bldT_ne (b c : Nat) (z : Bool) {l : List UInt8} (h : l ≠ []) : bldT b c z l = bldM b c l := by cases l; exact absurd rfl h; rfl
theorem writeE0 (b : Nat) : ACalls Tryd.prog W 89 [.tpt 136 2 b, .str []] (bldM0 b) (Gives (fun _ : Unit => .tup [.int .i64 0, .lit .nilIface]) (fun _ => bldM1 b) (fun _ => True)) := by
  refine acalls_of_vc (drawOk W) Tryd.func89 rfl (by decide) (by decide) rfl ?_
  (refine g0_ ?_; repeat ((first | refine n1_ fun b_ => ?_ | refine n2_ fun b_ => ?_); refine g0_ ?_))
  refine ACalls.lend (copyCheck0 W b) (r := []) (by simp) ?_
  rintro _ -
  (refine g0_ ?_; repeat ((first | refine n1_ fun b_ => ?_ | refine n2_ fun b_ => ?_); refine g0_ ?_))
  exact ⟨(), trivial, rfl, wkMem.rfl'⟩
theorem writeE1 (b : Nat) : ACalls Tryd.prog W 89 [.tpt 136 2 b, .str []] (bldM1 b) (Gives (fun _ : Unit => .tup [.int .i64 0, .lit .nilIface]) (fun _ => bldM1 b) (fun _ => True)) := by
  refine acalls_of_vc (drawOk W) Tryd.func89 rfl (by decide) (by decide) rfl ?_
  (refine g0_ ?_; repeat ((first | refine n1_ fun b_ => ?_ | refine n2_ fun b_ => ?_); refine g0_ ?_))
  refine ACalls.lend (copyCheck1 W b) (r := []) (by simp) ?_
  rintro _ -
  (refine g0_ ?_; repeat ((first | refine n1_ fun b_ => ?_ | refine n2_ fun b_ => ?_); refine g0_ ?_))
  exact ⟨(), trivial, rfl, wkMem.rfl'⟩
theorem writeE2 (b c : Nat) (l : List UInt8) (h0 : l ≠ []) (hl : l.length ≤ 70368744177664) : ACalls Tryd.prog W 89 [.tpt 136 2 b, .str []] (bldM b c l) (Gives (fun _ : Nat => .tup [.int .i64 0, .lit .nilIface]) (fun c => bldM b c l) (fun _ => True)) := by
  refine acalls_of_vc (drawOk W) Tryd.func89 rfl (by decide) (by decide) rfl ?_
  (refine g0_ ?_; repeat ((first | refine n1_ fun b_ => ?_ | refine n2_ fun b_ => ?_); refine g0_ ?_))
  refine ACalls.lend (copyCheck2 W b c l.length) (r := [⟨c, .row 1 (l.map byteP) 0⟩]) (.refl _) ?_
  rintro _ -
  (refine g0_ ?_; repeat ((first | refine n1_ fun b_ => ?_ | refine n2_ fun b_ => ?_); refine g0_ ?_))
  exact ⟨_, trivial, rfl, by simp only [List.map_nil, List.append_nil, List.length_nil, Nat.add_zero]; exact wkMem.rfl'⟩
theorem writeString1 (b : Nat) (s : List UInt8) (h0 : s ≠ []) (hs : s.length ≤ 70368744177664) :
    ACalls Tryd.prog W 89 [.tpt 136 2 b, .str s] (bldM1 b) (GivesW b s.length s) := by
  obtain ⟨x, s, rfl⟩ : ∃ x t, s = x :: t := by cases s with | nil => exact absurd rfl h0 | cons x t => exact ⟨_, _, rfl⟩
  simp only [List.length_cons] at hs
  refine acalls_of_vc (drawOk W) Tryd.func89 rfl (by decide) (by decide) rfl ?_
  (refine g0_ ?_; repeat ((first | refine n1_ fun b_ => ?_ | refine n2_ fun b_ => ?_); refine g0_ ?_))
  refine ACalls.lend (copyCheck1 W b) (r := []) (by simp) ?_
  rintro _ -
  (refine g0_ ?_; repeat ((first | refine n1_ fun b_ => ?_ | refine n2_ fun b_ => ?_); refine g0_ ?_))
  refine ⟨b_, trivial, rfl, ?_⟩
  simp only [List.length_map]
  (first | exact ⟨_, .refl _⟩ | exact wkMem.rfl' | exact ⟨_, .swap _ _ _⟩ | (repeat (first | exact wkMem.nil _ | exact wkMem.rfl' | exact wk_snoc _ _ _ | exact wk_fam (by assumption) _ _ _ | exact wk_famN (by assumption) _ _ _ | (apply wkMem.cons; (case' hl => (repeat (first | exact .here _ _ _ | apply Look.there)))) | apply wkMem.skip)))
theorem writeT_ok (b c : Nat) (z : Bool) (l s : List UInt8) (hs : s.length ≤ 70368744177664) (hl : l.length ≤ 70368744177664) :
    ACalls Tryd.prog W 89 [.tpt 136 2 b, .str s] (bldT b c z l) (Gives (fun _ : Nat => .tup [.int .i64 s.length, .lit .nilIface]) (fun c => bldT b c true (l ++ s)) (fun _ => True)) := by
  by_cases h0 : s = []
  · subst h0
    rw [List.append_nil]
    by_cases h : l = []
    · subst h
      cases z
      · exact (writeE0 W b).mono fun v σ ⟨_, _, h1, h2⟩ => ⟨0, trivial, h1, h2⟩
      · exact (writeE1 W b).mono fun v σ ⟨_, _, h1, h2⟩ => ⟨0, trivial, h1, h2⟩
    · have e : (fun c => bldT b c true l) = fun c => bldM b c l := by funext c; exact bldT_ne b c true h
      rw [e, bldT_ne b c z h]
      exact writeE2 W b c l h hl
  · have e : (fun c => bldT b c true (l ++ s)) = fun c => bldM b c (l ++ s) := by funext c; exact bldT_ne b c true (by simp [h0])
    rw [e]
    by_cases h : l = []
    · subst h
      cases z
      · exact writeString0 W b s h0 hs
      · exact writeString1 W b s h0 hs
    · rw [bldT_ne b c z h]
      exact writeString2 W b c l h s hs hl
theorem string1 (b : Nat) : ACalls Tryd.prog W 92 [.tpt 136 2 b] (bldM1 b) (Gives (fun _ : Unit => .str []) (fun _ => []) (fun _ => True)) := by
  refine acalls_of_vc (drawOk W) Tryd.func92 rfl (by decide) (by decide) rfl ?_
  (refine g0_ ?_; repeat ((first | refine n1_ fun b_ => ?_ | refine n2_ fun b_ => ?_); refine g0_ ?_))
  refine Draws.head ⟨10, by decide +kernel, ?_⟩; (refine g0_ ?_; repeat ((first | refine n1_ fun b_ => ?_ | refine n2_ fun b_ => ?_); refine g0_ ?_))
  exact ⟨(), trivial, rfl, wkMem.nil _⟩
theorem stringT_ok (b c : Nat) (z : Bool) (l : List UInt8) (hl : l.length ≤ 140737488355328) : ACalls Tryd.prog W 92 [.tpt 136 2 b] (bldT b c z l) (Gives (fun _ : Unit => .str l) (fun _ => []) (fun _ => True)) := by
  by_cases h : l = []
  · subst h
    cases z
    · exact string0 W b
    · exact string1 W b
  · rw [bldT_ne b c z h]
    exact string2 W b c l h hl
end Go.Eng.YtkenlcaifhffoaaDoor
end
