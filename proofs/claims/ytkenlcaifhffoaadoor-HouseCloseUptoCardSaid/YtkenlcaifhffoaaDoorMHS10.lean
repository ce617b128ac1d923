/- Texts put together: Hs1. -/
import Derived.Test.YtkenlcaifhffoaaDoorMHS9
import Derived.Test.YtkenlcaifhffoaaDoorMHS5
import Derived.Test.YtkenlcaifhffoaaDoorMHS3
import Derived.Test.YtkenlcaifhffoaaDoorMHS7
/- Houses: what a call makes of one is what is to be made of it (b_ x_ q_ e_). -/
section
namespace Go.Eng.YtkenlcaifhffoaaDoor
open Go Go.Eng Go.Proofs
variable (W : World)
set_option linter.unusedSimpArgs false
set_option maxRecDepth 100000
set_option linter.unusedVariables false
set_option maxHeartbeats 16000000
theorem perm_four {A B C D : Blk} {M : Mem} : (A :: B :: C :: D :: M).Perm ((A :: M) ++ [B, C, D]) :=
  List.Perm.cons A (List.perm_append_comm (l₁ := [B, C, D]) (l₂ := M))
theorem doneH {P : Program} {f : FuncId} {args : List PV} {σ M R : Mem} {k : PV → Mem → Prop} {b : Nat} {V : PV} {Y : Hs} {E : Int}
    (h : ACalls P W f args (⟨b, .row 3 [V] 0⟩ :: M) fun v σ' => v = .int .i64 E ∧ (E = 0 → HsDone b Y σ')) (hp : σ.Perm ((⟨b, .row 3 [V] 0⟩ :: M) ++ R))
    (h0 : E = 0 → ∀ sv vv ρ, SlV sv → SlV vv → Frz ρ sv (.sl 4 (Y.ses.map encSes)) → Frz ρ vv (.sl 3 (Y.views.map encVw)) → k (.int .i64 E) (⟨b, .row 3 [.agg [sv, vv, .int .i64 Y.next]] 0⟩ :: (R ++ ρ)))
    (h1 : E ≠ 0 → k (.int .i64 E) R) : ACalls P W f args σ k := by
  refine ACalls.weak (((h.frame R).perm hp).mono ?_)
  rintro v σ' ⟨σ1, ⟨rfl, hd⟩, rfl⟩
  by_cases hE : E = 0
  · obtain ⟨sv, vv, ρ, hq, hs1, hs2, f1, f2⟩ := hd hE
    refine ⟨_, h0 hE sv vv ρ hs1 hs2 f1 f2, [], ?_⟩
    rw [List.append_nil]
    exact (hq.append_right R).trans (List.Perm.cons _ List.perm_append_comm)
  · exact ⟨R, h1 hE, σ1, List.perm_append_comm⟩
def DoesTo (g : FuncId) (c : List PV) (h Y : Hs) (E : Int) : Prop :=
  ∀ b (x : OH), x.T = h → (x.o = none → x.views = []) → ACalls Tryd.prog W g (.bref b 0 :: c) (⟨b, .row 3 [x.V] 0⟩ :: x.M) fun v σ' => v = .int .i64 E ∧ (E = 0 → HsDone b Y σ')
theorem houses_bad (hT : Tabs W) (h : Hs) (hok : h.ok) (hb : chkH h ≠ 0) (g1 g2 : Nat) (c1 c2 : List PV)
    (hcall : Pure Tryd.prog W g1 (encHs h :: c1) (.tup [encHs noHs, .int .i64 (chkH h)])) :
    Pure Tryd.prog W 6 [encHs h, .fn g1 c1, .fn g2 c2] (.bool true) := by
  have hcp := cloneP_ok W h hok
  have hcl := cloneHR_ok W h hok
  have hhd := housed_ok W hT
  have hsm := sameHR_ok W h hok
  have hck := checkHR_ok W hT h hok
  have hno := noHouse_ok W
  generalize chkH h = E at *
  rw [encHs_mk h] at *
  rw [encHs_mk noHs] at *
  refine Pure.of (acalls_of_vc (drawOk W) Tryd.func6 rfl (by decide) (by decide) rfl ?_)
  (refine g0_ ?_; repeat (refine n1_ fun b_ => ?_; refine g0_ ?_))
  refine (hcp).use ?_; (refine g0_ ?_; repeat (refine n1_ fun b_ => ?_; refine g0_ ?_))
  rw [forceL_eq]
  refine callV_of ?_
  refine hcall.use ?_
  (refine g0_ ?_; repeat (refine n1_ fun b_ => ?_; refine g0_ ?_))
  refine (hhd).use ?_; refine g0_ ?_
  refine g1_ ?_
  refine (hsm).use ?_; refine g0_ ?_
  refine g1_ ?_
  refine (hck).use ?_; refine g0_ ?_
  refine g1_ ?_
  refine ACalls.giveE hcl ?_
  rintro ⟨bs, L, o, vs, nx⟩ ⟨hT2, ho⟩
  try replace hdo := fun b => hdo b ⟨bs, L, o, vs, nx⟩ hT2 ho
  unfold OH.V OH.M at *
  dsimp only at *
  rcases L with _ | ⟨l0, L⟩
  · rcases o with _ | bo
    · (refine g0_ ?_; repeat (refine n1_ fun b_ => ?_; refine g0_ ?_))
      refine g1_ ?_
      refine (hno).use ?_; refine g0_ ?_
      refine g1_ ?_
      exact .of_eq (by simp)
    · (refine g0_ ?_; repeat (refine n1_ fun b_ => ?_; refine g0_ ?_))
      refine g1_ ?_
      refine (hno).use ?_; refine g0_ ?_
      refine g1_ ?_
      exact .of_eq (by simp)
  · rcases o with _ | bo
    · (refine g0_ ?_; repeat (refine n1_ fun b_ => ?_; refine g0_ ?_))
      refine g1_ ?_
      refine (hno).use ?_; refine g0_ ?_
      refine g1_ ?_
      exact .of_eq (by simp)
    · (refine g0_ ?_; repeat (refine n1_ fun b_ => ?_; refine g0_ ?_))
      refine g1_ ?_
      refine (hno).use ?_; refine g0_ ?_
      refine g1_ ?_
      exact .of_eq (by simp)
theorem houses_no (hT : Tabs W) (h : Hs) (hok : h.ok) (hb : chkH h = 0) (g1 g2 : Nat) (c1 c2 : List PV) (Y : Hs) (E : Int) (hE : E ≠ 0)
    (hcall : Pure Tryd.prog W g1 (encHs h :: c1) (.tup [encHs noHs, .int .i64 E])) (hdo : DoesTo W g2 c2 h Y E) :
    Pure Tryd.prog W 6 [encHs h, .fn g1 c1, .fn g2 c2] (.bool true) := by
  have hcp := cloneP_ok W h hok
  have hcl := cloneHR_ok W h hok
  have hhd := housed_ok W hT
  have hsm := sameHR_ok W h hok
  have hck := checkHR_ok W hT h hok
  have hno := noHouse_ok W
  rw [hb] at hck
  unfold DoesTo at hdo
  rw [encHs_mk h] at *
  rw [encHs_mk noHs] at *
  refine Pure.of (acalls_of_vc (drawOk W) Tryd.func6 rfl (by decide) (by decide) rfl ?_)
  (refine g0_ ?_; repeat (refine n1_ fun b_ => ?_; refine g0_ ?_))
  refine (hcp).use ?_; (refine g0_ ?_; repeat (refine n1_ fun b_ => ?_; refine g0_ ?_))
  rw [forceL_eq]
  refine callV_of ?_
  refine hcall.use ?_
  (refine g0_ ?_; repeat (refine n1_ fun b_ => ?_; refine g0_ ?_))
  refine (hhd).use ?_; refine g0_ ?_
  refine g1_ ?_
  refine (hsm).use ?_; refine g0_ ?_
  refine g1_ ?_
  refine (hck).use ?_; refine g0_ ?_
  refine g1_ ?_
  refine ACalls.giveE hcl ?_
  rintro ⟨bs, L, o, vs, nx⟩ ⟨hT2, ho⟩
  try replace hdo := fun b => hdo b ⟨bs, L, o, vs, nx⟩ hT2 ho
  unfold OH.V OH.M at *
  dsimp only at *
  rcases L with _ | ⟨l0, L⟩
  · rcases o with _ | bo
    · (refine g0_ ?_; repeat (refine n1_ fun b_ => ?_; refine g0_ ?_))
      refine g1_ ?_
      rw [forceL_eq]
      refine callV_of ?_
      refine doneH W (hdo _) perm_four (fun _ sv vv ρ hs1 hs2 f1 f2 => ?_) (fun _ => ?_)
      · exact absurd ‹_› hE
      · refine g0_ ?_
        refine g1_ ?_
        refine (hno).use ?_; refine g0_ ?_
        refine g1_ ?_
        exact .of_eq (by simp)
    · (refine g0_ ?_; repeat (refine n1_ fun b_ => ?_; refine g0_ ?_))
      refine g1_ ?_
      rw [forceL_eq]
      refine callV_of ?_
      refine doneH W (hdo _) perm_four (fun _ sv vv ρ hs1 hs2 f1 f2 => ?_) (fun _ => ?_)
      · exact absurd ‹_› hE
      · refine g0_ ?_
        refine g1_ ?_
        refine (hno).use ?_; refine g0_ ?_
        refine g1_ ?_
        exact .of_eq (by simp)
  · rcases o with _ | bo
    · (refine g0_ ?_; repeat (refine n1_ fun b_ => ?_; refine g0_ ?_))
      refine g1_ ?_
      rw [forceL_eq]
      refine callV_of ?_
      refine doneH W (hdo _) perm_four (fun _ sv vv ρ hs1 hs2 f1 f2 => ?_) (fun _ => ?_)
      · exact absurd ‹_› hE
      · refine g0_ ?_
        refine g1_ ?_
        refine (hno).use ?_; refine g0_ ?_
        refine g1_ ?_
        exact .of_eq (by simp)
    · (refine g0_ ?_; repeat (refine n1_ fun b_ => ?_; refine g0_ ?_))
      refine g1_ ?_
      rw [forceL_eq]
      refine callV_of ?_
      refine doneH W (hdo _) perm_four (fun _ sv vv ρ hs1 hs2 f1 f2 => ?_) (fun _ => ?_)
      · exact absurd ‹_› hE
      · refine g0_ ?_
        refine g1_ ?_
        refine (hno).use ?_; refine g0_ ?_
        refine g1_ ?_
        exact .of_eq (by simp)
theorem houses_yes (hT : Tabs W) (h : Hs) (hok : h.ok) (hb : chkH h = 0) (g1 g2 : Nat) (c1 c2 : List PV) (Y : Hs) (hY : Y.ok)
    (hcall : Pure Tryd.prog W g1 (encHs h :: c1) (.tup [encHs Y, .int .i64 0])) (hdo : DoesTo W g2 c2 h Y 0) :
    Pure Tryd.prog W 6 [encHs h, .fn g1 c1, .fn g2 c2] (.bool true) := by
  have hcp := cloneP_ok W h hok
  have hcl := cloneHR_ok W h hok
  have hhd := housed_ok W hT
  have hsm := sameHR_ok W h hok
  have hck := checkHR_ok W hT h hok
  have hsy := sameHR_ok W Y hY
  rw [hb] at hck
  unfold DoesTo at hdo
  rw [encHs_mk h] at *
  rw [encHs_mk Y] at hcall
  refine Pure.of (acalls_of_vc (drawOk W) Tryd.func6 rfl (by decide) (by decide) rfl ?_)
  (refine g0_ ?_; repeat (refine n1_ fun b_ => ?_; refine g0_ ?_))
  refine (hcp).use ?_; (refine g0_ ?_; repeat (refine n1_ fun b_ => ?_; refine g0_ ?_))
  rw [forceL_eq]
  refine callV_of ?_
  refine hcall.use ?_
  (refine g0_ ?_; repeat (refine n1_ fun b_ => ?_; refine g0_ ?_))
  refine (hhd).use ?_; refine g0_ ?_
  refine g1_ ?_
  refine (hsm).use ?_; refine g0_ ?_
  refine g1_ ?_
  refine (hck).use ?_; refine g0_ ?_
  refine g1_ ?_
  refine ACalls.giveE hcl ?_
  rintro ⟨bs, L, o, vs, nx⟩ ⟨hT2, ho⟩
  try replace hdo := fun b => hdo b ⟨bs, L, o, vs, nx⟩ hT2 ho
  unfold OH.V OH.M at *
  dsimp only at *
  rcases L with _ | ⟨l0, L⟩
  · rcases o with _ | bo
    · (refine g0_ ?_; repeat (refine n1_ fun b_ => ?_; refine g0_ ?_))
      refine g1_ ?_
      rw [forceL_eq]
      refine callV_of ?_
      refine doneH W (hdo _) perm_four (fun _ sv vv ρ hs1 hs2 f1 f2 => ?_) (fun _ => ?_)
      · rcases hs1 with rfl | ⟨c1, c2, c3, c4, rfl⟩ | ⟨c1, c2, rfl⟩
        all_goals
          rcases hs2 with rfl | ⟨d1, d2, d3, d4, rfl⟩ | ⟨d1, d2, rfl⟩
          all_goals
            refine g0_ ?_
            refine g1_ ?_
            refine hsy.borrow (args' := [encHs Y, encHs Y]) rfl rfl (fun j hj => ?_) ?_
            · match j, hj with
              | 0, _ => exact .refl _
              | 1, _ => exact frz_hs (Y := Y) ((((f1.consH _).consH _).consH _).consH _) ((((f2.consH _).consH _).consH _).consH _)
            refine g0_ ?_
            exact .of_eq (by simp)
      · exact absurd rfl ‹_›
    · (refine g0_ ?_; repeat (refine n1_ fun b_ => ?_; refine g0_ ?_))
      refine g1_ ?_
      rw [forceL_eq]
      refine callV_of ?_
      refine doneH W (hdo _) perm_four (fun _ sv vv ρ hs1 hs2 f1 f2 => ?_) (fun _ => ?_)
      · rcases hs1 with rfl | ⟨c1, c2, c3, c4, rfl⟩ | ⟨c1, c2, rfl⟩
        all_goals
          rcases hs2 with rfl | ⟨d1, d2, d3, d4, rfl⟩ | ⟨d1, d2, rfl⟩
          all_goals
            refine g0_ ?_
            refine g1_ ?_
            refine hsy.borrow (args' := [encHs Y, encHs Y]) rfl rfl (fun j hj => ?_) ?_
            · match j, hj with
              | 0, _ => exact .refl _
              | 1, _ => exact frz_hs (Y := Y) ((((f1.consH _).consH _).consH _).consH _) ((((f2.consH _).consH _).consH _).consH _)
            refine g0_ ?_
            exact .of_eq (by simp)
      · exact absurd rfl ‹_›
  · rcases o with _ | bo
    · (refine g0_ ?_; repeat (refine n1_ fun b_ => ?_; refine g0_ ?_))
      refine g1_ ?_
      rw [forceL_eq]
      refine callV_of ?_
      refine doneH W (hdo _) perm_four (fun _ sv vv ρ hs1 hs2 f1 f2 => ?_) (fun _ => ?_)
      · rcases hs1 with rfl | ⟨c1, c2, c3, c4, rfl⟩ | ⟨c1, c2, rfl⟩
        all_goals
          rcases hs2 with rfl | ⟨d1, d2, d3, d4, rfl⟩ | ⟨d1, d2, rfl⟩
          all_goals
            refine g0_ ?_
            refine g1_ ?_
            refine hsy.borrow (args' := [encHs Y, encHs Y]) rfl rfl (fun j hj => ?_) ?_
            · match j, hj with
              | 0, _ => exact .refl _
              | 1, _ => exact frz_hs (Y := Y) ((((f1.consH _).consH _).consH _).consH _) ((((f2.consH _).consH _).consH _).consH _)
            refine g0_ ?_
            exact .of_eq (by simp)
      · exact absurd rfl ‹_›
    · (refine g0_ ?_; repeat (refine n1_ fun b_ => ?_; refine g0_ ?_))
      refine g1_ ?_
      rw [forceL_eq]
      refine callV_of ?_
      refine doneH W (hdo _) perm_four (fun _ sv vv ρ hs1 hs2 f1 f2 => ?_) (fun _ => ?_)
      · rcases hs1 with rfl | ⟨c1, c2, c3, c4, rfl⟩ | ⟨c1, c2, rfl⟩
        all_goals
          rcases hs2 with rfl | ⟨d1, d2, d3, d4, rfl⟩ | ⟨d1, d2, rfl⟩
          all_goals
            refine g0_ ?_
            refine g1_ ?_
            refine hsy.borrow (args' := [encHs Y, encHs Y]) rfl rfl (fun j hj => ?_) ?_
            · match j, hj with
              | 0, _ => exact .refl _
              | 1, _ => exact frz_hs (Y := Y) ((((f1.consH _).consH _).consH _).consH _) ((((f2.consH _).consH _).consH _).consH _)
            refine g0_ ?_
            exact .of_eq (by simp)
      · exact absurd rfl ‹_›
theorem houses_ok (hT : Tabs W) (h : Hs) (hok : h.ok) (g1 g2 : Nat) (c1 c2 : List PV) (Y : Hs) (E : Int) (hY : chkH h = 0 → E = 0 → Y.ok)
    (hcall : Pure Tryd.prog W g1 (encHs h :: c1) (.tup [encHs (chgR h E Y).1, .int .i64 (chgR h E Y).2])) (hdo : chkH h = 0 → DoesTo W g2 c2 h Y E) :
    Pure Tryd.prog W 6 [encHs h, .fn g1 c1, .fn g2 c2] (.bool true) := by
  unfold chgR at hcall
  by_cases hb : chkH h = 0
  · rw [if_neg (by simpa using hb)] at hcall
    by_cases hE : E = 0
    · subst hE
      rw [if_pos rfl] at hcall
      exact houses_yes W hT h hok hb g1 g2 c1 c2 Y (hY hb rfl) hcall (hdo hb)
    · rw [if_neg hE] at hcall
      exact houses_no W hT h hok hb g1 g2 c1 c2 Y E hE hcall (hdo hb)
  · rw [if_pos hb] at hcall
    exact houses_bad W hT h hok hb g1 g2 c1 c2 hcall
end Go.Eng.YtkenlcaifhffoaaDoor
end
