/- Texts put together: Hs1, Hs2. -/
import Derived.Test.YtmodblkagimhlaaDoorMHS9
import Derived.Test.YtmodblkagimhlaaDoorMHS5
import Derived.Test.YtmodblkagimhlaaDoorMHS3
import Derived.Test.YtmodblkagimhlaaDoorMHS7
/- Houses: what a call makes of one is what is to be made of it (b_ x_ q_ e_). -/
section
namespace Go.Eng.YtmodblkagimhlaaDoor
open Go Go.Eng Go.Proofs
variable (W : World)
set_option linter.unusedSimpArgs false
set_option maxRecDepth 100000
set_option linter.unusedVariables false
set_option maxHeartbeats 16000000
theorem perm_four {A B C D : Blk} {M : Mem} : (A :: B :: C :: D :: M).Perm ((A :: M) ++ [B, C, D]) :=
  List.Perm.cons A (List.perm_append_comm (l₁ := [B, C, D]) (l₂ := M))
/-- Something is done to a house in memory. -/
theorem doneH {P : Program} {f : FuncId} {args : List PV} {σ M R : Mem} {k : PV → Mem → Prop} {b : Nat} {V : PV} {Y : Hs} {E : Int}
    (h : ACalls P W f args (⟨b, .row 3 [V] 0⟩ :: M) fun v σ' => v = .int .i64 E ∧ (E = 0 → HsDone b Y σ')) (hp : σ.Perm ((⟨b, .row 3 [V] 0⟩ :: M) ++ R))
    (h0 : E = 0 → ∀ sv vv ρ, SlV sv → SlV vv → Frz ρ sv (.sl 4 (Y.ses.map encSes)) → Frz ρ vv (.sl 3 (Y.views.map encVw)) → k (.int .i64 E) (⟨b, .row 3 [.agg [sv, vv, .int .i64 Y.next]] 0⟩ :: (R ++ ρ)))
    (h1 : E ≠ 0 → k (.int .i64 E) R) : ACalls P W f args σ k := by
  refine ACalls.weak (((h.frame R).perm hp).mono ?_)
  rintro v σ' ⟨σ1, ⟨rfl, hd⟩, rfl⟩
  by_cases hE : E = 0
  · obtain ⟨sv, vv, ρ, hq, hs1, hs2, f1, f2⟩ := hd hE
    refine ⟨_, h0 hE sv vv ρ hs1 hs2 f1 f2, [], ?_⟩
    rw [List.append_nil]
    exact (hq.append_right R).trans (List.Perm.cons _ List.perm_append_comm)
  · exact ⟨R, h1 hE, σ1, List.perm_append_comm⟩
/-- A house that a call may change. -/
def DoesTo (g : FuncId) (c : List PV) (h Y : Hs) (E : Int) : Prop :=
  ∀ b (x : OH), x.T = h → (x.o = none → x.views = []) → ACalls Tryd.prog W g (.bref b 0 :: c) (⟨b, .row 3 [x.V] 0⟩ :: x.M) fun v σ' => v = .int .i64 E ∧ (E = 0 → HsDone b Y σ')
theorem houses_bad (hT : Tabs W) (h : Hs) (hok : h.ok) (hb : chkH h ≠ 0) (g1 g2 : Nat) (c1 c2 : List PV)
    (hcall : Pure Tryd.prog W g1 (encHs h :: c1) (.tup [encHs noHs, .int .i64 (chkH h)])) :
    Pure Tryd.prog W 23 [encHs h, .fn g1 c1, .fn g2 c2] (.bool true) := by
  have hcp := cloneP_ok W h hok
  have hcl := cloneHR_ok W h hok
  have hhd := housed_ok W hT
  have hsm := sameHR_ok W h hok
  have hck := checkHR_ok W hT h hok
  have hno := noHouse_ok W
  generalize chkH h = E at *
  rw [encHs_mk h] at *
  rw [encHs_mk noHs] at *
  refine Pure.of (acalls_of_vc (drawOk W) Tryd.func23 rfl (by decide) (by decide) rfl ?_)
  (refine g0_ ?_; repeat (refine n1_ fun b_ => ?_; refine g0_ ?_))
  refine (hcp).use ?_; (refine g0_ ?_; repeat (refine n1_ fun b_ => ?_; refine g0_ ?_))
  rw [forceL_eq]
  refine callV_of ?_
  refine hcall.use ?_
  (refine g0_ ?_; repeat (refine n1_ fun b_ => ?_; refine g0_ ?_))
  refine (hhd).use ?_; refine g0_ ?_
  refine g1_ ?_
  refine (hsm).use ?_; refine g0_ ?_
  refine g1_ ?_
  refine (hck).use ?_; refine g0_ ?_
  refine g1_ ?_
  refine ACalls.giveE hcl ?_
  rintro ⟨bs, L, o, vs, nx⟩ ⟨hT2, ho⟩
  try replace hdo := fun b => hdo b ⟨bs, L, o, vs, nx⟩ hT2 ho
  unfold OH.V OH.M at *
  dsimp only at *
  rcases L with _ | ⟨l0, L⟩
  · rcases o with _ | bo
    · (refine g0_ ?_; repeat (refine n1_ fun b_ => ?_; refine g0_ ?_))
      refine g1_ ?_
      refine (hno).use ?_; refine g0_ ?_
      refine g1_ ?_
      exact .of_eq (by simp)
    · (refine g0_ ?_; repeat (refine n1_ fun b_ => ?_; refine g0_ ?_))
      refine g1_ ?_
      refine (hno).use ?_; refine g0_ ?_
      refine g1_ ?_
      exact .of_eq (by simp)
  · rcases o with _ | bo
    · (refine g0_ ?_; repeat (refine n1_ fun b_ => ?_; refine g0_ ?_))
      refine g1_ ?_
      refine (hno).use ?_; refine g0_ ?_
      refine g1_ ?_
      exact .of_eq (by simp)
    · (refine g0_ ?_; repeat (refine n1_ fun b_ => ?_; refine g0_ ?_))
      refine g1_ ?_
      refine (hno).use ?_; refine g0_ ?_
      refine g1_ ?_
      exact .of_eq (by simp)
theorem houses_no (hT : Tabs W) (h : Hs) (hok : h.ok) (hb : chkH h = 0) (g1 g2 : Nat) (c1 c2 : List PV) (Y : Hs) (E : Int) (hE : E ≠ 0)
    (hcall : Pure Tryd.prog W g1 (encHs h :: c1) (.tup [encHs noHs, .int .i64 E])) (hdo : DoesTo W g2 c2 h Y E) :
    Pure Tryd.prog W 23 [encHs h, .fn g1 c1, .fn g2 c2] (.bool true) := by
  have hcp := cloneP_ok W h hok
  have hcl := cloneHR_ok W h hok
  have hhd := housed_ok W hT
  have hsm := sameHR_ok W h hok
  have hck := checkHR_ok W hT h hok
  have hno := noHouse_ok W
  rw [hb] at hck
  unfold DoesTo at hdo
  rw [encHs_mk h] at *
  rw [encHs_mk noHs] at *
  refine Pure.of (acalls_of_vc (drawOk W) Tryd.func23 rfl (by decide) (by decide) rfl ?_)
  (refine g0_ ?_; repeat (refine n1_ fun b_ => ?_; refine g0_ ?_))
  refine (hcp).use ?_; (refine g0_ ?_; repeat (refine n1_ fun b_ => ?_; refine g0_ ?_))
  rw [forceL_eq]
  refine callV_of ?_
  refine hcall.use ?_
  (refine g0_ ?_; repeat (refine n1_ fun b_ => ?_; refine g0_ ?_))
  refine (hhd).use ?_; refine g0_ ?_
  refine g1_ ?_
  refine (hsm).use ?_; refine g0_ ?_
  refine g1_ ?_
  refine (hck).use ?_; refine g0_ ?_
  refine g1_ ?_
  refine ACalls.giveE hcl ?_
  rintro ⟨bs, L, o, vs, nx⟩ ⟨hT2, ho⟩
  try replace hdo := fun b => hdo b ⟨bs, L, o, vs, nx⟩ hT2 ho
  unfold OH.V OH.M at *
  dsimp only at *
  rcases L with _ | ⟨l0, L⟩
  · rcases o with _ | bo
    · (refine g0_ ?_; repeat (refine n1_ fun b_ => ?_; refine g0_ ?_))
      refine g1_ ?_
      rw [forceL_eq]
      refine callV_of ?_
      refine doneH W (hdo _) perm_four (fun _ sv vv ρ hs1 hs2 f1 f2 => ?_) (fun _ => ?_)
      · exact absurd ‹_› hE
      · refine g0_ ?_
        refine g1_ ?_
        refine (hno).use ?_; refine g0_ ?_
        refine g1_ ?_
        exact .of_eq (by simp)
    · (refine g0_ ?_; repeat (refine n1_ fun b_ => ?_; refine g0_ ?_))
      refine g1_ ?_
      rw [forceL_eq]
      refine callV_of ?_
      refine doneH W (hdo _) perm_four (fun _ sv vv ρ hs1 hs2 f1 f2 => ?_) (fun _ => ?_)
      · exact absurd ‹_› hE
      · refine g0_ ?_
        refine g1_ ?_
        refine (hno).use ?_; refine g0_ ?_
        refine g1_ ?_
        exact .of_eq (by simp)
  · rcases o with _ | bo
    · (refine g0_ ?_; repeat (refine n1_ fun b_ => ?_; refine g0_ ?_))
      refine g1_ ?_
      rw [forceL_eq]
      refine callV_of ?_
      refine doneH W (hdo _) perm_four (fun _ sv vv ρ hs1 hs2 f1 f2 => ?_) (fun _ => ?_)
      · exact absurd ‹_› hE
      · refine g0_ ?_
        refine g1_ ?_
        refine (hno).use ?_; refine g0_ ?_
        refine g1_ ?_
        exact .of_eq (by simp)
    · (refine g0_ ?_; repeat (refine n1_ fun b_ => ?_; refine g0_ ?_))
      refine g1_ ?_
      rw [forceL_eq]
      refine callV_of ?_
      refine doneH W (hdo _) perm_four (fun _ sv vv ρ hs1 hs2 f1 f2 => ?_) (fun _ => ?_)
      · exact absurd ‹_› hE
      · refine g0_ ?_
        refine g1_ ?_
        refine (hno).use ?_; refine g0_ ?_
        refine g1_ ?_
        exact .of_eq (by simp)
theorem houses_yes (hT : Tabs W) (h : Hs) (hok : h.ok) (hb : chkH h = 0) (g1 g2 : Nat) (c1 c2 : List PV) (Y : Hs) (hY : Y.ok)
    (hcall : Pure Tryd.prog W g1 (encHs h :: c1) (.tup [encHs Y, .int .i64 0])) (hdo : DoesTo W g2 c2 h Y 0) :
    Pure Tryd.prog W 23 [encHs h, .fn g1 c1, .fn g2 c2] (.bool true) := by
  have hcp := cloneP_ok W h hok
  have hcl := cloneHR_ok W h hok
  have hhd := housed_ok W hT
  have hsm := sameHR_ok W h hok
  have hck := checkHR_ok W hT h hok
  have hsy := sameHR_ok W Y hY
  rw [hb] at hck
  unfold DoesTo at hdo
  rw [encHs_mk h] at *
  rw [encHs_mk Y] at hcall
  refine Pure.of (acalls_of_vc (drawOk W) Tryd.func23 rfl (by decide) (by decide) rfl ?_)
  (refine g0_ ?_; repeat (refine n1_ fun b_ => ?_; refine g0_ ?_))
  refine (hcp).use ?_; (refine g0_ ?_; repeat (refine n1_ fun b_ => ?_; refine g0_ ?_))
  rw [forceL_eq]
  refine callV_of ?_
  refine hcall.use ?_
  (refine g0_ ?_; repeat (refine n1_ fun b_ => ?_; refine g0_ ?_))
  refine (hhd).use ?_; refine g0_ ?_
  refine g1_ ?_
  refine (hsm).use ?_; refine g0_ ?_
  refine g1_ ?_
  refine (hck).use ?_; refine g0_ ?_
  refine g1_ ?_
  refine ACalls.giveE hcl ?_
  rintro ⟨bs, L, o, vs, nx⟩ ⟨hT2, ho⟩
  try replace hdo := fun b => hdo b ⟨bs, L, o, vs, nx⟩ hT2 ho
  unfold OH.V OH.M at *
  dsimp only at *
  rcases L with _ | ⟨l0, L⟩
  · rcases o with _ | bo
    · (refine g0_ ?_; repeat (refine n1_ fun b_ => ?_; refine g0_ ?_))
      refine g1_ ?_
      rw [forceL_eq]
      refine callV_of ?_
      refine doneH W (hdo _) perm_four (fun _ sv vv ρ hs1 hs2 f1 f2 => ?_) (fun _ => ?_)
      · rcases hs1 with rfl | ⟨c1, c2, c3, c4, rfl⟩ | ⟨c1, c2, rfl⟩
        all_goals
          rcases hs2 with rfl | ⟨d1, d2, d3, d4, rfl⟩ | ⟨d1, d2, rfl⟩
          all_goals
            refine g0_ ?_
            refine g1_ ?_
            refine hsy.borrow (args' := [encHs Y, encHs Y]) rfl rfl (fun j hj => ?_) ?_
            · match j, hj with
              | 0, _ => exact .refl _
              | 1, _ => exact frz_hs (Y := Y) ((((f1.consH _).consH _).consH _).consH _) ((((f2.consH _).consH _).consH _).consH _)
            refine g0_ ?_
            exact .of_eq (by simp)
      · exact absurd rfl ‹_›
    · (refine g0_ ?_; repeat (refine n1_ fun b_ => ?_; refine g0_ ?_))
      refine g1_ ?_
      rw [forceL_eq]
      refine callV_of ?_
      refine doneH W (hdo _) perm_four (fun _ sv vv ρ hs1 hs2 f1 f2 => ?_) (fun _ => ?_)
      · rcases hs1 with rfl | ⟨c1, c2, c3, c4, rfl⟩ | ⟨c1, c2, rfl⟩
        all_goals
          rcases hs2 with rfl | ⟨d1, d2, d3, d4, rfl⟩ | ⟨d1, d2, rfl⟩
          all_goals
            refine g0_ ?_
            refine g1_ ?_
            refine hsy.borrow (args' := [encHs Y, encHs Y]) rfl rfl (fun j hj => ?_) ?_
            · match j, hj with
              | 0, _ => exact .refl _
              | 1, _ => exact frz_hs (Y := Y) ((((f1.consH _).consH _).consH _).consH _) ((((f2.consH _).consH _).consH _).consH _)
            refine g0_ ?_
            exact .of_eq (by simp)
      · exact absurd rfl ‹_›
  · rcases o with _ | bo
    · (refine g0_ ?_; repeat (refine n1_ fun b_ => ?_; refine g0_ ?_))
      refine g1_ ?_
      rw [forceL_eq]
      refine callV_of ?_
      refine doneH W (hdo _) perm_four (fun _ sv vv ρ hs1 hs2 f1 f2 => ?_) (fun _ => ?_)
      · rcases hs1 with rfl | ⟨c1, c2, c3, c4, rfl⟩ | ⟨c1, c2, rfl⟩
        all_goals
          rcases hs2 with rfl | ⟨d1, d2, d3, d4, rfl⟩ | ⟨d1, d2, rfl⟩
          all_goals
            refine g0_ ?_
            refine g1_ ?_
            refine hsy.borrow (args' := [encHs Y, encHs Y]) rfl rfl (fun j hj => ?_) ?_
            · match j, hj with
              | 0, _ => exact .refl _
              | 1, _ => exact frz_hs (Y := Y) ((((f1.consH _).consH _).consH _).consH _) ((((f2.consH _).consH _).consH _).consH _)
            refine g0_ ?_
            exact .of_eq (by simp)
      · exact absurd rfl ‹_›
    · (refine g0_ ?_; repeat (refine n1_ fun b_ => ?_; refine g0_ ?_))
      refine g1_ ?_
      rw [forceL_eq]
      refine callV_of ?_
      refine doneH W (hdo _) perm_four (fun _ sv vv ρ hs1 hs2 f1 f2 => ?_) (fun _ => ?_)
      · rcases hs1 with rfl | ⟨c1, c2, c3, c4, rfl⟩ | ⟨c1, c2, rfl⟩
        all_goals
          rcases hs2 with rfl | ⟨d1, d2, d3, d4, rfl⟩ | ⟨d1, d2, rfl⟩
          all_goals
            refine g0_ ?_
            refine g1_ ?_
            refine hsy.borrow (args' := [encHs Y, encHs Y]) rfl rfl (fun j hj => ?_) ?_
            · match j, hj with
              | 0, _ => exact .refl _
              | 1, _ => exact frz_hs (Y := Y) ((((f1.consH _).consH _).consH _).consH _) ((((f2.consH _).consH _).consH _).consH _)
            refine g0_ ?_
            exact .of_eq (by simp)
      · exact absurd rfl ‹_›
/-- A law's half: what the call answers is what is done. -/
theorem houses_ok (hT : Tabs W) (h : Hs) (hok : h.ok) (g1 g2 : Nat) (c1 c2 : List PV) (Y : Hs) (E : Int) (hY : chkH h = 0 → E = 0 → Y.ok)
    (hcall : Pure Tryd.prog W g1 (encHs h :: c1) (.tup [encHs (chgR h E Y).1, .int .i64 (chgR h E Y).2])) (hdo : chkH h = 0 → DoesTo W g2 c2 h Y E) :
    Pure Tryd.prog W 23 [encHs h, .fn g1 c1, .fn g2 c2] (.bool true) := by
  unfold chgR at hcall
  by_cases hb : chkH h = 0
  · rw [if_neg (by simpa using hb)] at hcall
    by_cases hE : E = 0
    · subst hE
      rw [if_pos rfl] at hcall
      exact houses_yes W hT h hok hb g1 g2 c1 c2 Y (hY hb rfl) hcall (hdo hb)
    · rw [if_neg hE] at hcall
      exact houses_no W hT h hok hb g1 g2 c1 c2 Y E hE hcall (hdo hb)
  · rw [if_pos hb] at hcall
    exact houses_bad W hT h hok hb g1 g2 c1 c2 hcall
end Go.Eng.YtmodblkagimhlaaDoor
end

/- Houses: what a new session is to be, in the document (b_ x_ q_ e_). -/
section
namespace Go.Eng.YtmodblkagimhlaaDoor
open Go Go.Eng Go.Proofs
variable (W : World)
set_option linter.unusedSimpArgs false
set_option maxRecDepth 100000
set_option linter.unusedVariables false
set_option maxHeartbeats 16000000
theorem freshR_ok (b : Nat) (sv vv : PV) (next : Int) (hn : 1 ≤ next ∧ next < 9999) : ACalls Tryd.prog W 28 [.bref b 0] [⟨b, .row 3 [.agg [sv, vv, .int .i64 next]] 0⟩] (Gives (fun _ : Unit => .tup [.int .i64 next, .int .i64 0]) (fun _ => [⟨b, .row 3 [.agg [sv, vv, .int .i64 (next + 1)]] 0⟩]) (fun _ => True)) := by
  refine acalls_of_vc (drawOk W) Tryd.func28 rfl (by decide) (by decide) rfl ?_
  refine g0_ ?_
  refine g1_ ?_
  exact ⟨(), trivial, by rw [Int.add_sub_cancel], by (first | exact ⟨_, .refl _⟩ | exact wkMem.rfl' | exact ⟨_, .swap _ _ _⟩ | (repeat (first | exact wkMem.nil _ | exact wkMem.rfl' | exact wk_snoc _ _ _ | exact wk_fam (by assumption) _ _ _ | exact wk_famN (by assumption) _ _ _ | (apply wkMem.cons; (case' hl => (repeat (first | exact .here _ _ _ | apply Look.there)))) | apply wkMem.skip)))⟩
theorem freshR_full (b : Nat) (sv vv : PV) : ACalls Tryd.prog W 28 [.bref b 0] [⟨b, .row 3 [.agg [sv, vv, .int .i64 9999]] 0⟩] (Gives (fun _ : Unit => .tup [.int .i64 0, .int .i64 10]) (fun _ => [⟨b, .row 3 [.agg [sv, vv, .int .i64 9999]] 0⟩]) (fun _ => True)) := by
  refine acalls_of_vc (drawOk W) Tryd.func28 rfl (by decide) (by decide) rfl ?_
  refine g0_ ?_
  refine g1_ ?_
  exact ⟨(), trivial, rfl, by (first | exact ⟨_, .refl _⟩ | exact wkMem.rfl' | exact ⟨_, .swap _ _ _⟩ | (repeat (first | exact wkMem.nil _ | exact wkMem.rfl' | exact wk_snoc _ _ _ | exact wk_fam (by assumption) _ _ _ | exact wk_famN (by assumption) _ _ _ | (apply wkMem.cons; (case' hl => (repeat (first | exact .here _ _ _ | apply Look.there)))) | apply wkMem.skip)))⟩
theorem newWinR_ok (n : List UInt8) (p : Int) : Pure Tryd.prog W 29 [.str n, .int .i64 p] (encWin (winN n p)) := by
  refine Pure.of (acalls_of_vc (drawOk W) Tryd.func29 rfl (by decide) (by decide) rfl ?_)
  (refine g0_ ?_; repeat (refine n1_ fun b_ => ?_; refine g0_ ?_))
  refine .agg _ _ rfl fun j hj => ?_
  match j, hj with
  | 0, _ => exact .refl _
  | 1, _ => exact .refl _
  | 2, _ => exact .refl _
  | 3, _ => exact .refl _
  | 4, _ => exact .nils 4
  | 5, _ => exact .refl _
  | 6, _ => exact .refl _
  | 7, _ => exact .refl _
theorem sesV_at {L : List (Nat × Ses)} {i : Nat} {e : PV} {p : Nat × Ses} (he : (L.map sesV)[i]? = some e) (hp : L[i]? = some p) : e = sesV p := by
  rw [List.getElem?_map, hp] at he
  exact (Option.some.inj he).symm
theorem notin_snoc {L : List (Nat × Ses)} {i : Nat} {pb : Nat} {x : Ses} {n : List UInt8} (hp : L[i]? = some (pb, x)) (hne : x.name ≠ n) (h : n ∉ ((L.map Prod.snd).take i).map Ses.name) : n ∉ ((L.map Prod.snd).take (i + 1)).map Ses.name := by
  rw [take_snoc_of (show (L.map Prod.snd)[i]? = some x by rw [List.getElem?_map, hp]; rfl), List.map_append, List.mem_append, not_or]
  exact ⟨h, by simpa using fun e => hne e.symm⟩
theorem in_names {L : List (Nat × Ses)} {i : Nat} {pb : Nat} {x : Ses} (hp : L[i]? = some (pb, x)) : x.name ∈ (L.map Prod.snd).map Ses.name :=
  List.mem_map.2 ⟨x, List.mem_map.2 ⟨_, List.mem_of_getElem? hp, rfl⟩, rfl⟩
theorem ses2_ok (hT : Tabs W) (h : Hs) (hl4 : h.ses.length ≤ 4) (hnx : 1 ≤ h.next ∧ h.next ≤ 9999) (n w : List UInt8) (hns : n.length ≤ 1048576) (hws : w.length ≤ 1048576) :
    DoesTo W 26 [.ip (.str n) 0, .ip (.str w) 0] h (sesY h n w) (sesE h n w) := by
  intro b x hx ho
  have hn := isNameR_ok W hT n hns
  have hw := isNameR_ok W hT w hws
  obtain ⟨bs, L, o, vs, nx⟩ := x
  subst hx
  have hlL : L.length ≤ 4 := by simpa [OH.T] using hl4
  have hnx1 : 1 ≤ nx ∧ nx ≤ 9999 := hnx
  clear hl4 hnx
  unfold OH.V OH.M OH.T
  dsimp only at *
  rcases L with _ | ⟨l0, L⟩
  · rcases o with _ | bo
    · by_cases h1 : nameB n = false
      · rw [show sesE ⟨(([] : List (Nat × Ses))).map Prod.snd, vs, nx⟩ n w = 1 from if_pos (.inl h1)]
        rw [h1] at hn
        refine acalls_of_vc (DL_ok (by decide)) Tryd.func26 rfl (by decide) (by decide) rfl ?_
        refine g0_ ?_
        refine (hn).use ?_; refine g0_ ?_
        refine g1_ ?_
        exact ⟨rfl, fun h => by cases h⟩
      · have h1' : nameB n = true := by simpa using h1
        rw [h1'] at hn
        by_cases h2 : nameB w = false
        · rw [show sesE ⟨(([] : List (Nat × Ses))).map Prod.snd, vs, nx⟩ n w = 1 from if_pos (.inr h2)]
          rw [h2] at hw
          refine acalls_of_vc (DL_ok (by decide)) Tryd.func26 rfl (by decide) (by decide) rfl ?_
          refine g0_ ?_
          refine (hn).use ?_; refine g0_ ?_
          refine g1_ ?_
          refine (hw).use ?_; refine g0_ ?_
          refine g1_ ?_
          exact ⟨rfl, fun h => by cases h⟩
        · have h2' : nameB w = true := by simpa using h2
          rw [h2'] at hw
          have hE : sesE ⟨(([] : List (Nat × Ses))).map Prod.snd, vs, nx⟩ n w = _ := if_neg (fun h => h.elim h1 h2)
          dsimp only at hE
          by_cases h3 : n ∈ ((([] : List (Nat × Ses))).map Prod.snd).map Ses.name
          · rw [if_pos h3] at hE
            cases h3
          · rw [if_neg h3] at hE
            by_cases h4 : (([] : List (Nat × Ses))).length = 4
            · rw [if_pos (by rw [List.length_map]; exact h4)] at hE
              rw [hE]
              simp only [List.length_cons, List.length_nil] at h4
              exfalso; omega
            · rw [if_neg (by rw [List.length_map]; exact h4)] at hE
              simp only [List.length_cons, List.length_nil] at h4
              by_cases h5 : nx = 9999
              · rw [if_pos h5] at hE
                subst h5
                rw [hE]
                refine acalls_of_vc (DL_ok (by decide)) Tryd.func26 rfl (by decide) (by decide) rfl ?_
                refine g0_ ?_
                refine (hn).use ?_; refine g0_ ?_
                refine g1_ ?_
                refine (hw).use ?_; refine g0_ ?_
                refine g1_ ?_
                refine' loopI (α := Nat) (fun i => [(22, .int .i64 i)]) [(0, _), (1, _), (2, _), (20, _), (21, _)] (fun i => ⟨b, .row 3 [.agg [.nils, .nils, .int .i64 (9999 : Int)]] 0⟩ :: famR ([] : List (Nat × Ses))) (fun i => i ≤ (([] : List (Nat × Ses))).length ∧ n ∉ (((([] : List (Nat × Ses))).map Prod.snd).take i).map Ses.name) (fun i => (([] : List (Nat × Ses))).length - i) 0 ?_ ?_
                · exact ⟨Nat.zero_le _, by simp⟩
                rintro i ⟨hi, hin⟩
                by_cases hie : ¬ i = (([] : List (Nat × Ses))).length
                · exact absurd (Nat.le_zero.1 hi) hie
                have hie := Decidable.not_not.1 hie
                subst hie
                try have hlc : (l0 :: L).length = L.length + 1 := rfl
                refine g0_ ?_
                refine g1_ ?_
                refine ACalls.lend1 (freshR_full W b _ _) (by repeat (first | exact .here _ _ _ | apply Look.there)) ?_
                rintro _ -
                refine g0_ ?_
                refine g1_ ?_
                have hwn := newWinR_ok W w 0
                rw [show encWin (winN w 0) = .agg [.str w, .int .i64 0, .int .i64 0, .int .i64 1, .sl 4 [], .int .i64 0, .int .i64 0, .bool false] from rfl] at hwn
                refine Draws10.chain ⟨16, [.new, .new, .new, .new, .new, .new, .new, .new, .new, .new, .new, .new, .turn, .skip, .skip, .skip], [(12, [.again, .keep, .keep, .keep, .keep, .keep, .keep, .keep, .keep, .keep, .keep, .keep, .keep, .new, .new, .turn]), (15, [.keep, .keep, .keep, .keep, .keep, .keep, .keep, .keep, .keep, .keep, .keep, .keep, .keep, .keep, .keep, .keep])], by decide +kernel, ?_⟩; refine g0_ ?_
                refine ⟨_, (hwn).quiet, ?_⟩; (refine g0_ ?_; repeat (refine n1_ fun b_ => ?_; refine g0_ ?_))
                exact ⟨rfl, fun h => by cases h⟩
              · rw [if_neg h5] at hE
                rw [hE]
                refine acalls_of_vc (DL_ok (by decide)) Tryd.func26 rfl (by decide) (by decide) rfl ?_
                refine g0_ ?_
                refine (hn).use ?_; refine g0_ ?_
                refine g1_ ?_
                refine (hw).use ?_; refine g0_ ?_
                refine g1_ ?_
                refine' loopI (α := Nat) (fun i => [(22, .int .i64 i)]) [(0, _), (1, _), (2, _), (20, _), (21, _)] (fun i => ⟨b, .row 3 [.agg [.nils, .nils, .int .i64 nx]] 0⟩ :: famR ([] : List (Nat × Ses))) (fun i => i ≤ (([] : List (Nat × Ses))).length ∧ n ∉ (((([] : List (Nat × Ses))).map Prod.snd).take i).map Ses.name) (fun i => (([] : List (Nat × Ses))).length - i) 0 ?_ ?_
                · exact ⟨Nat.zero_le _, by simp⟩
                rintro i ⟨hi, hin⟩
                by_cases hie : ¬ i = (([] : List (Nat × Ses))).length
                · exact absurd (Nat.le_zero.1 hi) hie
                have hie := Decidable.not_not.1 hie
                subst hie
                try have hlc : (l0 :: L).length = L.length + 1 := rfl
                refine g0_ ?_
                refine g1_ ?_
                refine ACalls.lend1 (freshR_ok W b _ _ nx (by omega)) (by repeat (first | exact .here _ _ _ | apply Look.there)) ?_
                rintro _ -
                refine g0_ ?_
                refine g1_ ?_
                have hwn := newWinR_ok W w nx
                rw [show encWin (winN w nx) = .agg [.str w, .int .i64 0, .int .i64 nx, .int .i64 1, .sl 4 [], .int .i64 nx, .int .i64 0, .bool false] from rfl] at hwn
                refine Draws10.chain ⟨16, [.new, .new, .new, .new, .new, .new, .new, .new, .new, .new, .new, .new, .turn, .skip, .skip, .skip], [(12, [.again, .keep, .keep, .keep, .keep, .keep, .keep, .keep, .keep, .keep, .keep, .keep, .keep, .new, .new, .turn]), (15, [.keep, .keep, .keep, .keep, .keep, .keep, .keep, .keep, .keep, .keep, .keep, .keep, .keep, .keep, .keep, .keep])], by decide +kernel, ?_⟩; refine g0_ ?_
                refine ⟨_, (hwn).quiet, ?_⟩; (refine g0_ ?_; repeat (refine n1_ fun b_ => ?_; refine g0_ ?_))
                refine ⟨rfl, fun _ => hs_done rfl ?_ ?_ ?_ ?_⟩
                · exact .inr (.inl ⟨_, _, _, _, rfl⟩)
                · first | exact .inl rfl | exact .inr (.inl ⟨_, _, _, _, rfl⟩)
                · exact FrzL.row (es' := [encSes ⟨n, [winN w nx], 0, 0⟩]) (.one (.of_eq rfl)) (by repeat (first | exact .here _ _ _ | apply Look.there)) rfl
                · first | exact frz_vw (o := none) ho (fun b hb => by cases hb) | exact frz_row (by repeat (first | exact .here _ _ _ | apply Look.there)) _ (by simp [sesY])
    · by_cases h1 : nameB n = false
      · rw [show sesE ⟨(([] : List (Nat × Ses))).map Prod.snd, vs, nx⟩ n w = 1 from if_pos (.inl h1)]
        rw [h1] at hn
        refine acalls_of_vc (DL_ok (by decide)) Tryd.func26 rfl (by decide) (by decide) rfl ?_
        refine g0_ ?_
        refine (hn).use ?_; refine g0_ ?_
        refine g1_ ?_
        exact ⟨rfl, fun h => by cases h⟩
      · have h1' : nameB n = true := by simpa using h1
        rw [h1'] at hn
        by_cases h2 : nameB w = false
        · rw [show sesE ⟨(([] : List (Nat × Ses))).map Prod.snd, vs, nx⟩ n w = 1 from if_pos (.inr h2)]
          rw [h2] at hw
          refine acalls_of_vc (DL_ok (by decide)) Tryd.func26 rfl (by decide) (by decide) rfl ?_
          refine g0_ ?_
          refine (hn).use ?_; refine g0_ ?_
          refine g1_ ?_
          refine (hw).use ?_; refine g0_ ?_
          refine g1_ ?_
          exact ⟨rfl, fun h => by cases h⟩
        · have h2' : nameB w = true := by simpa using h2
          rw [h2'] at hw
          have hE : sesE ⟨(([] : List (Nat × Ses))).map Prod.snd, vs, nx⟩ n w = _ := if_neg (fun h => h.elim h1 h2)
          dsimp only at hE
          by_cases h3 : n ∈ ((([] : List (Nat × Ses))).map Prod.snd).map Ses.name
          · rw [if_pos h3] at hE
            cases h3
          · rw [if_neg h3] at hE
            by_cases h4 : (([] : List (Nat × Ses))).length = 4
            · rw [if_pos (by rw [List.length_map]; exact h4)] at hE
              rw [hE]
              simp only [List.length_cons, List.length_nil] at h4
              exfalso; omega
            · rw [if_neg (by rw [List.length_map]; exact h4)] at hE
              simp only [List.length_cons, List.length_nil] at h4
              by_cases h5 : nx = 9999
              · rw [if_pos h5] at hE
                subst h5
                rw [hE]
                refine acalls_of_vc (DL_ok (by decide)) Tryd.func26 rfl (by decide) (by decide) rfl ?_
                refine g0_ ?_
                refine (hn).use ?_; refine g0_ ?_
                refine g1_ ?_
                refine (hw).use ?_; refine g0_ ?_
                refine g1_ ?_
                refine' loopI (α := Nat) (fun i => [(22, .int .i64 i)]) [(0, _), (1, _), (2, _), (20, _), (21, _)] (fun i => ⟨b, .row 3 [.agg [.nils, .rsl bo 3 0 vs.length, .int .i64 (9999 : Int)]] 0⟩ :: ⟨bo, .row 3 (vs.map encVw) 0⟩ :: famR ([] : List (Nat × Ses))) (fun i => i ≤ (([] : List (Nat × Ses))).length ∧ n ∉ (((([] : List (Nat × Ses))).map Prod.snd).take i).map Ses.name) (fun i => (([] : List (Nat × Ses))).length - i) 0 ?_ ?_
                · exact ⟨Nat.zero_le _, by simp⟩
                rintro i ⟨hi, hin⟩
                by_cases hie : ¬ i = (([] : List (Nat × Ses))).length
                · exact absurd (Nat.le_zero.1 hi) hie
                have hie := Decidable.not_not.1 hie
                subst hie
                try have hlc : (l0 :: L).length = L.length + 1 := rfl
                refine g0_ ?_
                refine g1_ ?_
                refine ACalls.lend1 (freshR_full W b _ _) (by repeat (first | exact .here _ _ _ | apply Look.there)) ?_
                rintro _ -
                refine g0_ ?_
                refine g1_ ?_
                have hwn := newWinR_ok W w 0
                rw [show encWin (winN w 0) = .agg [.str w, .int .i64 0, .int .i64 0, .int .i64 1, .sl 4 [], .int .i64 0, .int .i64 0, .bool false] from rfl] at hwn
                refine Draws10.chain ⟨16, [.new, .new, .new, .new, .new, .new, .new, .new, .new, .new, .new, .new, .turn, .skip, .skip, .skip], [(12, [.again, .keep, .keep, .keep, .keep, .keep, .keep, .keep, .keep, .keep, .keep, .keep, .keep, .new, .new, .turn]), (15, [.keep, .keep, .keep, .keep, .keep, .keep, .keep, .keep, .keep, .keep, .keep, .keep, .keep, .keep, .keep, .keep])], by decide +kernel, ?_⟩; refine g0_ ?_
                refine ⟨_, (hwn).quiet, ?_⟩; (refine g0_ ?_; repeat (refine n1_ fun b_ => ?_; refine g0_ ?_))
                exact ⟨rfl, fun h => by cases h⟩
              · rw [if_neg h5] at hE
                rw [hE]
                refine acalls_of_vc (DL_ok (by decide)) Tryd.func26 rfl (by decide) (by decide) rfl ?_
                refine g0_ ?_
                refine (hn).use ?_; refine g0_ ?_
                refine g1_ ?_
                refine (hw).use ?_; refine g0_ ?_
                refine g1_ ?_
                refine' loopI (α := Nat) (fun i => [(22, .int .i64 i)]) [(0, _), (1, _), (2, _), (20, _), (21, _)] (fun i => ⟨b, .row 3 [.agg [.nils, .rsl bo 3 0 vs.length, .int .i64 nx]] 0⟩ :: ⟨bo, .row 3 (vs.map encVw) 0⟩ :: famR ([] : List (Nat × Ses))) (fun i => i ≤ (([] : List (Nat × Ses))).length ∧ n ∉ (((([] : List (Nat × Ses))).map Prod.snd).take i).map Ses.name) (fun i => (([] : List (Nat × Ses))).length - i) 0 ?_ ?_
                · exact ⟨Nat.zero_le _, by simp⟩
                rintro i ⟨hi, hin⟩
                by_cases hie : ¬ i = (([] : List (Nat × Ses))).length
                · exact absurd (Nat.le_zero.1 hi) hie
                have hie := Decidable.not_not.1 hie
                subst hie
                try have hlc : (l0 :: L).length = L.length + 1 := rfl
                refine g0_ ?_
                refine g1_ ?_
                refine ACalls.lend1 (freshR_ok W b _ _ nx (by omega)) (by repeat (first | exact .here _ _ _ | apply Look.there)) ?_
                rintro _ -
                refine g0_ ?_
                refine g1_ ?_
                have hwn := newWinR_ok W w nx
                rw [show encWin (winN w nx) = .agg [.str w, .int .i64 0, .int .i64 nx, .int .i64 1, .sl 4 [], .int .i64 nx, .int .i64 0, .bool false] from rfl] at hwn
                refine Draws10.chain ⟨16, [.new, .new, .new, .new, .new, .new, .new, .new, .new, .new, .new, .new, .turn, .skip, .skip, .skip], [(12, [.again, .keep, .keep, .keep, .keep, .keep, .keep, .keep, .keep, .keep, .keep, .keep, .keep, .new, .new, .turn]), (15, [.keep, .keep, .keep, .keep, .keep, .keep, .keep, .keep, .keep, .keep, .keep, .keep, .keep, .keep, .keep, .keep])], by decide +kernel, ?_⟩; refine g0_ ?_
                refine ⟨_, (hwn).quiet, ?_⟩; (refine g0_ ?_; repeat (refine n1_ fun b_ => ?_; refine g0_ ?_))
                refine ⟨rfl, fun _ => hs_done rfl ?_ ?_ ?_ ?_⟩
                · exact .inr (.inl ⟨_, _, _, _, rfl⟩)
                · first | exact .inl rfl | exact .inr (.inl ⟨_, _, _, _, rfl⟩)
                · exact FrzL.row (es' := [encSes ⟨n, [winN w nx], 0, 0⟩]) (.one (.of_eq rfl)) (by repeat (first | exact .here _ _ _ | apply Look.there)) rfl
                · first | exact frz_vw (o := none) ho (fun b hb => by cases hb) | exact frz_row (by repeat (first | exact .here _ _ _ | apply Look.there)) _ (by simp [sesY])
  · have hLm : (List.map sesV L).length = L.length := List.length_map _
    have hlL2 : L.length ≤ 3 := by simpa using hlL
    rcases o with _ | bo
    · by_cases h1 : nameB n = false
      · rw [show sesE ⟨((l0 :: L)).map Prod.snd, vs, nx⟩ n w = 1 from if_pos (.inl h1)]
        rw [h1] at hn
        refine acalls_of_vc (DL_ok (by decide)) Tryd.func26 rfl (by decide) (by decide) rfl ?_
        refine g0_ ?_
        refine (hn).use ?_; refine g0_ ?_
        refine g1_ ?_
        exact ⟨rfl, fun h => by cases h⟩
      · have h1' : nameB n = true := by simpa using h1
        rw [h1'] at hn
        by_cases h2 : nameB w = false
        · rw [show sesE ⟨((l0 :: L)).map Prod.snd, vs, nx⟩ n w = 1 from if_pos (.inr h2)]
          rw [h2] at hw
          refine acalls_of_vc (DL_ok (by decide)) Tryd.func26 rfl (by decide) (by decide) rfl ?_
          refine g0_ ?_
          refine (hn).use ?_; refine g0_ ?_
          refine g1_ ?_
          refine (hw).use ?_; refine g0_ ?_
          refine g1_ ?_
          exact ⟨rfl, fun h => by cases h⟩
        · have h2' : nameB w = true := by simpa using h2
          rw [h2'] at hw
          have hE : sesE ⟨((l0 :: L)).map Prod.snd, vs, nx⟩ n w = _ := if_neg (fun h => h.elim h1 h2)
          dsimp only at hE
          by_cases h3 : n ∈ (((l0 :: L)).map Prod.snd).map Ses.name
          · rw [if_pos h3] at hE
            rw [hE]
            refine acalls_of_vc (DL_ok (by decide)) Tryd.func26 rfl (by decide) (by decide) rfl ?_
            refine g0_ ?_
            refine (hn).use ?_; refine g0_ ?_
            refine g1_ ?_
            refine (hw).use ?_; refine g0_ ?_
            refine g1_ ?_
            refine' loopI (α := Nat) (fun i => [(22, .int .i64 i)]) [(0, _), (1, _), (2, _), (20, _), (21, _)] (fun i => ⟨b, .row 3 [.agg [.rsl bs 4 0 ((List.map sesV L).length + 1), .nils, .int .i64 nx]] 0⟩ :: ⟨bs, .row 4 (sesV l0 :: List.map sesV L) 0⟩ :: famR (l0 :: L)) (fun i => i ≤ ((l0 :: L)).length ∧ n ∉ ((((l0 :: L)).map Prod.snd).take i).map Ses.name) (fun i => ((l0 :: L)).length - i) 0 ?_ ?_
            · exact ⟨Nat.zero_le _, by simp⟩
            rintro i ⟨hi, hin⟩
            by_cases hie : i = ((l0 :: L)).length
            · subst hie
              rw [List.take_of_length_le (by simp)] at hin
              exact absurd h3 hin
            · have hil : i < ((l0 :: L)).length := by omega
              obtain ⟨p, hp⟩ : ∃ p, ((l0 :: L))[i]? = some p := ⟨_, List.getElem?_eq_getElem hil⟩
              have hlc : (l0 :: L).length = L.length + 1 := rfl
              refine g0_ ?_
              (refine g1_ ?_; repeat (refine Elem1.mk fun e_ he_ => ?_; refine g1_ ?_))
              rw [Nat.zero_add] at he_
              obtain rfl : e_ = sesV p := sesV_at (L := (l0 :: L)) he_ hp
              obtain ⟨pb, ⟨pn, pw, pa, pbf⟩⟩ := p
              rcases pw with _ | ⟨w0, ws⟩
              · rw [show sesV (pb, ⟨pn, [], pa, pbf⟩) = .agg [.str pn, .nils, .int .i64 pa, .int .i64 pbf] from rfl]
                (refine g0_ ?_; repeat (refine n1_ fun b_ => ?_; refine g0_ ?_))
                by_cases hpn : pn = n
                · subst hpn
                  refine g1_ ?_
                  exact ⟨rfl, fun h => by cases h⟩
                · refine g1_ ?_
                  refine nx_ (i + 1) ?_ ?_
                  · exact ⟨hil, notin_snoc hp hpn hin⟩
                  · omega
              · rw [show sesV (pb, ⟨pn, w0 :: ws, pa, pbf⟩) = .agg [.str pn, .rsl pb 8 0 ((List.map encWin ws).length + 1), .int .i64 pa, .int .i64 pbf] from rfl]
                (refine g0_ ?_; repeat (refine n1_ fun b_ => ?_; refine g0_ ?_))
                by_cases hpn : pn = n
                · subst hpn
                  refine g1_ ?_
                  exact ⟨rfl, fun h => by cases h⟩
                · refine g1_ ?_
                  refine nx_ (i + 1) ?_ ?_
                  · exact ⟨hil, notin_snoc hp hpn hin⟩
                  · omega
          · rw [if_neg h3] at hE
            by_cases h4 : ((l0 :: L)).length = 4
            · rw [if_pos (by rw [List.length_map]; exact h4)] at hE
              rw [hE]
              simp only [List.length_cons, List.length_nil] at h4
              refine acalls_of_vc (DL_ok (by decide)) Tryd.func26 rfl (by decide) (by decide) rfl ?_
              refine g0_ ?_
              refine (hn).use ?_; refine g0_ ?_
              refine g1_ ?_
              refine (hw).use ?_; refine g0_ ?_
              refine g1_ ?_
              refine' loopI (α := Nat) (fun i => [(22, .int .i64 i)]) [(0, _), (1, _), (2, _), (20, _), (21, _)] (fun i => ⟨b, .row 3 [.agg [.rsl bs 4 0 ((List.map sesV L).length + 1), .nils, .int .i64 nx]] 0⟩ :: ⟨bs, .row 4 (sesV l0 :: List.map sesV L) 0⟩ :: famR (l0 :: L)) (fun i => i ≤ ((l0 :: L)).length ∧ n ∉ ((((l0 :: L)).map Prod.snd).take i).map Ses.name) (fun i => ((l0 :: L)).length - i) 0 ?_ ?_
              · exact ⟨Nat.zero_le _, by simp⟩
              rintro i ⟨hi, hin⟩
              by_cases hie : ¬ i = ((l0 :: L)).length
              · have hil : i < ((l0 :: L)).length := by omega
                obtain ⟨p, hp⟩ : ∃ p, ((l0 :: L))[i]? = some p := ⟨_, List.getElem?_eq_getElem hil⟩
                have hlc : (l0 :: L).length = L.length + 1 := rfl
                refine g0_ ?_
                (refine g1_ ?_; repeat (refine Elem1.mk fun e_ he_ => ?_; refine g1_ ?_))
                rw [Nat.zero_add] at he_
                obtain rfl : e_ = sesV p := sesV_at (L := (l0 :: L)) he_ hp
                obtain ⟨pb, ⟨pn, pw, pa, pbf⟩⟩ := p
                rcases pw with _ | ⟨w0, ws⟩
                · rw [show sesV (pb, ⟨pn, [], pa, pbf⟩) = .agg [.str pn, .nils, .int .i64 pa, .int .i64 pbf] from rfl]
                  (refine g0_ ?_; repeat (refine n1_ fun b_ => ?_; refine g0_ ?_))
                  by_cases hpn : pn = n
                  · subst hpn
                    exact absurd (in_names hp) h3
                  · refine g1_ ?_
                    refine nx_ (i + 1) ?_ ?_
                    · exact ⟨hil, notin_snoc hp hpn hin⟩
                    · omega
                · rw [show sesV (pb, ⟨pn, w0 :: ws, pa, pbf⟩) = .agg [.str pn, .rsl pb 8 0 ((List.map encWin ws).length + 1), .int .i64 pa, .int .i64 pbf] from rfl]
                  (refine g0_ ?_; repeat (refine n1_ fun b_ => ?_; refine g0_ ?_))
                  by_cases hpn : pn = n
                  · subst hpn
                    exact absurd (in_names hp) h3
                  · refine g1_ ?_
                    refine nx_ (i + 1) ?_ ?_
                    · exact ⟨hil, notin_snoc hp hpn hin⟩
                    · omega
              have hie := Decidable.not_not.1 hie
              subst hie
              try have hlc : (l0 :: L).length = L.length + 1 := rfl
              refine g0_ ?_
              refine g1_ ?_
              exact ⟨rfl, fun h => by cases h⟩
            · rw [if_neg (by rw [List.length_map]; exact h4)] at hE
              simp only [List.length_cons, List.length_nil] at h4
              by_cases h5 : nx = 9999
              · rw [if_pos h5] at hE
                subst h5
                rw [hE]
                refine acalls_of_vc (DL_ok (by decide)) Tryd.func26 rfl (by decide) (by decide) rfl ?_
                refine g0_ ?_
                refine (hn).use ?_; refine g0_ ?_
                refine g1_ ?_
                refine (hw).use ?_; refine g0_ ?_
                refine g1_ ?_
                refine' loopI (α := Nat) (fun i => [(22, .int .i64 i)]) [(0, _), (1, _), (2, _), (20, _), (21, _)] (fun i => ⟨b, .row 3 [.agg [.rsl bs 4 0 ((List.map sesV L).length + 1), .nils, .int .i64 (9999 : Int)]] 0⟩ :: ⟨bs, .row 4 (sesV l0 :: List.map sesV L) 0⟩ :: famR (l0 :: L)) (fun i => i ≤ ((l0 :: L)).length ∧ n ∉ ((((l0 :: L)).map Prod.snd).take i).map Ses.name) (fun i => ((l0 :: L)).length - i) 0 ?_ ?_
                · exact ⟨Nat.zero_le _, by simp⟩
                rintro i ⟨hi, hin⟩
                by_cases hie : ¬ i = ((l0 :: L)).length
                · have hil : i < ((l0 :: L)).length := by omega
                  obtain ⟨p, hp⟩ : ∃ p, ((l0 :: L))[i]? = some p := ⟨_, List.getElem?_eq_getElem hil⟩
                  have hlc : (l0 :: L).length = L.length + 1 := rfl
                  refine g0_ ?_
                  (refine g1_ ?_; repeat (refine Elem1.mk fun e_ he_ => ?_; refine g1_ ?_))
                  rw [Nat.zero_add] at he_
                  obtain rfl : e_ = sesV p := sesV_at (L := (l0 :: L)) he_ hp
                  obtain ⟨pb, ⟨pn, pw, pa, pbf⟩⟩ := p
                  rcases pw with _ | ⟨w0, ws⟩
                  · rw [show sesV (pb, ⟨pn, [], pa, pbf⟩) = .agg [.str pn, .nils, .int .i64 pa, .int .i64 pbf] from rfl]
                    (refine g0_ ?_; repeat (refine n1_ fun b_ => ?_; refine g0_ ?_))
                    by_cases hpn : pn = n
                    · subst hpn
                      exact absurd (in_names hp) h3
                    · refine g1_ ?_
                      refine nx_ (i + 1) ?_ ?_
                      · exact ⟨hil, notin_snoc hp hpn hin⟩
                      · omega
                  · rw [show sesV (pb, ⟨pn, w0 :: ws, pa, pbf⟩) = .agg [.str pn, .rsl pb 8 0 ((List.map encWin ws).length + 1), .int .i64 pa, .int .i64 pbf] from rfl]
                    (refine g0_ ?_; repeat (refine n1_ fun b_ => ?_; refine g0_ ?_))
                    by_cases hpn : pn = n
                    · subst hpn
                      exact absurd (in_names hp) h3
                    · refine g1_ ?_
                      refine nx_ (i + 1) ?_ ?_
                      · exact ⟨hil, notin_snoc hp hpn hin⟩
                      · omega
                have hie := Decidable.not_not.1 hie
                subst hie
                try have hlc : (l0 :: L).length = L.length + 1 := rfl
                refine g0_ ?_
                refine g1_ ?_
                refine ACalls.lend1 (freshR_full W b _ _) (by repeat (first | exact .here _ _ _ | apply Look.there)) ?_
                rintro _ -
                refine g0_ ?_
                refine g1_ ?_
                have hwn := newWinR_ok W w 0
                rw [show encWin (winN w 0) = .agg [.str w, .int .i64 0, .int .i64 0, .int .i64 1, .sl 4 [], .int .i64 0, .int .i64 0, .bool false] from rfl] at hwn
                refine Draws10.chain ⟨16, [.new, .new, .new, .new, .new, .new, .new, .new, .new, .new, .new, .new, .turn, .skip, .skip, .skip], [(12, [.again, .keep, .keep, .keep, .keep, .keep, .keep, .keep, .keep, .keep, .keep, .keep, .keep, .new, .new, .turn]), (15, [.keep, .keep, .keep, .keep, .keep, .keep, .keep, .keep, .keep, .keep, .keep, .keep, .keep, .keep, .keep, .keep])], by decide +kernel, ?_⟩; refine g0_ ?_
                refine ⟨_, (hwn).quiet, ?_⟩; (refine g0_ ?_; repeat (refine n2_ fun b_ => ?_; refine g0_ ?_))
                exact ⟨rfl, fun h => by cases h⟩
              · rw [if_neg h5] at hE
                rw [hE]
                refine acalls_of_vc (DL_ok (by decide)) Tryd.func26 rfl (by decide) (by decide) rfl ?_
                refine g0_ ?_
                refine (hn).use ?_; refine g0_ ?_
                refine g1_ ?_
                refine (hw).use ?_; refine g0_ ?_
                refine g1_ ?_
                refine' loopI (α := Nat) (fun i => [(22, .int .i64 i)]) [(0, _), (1, _), (2, _), (20, _), (21, _)] (fun i => ⟨b, .row 3 [.agg [.rsl bs 4 0 ((List.map sesV L).length + 1), .nils, .int .i64 nx]] 0⟩ :: ⟨bs, .row 4 (sesV l0 :: List.map sesV L) 0⟩ :: famR (l0 :: L)) (fun i => i ≤ ((l0 :: L)).length ∧ n ∉ ((((l0 :: L)).map Prod.snd).take i).map Ses.name) (fun i => ((l0 :: L)).length - i) 0 ?_ ?_
                · exact ⟨Nat.zero_le _, by simp⟩
                rintro i ⟨hi, hin⟩
                by_cases hie : ¬ i = ((l0 :: L)).length
                · have hil : i < ((l0 :: L)).length := by omega
                  obtain ⟨p, hp⟩ : ∃ p, ((l0 :: L))[i]? = some p := ⟨_, List.getElem?_eq_getElem hil⟩
                  have hlc : (l0 :: L).length = L.length + 1 := rfl
                  refine g0_ ?_
                  (refine g1_ ?_; repeat (refine Elem1.mk fun e_ he_ => ?_; refine g1_ ?_))
                  rw [Nat.zero_add] at he_
                  obtain rfl : e_ = sesV p := sesV_at (L := (l0 :: L)) he_ hp
                  obtain ⟨pb, ⟨pn, pw, pa, pbf⟩⟩ := p
                  rcases pw with _ | ⟨w0, ws⟩
                  · rw [show sesV (pb, ⟨pn, [], pa, pbf⟩) = .agg [.str pn, .nils, .int .i64 pa, .int .i64 pbf] from rfl]
                    (refine g0_ ?_; repeat (refine n1_ fun b_ => ?_; refine g0_ ?_))
                    by_cases hpn : pn = n
                    · subst hpn
                      exact absurd (in_names hp) h3
                    · refine g1_ ?_
                      refine nx_ (i + 1) ?_ ?_
                      · exact ⟨hil, notin_snoc hp hpn hin⟩
                      · omega
                  · rw [show sesV (pb, ⟨pn, w0 :: ws, pa, pbf⟩) = .agg [.str pn, .rsl pb 8 0 ((List.map encWin ws).length + 1), .int .i64 pa, .int .i64 pbf] from rfl]
                    (refine g0_ ?_; repeat (refine n1_ fun b_ => ?_; refine g0_ ?_))
                    by_cases hpn : pn = n
                    · subst hpn
                      exact absurd (in_names hp) h3
                    · refine g1_ ?_
                      refine nx_ (i + 1) ?_ ?_
                      · exact ⟨hil, notin_snoc hp hpn hin⟩
                      · omega
                have hie := Decidable.not_not.1 hie
                subst hie
                try have hlc : (l0 :: L).length = L.length + 1 := rfl
                refine g0_ ?_
                refine g1_ ?_
                refine ACalls.lend1 (freshR_ok W b _ _ nx (by omega)) (by repeat (first | exact .here _ _ _ | apply Look.there)) ?_
                rintro _ -
                refine g0_ ?_
                refine g1_ ?_
                have hwn := newWinR_ok W w nx
                rw [show encWin (winN w nx) = .agg [.str w, .int .i64 0, .int .i64 nx, .int .i64 1, .sl 4 [], .int .i64 nx, .int .i64 0, .bool false] from rfl] at hwn
                refine Draws10.chain ⟨16, [.new, .new, .new, .new, .new, .new, .new, .new, .new, .new, .new, .new, .turn, .skip, .skip, .skip], [(12, [.again, .keep, .keep, .keep, .keep, .keep, .keep, .keep, .keep, .keep, .keep, .keep, .keep, .new, .new, .turn]), (15, [.keep, .keep, .keep, .keep, .keep, .keep, .keep, .keep, .keep, .keep, .keep, .keep, .keep, .keep, .keep, .keep])], by decide +kernel, ?_⟩; refine g0_ ?_
                refine ⟨_, (hwn).quiet, ?_⟩; (refine g0_ ?_; repeat (refine n2_ fun b_ => ?_; refine g0_ ?_))
                refine ⟨rfl, fun _ => hs_done rfl ?_ ?_ ?_ ?_⟩
                · exact .inr (.inl ⟨_, _, _, _, rfl⟩)
                · first | exact .inl rfl | exact .inr (.inl ⟨_, _, _, _, rfl⟩)
                · have hfl : ∀ {ρ : Mem}, wkMem ρ (famR (l0 :: L)) → FrzL ρ ((sesV l0 :: List.map sesV L) ++ [.agg [.str n, .sl 8 [encWin (winN w nx)], .int .i64 0, .int .i64 0]]) ((((l0 :: L).map Prod.snd) ++ [(⟨n, [winN w nx], 0, 0⟩ : Ses)]).map encSes) := fun hw => by
                    rw [List.map_append]
                    exact (frz_ohF (L := l0 :: L) fun p hp hn => Look.of_wk hw (mem_famR hp hn)).app (.one (.of_eq rfl))
                  refine FrzL.row (hfl ?_) (b := b_) (fz := 0) (by repeat (first | exact .here _ _ _ | apply Look.there)) (by simp)
                  (first | exact ⟨_, .refl _⟩ | exact wkMem.rfl' | exact ⟨_, .swap _ _ _⟩ | (repeat (first | exact wkMem.nil _ | exact wkMem.rfl' | exact wk_snoc _ _ _ | exact wk_fam (by assumption) _ _ _ | exact wk_famN (by assumption) _ _ _ | (apply wkMem.cons; (case' hl => (repeat (first | exact .here _ _ _ | apply Look.there)))) | apply wkMem.skip)))
                · first | exact frz_vw (o := none) ho (fun b hb => by cases hb) | exact frz_row (by repeat (first | exact .here _ _ _ | apply Look.there)) _ (by simp [sesY])
    · by_cases h1 : nameB n = false
      · rw [show sesE ⟨((l0 :: L)).map Prod.snd, vs, nx⟩ n w = 1 from if_pos (.inl h1)]
        rw [h1] at hn
        refine acalls_of_vc (DL_ok (by decide)) Tryd.func26 rfl (by decide) (by decide) rfl ?_
        refine g0_ ?_
        refine (hn).use ?_; refine g0_ ?_
        refine g1_ ?_
        exact ⟨rfl, fun h => by cases h⟩
      · have h1' : nameB n = true := by simpa using h1
        rw [h1'] at hn
        by_cases h2 : nameB w = false
        · rw [show sesE ⟨((l0 :: L)).map Prod.snd, vs, nx⟩ n w = 1 from if_pos (.inr h2)]
          rw [h2] at hw
          refine acalls_of_vc (DL_ok (by decide)) Tryd.func26 rfl (by decide) (by decide) rfl ?_
          refine g0_ ?_
          refine (hn).use ?_; refine g0_ ?_
          refine g1_ ?_
          refine (hw).use ?_; refine g0_ ?_
          refine g1_ ?_
          exact ⟨rfl, fun h => by cases h⟩
        · have h2' : nameB w = true := by simpa using h2
          rw [h2'] at hw
          have hE : sesE ⟨((l0 :: L)).map Prod.snd, vs, nx⟩ n w = _ := if_neg (fun h => h.elim h1 h2)
          dsimp only at hE
          by_cases h3 : n ∈ (((l0 :: L)).map Prod.snd).map Ses.name
          · rw [if_pos h3] at hE
            rw [hE]
            refine acalls_of_vc (DL_ok (by decide)) Tryd.func26 rfl (by decide) (by decide) rfl ?_
            refine g0_ ?_
            refine (hn).use ?_; refine g0_ ?_
            refine g1_ ?_
            refine (hw).use ?_; refine g0_ ?_
            refine g1_ ?_
            refine' loopI (α := Nat) (fun i => [(22, .int .i64 i)]) [(0, _), (1, _), (2, _), (20, _), (21, _)] (fun i => ⟨b, .row 3 [.agg [.rsl bs 4 0 ((List.map sesV L).length + 1), .rsl bo 3 0 vs.length, .int .i64 nx]] 0⟩ :: ⟨bo, .row 3 (vs.map encVw) 0⟩ :: ⟨bs, .row 4 (sesV l0 :: List.map sesV L) 0⟩ :: famR (l0 :: L)) (fun i => i ≤ ((l0 :: L)).length ∧ n ∉ ((((l0 :: L)).map Prod.snd).take i).map Ses.name) (fun i => ((l0 :: L)).length - i) 0 ?_ ?_
            · exact ⟨Nat.zero_le _, by simp⟩
            rintro i ⟨hi, hin⟩
            by_cases hie : i = ((l0 :: L)).length
            · subst hie
              rw [List.take_of_length_le (by simp)] at hin
              exact absurd h3 hin
            · have hil : i < ((l0 :: L)).length := by omega
              obtain ⟨p, hp⟩ : ∃ p, ((l0 :: L))[i]? = some p := ⟨_, List.getElem?_eq_getElem hil⟩
              have hlc : (l0 :: L).length = L.length + 1 := rfl
              refine g0_ ?_
              (refine g1_ ?_; repeat (refine Elem1.mk fun e_ he_ => ?_; refine g1_ ?_))
              rw [Nat.zero_add] at he_
              obtain rfl : e_ = sesV p := sesV_at (L := (l0 :: L)) he_ hp
              obtain ⟨pb, ⟨pn, pw, pa, pbf⟩⟩ := p
              rcases pw with _ | ⟨w0, ws⟩
              · rw [show sesV (pb, ⟨pn, [], pa, pbf⟩) = .agg [.str pn, .nils, .int .i64 pa, .int .i64 pbf] from rfl]
                (refine g0_ ?_; repeat (refine n1_ fun b_ => ?_; refine g0_ ?_))
                by_cases hpn : pn = n
                · subst hpn
                  refine g1_ ?_
                  exact ⟨rfl, fun h => by cases h⟩
                · refine g1_ ?_
                  refine nx_ (i + 1) ?_ ?_
                  · exact ⟨hil, notin_snoc hp hpn hin⟩
                  · omega
              · rw [show sesV (pb, ⟨pn, w0 :: ws, pa, pbf⟩) = .agg [.str pn, .rsl pb 8 0 ((List.map encWin ws).length + 1), .int .i64 pa, .int .i64 pbf] from rfl]
                (refine g0_ ?_; repeat (refine n1_ fun b_ => ?_; refine g0_ ?_))
                by_cases hpn : pn = n
                · subst hpn
                  refine g1_ ?_
                  exact ⟨rfl, fun h => by cases h⟩
                · refine g1_ ?_
                  refine nx_ (i + 1) ?_ ?_
                  · exact ⟨hil, notin_snoc hp hpn hin⟩
                  · omega
          · rw [if_neg h3] at hE
            by_cases h4 : ((l0 :: L)).length = 4
            · rw [if_pos (by rw [List.length_map]; exact h4)] at hE
              rw [hE]
              simp only [List.length_cons, List.length_nil] at h4
              refine acalls_of_vc (DL_ok (by decide)) Tryd.func26 rfl (by decide) (by decide) rfl ?_
              refine g0_ ?_
              refine (hn).use ?_; refine g0_ ?_
              refine g1_ ?_
              refine (hw).use ?_; refine g0_ ?_
              refine g1_ ?_
              refine' loopI (α := Nat) (fun i => [(22, .int .i64 i)]) [(0, _), (1, _), (2, _), (20, _), (21, _)] (fun i => ⟨b, .row 3 [.agg [.rsl bs 4 0 ((List.map sesV L).length + 1), .rsl bo 3 0 vs.length, .int .i64 nx]] 0⟩ :: ⟨bo, .row 3 (vs.map encVw) 0⟩ :: ⟨bs, .row 4 (sesV l0 :: List.map sesV L) 0⟩ :: famR (l0 :: L)) (fun i => i ≤ ((l0 :: L)).length ∧ n ∉ ((((l0 :: L)).map Prod.snd).take i).map Ses.name) (fun i => ((l0 :: L)).length - i) 0 ?_ ?_
              · exact ⟨Nat.zero_le _, by simp⟩
              rintro i ⟨hi, hin⟩
              by_cases hie : ¬ i = ((l0 :: L)).length
              · have hil : i < ((l0 :: L)).length := by omega
                obtain ⟨p, hp⟩ : ∃ p, ((l0 :: L))[i]? = some p := ⟨_, List.getElem?_eq_getElem hil⟩
                have hlc : (l0 :: L).length = L.length + 1 := rfl
                refine g0_ ?_
                (refine g1_ ?_; repeat (refine Elem1.mk fun e_ he_ => ?_; refine g1_ ?_))
                rw [Nat.zero_add] at he_
                obtain rfl : e_ = sesV p := sesV_at (L := (l0 :: L)) he_ hp
                obtain ⟨pb, ⟨pn, pw, pa, pbf⟩⟩ := p
                rcases pw with _ | ⟨w0, ws⟩
                · rw [show sesV (pb, ⟨pn, [], pa, pbf⟩) = .agg [.str pn, .nils, .int .i64 pa, .int .i64 pbf] from rfl]
                  (refine g0_ ?_; repeat (refine n1_ fun b_ => ?_; refine g0_ ?_))
                  by_cases hpn : pn = n
                  · subst hpn
                    exact absurd (in_names hp) h3
                  · refine g1_ ?_
                    refine nx_ (i + 1) ?_ ?_
                    · exact ⟨hil, notin_snoc hp hpn hin⟩
                    · omega
                · rw [show sesV (pb, ⟨pn, w0 :: ws, pa, pbf⟩) = .agg [.str pn, .rsl pb 8 0 ((List.map encWin ws).length + 1), .int .i64 pa, .int .i64 pbf] from rfl]
                  (refine g0_ ?_; repeat (refine n1_ fun b_ => ?_; refine g0_ ?_))
                  by_cases hpn : pn = n
                  · subst hpn
                    exact absurd (in_names hp) h3
                  · refine g1_ ?_
                    refine nx_ (i + 1) ?_ ?_
                    · exact ⟨hil, notin_snoc hp hpn hin⟩
                    · omega
              have hie := Decidable.not_not.1 hie
              subst hie
              try have hlc : (l0 :: L).length = L.length + 1 := rfl
              refine g0_ ?_
              refine g1_ ?_
              exact ⟨rfl, fun h => by cases h⟩
            · rw [if_neg (by rw [List.length_map]; exact h4)] at hE
              simp only [List.length_cons, List.length_nil] at h4
              by_cases h5 : nx = 9999
              · rw [if_pos h5] at hE
                subst h5
                rw [hE]
                refine acalls_of_vc (DL_ok (by decide)) Tryd.func26 rfl (by decide) (by decide) rfl ?_
                refine g0_ ?_
                refine (hn).use ?_; refine g0_ ?_
                refine g1_ ?_
                refine (hw).use ?_; refine g0_ ?_
                refine g1_ ?_
                refine' loopI (α := Nat) (fun i => [(22, .int .i64 i)]) [(0, _), (1, _), (2, _), (20, _), (21, _)] (fun i => ⟨b, .row 3 [.agg [.rsl bs 4 0 ((List.map sesV L).length + 1), .rsl bo 3 0 vs.length, .int .i64 (9999 : Int)]] 0⟩ :: ⟨bo, .row 3 (vs.map encVw) 0⟩ :: ⟨bs, .row 4 (sesV l0 :: List.map sesV L) 0⟩ :: famR (l0 :: L)) (fun i => i ≤ ((l0 :: L)).length ∧ n ∉ ((((l0 :: L)).map Prod.snd).take i).map Ses.name) (fun i => ((l0 :: L)).length - i) 0 ?_ ?_
                · exact ⟨Nat.zero_le _, by simp⟩
                rintro i ⟨hi, hin⟩
                by_cases hie : ¬ i = ((l0 :: L)).length
                · have hil : i < ((l0 :: L)).length := by omega
                  obtain ⟨p, hp⟩ : ∃ p, ((l0 :: L))[i]? = some p := ⟨_, List.getElem?_eq_getElem hil⟩
                  have hlc : (l0 :: L).length = L.length + 1 := rfl
                  refine g0_ ?_
                  (refine g1_ ?_; repeat (refine Elem1.mk fun e_ he_ => ?_; refine g1_ ?_))
                  rw [Nat.zero_add] at he_
                  obtain rfl : e_ = sesV p := sesV_at (L := (l0 :: L)) he_ hp
                  obtain ⟨pb, ⟨pn, pw, pa, pbf⟩⟩ := p
                  rcases pw with _ | ⟨w0, ws⟩
                  · rw [show sesV (pb, ⟨pn, [], pa, pbf⟩) = .agg [.str pn, .nils, .int .i64 pa, .int .i64 pbf] from rfl]
                    (refine g0_ ?_; repeat (refine n1_ fun b_ => ?_; refine g0_ ?_))
                    by_cases hpn : pn = n
                    · subst hpn
                      exact absurd (in_names hp) h3
                    · refine g1_ ?_
                      refine nx_ (i + 1) ?_ ?_
                      · exact ⟨hil, notin_snoc hp hpn hin⟩
                      · omega
                  · rw [show sesV (pb, ⟨pn, w0 :: ws, pa, pbf⟩) = .agg [.str pn, .rsl pb 8 0 ((List.map encWin ws).length + 1), .int .i64 pa, .int .i64 pbf] from rfl]
                    (refine g0_ ?_; repeat (refine n1_ fun b_ => ?_; refine g0_ ?_))
                    by_cases hpn : pn = n
                    · subst hpn
                      exact absurd (in_names hp) h3
                    · refine g1_ ?_
                      refine nx_ (i + 1) ?_ ?_
                      · exact ⟨hil, notin_snoc hp hpn hin⟩
                      · omega
                have hie := Decidable.not_not.1 hie
                subst hie
                try have hlc : (l0 :: L).length = L.length + 1 := rfl
                refine g0_ ?_
                refine g1_ ?_
                refine ACalls.lend1 (freshR_full W b _ _) (by repeat (first | exact .here _ _ _ | apply Look.there)) ?_
                rintro _ -
                refine g0_ ?_
                refine g1_ ?_
                have hwn := newWinR_ok W w 0
                rw [show encWin (winN w 0) = .agg [.str w, .int .i64 0, .int .i64 0, .int .i64 1, .sl 4 [], .int .i64 0, .int .i64 0, .bool false] from rfl] at hwn
                refine Draws10.chain ⟨16, [.new, .new, .new, .new, .new, .new, .new, .new, .new, .new, .new, .new, .turn, .skip, .skip, .skip], [(12, [.again, .keep, .keep, .keep, .keep, .keep, .keep, .keep, .keep, .keep, .keep, .keep, .keep, .new, .new, .turn]), (15, [.keep, .keep, .keep, .keep, .keep, .keep, .keep, .keep, .keep, .keep, .keep, .keep, .keep, .keep, .keep, .keep])], by decide +kernel, ?_⟩; refine g0_ ?_
                refine ⟨_, (hwn).quiet, ?_⟩; (refine g0_ ?_; repeat (refine n2_ fun b_ => ?_; refine g0_ ?_))
                exact ⟨rfl, fun h => by cases h⟩
              · rw [if_neg h5] at hE
                rw [hE]
                refine acalls_of_vc (DL_ok (by decide)) Tryd.func26 rfl (by decide) (by decide) rfl ?_
                refine g0_ ?_
                refine (hn).use ?_; refine g0_ ?_
                refine g1_ ?_
                refine (hw).use ?_; refine g0_ ?_
                refine g1_ ?_
                refine' loopI (α := Nat) (fun i => [(22, .int .i64 i)]) [(0, _), (1, _), (2, _), (20, _), (21, _)] (fun i => ⟨b, .row 3 [.agg [.rsl bs 4 0 ((List.map sesV L).length + 1), .rsl bo 3 0 vs.length, .int .i64 nx]] 0⟩ :: ⟨bo, .row 3 (vs.map encVw) 0⟩ :: ⟨bs, .row 4 (sesV l0 :: List.map sesV L) 0⟩ :: famR (l0 :: L)) (fun i => i ≤ ((l0 :: L)).length ∧ n ∉ ((((l0 :: L)).map Prod.snd).take i).map Ses.name) (fun i => ((l0 :: L)).length - i) 0 ?_ ?_
                · exact ⟨Nat.zero_le _, by simp⟩
                rintro i ⟨hi, hin⟩
                by_cases hie : ¬ i = ((l0 :: L)).length
                · have hil : i < ((l0 :: L)).length := by omega
                  obtain ⟨p, hp⟩ : ∃ p, ((l0 :: L))[i]? = some p := ⟨_, List.getElem?_eq_getElem hil⟩
                  have hlc : (l0 :: L).length = L.length + 1 := rfl
                  refine g0_ ?_
                  (refine g1_ ?_; repeat (refine Elem1.mk fun e_ he_ => ?_; refine g1_ ?_))
                  rw [Nat.zero_add] at he_
                  obtain rfl : e_ = sesV p := sesV_at (L := (l0 :: L)) he_ hp
                  obtain ⟨pb, ⟨pn, pw, pa, pbf⟩⟩ := p
                  rcases pw with _ | ⟨w0, ws⟩
                  · rw [show sesV (pb, ⟨pn, [], pa, pbf⟩) = .agg [.str pn, .nils, .int .i64 pa, .int .i64 pbf] from rfl]
                    (refine g0_ ?_; repeat (refine n1_ fun b_ => ?_; refine g0_ ?_))
                    by_cases hpn : pn = n
                    · subst hpn
                      exact absurd (in_names hp) h3
                    · refine g1_ ?_
                      refine nx_ (i + 1) ?_ ?_
                      · exact ⟨hil, notin_snoc hp hpn hin⟩
                      · omega
                  · rw [show sesV (pb, ⟨pn, w0 :: ws, pa, pbf⟩) = .agg [.str pn, .rsl pb 8 0 ((List.map encWin ws).length + 1), .int .i64 pa, .int .i64 pbf] from rfl]
                    (refine g0_ ?_; repeat (refine n1_ fun b_ => ?_; refine g0_ ?_))
                    by_cases hpn : pn = n
                    · subst hpn
                      exact absurd (in_names hp) h3
                    · refine g1_ ?_
                      refine nx_ (i + 1) ?_ ?_
                      · exact ⟨hil, notin_snoc hp hpn hin⟩
                      · omega
                have hie := Decidable.not_not.1 hie
                subst hie
                try have hlc : (l0 :: L).length = L.length + 1 := rfl
                refine g0_ ?_
                refine g1_ ?_
                refine ACalls.lend1 (freshR_ok W b _ _ nx (by omega)) (by repeat (first | exact .here _ _ _ | apply Look.there)) ?_
                rintro _ -
                refine g0_ ?_
                refine g1_ ?_
                have hwn := newWinR_ok W w nx
                rw [show encWin (winN w nx) = .agg [.str w, .int .i64 0, .int .i64 nx, .int .i64 1, .sl 4 [], .int .i64 nx, .int .i64 0, .bool false] from rfl] at hwn
                refine Draws10.chain ⟨16, [.new, .new, .new, .new, .new, .new, .new, .new, .new, .new, .new, .new, .turn, .skip, .skip, .skip], [(12, [.again, .keep, .keep, .keep, .keep, .keep, .keep, .keep, .keep, .keep, .keep, .keep, .keep, .new, .new, .turn]), (15, [.keep, .keep, .keep, .keep, .keep, .keep, .keep, .keep, .keep, .keep, .keep, .keep, .keep, .keep, .keep, .keep])], by decide +kernel, ?_⟩; refine g0_ ?_
                refine ⟨_, (hwn).quiet, ?_⟩; (refine g0_ ?_; repeat (refine n2_ fun b_ => ?_; refine g0_ ?_))
                refine ⟨rfl, fun _ => hs_done rfl ?_ ?_ ?_ ?_⟩
                · exact .inr (.inl ⟨_, _, _, _, rfl⟩)
                · first | exact .inl rfl | exact .inr (.inl ⟨_, _, _, _, rfl⟩)
                · have hfl : ∀ {ρ : Mem}, wkMem ρ (famR (l0 :: L)) → FrzL ρ ((sesV l0 :: List.map sesV L) ++ [.agg [.str n, .sl 8 [encWin (winN w nx)], .int .i64 0, .int .i64 0]]) ((((l0 :: L).map Prod.snd) ++ [(⟨n, [winN w nx], 0, 0⟩ : Ses)]).map encSes) := fun hw => by
                    rw [List.map_append]
                    exact (frz_ohF (L := l0 :: L) fun p hp hn => Look.of_wk hw (mem_famR hp hn)).app (.one (.of_eq rfl))
                  refine FrzL.row (hfl ?_) (b := b_) (fz := 0) (by repeat (first | exact .here _ _ _ | apply Look.there)) (by simp)
                  (first | exact ⟨_, .refl _⟩ | exact wkMem.rfl' | exact ⟨_, .swap _ _ _⟩ | (repeat (first | exact wkMem.nil _ | exact wkMem.rfl' | exact wk_snoc _ _ _ | exact wk_fam (by assumption) _ _ _ | exact wk_famN (by assumption) _ _ _ | (apply wkMem.cons; (case' hl => (repeat (first | exact .here _ _ _ | apply Look.there)))) | apply wkMem.skip)))
                · first | exact frz_vw (o := none) ho (fun b hb => by cases hb) | exact frz_row (by repeat (first | exact .here _ _ _ | apply Look.there)) _ (by simp [sesY])
end Go.Eng.YtmodblkagimhlaaDoor
end
