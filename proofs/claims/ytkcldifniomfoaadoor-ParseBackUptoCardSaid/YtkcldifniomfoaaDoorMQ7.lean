/- Texts put together: Prs19, Prs20. -/
import Derived.Test.YtkcldifniomfoaaDoorMQ6
import Derived.Test.YtkcldifniomfoaaDoorMQ4
/- The document's reader: commands without numbers; a byte in full (b_ x_ q_ e_ pre_). -/
section
namespace Go.Eng.YtkcldifniomfoaaDoor
open Go Go.Eng Go.Proofs
variable (W : World)
set_option linter.unusedSimpArgs false
set_option maxRecDepth 100000
set_option linter.unusedVariables false
set_option maxHeartbeats 8000000
theorem one_nil (bs bo bg bn c : Nat) (os : List PV) (s : PSt) (b : UInt8) (hos : os.all cellsB = true) (hn : os.length ≤ 90000) (ha : s.at_ = 3) (hp : s.params = []) (hml : s.middle.length ≤ 1000) (hc : ctlB b = false) :
    OneC W bs bo bg bn c PB.nil os s b (cmdL s b) := by
  have hlt := b.toNat_lt
  have hcb : ¬ (b.toNat < 32 ∨ b.toNat = 127) := fun h => by rw [(ctlB_iff b).2 h] at hc; cases hc
  have hpL : parL s.params = [-1] := by rw [parL, if_pos hp]
  unfold OneC
  rw [cmdL, hc, if_neg (by simp)]
  by_cases h1 : (48 ≤ b.toNat ∧ b.toNat ≤ 57 ∨ b.toNat = 59) ∧ s.middle = []
  · rw [if_pos h1, hpL]
    by_cases h2 : 48 ≤ b.toNat ∧ b.toNat ≤ 57
    · rw [if_pos h2]
      have hln : ([] : List PV).length = 0 := rfl
      obtain ⟨a, m, mi, p, t, l, la⟩ := s
      dsimp only at hp ha
      subst hp
      subst ha
      simp only [rS_eq, rO, rG, rN, parV, parM] at *
      obtain ⟨h1a, rfl⟩ := h1
      refine acalls_of_vc (DM_ok (by decide)) Tryd.func36 rfl (by decide) (by decide) rfl ?_
      (refine g0_ ?_; repeat ((first | refine n1_ fun b_ => ?_ | refine n2_ fun b_ => ?_ | refine n3_ fun b_ pre_ => ?_ | refine Nat1.mk fun q_ hq_ => ?_ | refine em_ fun x_ hx_ => ?_ | refine Elem1.mk fun e_ he_ => ?_); refine g0_ ?_))
      (refine g1_ ?_; repeat ((first | refine n1_ fun b_ => ?_ | refine n2_ fun b_ => ?_ | refine n3_ fun b_ pre_ => ?_ | refine Nat1.mk fun q_ hq_ => ?_ | refine em_ fun x_ hx_ => ?_ | refine Elem1.mk fun e_ he_ => ?_); refine g1_ ?_))
      refine .inr ?_
      (refine g0_ ?_; repeat ((first | refine n1_ fun b_ => ?_ | refine n2_ fun b_ => ?_ | refine n3_ fun b_ pre_ => ?_ | refine Nat1.mk fun q_ hq_ => ?_ | refine em_ fun x_ hx_ => ?_ | refine Elem1.mk fun e_ he_ => ?_); refine g0_ ?_))
      (refine g1_ ?_; repeat ((first | refine n1_ fun b_ => ?_ | refine n2_ fun b_ => ?_ | refine n3_ fun b_ pre_ => ?_ | refine Nat1.mk fun q_ hq_ => ?_ | refine em_ fun x_ hx_ => ?_ | refine Elem1.mk fun e_ he_ => ?_); refine g1_ ?_))
      show Fits (-9223372036854775808) 9223372036854775807 0 _ _
      (refine g0_ ?_; repeat ((first | refine n1_ fun b_ => ?_ | refine n2_ fun b_ => ?_ | refine n3_ fun b_ pre_ => ?_ | refine Nat1.mk fun q_ hq_ => ?_ | refine em_ fun x_ hx_ => ?_ | refine Elem1.mk fun e_ he_ => ?_); refine g0_ ?_))
      (refine g1_ ?_; repeat ((first | refine n1_ fun b_ => ?_ | refine n2_ fun b_ => ?_ | refine n3_ fun b_ pre_ => ?_ | refine Nat1.mk fun q_ hq_ => ?_ | refine em_ fun x_ hx_ => ?_ | refine Elem1.mk fun e_ he_ => ?_); refine g1_ ?_))
      have hv : min (max ([-1].getD ([-1].length - 1) (0 : Int)) 0 * 10 + ((b.toNat : Int) - 48)) 9999 = (b.toNat : Int) - 48 := by
        show min (max (-1 : Int) 0 * 10 + _) 9999 = _
        omega
      have hw : (if (if (-1 : Int) < 0 then 0 else -1) * 10 + (b.toNat : Int) - 48 < 9999 then (if (-1 : Int) < 0 then 0 else -1) * 10 + (b.toNat : Int) - 48 else (9999 : Int)) = (b.toNat : Int) - 48 := by
        rw [if_pos (show (-1 : Int) < 0 by decide), if_pos (by omega)]; omega
      rw [hv, hw]
      refine ⟨(c, PB.own b_, [], []), CmdOk.kept c (by simp [PB.no]), (by first | rfl | trivial), ?_⟩
      show wkMem _ (oneM _ _ _ _ _ _ _)
      rw [oneM_kept]
      (first | exact ⟨_, .refl _⟩ | exact wkMem.rfl' | exact ⟨_, .swap _ _ _⟩ | (repeat (first | exact wkMem.nil _ | exact wkMem.rfl' | exact wk_snoc _ _ _ | exact wk_fam (by assumption) _ _ _ | exact wk_famN (by assumption) _ _ _ | (apply wkMem.cons; (case' hl => (repeat (first | exact .here _ _ _ | apply Look.there)))) | apply wkMem.skip)))
    · rw [if_neg h2, if_neg (by decide)]
      have hln : ([] : List PV).length = 0 := rfl
      obtain ⟨a, m, mi, p, t, l, la⟩ := s
      dsimp only at hp ha
      subst hp
      subst ha
      simp only [rS_eq, rO, rG, rN, parV, parM] at *
      obtain ⟨h1a, rfl⟩ := h1
      refine acalls_of_vc (DM_ok (by decide)) Tryd.func36 rfl (by decide) (by decide) rfl ?_
      (refine g0_ ?_; repeat ((first | refine n1_ fun b_ => ?_ | refine n2_ fun b_ => ?_ | refine n3_ fun b_ pre_ => ?_ | refine Nat1.mk fun q_ hq_ => ?_ | refine em_ fun x_ hx_ => ?_ | refine Elem1.mk fun e_ he_ => ?_); refine g0_ ?_))
      (refine g1_ ?_; repeat ((first | refine n1_ fun b_ => ?_ | refine n2_ fun b_ => ?_ | refine n3_ fun b_ pre_ => ?_ | refine Nat1.mk fun q_ hq_ => ?_ | refine em_ fun x_ hx_ => ?_ | refine Elem1.mk fun e_ he_ => ?_); refine g1_ ?_))
      refine .inr ?_
      (refine g0_ ?_; repeat ((first | refine n1_ fun b_ => ?_ | refine n2_ fun b_ => ?_ | refine n3_ fun b_ pre_ => ?_ | refine Nat1.mk fun q_ hq_ => ?_ | refine em_ fun x_ hx_ => ?_ | refine Elem1.mk fun e_ he_ => ?_); refine g0_ ?_))
      (refine g1_ ?_; repeat ((first | refine n1_ fun b_ => ?_ | refine n2_ fun b_ => ?_ | refine n3_ fun b_ pre_ => ?_ | refine Nat1.mk fun q_ hq_ => ?_ | refine em_ fun x_ hx_ => ?_ | refine Elem1.mk fun e_ he_ => ?_); refine g1_ ?_))
      show Fits (-9223372036854775808) 9223372036854775807 0 _ _
      (refine g0_ ?_; repeat ((first | refine n1_ fun b_ => ?_ | refine n2_ fun b_ => ?_ | refine n3_ fun b_ pre_ => ?_ | refine Nat1.mk fun q_ hq_ => ?_ | refine em_ fun x_ hx_ => ?_ | refine Elem1.mk fun e_ he_ => ?_); refine g0_ ?_))
      (refine g1_ ?_; repeat ((first | refine n1_ fun b_ => ?_ | refine n2_ fun b_ => ?_ | refine n3_ fun b_ pre_ => ?_ | refine Nat1.mk fun q_ hq_ => ?_ | refine em_ fun x_ hx_ => ?_ | refine Elem1.mk fun e_ he_ => ?_); refine g1_ ?_))
      refine .inl ?_
      (refine g0_ ?_; repeat ((first | refine n1_ fun b_ => ?_ | refine n2_ fun b_ => ?_ | refine n3_ fun b_ pre_ => ?_ | refine Nat1.mk fun q_ hq_ => ?_ | refine em_ fun x_ hx_ => ?_ | refine Elem1.mk fun e_ he_ => ?_); refine g0_ ?_))
      refine ⟨(c, PB.own b_, [], []), CmdOk.kept c (by simp [PB.no]), (by first | rfl | trivial), ?_⟩
      show wkMem _ (oneM _ _ _ _ _ _ _)
      rw [oneM_kept]
      (first | exact ⟨_, .refl _⟩ | exact wkMem.rfl' | exact ⟨_, .swap _ _ _⟩ | (repeat (first | exact wkMem.nil _ | exact wkMem.rfl' | exact wk_snoc _ _ _ | exact wk_fam (by assumption) _ _ _ | exact wk_famN (by assumption) _ _ _ | (apply wkMem.cons; (case' hl => (repeat (first | exact .here _ _ _ | apply Look.there)))) | apply wkMem.skip)))
  · rw [if_neg h1]
    by_cases h3 : 60 ≤ b.toNat ∧ b.toNat ≤ 63 ∧ s.params = [] ∧ s.mark = 0 ∧ s.middle = []
    · rw [if_pos h3]
      obtain ⟨h3a, h3b, -, h3c, h3d⟩ := h3
      have hln : ([] : List PV).length = 0 := rfl
      obtain ⟨a, m, mi, p, t, l, la⟩ := s
      dsimp only at hp ha
      subst hp
      subst ha
      simp only [rS_eq, rO, rG, rN, parV, parM] at *
      have h3e := (mark0 _).1 h3c
      subst h3d
      refine acalls_of_vc (DM_ok (by decide)) Tryd.func36 rfl (by decide) (by decide) rfl ?_
      (refine g0_ ?_; repeat ((first | refine n1_ fun b_ => ?_ | refine n2_ fun b_ => ?_ | refine n3_ fun b_ pre_ => ?_ | refine Nat1.mk fun q_ hq_ => ?_ | refine em_ fun x_ hx_ => ?_ | refine Elem1.mk fun e_ he_ => ?_); refine g0_ ?_))
      (refine g1_ ?_; repeat ((first | refine n1_ fun b_ => ?_ | refine n2_ fun b_ => ?_ | refine n3_ fun b_ pre_ => ?_ | refine Nat1.mk fun q_ hq_ => ?_ | refine em_ fun x_ hx_ => ?_ | refine Elem1.mk fun e_ he_ => ?_); refine g1_ ?_))
      refine ⟨(c, PB.nil, [], []), CmdOk.kept c (by simp [stAt, st0, PB.no]), (by first | rfl | trivial), ?_⟩
      show wkMem _ (oneM _ _ _ _ _ _ _)
      rw [oneM_kept]
      simp only [rS_eq, rO, rG, rN, parV, parM, List.length_set, List.map_set, List.map_append, List.length_append, List.map_cons, List.map_nil, List.length_cons, List.length_nil, Nat.zero_add]
      (first | exact ⟨_, .refl _⟩ | exact wkMem.rfl' | exact ⟨_, .swap _ _ _⟩ | (repeat (first | exact wkMem.nil _ | exact wkMem.rfl' | exact wk_snoc _ _ _ | exact wk_fam (by assumption) _ _ _ | exact wk_famN (by assumption) _ _ _ | (apply wkMem.cons; (case' hl => (repeat (first | exact .here _ _ _ | apply Look.there)))) | apply wkMem.skip)))
    rw [if_neg h3]
    by_cases h4 : b.toNat < 48 ∧ s.middle.length < 2
    · rw [if_pos h4]
      have hln : ([] : List PV).length = 0 := rfl
      obtain ⟨a, m, mi, p, t, l, la⟩ := s
      dsimp only at hp ha
      subst hp
      subst ha
      simp only [rS_eq, rO, rG, rN, parV, parM] at *
      refine acalls_of_vc (DM_ok (by decide)) Tryd.func36 rfl (by decide) (by decide) rfl ?_
      (refine g0_ ?_; repeat ((first | refine n1_ fun b_ => ?_ | refine n2_ fun b_ => ?_ | refine n3_ fun b_ pre_ => ?_ | refine Nat1.mk fun q_ hq_ => ?_ | refine em_ fun x_ hx_ => ?_ | refine Elem1.mk fun e_ he_ => ?_); refine g0_ ?_))
      (refine g1_ ?_; repeat ((first | refine n1_ fun b_ => ?_ | refine n2_ fun b_ => ?_ | refine n3_ fun b_ pre_ => ?_ | refine Nat1.mk fun q_ hq_ => ?_ | refine em_ fun x_ hx_ => ?_ | refine Elem1.mk fun e_ he_ => ?_); refine g1_ ?_))
      refine .inl ?_
      (refine g0_ ?_; repeat ((first | refine n1_ fun b_ => ?_ | refine n2_ fun b_ => ?_ | refine n3_ fun b_ pre_ => ?_ | refine Nat1.mk fun q_ hq_ => ?_ | refine em_ fun x_ hx_ => ?_ | refine Elem1.mk fun e_ he_ => ?_); refine g0_ ?_))
      refine ⟨[(b.toNat : Int)], rfl, ?_⟩
      rw [u8_back]
      (refine g0_ ?_; repeat ((first | refine n1_ fun b_ => ?_ | refine n2_ fun b_ => ?_ | refine n3_ fun b_ pre_ => ?_ | refine Nat1.mk fun q_ hq_ => ?_ | refine em_ fun x_ hx_ => ?_ | refine Elem1.mk fun e_ he_ => ?_); refine g0_ ?_))
      refine ⟨(c, PB.nil, [], []), CmdOk.kept c (by simp [stAt, st0, PB.no]), (by first | rfl | trivial), ?_⟩
      show wkMem _ (oneM _ _ _ _ _ _ _)
      rw [oneM_kept]
      simp only [rS_eq, rO, rG, rN, parV, parM, List.length_set, List.map_set, List.map_append, List.length_append, List.map_cons, List.map_nil, List.length_cons, List.length_nil, Nat.zero_add]
      (first | exact ⟨_, .refl _⟩ | exact wkMem.rfl' | exact ⟨_, .swap _ _ _⟩ | (repeat (first | exact wkMem.nil _ | exact wkMem.rfl' | exact wk_snoc _ _ _ | exact wk_fam (by assumption) _ _ _ | exact wk_famN (by assumption) _ _ _ | (apply wkMem.cons; (case' hl => (repeat (first | exact .here _ _ _ | apply Look.there)))) | apply wkMem.skip)))
    rw [if_neg h4]
    have h3' : s.middle = [] → ¬ (60 ≤ b.toNat ∧ b.toNat ≤ 63 ∧ s.mark.toNat = 0) := fun h h' => h3 ⟨h'.1, h'.2.1, hp, (mark0 _).2 h'.2.2, h⟩
    by_cases h5 : 64 ≤ b.toNat ∧ b.toNat < 127
    · rw [if_pos h5]
      have hln : ([] : List PV).length = 0 := rfl
      obtain ⟨a, m, mi, p, t, l, la⟩ := s
      dsimp only at hp ha
      subst hp
      subst ha
      simp only [rS_eq, rO, rG, rN, parV, parM] at *
      rcases os with _ | ⟨o, os⟩
      · simp only [accV, accM]
        refine acalls_of_vc (DM_ok (by decide)) Tryd.func36 rfl (by decide) (by decide) rfl ?_
        (refine g0_ ?_; repeat ((first | refine n1_ fun b_ => ?_ | refine n2_ fun b_ => ?_ | refine n3_ fun b_ pre_ => ?_ | refine Nat1.mk fun q_ hq_ => ?_ | refine em_ fun x_ hx_ => ?_ | refine Elem1.mk fun e_ he_ => ?_); refine g0_ ?_))
        (refine g1_ ?_; repeat ((first | refine n1_ fun b_ => ?_ | refine n2_ fun b_ => ?_ | refine n3_ fun b_ pre_ => ?_ | refine Nat1.mk fun q_ hq_ => ?_ | refine em_ fun x_ hx_ => ?_ | refine Elem1.mk fun e_ he_ => ?_); refine g1_ ?_))
        refine .inl ?_
        (refine g0_ ?_; repeat ((first | refine n1_ fun b_ => ?_ | refine n2_ fun b_ => ?_ | refine n3_ fun b_ pre_ => ?_ | refine Nat1.mk fun q_ hq_ => ?_ | refine em_ fun x_ hx_ => ?_ | refine Elem1.mk fun e_ he_ => ?_); refine g0_ ?_))
        refine ACalls.lend (ref_ground W bs (PV.nils) ⟨3, m, _, [], t, l, la⟩) (Look.perm (by repeat (first | exact .here _ _ _ | apply Look.there))) ?_
        rintro _ -
        (refine g0_ ?_; repeat ((first | refine n1_ fun b_ => ?_ | refine n2_ fun b_ => ?_ | refine n3_ fun b_ pre_ => ?_ | refine Nat1.mk fun q_ hq_ => ?_ | refine em_ fun x_ hx_ => ?_ | refine Elem1.mk fun e_ he_ => ?_); refine g0_ ?_))
        refine ⟨(b_, PB.nil, [evV (PV.nils) _], []), ⟨⟨fun _ => rfl, fun _ => trivial⟩, .inr ⟨_, rfl, rfl, rfl, rfl, rfl⟩⟩, (by first | rfl | trivial), ?_⟩
        (first | exact ⟨_, .refl _⟩ | exact wkMem.rfl' | exact ⟨_, .swap _ _ _⟩ | (repeat (first | exact wkMem.nil _ | exact wkMem.rfl' | exact wk_snoc _ _ _ | exact wk_fam (by assumption) _ _ _ | exact wk_famN (by assumption) _ _ _ | (apply wkMem.cons; (case' hl => (repeat (first | exact .here _ _ _ | apply Look.there)))) | apply wkMem.skip)))
      · simp only [List.length_cons] at hn
        simp only [accV, accM]
        refine acalls_of_vc (DM_ok (by decide)) Tryd.func36 rfl (by decide) (by decide) rfl ?_
        (refine g0_ ?_; repeat ((first | refine n1_ fun b_ => ?_ | refine n2_ fun b_ => ?_ | refine n3_ fun b_ pre_ => ?_ | refine Nat1.mk fun q_ hq_ => ?_ | refine em_ fun x_ hx_ => ?_ | refine Elem1.mk fun e_ he_ => ?_); refine g0_ ?_))
        (refine g1_ ?_; repeat ((first | refine n1_ fun b_ => ?_ | refine n2_ fun b_ => ?_ | refine n3_ fun b_ pre_ => ?_ | refine Nat1.mk fun q_ hq_ => ?_ | refine em_ fun x_ hx_ => ?_ | refine Elem1.mk fun e_ he_ => ?_); refine g1_ ?_))
        refine .inl ?_
        (refine g0_ ?_; repeat ((first | refine n1_ fun b_ => ?_ | refine n2_ fun b_ => ?_ | refine n3_ fun b_ pre_ => ?_ | refine Nat1.mk fun q_ hq_ => ?_ | refine em_ fun x_ hx_ => ?_ | refine Elem1.mk fun e_ he_ => ?_); refine g0_ ?_))
        refine ACalls.lend (ref_ground W bs (PV.nils) ⟨3, m, _, [], t, l, la⟩) (Look.perm (by repeat (first | exact .here _ _ _ | apply Look.there))) ?_
        rintro _ -
        (refine g0_ ?_; repeat ((first | refine n1_ fun b_ => ?_ | refine n2_ fun b_ => ?_ | refine n3_ fun b_ pre_ => ?_ | refine Nat1.mk fun q_ hq_ => ?_ | refine em_ fun x_ hx_ => ?_ | refine Elem1.mk fun e_ he_ => ?_); refine g0_ ?_))
        refine ⟨(b_, PB.nil, [evV (PV.nils) _], []), ⟨⟨fun _ => rfl, fun _ => trivial⟩, .inr ⟨_, rfl, rfl, rfl, rfl, rfl⟩⟩, (by first | rfl | trivial), ?_⟩
        show wkMem _ (_ :: ⟨bo, .row 1 [accV b_ 7 (o :: os ++ [_])] 0⟩ :: _ :: _ :: ([] ++ ([] ++ accM b_ 7 (o :: os ++ [_]))))
        rw [accV_more, accM_more]
        (first | exact ⟨_, .refl _⟩ | exact wkMem.rfl' | exact ⟨_, .swap _ _ _⟩ | (repeat (first | exact wkMem.nil _ | exact wkMem.rfl' | exact wk_snoc _ _ _ | exact wk_fam (by assumption) _ _ _ | exact wk_famN (by assumption) _ _ _ | (apply wkMem.cons; (case' hl => (repeat (first | exact .here _ _ _ | apply Look.there)))) | apply wkMem.skip)))
    rw [if_neg h5]
    by_cases h6 : b.toNat < 128
    · rw [if_pos h6]
      have hln : ([] : List PV).length = 0 := rfl
      obtain ⟨a, m, mi, p, t, l, la⟩ := s
      dsimp only at hp ha
      subst hp
      subst ha
      simp only [rS_eq, rO, rG, rN, parV, parM] at *
      rcases mi with _ | ⟨mc, mi⟩
      all_goals
        try have h1n : ¬ (48 ≤ b.toNat ∧ b.toNat ≤ 57 ∨ b.toNat = 59) := fun h => h1 ⟨h, rfl⟩
        try have h3n := h3' rfl
        refine acalls_of_vc (DM_ok (by decide)) Tryd.func36 rfl (by decide) (by decide) rfl ?_
        (refine g0_ ?_; repeat ((first | refine n1_ fun b_ => ?_ | refine n2_ fun b_ => ?_ | refine n3_ fun b_ pre_ => ?_ | refine Nat1.mk fun q_ hq_ => ?_ | refine em_ fun x_ hx_ => ?_ | refine Elem1.mk fun e_ he_ => ?_); refine g0_ ?_))
        (refine g1_ ?_; repeat ((first | refine n1_ fun b_ => ?_ | refine n2_ fun b_ => ?_ | refine n3_ fun b_ pre_ => ?_ | refine Nat1.mk fun q_ hq_ => ?_ | refine em_ fun x_ hx_ => ?_ | refine Elem1.mk fun e_ he_ => ?_); refine g1_ ?_))
        refine ⟨(c, PB.nil, [], []), CmdOk.kept c (by simp [stAt, st0, PB.no]), (by first | rfl | trivial), ?_⟩
        show wkMem _ (oneM _ _ _ _ _ _ _)
        rw [oneM_kept]
        simp only [rS_eq, rO, rG, rN, parV, parM, List.length_set, List.map_set, List.map_append, List.length_append, List.map_cons, List.map_nil, List.length_cons, List.length_nil, Nat.zero_add]
        (first | exact ⟨_, .refl _⟩ | exact wkMem.rfl' | exact ⟨_, .swap _ _ _⟩ | (repeat (first | exact wkMem.nil _ | exact wkMem.rfl' | exact wk_snoc _ _ _ | exact wk_fam (by assumption) _ _ _ | exact wk_famN (by assumption) _ _ _ | (apply wkMem.cons; (case' hl => (repeat (first | exact .here _ _ _ | apply Look.there)))) | apply wkMem.skip)))
    · rw [if_neg h6]
      have hln : ([] : List PV).length = 0 := rfl
      obtain ⟨a, m, mi, p, t, l, la⟩ := s
      dsimp only at hp ha
      subst hp
      subst ha
      simp only [rS_eq, rO, rG, rN, parV, parM] at *
      refine acalls_of_vc (DM_ok (by decide)) Tryd.func36 rfl (by decide) (by decide) rfl ?_
      (refine g0_ ?_; repeat ((first | refine n1_ fun b_ => ?_ | refine n2_ fun b_ => ?_ | refine n3_ fun b_ pre_ => ?_ | refine Nat1.mk fun q_ hq_ => ?_ | refine em_ fun x_ hx_ => ?_ | refine Elem1.mk fun e_ he_ => ?_); refine g0_ ?_))
      (refine g1_ ?_; repeat ((first | refine n1_ fun b_ => ?_ | refine n2_ fun b_ => ?_ | refine n3_ fun b_ pre_ => ?_ | refine Nat1.mk fun q_ hq_ => ?_ | refine em_ fun x_ hx_ => ?_ | refine Elem1.mk fun e_ he_ => ?_); refine g1_ ?_))
      refine ACalls.lend (ref_ground W bs (PV.nils) ⟨3, m, _, [], t, l, la⟩) (Look.perm (by repeat (first | exact .here _ _ _ | apply Look.there))) ?_
      rintro _ -
      (refine g0_ ?_; repeat ((first | refine n1_ fun b_ => ?_ | refine n2_ fun b_ => ?_ | refine n3_ fun b_ pre_ => ?_ | refine Nat1.mk fun q_ hq_ => ?_ | refine em_ fun x_ hx_ => ?_ | refine Elem1.mk fun e_ he_ => ?_); refine g0_ ?_))
      refine ⟨(c, PB.nil, [], []), CmdOk.kept c (by simp [stAt, st0, PB.no]), (by first | rfl | trivial), ?_⟩
      show wkMem _ (oneM _ _ _ _ _ _ _)
      rw [oneM_kept]
      simp only [rS_eq, rO, rG, rN, parV, parM, List.length_set, List.map_set, List.map_append, List.length_append, List.map_cons, List.map_nil, List.length_cons, List.length_nil, Nat.zero_add]
      (first | exact ⟨_, .refl _⟩ | exact wkMem.rfl' | exact ⟨_, .swap _ _ _⟩ | (repeat (first | exact wkMem.nil _ | exact wkMem.rfl' | exact wk_snoc _ _ _ | exact wk_fam (by assumption) _ _ _ | exact wk_famN (by assumption) _ _ _ | (apply wkMem.cons; (case' hl => (repeat (first | exact .here _ _ _ | apply Look.there)))) | apply wkMem.skip)))
theorem one_emp (bs bo bg bn c : Nat) (os : List PV) (s : PSt) (b : UInt8) (hos : os.all cellsB = true) (hn : os.length ≤ 90000) (ha : s.at_ = 3) (hp : s.params = []) (hml : s.middle.length ≤ 1000) (hc : ctlB b = false) :
    OneC W bs bo bg bn c PB.emp os s b (cmdL s b) := by
  have hlt := b.toNat_lt
  have hcb : ¬ (b.toNat < 32 ∨ b.toNat = 127) := fun h => by rw [(ctlB_iff b).2 h] at hc; cases hc
  have hpL : parL s.params = [-1] := by rw [parL, if_pos hp]
  unfold OneC
  rw [cmdL, hc, if_neg (by simp)]
  by_cases h1 : (48 ≤ b.toNat ∧ b.toNat ≤ 57 ∨ b.toNat = 59) ∧ s.middle = []
  · rw [if_pos h1, hpL]
    by_cases h2 : 48 ≤ b.toNat ∧ b.toNat ≤ 57
    · rw [if_pos h2]
      have hln : ([] : List PV).length = 0 := rfl
      obtain ⟨a, m, mi, p, t, l, la⟩ := s
      dsimp only at hp ha
      subst hp
      subst ha
      simp only [rS_eq, rO, rG, rN, parV, parM] at *
      obtain ⟨h1a, rfl⟩ := h1
      refine acalls_of_vc (DM_ok (by decide)) Tryd.func36 rfl (by decide) (by decide) rfl ?_
      (refine g0_ ?_; repeat ((first | refine n1_ fun b_ => ?_ | refine n2_ fun b_ => ?_ | refine n3_ fun b_ pre_ => ?_ | refine Nat1.mk fun q_ hq_ => ?_ | refine em_ fun x_ hx_ => ?_ | refine Elem1.mk fun e_ he_ => ?_); refine g0_ ?_))
      (refine g1_ ?_; repeat ((first | refine n1_ fun b_ => ?_ | refine n2_ fun b_ => ?_ | refine n3_ fun b_ pre_ => ?_ | refine Nat1.mk fun q_ hq_ => ?_ | refine em_ fun x_ hx_ => ?_ | refine Elem1.mk fun e_ he_ => ?_); refine g1_ ?_))
      refine .inr ?_
      (refine g0_ ?_; repeat ((first | refine n1_ fun b_ => ?_ | refine n2_ fun b_ => ?_ | refine n3_ fun b_ pre_ => ?_ | refine Nat1.mk fun q_ hq_ => ?_ | refine em_ fun x_ hx_ => ?_ | refine Elem1.mk fun e_ he_ => ?_); refine g0_ ?_))
      (refine g1_ ?_; repeat ((first | refine n1_ fun b_ => ?_ | refine n2_ fun b_ => ?_ | refine n3_ fun b_ pre_ => ?_ | refine Nat1.mk fun q_ hq_ => ?_ | refine em_ fun x_ hx_ => ?_ | refine Elem1.mk fun e_ he_ => ?_); refine g1_ ?_))
      show Fits (-9223372036854775808) 9223372036854775807 0 _ _
      (refine g0_ ?_; repeat ((first | refine n1_ fun b_ => ?_ | refine n2_ fun b_ => ?_ | refine n3_ fun b_ pre_ => ?_ | refine Nat1.mk fun q_ hq_ => ?_ | refine em_ fun x_ hx_ => ?_ | refine Elem1.mk fun e_ he_ => ?_); refine g0_ ?_))
      (refine g1_ ?_; repeat ((first | refine n1_ fun b_ => ?_ | refine n2_ fun b_ => ?_ | refine n3_ fun b_ pre_ => ?_ | refine Nat1.mk fun q_ hq_ => ?_ | refine em_ fun x_ hx_ => ?_ | refine Elem1.mk fun e_ he_ => ?_); refine g1_ ?_))
      have hv : min (max ([-1].getD ([-1].length - 1) (0 : Int)) 0 * 10 + ((b.toNat : Int) - 48)) 9999 = (b.toNat : Int) - 48 := by
        show min (max (-1 : Int) 0 * 10 + _) 9999 = _
        omega
      have hw : (if (if (-1 : Int) < 0 then 0 else -1) * 10 + (b.toNat : Int) - 48 < 9999 then (if (-1 : Int) < 0 then 0 else -1) * 10 + (b.toNat : Int) - 48 else (9999 : Int)) = (b.toNat : Int) - 48 := by
        rw [if_pos (show (-1 : Int) < 0 by decide), if_pos (by omega)]; omega
      rw [hv, hw]
      refine ⟨(c, PB.own b_, [], []), CmdOk.kept c (by simp [PB.no]), (by first | rfl | trivial), ?_⟩
      show wkMem _ (oneM _ _ _ _ _ _ _)
      rw [oneM_kept]
      (first | exact ⟨_, .refl _⟩ | exact wkMem.rfl' | exact ⟨_, .swap _ _ _⟩ | (repeat (first | exact wkMem.nil _ | exact wkMem.rfl' | exact wk_snoc _ _ _ | exact wk_fam (by assumption) _ _ _ | exact wk_famN (by assumption) _ _ _ | (apply wkMem.cons; (case' hl => (repeat (first | exact .here _ _ _ | apply Look.there)))) | apply wkMem.skip)))
    · rw [if_neg h2, if_neg (by decide)]
      have hln : ([] : List PV).length = 0 := rfl
      obtain ⟨a, m, mi, p, t, l, la⟩ := s
      dsimp only at hp ha
      subst hp
      subst ha
      simp only [rS_eq, rO, rG, rN, parV, parM] at *
      obtain ⟨h1a, rfl⟩ := h1
      refine acalls_of_vc (DM_ok (by decide)) Tryd.func36 rfl (by decide) (by decide) rfl ?_
      (refine g0_ ?_; repeat ((first | refine n1_ fun b_ => ?_ | refine n2_ fun b_ => ?_ | refine n3_ fun b_ pre_ => ?_ | refine Nat1.mk fun q_ hq_ => ?_ | refine em_ fun x_ hx_ => ?_ | refine Elem1.mk fun e_ he_ => ?_); refine g0_ ?_))
      (refine g1_ ?_; repeat ((first | refine n1_ fun b_ => ?_ | refine n2_ fun b_ => ?_ | refine n3_ fun b_ pre_ => ?_ | refine Nat1.mk fun q_ hq_ => ?_ | refine em_ fun x_ hx_ => ?_ | refine Elem1.mk fun e_ he_ => ?_); refine g1_ ?_))
      refine .inr ?_
      (refine g0_ ?_; repeat ((first | refine n1_ fun b_ => ?_ | refine n2_ fun b_ => ?_ | refine n3_ fun b_ pre_ => ?_ | refine Nat1.mk fun q_ hq_ => ?_ | refine em_ fun x_ hx_ => ?_ | refine Elem1.mk fun e_ he_ => ?_); refine g0_ ?_))
      (refine g1_ ?_; repeat ((first | refine n1_ fun b_ => ?_ | refine n2_ fun b_ => ?_ | refine n3_ fun b_ pre_ => ?_ | refine Nat1.mk fun q_ hq_ => ?_ | refine em_ fun x_ hx_ => ?_ | refine Elem1.mk fun e_ he_ => ?_); refine g1_ ?_))
      show Fits (-9223372036854775808) 9223372036854775807 0 _ _
      (refine g0_ ?_; repeat ((first | refine n1_ fun b_ => ?_ | refine n2_ fun b_ => ?_ | refine n3_ fun b_ pre_ => ?_ | refine Nat1.mk fun q_ hq_ => ?_ | refine em_ fun x_ hx_ => ?_ | refine Elem1.mk fun e_ he_ => ?_); refine g0_ ?_))
      (refine g1_ ?_; repeat ((first | refine n1_ fun b_ => ?_ | refine n2_ fun b_ => ?_ | refine n3_ fun b_ pre_ => ?_ | refine Nat1.mk fun q_ hq_ => ?_ | refine em_ fun x_ hx_ => ?_ | refine Elem1.mk fun e_ he_ => ?_); refine g1_ ?_))
      refine .inl ?_
      (refine g0_ ?_; repeat ((first | refine n1_ fun b_ => ?_ | refine n2_ fun b_ => ?_ | refine n3_ fun b_ pre_ => ?_ | refine Nat1.mk fun q_ hq_ => ?_ | refine em_ fun x_ hx_ => ?_ | refine Elem1.mk fun e_ he_ => ?_); refine g0_ ?_))
      refine ⟨(c, PB.own b_, [], []), CmdOk.kept c (by simp [PB.no]), (by first | rfl | trivial), ?_⟩
      show wkMem _ (oneM _ _ _ _ _ _ _)
      rw [oneM_kept]
      (first | exact ⟨_, .refl _⟩ | exact wkMem.rfl' | exact ⟨_, .swap _ _ _⟩ | (repeat (first | exact wkMem.nil _ | exact wkMem.rfl' | exact wk_snoc _ _ _ | exact wk_fam (by assumption) _ _ _ | exact wk_famN (by assumption) _ _ _ | (apply wkMem.cons; (case' hl => (repeat (first | exact .here _ _ _ | apply Look.there)))) | apply wkMem.skip)))
  · rw [if_neg h1]
    by_cases h3 : 60 ≤ b.toNat ∧ b.toNat ≤ 63 ∧ s.params = [] ∧ s.mark = 0 ∧ s.middle = []
    · rw [if_pos h3]
      obtain ⟨h3a, h3b, -, h3c, h3d⟩ := h3
      have hln : ([] : List PV).length = 0 := rfl
      obtain ⟨a, m, mi, p, t, l, la⟩ := s
      dsimp only at hp ha
      subst hp
      subst ha
      simp only [rS_eq, rO, rG, rN, parV, parM] at *
      have h3e := (mark0 _).1 h3c
      subst h3d
      refine acalls_of_vc (DM_ok (by decide)) Tryd.func36 rfl (by decide) (by decide) rfl ?_
      (refine g0_ ?_; repeat ((first | refine n1_ fun b_ => ?_ | refine n2_ fun b_ => ?_ | refine n3_ fun b_ pre_ => ?_ | refine Nat1.mk fun q_ hq_ => ?_ | refine em_ fun x_ hx_ => ?_ | refine Elem1.mk fun e_ he_ => ?_); refine g0_ ?_))
      (refine g1_ ?_; repeat ((first | refine n1_ fun b_ => ?_ | refine n2_ fun b_ => ?_ | refine n3_ fun b_ pre_ => ?_ | refine Nat1.mk fun q_ hq_ => ?_ | refine em_ fun x_ hx_ => ?_ | refine Elem1.mk fun e_ he_ => ?_); refine g1_ ?_))
      refine ⟨(c, PB.emp, [], []), CmdOk.kept c (by simp [stAt, st0, PB.no]), (by first | rfl | trivial), ?_⟩
      show wkMem _ (oneM _ _ _ _ _ _ _)
      rw [oneM_kept]
      simp only [rS_eq, rO, rG, rN, parV, parM, List.length_set, List.map_set, List.map_append, List.length_append, List.map_cons, List.map_nil, List.length_cons, List.length_nil, Nat.zero_add]
      (first | exact ⟨_, .refl _⟩ | exact wkMem.rfl' | exact ⟨_, .swap _ _ _⟩ | (repeat (first | exact wkMem.nil _ | exact wkMem.rfl' | exact wk_snoc _ _ _ | exact wk_fam (by assumption) _ _ _ | exact wk_famN (by assumption) _ _ _ | (apply wkMem.cons; (case' hl => (repeat (first | exact .here _ _ _ | apply Look.there)))) | apply wkMem.skip)))
    rw [if_neg h3]
    by_cases h4 : b.toNat < 48 ∧ s.middle.length < 2
    · rw [if_pos h4]
      have hln : ([] : List PV).length = 0 := rfl
      obtain ⟨a, m, mi, p, t, l, la⟩ := s
      dsimp only at hp ha
      subst hp
      subst ha
      simp only [rS_eq, rO, rG, rN, parV, parM] at *
      refine acalls_of_vc (DM_ok (by decide)) Tryd.func36 rfl (by decide) (by decide) rfl ?_
      (refine g0_ ?_; repeat ((first | refine n1_ fun b_ => ?_ | refine n2_ fun b_ => ?_ | refine n3_ fun b_ pre_ => ?_ | refine Nat1.mk fun q_ hq_ => ?_ | refine em_ fun x_ hx_ => ?_ | refine Elem1.mk fun e_ he_ => ?_); refine g0_ ?_))
      (refine g1_ ?_; repeat ((first | refine n1_ fun b_ => ?_ | refine n2_ fun b_ => ?_ | refine n3_ fun b_ pre_ => ?_ | refine Nat1.mk fun q_ hq_ => ?_ | refine em_ fun x_ hx_ => ?_ | refine Elem1.mk fun e_ he_ => ?_); refine g1_ ?_))
      refine .inl ?_
      (refine g0_ ?_; repeat ((first | refine n1_ fun b_ => ?_ | refine n2_ fun b_ => ?_ | refine n3_ fun b_ pre_ => ?_ | refine Nat1.mk fun q_ hq_ => ?_ | refine em_ fun x_ hx_ => ?_ | refine Elem1.mk fun e_ he_ => ?_); refine g0_ ?_))
      refine ⟨[(b.toNat : Int)], rfl, ?_⟩
      rw [u8_back]
      (refine g0_ ?_; repeat ((first | refine n1_ fun b_ => ?_ | refine n2_ fun b_ => ?_ | refine n3_ fun b_ pre_ => ?_ | refine Nat1.mk fun q_ hq_ => ?_ | refine em_ fun x_ hx_ => ?_ | refine Elem1.mk fun e_ he_ => ?_); refine g0_ ?_))
      refine ⟨(c, PB.emp, [], []), CmdOk.kept c (by simp [stAt, st0, PB.no]), (by first | rfl | trivial), ?_⟩
      show wkMem _ (oneM _ _ _ _ _ _ _)
      rw [oneM_kept]
      simp only [rS_eq, rO, rG, rN, parV, parM, List.length_set, List.map_set, List.map_append, List.length_append, List.map_cons, List.map_nil, List.length_cons, List.length_nil, Nat.zero_add]
      (first | exact ⟨_, .refl _⟩ | exact wkMem.rfl' | exact ⟨_, .swap _ _ _⟩ | (repeat (first | exact wkMem.nil _ | exact wkMem.rfl' | exact wk_snoc _ _ _ | exact wk_fam (by assumption) _ _ _ | exact wk_famN (by assumption) _ _ _ | (apply wkMem.cons; (case' hl => (repeat (first | exact .here _ _ _ | apply Look.there)))) | apply wkMem.skip)))
    rw [if_neg h4]
    have h3' : s.middle = [] → ¬ (60 ≤ b.toNat ∧ b.toNat ≤ 63 ∧ s.mark.toNat = 0) := fun h h' => h3 ⟨h'.1, h'.2.1, hp, (mark0 _).2 h'.2.2, h⟩
    by_cases h5 : 64 ≤ b.toNat ∧ b.toNat < 127
    · rw [if_pos h5]
      have hln : ([] : List PV).length = 0 := rfl
      obtain ⟨a, m, mi, p, t, l, la⟩ := s
      dsimp only at hp ha
      subst hp
      subst ha
      simp only [rS_eq, rO, rG, rN, parV, parM] at *
      rcases os with _ | ⟨o, os⟩
      · simp only [accV, accM]
        refine acalls_of_vc (DM_ok (by decide)) Tryd.func36 rfl (by decide) (by decide) rfl ?_
        (refine g0_ ?_; repeat ((first | refine n1_ fun b_ => ?_ | refine n2_ fun b_ => ?_ | refine n3_ fun b_ pre_ => ?_ | refine Nat1.mk fun q_ hq_ => ?_ | refine em_ fun x_ hx_ => ?_ | refine Elem1.mk fun e_ he_ => ?_); refine g0_ ?_))
        (refine g1_ ?_; repeat ((first | refine n1_ fun b_ => ?_ | refine n2_ fun b_ => ?_ | refine n3_ fun b_ pre_ => ?_ | refine Nat1.mk fun q_ hq_ => ?_ | refine em_ fun x_ hx_ => ?_ | refine Elem1.mk fun e_ he_ => ?_); refine g1_ ?_))
        refine .inl ?_
        (refine g0_ ?_; repeat ((first | refine n1_ fun b_ => ?_ | refine n2_ fun b_ => ?_ | refine n3_ fun b_ pre_ => ?_ | refine Nat1.mk fun q_ hq_ => ?_ | refine em_ fun x_ hx_ => ?_ | refine Elem1.mk fun e_ he_ => ?_); refine g0_ ?_))
        refine ACalls.lend (ref_ground W bs (PV.sl 1 []) ⟨3, m, _, [], t, l, la⟩) (Look.perm (by repeat (first | exact .here _ _ _ | apply Look.there))) ?_
        rintro _ -
        (refine g0_ ?_; repeat ((first | refine n1_ fun b_ => ?_ | refine n2_ fun b_ => ?_ | refine n3_ fun b_ pre_ => ?_ | refine Nat1.mk fun q_ hq_ => ?_ | refine em_ fun x_ hx_ => ?_ | refine Elem1.mk fun e_ he_ => ?_); refine g0_ ?_))
        refine ⟨(b_, PB.nil, [evV (PV.sl 1 []) _], []), ⟨⟨fun _ => rfl, fun _ => trivial⟩, .inr ⟨_, rfl, rfl, rfl, rfl, rfl⟩⟩, (by first | rfl | trivial), ?_⟩
        (first | exact ⟨_, .refl _⟩ | exact wkMem.rfl' | exact ⟨_, .swap _ _ _⟩ | (repeat (first | exact wkMem.nil _ | exact wkMem.rfl' | exact wk_snoc _ _ _ | exact wk_fam (by assumption) _ _ _ | exact wk_famN (by assumption) _ _ _ | (apply wkMem.cons; (case' hl => (repeat (first | exact .here _ _ _ | apply Look.there)))) | apply wkMem.skip)))
      · simp only [List.length_cons] at hn
        simp only [accV, accM]
        refine acalls_of_vc (DM_ok (by decide)) Tryd.func36 rfl (by decide) (by decide) rfl ?_
        (refine g0_ ?_; repeat ((first | refine n1_ fun b_ => ?_ | refine n2_ fun b_ => ?_ | refine n3_ fun b_ pre_ => ?_ | refine Nat1.mk fun q_ hq_ => ?_ | refine em_ fun x_ hx_ => ?_ | refine Elem1.mk fun e_ he_ => ?_); refine g0_ ?_))
        (refine g1_ ?_; repeat ((first | refine n1_ fun b_ => ?_ | refine n2_ fun b_ => ?_ | refine n3_ fun b_ pre_ => ?_ | refine Nat1.mk fun q_ hq_ => ?_ | refine em_ fun x_ hx_ => ?_ | refine Elem1.mk fun e_ he_ => ?_); refine g1_ ?_))
        refine .inl ?_
        (refine g0_ ?_; repeat ((first | refine n1_ fun b_ => ?_ | refine n2_ fun b_ => ?_ | refine n3_ fun b_ pre_ => ?_ | refine Nat1.mk fun q_ hq_ => ?_ | refine em_ fun x_ hx_ => ?_ | refine Elem1.mk fun e_ he_ => ?_); refine g0_ ?_))
        refine ACalls.lend (ref_ground W bs (PV.sl 1 []) ⟨3, m, _, [], t, l, la⟩) (Look.perm (by repeat (first | exact .here _ _ _ | apply Look.there))) ?_
        rintro _ -
        (refine g0_ ?_; repeat ((first | refine n1_ fun b_ => ?_ | refine n2_ fun b_ => ?_ | refine n3_ fun b_ pre_ => ?_ | refine Nat1.mk fun q_ hq_ => ?_ | refine em_ fun x_ hx_ => ?_ | refine Elem1.mk fun e_ he_ => ?_); refine g0_ ?_))
        refine ⟨(b_, PB.nil, [evV (PV.sl 1 []) _], []), ⟨⟨fun _ => rfl, fun _ => trivial⟩, .inr ⟨_, rfl, rfl, rfl, rfl, rfl⟩⟩, (by first | rfl | trivial), ?_⟩
        show wkMem _ (_ :: ⟨bo, .row 1 [accV b_ 7 (o :: os ++ [_])] 0⟩ :: _ :: _ :: ([] ++ ([] ++ accM b_ 7 (o :: os ++ [_]))))
        rw [accV_more, accM_more]
        (first | exact ⟨_, .refl _⟩ | exact wkMem.rfl' | exact ⟨_, .swap _ _ _⟩ | (repeat (first | exact wkMem.nil _ | exact wkMem.rfl' | exact wk_snoc _ _ _ | exact wk_fam (by assumption) _ _ _ | exact wk_famN (by assumption) _ _ _ | (apply wkMem.cons; (case' hl => (repeat (first | exact .here _ _ _ | apply Look.there)))) | apply wkMem.skip)))
    rw [if_neg h5]
    by_cases h6 : b.toNat < 128
    · rw [if_pos h6]
      have hln : ([] : List PV).length = 0 := rfl
      obtain ⟨a, m, mi, p, t, l, la⟩ := s
      dsimp only at hp ha
      subst hp
      subst ha
      simp only [rS_eq, rO, rG, rN, parV, parM] at *
      rcases mi with _ | ⟨mc, mi⟩
      all_goals
        try have h1n : ¬ (48 ≤ b.toNat ∧ b.toNat ≤ 57 ∨ b.toNat = 59) := fun h => h1 ⟨h, rfl⟩
        try have h3n := h3' rfl
        refine acalls_of_vc (DM_ok (by decide)) Tryd.func36 rfl (by decide) (by decide) rfl ?_
        (refine g0_ ?_; repeat ((first | refine n1_ fun b_ => ?_ | refine n2_ fun b_ => ?_ | refine n3_ fun b_ pre_ => ?_ | refine Nat1.mk fun q_ hq_ => ?_ | refine em_ fun x_ hx_ => ?_ | refine Elem1.mk fun e_ he_ => ?_); refine g0_ ?_))
        (refine g1_ ?_; repeat ((first | refine n1_ fun b_ => ?_ | refine n2_ fun b_ => ?_ | refine n3_ fun b_ pre_ => ?_ | refine Nat1.mk fun q_ hq_ => ?_ | refine em_ fun x_ hx_ => ?_ | refine Elem1.mk fun e_ he_ => ?_); refine g1_ ?_))
        refine ⟨(c, PB.nil, [], []), CmdOk.kept c (by simp [stAt, st0, PB.no]), (by first | rfl | trivial), ?_⟩
        show wkMem _ (oneM _ _ _ _ _ _ _)
        rw [oneM_kept]
        simp only [rS_eq, rO, rG, rN, parV, parM, List.length_set, List.map_set, List.map_append, List.length_append, List.map_cons, List.map_nil, List.length_cons, List.length_nil, Nat.zero_add]
        (first | exact ⟨_, .refl _⟩ | exact wkMem.rfl' | exact ⟨_, .swap _ _ _⟩ | (repeat (first | exact wkMem.nil _ | exact wkMem.rfl' | exact wk_snoc _ _ _ | exact wk_fam (by assumption) _ _ _ | exact wk_famN (by assumption) _ _ _ | (apply wkMem.cons; (case' hl => (repeat (first | exact .here _ _ _ | apply Look.there)))) | apply wkMem.skip)))
    · rw [if_neg h6]
      have hln : ([] : List PV).length = 0 := rfl
      obtain ⟨a, m, mi, p, t, l, la⟩ := s
      dsimp only at hp ha
      subst hp
      subst ha
      simp only [rS_eq, rO, rG, rN, parV, parM] at *
      refine acalls_of_vc (DM_ok (by decide)) Tryd.func36 rfl (by decide) (by decide) rfl ?_
      (refine g0_ ?_; repeat ((first | refine n1_ fun b_ => ?_ | refine n2_ fun b_ => ?_ | refine n3_ fun b_ pre_ => ?_ | refine Nat1.mk fun q_ hq_ => ?_ | refine em_ fun x_ hx_ => ?_ | refine Elem1.mk fun e_ he_ => ?_); refine g0_ ?_))
      (refine g1_ ?_; repeat ((first | refine n1_ fun b_ => ?_ | refine n2_ fun b_ => ?_ | refine n3_ fun b_ pre_ => ?_ | refine Nat1.mk fun q_ hq_ => ?_ | refine em_ fun x_ hx_ => ?_ | refine Elem1.mk fun e_ he_ => ?_); refine g1_ ?_))
      refine ACalls.lend (ref_ground W bs (PV.sl 1 []) ⟨3, m, _, [], t, l, la⟩) (Look.perm (by repeat (first | exact .here _ _ _ | apply Look.there))) ?_
      rintro _ -
      (refine g0_ ?_; repeat ((first | refine n1_ fun b_ => ?_ | refine n2_ fun b_ => ?_ | refine n3_ fun b_ pre_ => ?_ | refine Nat1.mk fun q_ hq_ => ?_ | refine em_ fun x_ hx_ => ?_ | refine Elem1.mk fun e_ he_ => ?_); refine g0_ ?_))
      refine ⟨(c, PB.nil, [], []), CmdOk.kept c (by simp [stAt, st0, PB.no]), (by first | rfl | trivial), ?_⟩
      show wkMem _ (oneM _ _ _ _ _ _ _)
      rw [oneM_kept]
      simp only [rS_eq, rO, rG, rN, parV, parM, List.length_set, List.map_set, List.map_append, List.length_append, List.map_cons, List.map_nil, List.length_cons, List.length_nil, Nat.zero_add]
      (first | exact ⟨_, .refl _⟩ | exact wkMem.rfl' | exact ⟨_, .swap _ _ _⟩ | (repeat (first | exact wkMem.nil _ | exact wkMem.rfl' | exact wk_snoc _ _ _ | exact wk_fam (by assumption) _ _ _ | exact wk_famN (by assumption) _ _ _ | (apply wkMem.cons; (case' hl => (repeat (first | exact .here _ _ _ | apply Look.there)))) | apply wkMem.skip)))
section
variable {bs bo bg bn c : Nat} {pb : PB} {os : List PV} {s : PSt} {b : UInt8} {t : PSt × List PEv}
theorem one_lift (hpb : pb.no ↔ s.params = []) (hev : ∀ e ∈ t.2, e.params = []) (h : One W bs bo bg bn c (parV pb s.params) os s b t) : OneC W bs bo bg bn c pb os s b t := by
  unfold OneC
  refine ACalls.lend h (r := parM pb s.params) (.cons _ (.cons _ (.cons _ (.cons _ List.perm_append_comm)))) ?_
  rintro ⟨b', pv⟩ (⟨h1, h2⟩ | ⟨h1, h2⟩)
  · dsimp only at h1
    subst h1
    refine ⟨(b', pb, t.2.map (evV .nils), []), ⟨by rw [h2]; exact hpb, .inl ⟨rfl, rfl, hev⟩⟩, rfl, [], ?_⟩
    show List.Perm _ (oneM _ _ _ _ _ _ _ ++ [])
    rw [List.append_nil, oneM]
    dsimp only
    rw [h2]
    exact .cons _ (.cons _ (.cons _ (.cons _ List.perm_append_comm)))
  · dsimp only at h1
    subst h1
    exact ⟨(b', PB.nil, t.2.map (evV .nils), []), ⟨⟨fun _ => h2, fun _ => trivial⟩, .inl ⟨rfl, rfl, hev⟩⟩, rfl, _, .refl _⟩
end
theorem ground_ctl {s : PSt} {b : UInt8} (hl : s.left = []) (hc : ctlB b = true) : groundL s b = ctlL s b := by
  have e : ({ s with left := [] } : PSt) = s := by rw [← hl]
  rw [groundL, if_pos hc, e, hl]; rfl
theorem one_step (hT : Tabs W) (bs bo bg bn c : Nat) (pb : PB) (os : List PV) (s : PSt) (b : UInt8) (hos : os.all cellsB = true) (hn : os.length ≤ 90000) (hpb : pb.no ↔ s.params = []) (hok : s.ok) : OneC W bs bo bg bn c pb os s b (stepL s b) := by
  rcases hok with ⟨h0, hl, h2, h3, h4, h5, h6⟩ | ⟨h0 | h0, h1, h2, h3, h4, h5, h6⟩ | ⟨h0, h1, h2, h4, h5, h6, h7, h8⟩ | ⟨h0, h1, h2, h3, h4, h5, h6, h7⟩ | ⟨h0, h1, h2, h3, h4, h5, h6⟩
  · have e : stepL s b = groundL s b := by rw [stepL, if_pos h0]
    rw [e]
    have hl' : s.left = [] ∨ fullL s.left = false := hl.imp id (·.2)
    have hll : s.left.length ≤ 3 := by
      rcases hl' with h | h
      · rw [h]; decide
      · by_cases hne : s.left = []
        · rw [hne]; decide
        · exact (part_spec hne h).1
    refine one_lift W hpb (ground_ev s b) ?_
    cases hc : ctlB b with
    | true => exact one_ctl W bs bo bg bn c _ os s b hos hn (by omega) hll hc
    | false => exact one_ground W hT bs bo bg bn c _ os s b hos hn h0 hl' hll hc
  · have e : stepL s b = escL s b := by rw [stepL, if_neg (by omega), if_pos h0]
    rw [e]
    refine one_lift W hpb (esc_ev s b) ?_
    cases hc : ctlB b with
    | true =>
      have := one_ctl W bs bo bg bn c (parV pb s.params) os s b hos hn (by omega) (by rw [h1]; decide) hc
      rw [ground_ctl h1 hc] at this
      rw [escL, if_pos hc]; exact this
    | false => exact one_escape W bs bo bg bn c _ os s b hos hn h0 hc
  · have e : stepL s b = skipL s b := by rw [stepL, if_neg (by omega), if_neg (by omega), if_neg (by omega), if_neg (by omega), if_neg (by omega)]
    rw [e]
    refine one_lift W hpb (skip_ev s b) ?_
    cases hc : ctlB b with
    | true =>
      have := one_ctl W bs bo bg bn c (parV pb s.params) os s b hos hn (by omega) (by rw [h1]; decide) hc
      rw [ground_ctl h1 hc] at this
      rw [skipL, if_pos hc]; exact this
    | false => exact one_skip W bs bo bg bn c _ os s b h0 hc
  · have e : stepL s b = midL s b := by rw [stepL, if_neg (by omega), if_neg (by omega), if_pos h0]
    rw [e]
    refine one_lift W hpb (mid_ev s b) ?_
    cases hc : ctlB b with
    | true =>
      have := one_ctl W bs bo bg bn c (parV pb s.params) os s b hos hn (by omega) (by rw [h6]; decide) hc
      rw [ground_ctl h6 hc] at this
      rw [midL, if_pos hc]; exact this
    | false => exact one_middle W bs bo bg bn c _ os s b hos hn h0 h2 h1.1 hc
  · have e : stepL s b = cmdL s b := by rw [stepL, if_neg (by omega), if_neg (by omega), if_neg (by omega), if_pos h0]
    rw [e]
    cases hc : ctlB b with
    | true =>
      have := one_ctl W bs bo bg bn c (parV pb s.params) os s b hos hn (by omega) (by rw [h4]; decide) hc
      rw [ground_ctl h4 hc] at this
      rw [cmdL, if_pos hc]
      exact one_lift W hpb (ctl_ev s b) this
    | false =>
      have := h1.1
      cases pb with
      | nil => exact one_nil W bs bo bg bn c os s b hos hn h0 (hpb.1 trivial) (by omega) hc
      | emp => exact one_emp W bs bo bg bn c os s b hos hn h0 (hpb.1 trivial) (by omega) hc
      | own pb => exact one_some W bs bo bg bn c pb os s b hos hn h0 (fun h => hpb.2 h) h2 h7 (by omega) hc
  · have e : stepL s b = sysL s b := by rw [stepL, if_neg (by omega), if_neg (by omega), if_neg (by omega), if_neg (by omega), if_pos h0]
    rw [e]
    refine one_lift W hpb (sys_ev s b) ?_
    refine one_system W bs bo bg bn c _ os s b hos hn h0 h1 ?_
    cases hc : ctlB b with
    | true =>
      have := one_ctl W bs bo bg bn c .nils os (stAt 1) b hos hn (by decide) (by decide) hc
      rw [ground_ctl rfl hc] at this
      rw [escL, if_pos hc]; exact this
    | false => exact one_escape W bs bo bg bn c _ os (stAt 1) b hos hn rfl hc
end Go.Eng.YtkcldifniomfoaaDoor
end

/- The document's reader: ReadBytes (b_ x_ q_ e_ pre_). -/
section
namespace Go.Eng.YtkcldifniomfoaaDoor
open Go Go.Eng Go.Proofs
variable (W : World)
set_option linter.unusedSimpArgs false
set_option maxRecDepth 100000
set_option linter.unusedVariables false
set_option maxHeartbeats 8000000
def refN (bs bo bg bn : Nat) (x : RdS) (s : PSt) : Mem := rS bs (parV x.1 s.params) s :: rO bo (accV x.2.1 7 x.2.2.1) :: rG bg bs :: rN bn bs bo bg :: (parM x.1 s.params ++ (accM x.2.1 7 x.2.2.1 ++ intsM x.2.2.2))
theorem ref_step (hT : Tabs W) (bs bo bg bn : Nat) (x : RdS) (s : PSt) (es : List PEv) (b : UInt8) (hx : RdR x s es) (hn : es.length ≤ 90000) (hok : s.ok) :
    ACalls Tryd.prog W 36 [.int .u8 b.toNat, .bref bs 0, .bref bo 0, .bref bg 0, .bref bn 0] (refN bs bo bg bn x s)
      (Gives (fun _ : RdS => .tup []) (fun y => refN bs bo bg bn y (stepL s b).1) (fun y => RdR y (stepL s b).1 (es ++ (stepL s b).2))) := by
  obtain ⟨pb, c, os, g⟩ := x
  have hlen := hx.len
  have hall := hx.all
  have hpar := hx.par
  have hat := hx.at_
  dsimp only at hlen hall hpar hat
  refine ACalls.lend (one_step W hT bs bo bg bn c pb os s b hall (by omega) hpar hok) (r := intsM g) ?_ ?_
  · rw [refN, ← List.append_assoc]; exact .refl _
  rintro ⟨b', pb', vs, lo⟩ hq
  generalize stepL s b = t at *
  obtain ⟨hp, ⟨h1, h2, hev⟩ | ⟨e, he, hep, h1, h2, h3⟩⟩ := hq
  · dsimp only at h1 h2 hp
    subst h1
    subst h2
    refine ⟨(pb', b', os ++ t.2.map (evV .nils), g), ⟨hp, by simp [hlen], by rw [List.all_append, hall, ev_cells]; rfl, ?_⟩, (by first | rfl | trivial), [], ?_⟩
    · refine told_more (fun _ h => h) hlen hat ?_
      intro k v e hv he
      rw [List.getElem?_map, he] at hv
      obtain rfl := Option.some.inj hv
      refine frz_ev ?_
      rw [hev e (List.mem_of_getElem? he)]
      exact .nils 1
    · rw [List.append_nil]
      simp only [oneM, refN, List.nil_append, List.cons_append, List.append_assoc]
      exact .refl _
  · dsimp only at h1 h2 h3 hp
    subst h1
    subst h2
    subst h3
    have hfam := famP_M pb s.params g
    refine ⟨(PB.nil, b', os ++ [evV (parV pb s.params) e], famP pb s.params g), ⟨hp, by simp [hlen, he], ?_, ?_⟩, (by first | rfl | trivial), [], ?_⟩
    · rw [List.all_append, hall]
      cases pb <;> rfl
    · refine told_more (g := g) (fun k h => ?_) hlen hat ?_
      · rw [hfam]; exact List.mem_append_right _ h
      · rw [he]
        intro k v e' hv he'
        cases k with
        | succ k => simp at hv
        | zero =>
          simp only [List.getElem?_cons_zero, Option.some.injEq] at hv he'
          subst hv
          subst he'
          refine frz_ev ?_
          rw [hep, hfam]
          cases pb with
          | nil => rw [hpar.1 trivial]; exact .nils 1
          | emp => rw [hpar.1 trivial]; exact .refl _
          | own c => exact frz_row (.here _ _ _) _ (by rw [List.length_map])
    · rw [List.append_nil]
      simp only [oneM, refN, hfam]
      rw [hp.1 trivial]
      simp only [parM, List.nil_append, List.cons_append, List.append_assoc]
      refine .cons _ (.cons _ (.cons _ (.cons _ ?_)))
      rw [← List.append_assoc, ← List.append_assoc]
      exact List.Perm.append_right _ List.perm_append_comm
theorem frame3 {α : Type} {V : α → PV} {M : α → Mem} {R : α → Prop} {f : FuncId} {args : List PV} {A : Mem} (k : Blk) (h : ACalls Tryd.prog W f args A (Gives V M R)) :
    ACalls Tryd.prog W f args (k :: A) (Gives V (fun x => k :: M x) R) := frame2 W k h
theorem ref_frz {x : RdS} {s' : PSt} {es : List PEv} (hx : RdR x s' es) (k1 k2 k3 k4 k5 : Blk) :
    Frz (k1 :: k2 :: k3 :: k4 :: k5 :: (parM x.1 s'.params ++ (accM x.2.1 7 x.2.2.1 ++ intsM x.2.2.2))) (.tup [.agg (stV (parV x.1 s'.params) s'), accV x.2.1 7 x.2.2.1]) (.tup [encSt s', encEvs es]) := by
  have hs : ∀ (σ : Mem) (k : Blk), k ∈ σ → k ∈ k1 :: k2 :: k3 :: k4 :: k5 :: σ := fun σ k hk => List.mem_cons_of_mem _ (List.mem_cons_of_mem _ (List.mem_cons_of_mem _ (List.mem_cons_of_mem _ (List.mem_cons_of_mem _ hk))))
  refine frz_mem (hs _) (σ := parM x.1 s'.params ++ (accM x.2.1 7 x.2.2.1 ++ intsM x.2.2.2)) (frz_tup2 ?_ ?_)
  · refine .agg _ _ rfl fun j hj => ?_
    match j, hj with
    | 0, _ => exact .refl _
    | 1, _ => exact .refl _
    | 2, _ => exact .refl _
    | 3, _ => exact frz_par hx.par (fun k hk => List.mem_append_left _ hk)
    | 4, _ => exact .refl _
    | 5, _ => exact .refl _
    | 6, _ => exact .refl _
  · exact frz_told hx.len (fun k hk => List.mem_append_right _ (List.mem_append_left _ hk)) (fun k v e hv he => frz_mem (fun k hk => List.mem_append_right _ (List.mem_append_right _ hk)) (hx.at_ k v e hv he))
theorem read_emp (hT : Tabs W) (s : PSt) (b : List UInt8) (hok : s.ok) (hb : b.length ≤ 4000) (hp : s.params = []) :
    Pure Tryd.prog W 19 [encSt s, .str b] (.tup [encSt (feedL s b).1, encEvs (feedL s b).2]) := by
  have hst := fun b1 b3 b5 b6 x s' es c => ref_step W hT b1 b3 b5 b6 x s' es c
  generalize hf : feedL s b = F at *
  obtain ⟨a, m, mi, p, t, l, la⟩ := s
  dsimp only at hp
  subst hp
  simp only [encSt, stV, encInts, List.map_nil] at ⊢
  refine Pure.of (acalls_of_vc (DM_ok (by decide)) Tryd.func19 rfl (by decide) (by decide) rfl ?_)
  (refine g0_ ?_; repeat ((first | refine n1_ fun b_ => ?_ | refine n2_ fun b_ => ?_ | refine n3_ fun b_ pre_ => ?_ | refine Nat1.mk fun q_ hq_ => ?_ | refine em_ fun x_ hx_ => ?_ | refine Elem1.mk fun e_ he_ => ?_); refine g0_ ?_))
  refine (clone_intsE W).use ?_; (refine g0_ ?_; repeat ((first | refine n1_ fun b_ => ?_ | refine n2_ fun b_ => ?_ | refine n3_ fun b_ pre_ => ?_ | refine Nat1.mk fun q_ hq_ => ?_ | refine em_ fun x_ hx_ => ?_ | refine Elem1.mk fun e_ he_ => ?_); refine g0_ ?_))
  (refine g0_ ?_; repeat ((first | refine n1_ fun b_ => ?_ | refine n2_ fun b_ => ?_ | refine n3_ fun b_ pre_ => ?_ | refine Nat1.mk fun q_ hq_ => ?_ | refine em_ fun x_ hx_ => ?_ | refine Elem1.mk fun e_ he_ => ?_); refine g0_ ?_))
  rename_i b1 b2 b3 b5
  refine' loopI (α := Nat × RdS × PSt × (List PEv)) (fun (i, x, s', es) => [(18, .int .i64 i)]) [(1, _), (2, _), (4, _), (6, _), (8, _), (17, _)] (fun (i, x, s', es) => ⟨b2, .row 7 [.agg [.int .i64 0, .int .u8 0, .str [], .nils, .str [], .str [], .bool false]] 0⟩ :: ⟨b1, .row 7 [.agg (stV (parV x.1 s'.params) s')] 0⟩ :: ⟨b3, .row 1 [accV x.2.1 7 x.2.2.1] 0⟩ :: ⟨b5, .row 1 [.fn 35 [.bref b1 0]] 0⟩ :: ⟨b_, .row 1 [.fn 36 [.bref b1 0, .bref b3 0, .bref b5 0, .bref b_ 0]] 0⟩ :: (parM x.1 s'.params ++ (accM x.2.1 7 x.2.2.1 ++ intsM x.2.2.2))) (fun (i, x, s', es) => RdR x s' es ∧ s'.ok ∧ i ≤ b.length ∧ es.length ≤ 4 * i ∧ F = ((feedL s' (b.drop i)).1, es ++ (feedL s' (b.drop i)).2)) (fun (i, x, s', es) => b.length - i) (0, (PB.emp, 0, [], []), ⟨a, m, mi, [], t, l, la⟩, []) ?_ ?_
  · exact ⟨⟨by simp [PB.no], rfl, rfl, by simp⟩, hok, Nat.zero_le _, Nat.le_refl _, by rw [← hf]; rfl⟩
  rintro ⟨i, x, s', es⟩ ⟨hx, hok', hi, hle, hF2⟩
  (refine g0_ ?_; repeat ((first | refine n1_ fun b_ => ?_ | refine n2_ fun b_ => ?_ | refine n3_ fun b_ pre_ => ?_ | refine Nat1.mk fun q_ hq_ => ?_ | refine em_ fun x_ hx_ => ?_ | refine Elem1.mk fun e_ he_ => ?_); refine g0_ ?_))
  refine brec ?_; intro c_ h; (try rw [h]); cases c_ <;> replace h := nm_ h
  · have hil : i = b.length := by omega
    rw [hil, List.drop_length, feedL, List.append_nil] at hF2
    have hfz := ref_frz hx
    subst hF2
    clear hst hx
    obtain ⟨pb, bo, os, g⟩ := x
    obtain ⟨a', m', mi', p', t', l', la'⟩ := s'
    cases pb
    all_goals
      rcases os with _ | ⟨o, os⟩
      all_goals
        simp only [stV, parV, parM, accV, accM] at *
        (refine g0_ ?_; repeat ((first | refine n1_ fun b_ => ?_ | refine n2_ fun b_ => ?_ | refine n3_ fun b_ pre_ => ?_ | refine Nat1.mk fun q_ hq_ => ?_ | refine em_ fun x_ hx_ => ?_ | refine Elem1.mk fun e_ he_ => ?_); refine g0_ ?_))
        refine Draws11.tree ⟨3, [.new, .new, .turn], (.one 2 [.keep, .again, .keep] .fin), by decide +kernel, ?_⟩; (refine g0_ ?_; repeat ((first | refine n1_ fun b_ => ?_ | refine n2_ fun b_ => ?_ | refine n3_ fun b_ pre_ => ?_ | refine Nat1.mk fun q_ hq_ => ?_ | refine em_ fun x_ hx_ => ?_ | refine Elem1.mk fun e_ he_ => ?_); refine g0_ ?_))
        exact hfz _ _ _ _ _
  · have hil : i < b.length := by omega
    obtain ⟨c, hc⟩ : ∃ c, b[i]? = some c := ⟨b[i], List.getElem?_eq_getElem hil⟩
    have h4 := step_few hok' c
    have hd : b.drop i = c :: b.drop (i + 1) := by
      rw [List.drop_eq_getElem_cons hil]
      rw [List.getElem?_eq_getElem hil] at hc
      rw [Option.some.inj hc]
    rw [hd] at hF2
    (refine g0_ ?_; repeat ((first | refine n1_ fun b_ => ?_ | refine n2_ fun b_ => ?_ | refine n3_ fun b_ pre_ => ?_ | refine Nat1.mk fun q_ hq_ => ?_ | refine em_ fun x_ hx_ => ?_ | refine Elem1.mk fun e_ he_ => ?_); refine g0_ ?_))
    refine Draws11.tree ⟨5, [.new, .new, .new, .new, .turn], (.one 4 [.keep, .keep, .keep, .keep, .keep] .fin), by decide +kernel, ?_⟩; (refine g0_ ?_; repeat ((first | refine n1_ fun b_ => ?_ | refine n2_ fun b_ => ?_ | refine n3_ fun b_ pre_ => ?_ | refine Nat1.mk fun q_ hq_ => ?_ | refine em_ fun x_ hx_ => ?_ | refine Elem1.mk fun e_ he_ => ?_); refine g0_ ?_))
    rw [hc] at he_
    obtain rfl := Option.some.inj he_
    refine ACalls.all_ (frame2 W _ (hst b1 b3 b5 b_ x s' es c hx (by omega) hok')) ?_
    rintro v σ1 ⟨y, hy, rfl, hm⟩
    refine ⟨_, hm, ?_⟩
    (refine g0_ ?_; repeat ((first | refine n1_ fun b_ => ?_ | refine n2_ fun b_ => ?_ | refine n3_ fun b_ pre_ => ?_ | refine Nat1.mk fun q_ hq_ => ?_ | refine em_ fun x_ hx_ => ?_ | refine Elem1.mk fun e_ he_ => ?_); refine g0_ ?_))
    refine nx_ (i + 1, y, (stepL s' c).1, es ++ (stepL s' c).2) ?_ ?_
    · refine ⟨hy, stepL_ok hok' c, by omega, by rw [List.length_append]; omega, ?_⟩
      rw [hF2, feedL, List.append_assoc]
    · ((try dsimp only); (try simp only [List.length_drop, List.length_take, List.length_append, List.length_cons, List.length_nil, List.length_map] at *); omega)
theorem read_own (hT : Tabs W) (s : PSt) (b : List UInt8) (hok : s.ok) (hb : b.length ≤ 4000) (hp : s.params ≠ []) :
    Pure Tryd.prog W 19 [encSt s, .str b] (.tup [encSt (feedL s b).1, encEvs (feedL s b).2]) := by
  have hst := fun b1 b3 b5 b6 x s' es c => ref_step W hT b1 b3 b5 b6 x s' es c
  generalize hf : feedL s b = F at *
  obtain ⟨a, m, mi, p, t, l, la⟩ := s
  dsimp only at hp
  have hpl : p.length ≤ 16 := by
    rcases hok with h | h | h | h | h
    · exact absurd h.2.2.2.2.1 hp
    · exact absurd h.2.2.2.2.1 hp
    · exact absurd h.2.2.2.1 hp
    · exact h.2.2.1
    · exact absurd h.2.2.2.2.1 hp
  rcases p with _ | ⟨n, p⟩
  · exact absurd rfl hp
  simp only [List.length_cons] at hpl
  simp only [encSt, stV, encInts] at ⊢
  refine Pure.of (acalls_of_vc (DM_ok (by decide)) Tryd.func19 rfl (by decide) (by decide) rfl ?_)
  (refine g0_ ?_; repeat ((first | refine n1_ fun b_ => ?_ | refine n2_ fun b_ => ?_ | refine n3_ fun b_ pre_ => ?_ | refine Nat1.mk fun q_ hq_ => ?_ | refine em_ fun x_ hx_ => ?_ | refine Elem1.mk fun e_ he_ => ?_); refine g0_ ?_))
  refine ACalls.give (clone_ints1 W n p (by omega)) ?_
  rintro bc -
  rw [List.length_map]
  (refine g0_ ?_; repeat ((first | refine n1_ fun b_ => ?_ | refine n2_ fun b_ => ?_ | refine n3_ fun b_ pre_ => ?_ | refine Nat1.mk fun q_ hq_ => ?_ | refine em_ fun x_ hx_ => ?_ | refine Elem1.mk fun e_ he_ => ?_); refine g0_ ?_))
  rename_i b1 b2 b3 b5
  refine' loopI (α := Nat × RdS × PSt × (List PEv)) (fun (i, x, s', es) => [(18, .int .i64 i)]) [(1, _), (2, _), (4, _), (6, _), (8, _), (17, _)] (fun (i, x, s', es) => ⟨b2, .row 7 [.agg [.int .i64 0, .int .u8 0, .str [], .nils, .str [], .str [], .bool false]] 0⟩ :: ⟨b1, .row 7 [.agg (stV (parV x.1 s'.params) s')] 0⟩ :: ⟨b3, .row 1 [accV x.2.1 7 x.2.2.1] 0⟩ :: ⟨b5, .row 1 [.fn 35 [.bref b1 0]] 0⟩ :: ⟨b_, .row 1 [.fn 36 [.bref b1 0, .bref b3 0, .bref b5 0, .bref b_ 0]] 0⟩ :: (parM x.1 s'.params ++ (accM x.2.1 7 x.2.2.1 ++ intsM x.2.2.2))) (fun (i, x, s', es) => RdR x s' es ∧ s'.ok ∧ i ≤ b.length ∧ es.length ≤ 4 * i ∧ F = ((feedL s' (b.drop i)).1, es ++ (feedL s' (b.drop i)).2)) (fun (i, x, s', es) => b.length - i) (0, (PB.own bc, 0, [], []), ⟨a, m, mi, (n :: p), t, l, la⟩, []) ?_ ?_
  · exact ⟨⟨by simp [PB.no], rfl, rfl, by simp⟩, hok, Nat.zero_le _, Nat.le_refl _, by rw [← hf]; rfl⟩
  rintro ⟨i, x, s', es⟩ ⟨hx, hok', hi, hle, hF2⟩
  (refine g0_ ?_; repeat ((first | refine n1_ fun b_ => ?_ | refine n2_ fun b_ => ?_ | refine n3_ fun b_ pre_ => ?_ | refine Nat1.mk fun q_ hq_ => ?_ | refine em_ fun x_ hx_ => ?_ | refine Elem1.mk fun e_ he_ => ?_); refine g0_ ?_))
  refine brec ?_; intro c_ h; (try rw [h]); cases c_ <;> replace h := nm_ h
  · have hil : i = b.length := by omega
    rw [hil, List.drop_length, feedL, List.append_nil] at hF2
    have hfz := ref_frz hx
    subst hF2
    clear hst hx
    obtain ⟨pb, bo, os, g⟩ := x
    obtain ⟨a', m', mi', p', t', l', la'⟩ := s'
    cases pb
    all_goals
      rcases os with _ | ⟨o, os⟩
      all_goals
        simp only [stV, parV, parM, accV, accM] at *
        (refine g0_ ?_; repeat ((first | refine n1_ fun b_ => ?_ | refine n2_ fun b_ => ?_ | refine n3_ fun b_ pre_ => ?_ | refine Nat1.mk fun q_ hq_ => ?_ | refine em_ fun x_ hx_ => ?_ | refine Elem1.mk fun e_ he_ => ?_); refine g0_ ?_))
        refine Draws11.tree ⟨3, [.new, .new, .turn], (.one 2 [.keep, .again, .keep] .fin), by decide +kernel, ?_⟩; (refine g0_ ?_; repeat ((first | refine n1_ fun b_ => ?_ | refine n2_ fun b_ => ?_ | refine n3_ fun b_ pre_ => ?_ | refine Nat1.mk fun q_ hq_ => ?_ | refine em_ fun x_ hx_ => ?_ | refine Elem1.mk fun e_ he_ => ?_); refine g0_ ?_))
        exact hfz _ _ _ _ _
  · have hil : i < b.length := by omega
    obtain ⟨c, hc⟩ : ∃ c, b[i]? = some c := ⟨b[i], List.getElem?_eq_getElem hil⟩
    have h4 := step_few hok' c
    have hd : b.drop i = c :: b.drop (i + 1) := by
      rw [List.drop_eq_getElem_cons hil]
      rw [List.getElem?_eq_getElem hil] at hc
      rw [Option.some.inj hc]
    rw [hd] at hF2
    (refine g0_ ?_; repeat ((first | refine n1_ fun b_ => ?_ | refine n2_ fun b_ => ?_ | refine n3_ fun b_ pre_ => ?_ | refine Nat1.mk fun q_ hq_ => ?_ | refine em_ fun x_ hx_ => ?_ | refine Elem1.mk fun e_ he_ => ?_); refine g0_ ?_))
    refine Draws11.tree ⟨5, [.new, .new, .new, .new, .turn], (.one 4 [.keep, .keep, .keep, .keep, .keep] .fin), by decide +kernel, ?_⟩; (refine g0_ ?_; repeat ((first | refine n1_ fun b_ => ?_ | refine n2_ fun b_ => ?_ | refine n3_ fun b_ pre_ => ?_ | refine Nat1.mk fun q_ hq_ => ?_ | refine em_ fun x_ hx_ => ?_ | refine Elem1.mk fun e_ he_ => ?_); refine g0_ ?_))
    rw [hc] at he_
    obtain rfl := Option.some.inj he_
    refine ACalls.all_ (frame2 W _ (hst b1 b3 b5 b_ x s' es c hx (by omega) hok')) ?_
    rintro v σ1 ⟨y, hy, rfl, hm⟩
    refine ⟨_, hm, ?_⟩
    (refine g0_ ?_; repeat ((first | refine n1_ fun b_ => ?_ | refine n2_ fun b_ => ?_ | refine n3_ fun b_ pre_ => ?_ | refine Nat1.mk fun q_ hq_ => ?_ | refine em_ fun x_ hx_ => ?_ | refine Elem1.mk fun e_ he_ => ?_); refine g0_ ?_))
    refine nx_ (i + 1, y, (stepL s' c).1, es ++ (stepL s' c).2) ?_ ?_
    · refine ⟨hy, stepL_ok hok' c, by omega, by rw [List.length_append]; omega, ?_⟩
      rw [hF2, feedL, List.append_assoc]
    · ((try dsimp only); (try simp only [List.length_drop, List.length_take, List.length_append, List.length_cons, List.length_nil, List.length_map] at *); omega)
theorem read_ok (hT : Tabs W) (s : PSt) (b : List UInt8) (hok : s.ok) (hb : b.length ≤ 4000) :
    Pure Tryd.prog W 19 [encSt s, .str b] (.tup [encSt (feedL s b).1, encEvs (feedL s b).2]) := by
  by_cases hp : s.params = []
  · exact read_emp W hT s b hok hb hp
  · exact read_own W hT s b hok hb hp
end Go.Eng.YtkcldifniomfoaaDoor
end
