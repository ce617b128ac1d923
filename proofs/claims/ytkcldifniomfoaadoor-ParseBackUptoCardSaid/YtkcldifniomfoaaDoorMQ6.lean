/- Texts put together: Prs16, Prs17, Prs18. -/
import Derived.Test.YtkcldifniomfoaaDoorMQ2
import Derived.Test.YtkcldifniomfoaaDoorMQ4
import Derived.Test.YtkcldifniomfoaaDoorMQ3
/- The document's reader: what it does with a byte, but for commands (b_). -/
section
namespace Go.Eng.YtkcldifniomfoaaDoor
open Go Go.Eng Go.Proofs
variable (W : World)
set_option linter.unusedSimpArgs false
set_option maxRecDepth 100000
set_option linter.unusedVariables false
set_option maxHeartbeats 8000000
/-- The document's reader under way: the state, what is told, its two closures. -/
def rS (bs : Nat) (pv : PV) (s : PSt) : Blk := ⟨bs, .row 7 [.agg (stV pv s)] 0⟩
def rO (bo : Nat) (ov : PV) : Blk := ⟨bo, .row 1 [ov] 0⟩
def rG (bg bs : Nat) : Blk := ⟨bg, .row 1 [.fn 35 [.bref bs 0]] 0⟩
def rN (bn bs bo bg : Nat) : Blk := ⟨bn, .row 1 [.fn 36 [.bref bs 0, .bref bo 0, .bref bg 0, .bref bn 0]] 0⟩
theorem rS_eq (bs : Nat) (pv : PV) (a : Int) (m : UInt8) (mi : List UInt8) (p : List Int) (t l : List UInt8) (la : Bool) : rS bs pv ⟨a, m, mi, p, t, l, la⟩ = ⟨bs, .row 7 [.agg [.int .i64 a, .int .u8 m.toNat, .str mi, pv, .str t, .str l, .bool la]] 0⟩ := rfl
theorem ref_ground (bs : Nat) (pv : PV) (s : PSt) : ACalls Tryd.prog W 35 [.bref bs 0] [rS bs pv s]
    (Gives (fun _ : Unit => .tup []) (fun _ => [rS bs .nils st0]) (fun _ => True)) := by
  obtain ⟨a, m, mi, p, t, l, la⟩ := s
  rw [rS_eq]
  refine acalls_of_vc (DM_ok (by decide)) Tryd.func35 rfl (by decide) (by decide) rfl ?_
  (refine g0_ ?_; repeat ((first | refine n1_ fun b_ => ?_ | refine n2_ fun b_ => ?_); refine g0_ ?_))
  exact ⟨(), trivial, rfl, by (first | exact ⟨_, .refl _⟩ | exact wkMem.rfl' | exact ⟨_, .swap _ _ _⟩ | (repeat (first | exact wkMem.nil _ | exact wkMem.rfl' | exact wk_snoc _ _ _ | exact wk_fam (by assumption) _ _ _ | exact wk_famN (by assumption) _ _ _ | (apply wkMem.cons; (case' hl => (repeat (first | exact .here _ _ _ | apply Look.there)))) | apply wkMem.skip)))⟩
/-- What it makes of a byte. -/
abbrev One (bs bo bg bn c : Nat) (pv : PV) (os : List PV) (s : PSt) (b : UInt8) (t : PSt × List PEv) : Prop :=
  ACalls Tryd.prog W 36 [.int .u8 b.toNat, .bref bs 0, .bref bo 0, .bref bg 0, .bref bn 0] (rS bs pv s :: rO bo (accV c 7 os) :: rG bg bs :: rN bn bs bo bg :: accM c 7 os)
    (Gives (fun _ : Nat × PV => .tup []) (fun x => rS bs x.2 t.1 :: rO bo (accV x.1 7 (os ++ t.2.map (evV .nils))) :: rG bg bs :: rN bn bs bo bg :: accM x.1 7 (os ++ t.2.map (evV .nils))) (fun x => (x.2 = pv ∧ t.1.params = s.params) ∨ (x.2 = .nils ∧ t.1.params = [])))
theorem accV_more (b : Nat) (o v : PV) (os : List PV) : accV b 7 (o :: os ++ [v]) = .rsl b 7 0 (os.length + 1 + 1) := by simp [accV]
theorem accM_more (b : Nat) (o v : PV) (os : List PV) : accM b 7 (o :: os ++ [v]) = [⟨b, .row 7 (o :: os ++ [v]) 0⟩] := rfl
theorem one_escape (bs bo bg bn c : Nat) (pv : PV) (os : List PV) (s : PSt) (b : UInt8) (hos : os.all cellsB = true) (hn : os.length ≤ 90000) (ha : s.at_ = 1) (hc : ctlB b = false) : One W bs bo bg bn c pv os s b (escL s b) := by
  have hlt := b.toNat_lt
  unfold One
  have hcb : ¬ (b.toNat < 32 ∨ b.toNat = 127) := fun h => by rw [(ctlB_iff b).2 h] at hc; cases hc
  rw [escL, hc, if_neg (by simp)]
  by_cases h1 : b.toNat = 91
  · rw [if_pos h1, List.map_nil, List.append_nil]
    obtain ⟨a, m, mi, p, t, l, la⟩ := s
    simp only [rS_eq, rO, rG, rN] at *
    subst ha
    refine acalls_of_vc (DM_ok (by decide)) Tryd.func36 rfl (by decide) (by decide) rfl ?_
    (refine g0_ ?_; repeat ((first | refine n1_ fun b_ => ?_ | refine n2_ fun b_ => ?_); refine g0_ ?_))
    (refine g1_ ?_; repeat ((first | refine n1_ fun b_ => ?_ | refine n2_ fun b_ => ?_); refine g1_ ?_))
    exact ⟨(c, .nils), .inr ⟨(by first | rfl | trivial), (by first | rfl | trivial)⟩, (by first | rfl | trivial), by (first | exact ⟨_, .refl _⟩ | exact wkMem.rfl' | exact ⟨_, .swap _ _ _⟩ | (repeat (first | exact wkMem.nil _ | exact wkMem.rfl' | exact wk_snoc _ _ _ | exact wk_fam (by assumption) _ _ _ | exact wk_famN (by assumption) _ _ _ | (apply wkMem.cons; (case' hl => (repeat (first | exact .here _ _ _ | apply Look.there)))) | apply wkMem.skip)))⟩
  by_cases h2 : b.toNat = 93
  · rw [if_neg h1, if_pos h2, List.map_nil, List.append_nil]
    obtain ⟨a, m, mi, p, t, l, la⟩ := s
    simp only [rS_eq, rO, rG, rN] at *
    subst ha
    refine acalls_of_vc (DM_ok (by decide)) Tryd.func36 rfl (by decide) (by decide) rfl ?_
    (refine g0_ ?_; repeat ((first | refine n1_ fun b_ => ?_ | refine n2_ fun b_ => ?_); refine g0_ ?_))
    (refine g1_ ?_; repeat ((first | refine n1_ fun b_ => ?_ | refine n2_ fun b_ => ?_); refine g1_ ?_))
    exact ⟨(c, .nils), .inr ⟨(by first | rfl | trivial), (by first | rfl | trivial)⟩, (by first | rfl | trivial), by (first | exact ⟨_, .refl _⟩ | exact wkMem.rfl' | exact ⟨_, .swap _ _ _⟩ | (repeat (first | exact wkMem.nil _ | exact wkMem.rfl' | exact wk_snoc _ _ _ | exact wk_fam (by assumption) _ _ _ | exact wk_famN (by assumption) _ _ _ | (apply wkMem.cons; (case' hl => (repeat (first | exact .here _ _ _ | apply Look.there)))) | apply wkMem.skip)))⟩
  by_cases h3 : b.toNat < 48
  · rw [if_neg h1, if_neg h2, if_pos h3, List.map_nil, List.append_nil]
    obtain ⟨a, m, mi, p, t, l, la⟩ := s
    simp only [rS_eq, rO, rG, rN] at *
    subst ha
    refine acalls_of_vc (DM_ok (by decide)) Tryd.func36 rfl (by decide) (by decide) rfl ?_
    (refine g0_ ?_; repeat ((first | refine n1_ fun b_ => ?_ | refine n2_ fun b_ => ?_); refine g0_ ?_))
    (refine g1_ ?_; repeat ((first | refine n1_ fun b_ => ?_ | refine n2_ fun b_ => ?_); refine g1_ ?_))
    refine .inl ?_
    (refine g0_ ?_; repeat ((first | refine n1_ fun b_ => ?_ | refine n2_ fun b_ => ?_); refine g0_ ?_))
    refine ⟨[(b.toNat : Int)], rfl, ?_⟩
    rw [u8_back]
    (refine g0_ ?_; repeat ((first | refine n1_ fun b_ => ?_ | refine n2_ fun b_ => ?_); refine g0_ ?_))
    exact ⟨(c, .nils), .inr ⟨(by first | rfl | trivial), (by first | rfl | trivial)⟩, (by first | rfl | trivial), by (first | exact ⟨_, .refl _⟩ | exact wkMem.rfl' | exact ⟨_, .swap _ _ _⟩ | (repeat (first | exact wkMem.nil _ | exact wkMem.rfl' | exact wk_snoc _ _ _ | exact wk_fam (by assumption) _ _ _ | exact wk_famN (by assumption) _ _ _ | (apply wkMem.cons; (case' hl => (repeat (first | exact .here _ _ _ | apply Look.there)))) | apply wkMem.skip)))⟩
  by_cases h4 : b.toNat < 127
  · rw [if_neg h1, if_neg h2, if_neg h3, if_pos h4]
    obtain ⟨a, m, mi, p, t, l, la⟩ := s
    simp only [rS_eq, rO, rG, rN] at *
    subst ha
    rcases os with _ | ⟨o, os⟩
    · simp only [accV, accM]
      refine acalls_of_vc (DM_ok (by decide)) Tryd.func36 rfl (by decide) (by decide) rfl ?_
      (refine g0_ ?_; repeat ((first | refine n1_ fun b_ => ?_ | refine n2_ fun b_ => ?_); refine g0_ ?_))
      (refine g1_ ?_; repeat ((first | refine n1_ fun b_ => ?_ | refine n2_ fun b_ => ?_); refine g1_ ?_))
      refine .inl ?_
      (refine g0_ ?_; repeat ((first | refine n1_ fun b_ => ?_ | refine n2_ fun b_ => ?_); refine g0_ ?_))
      refine ACalls.lend (ref_ground W bs pv ⟨1, m, mi, p, t, l, la⟩) (Look.perm (by repeat (first | exact .here _ _ _ | apply Look.there))) ?_
      rintro _ -
      (refine g0_ ?_; repeat ((first | refine n1_ fun b_ => ?_ | refine n2_ fun b_ => ?_); refine g0_ ?_))
      exact ⟨(b_, .nils), .inr ⟨(by first | rfl | trivial), (by first | rfl | trivial)⟩, (by first | rfl | trivial), by (first | exact ⟨_, .refl _⟩ | exact wkMem.rfl' | exact ⟨_, .swap _ _ _⟩ | (repeat (first | exact wkMem.nil _ | exact wkMem.rfl' | exact wk_snoc _ _ _ | exact wk_fam (by assumption) _ _ _ | exact wk_famN (by assumption) _ _ _ | (apply wkMem.cons; (case' hl => (repeat (first | exact .here _ _ _ | apply Look.there)))) | apply wkMem.skip)))⟩
    · simp only [List.length_cons] at hn
      simp only [accV, accM]
      refine acalls_of_vc (DM_ok (by decide)) Tryd.func36 rfl (by decide) (by decide) rfl ?_
      (refine g0_ ?_; repeat ((first | refine n1_ fun b_ => ?_ | refine n2_ fun b_ => ?_); refine g0_ ?_))
      (refine g1_ ?_; repeat ((first | refine n1_ fun b_ => ?_ | refine n2_ fun b_ => ?_); refine g1_ ?_))
      refine .inl ?_
      (refine g0_ ?_; repeat ((first | refine n1_ fun b_ => ?_ | refine n2_ fun b_ => ?_); refine g0_ ?_))
      refine ACalls.lend (ref_ground W bs pv ⟨1, m, mi, p, t, l, la⟩) (Look.perm (by repeat (first | exact .here _ _ _ | apply Look.there))) ?_
      rintro _ -
      (refine g0_ ?_; repeat ((first | refine n1_ fun b_ => ?_ | refine n2_ fun b_ => ?_); refine g0_ ?_))
      refine ⟨(b_, .nils), .inr ⟨(by first | rfl | trivial), (by first | rfl | trivial)⟩, (by first | rfl | trivial), ?_⟩
      show wkMem _ (_ :: ⟨bo, .row 1 [accV b_ 7 (o :: os ++ [_])] 0⟩ :: _ :: _ :: accM b_ 7 (o :: os ++ [_]))
      rw [accV_more, accM_more]
      (first | exact ⟨_, .refl _⟩ | exact wkMem.rfl' | exact ⟨_, .swap _ _ _⟩ | (repeat (first | exact wkMem.nil _ | exact wkMem.rfl' | exact wk_snoc _ _ _ | exact wk_fam (by assumption) _ _ _ | exact wk_famN (by assumption) _ _ _ | (apply wkMem.cons; (case' hl => (repeat (first | exact .here _ _ _ | apply Look.there)))) | apply wkMem.skip)))
  · rw [if_neg h1, if_neg h2, if_neg h3, if_neg h4, List.map_nil, List.append_nil]
    obtain ⟨a, m, mi, p, t, l, la⟩ := s
    simp only [rS_eq, rO, rG, rN] at *
    subst ha
    refine acalls_of_vc (DM_ok (by decide)) Tryd.func36 rfl (by decide) (by decide) rfl ?_
    (refine g0_ ?_; repeat ((first | refine n1_ fun b_ => ?_ | refine n2_ fun b_ => ?_); refine g0_ ?_))
    (refine g1_ ?_; repeat ((first | refine n1_ fun b_ => ?_ | refine n2_ fun b_ => ?_); refine g1_ ?_))
    refine ACalls.lend (ref_ground W bs pv ⟨1, m, mi, p, t, l, la⟩) (Look.perm (by repeat (first | exact .here _ _ _ | apply Look.there))) ?_
    rintro _ -
    (refine g0_ ?_; repeat ((first | refine n1_ fun b_ => ?_ | refine n2_ fun b_ => ?_); refine g0_ ?_))
    exact ⟨(c, .nils), .inr ⟨(by first | rfl | trivial), (by first | rfl | trivial)⟩, (by first | rfl | trivial), by (first | exact ⟨_, .refl _⟩ | exact wkMem.rfl' | exact ⟨_, .swap _ _ _⟩ | (repeat (first | exact wkMem.nil _ | exact wkMem.rfl' | exact wk_snoc _ _ _ | exact wk_fam (by assumption) _ _ _ | exact wk_famN (by assumption) _ _ _ | (apply wkMem.cons; (case' hl => (repeat (first | exact .here _ _ _ | apply Look.there)))) | apply wkMem.skip)))⟩
theorem one_middle (bs bo bg bn c : Nat) (pv : PV) (os : List PV) (s : PSt) (b : UInt8) (hos : os.all cellsB = true) (hn : os.length ≤ 90000) (ha : s.at_ = 2) (hm : s.middle ≠ []) (hml : s.middle.length ≤ 2) (hc : ctlB b = false) : One W bs bo bg bn c pv os s b (midL s b) := by
  have hlt := b.toNat_lt
  unfold One
  have hcb : ¬ (b.toNat < 32 ∨ b.toNat = 127) := fun h => by rw [(ctlB_iff b).2 h] at hc; cases hc
  have hm1 : 0 < s.middle.length := List.length_pos_iff.2 hm
  rw [midL, hc, if_neg (by simp)]
  by_cases h1 : b.toNat < 48
  · by_cases h2 : s.middle.length < 2
    · rw [if_pos ⟨h1, h2⟩, List.map_nil, List.append_nil]
      obtain ⟨a, m, mi, p, t, l, la⟩ := s
      simp only [rS_eq, rO, rG, rN] at *
      (try dsimp only at h2 hm1 hml)
      subst ha
      refine acalls_of_vc (DM_ok (by decide)) Tryd.func36 rfl (by decide) (by decide) rfl ?_
      (refine g0_ ?_; repeat ((first | refine n1_ fun b_ => ?_ | refine n2_ fun b_ => ?_); refine g0_ ?_))
      (refine g1_ ?_; repeat ((first | refine n1_ fun b_ => ?_ | refine n2_ fun b_ => ?_); refine g1_ ?_))
      refine .inl ?_
      (refine g0_ ?_; repeat ((first | refine n1_ fun b_ => ?_ | refine n2_ fun b_ => ?_); refine g0_ ?_))
      refine ⟨[(b.toNat : Int)], rfl, ?_⟩
      rw [u8_back]
      (refine g0_ ?_; repeat ((first | refine n1_ fun b_ => ?_ | refine n2_ fun b_ => ?_); refine g0_ ?_))
      exact ⟨(c, pv), .inl ⟨(by first | rfl | trivial), (by first | rfl | trivial)⟩, (by first | rfl | trivial), by (first | exact ⟨_, .refl _⟩ | exact wkMem.rfl' | exact ⟨_, .swap _ _ _⟩ | (repeat (first | exact wkMem.nil _ | exact wkMem.rfl' | exact wk_snoc _ _ _ | exact wk_fam (by assumption) _ _ _ | exact wk_famN (by assumption) _ _ _ | (apply wkMem.cons; (case' hl => (repeat (first | exact .here _ _ _ | apply Look.there)))) | apply wkMem.skip)))⟩
    · rw [if_neg (fun h => h2 h.2), if_neg (by omega), List.map_nil, List.append_nil]
      obtain ⟨a, m, mi, p, t, l, la⟩ := s
      simp only [rS_eq, rO, rG, rN] at *
      (try dsimp only at h2 hm1 hml)
      subst ha
      refine acalls_of_vc (DM_ok (by decide)) Tryd.func36 rfl (by decide) (by decide) rfl ?_
      (refine g0_ ?_; repeat ((first | refine n1_ fun b_ => ?_ | refine n2_ fun b_ => ?_); refine g0_ ?_))
      (refine g1_ ?_; repeat ((first | refine n1_ fun b_ => ?_ | refine n2_ fun b_ => ?_); refine g1_ ?_))
      refine ACalls.lend (ref_ground W bs pv ⟨2, m, mi, p, t, l, la⟩) (Look.perm (by repeat (first | exact .here _ _ _ | apply Look.there))) ?_
      rintro _ -
      (refine g0_ ?_; repeat ((first | refine n1_ fun b_ => ?_ | refine n2_ fun b_ => ?_); refine g0_ ?_))
      exact ⟨(c, .nils), .inr ⟨(by first | rfl | trivial), (by first | rfl | trivial)⟩, (by first | rfl | trivial), by (first | exact ⟨_, .refl _⟩ | exact wkMem.rfl' | exact ⟨_, .swap _ _ _⟩ | (repeat (first | exact wkMem.nil _ | exact wkMem.rfl' | exact wk_snoc _ _ _ | exact wk_fam (by assumption) _ _ _ | exact wk_famN (by assumption) _ _ _ | (apply wkMem.cons; (case' hl => (repeat (first | exact .here _ _ _ | apply Look.there)))) | apply wkMem.skip)))⟩
  · rw [if_neg (fun h => h1 h.1)]
    by_cases h3 : b.toNat < 127
    · rw [if_pos ⟨by omega, h3⟩]
      obtain ⟨a, m, mi, p, t, l, la⟩ := s
      simp only [rS_eq, rO, rG, rN] at *
      (try dsimp only at hm1 hml)
      subst ha
      rcases os with _ | ⟨o, os⟩
      · simp only [accV, accM]
        refine acalls_of_vc (DM_ok (by decide)) Tryd.func36 rfl (by decide) (by decide) rfl ?_
        (refine g0_ ?_; repeat ((first | refine n1_ fun b_ => ?_ | refine n2_ fun b_ => ?_); refine g0_ ?_))
        (refine g1_ ?_; repeat ((first | refine n1_ fun b_ => ?_ | refine n2_ fun b_ => ?_); refine g1_ ?_))
        refine .inl ?_
        (refine g0_ ?_; repeat ((first | refine n1_ fun b_ => ?_ | refine n2_ fun b_ => ?_); refine g0_ ?_))
        refine ACalls.lend (ref_ground W bs pv ⟨2, m, mi, p, t, l, la⟩) (Look.perm (by repeat (first | exact .here _ _ _ | apply Look.there))) ?_
        rintro _ -
        (refine g0_ ?_; repeat ((first | refine n1_ fun b_ => ?_ | refine n2_ fun b_ => ?_); refine g0_ ?_))
        exact ⟨(b_, .nils), .inr ⟨(by first | rfl | trivial), (by first | rfl | trivial)⟩, (by first | rfl | trivial), by (first | exact ⟨_, .refl _⟩ | exact wkMem.rfl' | exact ⟨_, .swap _ _ _⟩ | (repeat (first | exact wkMem.nil _ | exact wkMem.rfl' | exact wk_snoc _ _ _ | exact wk_fam (by assumption) _ _ _ | exact wk_famN (by assumption) _ _ _ | (apply wkMem.cons; (case' hl => (repeat (first | exact .here _ _ _ | apply Look.there)))) | apply wkMem.skip)))⟩
      · simp only [List.length_cons] at hn
        simp only [accV, accM]
        refine acalls_of_vc (DM_ok (by decide)) Tryd.func36 rfl (by decide) (by decide) rfl ?_
        (refine g0_ ?_; repeat ((first | refine n1_ fun b_ => ?_ | refine n2_ fun b_ => ?_); refine g0_ ?_))
        (refine g1_ ?_; repeat ((first | refine n1_ fun b_ => ?_ | refine n2_ fun b_ => ?_); refine g1_ ?_))
        refine .inl ?_
        (refine g0_ ?_; repeat ((first | refine n1_ fun b_ => ?_ | refine n2_ fun b_ => ?_); refine g0_ ?_))
        refine ACalls.lend (ref_ground W bs pv ⟨2, m, mi, p, t, l, la⟩) (Look.perm (by repeat (first | exact .here _ _ _ | apply Look.there))) ?_
        rintro _ -
        (refine g0_ ?_; repeat ((first | refine n1_ fun b_ => ?_ | refine n2_ fun b_ => ?_); refine g0_ ?_))
        refine ⟨(b_, .nils), .inr ⟨(by first | rfl | trivial), (by first | rfl | trivial)⟩, (by first | rfl | trivial), ?_⟩
        show wkMem _ (_ :: ⟨bo, .row 1 [accV b_ 7 (o :: os ++ [_])] 0⟩ :: _ :: _ :: accM b_ 7 (o :: os ++ [_]))
        rw [accV_more, accM_more]
        (first | exact ⟨_, .refl _⟩ | exact wkMem.rfl' | exact ⟨_, .swap _ _ _⟩ | (repeat (first | exact wkMem.nil _ | exact wkMem.rfl' | exact wk_snoc _ _ _ | exact wk_fam (by assumption) _ _ _ | exact wk_famN (by assumption) _ _ _ | (apply wkMem.cons; (case' hl => (repeat (first | exact .here _ _ _ | apply Look.there)))) | apply wkMem.skip)))
    · rw [if_neg (fun h => h3 h.2), List.map_nil, List.append_nil]
      obtain ⟨a, m, mi, p, t, l, la⟩ := s
      simp only [rS_eq, rO, rG, rN] at *
      (try dsimp only at hm1 hml)
      subst ha
      refine acalls_of_vc (DM_ok (by decide)) Tryd.func36 rfl (by decide) (by decide) rfl ?_
      (refine g0_ ?_; repeat ((first | refine n1_ fun b_ => ?_ | refine n2_ fun b_ => ?_); refine g0_ ?_))
      (refine g1_ ?_; repeat ((first | refine n1_ fun b_ => ?_ | refine n2_ fun b_ => ?_); refine g1_ ?_))
      refine ACalls.lend (ref_ground W bs pv ⟨2, m, mi, p, t, l, la⟩) (Look.perm (by repeat (first | exact .here _ _ _ | apply Look.there))) ?_
      rintro _ -
      (refine g0_ ?_; repeat ((first | refine n1_ fun b_ => ?_ | refine n2_ fun b_ => ?_); refine g0_ ?_))
      exact ⟨(c, .nils), .inr ⟨(by first | rfl | trivial), (by first | rfl | trivial)⟩, (by first | rfl | trivial), by (first | exact ⟨_, .refl _⟩ | exact wkMem.rfl' | exact ⟨_, .swap _ _ _⟩ | (repeat (first | exact wkMem.nil _ | exact wkMem.rfl' | exact wk_snoc _ _ _ | exact wk_fam (by assumption) _ _ _ | exact wk_famN (by assumption) _ _ _ | (apply wkMem.cons; (case' hl => (repeat (first | exact .here _ _ _ | apply Look.there)))) | apply wkMem.skip)))⟩
theorem one_skip (bs bo bg bn c : Nat) (pv : PV) (os : List PV) (s : PSt) (b : UInt8) (ha : s.at_ = 5) (hc : ctlB b = false) : One W bs bo bg bn c pv os s b (skipL s b) := by
  have hlt := b.toNat_lt
  unfold One
  have hcb : ¬ (b.toNat < 32 ∨ b.toNat = 127) := fun h => by rw [(ctlB_iff b).2 h] at hc; cases hc
  rw [skipL, hc, if_neg (by simp)]
  by_cases h1 : 64 ≤ b.toNat
  · rw [if_pos h1, List.map_nil, List.append_nil]
    obtain ⟨a, m, mi, p, t, l, la⟩ := s
    simp only [rS_eq, rO, rG, rN] at *
    subst ha
    refine acalls_of_vc (DM_ok (by decide)) Tryd.func36 rfl (by decide) (by decide) rfl ?_
    (refine g0_ ?_; repeat ((first | refine n1_ fun b_ => ?_ | refine n2_ fun b_ => ?_); refine g0_ ?_))
    (refine g1_ ?_; repeat ((first | refine n1_ fun b_ => ?_ | refine n2_ fun b_ => ?_); refine g1_ ?_))
    refine ACalls.lend (ref_ground W bs pv ⟨5, m, mi, p, t, l, la⟩) (Look.perm (by repeat (first | exact .here _ _ _ | apply Look.there))) ?_
    rintro _ -
    (refine g0_ ?_; repeat ((first | refine n1_ fun b_ => ?_ | refine n2_ fun b_ => ?_); refine g0_ ?_))
    exact ⟨(c, .nils), .inr ⟨(by first | rfl | trivial), (by first | rfl | trivial)⟩, (by first | rfl | trivial), by (first | exact ⟨_, .refl _⟩ | exact wkMem.rfl' | exact ⟨_, .swap _ _ _⟩ | (repeat (first | exact wkMem.nil _ | exact wkMem.rfl' | exact wk_snoc _ _ _ | exact wk_fam (by assumption) _ _ _ | exact wk_famN (by assumption) _ _ _ | (apply wkMem.cons; (case' hl => (repeat (first | exact .here _ _ _ | apply Look.there)))) | apply wkMem.skip)))⟩
  · rw [if_neg h1, List.map_nil, List.append_nil]
    obtain ⟨a, m, mi, p, t, l, la⟩ := s
    simp only [rS_eq, rO, rG, rN] at *
    subst ha
    refine acalls_of_vc (DM_ok (by decide)) Tryd.func36 rfl (by decide) (by decide) rfl ?_
    (refine g0_ ?_; repeat ((first | refine n1_ fun b_ => ?_ | refine n2_ fun b_ => ?_); refine g0_ ?_))
    (refine g1_ ?_; repeat ((first | refine n1_ fun b_ => ?_ | refine n2_ fun b_ => ?_); refine g1_ ?_))
    exact ⟨(c, pv), .inl ⟨(by first | rfl | trivial), (by first | rfl | trivial)⟩, (by first | rfl | trivial), by (first | exact ⟨_, .refl _⟩ | exact wkMem.rfl' | exact ⟨_, .swap _ _ _⟩ | (repeat (first | exact wkMem.nil _ | exact wkMem.rfl' | exact wk_snoc _ _ _ | exact wk_fam (by assumption) _ _ _ | exact wk_famN (by assumption) _ _ _ | (apply wkMem.cons; (case' hl => (repeat (first | exact .here _ _ _ | apply Look.there)))) | apply wkMem.skip)))⟩
/-- What waits is told byte by byte. -/
def fffd : PV := evV .nils (printE 65533)
theorem fffd_more (os : List PV) (i : Nat) : os ++ List.replicate (i + 1) fffd = (os ++ List.replicate i fffd) ++ [fffd] := by
  rw [List.append_assoc, List.replicate_succ']
theorem fffd_all (os : List PV) (l : List UInt8) : os ++ List.replicate l.length fffd = os ++ (l.map (fun _ => printE 65533)).map (evV .nils) := by
  congr 1
  rw [List.map_map]
  induction l with
  | nil => rfl
  | cons c l ih => rw [List.length_cons, List.replicate_succ, ih]; rfl
/-- The same as accV, with the length by itself. -/
def accN (b n : Nat) : List PV → PV
  | [] => .nils
  | _ :: _ => .rsl b 7 0 n
theorem accN_self (b : Nat) (os : List PV) : accV b 7 os = accN b os.length os := by cases os <;> rfl
theorem one_ctl (bs bo bg bn c : Nat) (pv : PV) (os : List PV) (s : PSt) (b : UInt8) (hos : os.all cellsB = true) (hn : os.length ≤ 90000) (ha : s.at_ ≠ 4) (hll : s.left.length ≤ 3) (hc : ctlB b = true) : One W bs bo bg bn c pv os s b (groundL s b) := by
  have hlt := b.toNat_lt
  have hcb := (ctlB_iff b).1 hc
  unfold One
  rw [groundL, if_pos hc]
  obtain ⟨a, m, mi, p, t, l, la⟩ := s
  (try dsimp only at ha hll ⊢)
  rw [List.map_append, ← List.append_assoc, ← fffd_all]
  rw [accN_self c os]
  simp only [rS_eq, rO, rG, rN] at *
  refine acalls_of_vc (DM_ok (by decide)) Tryd.func36 rfl (by decide) (by decide) rfl ?_
  (refine g0_ ?_; repeat ((first | refine n1_ fun b_ => ?_ | refine n2_ fun b_ => ?_); refine g0_ ?_))
  (refine g1_ ?_; repeat ((first | refine n1_ fun b_ => ?_ | refine n2_ fun b_ => ?_); refine g1_ ?_))
  refine' loopI (α := Nat × (List PV) × Nat × Nat) (fun (i, os', n, c') => [(81, .int .i64 i)]) [(0, _), (1, _), (2, _), (3, _), (80, _)] (fun (i, os', n, c') => ⟨bs, .row 7 [.agg [.int .i64 a, .int .u8 m.toNat, .str mi, pv, .str t, .str l, .bool la]] 0⟩ :: ⟨bo, .row 1 [accN c' n os'] 0⟩ :: ⟨bg, .row 1 [.fn 35 [.bref bs 0]] 0⟩ :: ⟨bn, .row 1 [.fn 36 [.bref bs 0, .bref bo 0, .bref bg 0, .bref bn 0]] 0⟩ :: accM c' 7 os') (fun (i, os', n, c') => i ≤ l.length ∧ os' = os ++ List.replicate i fffd ∧ n = os'.length) (fun (i, os', n, c') => l.length - i) (0, os, os.length, c) ?_ ?_
  · exact ⟨Nat.zero_le _, by simp, rfl⟩
  rintro ⟨i, os', n, c'⟩ ⟨hi, ho, hn'⟩
  (refine g0_ ?_; repeat ((first | refine n1_ fun b_ => ?_ | refine n2_ fun b_ => ?_); refine g0_ ?_))
  refine brec ?_; intro c_ h; (try rw [h]); cases c_ <;> replace h := nm_ h
  · have hil : i = l.length := by omega
    have hlo : os'.length ≤ 90010 := by rw [ho, List.length_append, List.length_replicate]; omega
    rw [hil] at ho
    rw [← ho]
    clear ho
    subst hn'
    simp only [← accN_self]
    by_cases h1 : b.toNat = 27
    · rw [ctlL, if_pos h1, List.map_nil, List.append_nil]
      (refine g0_ ?_; repeat ((first | refine n1_ fun b_ => ?_ | refine n2_ fun b_ => ?_); refine g0_ ?_))
      (refine g1_ ?_; repeat ((first | refine n1_ fun b_ => ?_ | refine n2_ fun b_ => ?_); refine g1_ ?_))
      exact ⟨(c', .nils), .inr ⟨(by first | rfl | trivial), (by first | rfl | trivial)⟩, (by first | rfl | trivial), by (first | exact ⟨_, .refl _⟩ | exact wkMem.rfl' | exact ⟨_, .swap _ _ _⟩ | (repeat (first | exact wkMem.nil _ | exact wkMem.rfl' | exact wk_snoc _ _ _ | exact wk_fam (by assumption) _ _ _ | exact wk_famN (by assumption) _ _ _ | (apply wkMem.cons; (case' hl => (repeat (first | exact .here _ _ _ | apply Look.there)))) | apply wkMem.skip)))⟩
    by_cases h2 : b.toNat = 24 ∨ b.toNat = 26
    · rw [ctlL, if_neg h1, if_pos h2, List.map_nil, List.append_nil]
      rcases h2 with h2 | h2
      all_goals
        (refine g0_ ?_; repeat ((first | refine n1_ fun b_ => ?_ | refine n2_ fun b_ => ?_); refine g0_ ?_))
        (refine g1_ ?_; repeat ((first | refine n1_ fun b_ => ?_ | refine n2_ fun b_ => ?_); refine g1_ ?_))
        refine ACalls.lend (ref_ground W bs pv ⟨a, m, mi, p, t, [], la⟩) (Look.perm (by repeat (first | exact .here _ _ _ | apply Look.there))) ?_
        rintro _ -
        (refine g0_ ?_; repeat ((first | refine n1_ fun b_ => ?_ | refine n2_ fun b_ => ?_); refine g0_ ?_))
        exact ⟨(c', .nils), .inr ⟨(by first | rfl | trivial), (by first | rfl | trivial)⟩, (by first | rfl | trivial), by (first | exact ⟨_, .refl _⟩ | exact wkMem.rfl' | exact ⟨_, .swap _ _ _⟩ | (repeat (first | exact wkMem.nil _ | exact wkMem.rfl' | exact wk_snoc _ _ _ | exact wk_fam (by assumption) _ _ _ | exact wk_famN (by assumption) _ _ _ | (apply wkMem.cons; (case' hl => (repeat (first | exact .here _ _ _ | apply Look.there)))) | apply wkMem.skip)))⟩
    by_cases h3 : b.toNat < 32
    · rw [ctlL, if_neg h1, if_neg h2, if_pos h3]
      rcases os' with _ | ⟨o, os'⟩
      · simp only [accV, accM]
        (refine g0_ ?_; repeat ((first | refine n1_ fun b_ => ?_ | refine n2_ fun b_ => ?_); refine g0_ ?_))
        (refine g1_ ?_; repeat ((first | refine n1_ fun b_ => ?_ | refine n2_ fun b_ => ?_); refine g1_ ?_))
        refine .inl ?_
        (refine g0_ ?_; repeat ((first | refine n1_ fun b_ => ?_ | refine n2_ fun b_ => ?_); refine g0_ ?_))
        exact ⟨(b_, pv), .inl ⟨(by first | rfl | trivial), (by first | rfl | trivial)⟩, (by first | rfl | trivial), by (first | exact ⟨_, .refl _⟩ | exact wkMem.rfl' | exact ⟨_, .swap _ _ _⟩ | (repeat (first | exact wkMem.nil _ | exact wkMem.rfl' | exact wk_snoc _ _ _ | exact wk_fam (by assumption) _ _ _ | exact wk_famN (by assumption) _ _ _ | (apply wkMem.cons; (case' hl => (repeat (first | exact .here _ _ _ | apply Look.there)))) | apply wkMem.skip)))⟩
      · simp only [List.length_cons] at hlo
        simp only [accV, accM]
        (refine g0_ ?_; repeat ((first | refine n1_ fun b_ => ?_ | refine n2_ fun b_ => ?_); refine g0_ ?_))
        (refine g1_ ?_; repeat ((first | refine n1_ fun b_ => ?_ | refine n2_ fun b_ => ?_); refine g1_ ?_))
        refine .inl ?_
        (refine g0_ ?_; repeat ((first | refine n1_ fun b_ => ?_ | refine n2_ fun b_ => ?_); refine g0_ ?_))
        refine ⟨(b_, pv), .inl ⟨(by first | rfl | trivial), (by first | rfl | trivial)⟩, (by first | rfl | trivial), ?_⟩
        show wkMem _ (_ :: ⟨bo, .row 1 [accV b_ 7 (o :: os' ++ [_])] 0⟩ :: _ :: _ :: accM b_ 7 (o :: os' ++ [_]))
        rw [accV_more, accM_more]
        (first | exact ⟨_, .refl _⟩ | exact wkMem.rfl' | exact ⟨_, .swap _ _ _⟩ | (repeat (first | exact wkMem.nil _ | exact wkMem.rfl' | exact wk_snoc _ _ _ | exact wk_fam (by assumption) _ _ _ | exact wk_famN (by assumption) _ _ _ | (apply wkMem.cons; (case' hl => (repeat (first | exact .here _ _ _ | apply Look.there)))) | apply wkMem.skip)))
    · rw [ctlL, if_neg h1, if_neg h2, if_neg h3, List.map_nil, List.append_nil]
      (refine g0_ ?_; repeat ((first | refine n1_ fun b_ => ?_ | refine n2_ fun b_ => ?_); refine g0_ ?_))
      (refine g1_ ?_; repeat ((first | refine n1_ fun b_ => ?_ | refine n2_ fun b_ => ?_); refine g1_ ?_))
      exact ⟨(c', pv), .inl ⟨(by first | rfl | trivial), (by first | rfl | trivial)⟩, (by first | rfl | trivial), by (first | exact ⟨_, .refl _⟩ | exact wkMem.rfl' | exact ⟨_, .swap _ _ _⟩ | (repeat (first | exact wkMem.nil _ | exact wkMem.rfl' | exact wk_snoc _ _ _ | exact wk_fam (by assumption) _ _ _ | exact wk_famN (by assumption) _ _ _ | (apply wkMem.cons; (case' hl => (repeat (first | exact .here _ _ _ | apply Look.there)))) | apply wkMem.skip)))⟩
  · have hlo : os'.length ≤ 90010 := by rw [ho, List.length_append, List.length_replicate]; omega
    have hne := fffd_more os i
    rw [← ho] at hne
    rcases os' with _ | ⟨o, os'⟩
    · simp only [accN, accM]
      (refine g0_ ?_; repeat ((first | refine n1_ fun b_ => ?_ | refine n2_ fun b_ => ?_); refine g0_ ?_))
      refine .inl ?_
      (refine g0_ ?_; repeat ((first | refine n1_ fun b_ => ?_ | refine n2_ fun b_ => ?_); refine g0_ ?_))
      refine nx_ (i + 1, [fffd], 1, b_) ?_ ?_
      · exact ⟨by omega, by rw [hne]; rfl, rfl⟩
      · ((try dsimp only); (try simp only [List.length_drop, List.length_take, List.length_append, List.length_cons, List.length_nil, List.length_map] at *); omega)
    · simp only [List.length_cons] at hlo hn'
      simp only [accN, accM]
      (refine g0_ ?_; repeat ((first | refine n1_ fun b_ => ?_ | refine n2_ fun b_ => ?_); refine g0_ ?_))
      refine .inl ?_
      (refine g0_ ?_; repeat ((first | refine n1_ fun b_ => ?_ | refine n2_ fun b_ => ?_); refine g0_ ?_))
      refine nx_ (i + 1, o :: os' ++ [fffd], n + 1, b_) ?_ ?_
      · exact ⟨by omega, by rw [hne], by simp [hn']⟩
      · ((try dsimp only); (try simp only [List.length_drop, List.length_take, List.length_append, List.length_cons, List.length_nil, List.length_map] at *); omega)
end Go.Eng.YtkcldifniomfoaaDoor
end

/- The document's reader: on the ground, in commands of the system (b_ x_ q_ e_). -/
section
namespace Go.Eng.YtkcldifniomfoaaDoor
open Go Go.Eng Go.Proofs
variable (W : World)
set_option linter.unusedSimpArgs false
set_option maxRecDepth 100000
set_option linter.unusedVariables false
set_option maxHeartbeats 8000000
theorem one_ground (hT : Tabs W) (bs bo bg bn c : Nat) (pv : PV) (os : List PV) (s : PSt) (b : UInt8) (hos : os.all cellsB = true) (hn : os.length ≤ 90000) (ha : s.at_ = 0) (hl : s.left = [] ∨ fullL s.left = false) (hll : s.left.length ≤ 3) (hc : ctlB b = false) : One W bs bo bg bn c pv os s b (groundL s b) := by
  have hlt := b.toNat_lt
  have hcb : ¬ (b.toNat < 32 ∨ b.toNat = 127) := fun h => by rw [(ctlB_iff b).2 h] at hc; cases hc
  unfold One
  rw [groundL, hc, if_neg (by simp)]
  have hfu := eatL_fuel (s.left.length + 1) (s.left ++ [b]) (by simp)
  rw [hfu]
  clear hfu
  have hLl : (s.left ++ [b]).length ≤ 4 := by simp; omega
  obtain ⟨a, m, mi, p, t, l, la⟩ := s
  dsimp only at *
  generalize hE : eatL (l ++ [b]).length (l ++ [b]) = E at *
  rw [accN_self c os]
  simp only [rS_eq, rO, rG, rN] at *
  subst ha
  refine acalls_of_vc (DM_ok (by decide)) Tryd.func36 rfl (by decide) (by decide) rfl ?_
  (refine g0_ ?_; repeat ((first | refine n1_ fun b_ => ?_ | refine n2_ fun b_ => ?_ | refine Nat1.mk fun q_ hq_ => ?_ | refine em_ fun x_ hx_ => ?_ | refine Elem1.mk fun e_ he_ => ?_); refine g0_ ?_))
  (refine g1_ ?_; repeat ((first | refine n1_ fun b_ => ?_ | refine n2_ fun b_ => ?_ | refine Nat1.mk fun q_ hq_ => ?_ | refine em_ fun x_ hx_ => ?_ | refine Elem1.mk fun e_ he_ => ?_); refine g1_ ?_))
  refine .inl ?_
  (refine g0_ ?_; repeat ((first | refine n1_ fun b_ => ?_ | refine n2_ fun b_ => ?_ | refine Nat1.mk fun q_ hq_ => ?_ | refine em_ fun x_ hx_ => ?_ | refine Elem1.mk fun e_ he_ => ?_); refine g0_ ?_))
  refine ⟨[(b.toNat : Int)], rfl, ?_⟩
  rw [u8_back]
  (refine g0_ ?_; repeat ((first | refine n1_ fun b_ => ?_ | refine n2_ fun b_ => ?_ | refine Nat1.mk fun q_ hq_ => ?_ | refine em_ fun x_ hx_ => ?_ | refine Elem1.mk fun e_ he_ => ?_); refine g0_ ?_))
  refine' loopI (α := (List UInt8) × (List PV) × Nat × Nat) (fun (L, os', n, c') => []) [(1, _), (2, _)] (fun (L, os', n, c') => ⟨bs, .row 7 [.agg [.int .i64 0, .int .u8 m.toNat, .str mi, pv, .str t, .str L, .bool la]] 0⟩ :: ⟨bo, .row 1 [accN c' n os'] 0⟩ :: ⟨bg, .row 1 [.fn 35 [.bref bs 0]] 0⟩ :: ⟨bn, .row 1 [.fn 36 [.bref bs 0, .bref bo 0, .bref bg 0, .bref bn 0]] 0⟩ :: accM c' 7 os') (fun (L, os', n, c') => Gr l b E os L os' ∧ n = os'.length) (fun (L, os', n, c') => L.length) (l ++ [b], os, os.length, c) ?_ ?_
  · exact ⟨Gr.init hLl hE, rfl⟩
  rintro ⟨L, os', n, c'⟩ ⟨hgr, hn'⟩
  have hcells := hgr.cells hos
  have hlen := hgr.len
  have hlen' := hgr.len'
  have hF1 := full_ok W hT L
  have hD1 := decodeRune_ok W hT L
  (refine g0_ ?_; repeat ((first | refine n1_ fun b_ => ?_ | refine n2_ fun b_ => ?_ | refine Nat1.mk fun q_ hq_ => ?_ | refine em_ fun x_ hx_ => ?_ | refine Elem1.mk fun e_ he_ => ?_); refine g0_ ?_))
  refine brec ?_; intro c_ hr; (try rw [hr]); cases c_ <;> replace hr := nm_ hr
  · have hst := hgr.stop (.inl hr)
    subst hn'
    simp only [← accN_self]
    rw [hst.2, hst.1]
    (refine g0_ ?_; repeat ((first | refine n1_ fun b_ => ?_ | refine n2_ fun b_ => ?_ | refine Nat1.mk fun q_ hq_ => ?_ | refine em_ fun x_ hx_ => ?_ | refine Elem1.mk fun e_ he_ => ?_); refine g0_ ?_))
    exact ⟨(c', pv), .inl ⟨(by first | rfl | trivial), (by first | rfl | trivial)⟩, (by first | rfl | trivial), by (first | exact ⟨_, .refl _⟩ | exact wkMem.rfl' | exact ⟨_, .swap _ _ _⟩ | (repeat (first | exact wkMem.nil _ | exact wkMem.rfl' | exact wk_snoc _ _ _ | exact wk_fam (by assumption) _ _ _ | exact wk_famN (by assumption) _ _ _ | (apply wkMem.cons; (case' hl => (repeat (first | exact .here _ _ _ | apply Look.there)))) | apply wkMem.skip)))⟩
  · have hd := dec_le L
    have hps := dec_pos L hr
    have hl0 : 0 < L.length := List.length_pos_iff.2 hr
    have hrg := dec_top L
    cases hfl : fullL L with
    | false =>
      rw [hfl] at hF1
      have hst := hgr.stop (.inr hfl)
      (refine g0_ ?_; repeat ((first | refine n1_ fun b_ => ?_ | refine n2_ fun b_ => ?_ | refine Nat1.mk fun q_ hq_ => ?_ | refine em_ fun x_ hx_ => ?_ | refine Elem1.mk fun e_ he_ => ?_); refine g0_ ?_))
      refine (hF1).use ?_; (refine g0_ ?_; repeat ((first | refine n1_ fun b_ => ?_ | refine n2_ fun b_ => ?_ | refine Nat1.mk fun q_ hq_ => ?_ | refine em_ fun x_ hx_ => ?_ | refine Elem1.mk fun e_ he_ => ?_); refine g0_ ?_))
      (refine g0_ ?_; repeat ((first | refine n1_ fun b_ => ?_ | refine n2_ fun b_ => ?_ | refine Nat1.mk fun q_ hq_ => ?_ | refine em_ fun x_ hx_ => ?_ | refine Elem1.mk fun e_ he_ => ?_); refine g0_ ?_))
      subst hn'
      simp only [← accN_self]
      rw [hst.2, hst.1]
      exact ⟨(c', pv), .inl ⟨(by first | rfl | trivial), (by first | rfl | trivial)⟩, (by first | rfl | trivial), by (first | exact ⟨_, .refl _⟩ | exact wkMem.rfl' | exact ⟨_, .swap _ _ _⟩ | (repeat (first | exact wkMem.nil _ | exact wkMem.rfl' | exact wk_snoc _ _ _ | exact wk_fam (by assumption) _ _ _ | exact wk_famN (by assumption) _ _ _ | (apply wkMem.cons; (case' hl => (repeat (first | exact .here _ _ _ | apply Look.there)))) | apply wkMem.skip)))⟩
    | true =>
      rw [hfl] at hF1
      (refine g0_ ?_; repeat ((first | refine n1_ fun b_ => ?_ | refine n2_ fun b_ => ?_ | refine Nat1.mk fun q_ hq_ => ?_ | refine em_ fun x_ hx_ => ?_ | refine Elem1.mk fun e_ he_ => ?_); refine g0_ ?_))
      refine (hF1).use ?_; (refine g0_ ?_; repeat ((first | refine n1_ fun b_ => ?_ | refine n2_ fun b_ => ?_ | refine Nat1.mk fun q_ hq_ => ?_ | refine em_ fun x_ hx_ => ?_ | refine Elem1.mk fun e_ he_ => ?_); refine g0_ ?_))
      (refine g0_ ?_; repeat ((first | refine n1_ fun b_ => ?_ | refine n2_ fun b_ => ?_ | refine Nat1.mk fun q_ hq_ => ?_ | refine em_ fun x_ hx_ => ?_ | refine Elem1.mk fun e_ he_ => ?_); refine g0_ ?_))
      refine (hD1).use ?_; (refine g0_ ?_; repeat ((first | refine n1_ fun b_ => ?_ | refine n2_ fun b_ => ?_ | refine Nat1.mk fun q_ hq_ => ?_ | refine em_ fun x_ hx_ => ?_ | refine Elem1.mk fun e_ he_ => ?_); refine g0_ ?_))
      (refine g0_ ?_; repeat ((first | refine n1_ fun b_ => ?_ | refine n2_ fun b_ => ?_ | refine Nat1.mk fun q_ hq_ => ?_ | refine em_ fun x_ hx_ => ?_ | refine Elem1.mk fun e_ he_ => ?_); refine g0_ ?_))
      have hnx := hgr.next hr hfl
      rcases os' with _ | ⟨o, os'⟩
      · simp only [accN, accM]
        (refine g0_ ?_; repeat ((first | refine n1_ fun b_ => ?_ | refine n2_ fun b_ => ?_ | refine Nat1.mk fun q_ hq_ => ?_ | refine em_ fun x_ hx_ => ?_ | refine Elem1.mk fun e_ he_ => ?_); refine g0_ ?_))
        refine .inl ?_
        (refine g0_ ?_; repeat ((first | refine n1_ fun b_ => ?_ | refine n2_ fun b_ => ?_ | refine Nat1.mk fun q_ hq_ => ?_ | refine em_ fun x_ hx_ => ?_ | refine Elem1.mk fun e_ he_ => ?_); refine g0_ ?_))
        refine nx_ (L.drop (dec L).2, [evV .nils (printE (dec L).1)], 1, b_) ?_ ?_
        · exact ⟨hnx, rfl⟩
        · ((try dsimp only); (try simp only [List.length_drop, List.length_take, List.length_append, List.length_cons, List.length_nil, List.length_map] at *); omega)
      · simp only [List.length_cons] at hlen hn'
        simp only [accN, accM]
        (refine g0_ ?_; repeat ((first | refine n1_ fun b_ => ?_ | refine n2_ fun b_ => ?_ | refine Nat1.mk fun q_ hq_ => ?_ | refine em_ fun x_ hx_ => ?_ | refine Elem1.mk fun e_ he_ => ?_); refine g0_ ?_))
        refine .inl ?_
        (refine g0_ ?_; repeat ((first | refine n1_ fun b_ => ?_ | refine n2_ fun b_ => ?_ | refine Nat1.mk fun q_ hq_ => ?_ | refine em_ fun x_ hx_ => ?_ | refine Elem1.mk fun e_ he_ => ?_); refine g0_ ?_))
        refine nx_ (L.drop (dec L).2, o :: os' ++ [evV .nils (printE (dec L).1)], n + 1, b_) ?_ ?_
        · exact ⟨hnx, by simp [hn']⟩
        · ((try dsimp only); (try simp only [List.length_drop, List.length_take, List.length_append, List.length_cons, List.length_nil, List.length_map] at *); omega)
theorem one_system (bs bo bg bn c : Nat) (pv : PV) (os : List PV) (s : PSt) (b : UInt8) (hos : os.all cellsB = true) (hn : os.length ≤ 90000) (ha : s.at_ = 4) (hml : s.text.length ≤ 64)
    (hes : One W bs bo bg bn c .nils os (stAt 1) b (escL (stAt 1) b)) : One W bs bo bg bn c pv os s b (sysL s b) := by
  have hlt := b.toNat_lt
  unfold One at *
  rw [sysL]
  obtain ⟨a, m, mi, p, t, l, la⟩ := s
  dsimp only at ha hml ⊢
  subst ha
  cases la with
  | true =>
    by_cases h1 : b.toNat = 92
    · rw [if_pos (.inl ⟨rfl, h1⟩)]
      simp only [rS_eq, rO, rG, rN] at *
      rcases os with _ | ⟨o, os⟩
      · simp only [accV, accM]
        refine acalls_of_vc (DM_ok (by decide)) Tryd.func36 rfl (by decide) (by decide) rfl ?_
        (refine g0_ ?_; repeat ((first | refine n1_ fun b_ => ?_ | refine n2_ fun b_ => ?_ | refine Nat1.mk fun q_ hq_ => ?_ | refine em_ fun x_ hx_ => ?_ | refine Elem1.mk fun e_ he_ => ?_); refine g0_ ?_))
        (refine g1_ ?_; repeat ((first | refine n1_ fun b_ => ?_ | refine n2_ fun b_ => ?_ | refine Nat1.mk fun q_ hq_ => ?_ | refine em_ fun x_ hx_ => ?_ | refine Elem1.mk fun e_ he_ => ?_); refine g1_ ?_))
        refine .inl ?_
        (refine g0_ ?_; repeat ((first | refine n1_ fun b_ => ?_ | refine n2_ fun b_ => ?_ | refine Nat1.mk fun q_ hq_ => ?_ | refine em_ fun x_ hx_ => ?_ | refine Elem1.mk fun e_ he_ => ?_); refine g0_ ?_))
        refine ACalls.lend (ref_ground W bs pv ⟨4, m, mi, p, t, l, true⟩) (Look.perm (by repeat (first | exact .here _ _ _ | apply Look.there))) ?_
        rintro _ -
        (refine g0_ ?_; repeat ((first | refine n1_ fun b_ => ?_ | refine n2_ fun b_ => ?_ | refine Nat1.mk fun q_ hq_ => ?_ | refine em_ fun x_ hx_ => ?_ | refine Elem1.mk fun e_ he_ => ?_); refine g0_ ?_))
        exact ⟨(b_, .nils), .inr ⟨(by first | rfl | trivial), (by first | rfl | trivial)⟩, (by first | rfl | trivial), by (first | exact ⟨_, .refl _⟩ | exact wkMem.rfl' | exact ⟨_, .swap _ _ _⟩ | (repeat (first | exact wkMem.nil _ | exact wkMem.rfl' | exact wk_snoc _ _ _ | exact wk_fam (by assumption) _ _ _ | exact wk_famN (by assumption) _ _ _ | (apply wkMem.cons; (case' hl => (repeat (first | exact .here _ _ _ | apply Look.there)))) | apply wkMem.skip)))⟩
      · simp only [List.length_cons] at hn
        simp only [accV, accM]
        refine acalls_of_vc (DM_ok (by decide)) Tryd.func36 rfl (by decide) (by decide) rfl ?_
        (refine g0_ ?_; repeat ((first | refine n1_ fun b_ => ?_ | refine n2_ fun b_ => ?_ | refine Nat1.mk fun q_ hq_ => ?_ | refine em_ fun x_ hx_ => ?_ | refine Elem1.mk fun e_ he_ => ?_); refine g0_ ?_))
        (refine g1_ ?_; repeat ((first | refine n1_ fun b_ => ?_ | refine n2_ fun b_ => ?_ | refine Nat1.mk fun q_ hq_ => ?_ | refine em_ fun x_ hx_ => ?_ | refine Elem1.mk fun e_ he_ => ?_); refine g1_ ?_))
        refine .inl ?_
        (refine g0_ ?_; repeat ((first | refine n1_ fun b_ => ?_ | refine n2_ fun b_ => ?_ | refine Nat1.mk fun q_ hq_ => ?_ | refine em_ fun x_ hx_ => ?_ | refine Elem1.mk fun e_ he_ => ?_); refine g0_ ?_))
        refine ACalls.lend (ref_ground W bs pv ⟨4, m, mi, p, t, l, true⟩) (Look.perm (by repeat (first | exact .here _ _ _ | apply Look.there))) ?_
        rintro _ -
        (refine g0_ ?_; repeat ((first | refine n1_ fun b_ => ?_ | refine n2_ fun b_ => ?_ | refine Nat1.mk fun q_ hq_ => ?_ | refine em_ fun x_ hx_ => ?_ | refine Elem1.mk fun e_ he_ => ?_); refine g0_ ?_))
        refine ⟨(b_, .nils), .inr ⟨(by first | rfl | trivial), (by first | rfl | trivial)⟩, (by first | rfl | trivial), ?_⟩
        show wkMem _ (_ :: ⟨bo, .row 1 [accV b_ 7 (o :: os ++ [_])] 0⟩ :: _ :: _ :: accM b_ 7 (o :: os ++ [_]))
        rw [accV_more, accM_more]
        (first | exact ⟨_, .refl _⟩ | exact wkMem.rfl' | exact ⟨_, .swap _ _ _⟩ | (repeat (first | exact wkMem.nil _ | exact wkMem.rfl' | exact wk_snoc _ _ _ | exact wk_fam (by assumption) _ _ _ | exact wk_famN (by assumption) _ _ _ | (apply wkMem.cons; (case' hl => (repeat (first | exact .here _ _ _ | apply Look.there)))) | apply wkMem.skip)))
    · rw [if_neg (by simp [h1]), if_pos rfl]
      generalize escL (stAt 1) b = q at *
      rw [show stAt 1 = ⟨1, 0, [], [], [], [], false⟩ from rfl] at hes
      simp only [rS_eq, rO, rG, rN] at *
      refine acalls_of_vc (DM_ok (by decide)) Tryd.func36 rfl (by decide) (by decide) rfl ?_
      (refine g0_ ?_; repeat ((first | refine n1_ fun b_ => ?_ | refine n2_ fun b_ => ?_ | refine Nat1.mk fun q_ hq_ => ?_ | refine em_ fun x_ hx_ => ?_ | refine Elem1.mk fun e_ he_ => ?_); refine g0_ ?_))
      refine brec ?_; intro c_ h9; (try rw [h9]); cases c_ <;> replace h9 := nm_ h9
      · (refine g0_ ?_; repeat ((first | refine n1_ fun b_ => ?_ | refine n2_ fun b_ => ?_ | refine Nat1.mk fun q_ hq_ => ?_ | refine em_ fun x_ hx_ => ?_ | refine Elem1.mk fun e_ he_ => ?_); refine g0_ ?_))
        refine ACalls.all_ hes ?_
        rintro v σ1 ⟨⟨b', pv'⟩, hx, rfl, hm⟩
        refine ⟨_, hm, ?_⟩
        (refine g0_ ?_; repeat ((first | refine n1_ fun b_ => ?_ | refine n2_ fun b_ => ?_ | refine Nat1.mk fun q_ hq_ => ?_ | refine em_ fun x_ hx_ => ?_ | refine Elem1.mk fun e_ he_ => ?_); refine g0_ ?_))
        refine ⟨(b', .nils), .inr ⟨rfl, ?_⟩, (by first | rfl | trivial), ?_⟩
        · rcases hx with hx | hx
          · exact hx.2
          · exact hx.2
        · rcases hx with hx | hx
          · rw [show pv' = .nils from hx.1]; exact wkMem.rfl'
          · rw [show pv' = .nils from hx.1]; exact wkMem.rfl'
      · exfalso
        simp at h9
        omega
  | false =>
    by_cases h1 : b.toNat = 7
    · rw [if_pos (.inr ⟨rfl, h1⟩)]
      simp only [rS_eq, rO, rG, rN] at *
      rcases os with _ | ⟨o, os⟩
      · simp only [accV, accM]
        refine acalls_of_vc (DM_ok (by decide)) Tryd.func36 rfl (by decide) (by decide) rfl ?_
        (refine g0_ ?_; repeat ((first | refine n1_ fun b_ => ?_ | refine n2_ fun b_ => ?_ | refine Nat1.mk fun q_ hq_ => ?_ | refine em_ fun x_ hx_ => ?_ | refine Elem1.mk fun e_ he_ => ?_); refine g0_ ?_))
        (refine g1_ ?_; repeat ((first | refine n1_ fun b_ => ?_ | refine n2_ fun b_ => ?_ | refine Nat1.mk fun q_ hq_ => ?_ | refine em_ fun x_ hx_ => ?_ | refine Elem1.mk fun e_ he_ => ?_); refine g1_ ?_))
        refine .inl ?_
        (refine g0_ ?_; repeat ((first | refine n1_ fun b_ => ?_ | refine n2_ fun b_ => ?_ | refine Nat1.mk fun q_ hq_ => ?_ | refine em_ fun x_ hx_ => ?_ | refine Elem1.mk fun e_ he_ => ?_); refine g0_ ?_))
        refine ACalls.lend (ref_ground W bs pv ⟨4, m, mi, p, t, l, false⟩) (Look.perm (by repeat (first | exact .here _ _ _ | apply Look.there))) ?_
        rintro _ -
        (refine g0_ ?_; repeat ((first | refine n1_ fun b_ => ?_ | refine n2_ fun b_ => ?_ | refine Nat1.mk fun q_ hq_ => ?_ | refine em_ fun x_ hx_ => ?_ | refine Elem1.mk fun e_ he_ => ?_); refine g0_ ?_))
        exact ⟨(b_, .nils), .inr ⟨(by first | rfl | trivial), (by first | rfl | trivial)⟩, (by first | rfl | trivial), by (first | exact ⟨_, .refl _⟩ | exact wkMem.rfl' | exact ⟨_, .swap _ _ _⟩ | (repeat (first | exact wkMem.nil _ | exact wkMem.rfl' | exact wk_snoc _ _ _ | exact wk_fam (by assumption) _ _ _ | exact wk_famN (by assumption) _ _ _ | (apply wkMem.cons; (case' hl => (repeat (first | exact .here _ _ _ | apply Look.there)))) | apply wkMem.skip)))⟩
      · simp only [List.length_cons] at hn
        simp only [accV, accM]
        refine acalls_of_vc (DM_ok (by decide)) Tryd.func36 rfl (by decide) (by decide) rfl ?_
        (refine g0_ ?_; repeat ((first | refine n1_ fun b_ => ?_ | refine n2_ fun b_ => ?_ | refine Nat1.mk fun q_ hq_ => ?_ | refine em_ fun x_ hx_ => ?_ | refine Elem1.mk fun e_ he_ => ?_); refine g0_ ?_))
        (refine g1_ ?_; repeat ((first | refine n1_ fun b_ => ?_ | refine n2_ fun b_ => ?_ | refine Nat1.mk fun q_ hq_ => ?_ | refine em_ fun x_ hx_ => ?_ | refine Elem1.mk fun e_ he_ => ?_); refine g1_ ?_))
        refine .inl ?_
        (refine g0_ ?_; repeat ((first | refine n1_ fun b_ => ?_ | refine n2_ fun b_ => ?_ | refine Nat1.mk fun q_ hq_ => ?_ | refine em_ fun x_ hx_ => ?_ | refine Elem1.mk fun e_ he_ => ?_); refine g0_ ?_))
        refine ACalls.lend (ref_ground W bs pv ⟨4, m, mi, p, t, l, false⟩) (Look.perm (by repeat (first | exact .here _ _ _ | apply Look.there))) ?_
        rintro _ -
        (refine g0_ ?_; repeat ((first | refine n1_ fun b_ => ?_ | refine n2_ fun b_ => ?_ | refine Nat1.mk fun q_ hq_ => ?_ | refine em_ fun x_ hx_ => ?_ | refine Elem1.mk fun e_ he_ => ?_); refine g0_ ?_))
        refine ⟨(b_, .nils), .inr ⟨(by first | rfl | trivial), (by first | rfl | trivial)⟩, (by first | rfl | trivial), ?_⟩
        show wkMem _ (_ :: ⟨bo, .row 1 [accV b_ 7 (o :: os ++ [_])] 0⟩ :: _ :: _ :: accM b_ 7 (o :: os ++ [_]))
        rw [accV_more, accM_more]
        (first | exact ⟨_, .refl _⟩ | exact wkMem.rfl' | exact ⟨_, .swap _ _ _⟩ | (repeat (first | exact wkMem.nil _ | exact wkMem.rfl' | exact wk_snoc _ _ _ | exact wk_fam (by assumption) _ _ _ | exact wk_famN (by assumption) _ _ _ | (apply wkMem.cons; (case' hl => (repeat (first | exact .here _ _ _ | apply Look.there)))) | apply wkMem.skip)))
    rw [if_neg (by simp [h1]), if_neg (by simp)]
    by_cases h2 : b.toNat = 27
    · rw [if_pos h2, List.map_nil, List.append_nil]
      simp only [rS_eq, rO, rG, rN] at *
      refine acalls_of_vc (DM_ok (by decide)) Tryd.func36 rfl (by decide) (by decide) rfl ?_
      (refine g0_ ?_; repeat ((first | refine n1_ fun b_ => ?_ | refine n2_ fun b_ => ?_ | refine Nat1.mk fun q_ hq_ => ?_ | refine em_ fun x_ hx_ => ?_ | refine Elem1.mk fun e_ he_ => ?_); refine g0_ ?_))
      (refine g1_ ?_; repeat ((first | refine n1_ fun b_ => ?_ | refine n2_ fun b_ => ?_ | refine Nat1.mk fun q_ hq_ => ?_ | refine em_ fun x_ hx_ => ?_ | refine Elem1.mk fun e_ he_ => ?_); refine g1_ ?_))
      exact ⟨(c, pv), .inl ⟨(by first | rfl | trivial), (by first | rfl | trivial)⟩, (by first | rfl | trivial), by (first | exact ⟨_, .refl _⟩ | exact wkMem.rfl' | exact ⟨_, .swap _ _ _⟩ | (repeat (first | exact wkMem.nil _ | exact wkMem.rfl' | exact wk_snoc _ _ _ | exact wk_fam (by assumption) _ _ _ | exact wk_famN (by assumption) _ _ _ | (apply wkMem.cons; (case' hl => (repeat (first | exact .here _ _ _ | apply Look.there)))) | apply wkMem.skip)))⟩
    rw [if_neg h2]
    by_cases h3 : b.toNat = 24 ∨ b.toNat = 26
    · rw [if_pos h3, List.map_nil, List.append_nil]
      simp only [rS_eq, rO, rG, rN] at *
      rcases h3 with h3 | h3
      · refine acalls_of_vc (DM_ok (by decide)) Tryd.func36 rfl (by decide) (by decide) rfl ?_
        (refine g0_ ?_; repeat ((first | refine n1_ fun b_ => ?_ | refine n2_ fun b_ => ?_ | refine Nat1.mk fun q_ hq_ => ?_ | refine em_ fun x_ hx_ => ?_ | refine Elem1.mk fun e_ he_ => ?_); refine g0_ ?_))
        (refine g1_ ?_; repeat ((first | refine n1_ fun b_ => ?_ | refine n2_ fun b_ => ?_ | refine Nat1.mk fun q_ hq_ => ?_ | refine em_ fun x_ hx_ => ?_ | refine Elem1.mk fun e_ he_ => ?_); refine g1_ ?_))
        refine ACalls.lend (ref_ground W bs pv ⟨4, m, mi, p, t, l, false⟩) (Look.perm (by repeat (first | exact .here _ _ _ | apply Look.there))) ?_
        rintro _ -
        (refine g0_ ?_; repeat ((first | refine n1_ fun b_ => ?_ | refine n2_ fun b_ => ?_ | refine Nat1.mk fun q_ hq_ => ?_ | refine em_ fun x_ hx_ => ?_ | refine Elem1.mk fun e_ he_ => ?_); refine g0_ ?_))
        exact ⟨(c, .nils), .inr ⟨(by first | rfl | trivial), (by first | rfl | trivial)⟩, (by first | rfl | trivial), by (first | exact ⟨_, .refl _⟩ | exact wkMem.rfl' | exact ⟨_, .swap _ _ _⟩ | (repeat (first | exact wkMem.nil _ | exact wkMem.rfl' | exact wk_snoc _ _ _ | exact wk_fam (by assumption) _ _ _ | exact wk_famN (by assumption) _ _ _ | (apply wkMem.cons; (case' hl => (repeat (first | exact .here _ _ _ | apply Look.there)))) | apply wkMem.skip)))⟩
      · refine acalls_of_vc (DM_ok (by decide)) Tryd.func36 rfl (by decide) (by decide) rfl ?_
        (refine g0_ ?_; repeat ((first | refine n1_ fun b_ => ?_ | refine n2_ fun b_ => ?_ | refine Nat1.mk fun q_ hq_ => ?_ | refine em_ fun x_ hx_ => ?_ | refine Elem1.mk fun e_ he_ => ?_); refine g0_ ?_))
        (refine g1_ ?_; repeat ((first | refine n1_ fun b_ => ?_ | refine n2_ fun b_ => ?_ | refine Nat1.mk fun q_ hq_ => ?_ | refine em_ fun x_ hx_ => ?_ | refine Elem1.mk fun e_ he_ => ?_); refine g1_ ?_))
        refine ACalls.lend (ref_ground W bs pv ⟨4, m, mi, p, t, l, false⟩) (Look.perm (by repeat (first | exact .here _ _ _ | apply Look.there))) ?_
        rintro _ -
        (refine g0_ ?_; repeat ((first | refine n1_ fun b_ => ?_ | refine n2_ fun b_ => ?_ | refine Nat1.mk fun q_ hq_ => ?_ | refine em_ fun x_ hx_ => ?_ | refine Elem1.mk fun e_ he_ => ?_); refine g0_ ?_))
        exact ⟨(c, .nils), .inr ⟨(by first | rfl | trivial), (by first | rfl | trivial)⟩, (by first | rfl | trivial), by (first | exact ⟨_, .refl _⟩ | exact wkMem.rfl' | exact ⟨_, .swap _ _ _⟩ | (repeat (first | exact wkMem.nil _ | exact wkMem.rfl' | exact wk_snoc _ _ _ | exact wk_fam (by assumption) _ _ _ | exact wk_famN (by assumption) _ _ _ | (apply wkMem.cons; (case' hl => (repeat (first | exact .here _ _ _ | apply Look.there)))) | apply wkMem.skip)))⟩
    rw [if_neg h3]
    by_cases h4 : b.toNat < 32
    · rw [if_pos h4, List.map_nil, List.append_nil]
      simp only [rS_eq, rO, rG, rN] at *
      refine acalls_of_vc (DM_ok (by decide)) Tryd.func36 rfl (by decide) (by decide) rfl ?_
      (refine g0_ ?_; repeat ((first | refine n1_ fun b_ => ?_ | refine n2_ fun b_ => ?_ | refine Nat1.mk fun q_ hq_ => ?_ | refine em_ fun x_ hx_ => ?_ | refine Elem1.mk fun e_ he_ => ?_); refine g0_ ?_))
      (refine g1_ ?_; repeat ((first | refine n1_ fun b_ => ?_ | refine n2_ fun b_ => ?_ | refine Nat1.mk fun q_ hq_ => ?_ | refine em_ fun x_ hx_ => ?_ | refine Elem1.mk fun e_ he_ => ?_); refine g1_ ?_))
      exact ⟨(c, pv), .inl ⟨(by first | rfl | trivial), (by first | rfl | trivial)⟩, (by first | rfl | trivial), by (first | exact ⟨_, .refl _⟩ | exact wkMem.rfl' | exact ⟨_, .swap _ _ _⟩ | (repeat (first | exact wkMem.nil _ | exact wkMem.rfl' | exact wk_snoc _ _ _ | exact wk_fam (by assumption) _ _ _ | exact wk_famN (by assumption) _ _ _ | (apply wkMem.cons; (case' hl => (repeat (first | exact .here _ _ _ | apply Look.there)))) | apply wkMem.skip)))⟩
    rw [if_neg h4]
    by_cases h5 : t.length = 64
    · rw [if_pos h5, List.map_nil, List.append_nil]
      simp only [rS_eq, rO, rG, rN] at *
      refine acalls_of_vc (DM_ok (by decide)) Tryd.func36 rfl (by decide) (by decide) rfl ?_
      (refine g0_ ?_; repeat ((first | refine n1_ fun b_ => ?_ | refine n2_ fun b_ => ?_ | refine Nat1.mk fun q_ hq_ => ?_ | refine em_ fun x_ hx_ => ?_ | refine Elem1.mk fun e_ he_ => ?_); refine g0_ ?_))
      (refine g1_ ?_; repeat ((first | refine n1_ fun b_ => ?_ | refine n2_ fun b_ => ?_ | refine Nat1.mk fun q_ hq_ => ?_ | refine em_ fun x_ hx_ => ?_ | refine Elem1.mk fun e_ he_ => ?_); refine g1_ ?_))
      exact ⟨(c, pv), .inl ⟨(by first | rfl | trivial), (by first | rfl | trivial)⟩, (by first | rfl | trivial), by (first | exact ⟨_, .refl _⟩ | exact wkMem.rfl' | exact ⟨_, .swap _ _ _⟩ | (repeat (first | exact wkMem.nil _ | exact wkMem.rfl' | exact wk_snoc _ _ _ | exact wk_fam (by assumption) _ _ _ | exact wk_famN (by assumption) _ _ _ | (apply wkMem.cons; (case' hl => (repeat (first | exact .here _ _ _ | apply Look.there)))) | apply wkMem.skip)))⟩
    · rw [if_neg h5, List.map_nil, List.append_nil]
      simp only [rS_eq, rO, rG, rN] at *
      refine acalls_of_vc (DM_ok (by decide)) Tryd.func36 rfl (by decide) (by decide) rfl ?_
      (refine g0_ ?_; repeat ((first | refine n1_ fun b_ => ?_ | refine n2_ fun b_ => ?_ | refine Nat1.mk fun q_ hq_ => ?_ | refine em_ fun x_ hx_ => ?_ | refine Elem1.mk fun e_ he_ => ?_); refine g0_ ?_))
      (refine g1_ ?_; repeat ((first | refine n1_ fun b_ => ?_ | refine n2_ fun b_ => ?_ | refine Nat1.mk fun q_ hq_ => ?_ | refine em_ fun x_ hx_ => ?_ | refine Elem1.mk fun e_ he_ => ?_); refine g1_ ?_))
      refine .inl ?_
      (refine g0_ ?_; repeat ((first | refine n1_ fun b_ => ?_ | refine n2_ fun b_ => ?_ | refine Nat1.mk fun q_ hq_ => ?_ | refine em_ fun x_ hx_ => ?_ | refine Elem1.mk fun e_ he_ => ?_); refine g0_ ?_))
      refine ⟨[(b.toNat : Int)], rfl, ?_⟩
      rw [u8_back]
      (refine g0_ ?_; repeat ((first | refine n1_ fun b_ => ?_ | refine n2_ fun b_ => ?_ | refine Nat1.mk fun q_ hq_ => ?_ | refine em_ fun x_ hx_ => ?_ | refine Elem1.mk fun e_ he_ => ?_); refine g0_ ?_))
      exact ⟨(c, pv), .inl ⟨(by first | rfl | trivial), (by first | rfl | trivial)⟩, (by first | rfl | trivial), by (first | exact ⟨_, .refl _⟩ | exact wkMem.rfl' | exact ⟨_, .swap _ _ _⟩ | (repeat (first | exact wkMem.nil _ | exact wkMem.rfl' | exact wk_snoc _ _ _ | exact wk_fam (by assumption) _ _ _ | exact wk_famN (by assumption) _ _ _ | (apply wkMem.cons; (case' hl => (repeat (first | exact .here _ _ _ | apply Look.there)))) | apply wkMem.skip)))⟩
end Go.Eng.YtkcldifniomfoaaDoor
end

/- The document's reader: commands (b_ x_ q_ e_ pre_). -/
section
namespace Go.Eng.YtkcldifniomfoaaDoor
open Go Go.Eng Go.Proofs
variable (W : World)
set_option linter.unusedSimpArgs false
set_option maxRecDepth 100000
set_option linter.unusedVariables false
set_option maxHeartbeats 8000000
def oneM (bs bo bg bn : Nat) (x : CmdR) (os : List PV) (s : PSt) : Mem := rS bs (parV x.2.1 s.params) s :: rO bo (accV x.1 7 (os ++ x.2.2.1)) :: rG bg bs :: rN bn bs bo bg :: (parM x.2.1 s.params ++ (x.2.2.2 ++ accM x.1 7 (os ++ x.2.2.1)))
theorem oneM_kept (bs bo bg bn b' : Nat) (pb' : PB) (os : List PV) (s : PSt) : oneM bs bo bg bn (b', pb', [], []) os s = rS bs (parV pb' s.params) s :: rO bo (accV b' 7 os) :: rG bg bs :: rN bn bs bo bg :: (parM pb' s.params ++ accM b' 7 os) := by simp [oneM]
/-- What it makes of a byte, with numbers. -/
abbrev OneC (bs bo bg bn c : Nat) (pb : PB) (os : List PV) (s : PSt) (b : UInt8) (t : PSt × List PEv) : Prop :=
  ACalls Tryd.prog W 36 [.int .u8 b.toNat, .bref bs 0, .bref bo 0, .bref bg 0, .bref bn 0] (rS bs (parV pb s.params) s :: rO bo (accV c 7 os) :: rG bg bs :: rN bn bs bo bg :: (parM pb s.params ++ accM c 7 os))
    (Gives (fun _ : CmdR => .tup []) (fun x => oneM bs bo bg bn x os t.1) (fun x => CmdOk pb s t x))
theorem one_some (bs bo bg bn c pb : Nat) (os : List PV) (s : PSt) (b : UInt8) (hos : os.all cellsB = true) (hn : os.length ≤ 90000) (ha : s.at_ = 3) (hp : s.params ≠ []) (hpl : s.params.length ≤ 16) (hpe : ∀ n ∈ s.params, -1 ≤ n ∧ n ≤ 9999) (hml : s.middle.length ≤ 1000) (hc : ctlB b = false) :
    OneC W bs bo bg bn c (PB.own pb) os s b (cmdL s b) := by
  have hlt := b.toNat_lt
  have hcb : ¬ (b.toNat < 32 ∨ b.toNat = 127) := fun h => by rw [(ctlB_iff b).2 h] at hc; cases hc
  have hp0 : 0 < s.params.length := List.length_pos_iff.2 hp
  have hpL : parL s.params = s.params := by rw [parL, if_neg hp]
  obtain ⟨y, hy, hy', hy1, hy2⟩ := last_of hp hpe
  unfold OneC
  rw [cmdL, hc, if_neg (by simp)]
  by_cases h1 : (48 ≤ b.toNat ∧ b.toNat ≤ 57 ∨ b.toNat = 59) ∧ s.middle = []
  · rw [if_pos h1, hpL]
    by_cases h2 : 48 ≤ b.toNat ∧ b.toNat ≤ 57
    · rw [if_pos h2, hy']
      obtain ⟨a, m, mi, p, t, l, la⟩ := s
      simp only [rS_eq, rO, rG, rN, parV, parM] at *
      obtain ⟨h1a, rfl⟩ := h1
      subst ha
      refine acalls_of_vc (DM_ok (by decide)) Tryd.func36 rfl (by decide) (by decide) rfl ?_
      (refine g0_ ?_; repeat ((first | refine n1_ fun b_ => ?_ | refine n2_ fun b_ => ?_ | refine n3_ fun b_ pre_ => ?_ | refine Nat1.mk fun q_ hq_ => ?_ | refine em_ fun x_ hx_ => ?_ | refine Elem1.mk fun e_ he_ => ?_); refine g0_ ?_))
      (refine g1_ ?_; repeat ((first | refine n1_ fun b_ => ?_ | refine n2_ fun b_ => ?_ | refine n3_ fun b_ pre_ => ?_ | refine Nat1.mk fun q_ hq_ => ?_ | refine em_ fun x_ hx_ => ?_ | refine Elem1.mk fun e_ he_ => ?_); refine g1_ ?_))
      (try dsimp only at hpL hp0 hy' hpe hpl)
      have hq2 : q_ = p.length - 1 := by omega
      rw [hq2, Nat.zero_add, hy] at hx_
      obtain rfl := Option.some.inj hx_
      have hz : (if y < 0 then 0 else y) = max y 0 := by split <;> omega
      rw [hz]
      have hm1 : 0 ≤ max y 0 ∧ max y 0 ≤ 9999 := by omega
      generalize max y 0 = z at *
      (refine g0_ ?_; repeat ((first | refine n1_ fun b_ => ?_ | refine n2_ fun b_ => ?_ | refine n3_ fun b_ pre_ => ?_ | refine Nat1.mk fun q_ hq_ => ?_ | refine em_ fun x_ hx_ => ?_ | refine Elem1.mk fun e_ he_ => ?_); refine g0_ ?_))
      have hmin : (if z * 10 + (b.toNat : Int) - 48 < 9999 then z * 10 + (b.toNat : Int) - 48 else 9999) = min (z * 10 + ((b.toNat : Int) - 48)) 9999 := by split <;> omega
      rw [hmin, hq2, Nat.zero_add]
      refine ⟨(c, PB.own pb, [], []), CmdOk.kept c (by simp [stAt, st0, hp, PB.no]), (by first | rfl | trivial), ?_⟩
      show wkMem _ (oneM _ _ _ _ _ _ _)
      rw [oneM_kept]
      simp only [rS_eq, rO, rG, rN, parV, parM, List.length_set, List.map_set, List.map_append, List.length_append, List.map_cons, List.map_nil, List.length_cons, List.length_nil, Nat.zero_add]
      (first | exact ⟨_, .refl _⟩ | exact wkMem.rfl' | exact ⟨_, .swap _ _ _⟩ | (repeat (first | exact wkMem.nil _ | exact wkMem.rfl' | exact wk_snoc _ _ _ | exact wk_fam (by assumption) _ _ _ | exact wk_famN (by assumption) _ _ _ | (apply wkMem.cons; (case' hl => (repeat (first | exact .here _ _ _ | apply Look.there)))) | apply wkMem.skip)))
    · rw [if_neg h2]
      by_cases h3 : s.params.length = 16
      · rw [if_pos h3]
        obtain ⟨a, m, mi, p, t, l, la⟩ := s
        simp only [rS_eq, rO, rG, rN, parV, parM] at *
        obtain ⟨h1a, rfl⟩ := h1
        subst ha
        refine acalls_of_vc (DM_ok (by decide)) Tryd.func36 rfl (by decide) (by decide) rfl ?_
        (refine g0_ ?_; repeat ((first | refine n1_ fun b_ => ?_ | refine n2_ fun b_ => ?_ | refine n3_ fun b_ pre_ => ?_ | refine Nat1.mk fun q_ hq_ => ?_ | refine em_ fun x_ hx_ => ?_ | refine Elem1.mk fun e_ he_ => ?_); refine g0_ ?_))
        (refine g1_ ?_; repeat ((first | refine n1_ fun b_ => ?_ | refine n2_ fun b_ => ?_ | refine n3_ fun b_ pre_ => ?_ | refine Nat1.mk fun q_ hq_ => ?_ | refine em_ fun x_ hx_ => ?_ | refine Elem1.mk fun e_ he_ => ?_); refine g1_ ?_))
        refine ⟨(c, PB.nil, [], []), CmdOk.kept c (by simp [stAt, st0, hp, PB.no]), (by first | rfl | trivial), ?_⟩
        show wkMem _ (oneM _ _ _ _ _ _ _)
        rw [oneM_kept]
        simp only [rS_eq, rO, rG, rN, parV, parM, List.length_set, List.map_set, List.map_append, List.length_append, List.map_cons, List.map_nil, List.length_cons, List.length_nil, Nat.zero_add]
        (first | exact ⟨_, .refl _⟩ | exact wkMem.rfl' | exact ⟨_, .swap _ _ _⟩ | (repeat (first | exact wkMem.nil _ | exact wkMem.rfl' | exact wk_snoc _ _ _ | exact wk_fam (by assumption) _ _ _ | exact wk_famN (by assumption) _ _ _ | (apply wkMem.cons; (case' hl => (repeat (first | exact .here _ _ _ | apply Look.there)))) | apply wkMem.skip)))
      · rw [if_neg h3]
        obtain ⟨a, m, mi, p, t, l, la⟩ := s
        simp only [rS_eq, rO, rG, rN, parV, parM] at *
        obtain ⟨h1a, rfl⟩ := h1
        subst ha
        refine acalls_of_vc (DM_ok (by decide)) Tryd.func36 rfl (by decide) (by decide) rfl ?_
        (refine g0_ ?_; repeat ((first | refine n1_ fun b_ => ?_ | refine n2_ fun b_ => ?_ | refine n3_ fun b_ pre_ => ?_ | refine Nat1.mk fun q_ hq_ => ?_ | refine em_ fun x_ hx_ => ?_ | refine Elem1.mk fun e_ he_ => ?_); refine g0_ ?_))
        (refine g1_ ?_; repeat ((first | refine n1_ fun b_ => ?_ | refine n2_ fun b_ => ?_ | refine n3_ fun b_ pre_ => ?_ | refine Nat1.mk fun q_ hq_ => ?_ | refine em_ fun x_ hx_ => ?_ | refine Elem1.mk fun e_ he_ => ?_); refine g1_ ?_))
        refine .inl ?_
        (refine g0_ ?_; repeat ((first | refine n1_ fun b_ => ?_ | refine n2_ fun b_ => ?_ | refine n3_ fun b_ pre_ => ?_ | refine Nat1.mk fun q_ hq_ => ?_ | refine em_ fun x_ hx_ => ?_ | refine Elem1.mk fun e_ he_ => ?_); refine g0_ ?_))
        refine ⟨(c, PB.own b_, [], []), CmdOk.kept c (by simp [stAt, st0, hp, PB.no]), (by first | rfl | trivial), ?_⟩
        show wkMem _ (oneM _ _ _ _ _ _ _)
        rw [oneM_kept]
        simp only [rS_eq, rO, rG, rN, parV, parM, List.length_set, List.map_set, List.map_append, List.length_append, List.map_cons, List.map_nil, List.length_cons, List.length_nil, Nat.zero_add]
        (first | exact ⟨_, .refl _⟩ | exact wkMem.rfl' | exact ⟨_, .swap _ _ _⟩ | (repeat (first | exact wkMem.nil _ | exact wkMem.rfl' | exact wk_snoc _ _ _ | exact wk_fam (by assumption) _ _ _ | exact wk_famN (by assumption) _ _ _ | (apply wkMem.cons; (case' hl => (repeat (first | exact .here _ _ _ | apply Look.there)))) | apply wkMem.skip)))
  · rw [if_neg h1, if_neg (fun h => hp h.2.2.1)]
    by_cases h4 : b.toNat < 48 ∧ s.middle.length < 2
    · rw [if_pos h4]
      obtain ⟨a, m, mi, p, t, l, la⟩ := s
      simp only [rS_eq, rO, rG, rN, parV, parM] at *
      subst ha
      refine acalls_of_vc (DM_ok (by decide)) Tryd.func36 rfl (by decide) (by decide) rfl ?_
      (refine g0_ ?_; repeat ((first | refine n1_ fun b_ => ?_ | refine n2_ fun b_ => ?_ | refine n3_ fun b_ pre_ => ?_ | refine Nat1.mk fun q_ hq_ => ?_ | refine em_ fun x_ hx_ => ?_ | refine Elem1.mk fun e_ he_ => ?_); refine g0_ ?_))
      (refine g1_ ?_; repeat ((first | refine n1_ fun b_ => ?_ | refine n2_ fun b_ => ?_ | refine n3_ fun b_ pre_ => ?_ | refine Nat1.mk fun q_ hq_ => ?_ | refine em_ fun x_ hx_ => ?_ | refine Elem1.mk fun e_ he_ => ?_); refine g1_ ?_))
      refine .inl ?_
      (refine g0_ ?_; repeat ((first | refine n1_ fun b_ => ?_ | refine n2_ fun b_ => ?_ | refine n3_ fun b_ pre_ => ?_ | refine Nat1.mk fun q_ hq_ => ?_ | refine em_ fun x_ hx_ => ?_ | refine Elem1.mk fun e_ he_ => ?_); refine g0_ ?_))
      refine ⟨[(b.toNat : Int)], rfl, ?_⟩
      rw [u8_back]
      (refine g0_ ?_; repeat ((first | refine n1_ fun b_ => ?_ | refine n2_ fun b_ => ?_ | refine n3_ fun b_ pre_ => ?_ | refine Nat1.mk fun q_ hq_ => ?_ | refine em_ fun x_ hx_ => ?_ | refine Elem1.mk fun e_ he_ => ?_); refine g0_ ?_))
      refine ⟨(c, PB.own pb, [], []), CmdOk.kept c (by simp [stAt, st0, hp, PB.no]), (by first | rfl | trivial), ?_⟩
      show wkMem _ (oneM _ _ _ _ _ _ _)
      rw [oneM_kept]
      simp only [rS_eq, rO, rG, rN, parV, parM, List.length_set, List.map_set, List.map_append, List.length_append, List.map_cons, List.map_nil, List.length_cons, List.length_nil, Nat.zero_add]
      (first | exact ⟨_, .refl _⟩ | exact wkMem.rfl' | exact ⟨_, .swap _ _ _⟩ | (repeat (first | exact wkMem.nil _ | exact wkMem.rfl' | exact wk_snoc _ _ _ | exact wk_fam (by assumption) _ _ _ | exact wk_famN (by assumption) _ _ _ | (apply wkMem.cons; (case' hl => (repeat (first | exact .here _ _ _ | apply Look.there)))) | apply wkMem.skip)))
    rw [if_neg h4]
    by_cases h5 : 64 ≤ b.toNat ∧ b.toNat < 127
    · rw [if_pos h5]
      obtain ⟨a, m, mi, p, t, l, la⟩ := s
      simp only [rS_eq, rO, rG, rN, parV, parM] at *
      subst ha
      rcases os with _ | ⟨o, os⟩
      · simp only [accV, accM]
        refine acalls_of_vc (DM_ok (by decide)) Tryd.func36 rfl (by decide) (by decide) rfl ?_
        (refine g0_ ?_; repeat ((first | refine n1_ fun b_ => ?_ | refine n2_ fun b_ => ?_ | refine n3_ fun b_ pre_ => ?_ | refine Nat1.mk fun q_ hq_ => ?_ | refine em_ fun x_ hx_ => ?_ | refine Elem1.mk fun e_ he_ => ?_); refine g0_ ?_))
        (refine g1_ ?_; repeat ((first | refine n1_ fun b_ => ?_ | refine n2_ fun b_ => ?_ | refine n3_ fun b_ pre_ => ?_ | refine Nat1.mk fun q_ hq_ => ?_ | refine em_ fun x_ hx_ => ?_ | refine Elem1.mk fun e_ he_ => ?_); refine g1_ ?_))
        refine .inl ?_
        (refine g0_ ?_; repeat ((first | refine n1_ fun b_ => ?_ | refine n2_ fun b_ => ?_ | refine n3_ fun b_ pre_ => ?_ | refine Nat1.mk fun q_ hq_ => ?_ | refine em_ fun x_ hx_ => ?_ | refine Elem1.mk fun e_ he_ => ?_); refine g0_ ?_))
        refine ACalls.lend (ref_ground W bs (.rsl pb 1 0 p.length) ⟨3, m, _, p, t, l, la⟩) (Look.perm (by repeat (first | exact .here _ _ _ | apply Look.there))) ?_
        rintro _ -
        (refine g0_ ?_; repeat ((first | refine n1_ fun b_ => ?_ | refine n2_ fun b_ => ?_ | refine n3_ fun b_ pre_ => ?_ | refine Nat1.mk fun q_ hq_ => ?_ | refine em_ fun x_ hx_ => ?_ | refine Elem1.mk fun e_ he_ => ?_); refine g0_ ?_))
        refine ⟨(b_, PB.nil, [evV (.rsl pb 1 0 p.length) _], [⟨pb, .row 1 (p.map (PV.int .i64)) 0⟩]), ⟨⟨fun _ => rfl, fun _ => trivial⟩, .inr ⟨_, rfl, rfl, rfl, rfl, rfl⟩⟩, (by first | rfl | trivial), ?_⟩
        (first | exact ⟨_, .refl _⟩ | exact wkMem.rfl' | exact ⟨_, .swap _ _ _⟩ | (repeat (first | exact wkMem.nil _ | exact wkMem.rfl' | exact wk_snoc _ _ _ | exact wk_fam (by assumption) _ _ _ | exact wk_famN (by assumption) _ _ _ | (apply wkMem.cons; (case' hl => (repeat (first | exact .here _ _ _ | apply Look.there)))) | apply wkMem.skip)))
      · simp only [List.length_cons] at hn
        simp only [accV, accM]
        refine acalls_of_vc (DM_ok (by decide)) Tryd.func36 rfl (by decide) (by decide) rfl ?_
        (refine g0_ ?_; repeat ((first | refine n1_ fun b_ => ?_ | refine n2_ fun b_ => ?_ | refine n3_ fun b_ pre_ => ?_ | refine Nat1.mk fun q_ hq_ => ?_ | refine em_ fun x_ hx_ => ?_ | refine Elem1.mk fun e_ he_ => ?_); refine g0_ ?_))
        (refine g1_ ?_; repeat ((first | refine n1_ fun b_ => ?_ | refine n2_ fun b_ => ?_ | refine n3_ fun b_ pre_ => ?_ | refine Nat1.mk fun q_ hq_ => ?_ | refine em_ fun x_ hx_ => ?_ | refine Elem1.mk fun e_ he_ => ?_); refine g1_ ?_))
        refine .inl ?_
        (refine g0_ ?_; repeat ((first | refine n1_ fun b_ => ?_ | refine n2_ fun b_ => ?_ | refine n3_ fun b_ pre_ => ?_ | refine Nat1.mk fun q_ hq_ => ?_ | refine em_ fun x_ hx_ => ?_ | refine Elem1.mk fun e_ he_ => ?_); refine g0_ ?_))
        refine ACalls.lend (ref_ground W bs (.rsl pb 1 0 p.length) ⟨3, m, _, p, t, l, la⟩) (Look.perm (by repeat (first | exact .here _ _ _ | apply Look.there))) ?_
        rintro _ -
        (refine g0_ ?_; repeat ((first | refine n1_ fun b_ => ?_ | refine n2_ fun b_ => ?_ | refine n3_ fun b_ pre_ => ?_ | refine Nat1.mk fun q_ hq_ => ?_ | refine em_ fun x_ hx_ => ?_ | refine Elem1.mk fun e_ he_ => ?_); refine g0_ ?_))
        refine ⟨(b_, PB.nil, [evV (.rsl pb 1 0 p.length) _], [⟨pb, .row 1 (p.map (PV.int .i64)) 0⟩]), ⟨⟨fun _ => rfl, fun _ => trivial⟩, .inr ⟨_, rfl, rfl, rfl, rfl, rfl⟩⟩, (by first | rfl | trivial), ?_⟩
        show wkMem _ (_ :: ⟨bo, .row 1 [accV b_ 7 (o :: os ++ [_])] 0⟩ :: _ :: _ :: ([] ++ (_ ++ accM b_ 7 (o :: os ++ [_]))))
        rw [accV_more, accM_more]
        (first | exact ⟨_, .refl _⟩ | exact wkMem.rfl' | exact ⟨_, .swap _ _ _⟩ | (repeat (first | exact wkMem.nil _ | exact wkMem.rfl' | exact wk_snoc _ _ _ | exact wk_fam (by assumption) _ _ _ | exact wk_famN (by assumption) _ _ _ | (apply wkMem.cons; (case' hl => (repeat (first | exact .here _ _ _ | apply Look.there)))) | apply wkMem.skip)))
    rw [if_neg h5]
    by_cases h6 : b.toNat < 128
    · rw [if_pos h6]
      obtain ⟨a, m, mi, p, t, l, la⟩ := s
      rcases mi with _ | ⟨mc, mi⟩
      all_goals
        try have h1n : ¬ (48 ≤ b.toNat ∧ b.toNat ≤ 57 ∨ b.toNat = 59) := fun h => h1 ⟨h, rfl⟩
        simp only [rS_eq, rO, rG, rN, parV, parM] at *
        subst ha
        refine acalls_of_vc (DM_ok (by decide)) Tryd.func36 rfl (by decide) (by decide) rfl ?_
        (refine g0_ ?_; repeat ((first | refine n1_ fun b_ => ?_ | refine n2_ fun b_ => ?_ | refine n3_ fun b_ pre_ => ?_ | refine Nat1.mk fun q_ hq_ => ?_ | refine em_ fun x_ hx_ => ?_ | refine Elem1.mk fun e_ he_ => ?_); refine g0_ ?_))
        (refine g1_ ?_; repeat ((first | refine n1_ fun b_ => ?_ | refine n2_ fun b_ => ?_ | refine n3_ fun b_ pre_ => ?_ | refine Nat1.mk fun q_ hq_ => ?_ | refine em_ fun x_ hx_ => ?_ | refine Elem1.mk fun e_ he_ => ?_); refine g1_ ?_))
        refine ⟨(c, PB.nil, [], []), CmdOk.kept c (by simp [stAt, st0, hp, PB.no]), (by first | rfl | trivial), ?_⟩
        show wkMem _ (oneM _ _ _ _ _ _ _)
        rw [oneM_kept]
        simp only [rS_eq, rO, rG, rN, parV, parM, List.length_set, List.map_set, List.map_append, List.length_append, List.map_cons, List.map_nil, List.length_cons, List.length_nil, Nat.zero_add]
        (first | exact ⟨_, .refl _⟩ | exact wkMem.rfl' | exact ⟨_, .swap _ _ _⟩ | (repeat (first | exact wkMem.nil _ | exact wkMem.rfl' | exact wk_snoc _ _ _ | exact wk_fam (by assumption) _ _ _ | exact wk_famN (by assumption) _ _ _ | (apply wkMem.cons; (case' hl => (repeat (first | exact .here _ _ _ | apply Look.there)))) | apply wkMem.skip)))
    · rw [if_neg h6]
      obtain ⟨a, m, mi, p, t, l, la⟩ := s
      simp only [rS_eq, rO, rG, rN, parV, parM] at *
      subst ha
      refine acalls_of_vc (DM_ok (by decide)) Tryd.func36 rfl (by decide) (by decide) rfl ?_
      (refine g0_ ?_; repeat ((first | refine n1_ fun b_ => ?_ | refine n2_ fun b_ => ?_ | refine n3_ fun b_ pre_ => ?_ | refine Nat1.mk fun q_ hq_ => ?_ | refine em_ fun x_ hx_ => ?_ | refine Elem1.mk fun e_ he_ => ?_); refine g0_ ?_))
      (refine g1_ ?_; repeat ((first | refine n1_ fun b_ => ?_ | refine n2_ fun b_ => ?_ | refine n3_ fun b_ pre_ => ?_ | refine Nat1.mk fun q_ hq_ => ?_ | refine em_ fun x_ hx_ => ?_ | refine Elem1.mk fun e_ he_ => ?_); refine g1_ ?_))
      refine ACalls.lend (ref_ground W bs (.rsl pb 1 0 p.length) ⟨3, m, _, p, t, l, la⟩) (Look.perm (by repeat (first | exact .here _ _ _ | apply Look.there))) ?_
      rintro _ -
      (refine g0_ ?_; repeat ((first | refine n1_ fun b_ => ?_ | refine n2_ fun b_ => ?_ | refine n3_ fun b_ pre_ => ?_ | refine Nat1.mk fun q_ hq_ => ?_ | refine em_ fun x_ hx_ => ?_ | refine Elem1.mk fun e_ he_ => ?_); refine g0_ ?_))
      refine ⟨(c, PB.nil, [], []), CmdOk.kept c (by simp [stAt, st0, hp, PB.no]), (by first | rfl | trivial), ?_⟩
      show wkMem _ (oneM _ _ _ _ _ _ _)
      rw [oneM_kept]
      simp only [rS_eq, rO, rG, rN, parV, parM, List.length_set, List.map_set, List.map_append, List.length_append, List.map_cons, List.map_nil, List.length_cons, List.length_nil, Nat.zero_add]
      (first | exact ⟨_, .refl _⟩ | exact wkMem.rfl' | exact ⟨_, .swap _ _ _⟩ | (repeat (first | exact wkMem.nil _ | exact wkMem.rfl' | exact wk_snoc _ _ _ | exact wk_fam (by assumption) _ _ _ | exact wk_famN (by assumption) _ _ _ | (apply wkMem.cons; (case' hl => (repeat (first | exact .here _ _ _ | apply Look.there)))) | apply wkMem.skip)))
end Go.Eng.YtkcldifniomfoaaDoor
end
