/- Texts put together: Prs1, Prs2, Prs3, Prs4. -/
import Derived.Test.YtkcldifniomfoaaDoorMQ1
import Derived.Test.YtkcldifniomfoaaDoorME3
import Derived.Test.YtkcldifniomfoaaDoorME10
import Derived.Test.YtkcldifniomfoaaDoorMT1
/- The reader of escape sequences: its memory (b_ x_ q_ e_ pre_). -/
section
namespace Go.Eng
open Go
variable {P : Program} {W : World}
/-- A call that is lent all there is, whatever it leaves. -/
theorem ACalls.all_ {f : FuncId} {args : List PV} {σ : Mem} {k0 k : PV → Mem → Prop} (h : ACalls P W f args σ k0) (hk : ∀ v σ1, k0 v σ1 → ∃ σ2, wkMem σ1 σ2 ∧ k v σ2) : ACalls P W f args σ k := by
  refine ACalls.weak (h.mono ?_)
  intro v σ1 h1
  obtain ⟨σ2, h2, h3⟩ := hk v σ1 h1
  exact ⟨σ2, h3, h2⟩
end Go.Eng
namespace Go.Eng.YtkcldifniomfoaaDoor
open Go Go.Eng Go.Proofs
variable (W : World)
set_option linter.unusedSimpArgs false
set_option maxRecDepth 100000
set_option linter.unusedVariables false
set_option maxHeartbeats 8000000
def evV (pv : PV) (e : PEv) : PV := .agg [.int .i64 e.kind, .int .i32 e.r, .int .u8 e.final.toNat, .int .u8 e.mark.toNat, .str e.middle, pv, .str e.text]
def encInts (l : List Int) : PV := .sl 1 (l.map (PV.int .i64))
def encEv (e : PEv) : PV := evV (encInts e.params) e
def stV (pv : PV) (s : PSt) : List PV := [.int .i64 s.at_, .int .u8 s.mark.toNat, .str s.middle, pv, .str s.text, .str s.left, .bool s.late]
def encSt (s : PSt) : PV := .agg (stV (encInts s.params) s)
abbrev PFam := List (Nat × List Int)
/-- Where the numbers of a state stand: nowhere, nowhere (but there may be a slice of none), or in a row of their own. -/
inductive PB
  | nil
  | emp
  | own (b : Nat)
def PB.no : PB → Prop
  | .own _ => False
  | _ => True
/-- The numbers; what is told: its block, its elements; the numbers of what is told. -/
abbrev RdS := PB × Nat × List PV × PFam
def parV : PB → List Int → PV
  | .nil, _ => .nils
  | .emp, _ => .sl 1 []
  | .own b, l => .rsl b 1 0 l.length
def parM : PB → List Int → Mem
  | .own b, l => [⟨b, .row 1 (l.map (PV.int .i64)) 0⟩]
  | _, _ => []
def rdB (r : Nat) (pv ov : PV) (s : PSt) : Blk := ⟨r, .row 8 [.agg (stV pv s ++ [ov])] 0⟩
theorem rdB_eq (r : Nat) (pv ov : PV) (a : Int) (m : UInt8) (mi : List UInt8) (p : List Int) (t l : List UInt8) (la : Bool) : rdB r pv ov ⟨a, m, mi, p, t, l, la⟩ = ⟨r, .row 8 [.agg [.int .i64 a, .int .u8 m.toNat, .str mi, pv, .str t, .str l, .bool la, ov]] 0⟩ := rfl
end Go.Eng.YtkcldifniomfoaaDoor
end

/- The reader of escape sequences: ground, tell, control (b_). -/
section
namespace Go.Eng.YtkcldifniomfoaaDoor
open Go Go.Eng Go.Proofs
variable (W : World)
set_option linter.unusedSimpArgs false
set_option maxRecDepth 100000
set_option linter.unusedVariables false
set_option maxHeartbeats 8000000
theorem ground_ok (r : Nat) (pv ov : PV) (s : PSt) : ACalls Tryd.prog W 60 [.bref r 0] [rdB r pv ov s]
    (Gives (fun _ : Unit => .tup []) (fun _ => [rdB r .nils ov st0]) (fun _ => True)) := by
  obtain ⟨a, m, mi, p, t, l, la⟩ := s
  rw [rdB_eq]
  refine acalls_of_vc (DM_ok (by decide)) Tryd.func60 rfl (by decide) (by decide) rfl ?_
  (refine g0_ ?_; repeat ((first | refine n1_ fun b_ => ?_ | refine n2_ fun b_ => ?_); refine g0_ ?_))
  exact ⟨(), trivial, rfl, by (first | exact ⟨_, .refl _⟩ | exact wkMem.rfl' | exact ⟨_, .swap _ _ _⟩ | (repeat (first | exact wkMem.nil _ | exact wkMem.rfl' | exact wk_snoc _ _ _ | exact wk_fam (by assumption) _ _ _ | exact wk_famN (by assumption) _ _ _ | (apply wkMem.cons; (case' hl => (repeat (first | exact .here _ _ _ | apply Look.there)))) | apply wkMem.skip)))⟩
theorem tell_ok (r bo : Nat) (pv pe : PV) (os : List PV) (s : PSt) (e : PEv) (hpe : pe = .nils ∨ pe = .sl 1 [] ∨ ∃ b n, pe = .rsl b 1 0 n) (hos : os.all cellsB = true) (hn : os.length ≤ 100000) :
    ACalls Tryd.prog W 59 [.bref r 0, evV pe e] (rdB r pv (accV bo 7 os) s :: accM bo 7 os)
      (Gives (fun _ : Nat => .tup []) (fun b' => rdB r pv (accV b' 7 (os ++ [evV pe e])) s :: accM b' 7 (os ++ [evV pe e])) (fun _ => True)) := by
  obtain ⟨a, m, mi, p, t, l, la⟩ := s
  obtain ⟨k, er, ef, em, emi, ep, et⟩ := e
  simp only [rdB_eq]
  rw [evV]
  dsimp only
  rcases os with _ | ⟨o, os⟩
  · rcases hpe with rfl | rfl | ⟨pb, pn, rfl⟩
    all_goals
      refine acalls_of_vc (DM_ok (by decide)) Tryd.func59 rfl (by decide) (by decide) rfl ?_
      (refine g0_ ?_; repeat ((first | refine n1_ fun b_ => ?_ | refine n2_ fun b_ => ?_); refine g0_ ?_))
      refine Draws11.tree ⟨11, [.new, .new, .new, .new, .new, .new, .new, .turn, .skip, .skip, .skip], (.one 7 [.again, .keep, .keep, .keep, .keep, .keep, .keep, .keep, .new, .new, .turn] (.one 10 [.keep, .keep, .keep, .keep, .keep, .keep, .keep, .keep, .keep, .keep, .keep] .fin)), by decide +kernel, ?_⟩; (refine g0_ ?_; repeat ((first | refine n1_ fun b_ => ?_ | refine n2_ fun b_ => ?_); refine g0_ ?_))
      exact ⟨b_, trivial, rfl, by (first | exact ⟨_, .refl _⟩ | exact wkMem.rfl' | exact ⟨_, .swap _ _ _⟩ | (repeat (first | exact wkMem.nil _ | exact wkMem.rfl' | exact wk_snoc _ _ _ | exact wk_fam (by assumption) _ _ _ | exact wk_famN (by assumption) _ _ _ | (apply wkMem.cons; (case' hl => (repeat (first | exact .here _ _ _ | apply Look.there)))) | apply wkMem.skip)))⟩
  · simp only [List.length_cons] at hn
    have hlen : ∀ v : PV, os.length + 1 + 1 = (os ++ [v]).length + 1 := fun v => by simp
    rcases hpe with rfl | rfl | ⟨pb, pn, rfl⟩
    all_goals
      refine acalls_of_vc (DM_ok (by decide)) Tryd.func59 rfl (by decide) (by decide) rfl ?_
      (refine g0_ ?_; repeat ((first | refine n1_ fun b_ => ?_ | refine n2_ fun b_ => ?_); refine g0_ ?_))
      refine Draws11.tree ⟨11, [.new, .new, .new, .new, .new, .new, .new, .turn, .skip, .skip, .skip], (.one 7 [.again, .keep, .keep, .keep, .keep, .keep, .keep, .keep, .new, .new, .turn] (.one 10 [.keep, .keep, .keep, .keep, .keep, .keep, .keep, .keep, .keep, .keep, .keep] .fin)), by decide +kernel, ?_⟩; (refine g0_ ?_; repeat ((first | refine n1_ fun b_ => ?_ | refine n2_ fun b_ => ?_); refine g0_ ?_))
      refine ⟨b_, trivial, rfl, ?_⟩
      show wkMem _ (⟨r, .row 8 [.agg [.int .i64 a, .int .u8 m.toNat, .str mi, pv, .str t, .str l, .bool la, .rsl b_ 7 0 ((os ++ [_]).length + 1)]] 0⟩ :: [⟨b_, .row 7 (o :: (os ++ [_])) 0⟩])
      rw [← hlen]
      (first | exact ⟨_, .refl _⟩ | exact wkMem.rfl' | exact ⟨_, .swap _ _ _⟩ | (repeat (first | exact wkMem.nil _ | exact wkMem.rfl' | exact wk_snoc _ _ _ | exact wk_fam (by assumption) _ _ _ | exact wk_famN (by assumption) _ _ _ | (apply wkMem.cons; (case' hl => (repeat (first | exact .here _ _ _ | apply Look.there)))) | apply wkMem.skip)))
/-- Does a control byte make the state another? -/
def ctlR (b : UInt8) : Bool := decide (b.toNat = 27 ∨ b.toNat = 24 ∨ b.toNat = 26)
def ctlS (s : PSt) (b : UInt8) : PSt := if ctlB b then (ctlL s b).1 else s
def ctlV (b : UInt8) (s : PSt) : List PV := if ctlB b then (ctlL s b).2.map (evV .nils) else []
theorem control_ok (r bo : Nat) (pv : PV) (os : List PV) (s : PSt) (b : UInt8) (hos : os.all cellsB = true) (hn : os.length ≤ 100000) :
    ACalls Tryd.prog W 57 [.bref r 0, .int .u8 b.toNat] (rdB r pv (accV bo 7 os) s :: accM bo 7 os)
      (Gives (fun _ : Nat => .bool (ctlB b)) (fun b' => rdB r (if ctlR b then .nils else pv) (accV b' 7 (os ++ ctlV b s)) (ctlS s b) :: accM b' 7 (os ++ ctlV b s)) (fun _ => True)) := by
  have hlt := b.toNat_lt
  have hg := ground_ok W r pv (accV bo 7 os) s
  have ht := tell_ok W r bo pv .nils os s (ctlE b) (.inl rfl) hos hn
  by_cases h1 : b.toNat = 27
  · have e1 : ctlB b = true := by rw [ctlB_iff]; omega
    have e2 : ctlR b = true := by unfold ctlR; simp [h1]
    have e3 : ctlL s b = (stAt 1, []) := by rw [ctlL, if_pos h1]
    rw [ctlV, ctlS, e1, e2, e3, if_pos rfl, if_pos rfl, if_pos rfl, List.map_nil, List.append_nil]
    obtain ⟨a, m, mi, p, t, l, la⟩ := s
    simp only [rdB_eq] at *
    refine acalls_of_vc (DM_ok (by decide)) Tryd.func57 rfl (by decide) (by decide) rfl ?_
    (refine g0_ ?_; repeat ((first | refine n1_ fun b_ => ?_ | refine n2_ fun b_ => ?_); refine g0_ ?_))
    (refine g1_ ?_; repeat ((first | refine n1_ fun b_ => ?_ | refine n2_ fun b_ => ?_); refine g1_ ?_))
    exact ⟨bo, trivial, rfl, by (first | exact ⟨_, .refl _⟩ | exact wkMem.rfl' | exact ⟨_, .swap _ _ _⟩ | (repeat (first | exact wkMem.nil _ | exact wkMem.rfl' | exact wk_snoc _ _ _ | exact wk_fam (by assumption) _ _ _ | exact wk_famN (by assumption) _ _ _ | (apply wkMem.cons; (case' hl => (repeat (first | exact .here _ _ _ | apply Look.there)))) | apply wkMem.skip)))⟩
  by_cases h2 : b.toNat = 24 ∨ b.toNat = 26
  · have e1 : ctlB b = true := by rw [ctlB_iff]; omega
    have e2 : ctlR b = true := by unfold ctlR; exact decide_eq_true (by omega)
    have e3 : ctlL s b = (st0, []) := by rw [ctlL, if_neg h1, if_pos h2]
    rw [ctlV, ctlS, e1, e2, e3, if_pos rfl, if_pos rfl, if_pos rfl, List.map_nil, List.append_nil]
    obtain ⟨a, m, mi, p, t, l, la⟩ := s
    simp only [rdB_eq] at *
    rcases h2 with h2 | h2
    all_goals
      refine acalls_of_vc (DM_ok (by decide)) Tryd.func57 rfl (by decide) (by decide) rfl ?_
      (refine g0_ ?_; repeat ((first | refine n1_ fun b_ => ?_ | refine n2_ fun b_ => ?_); refine g0_ ?_))
      (refine g1_ ?_; repeat ((first | refine n1_ fun b_ => ?_ | refine n2_ fun b_ => ?_); refine g1_ ?_))
      refine ACalls.lend hg (r := accM bo 7 os) (.refl _) ?_
      rintro _ -
      (refine g0_ ?_; repeat ((first | refine n1_ fun b_ => ?_ | refine n2_ fun b_ => ?_); refine g0_ ?_))
      exact ⟨bo, trivial, rfl, wkMem.rfl'⟩
  have e2 : ctlR b = false := by unfold ctlR; exact decide_eq_false (by omega)
  by_cases h3 : b.toNat < 32
  · have e1 : ctlB b = true := by rw [ctlB_iff]; omega
    have e3 : ctlL s b = (s, [ctlE b]) := by rw [ctlL, if_neg h1, if_neg h2, if_pos h3]
    rw [ctlV, ctlS, e1, e2, e3, if_pos rfl, if_pos rfl, if_neg (by simp)]
    obtain ⟨a, m, mi, p, t, l, la⟩ := s
    simp only [rdB_eq] at *
    rw [ctlE, evV] at *
    dsimp only [ev0] at *
    refine acalls_of_vc (DM_ok (by decide)) Tryd.func57 rfl (by decide) (by decide) rfl ?_
    (refine g0_ ?_; repeat ((first | refine n1_ fun b_ => ?_ | refine n2_ fun b_ => ?_); refine g0_ ?_))
    (refine g1_ ?_; repeat ((first | refine n1_ fun b_ => ?_ | refine n2_ fun b_ => ?_); refine g1_ ?_))
    refine ACalls.all_ ht ?_
    rintro v σ1 ⟨b', -, rfl, hm⟩
    refine ⟨_, hm, ?_⟩
    (refine g0_ ?_; repeat ((first | refine n1_ fun b_ => ?_ | refine n2_ fun b_ => ?_); refine g0_ ?_))
    exact ⟨b', trivial, rfl, wkMem.rfl'⟩
  by_cases h4 : b.toNat = 127
  · have e1 : ctlB b = true := by rw [ctlB_iff]; omega
    have e3 : ctlL s b = (s, []) := by rw [ctlL, if_neg h1, if_neg h2, if_neg h3]
    rw [ctlV, ctlS, e1, e2, e3, if_pos rfl, if_pos rfl, if_neg (by simp), List.map_nil, List.append_nil]
    obtain ⟨a, m, mi, p, t, l, la⟩ := s
    simp only [rdB_eq] at *
    refine acalls_of_vc (DM_ok (by decide)) Tryd.func57 rfl (by decide) (by decide) rfl ?_
    (refine g0_ ?_; repeat ((first | refine n1_ fun b_ => ?_ | refine n2_ fun b_ => ?_); refine g0_ ?_))
    (refine g1_ ?_; repeat ((first | refine n1_ fun b_ => ?_ | refine n2_ fun b_ => ?_); refine g1_ ?_))
    exact ⟨bo, trivial, rfl, wkMem.rfl'⟩
  · have e1 : ctlB b = false := by
      cases h : ctlB b with
      | false => rfl
      | true => have := (ctlB_iff b).1 h; omega
    rw [ctlV, ctlS, e1, e2, if_neg (by simp), if_neg (by simp), if_neg (by simp), List.append_nil]
    obtain ⟨a, m, mi, p, t, l, la⟩ := s
    simp only [rdB_eq] at *
    refine acalls_of_vc (DM_ok (by decide)) Tryd.func57 rfl (by decide) (by decide) rfl ?_
    (refine g0_ ?_; repeat ((first | refine n1_ fun b_ => ?_ | refine n2_ fun b_ => ?_); refine g0_ ?_))
    (refine g1_ ?_; repeat ((first | refine n1_ fun b_ => ?_ | refine n2_ fun b_ => ?_); refine g1_ ?_))
    exact ⟨bo, trivial, rfl, wkMem.rfl'⟩
end Go.Eng.YtkcldifniomfoaaDoor
end

/- The reader of escape sequences: its states but for commands and the ground (b_). -/
section
namespace Go.Eng.YtkcldifniomfoaaDoor
open Go Go.Eng Go.Proofs
variable (W : World)
set_option linter.unusedSimpArgs false
set_option maxRecDepth 100000
set_option linter.unusedVariables false
set_option maxHeartbeats 8000000
/-- What a state's function makes of a byte. -/
abbrev Acts (f : Nat) (r bo : Nat) (pv : PV) (os : List PV) (s : PSt) (b : UInt8) (t : PSt × List PEv) : Prop :=
  ACalls Tryd.prog W f [.bref r 0, .int .u8 b.toNat] (rdB r pv (accV bo 7 os) s :: accM bo 7 os)
    (Gives (fun _ : Nat × PV => .tup []) (fun x => rdB r x.2 (accV x.1 7 (os ++ t.2.map (evV .nils))) t.1 :: accM x.1 7 (os ++ t.2.map (evV .nils))) (fun x => (x.2 = pv ∧ t.1.params = s.params) ∨ (x.2 = .nils ∧ t.1.params = [])))
theorem ctlL_par (s : PSt) (b : UInt8) : (ctlR b = false → (ctlL s b).1.params = s.params) ∧ (ctlR b = true → (ctlL s b).1.params = []) := by
  unfold ctlR ctlL
  constructor
  · intro h
    have := of_decide_eq_false h
    rw [if_neg (by omega), if_neg (by omega)]
    split <;> rfl
  · intro h
    have := of_decide_eq_true h
    split
    · rfl
    · rw [if_pos (by omega)]; rfl
theorem inSkip_ok (r bo : Nat) (pv : PV) (os : List PV) (s : PSt) (b : UInt8) (hos : os.all cellsB = true) (hn : os.length ≤ 100000) : Acts W 43 r bo pv os s b (skipL s b) := by
  have hlt := b.toNat_lt
  have hct := control_ok W r bo pv os s b hos hn
  have hpar := ctlL_par s b
  have hg := fun bo => ground_ok W r pv (accV bo 7 os) s
  unfold Acts
  cases hc : ctlB b with
  | true =>
    rw [ctlV, ctlS, hc, if_pos rfl, if_pos rfl] at hct
    rw [skipL, if_pos hc]
    obtain ⟨a, m, mi, p, t, l, la⟩ := s
    generalize ctlL ⟨a, m, mi, p, t, l, la⟩ b = q at *
    simp only [rdB_eq] at *
    refine acalls_of_vc (DM_ok (by decide)) Tryd.func43 rfl (by decide) (by decide) rfl ?_
    (refine g0_ ?_; repeat ((first | refine n1_ fun b_ => ?_ | refine n2_ fun b_ => ?_); refine g0_ ?_))
    refine ACalls.all_ hct ?_
    rintro v σ1 ⟨b', -, rfl, hm⟩
    refine ⟨_, hm, ?_⟩
    (refine g0_ ?_; repeat ((first | refine n1_ fun b_ => ?_ | refine n2_ fun b_ => ?_); refine g0_ ?_))
    cases hR : ctlR b with
    | true =>
      refine ⟨(b', .nils), .inr ⟨rfl, hpar.2 hR⟩, (by first | rfl | trivial), ?_⟩
      exact wkMem.rfl'
    | false =>
      refine ⟨(b', pv), .inl ⟨rfl, hpar.1 hR⟩, (by first | rfl | trivial), ?_⟩
      exact wkMem.rfl'
  | false =>
    have hcb : ¬ (b.toNat < 32 ∨ b.toNat = 127) := fun h => by rw [(ctlB_iff b).2 h] at hc; cases hc
    have hcR : ctlR b = false := by
      unfold ctlR; exact decide_eq_false (by omega)
    simp only [ctlV, ctlS, hc, hcR, Bool.false_eq_true, if_false, List.append_nil] at hct
    rw [skipL, hc, if_neg (by simp)]
    by_cases h1 : 64 ≤ b.toNat
    · rw [if_pos h1, List.map_nil, List.append_nil]
      obtain ⟨a, m, mi, p, t, l, la⟩ := s
      simp only [rdB_eq] at *
      refine acalls_of_vc (DM_ok (by decide)) Tryd.func43 rfl (by decide) (by decide) rfl ?_
      (refine g0_ ?_; repeat ((first | refine n1_ fun b_ => ?_ | refine n2_ fun b_ => ?_); refine g0_ ?_))
      refine ACalls.all_ hct ?_
      rintro v σ1 ⟨b', -, rfl, hm⟩
      refine ⟨_, hm, ?_⟩
      (refine g0_ ?_; repeat ((first | refine n1_ fun b_ => ?_ | refine n2_ fun b_ => ?_); refine g0_ ?_))
      (refine g1_ ?_; repeat ((first | refine n1_ fun b_ => ?_ | refine n2_ fun b_ => ?_); refine g1_ ?_))
      refine ACalls.lend (hg b') (r := accM b' 7 os) (.refl _) ?_
      rintro _ -
      (refine g0_ ?_; repeat ((first | refine n1_ fun b_ => ?_ | refine n2_ fun b_ => ?_); refine g0_ ?_))
      exact ⟨(b', .nils), .inr ⟨(by first | rfl | trivial), (by first | rfl | trivial)⟩, (by first | rfl | trivial), wkMem.rfl'⟩
    · rw [if_neg h1, List.map_nil, List.append_nil]
      obtain ⟨a, m, mi, p, t, l, la⟩ := s
      simp only [rdB_eq] at *
      refine acalls_of_vc (DM_ok (by decide)) Tryd.func43 rfl (by decide) (by decide) rfl ?_
      (refine g0_ ?_; repeat ((first | refine n1_ fun b_ => ?_ | refine n2_ fun b_ => ?_); refine g0_ ?_))
      refine ACalls.all_ hct ?_
      rintro v σ1 ⟨b', -, rfl, hm⟩
      refine ⟨_, hm, ?_⟩
      (refine g0_ ?_; repeat ((first | refine n1_ fun b_ => ?_ | refine n2_ fun b_ => ?_); refine g0_ ?_))
      (refine g1_ ?_; repeat ((first | refine n1_ fun b_ => ?_ | refine n2_ fun b_ => ?_); refine g1_ ?_))
      exact ⟨(b', pv), .inl ⟨(by first | rfl | trivial), (by first | rfl | trivial)⟩, (by first | rfl | trivial), wkMem.rfl'⟩
theorem u8_back (b : UInt8) : [(b.toNat : Int)].map (fun n => UInt8.ofNat n.toNat) = [b] := by simp
theorem inEscape_ok (r bo : Nat) (pv : PV) (os : List PV) (s : PSt) (b : UInt8) (hos : os.all cellsB = true) (hn : os.length ≤ 100000) : Acts W 39 r bo pv os s b (escL s b) := by
  have hlt := b.toNat_lt
  have hct := control_ok W r bo pv os s b hos hn
  have hpar := ctlL_par s b
  have hg := fun bo => ground_ok W r pv (accV bo 7 os) s
  unfold Acts
  cases hc : ctlB b with
  | true =>
    rw [ctlV, ctlS, hc, if_pos rfl, if_pos rfl] at hct
    rw [escL, if_pos hc]
    obtain ⟨a, m, mi, p, t, l, la⟩ := s
    generalize ctlL ⟨a, m, mi, p, t, l, la⟩ b = q at *
    simp only [rdB_eq] at *
    refine acalls_of_vc (DM_ok (by decide)) Tryd.func39 rfl (by decide) (by decide) rfl ?_
    (refine g0_ ?_; repeat ((first | refine n1_ fun b_ => ?_ | refine n2_ fun b_ => ?_); refine g0_ ?_))
    refine ACalls.all_ hct ?_
    rintro v σ1 ⟨b', -, rfl, hm⟩
    refine ⟨_, hm, ?_⟩
    (refine g0_ ?_; repeat ((first | refine n1_ fun b_ => ?_ | refine n2_ fun b_ => ?_); refine g0_ ?_))
    cases hR : ctlR b with
    | true =>
      refine ⟨(b', .nils), .inr ⟨rfl, hpar.2 hR⟩, (by first | rfl | trivial), ?_⟩
      exact wkMem.rfl'
    | false =>
      refine ⟨(b', pv), .inl ⟨rfl, hpar.1 hR⟩, (by first | rfl | trivial), ?_⟩
      exact wkMem.rfl'
  | false =>
    have hcb : ¬ (b.toNat < 32 ∨ b.toNat = 127) := fun h => by rw [(ctlB_iff b).2 h] at hc; cases hc
    have hcR : ctlR b = false := by
      unfold ctlR; exact decide_eq_false (by omega)
    simp only [ctlV, ctlS, hc, hcR, Bool.false_eq_true, if_false, List.append_nil] at hct
    rw [escL, hc, if_neg (by simp)]
    by_cases h1 : b.toNat = 91
    · rw [if_pos h1, List.map_nil, List.append_nil]
      obtain ⟨a, m, mi, p, t, l, la⟩ := s
      simp only [rdB_eq] at *
      refine acalls_of_vc (DM_ok (by decide)) Tryd.func39 rfl (by decide) (by decide) rfl ?_
      (refine g0_ ?_; repeat ((first | refine n1_ fun b_ => ?_ | refine n2_ fun b_ => ?_); refine g0_ ?_))
      refine ACalls.all_ hct ?_
      rintro v σ1 ⟨b', -, rfl, hm⟩
      refine ⟨_, hm, ?_⟩
      (refine g0_ ?_; repeat ((first | refine n1_ fun b_ => ?_ | refine n2_ fun b_ => ?_); refine g0_ ?_))
      (refine g1_ ?_; repeat ((first | refine n1_ fun b_ => ?_ | refine n2_ fun b_ => ?_); refine g1_ ?_))
      exact ⟨(b', .nils), .inr ⟨(by first | rfl | trivial), (by first | rfl | trivial)⟩, (by first | rfl | trivial), wkMem.rfl'⟩
    by_cases h2 : b.toNat = 93
    · rw [if_neg h1, if_pos h2, List.map_nil, List.append_nil]
      obtain ⟨a, m, mi, p, t, l, la⟩ := s
      simp only [rdB_eq] at *
      refine acalls_of_vc (DM_ok (by decide)) Tryd.func39 rfl (by decide) (by decide) rfl ?_
      (refine g0_ ?_; repeat ((first | refine n1_ fun b_ => ?_ | refine n2_ fun b_ => ?_); refine g0_ ?_))
      refine ACalls.all_ hct ?_
      rintro v σ1 ⟨b', -, rfl, hm⟩
      refine ⟨_, hm, ?_⟩
      (refine g0_ ?_; repeat ((first | refine n1_ fun b_ => ?_ | refine n2_ fun b_ => ?_); refine g0_ ?_))
      (refine g1_ ?_; repeat ((first | refine n1_ fun b_ => ?_ | refine n2_ fun b_ => ?_); refine g1_ ?_))
      exact ⟨(b', .nils), .inr ⟨(by first | rfl | trivial), (by first | rfl | trivial)⟩, (by first | rfl | trivial), wkMem.rfl'⟩
    by_cases h3 : b.toNat < 48
    · rw [if_neg h1, if_neg h2, if_pos h3, List.map_nil, List.append_nil]
      obtain ⟨a, m, mi, p, t, l, la⟩ := s
      simp only [rdB_eq] at *
      refine acalls_of_vc (DM_ok (by decide)) Tryd.func39 rfl (by decide) (by decide) rfl ?_
      (refine g0_ ?_; repeat ((first | refine n1_ fun b_ => ?_ | refine n2_ fun b_ => ?_); refine g0_ ?_))
      refine ACalls.all_ hct ?_
      rintro v σ1 ⟨b', -, rfl, hm⟩
      refine ⟨_, hm, ?_⟩
      (refine g0_ ?_; repeat ((first | refine n1_ fun b_ => ?_ | refine n2_ fun b_ => ?_); refine g0_ ?_))
      (refine g1_ ?_; repeat ((first | refine n1_ fun b_ => ?_ | refine n2_ fun b_ => ?_); refine g1_ ?_))
      refine .inl ?_
      (refine g0_ ?_; repeat ((first | refine n1_ fun b_ => ?_ | refine n2_ fun b_ => ?_); refine g0_ ?_))
      refine ⟨[(b.toNat : Int)], rfl, ?_⟩
      rw [u8_back]
      (refine g0_ ?_; repeat ((first | refine n1_ fun b_ => ?_ | refine n2_ fun b_ => ?_); refine g0_ ?_))
      exact ⟨(b', .nils), .inr ⟨(by first | rfl | trivial), (by first | rfl | trivial)⟩, (by first | rfl | trivial), wkMem.rfl'⟩
    by_cases h4 : b.toNat < 127
    · rw [if_neg h1, if_neg h2, if_neg h3, if_pos h4]
      obtain ⟨a, m, mi, p, t, l, la⟩ := s
      simp only [rdB_eq] at *
      refine acalls_of_vc (DM_ok (by decide)) Tryd.func39 rfl (by decide) (by decide) rfl ?_
      (refine g0_ ?_; repeat ((first | refine n1_ fun b_ => ?_ | refine n2_ fun b_ => ?_); refine g0_ ?_))
      refine ACalls.all_ hct ?_
      rintro v σ1 ⟨b', -, rfl, hm⟩
      refine ⟨_, hm, ?_⟩
      (refine g0_ ?_; repeat ((first | refine n1_ fun b_ => ?_ | refine n2_ fun b_ => ?_); refine g0_ ?_))
      (refine g1_ ?_; repeat ((first | refine n1_ fun b_ => ?_ | refine n2_ fun b_ => ?_); refine g1_ ?_))
      refine ACalls.all_ (tell_ok W r b' pv .nils os ⟨a, m, mi, p, t, l, la⟩ ({ ev0 with kind := 3, final := b } : PEv) (.inl rfl) hos hn) ?_
      rintro v σ1 ⟨b2, -, rfl, hm2⟩
      refine ⟨_, hm2, ?_⟩
      (refine g0_ ?_; repeat ((first | refine n1_ fun b_ => ?_ | refine n2_ fun b_ => ?_); refine g0_ ?_))
      refine ACalls.lend (ground_ok W r pv (accV b2 7 (os ++ [evV .nils ({ ev0 with kind := 3, final := b } : PEv)])) ⟨a, m, mi, p, t, l, la⟩) (r := accM b2 7 (os ++ [evV .nils ({ ev0 with kind := 3, final := b } : PEv)])) (.refl _) ?_
      rintro _ -
      (refine g0_ ?_; repeat ((first | refine n1_ fun b_ => ?_ | refine n2_ fun b_ => ?_); refine g0_ ?_))
      exact ⟨(b2, .nils), .inr ⟨(by first | rfl | trivial), (by first | rfl | trivial)⟩, (by first | rfl | trivial), wkMem.rfl'⟩
    · rw [if_neg h1, if_neg h2, if_neg h3, if_neg h4, List.map_nil, List.append_nil]
      obtain ⟨a, m, mi, p, t, l, la⟩ := s
      simp only [rdB_eq] at *
      refine acalls_of_vc (DM_ok (by decide)) Tryd.func39 rfl (by decide) (by decide) rfl ?_
      (refine g0_ ?_; repeat ((first | refine n1_ fun b_ => ?_ | refine n2_ fun b_ => ?_); refine g0_ ?_))
      refine ACalls.all_ hct ?_
      rintro v σ1 ⟨b', -, rfl, hm⟩
      refine ⟨_, hm, ?_⟩
      (refine g0_ ?_; repeat ((first | refine n1_ fun b_ => ?_ | refine n2_ fun b_ => ?_); refine g0_ ?_))
      (refine g1_ ?_; repeat ((first | refine n1_ fun b_ => ?_ | refine n2_ fun b_ => ?_); refine g1_ ?_))
      refine ACalls.lend (hg b') (r := accM b' 7 os) (.refl _) ?_
      rintro _ -
      (refine g0_ ?_; repeat ((first | refine n1_ fun b_ => ?_ | refine n2_ fun b_ => ?_); refine g0_ ?_))
      exact ⟨(b', .nils), .inr ⟨(by first | rfl | trivial), (by first | rfl | trivial)⟩, (by first | rfl | trivial), wkMem.rfl'⟩
theorem inMiddle_ok (r bo : Nat) (pv : PV) (os : List PV) (s : PSt) (b : UInt8) (hos : os.all cellsB = true) (hn : os.length ≤ 100000) (hml : s.middle.length ≤ 1000) : Acts W 40 r bo pv os s b (midL s b) := by
  have hlt := b.toNat_lt
  have hct := control_ok W r bo pv os s b hos hn
  have hpar := ctlL_par s b
  have hg := fun bo => ground_ok W r pv (accV bo 7 os) s
  unfold Acts
  cases hc : ctlB b with
  | true =>
    rw [ctlV, ctlS, hc, if_pos rfl, if_pos rfl] at hct
    rw [midL, if_pos hc]
    obtain ⟨a, m, mi, p, t, l, la⟩ := s
    generalize ctlL ⟨a, m, mi, p, t, l, la⟩ b = q at *
    simp only [rdB_eq] at *
    refine acalls_of_vc (DM_ok (by decide)) Tryd.func40 rfl (by decide) (by decide) rfl ?_
    (refine g0_ ?_; repeat ((first | refine n1_ fun b_ => ?_ | refine n2_ fun b_ => ?_); refine g0_ ?_))
    refine ACalls.all_ hct ?_
    rintro v σ1 ⟨b', -, rfl, hm⟩
    refine ⟨_, hm, ?_⟩
    (refine g0_ ?_; repeat ((first | refine n1_ fun b_ => ?_ | refine n2_ fun b_ => ?_); refine g0_ ?_))
    cases hR : ctlR b with
    | true =>
      refine ⟨(b', .nils), .inr ⟨rfl, hpar.2 hR⟩, (by first | rfl | trivial), ?_⟩
      exact wkMem.rfl'
    | false =>
      refine ⟨(b', pv), .inl ⟨rfl, hpar.1 hR⟩, (by first | rfl | trivial), ?_⟩
      exact wkMem.rfl'
  | false =>
    have hcb : ¬ (b.toNat < 32 ∨ b.toNat = 127) := fun h => by rw [(ctlB_iff b).2 h] at hc; cases hc
    have hcR : ctlR b = false := by
      unfold ctlR; exact decide_eq_false (by omega)
    simp only [ctlV, ctlS, hc, hcR, Bool.false_eq_true, if_false, List.append_nil] at hct
    rw [midL, hc, if_neg (by simp)]
    by_cases h1 : b.toNat < 48
    · by_cases h2 : s.middle.length < 2
      · rw [if_pos ⟨h1, h2⟩, List.map_nil, List.append_nil]
        obtain ⟨a, m, mi, p, t, l, la⟩ := s
        simp only [rdB_eq] at *
        (try dsimp only at h2)
        refine acalls_of_vc (DM_ok (by decide)) Tryd.func40 rfl (by decide) (by decide) rfl ?_
        (refine g0_ ?_; repeat ((first | refine n1_ fun b_ => ?_ | refine n2_ fun b_ => ?_); refine g0_ ?_))
        refine ACalls.all_ hct ?_
        rintro v σ1 ⟨b', -, rfl, hm⟩
        refine ⟨_, hm, ?_⟩
        (refine g0_ ?_; repeat ((first | refine n1_ fun b_ => ?_ | refine n2_ fun b_ => ?_); refine g0_ ?_))
        (refine g1_ ?_; repeat ((first | refine n1_ fun b_ => ?_ | refine n2_ fun b_ => ?_); refine g1_ ?_))
        refine headT_ (head_ ?_); (refine g0_ ?_; repeat ((first | refine n1_ fun b_ => ?_ | refine n2_ fun b_ => ?_); refine g0_ ?_))
        refine ⟨[(b.toNat : Int)], rfl, ?_⟩
        rw [u8_back]
        (refine g0_ ?_; repeat ((first | refine n1_ fun b_ => ?_ | refine n2_ fun b_ => ?_); refine g0_ ?_))
        exact ⟨(b', pv), .inl ⟨(by first | rfl | trivial), (by first | rfl | trivial)⟩, (by first | rfl | trivial), wkMem.rfl'⟩
      · rw [if_neg (fun h => h2 h.2), if_neg (by omega), List.map_nil, List.append_nil]
        obtain ⟨a, m, mi, p, t, l, la⟩ := s
        simp only [rdB_eq] at *
        (try dsimp only at h2)
        refine acalls_of_vc (DM_ok (by decide)) Tryd.func40 rfl (by decide) (by decide) rfl ?_
        (refine g0_ ?_; repeat ((first | refine n1_ fun b_ => ?_ | refine n2_ fun b_ => ?_); refine g0_ ?_))
        refine ACalls.all_ hct ?_
        rintro v σ1 ⟨b', -, rfl, hm⟩
        refine ⟨_, hm, ?_⟩
        (refine g0_ ?_; repeat ((first | refine n1_ fun b_ => ?_ | refine n2_ fun b_ => ?_); refine g0_ ?_))
        (refine g1_ ?_; repeat ((first | refine n1_ fun b_ => ?_ | refine n2_ fun b_ => ?_); refine g1_ ?_))
        refine ACalls.lend (hg b') (r := accM b' 7 os) (.refl _) ?_
        rintro _ -
        (refine g0_ ?_; repeat ((first | refine n1_ fun b_ => ?_ | refine n2_ fun b_ => ?_); refine g0_ ?_))
        exact ⟨(b', .nils), .inr ⟨(by first | rfl | trivial), (by first | rfl | trivial)⟩, (by first | rfl | trivial), wkMem.rfl'⟩
    · rw [if_neg (fun h => h1 h.1)]
      by_cases h3 : b.toNat < 127
      · rw [if_pos ⟨by omega, h3⟩]
        obtain ⟨a, m, mi, p, t, l, la⟩ := s
        simp only [rdB_eq] at *
        refine acalls_of_vc (DM_ok (by decide)) Tryd.func40 rfl (by decide) (by decide) rfl ?_
        (refine g0_ ?_; repeat ((first | refine n1_ fun b_ => ?_ | refine n2_ fun b_ => ?_); refine g0_ ?_))
        refine ACalls.all_ hct ?_
        rintro v σ1 ⟨b', -, rfl, hm⟩
        refine ⟨_, hm, ?_⟩
        (refine g0_ ?_; repeat ((first | refine n1_ fun b_ => ?_ | refine n2_ fun b_ => ?_); refine g0_ ?_))
        (refine g1_ ?_; repeat ((first | refine n1_ fun b_ => ?_ | refine n2_ fun b_ => ?_); refine g1_ ?_))
        refine ACalls.all_ (tell_ok W r b' pv .nils os ⟨a, m, mi, p, t, l, la⟩ ({ ev0 with kind := 3, final := b, middle := mi } : PEv) (.inl rfl) hos hn) ?_
        rintro v σ1 ⟨b2, -, rfl, hm2⟩
        refine ⟨_, hm2, ?_⟩
        (refine g0_ ?_; repeat ((first | refine n1_ fun b_ => ?_ | refine n2_ fun b_ => ?_); refine g0_ ?_))
        refine ACalls.lend (ground_ok W r pv (accV b2 7 (os ++ [evV .nils ({ ev0 with kind := 3, final := b, middle := mi } : PEv)])) ⟨a, m, mi, p, t, l, la⟩) (r := accM b2 7 (os ++ [evV .nils ({ ev0 with kind := 3, final := b, middle := mi } : PEv)])) (.refl _) ?_
        rintro _ -
        (refine g0_ ?_; repeat ((first | refine n1_ fun b_ => ?_ | refine n2_ fun b_ => ?_); refine g0_ ?_))
        exact ⟨(b2, .nils), .inr ⟨(by first | rfl | trivial), (by first | rfl | trivial)⟩, (by first | rfl | trivial), wkMem.rfl'⟩
      · rw [if_neg (fun h => h3 h.2), List.map_nil, List.append_nil]
        obtain ⟨a, m, mi, p, t, l, la⟩ := s
        simp only [rdB_eq] at *
        refine acalls_of_vc (DM_ok (by decide)) Tryd.func40 rfl (by decide) (by decide) rfl ?_
        (refine g0_ ?_; repeat ((first | refine n1_ fun b_ => ?_ | refine n2_ fun b_ => ?_); refine g0_ ?_))
        refine ACalls.all_ hct ?_
        rintro v σ1 ⟨b', -, rfl, hm⟩
        refine ⟨_, hm, ?_⟩
        (refine g0_ ?_; repeat ((first | refine n1_ fun b_ => ?_ | refine n2_ fun b_ => ?_); refine g0_ ?_))
        (refine g1_ ?_; repeat ((first | refine n1_ fun b_ => ?_ | refine n2_ fun b_ => ?_); refine g1_ ?_))
        refine ACalls.lend (hg b') (r := accM b' 7 os) (.refl _) ?_
        rintro _ -
        (refine g0_ ?_; repeat ((first | refine n1_ fun b_ => ?_ | refine n2_ fun b_ => ?_); refine g0_ ?_))
        exact ⟨(b', .nils), .inr ⟨(by first | rfl | trivial), (by first | rfl | trivial)⟩, (by first | rfl | trivial), wkMem.rfl'⟩
theorem inSystem_ok (r bo : Nat) (pv : PV) (os : List PV) (s : PSt) (b : UInt8) (hos : os.all cellsB = true) (hn : os.length ≤ 100000) (hml : s.text.length ≤ 1000) : Acts W 42 r bo pv os s b (sysL s b) := by
  have hlt := b.toNat_lt
  have hes := inEscape_ok W r bo .nils os (stAt 1) b hos hn
  have hg := fun bo => ground_ok W r pv (accV bo 7 os) s
  unfold Acts at *
  rw [sysL]
  obtain ⟨a, m, mi, p, t, l, la⟩ := s
  dsimp only at hml ⊢
  cases la with
  | true =>
    by_cases h1 : b.toNat = 92
    · rw [if_pos (.inl ⟨rfl, h1⟩)]
      simp only [rdB_eq] at *
      refine acalls_of_vc (DM_ok (by decide)) Tryd.func42 rfl (by decide) (by decide) rfl ?_
      (refine g0_ ?_; repeat ((first | refine n1_ fun b_ => ?_ | refine n2_ fun b_ => ?_); refine g0_ ?_))
      (refine g1_ ?_; repeat ((first | refine n1_ fun b_ => ?_ | refine n2_ fun b_ => ?_); refine g1_ ?_))
      refine ACalls.all_ (tell_ok W r bo pv .nils os ⟨a, m, mi, p, t, l, true⟩ ({ ev0 with kind := 5, text := t } : PEv) (.inl rfl) hos hn) ?_
      rintro v σ1 ⟨b2, -, rfl, hm2⟩
      refine ⟨_, hm2, ?_⟩
      (refine g0_ ?_; repeat ((first | refine n1_ fun b_ => ?_ | refine n2_ fun b_ => ?_); refine g0_ ?_))
      refine ACalls.lend (ground_ok W r pv (accV b2 7 (os ++ [evV .nils ({ ev0 with kind := 5, text := t } : PEv)])) ⟨a, m, mi, p, t, l, true⟩) (r := accM b2 7 (os ++ [evV .nils ({ ev0 with kind := 5, text := t } : PEv)])) (.refl _) ?_
      rintro _ -
      (refine g0_ ?_; repeat ((first | refine n1_ fun b_ => ?_ | refine n2_ fun b_ => ?_); refine g0_ ?_))
      exact ⟨(b2, .nils), .inr ⟨(by first | rfl | trivial), (by first | rfl | trivial)⟩, (by first | rfl | trivial), wkMem.rfl'⟩
    · rw [if_neg (by simp [h1]), if_pos rfl]
      generalize escL (stAt 1) b = q at *
      rw [show stAt 1 = ⟨1, 0, [], [], [], [], false⟩ from rfl] at hes
      simp only [rdB_eq] at *
      refine acalls_of_vc (DM_ok (by decide)) Tryd.func42 rfl (by decide) (by decide) rfl ?_
      (refine g0_ ?_; repeat ((first | refine n1_ fun b_ => ?_ | refine n2_ fun b_ => ?_); refine g0_ ?_))
      (refine g1_ ?_; repeat ((first | refine n1_ fun b_ => ?_ | refine n2_ fun b_ => ?_); refine g1_ ?_))
      refine ACalls.all_ hes ?_
      rintro v σ1 ⟨⟨b', pv'⟩, hx, rfl, hm⟩
      refine ⟨_, hm, ?_⟩
      (refine g0_ ?_; repeat ((first | refine n1_ fun b_ => ?_ | refine n2_ fun b_ => ?_); refine g0_ ?_))
      refine ⟨(b', .nils), .inr ⟨rfl, ?_⟩, (by first | rfl | trivial), ?_⟩
      · rcases hx with hx | hx
        · exact hx.2
        · exact hx.2
      · rcases hx with hx | hx
        · rw [show pv' = .nils from hx.1]; exact wkMem.rfl'
        · rw [show pv' = .nils from hx.1]; exact wkMem.rfl'
  | false =>
    by_cases h1 : b.toNat = 7
    · rw [if_pos (.inr ⟨rfl, h1⟩)]
      simp only [rdB_eq] at *
      refine acalls_of_vc (DM_ok (by decide)) Tryd.func42 rfl (by decide) (by decide) rfl ?_
      (refine g0_ ?_; repeat ((first | refine n1_ fun b_ => ?_ | refine n2_ fun b_ => ?_); refine g0_ ?_))
      (refine g1_ ?_; repeat ((first | refine n1_ fun b_ => ?_ | refine n2_ fun b_ => ?_); refine g1_ ?_))
      refine ACalls.all_ (tell_ok W r bo pv .nils os ⟨a, m, mi, p, t, l, false⟩ ({ ev0 with kind := 5, text := t } : PEv) (.inl rfl) hos hn) ?_
      rintro v σ1 ⟨b2, -, rfl, hm2⟩
      refine ⟨_, hm2, ?_⟩
      (refine g0_ ?_; repeat ((first | refine n1_ fun b_ => ?_ | refine n2_ fun b_ => ?_); refine g0_ ?_))
      refine ACalls.lend (ground_ok W r pv (accV b2 7 (os ++ [evV .nils ({ ev0 with kind := 5, text := t } : PEv)])) ⟨a, m, mi, p, t, l, false⟩) (r := accM b2 7 (os ++ [evV .nils ({ ev0 with kind := 5, text := t } : PEv)])) (.refl _) ?_
      rintro _ -
      (refine g0_ ?_; repeat ((first | refine n1_ fun b_ => ?_ | refine n2_ fun b_ => ?_); refine g0_ ?_))
      exact ⟨(b2, .nils), .inr ⟨(by first | rfl | trivial), (by first | rfl | trivial)⟩, (by first | rfl | trivial), wkMem.rfl'⟩
    rw [if_neg (by simp [h1]), if_neg (by simp)]
    by_cases h2 : b.toNat = 27
    · rw [if_pos h2, List.map_nil, List.append_nil]
      simp only [rdB_eq] at *
      refine acalls_of_vc (DM_ok (by decide)) Tryd.func42 rfl (by decide) (by decide) rfl ?_
      (refine g0_ ?_; repeat ((first | refine n1_ fun b_ => ?_ | refine n2_ fun b_ => ?_); refine g0_ ?_))
      (refine g1_ ?_; repeat ((first | refine n1_ fun b_ => ?_ | refine n2_ fun b_ => ?_); refine g1_ ?_))
      exact ⟨(bo, pv), .inl ⟨(by first | rfl | trivial), (by first | rfl | trivial)⟩, (by first | rfl | trivial), wkMem.rfl'⟩
    rw [if_neg h2]
    by_cases h3 : b.toNat = 24 ∨ b.toNat = 26
    · rw [if_pos h3, List.map_nil, List.append_nil]
      simp only [rdB_eq] at *
      rcases h3 with h3 | h3
      · refine acalls_of_vc (DM_ok (by decide)) Tryd.func42 rfl (by decide) (by decide) rfl ?_
        (refine g0_ ?_; repeat ((first | refine n1_ fun b_ => ?_ | refine n2_ fun b_ => ?_); refine g0_ ?_))
        (refine g1_ ?_; repeat ((first | refine n1_ fun b_ => ?_ | refine n2_ fun b_ => ?_); refine g1_ ?_))
        refine ACalls.lend (hg bo) (r := accM bo 7 os) (.refl _) ?_
        rintro _ -
        (refine g0_ ?_; repeat ((first | refine n1_ fun b_ => ?_ | refine n2_ fun b_ => ?_); refine g0_ ?_))
        exact ⟨(bo, .nils), .inr ⟨(by first | rfl | trivial), (by first | rfl | trivial)⟩, (by first | rfl | trivial), wkMem.rfl'⟩
      · refine acalls_of_vc (DM_ok (by decide)) Tryd.func42 rfl (by decide) (by decide) rfl ?_
        (refine g0_ ?_; repeat ((first | refine n1_ fun b_ => ?_ | refine n2_ fun b_ => ?_); refine g0_ ?_))
        (refine g1_ ?_; repeat ((first | refine n1_ fun b_ => ?_ | refine n2_ fun b_ => ?_); refine g1_ ?_))
        refine ACalls.lend (hg bo) (r := accM bo 7 os) (.refl _) ?_
        rintro _ -
        (refine g0_ ?_; repeat ((first | refine n1_ fun b_ => ?_ | refine n2_ fun b_ => ?_); refine g0_ ?_))
        exact ⟨(bo, .nils), .inr ⟨(by first | rfl | trivial), (by first | rfl | trivial)⟩, (by first | rfl | trivial), wkMem.rfl'⟩
    rw [if_neg h3]
    by_cases h4 : b.toNat < 32
    · rw [if_pos h4, List.map_nil, List.append_nil]
      simp only [rdB_eq] at *
      refine acalls_of_vc (DM_ok (by decide)) Tryd.func42 rfl (by decide) (by decide) rfl ?_
      (refine g0_ ?_; repeat ((first | refine n1_ fun b_ => ?_ | refine n2_ fun b_ => ?_); refine g0_ ?_))
      (refine g1_ ?_; repeat ((first | refine n1_ fun b_ => ?_ | refine n2_ fun b_ => ?_); refine g1_ ?_))
      exact ⟨(bo, pv), .inl ⟨(by first | rfl | trivial), (by first | rfl | trivial)⟩, (by first | rfl | trivial), wkMem.rfl'⟩
    rw [if_neg h4]
    by_cases h5 : t.length = 64
    · rw [if_pos h5, List.map_nil, List.append_nil]
      simp only [rdB_eq] at *
      refine acalls_of_vc (DM_ok (by decide)) Tryd.func42 rfl (by decide) (by decide) rfl ?_
      (refine g0_ ?_; repeat ((first | refine n1_ fun b_ => ?_ | refine n2_ fun b_ => ?_); refine g0_ ?_))
      (refine g1_ ?_; repeat ((first | refine n1_ fun b_ => ?_ | refine n2_ fun b_ => ?_); refine g1_ ?_))
      exact ⟨(bo, pv), .inl ⟨(by first | rfl | trivial), (by first | rfl | trivial)⟩, (by first | rfl | trivial), wkMem.rfl'⟩
    · rw [if_neg h5, List.map_nil, List.append_nil]
      simp only [rdB_eq] at *
      refine acalls_of_vc (DM_ok (by decide)) Tryd.func42 rfl (by decide) (by decide) rfl ?_
      (refine g0_ ?_; repeat ((first | refine n1_ fun b_ => ?_ | refine n2_ fun b_ => ?_); refine g0_ ?_))
      (refine g1_ ?_; repeat ((first | refine n1_ fun b_ => ?_ | refine n2_ fun b_ => ?_); refine g1_ ?_))
      refine headT_ (head_ ?_); (refine g0_ ?_; repeat ((first | refine n1_ fun b_ => ?_ | refine n2_ fun b_ => ?_); refine g0_ ?_))
      refine ⟨[(b.toNat : Int)], rfl, ?_⟩
      rw [u8_back]
      (refine g0_ ?_; repeat ((first | refine n1_ fun b_ => ?_ | refine n2_ fun b_ => ?_); refine g0_ ?_))
      exact ⟨(bo, pv), .inl ⟨(by first | rfl | trivial), (by first | rfl | trivial)⟩, (by first | rfl | trivial), wkMem.rfl'⟩
end Go.Eng.YtkcldifniomfoaaDoor
end

/- The reader of escape sequences: on the ground (b_). -/
section
namespace Go.Eng.YtkcldifniomfoaaDoor
open Go Go.Eng Go.Proofs
variable (W : World)
set_option linter.unusedSimpArgs false
set_option maxRecDepth 100000
set_option linter.unusedVariables false
set_option maxHeartbeats 8000000
abbrev FullOk : Prop := ∀ s : List UInt8, s.length ≤ 100000 → Pure Tryd.prog W 23 [.str s] (.bool (fullL s))
theorem dec_top (s : List UInt8) : (dec s).1 ≤ 1114111 := by
  by_cases h : s = []
  · subst h; decide +kernel
  · rw [dec_P h]
    unfold Lib.decodeN
    (repeat' split) <;> dsimp only <;> omega
theorem at0 {s : List UInt8} (h : s ≠ []) : ∃ c, s[0]? = some c ∧ c.toNat = gB s 0 := by
  cases s with
  | nil => exact absurd rfl h
  | cons c r => exact ⟨c, rfl, rfl⟩
theorem eat_ev : ∀ (n : Nat) (l : List UInt8), ∀ e ∈ (eatL n l).2, e.params = []
  | 0, l, e, he => by cases he
  | n + 1, l, e, he => by
    rw [eatL] at he
    split at he
    · cases he
    · rcases List.mem_cons.1 he with rfl | he
      · rfl
      · exact eat_ev n _ e he
/-- What stands in front of a round: the rest, and what has been told. -/
def Gr (l : List UInt8) (b : UInt8) (E : List UInt8 × List PEv) (os : List PV) (L : List UInt8) (os' : List PV) : Prop :=
  (∃ k, L = (l ++ [b]).drop k) ∧ ∃ es, os' = os ++ es.map (evV .nils) ∧ E = ((eatL L.length L).1, es ++ (eatL L.length L).2) ∧ es.length + L.length ≤ 4
theorem ev_cells (es : List PEv) : (es.map (evV .nils)).all cellsB = true := by
  induction es with
  | nil => rfl
  | cons e es ih => rw [List.map_cons, List.all_cons, ih]; rfl
section
variable {l : List UInt8} {b : UInt8} {E : List UInt8 × List PEv} {os : List PV} {L : List UInt8} {os' : List PV}
theorem Gr.init (hl : (l ++ [b]).length ≤ 4) (hE : eatL (l ++ [b]).length (l ++ [b]) = E) : Gr l b E os (l ++ [b]) os := by
  refine ⟨⟨0, rfl⟩, [], by simp, ?_, by simpa using hl⟩
  rw [hE]; rfl
theorem Gr.cells (h : Gr l b E os L os') (hos : os.all cellsB = true) : os'.all cellsB = true := by
  obtain ⟨-, es, rfl, -⟩ := h
  rw [List.all_append, hos, ev_cells]; rfl
theorem Gr.len (h : Gr l b E os L os') : os'.length ≤ os.length + 4 := by
  obtain ⟨-, es, rfl, -, h⟩ := h
  simp; omega
theorem Gr.len' (h : Gr l b E os L os') : L.length ≤ 4 := by
  obtain ⟨-, es, rfl, -, h⟩ := h
  omega
theorem Gr.stop (h : Gr l b E os L os') (hs : L = [] ∨ fullL L = false) : os' = os ++ E.2.map (evV .nils) ∧ L = E.1 := by
  obtain ⟨-, es, rfl, rfl, -⟩ := h
  have h0 : eatL L.length L = (L, []) := by
    cases L with
    | nil => rfl
    | cons c r => rw [List.length_cons, eatL, if_pos hs]
  rw [h0, List.append_nil]
  exact ⟨rfl, rfl⟩
theorem Gr.next (h : Gr l b E os L os') (hn : L ≠ []) (hf : fullL L = true) : Gr l b E os (L.drop (dec L).2) (os' ++ [evV .nils (printE (dec L).1)]) := by
  obtain ⟨⟨k, hk⟩, es, rfl, rfl, hl⟩ := h
  have hd := dec_le L
  have hp := dec_pos L hn
  refine ⟨⟨k + (dec L).2, by rw [hk, List.drop_drop]⟩, es ++ [printE (dec L).1], by simp, ?_, by simp; omega⟩
  have h0 : eatL L.length L = ((eatL (L.drop (dec L).2).length (L.drop (dec L).2)).1, printE (dec L).1 :: (eatL (L.drop (dec L).2).length (L.drop (dec L).2)).2) := by
    have hl0 : 0 < L.length := List.length_pos_iff.2 hn
    obtain ⟨n, hn'⟩ : ∃ n, L.length = n + 1 := ⟨L.length - 1, by omega⟩
    rw [hn', eatL, if_neg (by rw [hf]; simp [hn]), eatL_fuel n _ (by rw [List.length_drop]; omega)]
  rw [h0]
  simp
theorem Gr.head (h : Gr l b E os L os') (hn : L ≠ []) (hhd : ∀ k, k < (l ++ [b]).length → 32 ≤ gB (l ++ [b]) k ∧ gB (l ++ [b]) k ≠ 127) : 32 ≤ gB L 0 ∧ gB L 0 ≠ 127 := by
  obtain ⟨⟨k, hk⟩, -⟩ := h
  have hk' : k < (l ++ [b]).length := by
    refine Decidable.byContradiction fun hc => hn ?_
    rw [hk, List.drop_eq_nil_iff]; omega
  have := hhd k hk'
  rw [hk, gB_drop]
  exact this
end
theorem inGround_plain (hT : Tabs W) (hF : FullOk W) (r bo : Nat) (pv : PV) (os : List PV) (s : PSt) (b : UInt8) (hos : os.all cellsB = true) (hn : os.length ≤ 90000) (hl : s.left = [] ∨ fullL s.left = false) (hll : s.left.length ≤ 3) (hc : ctlB b = false) : Acts W 38 r bo pv os s b (groundL s b) := by
  have hlt := b.toNat_lt
  have hct := control_ok W r bo pv os s b hos (by omega)
  have hcb : ¬ (b.toNat < 32 ∨ b.toNat = 127) := fun h => by rw [(ctlB_iff b).2 h] at hc; cases hc
  have hhd := fun k => ground_head (s := s.left) hl hc (k := k)
  unfold Acts
  have hcR : ctlR b = false := by
    unfold ctlR; exact decide_eq_false (by omega)
  simp only [ctlV, ctlS, hc, hcR, Bool.false_eq_true, if_false, List.append_nil] at hct
  rw [groundL, hc, if_neg (by simp)]
  have hfu := eatL_fuel (s.left.length + 1) (s.left ++ [b]) (by simp)
  rw [hfu]
  clear hfu
  have hLl : (s.left ++ [b]).length ≤ 4 := by simp; omega
  obtain ⟨a, m, mi, p, t, l, la⟩ := s
  dsimp only at *
  generalize hE : eatL (l ++ [b]).length (l ++ [b]) = E at *
  simp only [rdB_eq] at *
  have hnx := fun L : List UInt8 => next_ok W hT L
  by_cases hl0 : l = []
  · subst hl0
    refine acalls_of_vc (DM_ok (by decide)) Tryd.func38 rfl (by decide) (by decide) rfl ?_
    (refine g0_ ?_; repeat ((first | refine n1_ fun b_ => ?_ | refine n2_ fun b_ => ?_); refine g0_ ?_))
    refine ACalls.all_ hct ?_
    rintro v σ1 ⟨b', -, rfl, hm⟩
    refine ⟨_, hm, ?_⟩
    (refine g0_ ?_; repeat ((first | refine n1_ fun b_ => ?_ | refine n2_ fun b_ => ?_); refine g0_ ?_))
    refine headT_ (head_ ?_); (refine g0_ ?_; repeat ((first | refine n1_ fun b_ => ?_ | refine n2_ fun b_ => ?_); refine g0_ ?_))
    refine ⟨[(b.toNat : Int)], rfl, ?_⟩
    rw [u8_back]
    (refine g0_ ?_; repeat ((first | refine n1_ fun b_ => ?_ | refine n2_ fun b_ => ?_); refine g0_ ?_))
    refine' loopI (α := (List UInt8) × (List PV) × Nat) (fun (L, os', c) => []) [(0, _)] (fun (L, os', c) => ⟨r, .row 8 [.agg [.int .i64 a, .int .u8 m.toNat, .str mi, pv, .str t, .str L, .bool la, accV c 7 os']] 0⟩ :: accM c 7 os') (fun (L, os', c) => Gr [] b E os L os') (fun (L, os', c) => L.length) ([] ++ [b], os, b') ?_ ?_
    · exact Gr.init hLl hE
    rintro ⟨L, os', c⟩ hgr
    have hcells := hgr.cells hos
    have hlen := hgr.len
    have hlen' := hgr.len'
    (refine g0_ ?_; repeat ((first | refine n1_ fun b_ => ?_ | refine n2_ fun b_ => ?_); refine g0_ ?_))
    refine brec ?_; intro c_ hr; (try rw [hr]); cases c_ <;> replace hr := nm_ hr
    · have hst := hgr.stop (.inl hr)
      rw [hst.2, hst.1]
      exact ⟨(c, pv), .inl ⟨(by first | rfl | trivial), (by first | rfl | trivial)⟩, (by first | rfl | trivial), wkMem.rfl'⟩
    · obtain ⟨c0, hc0, hc1⟩ := at0 hr
      have hh := hgr.head hr hhd
      have hd := dec_le L
      have hps := dec_pos L hr
      have hl0 : 0 < L.length := List.length_pos_iff.2 hr
      have hn2 := nextL_of hr
      have hrg := dec_top L
      rw [← hc1] at hh
      (refine g0_ ?_; repeat ((first | refine n1_ fun b_ => ?_ | refine n2_ fun b_ => ?_); refine g0_ ?_))
      refine ek_ ?_ hc0
      (refine g1_ ?_; repeat ((first | refine n1_ fun b_ => ?_ | refine n2_ fun b_ => ?_); refine g1_ ?_))
      refine ek_ ?_ hc0
      (refine g1_ ?_; repeat ((first | refine n1_ fun b_ => ?_ | refine n2_ fun b_ => ?_); refine g1_ ?_))
      cases hfl : fullL L with
      | false =>
        have hF1 := hF L (by omega)
        rw [hfl] at hF1
        have hst := hgr.stop (.inr hfl)
        refine (hF1).use ?_; (refine g0_ ?_; repeat ((first | refine n1_ fun b_ => ?_ | refine n2_ fun b_ => ?_); refine g0_ ?_))
        (refine g0_ ?_; repeat ((first | refine n1_ fun b_ => ?_ | refine n2_ fun b_ => ?_); refine g0_ ?_))
        rw [hst.2, hst.1]
        exact ⟨(c, pv), .inl ⟨(by first | rfl | trivial), (by first | rfl | trivial)⟩, (by first | rfl | trivial), wkMem.rfl'⟩
      | true =>
        have hF1 := hF L (by omega)
        rw [hfl] at hF1
        refine (hF1).use ?_; (refine g0_ ?_; repeat ((first | refine n1_ fun b_ => ?_ | refine n2_ fun b_ => ?_); refine g0_ ?_))
        (refine g0_ ?_; repeat ((first | refine n1_ fun b_ => ?_ | refine n2_ fun b_ => ?_); refine g0_ ?_))
        refine (hnx L).use ?_; (refine g0_ ?_; repeat ((first | refine n1_ fun b_ => ?_ | refine n2_ fun b_ => ?_); refine g0_ ?_))
        rw [hn2]
        (refine g1_ ?_; repeat ((first | refine n1_ fun b_ => ?_ | refine n2_ fun b_ => ?_); refine g1_ ?_))
        refine ACalls.all_ (tell_ok W r c pv .nils os' ⟨a, m, mi, p, t, L.drop (dec L).2, la⟩ (printE (dec L).1) (.inl rfl) hcells (by omega)) ?_
        rintro v σ1 ⟨c2, -, rfl, hm2⟩
        refine ⟨_, hm2, ?_⟩
        (refine g0_ ?_; repeat ((first | refine n1_ fun b_ => ?_ | refine n2_ fun b_ => ?_); refine g0_ ?_))
        refine nx_ (L.drop (dec L).2, os' ++ [evV .nils (printE (dec L).1)], c2) ?_ ?_
        · exact hgr.next hr hfl
        · ((try dsimp only); (try simp only [List.length_drop, List.length_take, List.length_append, List.length_cons, List.length_nil, List.length_map] at *); omega)
  · refine acalls_of_vc (DM_ok (by decide)) Tryd.func38 rfl (by decide) (by decide) rfl ?_
    (refine g0_ ?_; repeat ((first | refine n1_ fun b_ => ?_ | refine n2_ fun b_ => ?_); refine g0_ ?_))
    (refine g1_ ?_; repeat ((first | refine n1_ fun b_ => ?_ | refine n2_ fun b_ => ?_); refine g1_ ?_))
    refine headT_ (head_ ?_); (refine g0_ ?_; repeat ((first | refine n1_ fun b_ => ?_ | refine n2_ fun b_ => ?_); refine g0_ ?_))
    refine ⟨[(b.toNat : Int)], rfl, ?_⟩
    rw [u8_back]
    (refine g0_ ?_; repeat ((first | refine n1_ fun b_ => ?_ | refine n2_ fun b_ => ?_); refine g0_ ?_))
    refine' loopI (α := (List UInt8) × (List PV) × Nat) (fun (L, os', c) => []) [(0, _)] (fun (L, os', c) => ⟨r, .row 8 [.agg [.int .i64 a, .int .u8 m.toNat, .str mi, pv, .str t, .str L, .bool la, accV c 7 os']] 0⟩ :: accM c 7 os') (fun (L, os', c) => Gr l b E os L os') (fun (L, os', c) => L.length) (l ++ [b], os, bo) ?_ ?_
    · exact Gr.init hLl hE
    rintro ⟨L, os', c⟩ hgr
    have hcells := hgr.cells hos
    have hlen := hgr.len
    have hlen' := hgr.len'
    (refine g0_ ?_; repeat ((first | refine n1_ fun b_ => ?_ | refine n2_ fun b_ => ?_); refine g0_ ?_))
    refine brec ?_; intro c_ hr; (try rw [hr]); cases c_ <;> replace hr := nm_ hr
    · have hst := hgr.stop (.inl hr)
      rw [hst.2, hst.1]
      exact ⟨(c, pv), .inl ⟨(by first | rfl | trivial), (by first | rfl | trivial)⟩, (by first | rfl | trivial), wkMem.rfl'⟩
    · obtain ⟨c0, hc0, hc1⟩ := at0 hr
      have hh := hgr.head hr hhd
      have hd := dec_le L
      have hps := dec_pos L hr
      have hl0 : 0 < L.length := List.length_pos_iff.2 hr
      have hn2 := nextL_of hr
      have hrg := dec_top L
      rw [← hc1] at hh
      (refine g0_ ?_; repeat ((first | refine n1_ fun b_ => ?_ | refine n2_ fun b_ => ?_); refine g0_ ?_))
      refine ek_ ?_ hc0
      (refine g1_ ?_; repeat ((first | refine n1_ fun b_ => ?_ | refine n2_ fun b_ => ?_); refine g1_ ?_))
      refine ek_ ?_ hc0
      (refine g1_ ?_; repeat ((first | refine n1_ fun b_ => ?_ | refine n2_ fun b_ => ?_); refine g1_ ?_))
      cases hfl : fullL L with
      | false =>
        have hF1 := hF L (by omega)
        rw [hfl] at hF1
        have hst := hgr.stop (.inr hfl)
        refine (hF1).use ?_; (refine g0_ ?_; repeat ((first | refine n1_ fun b_ => ?_ | refine n2_ fun b_ => ?_); refine g0_ ?_))
        (refine g0_ ?_; repeat ((first | refine n1_ fun b_ => ?_ | refine n2_ fun b_ => ?_); refine g0_ ?_))
        rw [hst.2, hst.1]
        exact ⟨(c, pv), .inl ⟨(by first | rfl | trivial), (by first | rfl | trivial)⟩, (by first | rfl | trivial), wkMem.rfl'⟩
      | true =>
        have hF1 := hF L (by omega)
        rw [hfl] at hF1
        refine (hF1).use ?_; (refine g0_ ?_; repeat ((first | refine n1_ fun b_ => ?_ | refine n2_ fun b_ => ?_); refine g0_ ?_))
        (refine g0_ ?_; repeat ((first | refine n1_ fun b_ => ?_ | refine n2_ fun b_ => ?_); refine g0_ ?_))
        refine (hnx L).use ?_; (refine g0_ ?_; repeat ((first | refine n1_ fun b_ => ?_ | refine n2_ fun b_ => ?_); refine g0_ ?_))
        rw [hn2]
        (refine g1_ ?_; repeat ((first | refine n1_ fun b_ => ?_ | refine n2_ fun b_ => ?_); refine g1_ ?_))
        refine ACalls.all_ (tell_ok W r c pv .nils os' ⟨a, m, mi, p, t, L.drop (dec L).2, la⟩ (printE (dec L).1) (.inl rfl) hcells (by omega)) ?_
        rintro v σ1 ⟨c2, -, rfl, hm2⟩
        refine ⟨_, hm2, ?_⟩
        (refine g0_ ?_; repeat ((first | refine n1_ fun b_ => ?_ | refine n2_ fun b_ => ?_); refine g0_ ?_))
        refine nx_ (L.drop (dec L).2, os' ++ [evV .nils (printE (dec L).1)], c2) ?_ ?_
        · exact hgr.next hr hfl
        · ((try dsimp only); (try simp only [List.length_drop, List.length_take, List.length_append, List.length_cons, List.length_nil, List.length_map] at *); omega)
/-! ### A control byte -/
def toldL (l : List UInt8) : List PEv := l.map (fun _ => printE 65533)
/-- What stands in front of a round, where a control byte is to come. -/
def Gc (l : List UInt8) (b : UInt8) (os : List PV) (L : List UInt8) (os' : List PV) : Prop :=
  ∃ k, k ≤ l.length ∧ L = l.drop k ++ [b] ∧ os' = os ++ (toldL (l.take k)).map (evV .nils)
section
variable {l : List UInt8} {b : UInt8} {os : List PV} {L : List UInt8} {os' : List PV}
theorem Gc.init : Gc l b os (l ++ [b]) os := ⟨0, Nat.zero_le _, rfl, by simp [toldL]⟩
theorem Gc.cells (h : Gc l b os L os') (hos : os.all cellsB = true) : os'.all cellsB = true := by
  obtain ⟨k, -, -, rfl⟩ := h
  rw [List.all_append, hos, ev_cells]; rfl
theorem Gc.len (h : Gc l b os L os') : os'.length ≤ os.length + l.length := by
  obtain ⟨k, hk, -, rfl⟩ := h
  simp [toldL]; omega
theorem Gc.ne (h : Gc l b os L os') : L ≠ [] := by
  obtain ⟨k, hk, rfl, -⟩ := h
  simp
theorem Gc.len' (h : Gc l b os L os') : L.length ≤ l.length + 1 := by
  obtain ⟨k, hk, rfl, -⟩ := h
  simp
theorem Gc.way (h : Gc l b os L os') (hf : fullL l = false) (hb : b.toNat < 128) : (L = [b] ∧ os' = os ++ (toldL l).map (evV .nils)) ∨ (fullL L = true ∧ dec L = (65533, 1) ∧ 128 ≤ gB L 0 ∧ Gc l b os (L.drop 1) (os' ++ [evV .nils (printE 65533)])) := by
  obtain ⟨k, hk, rfl, rfl⟩ := h
  by_cases e : k = l.length
  · left
    subst e
    simp
  · right
    have hk' : k < l.length := by omega
    obtain ⟨h1, h2, h3⟩ := part_drop hf hb hk'
    refine ⟨h1, h2, h3, k + 1, by omega, ?_, ?_⟩
    · rw [List.drop_append_of_le_length (by rw [List.length_drop]; omega), List.drop_drop]
    · have e : l.take (k + 1) = l.take k ++ [l[k]] := by simp
      rw [e, toldL, toldL, List.map_append, List.map_append]
      simp
end
theorem inGround_ctl (hT : Tabs W) (hF : FullOk W) (r bo : Nat) (pv : PV) (os : List PV) (s : PSt) (b : UInt8) (hos : os.all cellsB = true) (hn : os.length ≤ 90000) (hl : s.left = [] ∨ fullL s.left = false) (hll : s.left.length ≤ 3) (hc : ctlB b = true) : Acts W 38 r bo pv os s b (groundL s b) := by
  have hlt := b.toNat_lt
  have hb := (ctlB_iff b).1 hc
  have hnx := fun L : List UInt8 => next_ok W hT L
  unfold Acts
  by_cases hl0 : s.left = []
  · have hct := control_ok W r bo pv os s b hos (by omega)
    have hpar := ctlL_par s b
    have hg : groundL s b = ctlL s b := by
      have e : ({ s with left := [] } : PSt) = s := by rw [← hl0]
      rw [groundL, if_pos hc, e, hl0]; rfl
    rw [hg]
    rw [ctlV, ctlS, hc, if_pos rfl, if_pos rfl] at hct
    obtain ⟨a, m, mi, p, t, l, la⟩ := s
    generalize ctlL ⟨a, m, mi, p, t, l, la⟩ b = q at *
    dsimp only at hl0
    subst hl0
    simp only [rdB_eq] at *
    refine acalls_of_vc (DM_ok (by decide)) Tryd.func38 rfl (by decide) (by decide) rfl ?_
    (refine g0_ ?_; repeat ((first | refine n1_ fun b_ => ?_ | refine n2_ fun b_ => ?_); refine g0_ ?_))
    refine ACalls.all_ hct ?_
    rintro v σ1 ⟨b', -, rfl, hm⟩
    refine ⟨_, hm, ?_⟩
    (refine g0_ ?_; repeat ((first | refine n1_ fun b_ => ?_ | refine n2_ fun b_ => ?_); refine g0_ ?_))
    cases hR : ctlR b with
    | true =>
      refine ⟨(b', .nils), .inr ⟨rfl, hpar.2 hR⟩, (by first | rfl | trivial), ?_⟩
      exact wkMem.rfl'
    | false =>
      refine ⟨(b', pv), .inl ⟨rfl, hpar.1 hR⟩, (by first | rfl | trivial), ?_⟩
      exact wkMem.rfl'
  · have hf : fullL s.left = false := hl.resolve_left hl0
    have hct := fun (c : Nat) (os' : List PV) (h1 : os'.all cellsB = true) (h2 : os'.length ≤ 100000) => control_ok W r c pv os' { s with left := [] } b h1 h2
    have hpar := ctlL_par { s with left := [] } b
    rw [groundL, if_pos hc]
    simp only [ctlV, ctlS, hc, if_true] at hct
    obtain ⟨a, m, mi, p, t, l, la⟩ := s
    dsimp only at *
    generalize ctlL ⟨a, m, mi, p, t, [], la⟩ b = q at *
    simp only [rdB_eq] at *
    refine acalls_of_vc (DM_ok (by decide)) Tryd.func38 rfl (by decide) (by decide) rfl ?_
    (refine g0_ ?_; repeat ((first | refine n1_ fun b_ => ?_ | refine n2_ fun b_ => ?_); refine g0_ ?_))
    (refine g1_ ?_; repeat ((first | refine n1_ fun b_ => ?_ | refine n2_ fun b_ => ?_); refine g1_ ?_))
    refine headT_ (head_ ?_); (refine g0_ ?_; repeat ((first | refine n1_ fun b_ => ?_ | refine n2_ fun b_ => ?_); refine g0_ ?_))
    refine ⟨[(b.toNat : Int)], rfl, ?_⟩
    rw [u8_back]
    (refine g0_ ?_; repeat ((first | refine n1_ fun b_ => ?_ | refine n2_ fun b_ => ?_); refine g0_ ?_))
    refine' loopI (α := (List UInt8) × (List PV) × Nat) (fun (L, os', c) => []) [(0, _)] (fun (L, os', c) => ⟨r, .row 8 [.agg [.int .i64 a, .int .u8 m.toNat, .str mi, pv, .str t, .str L, .bool la, accV c 7 os']] 0⟩ :: accM c 7 os') (fun (L, os', c) => Gc l b os L os') (fun (L, os', c) => L.length) (l ++ [b], os, bo) ?_ ?_
    · exact Gc.init
    rintro ⟨L, os', c⟩ hgr
    have hcells := hgr.cells hos
    have hlen := hgr.len
    have hlen' := hgr.len'
    have hr := hgr.ne
    have hl0 : 0 < L.length := List.length_pos_iff.2 hr
    (refine g0_ ?_; repeat ((first | refine n1_ fun b_ => ?_ | refine n2_ fun b_ => ?_); refine g0_ ?_))
    (refine g1_ ?_; repeat ((first | refine n1_ fun b_ => ?_ | refine n2_ fun b_ => ?_); refine g1_ ?_))
    rcases hgr.way hf (by omega) with ⟨rfl, rfl⟩ | ⟨w1, w2, w3, w4⟩
    · refine ek_ (l := [b]) (q := 0) (a := b) ?_ rfl
      by_cases h32 : b.toNat < 32
      · (refine g1_ ?_; repeat ((first | refine n1_ fun b_ => ?_ | refine n2_ fun b_ => ?_); refine g1_ ?_))
        refine ACalls.all_ (hct c _ hcells (by omega)) ?_
        rintro v σ1 ⟨c2, -, rfl, hm2⟩
        refine ⟨_, hm2, ?_⟩
        (refine g0_ ?_; repeat ((first | refine n1_ fun b_ => ?_ | refine n2_ fun b_ => ?_); refine g0_ ?_))
        refine .run ⟨1, ?_⟩
        (refine g0_ ?_; repeat ((first | refine n1_ fun b_ => ?_ | refine n2_ fun b_ => ?_); refine g0_ ?_))
        (refine g1_ ?_; repeat ((first | refine n1_ fun b_ => ?_ | refine n2_ fun b_ => ?_); refine g1_ ?_))
        have he : os ++ (toldL l).map (evV .nils) ++ q.2.map (evV .nils) = os ++ (l.map (fun _ => printE 65533) ++ q.2).map (evV .nils) := by
          rw [List.map_append, List.append_assoc]; rfl
        rw [he]
        cases hR : ctlR b with
        | true =>
          refine ⟨(c2, .nils), .inr ⟨rfl, hpar.2 hR⟩, (by first | rfl | trivial), ?_⟩
          exact wkMem.rfl'
        | false =>
          refine ⟨(c2, pv), .inl ⟨rfl, hpar.1 hR⟩, (by first | rfl | trivial), ?_⟩
          exact wkMem.rfl'
      · (refine g1_ ?_; repeat ((first | refine n1_ fun b_ => ?_ | refine n2_ fun b_ => ?_); refine g1_ ?_))
        refine ACalls.all_ (hct c _ hcells (by omega)) ?_
        rintro v σ1 ⟨c2, -, rfl, hm2⟩
        refine ⟨_, hm2, ?_⟩
        (refine g0_ ?_; repeat ((first | refine n1_ fun b_ => ?_ | refine n2_ fun b_ => ?_); refine g0_ ?_))
        refine .run ⟨1, ?_⟩
        (refine g0_ ?_; repeat ((first | refine n1_ fun b_ => ?_ | refine n2_ fun b_ => ?_); refine g0_ ?_))
        (refine g1_ ?_; repeat ((first | refine n1_ fun b_ => ?_ | refine n2_ fun b_ => ?_); refine g1_ ?_))
        have he : os ++ (toldL l).map (evV .nils) ++ q.2.map (evV .nils) = os ++ (l.map (fun _ => printE 65533) ++ q.2).map (evV .nils) := by
          rw [List.map_append, List.append_assoc]; rfl
        rw [he]
        cases hR : ctlR b with
        | true =>
          refine ⟨(c2, .nils), .inr ⟨rfl, hpar.2 hR⟩, (by first | rfl | trivial), ?_⟩
          exact wkMem.rfl'
        | false =>
          refine ⟨(c2, pv), .inl ⟨rfl, hpar.1 hR⟩, (by first | rfl | trivial), ?_⟩
          exact wkMem.rfl'
    · obtain ⟨c0, hc0, hc1⟩ := at0 hr
      rw [← hc1] at w3
      have hn2 := nextL_of hr
      rw [w2] at hn2
      have hF1 := hF L (by omega)
      rw [w1] at hF1
      refine ek_ ?_ hc0
      (refine g1_ ?_; repeat ((first | refine n1_ fun b_ => ?_ | refine n2_ fun b_ => ?_); refine g1_ ?_))
      refine ek_ ?_ hc0
      (refine g1_ ?_; repeat ((first | refine n1_ fun b_ => ?_ | refine n2_ fun b_ => ?_); refine g1_ ?_))
      refine (hF1).use ?_; (refine g0_ ?_; repeat ((first | refine n1_ fun b_ => ?_ | refine n2_ fun b_ => ?_); refine g0_ ?_))
      (refine g0_ ?_; repeat ((first | refine n1_ fun b_ => ?_ | refine n2_ fun b_ => ?_); refine g0_ ?_))
      refine (hnx L).use ?_; (refine g0_ ?_; repeat ((first | refine n1_ fun b_ => ?_ | refine n2_ fun b_ => ?_); refine g0_ ?_))
      rw [hn2]
      (refine g1_ ?_; repeat ((first | refine n1_ fun b_ => ?_ | refine n2_ fun b_ => ?_); refine g1_ ?_))
      refine ACalls.all_ (tell_ok W r c pv .nils os' ⟨a, m, mi, p, t, L.drop 1, la⟩ (printE 65533) (.inl rfl) hcells (by omega)) ?_
      rintro v σ1 ⟨c2, -, rfl, hm2⟩
      refine ⟨_, hm2, ?_⟩
      (refine g0_ ?_; repeat ((first | refine n1_ fun b_ => ?_ | refine n2_ fun b_ => ?_); refine g0_ ?_))
      refine nx_ (L.drop 1, os' ++ [evV .nils (printE 65533)], c2) ?_ ?_
      · exact w4
      · ((try dsimp only); (try simp only [List.length_drop, List.length_take, List.length_append, List.length_cons, List.length_nil, List.length_map] at *); omega)
theorem inGround_ok (hT : Tabs W) (hF : FullOk W) (r bo : Nat) (pv : PV) (os : List PV) (s : PSt) (b : UInt8) (hos : os.all cellsB = true) (hn : os.length ≤ 90000) (hl : s.left = [] ∨ fullL s.left = false) (hll : s.left.length ≤ 3) : Acts W 38 r bo pv os s b (groundL s b) := by
  cases hc : ctlB b with
  | true => exact inGround_ctl W hT hF r bo pv os s b hos hn hl hll hc
  | false => exact inGround_plain W hT hF r bo pv os s b hos hn hl hll hc
end Go.Eng.YtkcldifniomfoaaDoor
end
