/- Texts put together: Prs5, Prs6. -/
import Derived.Test.YtkcldifniomfoaaDoorMQ2
/- The reader of escape sequences: commands (b_ x_ q_ e_ pre_). -/
section
namespace Go.Eng.YtkcldifniomfoaaDoor
open Go Go.Eng Go.Proofs
variable (W : World)
set_option linter.unusedSimpArgs false
set_option maxRecDepth 100000
set_option linter.unusedVariables false
set_option maxHeartbeats 8000000
/-- What a command's byte leaves: the block of what is told, that of the numbers, what is told, what is loose. -/
abbrev CmdR := Nat × PB × List PV × Mem
def cmdM (r : Nat) (x : CmdR) (os : List PV) (s : PSt) : Mem := rdB r (parV x.2.1 s.params) (accV x.1 7 (os ++ x.2.2.1)) s :: (parM x.2.1 s.params ++ (x.2.2.2 ++ accM x.1 7 (os ++ x.2.2.1)))
def CmdOk (pb : PB) (s : PSt) (t : PSt × List PEv) (x : CmdR) : Prop :=
  (x.2.1.no ↔ t.1.params = []) ∧ ((x.2.2.1 = t.2.map (evV .nils) ∧ x.2.2.2 = [] ∧ ∀ e ∈ t.2, e.params = []) ∨ (∃ e, t.2 = [e] ∧ e.params = s.params ∧ x.2.2.1 = [evV (parV pb s.params) e] ∧ x.2.2.2 = parM pb s.params ∧ x.2.1 = .nil))
theorem last_of {p : List Int} (h : p ≠ []) (hpe : ∀ n ∈ p, -1 ≤ n ∧ n ≤ 9999) : ∃ y, p[p.length - 1]? = some y ∧ p.getD (p.length - 1) 0 = y ∧ -1 ≤ y ∧ y ≤ 9999 := by
  have hl : 0 < p.length := List.length_pos_iff.2 h
  have e : p[p.length - 1]? = some p[p.length - 1] := List.getElem?_eq_getElem (by omega)
  exact ⟨_, e, by rw [List.getD_eq_getElem?_getD, e]; rfl, hpe _ (List.getElem_mem _)⟩
/-- A call that is lent less than there is. -/
theorem frame1 {f : FuncId} {args : List PV} {X : Blk} {A : Mem} {val : PV} {M : Nat → Blk} {N : Nat → Mem} (τ : Mem) (h : ACalls Tryd.prog W f args (X :: A) (Gives (fun _ : Nat => val) (fun b' => M b' :: N b') (fun _ => True))) :
    ACalls Tryd.prog W f args (X :: (τ ++ A)) (Gives (fun _ : Nat => val) (fun b' => M b' :: (τ ++ N b')) (fun _ => True)) := by
  refine ACalls.lend h (r := τ) (.cons _ List.perm_append_comm) ?_
  rintro b' -
  exact ⟨b', trivial, rfl, [], by rw [List.append_nil]; exact .cons _ List.perm_append_comm⟩
theorem cmdM_kept (r b' : Nat) (pb' : PB) (os : List PV) (s : PSt) : cmdM r (b', pb', [], []) os s = rdB r (parV pb' s.params) (accV b' 7 os) s :: (parM pb' s.params ++ accM b' 7 os) := by simp [cmdM]
theorem CmdOk.kept {pb pb' : PB} {s t : PSt} (b' : Nat) (h : pb'.no ↔ t.params = []) : CmdOk pb s (t, []) (b', pb', [], []) := ⟨h, .inl ⟨rfl, rfl, fun e he => by cases he⟩⟩
theorem inCommand_some (r bo pb : Nat) (os : List PV) (s : PSt) (b : UInt8) (hos : os.all cellsB = true) (hn : os.length ≤ 90000) (hp : s.params ≠ []) (hpl : s.params.length ≤ 16) (hpe : ∀ n ∈ s.params, -1 ≤ n ∧ n ≤ 9999) (hml : s.middle.length ≤ 1000) (hc : ctlB b = false) :
    ACalls Tryd.prog W 41 [.bref r 0, .int .u8 b.toNat] (rdB r (parV (PB.own pb) s.params) (accV bo 7 os) s :: (parM (PB.own pb) s.params ++ accM bo 7 os))
      (Gives (fun _ : CmdR => .tup []) (fun x => cmdM r x os (cmdL s b).1) (fun x => CmdOk (PB.own pb) s (cmdL s b) x)) := by
  have hlt := b.toNat_lt
  have hct := control_ok W r bo (parV (PB.own pb) s.params) os s b hos (by omega)
  have hcb : ¬ (b.toNat < 32 ∨ b.toNat = 127) := fun h => by rw [(ctlB_iff b).2 h] at hc; cases hc
  have hcR : ctlR b = false := by
    unfold ctlR; exact decide_eq_false (by omega)
  simp only [ctlV, ctlS, hc, hcR, Bool.false_eq_true, if_false, List.append_nil] at hct
  replace hct := frame1 W [⟨pb, .row 1 (s.params.map (PV.int .i64)) 0⟩] hct
  have hg := fun bo => ground_ok W r (parV (PB.own pb) s.params) (accV bo 7 os) s
  have hp0 : 0 < s.params.length := List.length_pos_iff.2 hp
  have hpL : parL s.params = s.params := by rw [parL, if_neg hp]
  obtain ⟨y, hy, hy', hy1, hy2⟩ := last_of hp hpe
  rw [cmdL, hc, if_neg (by simp)]
  by_cases h1 : (48 ≤ b.toNat ∧ b.toNat ≤ 57 ∨ b.toNat = 59) ∧ s.middle = []
  · rw [if_pos h1, hpL]
    by_cases h2 : 48 ≤ b.toNat ∧ b.toNat ≤ 57
    · rw [if_pos h2, hy']
      obtain ⟨a, m, mi, p, t, l, la⟩ := s
      simp only [rdB_eq, parV, parM] at *
      obtain ⟨h1a, rfl⟩ := h1
      refine acalls_of_vc (DM_ok (by decide)) Tryd.func41 rfl (by decide) (by decide) rfl ?_
      (refine g0_ ?_; repeat ((first | refine n1_ fun b_ => ?_ | refine n2_ fun b_ => ?_ | refine n3_ fun b_ pre_ => ?_ | refine Nat1.mk fun q_ hq_ => ?_ | refine em_ fun x_ hx_ => ?_ | refine Elem1.mk fun e_ he_ => ?_); refine g0_ ?_))
      (refine g1_ ?_; repeat ((first | refine n1_ fun b_ => ?_ | refine n2_ fun b_ => ?_ | refine n3_ fun b_ pre_ => ?_ | refine Nat1.mk fun q_ hq_ => ?_ | refine em_ fun x_ hx_ => ?_ | refine Elem1.mk fun e_ he_ => ?_); refine g1_ ?_))
      refine ACalls.all_ hct ?_
      rintro v σ1 ⟨b', -, rfl, hm⟩
      refine ⟨_, hm, ?_⟩
      (refine g0_ ?_; repeat ((first | refine n1_ fun b_ => ?_ | refine n2_ fun b_ => ?_ | refine n3_ fun b_ pre_ => ?_ | refine Nat1.mk fun q_ hq_ => ?_ | refine em_ fun x_ hx_ => ?_ | refine Elem1.mk fun e_ he_ => ?_); refine g0_ ?_))
      (refine g1_ ?_; repeat ((first | refine n1_ fun b_ => ?_ | refine n2_ fun b_ => ?_ | refine n3_ fun b_ pre_ => ?_ | refine Nat1.mk fun q_ hq_ => ?_ | refine em_ fun x_ hx_ => ?_ | refine Elem1.mk fun e_ he_ => ?_); refine g1_ ?_))
      refine headT_ (head_ ?_); (refine g0_ ?_; repeat ((first | refine n1_ fun b_ => ?_ | refine n2_ fun b_ => ?_ | refine n3_ fun b_ pre_ => ?_ | refine Nat1.mk fun q_ hq_ => ?_ | refine em_ fun x_ hx_ => ?_ | refine Elem1.mk fun e_ he_ => ?_); refine g0_ ?_))
      (try dsimp only at hpL hp0 hy' hpe hpl)
      have hq2 : q_ = p.length - 1 := by omega
      rw [hq2, Nat.zero_add, hy] at hx_
      obtain rfl := Option.some.inj hx_
      have hz : (if y < 0 then 0 else y) = max y 0 := by split <;> omega
      rw [hz]
      have hm1 : 0 ≤ max y 0 ∧ max y 0 ≤ 9999 := by omega
      generalize max y 0 = z at *
      (refine g0_ ?_; repeat ((first | refine n1_ fun b_ => ?_ | refine n2_ fun b_ => ?_ | refine n3_ fun b_ pre_ => ?_ | refine Nat1.mk fun q_ hq_ => ?_ | refine em_ fun x_ hx_ => ?_ | refine Elem1.mk fun e_ he_ => ?_); refine g0_ ?_))
      have hmin : (if 9999 < z * 10 + ((b.toNat : Int) - 48) then 9999 else z * 10 + ((b.toNat : Int) - 48)) = min (z * 10 + ((b.toNat : Int) - 48)) 9999 := by split <;> omega
      have hq3 : q_ = p.length - 1 := by omega
      rw [hmin, hq3, Nat.zero_add]
      refine ⟨(b', PB.own pb, [], []), CmdOk.kept b' (by simp [stAt, st0, hp, PB.no]), (by first | rfl | trivial), ?_⟩
      show wkMem _ (cmdM _ _ _ _)
      rw [cmdM_kept]
      simp only [rdB_eq, parV, parM, List.length_set, List.map_set, List.map_append, List.length_append, List.map_cons, List.map_nil, List.length_cons, List.length_nil, Nat.zero_add]
      (first | exact ⟨_, .refl _⟩ | exact wkMem.rfl' | exact ⟨_, .swap _ _ _⟩ | (repeat (first | exact wkMem.nil _ | exact wkMem.rfl' | exact wk_snoc _ _ _ | exact wk_fam (by assumption) _ _ _ | exact wk_famN (by assumption) _ _ _ | (apply wkMem.cons; (case' hl => (repeat (first | exact .here _ _ _ | apply Look.there)))) | apply wkMem.skip)))
    · rw [if_neg h2]
      by_cases h3 : s.params.length = 16
      · rw [if_pos h3]
        obtain ⟨a, m, mi, p, t, l, la⟩ := s
        simp only [rdB_eq, parV, parM] at *
        obtain ⟨h1a, rfl⟩ := h1
        refine acalls_of_vc (DM_ok (by decide)) Tryd.func41 rfl (by decide) (by decide) rfl ?_
        (refine g0_ ?_; repeat ((first | refine n1_ fun b_ => ?_ | refine n2_ fun b_ => ?_ | refine n3_ fun b_ pre_ => ?_ | refine Nat1.mk fun q_ hq_ => ?_ | refine em_ fun x_ hx_ => ?_ | refine Elem1.mk fun e_ he_ => ?_); refine g0_ ?_))
        (refine g1_ ?_; repeat ((first | refine n1_ fun b_ => ?_ | refine n2_ fun b_ => ?_ | refine n3_ fun b_ pre_ => ?_ | refine Nat1.mk fun q_ hq_ => ?_ | refine em_ fun x_ hx_ => ?_ | refine Elem1.mk fun e_ he_ => ?_); refine g1_ ?_))
        refine ACalls.all_ hct ?_
        rintro v σ1 ⟨b', -, rfl, hm⟩
        refine ⟨_, hm, ?_⟩
        (refine g0_ ?_; repeat ((first | refine n1_ fun b_ => ?_ | refine n2_ fun b_ => ?_ | refine n3_ fun b_ pre_ => ?_ | refine Nat1.mk fun q_ hq_ => ?_ | refine em_ fun x_ hx_ => ?_ | refine Elem1.mk fun e_ he_ => ?_); refine g0_ ?_))
        (refine g1_ ?_; repeat ((first | refine n1_ fun b_ => ?_ | refine n2_ fun b_ => ?_ | refine n3_ fun b_ pre_ => ?_ | refine Nat1.mk fun q_ hq_ => ?_ | refine em_ fun x_ hx_ => ?_ | refine Elem1.mk fun e_ he_ => ?_); refine g1_ ?_))
        refine ⟨(b', PB.nil, [], []), CmdOk.kept b' (by simp [stAt, st0, hp, PB.no]), (by first | rfl | trivial), ?_⟩
        show wkMem _ (cmdM _ _ _ _)
        rw [cmdM_kept]
        simp only [rdB_eq, parV, parM, List.length_set, List.map_set, List.map_append, List.length_append, List.map_cons, List.map_nil, List.length_cons, List.length_nil, Nat.zero_add]
        (first | exact ⟨_, .refl _⟩ | exact wkMem.rfl' | exact ⟨_, .swap _ _ _⟩ | (repeat (first | exact wkMem.nil _ | exact wkMem.rfl' | exact wk_snoc _ _ _ | exact wk_fam (by assumption) _ _ _ | exact wk_famN (by assumption) _ _ _ | (apply wkMem.cons; (case' hl => (repeat (first | exact .here _ _ _ | apply Look.there)))) | apply wkMem.skip)))
      · rw [if_neg h3]
        obtain ⟨a, m, mi, p, t, l, la⟩ := s
        simp only [rdB_eq, parV, parM] at *
        obtain ⟨h1a, rfl⟩ := h1
        refine acalls_of_vc (DM_ok (by decide)) Tryd.func41 rfl (by decide) (by decide) rfl ?_
        (refine g0_ ?_; repeat ((first | refine n1_ fun b_ => ?_ | refine n2_ fun b_ => ?_ | refine n3_ fun b_ pre_ => ?_ | refine Nat1.mk fun q_ hq_ => ?_ | refine em_ fun x_ hx_ => ?_ | refine Elem1.mk fun e_ he_ => ?_); refine g0_ ?_))
        (refine g1_ ?_; repeat ((first | refine n1_ fun b_ => ?_ | refine n2_ fun b_ => ?_ | refine n3_ fun b_ pre_ => ?_ | refine Nat1.mk fun q_ hq_ => ?_ | refine em_ fun x_ hx_ => ?_ | refine Elem1.mk fun e_ he_ => ?_); refine g1_ ?_))
        refine ACalls.all_ hct ?_
        rintro v σ1 ⟨b', -, rfl, hm⟩
        refine ⟨_, hm, ?_⟩
        (refine g0_ ?_; repeat ((first | refine n1_ fun b_ => ?_ | refine n2_ fun b_ => ?_ | refine n3_ fun b_ pre_ => ?_ | refine Nat1.mk fun q_ hq_ => ?_ | refine em_ fun x_ hx_ => ?_ | refine Elem1.mk fun e_ he_ => ?_); refine g0_ ?_))
        (refine g1_ ?_; repeat ((first | refine n1_ fun b_ => ?_ | refine n2_ fun b_ => ?_ | refine n3_ fun b_ pre_ => ?_ | refine Nat1.mk fun q_ hq_ => ?_ | refine em_ fun x_ hx_ => ?_ | refine Elem1.mk fun e_ he_ => ?_); refine g1_ ?_))
        refine .inl ?_
        (refine g0_ ?_; repeat ((first | refine n1_ fun b_ => ?_ | refine n2_ fun b_ => ?_ | refine n3_ fun b_ pre_ => ?_ | refine Nat1.mk fun q_ hq_ => ?_ | refine em_ fun x_ hx_ => ?_ | refine Elem1.mk fun e_ he_ => ?_); refine g0_ ?_))
        refine ⟨(b', PB.own b_, [], []), CmdOk.kept b' (by simp [stAt, st0, hp, PB.no]), (by first | rfl | trivial), ?_⟩
        show wkMem _ (cmdM _ _ _ _)
        rw [cmdM_kept]
        simp only [rdB_eq, parV, parM, List.length_set, List.map_set, List.map_append, List.length_append, List.map_cons, List.map_nil, List.length_cons, List.length_nil, Nat.zero_add]
        (first | exact ⟨_, .refl _⟩ | exact wkMem.rfl' | exact ⟨_, .swap _ _ _⟩ | (repeat (first | exact wkMem.nil _ | exact wkMem.rfl' | exact wk_snoc _ _ _ | exact wk_fam (by assumption) _ _ _ | exact wk_famN (by assumption) _ _ _ | (apply wkMem.cons; (case' hl => (repeat (first | exact .here _ _ _ | apply Look.there)))) | apply wkMem.skip)))
  · rw [if_neg h1, if_neg (fun h => hp h.2.2.1)]
    by_cases h4 : b.toNat < 48 ∧ s.middle.length < 2
    · rw [if_pos h4]
      obtain ⟨a, m, mi, p, t, l, la⟩ := s
      simp only [rdB_eq, parV, parM] at *
      refine acalls_of_vc (DM_ok (by decide)) Tryd.func41 rfl (by decide) (by decide) rfl ?_
      (refine g0_ ?_; repeat ((first | refine n1_ fun b_ => ?_ | refine n2_ fun b_ => ?_ | refine n3_ fun b_ pre_ => ?_ | refine Nat1.mk fun q_ hq_ => ?_ | refine em_ fun x_ hx_ => ?_ | refine Elem1.mk fun e_ he_ => ?_); refine g0_ ?_))
      (refine g1_ ?_; repeat ((first | refine n1_ fun b_ => ?_ | refine n2_ fun b_ => ?_ | refine n3_ fun b_ pre_ => ?_ | refine Nat1.mk fun q_ hq_ => ?_ | refine em_ fun x_ hx_ => ?_ | refine Elem1.mk fun e_ he_ => ?_); refine g1_ ?_))
      refine ACalls.all_ hct ?_
      rintro v σ1 ⟨b', -, rfl, hm⟩
      refine ⟨_, hm, ?_⟩
      (refine g0_ ?_; repeat ((first | refine n1_ fun b_ => ?_ | refine n2_ fun b_ => ?_ | refine n3_ fun b_ pre_ => ?_ | refine Nat1.mk fun q_ hq_ => ?_ | refine em_ fun x_ hx_ => ?_ | refine Elem1.mk fun e_ he_ => ?_); refine g0_ ?_))
      (refine g1_ ?_; repeat ((first | refine n1_ fun b_ => ?_ | refine n2_ fun b_ => ?_ | refine n3_ fun b_ pre_ => ?_ | refine Nat1.mk fun q_ hq_ => ?_ | refine em_ fun x_ hx_ => ?_ | refine Elem1.mk fun e_ he_ => ?_); refine g1_ ?_))
      refine headT_ (head_ ?_); (refine g0_ ?_; repeat ((first | refine n1_ fun b_ => ?_ | refine n2_ fun b_ => ?_ | refine n3_ fun b_ pre_ => ?_ | refine Nat1.mk fun q_ hq_ => ?_ | refine em_ fun x_ hx_ => ?_ | refine Elem1.mk fun e_ he_ => ?_); refine g0_ ?_))
      refine ⟨[(b.toNat : Int)], rfl, ?_⟩
      rw [u8_back]
      (refine g0_ ?_; repeat ((first | refine n1_ fun b_ => ?_ | refine n2_ fun b_ => ?_ | refine n3_ fun b_ pre_ => ?_ | refine Nat1.mk fun q_ hq_ => ?_ | refine em_ fun x_ hx_ => ?_ | refine Elem1.mk fun e_ he_ => ?_); refine g0_ ?_))
      refine ⟨(b', PB.own pb, [], []), CmdOk.kept b' (by simp [stAt, st0, hp, PB.no]), (by first | rfl | trivial), ?_⟩
      show wkMem _ (cmdM _ _ _ _)
      rw [cmdM_kept]
      simp only [rdB_eq, parV, parM, List.length_set, List.map_set, List.map_append, List.length_append, List.map_cons, List.map_nil, List.length_cons, List.length_nil, Nat.zero_add]
      (first | exact ⟨_, .refl _⟩ | exact wkMem.rfl' | exact ⟨_, .swap _ _ _⟩ | (repeat (first | exact wkMem.nil _ | exact wkMem.rfl' | exact wk_snoc _ _ _ | exact wk_fam (by assumption) _ _ _ | exact wk_famN (by assumption) _ _ _ | (apply wkMem.cons; (case' hl => (repeat (first | exact .here _ _ _ | apply Look.there)))) | apply wkMem.skip)))
    rw [if_neg h4]
    by_cases h5 : 64 ≤ b.toNat ∧ b.toNat < 127
    · rw [if_pos h5]
      obtain ⟨a, m, mi, p, t, l, la⟩ := s
      rcases mi with _ | ⟨mc, mi⟩
      all_goals
        try have h1n : ¬ (48 ≤ b.toNat ∧ b.toNat ≤ 57 ∨ b.toNat = 59) := fun h => h1 ⟨h, rfl⟩
        simp only [rdB_eq, parV, parM] at *
        refine acalls_of_vc (DM_ok (by decide)) Tryd.func41 rfl (by decide) (by decide) rfl ?_
        (refine g0_ ?_; repeat ((first | refine n1_ fun b_ => ?_ | refine n2_ fun b_ => ?_ | refine n3_ fun b_ pre_ => ?_ | refine Nat1.mk fun q_ hq_ => ?_ | refine em_ fun x_ hx_ => ?_ | refine Elem1.mk fun e_ he_ => ?_); refine g0_ ?_))
        (refine g1_ ?_; repeat ((first | refine n1_ fun b_ => ?_ | refine n2_ fun b_ => ?_ | refine n3_ fun b_ pre_ => ?_ | refine Nat1.mk fun q_ hq_ => ?_ | refine em_ fun x_ hx_ => ?_ | refine Elem1.mk fun e_ he_ => ?_); refine g1_ ?_))
        refine ACalls.all_ hct ?_
        rintro v σ1 ⟨b', -, rfl, hm⟩
        refine ⟨_, hm, ?_⟩
        (refine g0_ ?_; repeat ((first | refine n1_ fun b_ => ?_ | refine n2_ fun b_ => ?_ | refine n3_ fun b_ pre_ => ?_ | refine Nat1.mk fun q_ hq_ => ?_ | refine em_ fun x_ hx_ => ?_ | refine Elem1.mk fun e_ he_ => ?_); refine g0_ ?_))
        (refine g1_ ?_; repeat ((first | refine n1_ fun b_ => ?_ | refine n2_ fun b_ => ?_ | refine n3_ fun b_ pre_ => ?_ | refine Nat1.mk fun q_ hq_ => ?_ | refine em_ fun x_ hx_ => ?_ | refine Elem1.mk fun e_ he_ => ?_); refine g1_ ?_))
        refine Draws11.tree ⟨19, [.new, .new, .new, .new, .new, .new, .new, .new, .new, .new, .new, .new, .new, .new, .new, .new, .new, .new, .turn], (.one 18 [.keep, .keep, .keep, .keep, .keep, .keep, .keep, .keep, .keep, .keep, .keep, .keep, .keep, .keep, .keep, .keep, .keep, .keep, .keep] .fin), by decide +kernel, ?_⟩; (refine g0_ ?_; repeat ((first | refine n1_ fun b_ => ?_ | refine n2_ fun b_ => ?_ | refine n3_ fun b_ pre_ => ?_ | refine Nat1.mk fun q_ hq_ => ?_ | refine em_ fun x_ hx_ => ?_ | refine Elem1.mk fun e_ he_ => ?_); refine g0_ ?_))
        refine ACalls.all_ (frame1 W [⟨pb, .row 1 (p.map (PV.int .i64)) 0⟩] (tell_ok W r b' (.rsl pb 1 0 p.length) (.rsl pb 1 0 p.length) os ⟨a, m, _, p, t, l, la⟩ ({ ev0 with kind := 4, final := b, mark := m, middle := _, params := p } : PEv) (.inr (.inr ⟨_, _, rfl⟩)) hos (by omega))) ?_
        rintro v σ1 ⟨b2, -, rfl, hm2⟩
        refine ⟨_, hm2, ?_⟩
        (refine g0_ ?_; repeat ((first | refine n1_ fun b_ => ?_ | refine n2_ fun b_ => ?_ | refine n3_ fun b_ pre_ => ?_ | refine Nat1.mk fun q_ hq_ => ?_ | refine em_ fun x_ hx_ => ?_ | refine Elem1.mk fun e_ he_ => ?_); refine g0_ ?_))
        refine ACalls.lend (ground_ok W r _ _ _) (.refl _) ?_
        rintro _ -
        (refine g0_ ?_; repeat ((first | refine n1_ fun b_ => ?_ | refine n2_ fun b_ => ?_ | refine n3_ fun b_ pre_ => ?_ | refine Nat1.mk fun q_ hq_ => ?_ | refine em_ fun x_ hx_ => ?_ | refine Elem1.mk fun e_ he_ => ?_); refine g0_ ?_))
        refine ⟨(b2, PB.nil, [evV (.rsl pb 1 0 p.length) _], [⟨pb, .row 1 (p.map (PV.int .i64)) 0⟩]), ⟨⟨fun _ => rfl, fun _ => trivial⟩, .inr ⟨_, rfl, rfl, rfl, rfl, rfl⟩⟩, (by first | rfl | trivial), ?_⟩
        exact wkMem.rfl'
    rw [if_neg h5]
    by_cases h6 : b.toNat < 128
    · rw [if_pos h6]
      obtain ⟨a, m, mi, p, t, l, la⟩ := s
      rcases mi with _ | ⟨mc, mi⟩
      all_goals
        try have h1n : ¬ (48 ≤ b.toNat ∧ b.toNat ≤ 57 ∨ b.toNat = 59) := fun h => h1 ⟨h, rfl⟩
        simp only [rdB_eq, parV, parM] at *
        refine acalls_of_vc (DM_ok (by decide)) Tryd.func41 rfl (by decide) (by decide) rfl ?_
        (refine g0_ ?_; repeat ((first | refine n1_ fun b_ => ?_ | refine n2_ fun b_ => ?_ | refine n3_ fun b_ pre_ => ?_ | refine Nat1.mk fun q_ hq_ => ?_ | refine em_ fun x_ hx_ => ?_ | refine Elem1.mk fun e_ he_ => ?_); refine g0_ ?_))
        (refine g1_ ?_; repeat ((first | refine n1_ fun b_ => ?_ | refine n2_ fun b_ => ?_ | refine n3_ fun b_ pre_ => ?_ | refine Nat1.mk fun q_ hq_ => ?_ | refine em_ fun x_ hx_ => ?_ | refine Elem1.mk fun e_ he_ => ?_); refine g1_ ?_))
        refine ACalls.all_ hct ?_
        rintro v σ1 ⟨b', -, rfl, hm⟩
        refine ⟨_, hm, ?_⟩
        (refine g0_ ?_; repeat ((first | refine n1_ fun b_ => ?_ | refine n2_ fun b_ => ?_ | refine n3_ fun b_ pre_ => ?_ | refine Nat1.mk fun q_ hq_ => ?_ | refine em_ fun x_ hx_ => ?_ | refine Elem1.mk fun e_ he_ => ?_); refine g0_ ?_))
        (refine g1_ ?_; repeat ((first | refine n1_ fun b_ => ?_ | refine n2_ fun b_ => ?_ | refine n3_ fun b_ pre_ => ?_ | refine Nat1.mk fun q_ hq_ => ?_ | refine em_ fun x_ hx_ => ?_ | refine Elem1.mk fun e_ he_ => ?_); refine g1_ ?_))
        refine ⟨(b', PB.nil, [], []), CmdOk.kept b' (by simp [stAt, st0, hp, PB.no]), (by first | rfl | trivial), ?_⟩
        show wkMem _ (cmdM _ _ _ _)
        rw [cmdM_kept]
        simp only [rdB_eq, parV, parM, List.length_set, List.map_set, List.map_append, List.length_append, List.map_cons, List.map_nil, List.length_cons, List.length_nil, Nat.zero_add]
        (first | exact ⟨_, .refl _⟩ | exact wkMem.rfl' | exact ⟨_, .swap _ _ _⟩ | (repeat (first | exact wkMem.nil _ | exact wkMem.rfl' | exact wk_snoc _ _ _ | exact wk_fam (by assumption) _ _ _ | exact wk_famN (by assumption) _ _ _ | (apply wkMem.cons; (case' hl => (repeat (first | exact .here _ _ _ | apply Look.there)))) | apply wkMem.skip)))
    · rw [if_neg h6]
      obtain ⟨a, m, mi, p, t, l, la⟩ := s
      rcases mi with _ | ⟨mc, mi⟩
      all_goals
        try have h1n : ¬ (48 ≤ b.toNat ∧ b.toNat ≤ 57 ∨ b.toNat = 59) := fun h => h1 ⟨h, rfl⟩
        simp only [rdB_eq, parV, parM] at *
        refine acalls_of_vc (DM_ok (by decide)) Tryd.func41 rfl (by decide) (by decide) rfl ?_
        (refine g0_ ?_; repeat ((first | refine n1_ fun b_ => ?_ | refine n2_ fun b_ => ?_ | refine n3_ fun b_ pre_ => ?_ | refine Nat1.mk fun q_ hq_ => ?_ | refine em_ fun x_ hx_ => ?_ | refine Elem1.mk fun e_ he_ => ?_); refine g0_ ?_))
        (refine g1_ ?_; repeat ((first | refine n1_ fun b_ => ?_ | refine n2_ fun b_ => ?_ | refine n3_ fun b_ pre_ => ?_ | refine Nat1.mk fun q_ hq_ => ?_ | refine em_ fun x_ hx_ => ?_ | refine Elem1.mk fun e_ he_ => ?_); refine g1_ ?_))
        refine ACalls.all_ hct ?_
        rintro v σ1 ⟨b', -, rfl, hm⟩
        refine ⟨_, hm, ?_⟩
        (refine g0_ ?_; repeat ((first | refine n1_ fun b_ => ?_ | refine n2_ fun b_ => ?_ | refine n3_ fun b_ pre_ => ?_ | refine Nat1.mk fun q_ hq_ => ?_ | refine em_ fun x_ hx_ => ?_ | refine Elem1.mk fun e_ he_ => ?_); refine g0_ ?_))
        (refine g1_ ?_; repeat ((first | refine n1_ fun b_ => ?_ | refine n2_ fun b_ => ?_ | refine n3_ fun b_ pre_ => ?_ | refine Nat1.mk fun q_ hq_ => ?_ | refine em_ fun x_ hx_ => ?_ | refine Elem1.mk fun e_ he_ => ?_); refine g1_ ?_))
        refine ACalls.lend (hg b') (r := ⟨pb, .row 1 (p.map (PV.int .i64)) 0⟩ :: accM b' 7 os) (.refl _) ?_
        rintro _ -
        (refine g0_ ?_; repeat ((first | refine n1_ fun b_ => ?_ | refine n2_ fun b_ => ?_ | refine n3_ fun b_ pre_ => ?_ | refine Nat1.mk fun q_ hq_ => ?_ | refine em_ fun x_ hx_ => ?_ | refine Elem1.mk fun e_ he_ => ?_); refine g0_ ?_))
        refine ⟨(b', PB.nil, [], []), CmdOk.kept b' (by simp [stAt, st0, hp, PB.no]), (by first | rfl | trivial), ?_⟩
        show wkMem _ (cmdM _ _ _ _)
        rw [cmdM_kept]
        simp only [rdB_eq, parV, parM, List.length_set, List.map_set, List.map_append, List.length_append, List.map_cons, List.map_nil, List.length_cons, List.length_nil, Nat.zero_add]
        (first | exact ⟨_, .refl _⟩ | exact wkMem.rfl' | exact ⟨_, .swap _ _ _⟩ | (repeat (first | exact wkMem.nil _ | exact wkMem.rfl' | exact wk_snoc _ _ _ | exact wk_fam (by assumption) _ _ _ | exact wk_famN (by assumption) _ _ _ | (apply wkMem.cons; (case' hl => (repeat (first | exact .here _ _ _ | apply Look.there)))) | apply wkMem.skip)))
end Go.Eng.YtkcldifniomfoaaDoor
end

/- The reader of escape sequences: commands without numbers; control bytes in commands (b_ x_ q_ e_ pre_). -/
section
namespace Go.Eng.YtkcldifniomfoaaDoor
open Go Go.Eng Go.Proofs
variable (W : World)
set_option linter.unusedSimpArgs false
set_option maxRecDepth 100000
set_option linter.unusedVariables false
set_option maxHeartbeats 8000000
theorem ctl_ev (s : PSt) (b : UInt8) : ∀ e ∈ (ctlL s b).2, e.params = [] := by
  intro e he
  unfold ctlL at he
  repeat' split at he
  all_goals first | (cases he; done) | (rw [List.mem_singleton.1 he]; rfl)
theorem mark0 (m : UInt8) : m = 0 ↔ m.toNat = 0 := by
  constructor
  · rintro rfl; rfl
  · intro h; exact UInt8.toNat_inj.1 h
theorem inCommand_ctl (r bo : Nat) (pb : PB) (os : List PV) (s : PSt) (b : UInt8) (hos : os.all cellsB = true) (hn : os.length ≤ 90000) (hpb : pb.no ↔ s.params = []) (hc : ctlB b = true) :
    ACalls Tryd.prog W 41 [.bref r 0, .int .u8 b.toNat] (rdB r (parV pb s.params) (accV bo 7 os) s :: (parM pb s.params ++ accM bo 7 os))
      (Gives (fun _ : CmdR => .tup []) (fun x => cmdM r x os (cmdL s b).1) (fun x => CmdOk pb s (cmdL s b) x)) := by
  have hlt := b.toNat_lt
  have hct := control_ok W r bo (parV pb s.params) os s b hos (by omega)
  have hpar := ctlL_par s b
  have hev := ctl_ev s b
  rw [ctlV, ctlS, hc, if_pos rfl, if_pos rfl] at hct
  rw [cmdL, if_pos hc]
  replace hct := frame1 W (parM pb s.params) hct
  generalize hpv : parV pb s.params = pv at *
  generalize hpm : parM pb s.params = pm at *
  obtain ⟨a, m, mi, p, t, l, la⟩ := s
  generalize ctlL ⟨a, m, mi, p, t, l, la⟩ b = q at *
  simp only [rdB_eq] at *
  refine acalls_of_vc (DM_ok (by decide)) Tryd.func41 rfl (by decide) (by decide) rfl ?_
  (refine g0_ ?_; repeat ((first | refine n1_ fun b_ => ?_ | refine n2_ fun b_ => ?_ | refine n3_ fun b_ pre_ => ?_ | refine Nat1.mk fun q_ hq_ => ?_ | refine em_ fun x_ hx_ => ?_ | refine Elem1.mk fun e_ he_ => ?_); refine g0_ ?_))
  refine ACalls.all_ hct ?_
  rintro v σ1 ⟨b', -, rfl, hm⟩
  refine ⟨_, hm, ?_⟩
  (refine g0_ ?_; repeat ((first | refine n1_ fun b_ => ?_ | refine n2_ fun b_ => ?_ | refine n3_ fun b_ pre_ => ?_ | refine Nat1.mk fun q_ hq_ => ?_ | refine em_ fun x_ hx_ => ?_ | refine Elem1.mk fun e_ he_ => ?_); refine g0_ ?_))
  cases hR : ctlR b with
  | true =>
    refine ⟨(b', PB.nil, q.2.map (evV .nils), []), ⟨⟨fun _ => hpar.2 hR, fun _ => trivial⟩, .inl ⟨rfl, rfl, hev⟩⟩, (by first | rfl | trivial), ?_⟩
    exact ⟨pm, .cons _ List.perm_append_comm⟩
  | false =>
    have hp1 : q.1.params = p := hpar.1 hR
    refine ⟨(b', pb, q.2.map (evV .nils), []), ⟨by rw [hp1]; exact hpb, .inl ⟨rfl, rfl, hev⟩⟩, (by first | rfl | trivial), ?_⟩
    show wkMem _ (cmdM _ _ _ _)
    rw [cmdM, hp1]
    dsimp only at hpv hpm ⊢
    rw [hpv, hpm]
    exact wkMem.rfl'
theorem inCommand_nil (r bo : Nat) (os : List PV) (s : PSt) (b : UInt8) (hos : os.all cellsB = true) (hn : os.length ≤ 90000) (hp : s.params = []) (hml : s.middle.length ≤ 1000) (hc : ctlB b = false) :
    ACalls Tryd.prog W 41 [.bref r 0, .int .u8 b.toNat] (rdB r (parV PB.nil s.params) (accV bo 7 os) s :: (parM PB.nil s.params ++ accM bo 7 os))
      (Gives (fun _ : CmdR => .tup []) (fun x => cmdM r x os (cmdL s b).1) (fun x => CmdOk PB.nil s (cmdL s b) x)) := by
  have hlt := b.toNat_lt
  have hct := control_ok W r bo (parV PB.nil s.params) os s b hos (by omega)
  have hcb : ¬ (b.toNat < 32 ∨ b.toNat = 127) := fun h => by rw [(ctlB_iff b).2 h] at hc; cases hc
  have hcR : ctlR b = false := by
    unfold ctlR; exact decide_eq_false (by omega)
  simp only [ctlV, ctlS, hc, hcR, Bool.false_eq_true, if_false, List.append_nil] at hct
  have hg := fun bo => ground_ok W r (parV PB.nil s.params) (accV bo 7 os) s
  have hpL : parL s.params = [-1] := by rw [parL, if_pos hp]
  rw [cmdL, hc, if_neg (by simp)]
  by_cases h1 : (48 ≤ b.toNat ∧ b.toNat ≤ 57 ∨ b.toNat = 59) ∧ s.middle = []
  · rw [if_pos h1, hpL]
    by_cases h2 : 48 ≤ b.toNat ∧ b.toNat ≤ 57
    · rw [if_pos h2]
      have hln : ([] : List PV).length = 0 := rfl
      obtain ⟨a, m, mi, p, t, l, la⟩ := s
      dsimp only at hp
      subst hp
      simp only [rdB_eq, parV, parM] at *
      obtain ⟨h1a, rfl⟩ := h1
      refine acalls_of_vc (DM_ok (by decide)) Tryd.func41 rfl (by decide) (by decide) rfl ?_
      (refine g0_ ?_; repeat ((first | refine n1_ fun b_ => ?_ | refine n2_ fun b_ => ?_ | refine n3_ fun b_ pre_ => ?_ | refine Nat1.mk fun q_ hq_ => ?_ | refine em_ fun x_ hx_ => ?_ | refine Elem1.mk fun e_ he_ => ?_); refine g0_ ?_))
      (refine g1_ ?_; repeat ((first | refine n1_ fun b_ => ?_ | refine n2_ fun b_ => ?_ | refine n3_ fun b_ pre_ => ?_ | refine Nat1.mk fun q_ hq_ => ?_ | refine em_ fun x_ hx_ => ?_ | refine Elem1.mk fun e_ he_ => ?_); refine g1_ ?_))
      refine ACalls.all_ hct ?_
      rintro v σ1 ⟨b', -, rfl, hm⟩
      refine ⟨_, hm, ?_⟩
      (refine g0_ ?_; repeat ((first | refine n1_ fun b_ => ?_ | refine n2_ fun b_ => ?_ | refine n3_ fun b_ pre_ => ?_ | refine Nat1.mk fun q_ hq_ => ?_ | refine em_ fun x_ hx_ => ?_ | refine Elem1.mk fun e_ he_ => ?_); refine g0_ ?_))
      (refine g1_ ?_; repeat ((first | refine n1_ fun b_ => ?_ | refine n2_ fun b_ => ?_ | refine n3_ fun b_ pre_ => ?_ | refine Nat1.mk fun q_ hq_ => ?_ | refine em_ fun x_ hx_ => ?_ | refine Elem1.mk fun e_ he_ => ?_); refine g1_ ?_))
      refine .inr ?_
      (refine g0_ ?_; repeat ((first | refine n1_ fun b_ => ?_ | refine n2_ fun b_ => ?_ | refine n3_ fun b_ pre_ => ?_ | refine Nat1.mk fun q_ hq_ => ?_ | refine em_ fun x_ hx_ => ?_ | refine Elem1.mk fun e_ he_ => ?_); refine g0_ ?_))
      (refine g1_ ?_; repeat ((first | refine n1_ fun b_ => ?_ | refine n2_ fun b_ => ?_ | refine n3_ fun b_ pre_ => ?_ | refine Nat1.mk fun q_ hq_ => ?_ | refine em_ fun x_ hx_ => ?_ | refine Elem1.mk fun e_ he_ => ?_); refine g1_ ?_))
      show Fits (-9223372036854775808) 9223372036854775807 0 _ _
      (refine g0_ ?_; repeat ((first | refine n1_ fun b_ => ?_ | refine n2_ fun b_ => ?_ | refine n3_ fun b_ pre_ => ?_ | refine Nat1.mk fun q_ hq_ => ?_ | refine em_ fun x_ hx_ => ?_ | refine Elem1.mk fun e_ he_ => ?_); refine g0_ ?_))
      (refine g1_ ?_; repeat ((first | refine n1_ fun b_ => ?_ | refine n2_ fun b_ => ?_ | refine n3_ fun b_ pre_ => ?_ | refine Nat1.mk fun q_ hq_ => ?_ | refine em_ fun x_ hx_ => ?_ | refine Elem1.mk fun e_ he_ => ?_); refine g1_ ?_))
      refine headT_ (head_ ?_); (refine g0_ ?_; repeat ((first | refine n1_ fun b_ => ?_ | refine n2_ fun b_ => ?_ | refine n3_ fun b_ pre_ => ?_ | refine Nat1.mk fun q_ hq_ => ?_ | refine em_ fun x_ hx_ => ?_ | refine Elem1.mk fun e_ he_ => ?_); refine g0_ ?_))
      have hv : min (max ([-1].getD ([-1].length - 1) (0 : Int)) 0 * 10 + ((b.toNat : Int) - 48)) 9999 = (b.toNat : Int) - 48 := by
        show min (max (-1 : Int) 0 * 10 + _) 9999 = _
        omega
      have hw : (if (9999 : Int) < (if (-1 : Int) < 0 then 0 else -1) * 10 + ((b.toNat : Int) - 48) then (9999 : Int) else (if (-1 : Int) < 0 then 0 else -1) * 10 + ((b.toNat : Int) - 48)) = (b.toNat : Int) - 48 := by
        rw [if_pos (show (-1 : Int) < 0 by decide), if_neg (by omega)]; omega
      rw [hv, hw]
      refine ⟨(b', PB.own b_, [], []), CmdOk.kept b' (by simp [PB.no]), (by first | rfl | trivial), ?_⟩
      show wkMem _ (cmdM _ _ _ _)
      rw [cmdM_kept]
      exact ⟨[], by rw [List.append_nil]; exact List.Perm.swap _ _ _⟩
    · rw [if_neg h2, if_neg (by decide)]
      have hln : ([] : List PV).length = 0 := rfl
      obtain ⟨a, m, mi, p, t, l, la⟩ := s
      dsimp only at hp
      subst hp
      simp only [rdB_eq, parV, parM] at *
      obtain ⟨h1a, rfl⟩ := h1
      refine acalls_of_vc (DM_ok (by decide)) Tryd.func41 rfl (by decide) (by decide) rfl ?_
      (refine g0_ ?_; repeat ((first | refine n1_ fun b_ => ?_ | refine n2_ fun b_ => ?_ | refine n3_ fun b_ pre_ => ?_ | refine Nat1.mk fun q_ hq_ => ?_ | refine em_ fun x_ hx_ => ?_ | refine Elem1.mk fun e_ he_ => ?_); refine g0_ ?_))
      (refine g1_ ?_; repeat ((first | refine n1_ fun b_ => ?_ | refine n2_ fun b_ => ?_ | refine n3_ fun b_ pre_ => ?_ | refine Nat1.mk fun q_ hq_ => ?_ | refine em_ fun x_ hx_ => ?_ | refine Elem1.mk fun e_ he_ => ?_); refine g1_ ?_))
      refine ACalls.all_ hct ?_
      rintro v σ1 ⟨b', -, rfl, hm⟩
      refine ⟨_, hm, ?_⟩
      (refine g0_ ?_; repeat ((first | refine n1_ fun b_ => ?_ | refine n2_ fun b_ => ?_ | refine n3_ fun b_ pre_ => ?_ | refine Nat1.mk fun q_ hq_ => ?_ | refine em_ fun x_ hx_ => ?_ | refine Elem1.mk fun e_ he_ => ?_); refine g0_ ?_))
      (refine g1_ ?_; repeat ((first | refine n1_ fun b_ => ?_ | refine n2_ fun b_ => ?_ | refine n3_ fun b_ pre_ => ?_ | refine Nat1.mk fun q_ hq_ => ?_ | refine em_ fun x_ hx_ => ?_ | refine Elem1.mk fun e_ he_ => ?_); refine g1_ ?_))
      refine .inr ?_
      (refine g0_ ?_; repeat ((first | refine n1_ fun b_ => ?_ | refine n2_ fun b_ => ?_ | refine n3_ fun b_ pre_ => ?_ | refine Nat1.mk fun q_ hq_ => ?_ | refine em_ fun x_ hx_ => ?_ | refine Elem1.mk fun e_ he_ => ?_); refine g0_ ?_))
      (refine g1_ ?_; repeat ((first | refine n1_ fun b_ => ?_ | refine n2_ fun b_ => ?_ | refine n3_ fun b_ pre_ => ?_ | refine Nat1.mk fun q_ hq_ => ?_ | refine em_ fun x_ hx_ => ?_ | refine Elem1.mk fun e_ he_ => ?_); refine g1_ ?_))
      show Fits (-9223372036854775808) 9223372036854775807 0 _ _
      (refine g0_ ?_; repeat ((first | refine n1_ fun b_ => ?_ | refine n2_ fun b_ => ?_ | refine n3_ fun b_ pre_ => ?_ | refine Nat1.mk fun q_ hq_ => ?_ | refine em_ fun x_ hx_ => ?_ | refine Elem1.mk fun e_ he_ => ?_); refine g0_ ?_))
      (refine g1_ ?_; repeat ((first | refine n1_ fun b_ => ?_ | refine n2_ fun b_ => ?_ | refine n3_ fun b_ pre_ => ?_ | refine Nat1.mk fun q_ hq_ => ?_ | refine em_ fun x_ hx_ => ?_ | refine Elem1.mk fun e_ he_ => ?_); refine g1_ ?_))
      refine .inl ?_
      (refine g0_ ?_; repeat ((first | refine n1_ fun b_ => ?_ | refine n2_ fun b_ => ?_ | refine n3_ fun b_ pre_ => ?_ | refine Nat1.mk fun q_ hq_ => ?_ | refine em_ fun x_ hx_ => ?_ | refine Elem1.mk fun e_ he_ => ?_); refine g0_ ?_))
      refine ⟨(b', PB.own b_, [], []), CmdOk.kept b' (by simp [PB.no]), (by first | rfl | trivial), ?_⟩
      show wkMem _ (cmdM _ _ _ _)
      rw [cmdM_kept]
      exact wkMem.rfl'
  · rw [if_neg h1]
    by_cases h3 : 60 ≤ b.toNat ∧ b.toNat ≤ 63 ∧ s.params = [] ∧ s.mark = 0 ∧ s.middle = []
    · rw [if_pos h3]
      obtain ⟨h3a, h3b, -, h3c, h3d⟩ := h3
      have hln : ([] : List PV).length = 0 := rfl
      obtain ⟨a, m, mi, p, t, l, la⟩ := s
      dsimp only at hp
      subst hp
      simp only [rdB_eq, parV, parM] at *
      have h3e := (mark0 _).1 h3c
      subst h3d
      refine acalls_of_vc (DM_ok (by decide)) Tryd.func41 rfl (by decide) (by decide) rfl ?_
      (refine g0_ ?_; repeat ((first | refine n1_ fun b_ => ?_ | refine n2_ fun b_ => ?_ | refine n3_ fun b_ pre_ => ?_ | refine Nat1.mk fun q_ hq_ => ?_ | refine em_ fun x_ hx_ => ?_ | refine Elem1.mk fun e_ he_ => ?_); refine g0_ ?_))
      (refine g1_ ?_; repeat ((first | refine n1_ fun b_ => ?_ | refine n2_ fun b_ => ?_ | refine n3_ fun b_ pre_ => ?_ | refine Nat1.mk fun q_ hq_ => ?_ | refine em_ fun x_ hx_ => ?_ | refine Elem1.mk fun e_ he_ => ?_); refine g1_ ?_))
      refine ACalls.all_ hct ?_
      rintro v σ1 ⟨b', -, rfl, hm⟩
      refine ⟨_, hm, ?_⟩
      (refine g0_ ?_; repeat ((first | refine n1_ fun b_ => ?_ | refine n2_ fun b_ => ?_ | refine n3_ fun b_ pre_ => ?_ | refine Nat1.mk fun q_ hq_ => ?_ | refine em_ fun x_ hx_ => ?_ | refine Elem1.mk fun e_ he_ => ?_); refine g0_ ?_))
      (refine g1_ ?_; repeat ((first | refine n1_ fun b_ => ?_ | refine n2_ fun b_ => ?_ | refine n3_ fun b_ pre_ => ?_ | refine Nat1.mk fun q_ hq_ => ?_ | refine em_ fun x_ hx_ => ?_ | refine Elem1.mk fun e_ he_ => ?_); refine g1_ ?_))
      refine ⟨(b', PB.nil, [], []), CmdOk.kept b' (by simp [stAt, st0, PB.no]), (by first | rfl | trivial), ?_⟩
      show wkMem _ (cmdM _ _ _ _)
      rw [cmdM_kept]
      simp only [rdB_eq, parV, parM, List.length_set, List.map_set, List.map_append, List.length_append, List.map_cons, List.map_nil, List.length_cons, List.length_nil, Nat.zero_add]
      (first | exact ⟨_, .refl _⟩ | exact wkMem.rfl' | exact ⟨_, .swap _ _ _⟩ | (repeat (first | exact wkMem.nil _ | exact wkMem.rfl' | exact wk_snoc _ _ _ | exact wk_fam (by assumption) _ _ _ | exact wk_famN (by assumption) _ _ _ | (apply wkMem.cons; (case' hl => (repeat (first | exact .here _ _ _ | apply Look.there)))) | apply wkMem.skip)))
    rw [if_neg h3]
    by_cases h4 : b.toNat < 48 ∧ s.middle.length < 2
    · rw [if_pos h4]
      have hln : ([] : List PV).length = 0 := rfl
      obtain ⟨a, m, mi, p, t, l, la⟩ := s
      dsimp only at hp
      subst hp
      simp only [rdB_eq, parV, parM] at *
      refine acalls_of_vc (DM_ok (by decide)) Tryd.func41 rfl (by decide) (by decide) rfl ?_
      (refine g0_ ?_; repeat ((first | refine n1_ fun b_ => ?_ | refine n2_ fun b_ => ?_ | refine n3_ fun b_ pre_ => ?_ | refine Nat1.mk fun q_ hq_ => ?_ | refine em_ fun x_ hx_ => ?_ | refine Elem1.mk fun e_ he_ => ?_); refine g0_ ?_))
      (refine g1_ ?_; repeat ((first | refine n1_ fun b_ => ?_ | refine n2_ fun b_ => ?_ | refine n3_ fun b_ pre_ => ?_ | refine Nat1.mk fun q_ hq_ => ?_ | refine em_ fun x_ hx_ => ?_ | refine Elem1.mk fun e_ he_ => ?_); refine g1_ ?_))
      refine ACalls.all_ hct ?_
      rintro v σ1 ⟨b', -, rfl, hm⟩
      refine ⟨_, hm, ?_⟩
      (refine g0_ ?_; repeat ((first | refine n1_ fun b_ => ?_ | refine n2_ fun b_ => ?_ | refine n3_ fun b_ pre_ => ?_ | refine Nat1.mk fun q_ hq_ => ?_ | refine em_ fun x_ hx_ => ?_ | refine Elem1.mk fun e_ he_ => ?_); refine g0_ ?_))
      (refine g1_ ?_; repeat ((first | refine n1_ fun b_ => ?_ | refine n2_ fun b_ => ?_ | refine n3_ fun b_ pre_ => ?_ | refine Nat1.mk fun q_ hq_ => ?_ | refine em_ fun x_ hx_ => ?_ | refine Elem1.mk fun e_ he_ => ?_); refine g1_ ?_))
      refine headT_ (head_ ?_); (refine g0_ ?_; repeat ((first | refine n1_ fun b_ => ?_ | refine n2_ fun b_ => ?_ | refine n3_ fun b_ pre_ => ?_ | refine Nat1.mk fun q_ hq_ => ?_ | refine em_ fun x_ hx_ => ?_ | refine Elem1.mk fun e_ he_ => ?_); refine g0_ ?_))
      refine ⟨[(b.toNat : Int)], rfl, ?_⟩
      rw [u8_back]
      (refine g0_ ?_; repeat ((first | refine n1_ fun b_ => ?_ | refine n2_ fun b_ => ?_ | refine n3_ fun b_ pre_ => ?_ | refine Nat1.mk fun q_ hq_ => ?_ | refine em_ fun x_ hx_ => ?_ | refine Elem1.mk fun e_ he_ => ?_); refine g0_ ?_))
      refine ⟨(b', PB.nil, [], []), CmdOk.kept b' (by simp [stAt, st0, PB.no]), (by first | rfl | trivial), ?_⟩
      show wkMem _ (cmdM _ _ _ _)
      rw [cmdM_kept]
      simp only [rdB_eq, parV, parM, List.length_set, List.map_set, List.map_append, List.length_append, List.map_cons, List.map_nil, List.length_cons, List.length_nil, Nat.zero_add]
      (first | exact ⟨_, .refl _⟩ | exact wkMem.rfl' | exact ⟨_, .swap _ _ _⟩ | (repeat (first | exact wkMem.nil _ | exact wkMem.rfl' | exact wk_snoc _ _ _ | exact wk_fam (by assumption) _ _ _ | exact wk_famN (by assumption) _ _ _ | (apply wkMem.cons; (case' hl => (repeat (first | exact .here _ _ _ | apply Look.there)))) | apply wkMem.skip)))
    rw [if_neg h4]
    have h3' : s.middle = [] → ¬ (60 ≤ b.toNat ∧ b.toNat ≤ 63 ∧ s.mark.toNat = 0) := fun h h' => h3 ⟨h'.1, h'.2.1, hp, (mark0 _).2 h'.2.2, h⟩
    by_cases h5 : 64 ≤ b.toNat ∧ b.toNat < 127
    · rw [if_pos h5]
      have hln : ([] : List PV).length = 0 := rfl
      obtain ⟨a, m, mi, p, t, l, la⟩ := s
      dsimp only at hp
      subst hp
      simp only [rdB_eq, parV, parM] at *
      rcases mi with _ | ⟨mc, mi⟩
      all_goals
        try have h1n : ¬ (48 ≤ b.toNat ∧ b.toNat ≤ 57 ∨ b.toNat = 59) := fun h => h1 ⟨h, rfl⟩
        try have h3n := h3' rfl
        refine acalls_of_vc (DM_ok (by decide)) Tryd.func41 rfl (by decide) (by decide) rfl ?_
        (refine g0_ ?_; repeat ((first | refine n1_ fun b_ => ?_ | refine n2_ fun b_ => ?_ | refine n3_ fun b_ pre_ => ?_ | refine Nat1.mk fun q_ hq_ => ?_ | refine em_ fun x_ hx_ => ?_ | refine Elem1.mk fun e_ he_ => ?_); refine g0_ ?_))
        (refine g1_ ?_; repeat ((first | refine n1_ fun b_ => ?_ | refine n2_ fun b_ => ?_ | refine n3_ fun b_ pre_ => ?_ | refine Nat1.mk fun q_ hq_ => ?_ | refine em_ fun x_ hx_ => ?_ | refine Elem1.mk fun e_ he_ => ?_); refine g1_ ?_))
        refine ACalls.all_ hct ?_
        rintro v σ1 ⟨b', -, rfl, hm⟩
        refine ⟨_, hm, ?_⟩
        (refine g0_ ?_; repeat ((first | refine n1_ fun b_ => ?_ | refine n2_ fun b_ => ?_ | refine n3_ fun b_ pre_ => ?_ | refine Nat1.mk fun q_ hq_ => ?_ | refine em_ fun x_ hx_ => ?_ | refine Elem1.mk fun e_ he_ => ?_); refine g0_ ?_))
        (refine g1_ ?_; repeat ((first | refine n1_ fun b_ => ?_ | refine n2_ fun b_ => ?_ | refine n3_ fun b_ pre_ => ?_ | refine Nat1.mk fun q_ hq_ => ?_ | refine em_ fun x_ hx_ => ?_ | refine Elem1.mk fun e_ he_ => ?_); refine g1_ ?_))
        refine Draws11.tree ⟨19, [.new, .new, .new, .new, .new, .new, .new, .new, .new, .new, .new, .new, .new, .new, .new, .new, .new, .new, .turn], (.one 18 [.keep, .keep, .keep, .keep, .keep, .keep, .keep, .keep, .keep, .keep, .keep, .keep, .keep, .keep, .keep, .keep, .keep, .keep, .keep] .fin), by decide +kernel, ?_⟩; (refine g0_ ?_; repeat ((first | refine n1_ fun b_ => ?_ | refine n2_ fun b_ => ?_ | refine n3_ fun b_ pre_ => ?_ | refine Nat1.mk fun q_ hq_ => ?_ | refine em_ fun x_ hx_ => ?_ | refine Elem1.mk fun e_ he_ => ?_); refine g0_ ?_))
        refine ACalls.all_ (tell_ok W r b' (PV.nils) (PV.nils) os ⟨a, m, _, [], t, l, la⟩ ({ ev0 with kind := 4, final := b, mark := m, middle := _, params := [] } : PEv) (.inl rfl) hos (by omega)) ?_
        rintro v σ1 ⟨b2, -, rfl, hm2⟩
        refine ⟨_, hm2, ?_⟩
        (refine g0_ ?_; repeat ((first | refine n1_ fun b_ => ?_ | refine n2_ fun b_ => ?_ | refine n3_ fun b_ pre_ => ?_ | refine Nat1.mk fun q_ hq_ => ?_ | refine em_ fun x_ hx_ => ?_ | refine Elem1.mk fun e_ he_ => ?_); refine g0_ ?_))
        refine ACalls.lend (ground_ok W r _ _ _) (.refl _) ?_
        rintro _ -
        (refine g0_ ?_; repeat ((first | refine n1_ fun b_ => ?_ | refine n2_ fun b_ => ?_ | refine n3_ fun b_ pre_ => ?_ | refine Nat1.mk fun q_ hq_ => ?_ | refine em_ fun x_ hx_ => ?_ | refine Elem1.mk fun e_ he_ => ?_); refine g0_ ?_))
        refine ⟨(b2, PB.nil, [evV (PV.nils) _], []), ⟨⟨fun _ => rfl, fun _ => trivial⟩, .inr ⟨_, rfl, rfl, rfl, rfl, rfl⟩⟩, (by first | rfl | trivial), ?_⟩
        exact wkMem.rfl'
    rw [if_neg h5]
    by_cases h6 : b.toNat < 128
    · rw [if_pos h6]
      have hln : ([] : List PV).length = 0 := rfl
      obtain ⟨a, m, mi, p, t, l, la⟩ := s
      dsimp only at hp
      subst hp
      simp only [rdB_eq, parV, parM] at *
      rcases mi with _ | ⟨mc, mi⟩
      all_goals
        try have h1n : ¬ (48 ≤ b.toNat ∧ b.toNat ≤ 57 ∨ b.toNat = 59) := fun h => h1 ⟨h, rfl⟩
        try have h3n := h3' rfl
        refine acalls_of_vc (DM_ok (by decide)) Tryd.func41 rfl (by decide) (by decide) rfl ?_
        (refine g0_ ?_; repeat ((first | refine n1_ fun b_ => ?_ | refine n2_ fun b_ => ?_ | refine n3_ fun b_ pre_ => ?_ | refine Nat1.mk fun q_ hq_ => ?_ | refine em_ fun x_ hx_ => ?_ | refine Elem1.mk fun e_ he_ => ?_); refine g0_ ?_))
        (refine g1_ ?_; repeat ((first | refine n1_ fun b_ => ?_ | refine n2_ fun b_ => ?_ | refine n3_ fun b_ pre_ => ?_ | refine Nat1.mk fun q_ hq_ => ?_ | refine em_ fun x_ hx_ => ?_ | refine Elem1.mk fun e_ he_ => ?_); refine g1_ ?_))
        refine ACalls.all_ hct ?_
        rintro v σ1 ⟨b', -, rfl, hm⟩
        refine ⟨_, hm, ?_⟩
        (refine g0_ ?_; repeat ((first | refine n1_ fun b_ => ?_ | refine n2_ fun b_ => ?_ | refine n3_ fun b_ pre_ => ?_ | refine Nat1.mk fun q_ hq_ => ?_ | refine em_ fun x_ hx_ => ?_ | refine Elem1.mk fun e_ he_ => ?_); refine g0_ ?_))
        (refine g1_ ?_; repeat ((first | refine n1_ fun b_ => ?_ | refine n2_ fun b_ => ?_ | refine n3_ fun b_ pre_ => ?_ | refine Nat1.mk fun q_ hq_ => ?_ | refine em_ fun x_ hx_ => ?_ | refine Elem1.mk fun e_ he_ => ?_); refine g1_ ?_))
        refine ⟨(b', PB.nil, [], []), CmdOk.kept b' (by simp [stAt, st0, PB.no]), (by first | rfl | trivial), ?_⟩
        show wkMem _ (cmdM _ _ _ _)
        rw [cmdM_kept]
        simp only [rdB_eq, parV, parM, List.length_set, List.map_set, List.map_append, List.length_append, List.map_cons, List.map_nil, List.length_cons, List.length_nil, Nat.zero_add]
        (first | exact ⟨_, .refl _⟩ | exact wkMem.rfl' | exact ⟨_, .swap _ _ _⟩ | (repeat (first | exact wkMem.nil _ | exact wkMem.rfl' | exact wk_snoc _ _ _ | exact wk_fam (by assumption) _ _ _ | exact wk_famN (by assumption) _ _ _ | (apply wkMem.cons; (case' hl => (repeat (first | exact .here _ _ _ | apply Look.there)))) | apply wkMem.skip)))
    · rw [if_neg h6]
      have hln : ([] : List PV).length = 0 := rfl
      obtain ⟨a, m, mi, p, t, l, la⟩ := s
      dsimp only at hp
      subst hp
      simp only [rdB_eq, parV, parM] at *
      rcases mi with _ | ⟨mc, mi⟩
      all_goals
        try have h1n : ¬ (48 ≤ b.toNat ∧ b.toNat ≤ 57 ∨ b.toNat = 59) := fun h => h1 ⟨h, rfl⟩
        try have h3n := h3' rfl
        refine acalls_of_vc (DM_ok (by decide)) Tryd.func41 rfl (by decide) (by decide) rfl ?_
        (refine g0_ ?_; repeat ((first | refine n1_ fun b_ => ?_ | refine n2_ fun b_ => ?_ | refine n3_ fun b_ pre_ => ?_ | refine Nat1.mk fun q_ hq_ => ?_ | refine em_ fun x_ hx_ => ?_ | refine Elem1.mk fun e_ he_ => ?_); refine g0_ ?_))
        (refine g1_ ?_; repeat ((first | refine n1_ fun b_ => ?_ | refine n2_ fun b_ => ?_ | refine n3_ fun b_ pre_ => ?_ | refine Nat1.mk fun q_ hq_ => ?_ | refine em_ fun x_ hx_ => ?_ | refine Elem1.mk fun e_ he_ => ?_); refine g1_ ?_))
        refine ACalls.all_ hct ?_
        rintro v σ1 ⟨b', -, rfl, hm⟩
        refine ⟨_, hm, ?_⟩
        (refine g0_ ?_; repeat ((first | refine n1_ fun b_ => ?_ | refine n2_ fun b_ => ?_ | refine n3_ fun b_ pre_ => ?_ | refine Nat1.mk fun q_ hq_ => ?_ | refine em_ fun x_ hx_ => ?_ | refine Elem1.mk fun e_ he_ => ?_); refine g0_ ?_))
        (refine g1_ ?_; repeat ((first | refine n1_ fun b_ => ?_ | refine n2_ fun b_ => ?_ | refine n3_ fun b_ pre_ => ?_ | refine Nat1.mk fun q_ hq_ => ?_ | refine em_ fun x_ hx_ => ?_ | refine Elem1.mk fun e_ he_ => ?_); refine g1_ ?_))
        refine ACalls.lend (hg b') (r := accM b' 7 os) (.refl _) ?_
        rintro _ -
        (refine g0_ ?_; repeat ((first | refine n1_ fun b_ => ?_ | refine n2_ fun b_ => ?_ | refine n3_ fun b_ pre_ => ?_ | refine Nat1.mk fun q_ hq_ => ?_ | refine em_ fun x_ hx_ => ?_ | refine Elem1.mk fun e_ he_ => ?_); refine g0_ ?_))
        refine ⟨(b', PB.nil, [], []), CmdOk.kept b' (by simp [stAt, st0, PB.no]), (by first | rfl | trivial), ?_⟩
        show wkMem _ (cmdM _ _ _ _)
        rw [cmdM_kept]
        simp only [rdB_eq, parV, parM, List.length_set, List.map_set, List.map_append, List.length_append, List.map_cons, List.map_nil, List.length_cons, List.length_nil, Nat.zero_add]
        (first | exact ⟨_, .refl _⟩ | exact wkMem.rfl' | exact ⟨_, .swap _ _ _⟩ | (repeat (first | exact wkMem.nil _ | exact wkMem.rfl' | exact wk_snoc _ _ _ | exact wk_fam (by assumption) _ _ _ | exact wk_famN (by assumption) _ _ _ | (apply wkMem.cons; (case' hl => (repeat (first | exact .here _ _ _ | apply Look.there)))) | apply wkMem.skip)))
theorem inCommand_emp (r bo : Nat) (os : List PV) (s : PSt) (b : UInt8) (hos : os.all cellsB = true) (hn : os.length ≤ 90000) (hp : s.params = []) (hml : s.middle.length ≤ 1000) (hc : ctlB b = false) :
    ACalls Tryd.prog W 41 [.bref r 0, .int .u8 b.toNat] (rdB r (parV PB.emp s.params) (accV bo 7 os) s :: (parM PB.emp s.params ++ accM bo 7 os))
      (Gives (fun _ : CmdR => .tup []) (fun x => cmdM r x os (cmdL s b).1) (fun x => CmdOk PB.emp s (cmdL s b) x)) := by
  have hlt := b.toNat_lt
  have hct := control_ok W r bo (parV PB.emp s.params) os s b hos (by omega)
  have hcb : ¬ (b.toNat < 32 ∨ b.toNat = 127) := fun h => by rw [(ctlB_iff b).2 h] at hc; cases hc
  have hcR : ctlR b = false := by
    unfold ctlR; exact decide_eq_false (by omega)
  simp only [ctlV, ctlS, hc, hcR, Bool.false_eq_true, if_false, List.append_nil] at hct
  have hg := fun bo => ground_ok W r (parV PB.emp s.params) (accV bo 7 os) s
  have hpL : parL s.params = [-1] := by rw [parL, if_pos hp]
  rw [cmdL, hc, if_neg (by simp)]
  by_cases h1 : (48 ≤ b.toNat ∧ b.toNat ≤ 57 ∨ b.toNat = 59) ∧ s.middle = []
  · rw [if_pos h1, hpL]
    by_cases h2 : 48 ≤ b.toNat ∧ b.toNat ≤ 57
    · rw [if_pos h2]
      have hln : ([] : List PV).length = 0 := rfl
      obtain ⟨a, m, mi, p, t, l, la⟩ := s
      dsimp only at hp
      subst hp
      simp only [rdB_eq, parV, parM] at *
      obtain ⟨h1a, rfl⟩ := h1
      refine acalls_of_vc (DM_ok (by decide)) Tryd.func41 rfl (by decide) (by decide) rfl ?_
      (refine g0_ ?_; repeat ((first | refine n1_ fun b_ => ?_ | refine n2_ fun b_ => ?_ | refine n3_ fun b_ pre_ => ?_ | refine Nat1.mk fun q_ hq_ => ?_ | refine em_ fun x_ hx_ => ?_ | refine Elem1.mk fun e_ he_ => ?_); refine g0_ ?_))
      (refine g1_ ?_; repeat ((first | refine n1_ fun b_ => ?_ | refine n2_ fun b_ => ?_ | refine n3_ fun b_ pre_ => ?_ | refine Nat1.mk fun q_ hq_ => ?_ | refine em_ fun x_ hx_ => ?_ | refine Elem1.mk fun e_ he_ => ?_); refine g1_ ?_))
      refine ACalls.all_ hct ?_
      rintro v σ1 ⟨b', -, rfl, hm⟩
      refine ⟨_, hm, ?_⟩
      (refine g0_ ?_; repeat ((first | refine n1_ fun b_ => ?_ | refine n2_ fun b_ => ?_ | refine n3_ fun b_ pre_ => ?_ | refine Nat1.mk fun q_ hq_ => ?_ | refine em_ fun x_ hx_ => ?_ | refine Elem1.mk fun e_ he_ => ?_); refine g0_ ?_))
      (refine g1_ ?_; repeat ((first | refine n1_ fun b_ => ?_ | refine n2_ fun b_ => ?_ | refine n3_ fun b_ pre_ => ?_ | refine Nat1.mk fun q_ hq_ => ?_ | refine em_ fun x_ hx_ => ?_ | refine Elem1.mk fun e_ he_ => ?_); refine g1_ ?_))
      refine .inr ?_
      (refine g0_ ?_; repeat ((first | refine n1_ fun b_ => ?_ | refine n2_ fun b_ => ?_ | refine n3_ fun b_ pre_ => ?_ | refine Nat1.mk fun q_ hq_ => ?_ | refine em_ fun x_ hx_ => ?_ | refine Elem1.mk fun e_ he_ => ?_); refine g0_ ?_))
      (refine g1_ ?_; repeat ((first | refine n1_ fun b_ => ?_ | refine n2_ fun b_ => ?_ | refine n3_ fun b_ pre_ => ?_ | refine Nat1.mk fun q_ hq_ => ?_ | refine em_ fun x_ hx_ => ?_ | refine Elem1.mk fun e_ he_ => ?_); refine g1_ ?_))
      show Fits (-9223372036854775808) 9223372036854775807 0 _ _
      (refine g0_ ?_; repeat ((first | refine n1_ fun b_ => ?_ | refine n2_ fun b_ => ?_ | refine n3_ fun b_ pre_ => ?_ | refine Nat1.mk fun q_ hq_ => ?_ | refine em_ fun x_ hx_ => ?_ | refine Elem1.mk fun e_ he_ => ?_); refine g0_ ?_))
      (refine g1_ ?_; repeat ((first | refine n1_ fun b_ => ?_ | refine n2_ fun b_ => ?_ | refine n3_ fun b_ pre_ => ?_ | refine Nat1.mk fun q_ hq_ => ?_ | refine em_ fun x_ hx_ => ?_ | refine Elem1.mk fun e_ he_ => ?_); refine g1_ ?_))
      refine headT_ (head_ ?_); (refine g0_ ?_; repeat ((first | refine n1_ fun b_ => ?_ | refine n2_ fun b_ => ?_ | refine n3_ fun b_ pre_ => ?_ | refine Nat1.mk fun q_ hq_ => ?_ | refine em_ fun x_ hx_ => ?_ | refine Elem1.mk fun e_ he_ => ?_); refine g0_ ?_))
      have hv : min (max ([-1].getD ([-1].length - 1) (0 : Int)) 0 * 10 + ((b.toNat : Int) - 48)) 9999 = (b.toNat : Int) - 48 := by
        show min (max (-1 : Int) 0 * 10 + _) 9999 = _
        omega
      have hw : (if (9999 : Int) < (if (-1 : Int) < 0 then 0 else -1) * 10 + ((b.toNat : Int) - 48) then (9999 : Int) else (if (-1 : Int) < 0 then 0 else -1) * 10 + ((b.toNat : Int) - 48)) = (b.toNat : Int) - 48 := by
        rw [if_pos (show (-1 : Int) < 0 by decide), if_neg (by omega)]; omega
      rw [hv, hw]
      refine ⟨(b', PB.own b_, [], []), CmdOk.kept b' (by simp [PB.no]), (by first | rfl | trivial), ?_⟩
      show wkMem _ (cmdM _ _ _ _)
      rw [cmdM_kept]
      exact ⟨[], by rw [List.append_nil]; exact List.Perm.swap _ _ _⟩
    · rw [if_neg h2, if_neg (by decide)]
      have hln : ([] : List PV).length = 0 := rfl
      obtain ⟨a, m, mi, p, t, l, la⟩ := s
      dsimp only at hp
      subst hp
      simp only [rdB_eq, parV, parM] at *
      obtain ⟨h1a, rfl⟩ := h1
      refine acalls_of_vc (DM_ok (by decide)) Tryd.func41 rfl (by decide) (by decide) rfl ?_
      (refine g0_ ?_; repeat ((first | refine n1_ fun b_ => ?_ | refine n2_ fun b_ => ?_ | refine n3_ fun b_ pre_ => ?_ | refine Nat1.mk fun q_ hq_ => ?_ | refine em_ fun x_ hx_ => ?_ | refine Elem1.mk fun e_ he_ => ?_); refine g0_ ?_))
      (refine g1_ ?_; repeat ((first | refine n1_ fun b_ => ?_ | refine n2_ fun b_ => ?_ | refine n3_ fun b_ pre_ => ?_ | refine Nat1.mk fun q_ hq_ => ?_ | refine em_ fun x_ hx_ => ?_ | refine Elem1.mk fun e_ he_ => ?_); refine g1_ ?_))
      refine ACalls.all_ hct ?_
      rintro v σ1 ⟨b', -, rfl, hm⟩
      refine ⟨_, hm, ?_⟩
      (refine g0_ ?_; repeat ((first | refine n1_ fun b_ => ?_ | refine n2_ fun b_ => ?_ | refine n3_ fun b_ pre_ => ?_ | refine Nat1.mk fun q_ hq_ => ?_ | refine em_ fun x_ hx_ => ?_ | refine Elem1.mk fun e_ he_ => ?_); refine g0_ ?_))
      (refine g1_ ?_; repeat ((first | refine n1_ fun b_ => ?_ | refine n2_ fun b_ => ?_ | refine n3_ fun b_ pre_ => ?_ | refine Nat1.mk fun q_ hq_ => ?_ | refine em_ fun x_ hx_ => ?_ | refine Elem1.mk fun e_ he_ => ?_); refine g1_ ?_))
      refine .inr ?_
      (refine g0_ ?_; repeat ((first | refine n1_ fun b_ => ?_ | refine n2_ fun b_ => ?_ | refine n3_ fun b_ pre_ => ?_ | refine Nat1.mk fun q_ hq_ => ?_ | refine em_ fun x_ hx_ => ?_ | refine Elem1.mk fun e_ he_ => ?_); refine g0_ ?_))
      (refine g1_ ?_; repeat ((first | refine n1_ fun b_ => ?_ | refine n2_ fun b_ => ?_ | refine n3_ fun b_ pre_ => ?_ | refine Nat1.mk fun q_ hq_ => ?_ | refine em_ fun x_ hx_ => ?_ | refine Elem1.mk fun e_ he_ => ?_); refine g1_ ?_))
      show Fits (-9223372036854775808) 9223372036854775807 0 _ _
      (refine g0_ ?_; repeat ((first | refine n1_ fun b_ => ?_ | refine n2_ fun b_ => ?_ | refine n3_ fun b_ pre_ => ?_ | refine Nat1.mk fun q_ hq_ => ?_ | refine em_ fun x_ hx_ => ?_ | refine Elem1.mk fun e_ he_ => ?_); refine g0_ ?_))
      (refine g1_ ?_; repeat ((first | refine n1_ fun b_ => ?_ | refine n2_ fun b_ => ?_ | refine n3_ fun b_ pre_ => ?_ | refine Nat1.mk fun q_ hq_ => ?_ | refine em_ fun x_ hx_ => ?_ | refine Elem1.mk fun e_ he_ => ?_); refine g1_ ?_))
      refine .inl ?_
      (refine g0_ ?_; repeat ((first | refine n1_ fun b_ => ?_ | refine n2_ fun b_ => ?_ | refine n3_ fun b_ pre_ => ?_ | refine Nat1.mk fun q_ hq_ => ?_ | refine em_ fun x_ hx_ => ?_ | refine Elem1.mk fun e_ he_ => ?_); refine g0_ ?_))
      refine ⟨(b', PB.own b_, [], []), CmdOk.kept b' (by simp [PB.no]), (by first | rfl | trivial), ?_⟩
      show wkMem _ (cmdM _ _ _ _)
      rw [cmdM_kept]
      exact wkMem.rfl'
  · rw [if_neg h1]
    by_cases h3 : 60 ≤ b.toNat ∧ b.toNat ≤ 63 ∧ s.params = [] ∧ s.mark = 0 ∧ s.middle = []
    · rw [if_pos h3]
      obtain ⟨h3a, h3b, -, h3c, h3d⟩ := h3
      have hln : ([] : List PV).length = 0 := rfl
      obtain ⟨a, m, mi, p, t, l, la⟩ := s
      dsimp only at hp
      subst hp
      simp only [rdB_eq, parV, parM] at *
      have h3e := (mark0 _).1 h3c
      subst h3d
      refine acalls_of_vc (DM_ok (by decide)) Tryd.func41 rfl (by decide) (by decide) rfl ?_
      (refine g0_ ?_; repeat ((first | refine n1_ fun b_ => ?_ | refine n2_ fun b_ => ?_ | refine n3_ fun b_ pre_ => ?_ | refine Nat1.mk fun q_ hq_ => ?_ | refine em_ fun x_ hx_ => ?_ | refine Elem1.mk fun e_ he_ => ?_); refine g0_ ?_))
      (refine g1_ ?_; repeat ((first | refine n1_ fun b_ => ?_ | refine n2_ fun b_ => ?_ | refine n3_ fun b_ pre_ => ?_ | refine Nat1.mk fun q_ hq_ => ?_ | refine em_ fun x_ hx_ => ?_ | refine Elem1.mk fun e_ he_ => ?_); refine g1_ ?_))
      refine ACalls.all_ hct ?_
      rintro v σ1 ⟨b', -, rfl, hm⟩
      refine ⟨_, hm, ?_⟩
      (refine g0_ ?_; repeat ((first | refine n1_ fun b_ => ?_ | refine n2_ fun b_ => ?_ | refine n3_ fun b_ pre_ => ?_ | refine Nat1.mk fun q_ hq_ => ?_ | refine em_ fun x_ hx_ => ?_ | refine Elem1.mk fun e_ he_ => ?_); refine g0_ ?_))
      (refine g1_ ?_; repeat ((first | refine n1_ fun b_ => ?_ | refine n2_ fun b_ => ?_ | refine n3_ fun b_ pre_ => ?_ | refine Nat1.mk fun q_ hq_ => ?_ | refine em_ fun x_ hx_ => ?_ | refine Elem1.mk fun e_ he_ => ?_); refine g1_ ?_))
      refine ⟨(b', PB.emp, [], []), CmdOk.kept b' (by simp [stAt, st0, PB.no]), (by first | rfl | trivial), ?_⟩
      show wkMem _ (cmdM _ _ _ _)
      rw [cmdM_kept]
      simp only [rdB_eq, parV, parM, List.length_set, List.map_set, List.map_append, List.length_append, List.map_cons, List.map_nil, List.length_cons, List.length_nil, Nat.zero_add]
      (first | exact ⟨_, .refl _⟩ | exact wkMem.rfl' | exact ⟨_, .swap _ _ _⟩ | (repeat (first | exact wkMem.nil _ | exact wkMem.rfl' | exact wk_snoc _ _ _ | exact wk_fam (by assumption) _ _ _ | exact wk_famN (by assumption) _ _ _ | (apply wkMem.cons; (case' hl => (repeat (first | exact .here _ _ _ | apply Look.there)))) | apply wkMem.skip)))
    rw [if_neg h3]
    by_cases h4 : b.toNat < 48 ∧ s.middle.length < 2
    · rw [if_pos h4]
      have hln : ([] : List PV).length = 0 := rfl
      obtain ⟨a, m, mi, p, t, l, la⟩ := s
      dsimp only at hp
      subst hp
      simp only [rdB_eq, parV, parM] at *
      refine acalls_of_vc (DM_ok (by decide)) Tryd.func41 rfl (by decide) (by decide) rfl ?_
      (refine g0_ ?_; repeat ((first | refine n1_ fun b_ => ?_ | refine n2_ fun b_ => ?_ | refine n3_ fun b_ pre_ => ?_ | refine Nat1.mk fun q_ hq_ => ?_ | refine em_ fun x_ hx_ => ?_ | refine Elem1.mk fun e_ he_ => ?_); refine g0_ ?_))
      (refine g1_ ?_; repeat ((first | refine n1_ fun b_ => ?_ | refine n2_ fun b_ => ?_ | refine n3_ fun b_ pre_ => ?_ | refine Nat1.mk fun q_ hq_ => ?_ | refine em_ fun x_ hx_ => ?_ | refine Elem1.mk fun e_ he_ => ?_); refine g1_ ?_))
      refine ACalls.all_ hct ?_
      rintro v σ1 ⟨b', -, rfl, hm⟩
      refine ⟨_, hm, ?_⟩
      (refine g0_ ?_; repeat ((first | refine n1_ fun b_ => ?_ | refine n2_ fun b_ => ?_ | refine n3_ fun b_ pre_ => ?_ | refine Nat1.mk fun q_ hq_ => ?_ | refine em_ fun x_ hx_ => ?_ | refine Elem1.mk fun e_ he_ => ?_); refine g0_ ?_))
      (refine g1_ ?_; repeat ((first | refine n1_ fun b_ => ?_ | refine n2_ fun b_ => ?_ | refine n3_ fun b_ pre_ => ?_ | refine Nat1.mk fun q_ hq_ => ?_ | refine em_ fun x_ hx_ => ?_ | refine Elem1.mk fun e_ he_ => ?_); refine g1_ ?_))
      refine headT_ (head_ ?_); (refine g0_ ?_; repeat ((first | refine n1_ fun b_ => ?_ | refine n2_ fun b_ => ?_ | refine n3_ fun b_ pre_ => ?_ | refine Nat1.mk fun q_ hq_ => ?_ | refine em_ fun x_ hx_ => ?_ | refine Elem1.mk fun e_ he_ => ?_); refine g0_ ?_))
      refine ⟨[(b.toNat : Int)], rfl, ?_⟩
      rw [u8_back]
      (refine g0_ ?_; repeat ((first | refine n1_ fun b_ => ?_ | refine n2_ fun b_ => ?_ | refine n3_ fun b_ pre_ => ?_ | refine Nat1.mk fun q_ hq_ => ?_ | refine em_ fun x_ hx_ => ?_ | refine Elem1.mk fun e_ he_ => ?_); refine g0_ ?_))
      refine ⟨(b', PB.emp, [], []), CmdOk.kept b' (by simp [stAt, st0, PB.no]), (by first | rfl | trivial), ?_⟩
      show wkMem _ (cmdM _ _ _ _)
      rw [cmdM_kept]
      simp only [rdB_eq, parV, parM, List.length_set, List.map_set, List.map_append, List.length_append, List.map_cons, List.map_nil, List.length_cons, List.length_nil, Nat.zero_add]
      (first | exact ⟨_, .refl _⟩ | exact wkMem.rfl' | exact ⟨_, .swap _ _ _⟩ | (repeat (first | exact wkMem.nil _ | exact wkMem.rfl' | exact wk_snoc _ _ _ | exact wk_fam (by assumption) _ _ _ | exact wk_famN (by assumption) _ _ _ | (apply wkMem.cons; (case' hl => (repeat (first | exact .here _ _ _ | apply Look.there)))) | apply wkMem.skip)))
    rw [if_neg h4]
    have h3' : s.middle = [] → ¬ (60 ≤ b.toNat ∧ b.toNat ≤ 63 ∧ s.mark.toNat = 0) := fun h h' => h3 ⟨h'.1, h'.2.1, hp, (mark0 _).2 h'.2.2, h⟩
    by_cases h5 : 64 ≤ b.toNat ∧ b.toNat < 127
    · rw [if_pos h5]
      have hln : ([] : List PV).length = 0 := rfl
      obtain ⟨a, m, mi, p, t, l, la⟩ := s
      dsimp only at hp
      subst hp
      simp only [rdB_eq, parV, parM] at *
      rcases mi with _ | ⟨mc, mi⟩
      all_goals
        try have h1n : ¬ (48 ≤ b.toNat ∧ b.toNat ≤ 57 ∨ b.toNat = 59) := fun h => h1 ⟨h, rfl⟩
        try have h3n := h3' rfl
        refine acalls_of_vc (DM_ok (by decide)) Tryd.func41 rfl (by decide) (by decide) rfl ?_
        (refine g0_ ?_; repeat ((first | refine n1_ fun b_ => ?_ | refine n2_ fun b_ => ?_ | refine n3_ fun b_ pre_ => ?_ | refine Nat1.mk fun q_ hq_ => ?_ | refine em_ fun x_ hx_ => ?_ | refine Elem1.mk fun e_ he_ => ?_); refine g0_ ?_))
        (refine g1_ ?_; repeat ((first | refine n1_ fun b_ => ?_ | refine n2_ fun b_ => ?_ | refine n3_ fun b_ pre_ => ?_ | refine Nat1.mk fun q_ hq_ => ?_ | refine em_ fun x_ hx_ => ?_ | refine Elem1.mk fun e_ he_ => ?_); refine g1_ ?_))
        refine ACalls.all_ hct ?_
        rintro v σ1 ⟨b', -, rfl, hm⟩
        refine ⟨_, hm, ?_⟩
        (refine g0_ ?_; repeat ((first | refine n1_ fun b_ => ?_ | refine n2_ fun b_ => ?_ | refine n3_ fun b_ pre_ => ?_ | refine Nat1.mk fun q_ hq_ => ?_ | refine em_ fun x_ hx_ => ?_ | refine Elem1.mk fun e_ he_ => ?_); refine g0_ ?_))
        (refine g1_ ?_; repeat ((first | refine n1_ fun b_ => ?_ | refine n2_ fun b_ => ?_ | refine n3_ fun b_ pre_ => ?_ | refine Nat1.mk fun q_ hq_ => ?_ | refine em_ fun x_ hx_ => ?_ | refine Elem1.mk fun e_ he_ => ?_); refine g1_ ?_))
        refine Draws11.tree ⟨19, [.new, .new, .new, .new, .new, .new, .new, .new, .new, .new, .new, .new, .new, .new, .new, .new, .new, .new, .turn], (.one 18 [.keep, .keep, .keep, .keep, .keep, .keep, .keep, .keep, .keep, .keep, .keep, .keep, .keep, .keep, .keep, .keep, .keep, .keep, .keep] .fin), by decide +kernel, ?_⟩; (refine g0_ ?_; repeat ((first | refine n1_ fun b_ => ?_ | refine n2_ fun b_ => ?_ | refine n3_ fun b_ pre_ => ?_ | refine Nat1.mk fun q_ hq_ => ?_ | refine em_ fun x_ hx_ => ?_ | refine Elem1.mk fun e_ he_ => ?_); refine g0_ ?_))
        refine ACalls.all_ (tell_ok W r b' (PV.sl 1 []) (PV.sl 1 []) os ⟨a, m, _, [], t, l, la⟩ ({ ev0 with kind := 4, final := b, mark := m, middle := _, params := [] } : PEv) (.inr (.inl rfl)) hos (by omega)) ?_
        rintro v σ1 ⟨b2, -, rfl, hm2⟩
        refine ⟨_, hm2, ?_⟩
        (refine g0_ ?_; repeat ((first | refine n1_ fun b_ => ?_ | refine n2_ fun b_ => ?_ | refine n3_ fun b_ pre_ => ?_ | refine Nat1.mk fun q_ hq_ => ?_ | refine em_ fun x_ hx_ => ?_ | refine Elem1.mk fun e_ he_ => ?_); refine g0_ ?_))
        refine ACalls.lend (ground_ok W r _ _ _) (.refl _) ?_
        rintro _ -
        (refine g0_ ?_; repeat ((first | refine n1_ fun b_ => ?_ | refine n2_ fun b_ => ?_ | refine n3_ fun b_ pre_ => ?_ | refine Nat1.mk fun q_ hq_ => ?_ | refine em_ fun x_ hx_ => ?_ | refine Elem1.mk fun e_ he_ => ?_); refine g0_ ?_))
        refine ⟨(b2, PB.nil, [evV (PV.sl 1 []) _], []), ⟨⟨fun _ => rfl, fun _ => trivial⟩, .inr ⟨_, rfl, rfl, rfl, rfl, rfl⟩⟩, (by first | rfl | trivial), ?_⟩
        exact wkMem.rfl'
    rw [if_neg h5]
    by_cases h6 : b.toNat < 128
    · rw [if_pos h6]
      have hln : ([] : List PV).length = 0 := rfl
      obtain ⟨a, m, mi, p, t, l, la⟩ := s
      dsimp only at hp
      subst hp
      simp only [rdB_eq, parV, parM] at *
      rcases mi with _ | ⟨mc, mi⟩
      all_goals
        try have h1n : ¬ (48 ≤ b.toNat ∧ b.toNat ≤ 57 ∨ b.toNat = 59) := fun h => h1 ⟨h, rfl⟩
        try have h3n := h3' rfl
        refine acalls_of_vc (DM_ok (by decide)) Tryd.func41 rfl (by decide) (by decide) rfl ?_
        (refine g0_ ?_; repeat ((first | refine n1_ fun b_ => ?_ | refine n2_ fun b_ => ?_ | refine n3_ fun b_ pre_ => ?_ | refine Nat1.mk fun q_ hq_ => ?_ | refine em_ fun x_ hx_ => ?_ | refine Elem1.mk fun e_ he_ => ?_); refine g0_ ?_))
        (refine g1_ ?_; repeat ((first | refine n1_ fun b_ => ?_ | refine n2_ fun b_ => ?_ | refine n3_ fun b_ pre_ => ?_ | refine Nat1.mk fun q_ hq_ => ?_ | refine em_ fun x_ hx_ => ?_ | refine Elem1.mk fun e_ he_ => ?_); refine g1_ ?_))
        refine ACalls.all_ hct ?_
        rintro v σ1 ⟨b', -, rfl, hm⟩
        refine ⟨_, hm, ?_⟩
        (refine g0_ ?_; repeat ((first | refine n1_ fun b_ => ?_ | refine n2_ fun b_ => ?_ | refine n3_ fun b_ pre_ => ?_ | refine Nat1.mk fun q_ hq_ => ?_ | refine em_ fun x_ hx_ => ?_ | refine Elem1.mk fun e_ he_ => ?_); refine g0_ ?_))
        (refine g1_ ?_; repeat ((first | refine n1_ fun b_ => ?_ | refine n2_ fun b_ => ?_ | refine n3_ fun b_ pre_ => ?_ | refine Nat1.mk fun q_ hq_ => ?_ | refine em_ fun x_ hx_ => ?_ | refine Elem1.mk fun e_ he_ => ?_); refine g1_ ?_))
        refine ⟨(b', PB.nil, [], []), CmdOk.kept b' (by simp [stAt, st0, PB.no]), (by first | rfl | trivial), ?_⟩
        show wkMem _ (cmdM _ _ _ _)
        rw [cmdM_kept]
        simp only [rdB_eq, parV, parM, List.length_set, List.map_set, List.map_append, List.length_append, List.map_cons, List.map_nil, List.length_cons, List.length_nil, Nat.zero_add]
        (first | exact ⟨_, .refl _⟩ | exact wkMem.rfl' | exact ⟨_, .swap _ _ _⟩ | (repeat (first | exact wkMem.nil _ | exact wkMem.rfl' | exact wk_snoc _ _ _ | exact wk_fam (by assumption) _ _ _ | exact wk_famN (by assumption) _ _ _ | (apply wkMem.cons; (case' hl => (repeat (first | exact .here _ _ _ | apply Look.there)))) | apply wkMem.skip)))
    · rw [if_neg h6]
      have hln : ([] : List PV).length = 0 := rfl
      obtain ⟨a, m, mi, p, t, l, la⟩ := s
      dsimp only at hp
      subst hp
      simp only [rdB_eq, parV, parM] at *
      rcases mi with _ | ⟨mc, mi⟩
      all_goals
        try have h1n : ¬ (48 ≤ b.toNat ∧ b.toNat ≤ 57 ∨ b.toNat = 59) := fun h => h1 ⟨h, rfl⟩
        try have h3n := h3' rfl
        refine acalls_of_vc (DM_ok (by decide)) Tryd.func41 rfl (by decide) (by decide) rfl ?_
        (refine g0_ ?_; repeat ((first | refine n1_ fun b_ => ?_ | refine n2_ fun b_ => ?_ | refine n3_ fun b_ pre_ => ?_ | refine Nat1.mk fun q_ hq_ => ?_ | refine em_ fun x_ hx_ => ?_ | refine Elem1.mk fun e_ he_ => ?_); refine g0_ ?_))
        (refine g1_ ?_; repeat ((first | refine n1_ fun b_ => ?_ | refine n2_ fun b_ => ?_ | refine n3_ fun b_ pre_ => ?_ | refine Nat1.mk fun q_ hq_ => ?_ | refine em_ fun x_ hx_ => ?_ | refine Elem1.mk fun e_ he_ => ?_); refine g1_ ?_))
        refine ACalls.all_ hct ?_
        rintro v σ1 ⟨b', -, rfl, hm⟩
        refine ⟨_, hm, ?_⟩
        (refine g0_ ?_; repeat ((first | refine n1_ fun b_ => ?_ | refine n2_ fun b_ => ?_ | refine n3_ fun b_ pre_ => ?_ | refine Nat1.mk fun q_ hq_ => ?_ | refine em_ fun x_ hx_ => ?_ | refine Elem1.mk fun e_ he_ => ?_); refine g0_ ?_))
        (refine g1_ ?_; repeat ((first | refine n1_ fun b_ => ?_ | refine n2_ fun b_ => ?_ | refine n3_ fun b_ pre_ => ?_ | refine Nat1.mk fun q_ hq_ => ?_ | refine em_ fun x_ hx_ => ?_ | refine Elem1.mk fun e_ he_ => ?_); refine g1_ ?_))
        refine ACalls.lend (hg b') (r := accM b' 7 os) (.refl _) ?_
        rintro _ -
        (refine g0_ ?_; repeat ((first | refine n1_ fun b_ => ?_ | refine n2_ fun b_ => ?_ | refine n3_ fun b_ pre_ => ?_ | refine Nat1.mk fun q_ hq_ => ?_ | refine em_ fun x_ hx_ => ?_ | refine Elem1.mk fun e_ he_ => ?_); refine g0_ ?_))
        refine ⟨(b', PB.nil, [], []), CmdOk.kept b' (by simp [stAt, st0, PB.no]), (by first | rfl | trivial), ?_⟩
        show wkMem _ (cmdM _ _ _ _)
        rw [cmdM_kept]
        simp only [rdB_eq, parV, parM, List.length_set, List.map_set, List.map_append, List.length_append, List.map_cons, List.map_nil, List.length_cons, List.length_nil, Nat.zero_add]
        (first | exact ⟨_, .refl _⟩ | exact wkMem.rfl' | exact ⟨_, .swap _ _ _⟩ | (repeat (first | exact wkMem.nil _ | exact wkMem.rfl' | exact wk_snoc _ _ _ | exact wk_fam (by assumption) _ _ _ | exact wk_famN (by assumption) _ _ _ | (apply wkMem.cons; (case' hl => (repeat (first | exact .here _ _ _ | apply Look.there)))) | apply wkMem.skip)))
theorem inCommand_ok (r bo : Nat) (pb : PB) (os : List PV) (s : PSt) (b : UInt8) (hos : os.all cellsB = true) (hn : os.length ≤ 90000) (hpb : pb.no ↔ s.params = []) (hpl : s.params.length ≤ 16) (hpe : ∀ n ∈ s.params, -1 ≤ n ∧ n ≤ 9999) (hml : s.middle.length ≤ 1000) :
    ACalls Tryd.prog W 41 [.bref r 0, .int .u8 b.toNat] (rdB r (parV pb s.params) (accV bo 7 os) s :: (parM pb s.params ++ accM bo 7 os))
      (Gives (fun _ : CmdR => .tup []) (fun x => cmdM r x os (cmdL s b).1) (fun x => CmdOk pb s (cmdL s b) x)) := by
  cases hc : ctlB b with
  | true => exact inCommand_ctl W r bo pb os s b hos hn hpb hc
  | false =>
    cases pb with
    | nil => exact inCommand_nil W r bo os s b hos hn (hpb.1 trivial) hml hc
    | emp => exact inCommand_emp W r bo os s b hos hn (hpb.1 trivial) hml hc
    | own pb => exact inCommand_some W r bo pb os s b hos hn (fun h => hpb.2 h) hpl hpe hml hc
end Go.Eng.YtkcldifniomfoaaDoor
end
