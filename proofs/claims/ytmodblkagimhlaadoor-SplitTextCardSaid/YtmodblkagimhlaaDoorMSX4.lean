/- Texts put together: Spl57, Spl55, Spl58, Spl56. -/
import Derived.Test.YtmodblkagimhlaaDoorMSX2
import Derived.Test.YtmodblkagimhlaaDoorMRB
import Derived.Test.YtmodblkagimhlaaDoorMSX3
import Derived.Test.YtmodblkagimhlaaDoorMSB1
import Derived.Test.YtmodblkagimhlaaDoorMS1
/- Splits: the document's reader: its closures is and number (b_ x_ q_ e_). -/
section
namespace Go.Eng
open Go
variable {P : Program} {W : World}
/-- A call that is lent two blocks and leaves them as they are: all stands as before. -/
theorem ACalls.same2 {f : FuncId} {args : List PV} {σ r r' : Mem} {b b' : Nat} {c c' : Cont} {v : PV} {R : Unit → Prop} {k : PV → Mem → Prop} (h : ACalls P W f args [⟨b, c⟩, ⟨b', c'⟩] (Gives (fun _ : Unit => v) (fun _ => [⟨b, c⟩, ⟨b', c'⟩]) R)) (hl : Look σ b c r) (hl' : Look r b' c' r') (hk : k v σ) : ACalls P W f args σ k := by
  have hp : σ.Perm ([⟨b, c⟩, ⟨b', c'⟩] ++ r') := hl.perm.trans (hl'.perm.cons _)
  refine ACalls.weak (ACalls.lend h hp fun x _ => ?_)
  exact ⟨σ, hk, [], by rw [List.append_nil]; exact hp.symm⟩
/-- A call that is lent some blocks, with what it makes of them, and gives what is written no more. -/
theorem ACalls.lendKE {α : Type} {f : FuncId} {args : List PV} {σ τ ρ : Mem} {τ1 : α → Mem} {r : α → PV} {Q : α → Prop} {k : PV → Mem → Prop} (h : ACalls P W f args τ fun v σ' => ∃ x, Q x ∧ ∃ ρ', σ'.Perm (τ1 x ++ ρ') ∧ Frz ρ' v (r x)) (hp : σ.Perm (τ ++ ρ)) (hk : ∀ x, Q x → k (r x) (ρ ++ τ1 x)) : ACalls P W f args σ k := by
  refine ACalls.frz ((h.frame ρ).perm hp) ?_
  rintro v σ' ⟨σ1, ⟨x, hx, ρ', hp', hf⟩, rfl⟩
  refine ⟨ρ ++ τ1 x, ρ', r x, (hp'.append_right ρ).trans ?_, hf, hk x hx⟩
  rw [List.append_assoc, List.append_assoc]
  exact (List.perm_append_comm.append_left _).trans (by rw [← List.append_assoc, ← List.append_assoc]; exact List.perm_append_comm.append_right _)
theorem look3 {σ r1 r2 r3 : Mem} {b1 b2 b3 : Nat} {c1 c2 c3 : Cont} (h1 : Look σ b1 c1 r1) (h2 : Look r1 b2 c2 r2) (h3 : Look r2 b3 c3 r3) : σ.Perm ([⟨b1, c1⟩, ⟨b2, c2⟩, ⟨b3, c3⟩] ++ r3) :=
  h1.perm.trans ((h2.perm.trans (h3.perm.cons _)).cons _)
theorem look6 {σ r1 r2 r3 r4 r5 r6 : Mem} {b1 b2 b3 b4 b5 b6 : Nat} {c1 c2 c3 c4 c5 c6 : Cont} (h1 : Look σ b1 c1 r1) (h2 : Look r1 b2 c2 r2) (h3 : Look r2 b3 c3 r3) (h4 : Look r3 b4 c4 r4) (h5 : Look r4 b5 c5 r5) (h6 : Look r5 b6 c6 r6) : σ.Perm ([⟨b1, c1⟩, ⟨b2, c2⟩, ⟨b3, c3⟩, ⟨b4, c4⟩, ⟨b5, c5⟩, ⟨b6, c6⟩] ++ r6) :=
  (look3 h1 h2 h3).trans (((((look3 h4 h5 h6).cons _).cons _).cons _))
end Go.Eng
namespace Go.Eng.YtmodblkagimhlaaDoor
open Go Go.Eng Go.Proofs Go.RowKit
variable (W : World)
set_option linter.unusedSimpArgs false
set_option maxRecDepth 100000
set_option linter.unusedVariables false
set_option maxHeartbeats 4000000
def rsA (b : Nat) (i : Int) : Blk := ⟨b, .row 1 [.int .i64 i] 0⟩
def rsS (b : Nat) (s : List UInt8) : Blk := ⟨b, .row 1 [.str s] 0⟩
theorem isR_ok (bA bS : Nat) (s : List UInt8) (i c : Nat) (B : Bool) (hB : decide (nextN s i = c) = B) (hi : i ≤ s.length) (hs : s.length ≤ 4000) (hc0 : c ≠ 0) :
    ACalls Tryd.prog W 58 [.int .u8 c, .bref bA 0, .bref bS 0] [rsA bA i, rsS bS s] (Gives (fun _ : Unit => .bool B) (fun _ => [rsA bA i, rsS bS s]) (fun _ => True)) := by
  subst hB
  unfold rsA rsS
  by_cases h : i = s.length
  · have e : nextN s i = 0 := by rw [nextN, h, List.getElem?_eq_none (Nat.le_refl _)]; rfl
    rw [decide_eq_false (by omega)]
    refine acalls_of_vc (drawOk W) Tryd.func58 rfl (by decide) (by decide) rfl ?_
    (refine g0_ ?_; repeat ((first | refine n1_ fun b_ => ?_ | refine n2_ fun b_ => ?_ | refine Nat1.mk fun q_ hq_ => ?_ | refine em_ fun x_ hx_ => ?_ | refine Elem1.mk fun e_ he_ => ?_); refine g0_ ?_))
    (refine g1_ ?_; repeat ((first | refine n1_ fun b_ => ?_ | refine n2_ fun b_ => ?_ | refine Nat1.mk fun q_ hq_ => ?_ | refine em_ fun x_ hx_ => ?_ | refine Elem1.mk fun e_ he_ => ?_); refine g1_ ?_))
    exact ⟨(), trivial, by first | rfl | (congr 1; simp; omega), by (first | exact ⟨_, .refl _⟩ | exact wkMem.rfl' | exact ⟨_, .swap _ _ _⟩ | (repeat (first | exact wkMem.nil _ | exact wkMem.rfl' | exact wk_snoc _ _ _ | exact wk_fam (by assumption) _ _ _ | exact wk_famN (by assumption) _ _ _ | (apply wkMem.cons; (case' hl => (repeat (first | exact .here _ _ _ | apply Look.there)))) | apply wkMem.skip)))⟩
  · have hlt : i < s.length := by omega
    obtain ⟨d, hd⟩ : ∃ d, s[i]? = some d := ⟨s[i], List.getElem?_eq_getElem hlt⟩
    have e : nextN s i = d.toNat := by rw [nextN, hd]; rfl
    rw [e]
    refine acalls_of_vc (drawOk W) Tryd.func58 rfl (by decide) (by decide) rfl ?_
    (refine g0_ ?_; repeat ((first | refine n1_ fun b_ => ?_ | refine n2_ fun b_ => ?_ | refine Nat1.mk fun q_ hq_ => ?_ | refine em_ fun x_ hx_ => ?_ | refine Elem1.mk fun e_ he_ => ?_); refine g0_ ?_))
    (refine g1_ ?_; repeat ((first | refine n1_ fun b_ => ?_ | refine n2_ fun b_ => ?_ | refine Nat1.mk fun q_ hq_ => ?_ | refine em_ fun x_ hx_ => ?_ | refine Elem1.mk fun e_ he_ => ?_); refine g1_ ?_))
    rw [hd] at he_
    obtain rfl := Option.some.inj he_
    exact ⟨(), trivial, congrArg PV.bool (decide_eq_decide.2 (by omega)), by (first | exact ⟨_, .refl _⟩ | exact wkMem.rfl' | exact ⟨_, .swap _ _ _⟩ | (repeat (first | exact wkMem.nil _ | exact wkMem.rfl' | exact wk_snoc _ _ _ | exact wk_fam (by assumption) _ _ _ | exact wk_famN (by assumption) _ _ _ | (apply wkMem.cons; (case' hl => (repeat (first | exact .here _ _ _ | apply Look.there)))) | apply wkMem.skip)))⟩
theorem uint_digits : ∀ (l : List UInt8) (acc k : Nat), (∀ c ∈ l, 48 ≤ c.toNat ∧ c.toNat ≤ 57) → acc < 10 ^ k → k + l.length ≤ 10 → Lib.parseUint10 acc l = .ok (l.foldl stD acc) ∧ l.foldl stD acc < 10 ^ (k + l.length)
  | [], acc, k, _, ha, _ => ⟨rfl, ha⟩
  | c :: l, acc, k, hd, ha, hk => by
    rw [List.length_cons] at hk
    have h10 : (10 : Nat) ^ k ≤ 10 ^ 9 := Nat.pow_le_pow_right (by decide) (by omega)
    have hc := hd c (by simp)
    rw [show (10 : Nat) ^ 9 = 1000000000 from rfl] at h10
    have hn : stD acc c < 10 ^ (k + 1) := by
      unfold stD
      rw [Nat.pow_succ]
      omega
    obtain ⟨h1, h2⟩ := uint_digits l (stD acc c) (k + 1) (fun x hx => hd x (List.mem_cons_of_mem _ hx)) hn (by omega)
    refine ⟨?_, by rw [List.length_cons, List.foldl_cons, show k + (l.length + 1) = k + 1 + l.length by omega]; exact h2⟩
    rw [Lib.parseUint10, if_pos hc, if_neg (by omega), if_neg (by omega), List.foldl_cons]
    exact h1
theorem cnt_digits {l : List UInt8} (hne : l ≠ []) (hl : l.length ≤ 4) (hd : ∀ c ∈ l, 48 ≤ c.toNat ∧ c.toNat ≤ 57) : cntV l = ((l.foldl stD 0 : Nat) : Int) ∧ isOk (Lib.atoiAll l) = true := by
  obtain ⟨h1, h2⟩ := uint_digits l 0 0 hd (by decide) (by omega)
  have h4 : (10 : Nat) ^ (0 + l.length) ≤ 10 ^ 4 := Nat.pow_le_pow_right (by decide) (by omega)
  rw [show (10 : Nat) ^ 4 = 10000 from rfl] at h4
  unfold cntV
  cases l with
  | nil => exact absurd rfl hne
  | cons c r =>
    have hc := hd c (by simp)
    rw [Lib.atoiAll_plain c r (by omega) (by omega), Lib.parseMag, if_neg (by simp), h1]
    simp only [Lib.signless]
    rw [if_neg (by omega)]
    exact ⟨rfl, rfl⟩
theorem dg4_digit (l : List UInt8) : ∀ c ∈ dg4 l, 48 ≤ c.toNat ∧ c.toNat ≤ 57 := by
  intro c hc
  obtain ⟨j, hj, rfl⟩ := List.getElem_of_mem hc
  obtain ⟨c', -, a2, a3⟩ := (dg4_at l 4 j (Nat.le_of_lt hj)).1 hj
  have a5 : (dg4 l)[j]? = some c' := a2
  rw [List.getElem?_eq_getElem hj] at a5
  rw [Option.some.inj a5]
  exact a3
theorem dg4_pre (l : List UInt8) : l.take (dg4 l).length = dg4 l := by
  refine List.ext_getElem? fun j => ?_
  rcases Nat.lt_or_ge j (dg4 l).length with h | h
  · obtain ⟨c, a1, a2, -⟩ := (dg4_at l 4 j (Nat.le_of_lt h)).1 h
    rw [List.getElem?_take, if_pos h, a1]
    exact a2.symm
  · rw [List.getElem?_eq_none (by rw [List.length_take]; omega), List.getElem?_eq_none h]
theorem numberR_bad (bA bS bB : Nat) (s : List UInt8) (i : Nat) (hs : s.length ≤ 4000) (hi : i ≤ s.length) (hbad : dg4 (s.drop i) = [] ∨ (dg4 (s.drop i)).headD 48 = 48) :
    ACalls Tryd.prog W 59 [.bref bA 0, .bref bS 0, .bref bB 0] [rsA bA i, rsS bS s, rsA bB (-1)] (Gives (fun _ : Unit => .int .i64 0) (fun _ => [rsA bA i, rsS bS s, rsA bB i]) (fun _ => True)) := by
  have hat := fun j => dg4_at (s.drop i) 4 j
  obtain ⟨hl4, hll⟩ := dg4_len (s.drop i)
  have hpre := dg4_pre (s.drop i)
  have hdig := dg4_digit (s.drop i)
  rw [List.length_drop] at hll
  change ∀ j, j ≤ (dg4 (s.drop i)).length → (j < (dg4 (s.drop i)).length → ∃ c, (s.drop i)[j]? = some c ∧ (dg4 (s.drop i))[j]? = some c ∧ 48 ≤ c.toNat ∧ c.toNat ≤ 57) ∧ (j = (dg4 (s.drop i)).length → _) at hat
  have hnx := fun j => nextN_drop s i j
  generalize dg4 (s.drop i) = ds at *
  unfold rsA rsS
  refine acalls_of_vc (drawOk W) Tryd.func59 rfl (by decide) (by decide) rfl ?_
  (refine g0_ ?_; repeat ((first | refine n1_ fun b_ => ?_ | refine n2_ fun b_ => ?_ | refine Nat1.mk fun q_ hq_ => ?_ | refine em_ fun x_ hx_ => ?_ | refine Elem1.mk fun e_ he_ => ?_); refine g0_ ?_))
  refine' loopI (α := Nat) (fun j => [(4, .int .i64 ((i + j : Nat) : Int))]) [(0, _), (1, _), (2, _)] (fun j => [⟨bA, .row 1 [.int .i64 i] 0⟩, ⟨bS, .row 1 [.str s] 0⟩, ⟨bB, .row 1 [.int .i64 (-1)] 0⟩]) (fun j => j ≤ ds.length) (fun j => ds.length - j) 0 ?_ ?_
  · exact Nat.zero_le _
  rintro j hj
  obtain ⟨h1, h2⟩ := hat j hj
  rw [← hnx j] at h2
  by_cases hjL : j = ds.length
  · have h0 : j = 0 ∨ ∃ c0, s[i]? = some c0 ∧ c0.toNat = 48 ∧ 0 < j := by
      rcases Nat.eq_zero_or_pos j with h0 | h0
      · exact .inl h0
      · refine .inr ?_
        obtain ⟨c, a1, a2, -⟩ := (hat 0 (Nat.zero_le _)).1 (by omega)
        rw [List.getElem?_drop, Nat.add_zero] at a1
        refine ⟨c, a1, ?_, h0⟩
        rcases hbad with h | h
        · rw [h] at a2; cases a2
        · cases ds with
          | nil => cases a2
          | cons x l =>
            obtain rfl := Option.some.inj a2
            rw [show x = 48 from h]; rfl
    clear hnx h1 hat
    have h2 := h2 hjL
    rcases Nat.lt_or_ge (i + j) s.length with hlt | hge
    · rcases Nat.lt_or_ge j 4 with hj4 | hj4
      · obtain ⟨c, hc⟩ : ∃ c, s[i + j]? = some c := ⟨s[i + j], List.getElem?_eq_getElem hlt⟩
        have hcn : c.toNat < 48 ∨ 57 < c.toNat := by
          rw [nextN, hc] at h2
          have : c.toNat < 48 ∨ 57 < c.toNat := h2.resolve_left (by omega)
          exact this
        clear h2
        by_cases hc48 : c.toNat < 48
        · (refine g0_ ?_; repeat ((first | refine n1_ fun b_ => ?_ | refine n2_ fun b_ => ?_ | refine Nat1.mk fun q_ hq_ => ?_ | refine em_ fun x_ hx_ => ?_ | refine Elem1.mk fun e_ he_ => ?_); refine g0_ ?_))
          (refine g1_ ?_; repeat ((first | refine n1_ fun b_ => ?_ | refine n2_ fun b_ => ?_ | refine Nat1.mk fun q_ hq_ => ?_ | refine em_ fun x_ hx_ => ?_ | refine Elem1.mk fun e_ he_ => ?_); refine g1_ ?_))
          rw [hc] at he_
          obtain rfl := Option.some.inj he_
          (refine g1_ ?_; repeat ((first | refine n1_ fun b_ => ?_ | refine n2_ fun b_ => ?_ | refine Nat1.mk fun q_ hq_ => ?_ | refine em_ fun x_ hx_ => ?_ | refine Elem1.mk fun e_ he_ => ?_); refine g1_ ?_))
          rcases h0 with h0 | ⟨c0, hc0, hc48, hj0⟩
          · (refine g1_ ?_; repeat ((first | refine n1_ fun b_ => ?_ | refine n2_ fun b_ => ?_ | refine Nat1.mk fun q_ hq_ => ?_ | refine em_ fun x_ hx_ => ?_ | refine Elem1.mk fun e_ he_ => ?_); refine g1_ ?_))
            exact ⟨(), trivial, rfl, by (first | exact ⟨_, .refl _⟩ | exact wkMem.rfl' | exact ⟨_, .swap _ _ _⟩ | (repeat (first | exact wkMem.nil _ | exact wkMem.rfl' | exact wk_snoc _ _ _ | exact wk_fam (by assumption) _ _ _ | exact wk_famN (by assumption) _ _ _ | (apply wkMem.cons; (case' hl => (repeat (first | exact .here _ _ _ | apply Look.there)))) | apply wkMem.skip)))⟩
          · (refine g1_ ?_; repeat ((first | refine n1_ fun b_ => ?_ | refine n2_ fun b_ => ?_ | refine Nat1.mk fun q_ hq_ => ?_ | refine em_ fun x_ hx_ => ?_ | refine Elem1.mk fun e_ he_ => ?_); refine g1_ ?_))
            rw [hc0] at he_
            obtain rfl := Option.some.inj he_
            (refine g1_ ?_; repeat ((first | refine n1_ fun b_ => ?_ | refine n2_ fun b_ => ?_ | refine Nat1.mk fun q_ hq_ => ?_ | refine em_ fun x_ hx_ => ?_ | refine Elem1.mk fun e_ he_ => ?_); refine g1_ ?_))
            exact ⟨(), trivial, rfl, by (first | exact ⟨_, .refl _⟩ | exact wkMem.rfl' | exact ⟨_, .swap _ _ _⟩ | (repeat (first | exact wkMem.nil _ | exact wkMem.rfl' | exact wk_snoc _ _ _ | exact wk_fam (by assumption) _ _ _ | exact wk_famN (by assumption) _ _ _ | (apply wkMem.cons; (case' hl => (repeat (first | exact .here _ _ _ | apply Look.there)))) | apply wkMem.skip)))⟩
        · have hc57 : 57 < c.toNat := by omega
          (refine g0_ ?_; repeat ((first | refine n1_ fun b_ => ?_ | refine n2_ fun b_ => ?_ | refine Nat1.mk fun q_ hq_ => ?_ | refine em_ fun x_ hx_ => ?_ | refine Elem1.mk fun e_ he_ => ?_); refine g0_ ?_))
          (refine g1_ ?_; repeat ((first | refine n1_ fun b_ => ?_ | refine n2_ fun b_ => ?_ | refine Nat1.mk fun q_ hq_ => ?_ | refine em_ fun x_ hx_ => ?_ | refine Elem1.mk fun e_ he_ => ?_); refine g1_ ?_))
          rw [hc] at he_
          obtain rfl := Option.some.inj he_
          (refine g1_ ?_; repeat ((first | refine n1_ fun b_ => ?_ | refine n2_ fun b_ => ?_ | refine Nat1.mk fun q_ hq_ => ?_ | refine em_ fun x_ hx_ => ?_ | refine Elem1.mk fun e_ he_ => ?_); refine g1_ ?_))
          rw [hc] at he_
          obtain rfl := Option.some.inj he_
          (refine g1_ ?_; repeat ((first | refine n1_ fun b_ => ?_ | refine n2_ fun b_ => ?_ | refine Nat1.mk fun q_ hq_ => ?_ | refine em_ fun x_ hx_ => ?_ | refine Elem1.mk fun e_ he_ => ?_); refine g1_ ?_))
          rcases h0 with h0 | ⟨c0, hc0, hc48, hj0⟩
          · (refine g1_ ?_; repeat ((first | refine n1_ fun b_ => ?_ | refine n2_ fun b_ => ?_ | refine Nat1.mk fun q_ hq_ => ?_ | refine em_ fun x_ hx_ => ?_ | refine Elem1.mk fun e_ he_ => ?_); refine g1_ ?_))
            exact ⟨(), trivial, rfl, by (first | exact ⟨_, .refl _⟩ | exact wkMem.rfl' | exact ⟨_, .swap _ _ _⟩ | (repeat (first | exact wkMem.nil _ | exact wkMem.rfl' | exact wk_snoc _ _ _ | exact wk_fam (by assumption) _ _ _ | exact wk_famN (by assumption) _ _ _ | (apply wkMem.cons; (case' hl => (repeat (first | exact .here _ _ _ | apply Look.there)))) | apply wkMem.skip)))⟩
          · (refine g1_ ?_; repeat ((first | refine n1_ fun b_ => ?_ | refine n2_ fun b_ => ?_ | refine Nat1.mk fun q_ hq_ => ?_ | refine em_ fun x_ hx_ => ?_ | refine Elem1.mk fun e_ he_ => ?_); refine g1_ ?_))
            rw [hc0] at he_
            obtain rfl := Option.some.inj he_
            (refine g1_ ?_; repeat ((first | refine n1_ fun b_ => ?_ | refine n2_ fun b_ => ?_ | refine Nat1.mk fun q_ hq_ => ?_ | refine em_ fun x_ hx_ => ?_ | refine Elem1.mk fun e_ he_ => ?_); refine g1_ ?_))
            exact ⟨(), trivial, rfl, by (first | exact ⟨_, .refl _⟩ | exact wkMem.rfl' | exact ⟨_, .swap _ _ _⟩ | (repeat (first | exact wkMem.nil _ | exact wkMem.rfl' | exact wk_snoc _ _ _ | exact wk_fam (by assumption) _ _ _ | exact wk_famN (by assumption) _ _ _ | (apply wkMem.cons; (case' hl => (repeat (first | exact .here _ _ _ | apply Look.there)))) | apply wkMem.skip)))⟩
      · clear h2
        (refine g0_ ?_; repeat ((first | refine n1_ fun b_ => ?_ | refine n2_ fun b_ => ?_ | refine Nat1.mk fun q_ hq_ => ?_ | refine em_ fun x_ hx_ => ?_ | refine Elem1.mk fun e_ he_ => ?_); refine g0_ ?_))
        (refine g1_ ?_; repeat ((first | refine n1_ fun b_ => ?_ | refine n2_ fun b_ => ?_ | refine Nat1.mk fun q_ hq_ => ?_ | refine em_ fun x_ hx_ => ?_ | refine Elem1.mk fun e_ he_ => ?_); refine g1_ ?_))
        rcases h0 with h0 | ⟨c0, hc0, hc48, hj0⟩
        · (refine g1_ ?_; repeat ((first | refine n1_ fun b_ => ?_ | refine n2_ fun b_ => ?_ | refine Nat1.mk fun q_ hq_ => ?_ | refine em_ fun x_ hx_ => ?_ | refine Elem1.mk fun e_ he_ => ?_); refine g1_ ?_))
          exact ⟨(), trivial, rfl, by (first | exact ⟨_, .refl _⟩ | exact wkMem.rfl' | exact ⟨_, .swap _ _ _⟩ | (repeat (first | exact wkMem.nil _ | exact wkMem.rfl' | exact wk_snoc _ _ _ | exact wk_fam (by assumption) _ _ _ | exact wk_famN (by assumption) _ _ _ | (apply wkMem.cons; (case' hl => (repeat (first | exact .here _ _ _ | apply Look.there)))) | apply wkMem.skip)))⟩
        · (refine g1_ ?_; repeat ((first | refine n1_ fun b_ => ?_ | refine n2_ fun b_ => ?_ | refine Nat1.mk fun q_ hq_ => ?_ | refine em_ fun x_ hx_ => ?_ | refine Elem1.mk fun e_ he_ => ?_); refine g1_ ?_))
          rw [hc0] at he_
          obtain rfl := Option.some.inj he_
          (refine g1_ ?_; repeat ((first | refine n1_ fun b_ => ?_ | refine n2_ fun b_ => ?_ | refine Nat1.mk fun q_ hq_ => ?_ | refine em_ fun x_ hx_ => ?_ | refine Elem1.mk fun e_ he_ => ?_); refine g1_ ?_))
          exact ⟨(), trivial, rfl, by (first | exact ⟨_, .refl _⟩ | exact wkMem.rfl' | exact ⟨_, .swap _ _ _⟩ | (repeat (first | exact wkMem.nil _ | exact wkMem.rfl' | exact wk_snoc _ _ _ | exact wk_fam (by assumption) _ _ _ | exact wk_famN (by assumption) _ _ _ | (apply wkMem.cons; (case' hl => (repeat (first | exact .here _ _ _ | apply Look.there)))) | apply wkMem.skip)))⟩
    · clear h2
      (refine g0_ ?_; repeat ((first | refine n1_ fun b_ => ?_ | refine n2_ fun b_ => ?_ | refine Nat1.mk fun q_ hq_ => ?_ | refine em_ fun x_ hx_ => ?_ | refine Elem1.mk fun e_ he_ => ?_); refine g0_ ?_))
      (refine g1_ ?_; repeat ((first | refine n1_ fun b_ => ?_ | refine n2_ fun b_ => ?_ | refine Nat1.mk fun q_ hq_ => ?_ | refine em_ fun x_ hx_ => ?_ | refine Elem1.mk fun e_ he_ => ?_); refine g1_ ?_))
      rcases h0 with h0 | ⟨c0, hc0, hc48, hj0⟩
      · (refine g1_ ?_; repeat ((first | refine n1_ fun b_ => ?_ | refine n2_ fun b_ => ?_ | refine Nat1.mk fun q_ hq_ => ?_ | refine em_ fun x_ hx_ => ?_ | refine Elem1.mk fun e_ he_ => ?_); refine g1_ ?_))
        exact ⟨(), trivial, rfl, by (first | exact ⟨_, .refl _⟩ | exact wkMem.rfl' | exact ⟨_, .swap _ _ _⟩ | (repeat (first | exact wkMem.nil _ | exact wkMem.rfl' | exact wk_snoc _ _ _ | exact wk_fam (by assumption) _ _ _ | exact wk_famN (by assumption) _ _ _ | (apply wkMem.cons; (case' hl => (repeat (first | exact .here _ _ _ | apply Look.there)))) | apply wkMem.skip)))⟩
      · (refine g1_ ?_; repeat ((first | refine n1_ fun b_ => ?_ | refine n2_ fun b_ => ?_ | refine Nat1.mk fun q_ hq_ => ?_ | refine em_ fun x_ hx_ => ?_ | refine Elem1.mk fun e_ he_ => ?_); refine g1_ ?_))
        rw [hc0] at he_
        obtain rfl := Option.some.inj he_
        (refine g1_ ?_; repeat ((first | refine n1_ fun b_ => ?_ | refine n2_ fun b_ => ?_ | refine Nat1.mk fun q_ hq_ => ?_ | refine em_ fun x_ hx_ => ?_ | refine Elem1.mk fun e_ he_ => ?_); refine g1_ ?_))
        exact ⟨(), trivial, rfl, by (first | exact ⟨_, .refl _⟩ | exact wkMem.rfl' | exact ⟨_, .swap _ _ _⟩ | (repeat (first | exact wkMem.nil _ | exact wkMem.rfl' | exact wk_snoc _ _ _ | exact wk_fam (by assumption) _ _ _ | exact wk_famN (by assumption) _ _ _ | (apply wkMem.cons; (case' hl => (repeat (first | exact .here _ _ _ | apply Look.there)))) | apply wkMem.skip)))⟩
  · obtain ⟨c, hc1, hc2, hcr⟩ := h1 (by omega)
    rw [List.getElem?_drop] at hc1
    have hlt := lt_of_at hc1
    clear hnx hat h1 h2
    (refine g0_ ?_; repeat ((first | refine n1_ fun b_ => ?_ | refine n2_ fun b_ => ?_ | refine Nat1.mk fun q_ hq_ => ?_ | refine em_ fun x_ hx_ => ?_ | refine Elem1.mk fun e_ he_ => ?_); refine g0_ ?_))
    (refine g1_ ?_; repeat ((first | refine n1_ fun b_ => ?_ | refine n2_ fun b_ => ?_ | refine Nat1.mk fun q_ hq_ => ?_ | refine em_ fun x_ hx_ => ?_ | refine Elem1.mk fun e_ he_ => ?_); refine g1_ ?_))
    rw [hc1] at he_
    obtain rfl := Option.some.inj he_
    (refine g1_ ?_; repeat ((first | refine n1_ fun b_ => ?_ | refine n2_ fun b_ => ?_ | refine Nat1.mk fun q_ hq_ => ?_ | refine em_ fun x_ hx_ => ?_ | refine Elem1.mk fun e_ he_ => ?_); refine g1_ ?_))
    rw [hc1] at he_
    obtain rfl := Option.some.inj he_
    (refine g1_ ?_; repeat ((first | refine n1_ fun b_ => ?_ | refine n2_ fun b_ => ?_ | refine Nat1.mk fun q_ hq_ => ?_ | refine em_ fun x_ hx_ => ?_ | refine Elem1.mk fun e_ he_ => ?_); refine g1_ ?_))
    refine nx_ (j + 1) ?_ ?_
    · exact (show j + 1 ≤ _ by omega)
    · ((try dsimp only); (try simp only [List.length_drop, List.length_take, List.length_append, List.length_cons, List.length_nil, List.length_map] at *); omega)
theorem numberR_ok (hE : ErrJ W) (bA bS bB : Nat) (s : List UInt8) (i : Nat) (hs : s.length ≤ 4000) (hi : i ≤ s.length) {p m : Nat} (hr : readN s i = .ok (p, m)) :
    ACalls Tryd.prog W 59 [.bref bA 0, .bref bS 0, .bref bB 0] [rsA bA i, rsS bS s, rsA bB (-1)] (Gives (fun _ : Unit => .int .i64 p) (fun _ => [rsA bA m, rsS bS s, rsA bB (-1)]) (fun _ => True)) := by
  obtain ⟨hm1, hm2, hp4, hme, hpe, g1, g2⟩ := readN_len hr
  clear hr
  have hat := fun j => dg4_at (s.drop i) 4 j
  obtain ⟨hl4, hll⟩ := dg4_len (s.drop i)
  have hpre := dg4_pre (s.drop i)
  have hdig := dg4_digit (s.drop i)
  rw [List.length_drop] at hll
  change ∀ j, j ≤ (dg4 (s.drop i)).length → (j < (dg4 (s.drop i)).length → ∃ c, (s.drop i)[j]? = some c ∧ (dg4 (s.drop i))[j]? = some c ∧ 48 ≤ c.toNat ∧ c.toNat ≤ 57) ∧ (j = (dg4 (s.drop i)).length → _) at hat
  have hnx := fun j => nextN_drop s i j
  have hct := cnt_digits g1 hl4 hdig
  have hat' := atoi_ok W hE (dg4 (s.drop i)) (by omega)
  rw [hct.1, hct.2, ← hpe] at hat'
  clear hct hpe
  generalize dg4 (s.drop i) = ds at *
  obtain ⟨c0, hc0, hc48⟩ : ∃ c0, s[i]? = some c0 ∧ c0.toNat ≠ 48 := by
    obtain ⟨c, a1, a2, -⟩ := (hat 0 (Nat.zero_le _)).1 (List.length_pos_iff.2 g1)
    rw [List.getElem?_drop, Nat.add_zero] at a1
    refine ⟨c, a1, fun e => ?_⟩
    cases ds with
    | nil => cases a2
    | cons x l =>
      obtain rfl := Option.some.inj a2
      exact g2 (UInt8.toNat_inj.1 e)
  have hL : 1 ≤ ds.length := List.length_pos_iff.2 g1
  have hpre2 : (s.take m).drop i = ds := by
    rw [List.drop_take, hme, Nat.add_sub_cancel_left]
    exact hpre
  unfold rsA rsS
  refine acalls_of_vc (drawOk W) Tryd.func59 rfl (by decide) (by decide) rfl ?_
  (refine g0_ ?_; repeat ((first | refine n1_ fun b_ => ?_ | refine n2_ fun b_ => ?_ | refine Nat1.mk fun q_ hq_ => ?_ | refine em_ fun x_ hx_ => ?_ | refine Elem1.mk fun e_ he_ => ?_); refine g0_ ?_))
  refine' loopI (α := Nat) (fun j => [(4, .int .i64 ((i + j : Nat) : Int))]) [(0, _), (1, _), (2, _)] (fun j => [⟨bA, .row 1 [.int .i64 i] 0⟩, ⟨bS, .row 1 [.str s] 0⟩, ⟨bB, .row 1 [.int .i64 (-1)] 0⟩]) (fun j => j ≤ ds.length) (fun j => ds.length - j) 0 ?_ ?_
  · exact Nat.zero_le _
  rintro j hj
  obtain ⟨h1, h2⟩ := hat j hj
  rw [← hnx j] at h2
  by_cases hjL : j = ds.length
  · clear hnx h1 hat
    rw [← hjL] at hme
    subst hme
    have h2 := h2 hjL
    rcases Nat.lt_or_ge (i + j) s.length with hlt | hge
    · rcases Nat.lt_or_ge j 4 with hj4 | hj4
      · obtain ⟨c, hc⟩ : ∃ c, s[i + j]? = some c := ⟨s[i + j], List.getElem?_eq_getElem hlt⟩
        have hcn : c.toNat < 48 ∨ 57 < c.toNat := by
          rw [nextN, hc] at h2
          have : c.toNat < 48 ∨ 57 < c.toNat := h2.resolve_left (by omega)
          exact this
        clear h2
        by_cases hc48 : c.toNat < 48
        · (refine g0_ ?_; repeat ((first | refine n1_ fun b_ => ?_ | refine n2_ fun b_ => ?_ | refine Nat1.mk fun q_ hq_ => ?_ | refine em_ fun x_ hx_ => ?_ | refine Elem1.mk fun e_ he_ => ?_); refine g0_ ?_))
          (refine g1_ ?_; repeat ((first | refine n1_ fun b_ => ?_ | refine n2_ fun b_ => ?_ | refine Nat1.mk fun q_ hq_ => ?_ | refine em_ fun x_ hx_ => ?_ | refine Elem1.mk fun e_ he_ => ?_); refine g1_ ?_))
          rw [hc] at he_
          obtain rfl := Option.some.inj he_
          (refine g1_ ?_; repeat ((first | refine n1_ fun b_ => ?_ | refine n2_ fun b_ => ?_ | refine Nat1.mk fun q_ hq_ => ?_ | refine em_ fun x_ hx_ => ?_ | refine Elem1.mk fun e_ he_ => ?_); refine g1_ ?_))
          (refine g1_ ?_; repeat ((first | refine n1_ fun b_ => ?_ | refine n2_ fun b_ => ?_ | refine Nat1.mk fun q_ hq_ => ?_ | refine em_ fun x_ hx_ => ?_ | refine Elem1.mk fun e_ he_ => ?_); refine g1_ ?_))
          rw [hc0] at he_
          obtain rfl := Option.some.inj he_
          (refine g1_ ?_; repeat ((first | refine n1_ fun b_ => ?_ | refine n2_ fun b_ => ?_ | refine Nat1.mk fun q_ hq_ => ?_ | refine em_ fun x_ hx_ => ?_ | refine Elem1.mk fun e_ he_ => ?_); refine g1_ ?_))
          rw [hpre2]
          refine (hat').use ?_; (refine g0_ ?_; repeat ((first | refine n1_ fun b_ => ?_ | refine n2_ fun b_ => ?_ | refine Nat1.mk fun q_ hq_ => ?_ | refine em_ fun x_ hx_ => ?_ | refine Elem1.mk fun e_ he_ => ?_); refine g0_ ?_))
          (refine g1_ ?_; repeat ((first | refine n1_ fun b_ => ?_ | refine n2_ fun b_ => ?_ | refine Nat1.mk fun q_ hq_ => ?_ | refine em_ fun x_ hx_ => ?_ | refine Elem1.mk fun e_ he_ => ?_); refine g1_ ?_))
          exact ⟨(), trivial, rfl, by (first | exact ⟨_, .refl _⟩ | exact wkMem.rfl' | exact ⟨_, .swap _ _ _⟩ | (repeat (first | exact wkMem.nil _ | exact wkMem.rfl' | exact wk_snoc _ _ _ | exact wk_fam (by assumption) _ _ _ | exact wk_famN (by assumption) _ _ _ | (apply wkMem.cons; (case' hl => (repeat (first | exact .here _ _ _ | apply Look.there)))) | apply wkMem.skip)))⟩
        · have hc57 : 57 < c.toNat := by omega
          (refine g0_ ?_; repeat ((first | refine n1_ fun b_ => ?_ | refine n2_ fun b_ => ?_ | refine Nat1.mk fun q_ hq_ => ?_ | refine em_ fun x_ hx_ => ?_ | refine Elem1.mk fun e_ he_ => ?_); refine g0_ ?_))
          (refine g1_ ?_; repeat ((first | refine n1_ fun b_ => ?_ | refine n2_ fun b_ => ?_ | refine Nat1.mk fun q_ hq_ => ?_ | refine em_ fun x_ hx_ => ?_ | refine Elem1.mk fun e_ he_ => ?_); refine g1_ ?_))
          rw [hc] at he_
          obtain rfl := Option.some.inj he_
          (refine g1_ ?_; repeat ((first | refine n1_ fun b_ => ?_ | refine n2_ fun b_ => ?_ | refine Nat1.mk fun q_ hq_ => ?_ | refine em_ fun x_ hx_ => ?_ | refine Elem1.mk fun e_ he_ => ?_); refine g1_ ?_))
          rw [hc] at he_
          obtain rfl := Option.some.inj he_
          (refine g1_ ?_; repeat ((first | refine n1_ fun b_ => ?_ | refine n2_ fun b_ => ?_ | refine Nat1.mk fun q_ hq_ => ?_ | refine em_ fun x_ hx_ => ?_ | refine Elem1.mk fun e_ he_ => ?_); refine g1_ ?_))
          (refine g1_ ?_; repeat ((first | refine n1_ fun b_ => ?_ | refine n2_ fun b_ => ?_ | refine Nat1.mk fun q_ hq_ => ?_ | refine em_ fun x_ hx_ => ?_ | refine Elem1.mk fun e_ he_ => ?_); refine g1_ ?_))
          rw [hc0] at he_
          obtain rfl := Option.some.inj he_
          (refine g1_ ?_; repeat ((first | refine n1_ fun b_ => ?_ | refine n2_ fun b_ => ?_ | refine Nat1.mk fun q_ hq_ => ?_ | refine em_ fun x_ hx_ => ?_ | refine Elem1.mk fun e_ he_ => ?_); refine g1_ ?_))
          rw [hpre2]
          refine (hat').use ?_; (refine g0_ ?_; repeat ((first | refine n1_ fun b_ => ?_ | refine n2_ fun b_ => ?_ | refine Nat1.mk fun q_ hq_ => ?_ | refine em_ fun x_ hx_ => ?_ | refine Elem1.mk fun e_ he_ => ?_); refine g0_ ?_))
          (refine g1_ ?_; repeat ((first | refine n1_ fun b_ => ?_ | refine n2_ fun b_ => ?_ | refine Nat1.mk fun q_ hq_ => ?_ | refine em_ fun x_ hx_ => ?_ | refine Elem1.mk fun e_ he_ => ?_); refine g1_ ?_))
          exact ⟨(), trivial, rfl, by (first | exact ⟨_, .refl _⟩ | exact wkMem.rfl' | exact ⟨_, .swap _ _ _⟩ | (repeat (first | exact wkMem.nil _ | exact wkMem.rfl' | exact wk_snoc _ _ _ | exact wk_fam (by assumption) _ _ _ | exact wk_famN (by assumption) _ _ _ | (apply wkMem.cons; (case' hl => (repeat (first | exact .here _ _ _ | apply Look.there)))) | apply wkMem.skip)))⟩
      · clear h2
        (refine g0_ ?_; repeat ((first | refine n1_ fun b_ => ?_ | refine n2_ fun b_ => ?_ | refine Nat1.mk fun q_ hq_ => ?_ | refine em_ fun x_ hx_ => ?_ | refine Elem1.mk fun e_ he_ => ?_); refine g0_ ?_))
        (refine g1_ ?_; repeat ((first | refine n1_ fun b_ => ?_ | refine n2_ fun b_ => ?_ | refine Nat1.mk fun q_ hq_ => ?_ | refine em_ fun x_ hx_ => ?_ | refine Elem1.mk fun e_ he_ => ?_); refine g1_ ?_))
        (refine g1_ ?_; repeat ((first | refine n1_ fun b_ => ?_ | refine n2_ fun b_ => ?_ | refine Nat1.mk fun q_ hq_ => ?_ | refine em_ fun x_ hx_ => ?_ | refine Elem1.mk fun e_ he_ => ?_); refine g1_ ?_))
        rw [hc0] at he_
        obtain rfl := Option.some.inj he_
        (refine g1_ ?_; repeat ((first | refine n1_ fun b_ => ?_ | refine n2_ fun b_ => ?_ | refine Nat1.mk fun q_ hq_ => ?_ | refine em_ fun x_ hx_ => ?_ | refine Elem1.mk fun e_ he_ => ?_); refine g1_ ?_))
        rw [hpre2]
        refine (hat').use ?_; (refine g0_ ?_; repeat ((first | refine n1_ fun b_ => ?_ | refine n2_ fun b_ => ?_ | refine Nat1.mk fun q_ hq_ => ?_ | refine em_ fun x_ hx_ => ?_ | refine Elem1.mk fun e_ he_ => ?_); refine g0_ ?_))
        (refine g1_ ?_; repeat ((first | refine n1_ fun b_ => ?_ | refine n2_ fun b_ => ?_ | refine Nat1.mk fun q_ hq_ => ?_ | refine em_ fun x_ hx_ => ?_ | refine Elem1.mk fun e_ he_ => ?_); refine g1_ ?_))
        exact ⟨(), trivial, rfl, by (first | exact ⟨_, .refl _⟩ | exact wkMem.rfl' | exact ⟨_, .swap _ _ _⟩ | (repeat (first | exact wkMem.nil _ | exact wkMem.rfl' | exact wk_snoc _ _ _ | exact wk_fam (by assumption) _ _ _ | exact wk_famN (by assumption) _ _ _ | (apply wkMem.cons; (case' hl => (repeat (first | exact .here _ _ _ | apply Look.there)))) | apply wkMem.skip)))⟩
    · clear h2
      (refine g0_ ?_; repeat ((first | refine n1_ fun b_ => ?_ | refine n2_ fun b_ => ?_ | refine Nat1.mk fun q_ hq_ => ?_ | refine em_ fun x_ hx_ => ?_ | refine Elem1.mk fun e_ he_ => ?_); refine g0_ ?_))
      (refine g1_ ?_; repeat ((first | refine n1_ fun b_ => ?_ | refine n2_ fun b_ => ?_ | refine Nat1.mk fun q_ hq_ => ?_ | refine em_ fun x_ hx_ => ?_ | refine Elem1.mk fun e_ he_ => ?_); refine g1_ ?_))
      (refine g1_ ?_; repeat ((first | refine n1_ fun b_ => ?_ | refine n2_ fun b_ => ?_ | refine Nat1.mk fun q_ hq_ => ?_ | refine em_ fun x_ hx_ => ?_ | refine Elem1.mk fun e_ he_ => ?_); refine g1_ ?_))
      rw [hc0] at he_
      obtain rfl := Option.some.inj he_
      (refine g1_ ?_; repeat ((first | refine n1_ fun b_ => ?_ | refine n2_ fun b_ => ?_ | refine Nat1.mk fun q_ hq_ => ?_ | refine em_ fun x_ hx_ => ?_ | refine Elem1.mk fun e_ he_ => ?_); refine g1_ ?_))
      rw [hpre2]
      refine (hat').use ?_; (refine g0_ ?_; repeat ((first | refine n1_ fun b_ => ?_ | refine n2_ fun b_ => ?_ | refine Nat1.mk fun q_ hq_ => ?_ | refine em_ fun x_ hx_ => ?_ | refine Elem1.mk fun e_ he_ => ?_); refine g0_ ?_))
      (refine g1_ ?_; repeat ((first | refine n1_ fun b_ => ?_ | refine n2_ fun b_ => ?_ | refine Nat1.mk fun q_ hq_ => ?_ | refine em_ fun x_ hx_ => ?_ | refine Elem1.mk fun e_ he_ => ?_); refine g1_ ?_))
      exact ⟨(), trivial, rfl, by (first | exact ⟨_, .refl _⟩ | exact wkMem.rfl' | exact ⟨_, .swap _ _ _⟩ | (repeat (first | exact wkMem.nil _ | exact wkMem.rfl' | exact wk_snoc _ _ _ | exact wk_fam (by assumption) _ _ _ | exact wk_famN (by assumption) _ _ _ | (apply wkMem.cons; (case' hl => (repeat (first | exact .here _ _ _ | apply Look.there)))) | apply wkMem.skip)))⟩
  · obtain ⟨c, hc1, hc2, hcr⟩ := h1 (by omega)
    rw [List.getElem?_drop] at hc1
    have hlt := lt_of_at hc1
    clear hnx hat h1 h2
    (refine g0_ ?_; repeat ((first | refine n1_ fun b_ => ?_ | refine n2_ fun b_ => ?_ | refine Nat1.mk fun q_ hq_ => ?_ | refine em_ fun x_ hx_ => ?_ | refine Elem1.mk fun e_ he_ => ?_); refine g0_ ?_))
    (refine g1_ ?_; repeat ((first | refine n1_ fun b_ => ?_ | refine n2_ fun b_ => ?_ | refine Nat1.mk fun q_ hq_ => ?_ | refine em_ fun x_ hx_ => ?_ | refine Elem1.mk fun e_ he_ => ?_); refine g1_ ?_))
    rw [hc1] at he_
    obtain rfl := Option.some.inj he_
    (refine g1_ ?_; repeat ((first | refine n1_ fun b_ => ?_ | refine n2_ fun b_ => ?_ | refine Nat1.mk fun q_ hq_ => ?_ | refine em_ fun x_ hx_ => ?_ | refine Elem1.mk fun e_ he_ => ?_); refine g1_ ?_))
    rw [hc1] at he_
    obtain rfl := Option.some.inj he_
    (refine g1_ ?_; repeat ((first | refine n1_ fun b_ => ?_ | refine n2_ fun b_ => ?_ | refine Nat1.mk fun q_ hq_ => ?_ | refine em_ fun x_ hx_ => ?_ | refine Elem1.mk fun e_ he_ => ?_); refine g1_ ?_))
    refine nx_ (j + 1) ?_ ?_
    · exact (show j + 1 ≤ _ by omega)
    · ((try dsimp only); (try simp only [List.length_drop, List.length_take, List.length_append, List.length_cons, List.length_nil, List.length_map] at *); omega)
end Go.Eng.YtmodblkagimhlaaDoor
end

/- Splits: what is read is a tree whose numbers are such; Parse of any text (b_ x_ q_ e_). -/
section
namespace Go.Eng
open Go
theorem lookR3 {σ r1 r2 r3 : Mem} {b1 b2 b3 : Nat} {c1 c2 c3 : Cont} (h1 : Look σ b1 c1 r1) (h2 : Look r1 b2 c2 r2) (h3 : Look r2 b3 c3 r3) : σ.Perm ([⟨b1, c1⟩, ⟨b2, c2⟩, ⟨b3, c3⟩] ++ r3) :=
  h1.perm.trans ((h2.perm.trans (h3.perm.cons _)).cons _)
end Go.Eng
namespace Go.Eng.YtmodblkagimhlaaDoor
open Go Go.Eng Go.Proofs Go.RowKit
variable (W : World)
set_option linter.unusedSimpArgs false
set_option maxRecDepth 100000
set_option linter.unusedVariables false
set_option maxHeartbeats 4000000
theorem loopK_okT {s : List UInt8} {f : Nat → Except Nat (Spl × Nat)} {cls : Nat} (hcls : cls ≠ 0) (hf : ∀ a t m, a ≤ s.length → f a = .ok (t, m) → t.ok ∧ a < m ∧ m ≤ s.length) : ∀ (fu a : Nat) (l ks : List Spl) (m : Nat), a < s.length → (∀ k ∈ l, k.ok) → l.length ≤ a → loopK s f cls fu a l = .ok (ks, m) → (∀ k ∈ ks, k.ok) ∧ ks.length ≤ m ∧ a < m ∧ m ≤ s.length
  | 0, a, l, ks, m, _, _, _, h => by cases h
  | fu + 1, a, l, ks, m, ha, hl, hla, h => by
    rw [loopK] at h
    cases hfa : f (a + 1) with
    | error x => rw [hfa] at h; cases h
    | ok y =>
      obtain ⟨k, m'⟩ := y
      rw [hfa] at h
      dsimp only at h
      obtain ⟨h0, h1, h2⟩ := hf (a + 1) k m' (by omega) hfa
      have hl2 : ∀ x ∈ l ++ [k], x.ok := fun x hx => by
        rcases List.mem_append.1 hx with hx | hx
        · exact hl x hx
        · rw [List.mem_singleton.1 hx]; exact h0
      have hll : (l ++ [k]).length = l.length + 1 := by simp
      split at h
      · rename_i hc
        have := next_lt hc hcls
        injection h with h
        obtain ⟨rfl, rfl⟩ := Prod.mk.inj h
        exact ⟨hl2, by omega, by omega, by omega⟩
      · split at h
        · rename_i h44
          obtain ⟨a1, a2, a3, a4⟩ := loopK_okT hcls hf fu m' _ ks m (next_lt h44 (by decide)) hl2 (by omega) h
          exact ⟨a1, a2, by omega, a4⟩
        · cases h
theorem sizeX_okT {s : List UInt8} {w p : Int} {ks : List Spl} {m m2 : Nat} {t : Spl} (hm : m ≤ s.length) (hw : i64ok w) (hp : i64ok p) (hk : ks.length ≤ 2932031007402) (hks : ∀ k ∈ ks, k.ok) (h : sizeX s w p ks m = .ok (t, m2)) : t.ok ∧ m ≤ m2 ∧ m2 ≤ s.length := by
  obtain ⟨h1, h2⟩ := sizeX_bd hm h
  refine ⟨?_, h1, h2⟩
  unfold sizeX at h
  split at h
  · cases hr : readN s (m + 1) with
    | error x => rw [hr] at h; cases h
    | ok y =>
      obtain ⟨z, m3⟩ := y
      rw [hr] at h
      dsimp only at h
      split at h
      · cases h
      · injection h with h
        obtain ⟨rfl, rfl⟩ := Prod.mk.inj h
        obtain ⟨k1, k2, k3, -⟩ := readN_len hr
        exact spl_ok.2 ⟨hw, hp, by unfold i64ok; omega, hk, hks⟩
  · injection h with h
    obtain ⟨rfl, rfl⟩ := Prod.mk.inj h
    exact spl_ok.2 ⟨hw, hp, by unfold i64ok; omega, hk, hks⟩
theorem leaf_okT {s : List UInt8} {i m : Nat} {t : Spl} (hi : i ≤ s.length) (h : (match readN s i with | .error e => .error e | .ok (p, m) => sizeX s 0 p [] m) = Except.ok (t, m)) : t.ok ∧ i < m ∧ m ≤ s.length := by
  cases hr : readN s i with
  | error e => rw [hr] at h; cases h
  | ok y =>
    obtain ⟨p, m1⟩ := y
    rw [hr] at h
    dsimp only at h
    obtain ⟨k1, k2, k3, -⟩ := readN_len hr
    obtain ⟨a1, a2, a3⟩ := sizeX_okT k2 (by unfold i64ok; omega) (by unfold i64ok; omega) (by simp) (by simp) h
    exact ⟨a1, by omega, a3⟩
theorem readS_okT {s : List UInt8} (hs : s.length ≤ 4000) : ∀ (n i m : Nat) (t : Spl), i ≤ s.length → readS s n i = .ok (t, m) → t.ok ∧ i < m ∧ m ≤ s.length := by
  intro n
  induction n with
  | zero =>
    intro i m t hi h
    rw [readS] at h
    split at h
    · cases h
    · exact leaf_okT hi h
  | succ n ih =>
    intro i m t hi h
    rw [readS] at h
    split at h
    · rename_i hc
      have hil : i < s.length := by rcases hc with hc | hc <;> exact next_lt hc (by decide)
      generalize hcl : (if nextN s i = 123 then 125 else 93) = cl at h
      have hcl0 : cl ≠ 0 := by rw [← hcl]; split <;> decide
      cases hl : loopK s (readS s n) cl (s.length + 1) i [] with
      | error e => rw [hl] at h; cases h
      | ok y =>
        obtain ⟨ks, m1⟩ := y
        rw [hl] at h
        dsimp only at h
        obtain ⟨b1, b2, b3, b4⟩ := loopK_okT hcl0 (fun a t m ha hr => ih a m t ha hr) _ _ _ _ _ hil (by simp) (by simp) hl
        obtain ⟨a1, a2, a3⟩ := sizeX_okT b4 (by unfold i64ok; split <;> omega) (by unfold i64ok; omega) (by omega) b1 h
        exact ⟨a1, by omega, a3⟩
    · exact leaf_okT hi h
/-- A text that is too long. -/
theorem parseX_long (s : List UInt8) (hs : 4000 < s.length) (hs2 : s.length ≤ 9223372036854775807) : Pure Tryd.prog W 11 [.str s] (.tup [.agg [.int .i64 0, .int .i64 0, .int .i64 0, .sl 4 []], .int .i64 0, .int .i64 2]) := by
  refine Pure.of (acalls_of_end Tryd.func11 rfl (by decide) rfl ?_)
  refine WpE.seq (DD_ok (by decide)) (.inl rfl) (by decide) ?_
  (refine g0_ ?_; repeat ((first | refine n1_ fun b_ => ?_ | refine n2_ fun b_ => ?_ | refine Nat1.mk fun q_ hq_ => ?_ | refine em_ fun x_ hx_ => ?_ | refine Elem1.mk fun e_ he_ => ?_); refine g0_ ?_))
  rename_i bA bB
  refine WpE.seq (DD_ok (by decide)) (.inl rfl) (by decide) ?_
  (refine g0_ ?_; repeat ((first | refine n1_ fun b_ => ?_ | refine n2_ fun b_ => ?_ | refine Nat1.mk fun q_ hq_ => ?_ | refine em_ fun x_ hx_ => ?_ | refine Elem1.mk fun e_ he_ => ?_); refine g0_ ?_))
  (refine g1_ ?_; repeat ((first | refine n1_ fun b_ => ?_ | refine n2_ fun b_ => ?_ | refine Nat1.mk fun q_ hq_ => ?_ | refine em_ fun x_ hx_ => ?_ | refine Elem1.mk fun e_ he_ => ?_); refine g1_ ?_))
  refine .tup _ _ rfl fun j hj => ?_
  match j, hj with
  | 0, _ =>
    refine .agg _ _ rfl fun j hj => ?_
    match j, hj with
    | 0, _ => exact .refl _
    | 1, _ => exact .refl _
    | 2, _ => exact .refl _
    | 3, _ => exact .nils 4
  | 1, _ => exact .refl _
  | 2, _ => exact .refl _
/-- What is deferred, whatever was read. -/
theorem rescueQ (bA bB bC : Nat) (x0 x1 x2 x3 : PV) (a0 c0 : Int) (e : Nat) (ρ : Mem) :
    Rescue Tryd.prog W 50 [.bref bA 0, .bref bB 0, .bref bC 0] ([⟨bC, .row 1 [.int .i64 c0] 0⟩, ⟨bB, .row 1 [.int .i64 a0] 0⟩, ⟨bA, .row 4 [.agg [x0, x1, x2, x3]] 0⟩] ++ ρ) (stopV e)
      (fun σ' => ∃ ρ', σ' = ([⟨bC, .row 1 [.int .i64 1] 0⟩, ⟨bB, .row 1 [.int .i64 e] 0⟩, ⟨bA, .row 4 [.agg [.int .i64 0, .int .i64 0, .int .i64 0, .nils]] 0⟩] ++ ρ')) := by
  refine rescue_of (DL_ok (by decide)) Tryd.func50 rfl rfl rfl (by decide) (by decide) (by decide) ?_
  unfold stopV
  skip
  (refine g0_ ?_; repeat ((first | refine n1_ fun b_ => ?_ | refine n2_ fun b_ => ?_ | refine Nat1.mk fun q_ hq_ => ?_ | refine em_ fun x_ hx_ => ?_ | refine Elem1.mk fun e_ he_ => ?_); refine g0_ ?_))
  refine ⟨_, neq_heldS (by kernel_rfl), ?_⟩
  (refine g0_ ?_; repeat ((first | refine n1_ fun b_ => ?_ | refine n2_ fun b_ => ?_ | refine Nat1.mk fun q_ hq_ => ?_ | refine em_ fun x_ hx_ => ?_ | refine Elem1.mk fun e_ he_ => ?_); refine g0_ ?_))
  (refine g1_ ?_; repeat ((first | refine n1_ fun b_ => ?_ | refine n2_ fun b_ => ?_ | refine Nat1.mk fun q_ hq_ => ?_ | refine em_ fun x_ hx_ => ?_ | refine Elem1.mk fun e_ he_ => ?_); refine g1_ ?_))
  refine opLaw_as rfl Tryd.underlying93 rfl (by decide +kernel) ?_
  (refine g0_ ?_; repeat ((first | refine n1_ fun b_ => ?_ | refine n2_ fun b_ => ?_ | refine Nat1.mk fun q_ hq_ => ?_ | refine em_ fun x_ hx_ => ?_ | refine Elem1.mk fun e_ he_ => ?_); refine g0_ ?_))
  (refine g1_ ?_; repeat ((first | refine n1_ fun b_ => ?_ | refine n2_ fun b_ => ?_ | refine Nat1.mk fun q_ hq_ => ?_ | refine em_ fun x_ hx_ => ?_ | refine Elem1.mk fun e_ he_ => ?_); refine g1_ ?_))
  refine Draws10.chain ⟨6, [.new, .new, .new, .turn, .skip, .skip], [(3, [.keep, .again, .again, .keep, .turn, .skip]), (4, [.keep, .keep, .keep, .keep, .keep, .turn]), (5, [.keep, .keep, .keep, .keep, .keep, .keep])], by decide +kernel, ?_⟩; (refine g0_ ?_; repeat ((first | refine n1_ fun b_ => ?_ | refine n2_ fun b_ => ?_ | refine Nat1.mk fun q_ hq_ => ?_ | refine em_ fun x_ hx_ => ?_ | refine Elem1.mk fun e_ he_ => ?_); refine g0_ ?_))
  exact ⟨_ :: ρ, rfl⟩
/-- Parts are read, and there is more. -/
theorem parseX_more (s : List UInt8) (hs : s.length ≤ 4000) (t : Spl) (x : Nat) (h : readS s 12 0 = .ok (t, x)) (hx : x < s.length) : Pure Tryd.prog W 11 [.str s] (.tup [.agg [.int .i64 0, .int .i64 0, .int .i64 0, .sl 4 []], .int .i64 x, .int .i64 1]) := by
  have hrd := fun b => readX W b s hs 12 0 (Nat.le_refl _) (Nat.zero_le _)
  rw [h] at hrd
  have hg : ∀ b, ACalls Tryd.prog W 51 [.bref b 0, .int .i64 1] [rdM b s 0] (SpOut b s x t) := fun b => (hrd b).2.2
  clear hrd h
  have hlS := hs
  unfold SpOut at hg
  obtain ⟨w, p, z, ks⟩ := t
  rw [encSpl_mk] at hg
  simp only [rdM] at hg
  refine Pure.of (acalls_of_endX Tryd.func11 rfl (by decide) rfl ?_)
  refine WpEX.seq (DD_ok (by decide)) (.inl rfl) (by decide) ?_
  (refine g0_ ?_; repeat ((first | refine n1_ fun b_ => ?_ | refine n2_ fun b_ => ?_ | refine Nat1.mk fun q_ hq_ => ?_ | refine em_ fun x_ hx_ => ?_ | refine Elem1.mk fun e_ he_ => ?_); refine g0_ ?_))
  rename_i bA bB
  refine WpEX.seq (DD_ok (by decide)) (.inl rfl) (by decide) ?_
  (refine g0_ ?_; repeat ((first | refine n1_ fun b_ => ?_ | refine n2_ fun b_ => ?_ | refine Nat1.mk fun q_ hq_ => ?_ | refine em_ fun x_ hx_ => ?_ | refine Elem1.mk fun e_ he_ => ?_); refine g0_ ?_))
  (refine g1_ ?_; repeat ((first | refine n1_ fun b_ => ?_ | refine n2_ fun b_ => ?_ | refine Nat1.mk fun q_ hq_ => ?_ | refine em_ fun x_ hx_ => ?_ | refine Elem1.mk fun e_ he_ => ?_); refine g1_ ?_))
  refine ⟨fun K a w' hs => ?_⟩
  have e2 : VRel K w' (.bref bA 0) (a.tmps.getD 2 undef) := hs.env 2
  have e3 : VRel K w' (.bref bB 0) (a.tmps.getD 3 undef) := hs.env 3
  have e4 : VRel K w' (.bref b_ 0) (a.tmps.getD 4 undef) := hs.env 4
  have hsz : a.tmps.size = 37 := hs.sz
  generalize hv2 : a.tmps.getD 2 undef = v2 at e2
  generalize hv3 : a.tmps.getD 3 undef = v3 at e3
  generalize hv4 : a.tmps.getD 4 undef = v4 at e4
  cases e2
  cases e3
  cases e4
  refine wp_seq (wp_defer2 (by rw [hsz]; decide) ?_)
  have hd : Idle Tryd.prog { target := .fn (.func 50) #[.pointer (some ⟨bA, 0, none⟩), .pointer (some ⟨bB, 0, none⟩), .pointer (some ⟨b_, 0, none⟩)], args := #[] } :=
    ⟨_, _, _, _, rfl, fun w => by simp [go_sem], fun w => idle0 ⟨bA, 0, none⟩ ⟨bB, 0, none⟩ ⟨b_, 0, none⟩ w⟩
  have hs' := (hs.put (dst := some 11) (pv := .dead) (v := .func (.func 50) #[] (#[Operand.tmp 2, Operand.tmp 3, Operand.tmp 4].map a.eval)) rfl (.dead _) hs.mem (Ext.refl _ _ _)).defer { target := .fn (.func 50) (#[Operand.tmp 2, Operand.tmp 3, Operand.tmp 4].map a.eval), args := #[] }
  have e5 : #[Operand.tmp 2, Operand.tmp 3, Operand.tmp 4].map a.eval = #[.pointer (some ⟨bA, 0, none⟩), .pointer (some ⟨bB, 0, none⟩), .pointer (some ⟨b_, 0, none⟩)] := by
    simp [Act.eval, hv2, hv3, hv4]
  rw [e5] at hs' ⊢
  refine WpEX.run (WpEX.of_x (g := 50) (capv := [.pointer (some ⟨bA, 0, none⟩), .pointer (some ⟨bB, 0, none⟩), .pointer (some ⟨b_, 0, none⟩)]) (caps := [.bref bA 0, .bref bB 0, .bref b_ 0]) hd rfl (fun K w i hi => by
    match i, hi with
    | 0, _ => exact .bref _ _
    | 1, _ => exact .bref _ _
    | 2, _ => exact .bref _ _) (fun w => by simp [go_sem]) ?_) K _ w' hs'
  skip
  refine WpX.seq (WpX.of_vc (DD_ok (by decide)) (by decide) ?_)
  (refine g0_ ?_; repeat ((first | refine n1_ fun b_ => ?_ | refine n2_ fun b_ => ?_ | refine Nat1.mk fun q_ hq_ => ?_ | refine em_ fun x_ hx_ => ?_ | refine Elem1.mk fun e_ he_ => ?_); refine g0_ ?_))
  refine WpX.seq (WpX.of_vc (DD_ok (by decide)) (by decide) ?_)
  (refine g0_ ?_; repeat ((first | refine n1_ fun b_ => ?_ | refine n2_ fun b_ => ?_ | refine Nat1.mk fun q_ hq_ => ?_ | refine em_ fun x_ hx_ => ?_ | refine Elem1.mk fun e_ he_ => ?_); refine g0_ ?_))
  refine ACalls.lendK (hg b_) (List.Perm.refl _) ?_
  (refine g0_ ?_; repeat ((first | refine n1_ fun b_ => ?_ | refine n2_ fun b_ => ?_ | refine Nat1.mk fun q_ hq_ => ?_ | refine em_ fun x_ hx_ => ?_ | refine Elem1.mk fun e_ he_ => ?_); refine g0_ ?_))
  refine WpX.seq (WpX.seq (WpX.of_vc (DD_ok (by decide)) (by decide) ?_))
  (refine g0_ ?_; repeat ((first | refine n1_ fun b_ => ?_ | refine n2_ fun b_ => ?_ | refine Nat1.mk fun q_ hq_ => ?_ | refine em_ fun x_ hx_ => ?_ | refine Elem1.mk fun e_ he_ => ?_); refine g0_ ?_))
  (refine g1_ ?_; repeat ((first | refine n1_ fun b_ => ?_ | refine n2_ fun b_ => ?_ | refine Nat1.mk fun q_ hq_ => ?_ | refine em_ fun x_ hx_ => ?_ | refine Elem1.mk fun e_ he_ => ?_); refine g1_ ?_))
  refine WpX.condT (by first | rfl | (show PV.bool (decide ((x : Int) < (s.length : Int))) = PV.bool true; rw [decide_eq_true (by omega)])) (WpX.panicAt 6 _ rfl rfl (by decide) ?_)
  (refine g0_ ?_; repeat ((first | refine n1_ fun b_ => ?_ | refine n2_ fun b_ => ?_ | refine Nat1.mk fun q_ hq_ => ?_ | refine em_ fun x_ hx_ => ?_ | refine Elem1.mk fun e_ he_ => ?_); refine g0_ ?_))
  refine ⟨_, (rescueQ W _ _ _ _ _ _ _ 0 0 x _).perm (lookR3 (by repeat (first | exact .here _ _ _ | apply Look.there)) (by repeat (first | exact .here _ _ _ | apply Look.there)) (by repeat (first | exact .here _ _ _ | apply Look.there))), ?_⟩
  rintro σ2 ⟨ρ', rfl⟩
  (refine g0_ ?_; repeat ((first | refine n1_ fun b_ => ?_ | refine n2_ fun b_ => ?_ | refine Nat1.mk fun q_ hq_ => ?_ | refine em_ fun x_ hx_ => ?_ | refine Elem1.mk fun e_ he_ => ?_); refine g0_ ?_))
  refine .tup _ _ rfl fun j hj => ?_
  match j, hj with
  | 0, _ =>
    refine .agg _ _ rfl fun j hj => ?_
    match j, hj with
    | 0, _ => exact .refl _
    | 1, _ => exact .refl _
    | 2, _ => exact .refl _
    | 3, _ => exact .nils 4
  | 1, _ => exact .refl _
  | 2, _ => exact .refl _
/-- All is read: what the check says. -/
theorem parseX_all (s : List UInt8) (hs : s.length ≤ 4000) (t : Spl) (h : readS s 12 0 = .ok (t, s.length)) : Pure Tryd.prog W 11 [.str s] (if (visS t 0 (0, [])).1 = 0 then (.tup [encSpl t, .int .i64 0, .int .i64 0]) else (.tup [encSpl zeroT, .int .i64 0, .int .i64 (visS t 0 (0, [])).1])) := by
  have hck := checkS_ok W t (readS_okT hs _ _ _ _ (Nat.zero_le _) h).1
  have hrd := fun b => readX W b s hs 12 0 (Nat.le_refl _) (Nat.zero_le _)
  rw [h] at hrd
  have hg : ∀ b, ACalls Tryd.prog W 51 [.bref b 0, .int .i64 1] [rdM b s 0] (SpOut b s s.length t) := fun b => (hrd b).2.2
  clear hrd h
  have hlS := hs
  unfold SpOut at hg
  generalize (visS t 0 (0, [])).1 = e at *
  obtain ⟨w, p, z, ks⟩ := t
  rw [encSpl_mk] at *
  simp only [rdM] at hg
  refine Pure.of (acalls_of_end Tryd.func11 rfl (by decide) rfl ?_)
  refine WpE.seq (DD_ok (by decide)) (.inl rfl) (by decide) ?_
  (refine g0_ ?_; repeat ((first | refine n1_ fun b_ => ?_ | refine n2_ fun b_ => ?_ | refine Nat1.mk fun q_ hq_ => ?_ | refine em_ fun x_ hx_ => ?_ | refine Elem1.mk fun e_ he_ => ?_); refine g0_ ?_))
  rename_i bA bB
  refine WpE.seq (DD_ok (by decide)) (.inl rfl) (by decide) ?_
  (refine g0_ ?_; repeat ((first | refine n1_ fun b_ => ?_ | refine n2_ fun b_ => ?_ | refine Nat1.mk fun q_ hq_ => ?_ | refine em_ fun x_ hx_ => ?_ | refine Elem1.mk fun e_ he_ => ?_); refine g0_ ?_))
  (refine g1_ ?_; repeat ((first | refine n1_ fun b_ => ?_ | refine n2_ fun b_ => ?_ | refine Nat1.mk fun q_ hq_ => ?_ | refine em_ fun x_ hx_ => ?_ | refine Elem1.mk fun e_ he_ => ?_); refine g1_ ?_))
  refine ⟨fun K a w' hs => ?_⟩
  have e2 : VRel K w' (.bref bA 0) (a.tmps.getD 2 undef) := hs.env 2
  have e3 : VRel K w' (.bref bB 0) (a.tmps.getD 3 undef) := hs.env 3
  have e4 : VRel K w' (.bref b_ 0) (a.tmps.getD 4 undef) := hs.env 4
  have hsz : a.tmps.size = 37 := hs.sz
  generalize hv2 : a.tmps.getD 2 undef = v2 at e2
  generalize hv3 : a.tmps.getD 3 undef = v3 at e3
  generalize hv4 : a.tmps.getD 4 undef = v4 at e4
  cases e2
  cases e3
  cases e4
  refine wp_seq (wp_defer2 (by rw [hsz]; decide) ?_)
  have hd : Idle Tryd.prog { target := .fn (.func 50) #[.pointer (some ⟨bA, 0, none⟩), .pointer (some ⟨bB, 0, none⟩), .pointer (some ⟨b_, 0, none⟩)], args := #[] } :=
    ⟨_, _, _, _, rfl, fun w => by simp [go_sem], fun w => idle0 ⟨bA, 0, none⟩ ⟨bB, 0, none⟩ ⟨b_, 0, none⟩ w⟩
  have hs' := (hs.put (dst := some 11) (pv := .dead) (v := .func (.func 50) #[] (#[Operand.tmp 2, Operand.tmp 3, Operand.tmp 4].map a.eval)) rfl (.dead _) hs.mem (Ext.refl _ _ _)).defer { target := .fn (.func 50) (#[Operand.tmp 2, Operand.tmp 3, Operand.tmp 4].map a.eval), args := #[] }
  have e5 : #[Operand.tmp 2, Operand.tmp 3, Operand.tmp 4].map a.eval = #[.pointer (some ⟨bA, 0, none⟩), .pointer (some ⟨bB, 0, none⟩), .pointer (some ⟨b_, 0, none⟩)] := by
    simp [Act.eval, hv2, hv3, hv4]
  rw [e5] at hs' ⊢
  refine WpE.run (WpE.last (DD_ok (by decide)) (.inr ⟨_, rfl, hd⟩) (by decide) ?_) K _ w' hs'
  (refine g0_ ?_; repeat ((first | refine n1_ fun b_ => ?_ | refine n2_ fun b_ => ?_ | refine Nat1.mk fun q_ hq_ => ?_ | refine em_ fun x_ hx_ => ?_ | refine Elem1.mk fun e_ he_ => ?_); refine g0_ ?_))
  refine ACalls.lendK (hg b_) (List.Perm.refl _) ?_
  (refine g0_ ?_; repeat ((first | refine n1_ fun b_ => ?_ | refine n2_ fun b_ => ?_ | refine Nat1.mk fun q_ hq_ => ?_ | refine em_ fun x_ hx_ => ?_ | refine Elem1.mk fun e_ he_ => ?_); refine g0_ ?_))
  (refine g1_ ?_; repeat ((first | refine n1_ fun b_ => ?_ | refine n2_ fun b_ => ?_ | refine Nat1.mk fun q_ hq_ => ?_ | refine em_ fun x_ hx_ => ?_ | refine Elem1.mk fun e_ he_ => ?_); refine g1_ ?_))
  refine (hck).use ?_; (refine g0_ ?_; repeat ((first | refine n1_ fun b_ => ?_ | refine n2_ fun b_ => ?_ | refine Nat1.mk fun q_ hq_ => ?_ | refine em_ fun x_ hx_ => ?_ | refine Elem1.mk fun e_ he_ => ?_); refine g0_ ?_))
  by_cases he : e = 0
  · rw [if_pos he]
    subst he
    (refine g1_ ?_; repeat ((first | refine n1_ fun b_ => ?_ | refine n2_ fun b_ => ?_ | refine Nat1.mk fun q_ hq_ => ?_ | refine em_ fun x_ hx_ => ?_ | refine Elem1.mk fun e_ he_ => ?_); refine g1_ ?_))
    exact .refl _
  · rw [if_neg he]
    (refine g1_ ?_; repeat ((first | refine n1_ fun b_ => ?_ | refine n2_ fun b_ => ?_ | refine Nat1.mk fun q_ hq_ => ?_ | refine em_ fun x_ hx_ => ?_ | refine Elem1.mk fun e_ he_ => ?_); refine g1_ ?_))
    refine .tup _ _ rfl fun j hj => ?_
    match j, hj with
    | 0, _ => exact frz_zeroT _
    | 1, _ => exact .refl _
    | 2, _ => exact .refl _
/-- What Parse gives. -/
def parseS (s : List UInt8) : Spl × Int × Int :=
  if 4000 < s.length then (zeroT, 0, 2) else match readS s 12 0 with
    | .error x => (zeroT, x, 1)
    | .ok (t, m) => if m < s.length then (zeroT, m, 1) else if (visS t 0 (0, [])).1 = 0 then (t, 0, 0) else (zeroT, 0, (visS t 0 (0, [])).1)
theorem parseX_ok (s : List UInt8) (hs2 : s.length ≤ 9223372036854775807) : Pure Tryd.prog W 11 [.str s] (.tup [encSpl (parseS s).1, .int .i64 (parseS s).2.1, .int .i64 (parseS s).2.2]) := by
  have hz : encSpl zeroT = .agg [.int .i64 0, .int .i64 0, .int .i64 0, .sl 4 []] := by rw [zeroT, encSpl_mk]; rfl
  unfold parseS
  by_cases h1 : 4000 < s.length
  · rw [if_pos h1, hz]
    exact parseX_long W s h1 hs2
  rw [if_neg h1]
  have hs : s.length ≤ 4000 := by omega
  cases hr : readS s 12 0 with
  | error x =>
    dsimp only
    rw [hz]
    exact parseX_bad W s hs x hr
  | ok y =>
    obtain ⟨t, m⟩ := y
    dsimp only
    have hm := (readS_okT hs _ _ _ _ (Nat.zero_le _) hr).2.2
    by_cases h2 : m < s.length
    · rw [if_pos h2, hz]
      exact parseX_more W s hs t m hr h2
    · rw [if_neg h2]
      obtain rfl : m = s.length := by omega
      have := parseX_all W s hs t hr
      by_cases h3 : (visS t 0 (0, [])).1 = 0
      · rw [if_pos h3] at this ⊢
        exact this
      · rw [if_neg h3] at this ⊢
        exact this
end Go.Eng.YtmodblkagimhlaaDoor
end

/- Splits: the document's reader: read (b_ x_ q_ e_). -/
section
namespace Go.Eng.YtmodblkagimhlaaDoor
open Go Go.Eng Go.Proofs Go.RowKit
variable (W : World)
set_option linter.unusedSimpArgs false
set_option maxRecDepth 100000
set_option linter.unusedVariables false
set_option maxHeartbeats 8000000
def rsI (bI bA bS : Nat) : Blk := ⟨bI, .row 1 [.fn 58 [.bref bA 0, .bref bS 0]] 0⟩
def rsN (bN bA bS bB : Nat) : Blk := ⟨bN, .row 1 [.fn 59 [.bref bA 0, .bref bS 0, .bref bB 0]] 0⟩
def rsR (bR bI bA bB bN : Nat) : Blk := ⟨bR, .row 1 [.fn 61 [.bref bI 0, .bref bA 0, .bref bB 0, .bref bR 0, .bref bN 0]] 0⟩
def rsm (bA bS bB bI bN bR : Nat) (s : List UInt8) (i v : Int) : Mem := [rsA bA i, rsS bS s, rsA bB v, rsI bI bA bS, rsN bN bA bS bB, rsR bR bI bA bB bN]
/-- What the document's reader gives: a split, and where it stands; or where it can't go on. -/
def RdOut (bA bS bB bI bN bR : Nat) (s : List UInt8) : Except Nat (Spl × Nat) → PV → Mem → Prop
  | .ok (t, m) => fun v σ' => ∃ ρ', σ'.Perm (rsm bA bS bB bI bN bR s m (-1) ++ ρ') ∧ Frz ρ' v (encSpl t)
  | .error e => fun v σ' => ∃ x : Spl × Nat, True ∧ ∃ ρ', σ'.Perm (rsm bA bS bB bI bN bR s x.2 e ++ ρ') ∧ Frz ρ' v (encSpl x.1)
theorem rd_ok {bA bS bB bI bN bR : Nat} {s : List UInt8} {t : Spl} {m : Nat} {v : PV} {σ r1 r2 r3 r4 r5 r6 : Mem} (h1 : Look σ bA (.row 1 [.int .i64 (m : Int)] 0) r1) (h2 : Look r1 bS (.row 1 [.str s] 0) r2) (h3 : Look r2 bB (.row 1 [.int .i64 (-1)] 0) r3)
    (h4 : Look r3 bI (.row 1 [.fn 58 [.bref bA 0, .bref bS 0]] 0) r4) (h5 : Look r4 bN (.row 1 [.fn 59 [.bref bA 0, .bref bS 0, .bref bB 0]] 0) r5)
    (h6 : Look r5 bR (.row 1 [.fn 61 [.bref bI 0, .bref bA 0, .bref bB 0, .bref bR 0, .bref bN 0]] 0) r6) (hf : Frz r6 v (encSpl t)) : RdOut bA bS bB bI bN bR s (.ok (t, m)) v σ :=
  ⟨r6, look6 h1 h2 h3 h4 h5 h6, hf⟩
theorem rd_bad {bA bS bB bI bN bR : Nat} {s : List UInt8} (t : Spl) (m : Nat) {e : Nat} {v : PV} {σ r1 r2 r3 r4 r5 r6 : Mem} (h1 : Look σ bA (.row 1 [.int .i64 (m : Int)] 0) r1) (h2 : Look r1 bS (.row 1 [.str s] 0) r2) (h3 : Look r2 bB (.row 1 [.int .i64 (e : Int)] 0) r3)
    (h4 : Look r3 bI (.row 1 [.fn 58 [.bref bA 0, .bref bS 0]] 0) r4) (h5 : Look r4 bN (.row 1 [.fn 59 [.bref bA 0, .bref bS 0, .bref bB 0]] 0) r5)
    (h6 : Look r5 bR (.row 1 [.fn 61 [.bref bI 0, .bref bA 0, .bref bB 0, .bref bR 0, .bref bN 0]] 0) r6) (hf : Frz r6 v (encSpl t)) : RdOut bA bS bB bI bN bR s (.error e) v σ :=
  ⟨(t, m), trivial, r6, look6 h1 h2 h3 h4 h5 h6, hf⟩
theorem frz_leafT {σ : Mem} (p z : Int) : Frz σ (.agg [.int .i64 0, .int .i64 p, .int .i64 z, .nils]) (encSpl (.mk 0 p z [])) := by
  rw [encSpl_mk]
  exact frz_leafZ p z
theorem frz_lastT {σ r : Mem} {b m : Nat} {L : List PV} {ks : List Spl} {w z : Int} (hl : Look σ b (.row 4 L 0) r) (hL : L = ks.map encSpl) (hm : m = L.length) : Frz σ (.agg [.int .i64 w, .int .i64 0, .int .i64 z, .rsl b 4 0 m]) (encSpl (.mk w 0 z ks)) := by
  rw [encSpl_mk]
  exact frz_last hL hl hm
theorem sizeX_cases (s : List UInt8) (w p : Int) (ks : List Spl) (m : Nat) : (nextN s m ≠ 42 ∧ sizeX s w p ks m = .ok (.mk w p 1 ks, m)) ∨ (nextN s m = 42 ∧ ((∃ e, readN s (m + 1) = .error e ∧ sizeX s w p ks m = .error e) ∨
    ∃ z m2, readN s (m + 1) = .ok (z, m2) ∧ ((z = 1 ∧ sizeX s w p ks m = .error (m2 - 1)) ∨ (z ≠ 1 ∧ sizeX s w p ks m = .ok (.mk w p z ks, m2))))) := by
  unfold sizeX
  by_cases h : nextN s m = 42
  · rw [if_pos h]
    refine .inr ⟨h, ?_⟩
    cases hr : readN s (m + 1) with
    | error e => exact .inl ⟨e, rfl, rfl⟩
    | ok y =>
      obtain ⟨z, m2⟩ := y
      refine .inr ⟨z, m2, rfl, ?_⟩
      by_cases hz : z = 1
      · exact .inl ⟨hz, by dsimp only; rw [if_pos hz]⟩
      · exact .inr ⟨hz, by dsimp only; rw [if_neg hz]⟩
  · rw [if_neg h]
    exact .inl ⟨h, rfl⟩
abbrev RdCall (bA bS bB bI bN bR : Nat) (s : List UInt8) (i : Nat) (d : Int) (r : Except Nat (Spl × Nat)) : Prop :=
  ACalls Tryd.prog W 61 [.int .i64 d, .bref bI 0, .bref bA 0, .bref bB 0, .bref bR 0, .bref bN 0] (rsm bA bS bB bI bN bR s i (-1)) (RdOut bA bS bB bI bN bR s r)
/-- Too deep. -/
theorem readR_deep (bA bS bB bI bN bR : Nat) (s : List UInt8) (i : Nat) (d : Int) (hs : s.length ≤ 4000) (hi : i < s.length) (hc : nextN s i = 123 ∨ nextN s i = 91) (hd : 12 < d) (hd2 : d ≤ 100) : RdCall W bA bS bB bI bN bR s i d (.error i) := by
  unfold RdCall
  simp only [rsm, rsA, rsS, rsI, rsN, rsR]
  rcases hc with hc | hc
  · refine acalls_of_vc (drawOk W) Tryd.func61 rfl (by decide) (by decide) rfl ?_
    (refine g0_ ?_; repeat ((first | refine n1_ fun b_ => ?_ | refine n2_ fun b_ => ?_ | refine Nat1.mk fun q_ hq_ => ?_ | refine em_ fun x_ hx_ => ?_ | refine Elem1.mk fun e_ he_ => ?_); refine g0_ ?_))
    refine ACalls.same2 (isR_ok W bA bS s (i) 123 true (by first | exact decide_eq_true (by omega) | exact decide_eq_false (by omega)) (by omega) hs (by decide)) (by repeat (first | exact .here _ _ _ | apply Look.there)) (by repeat (first | exact .here _ _ _ | apply Look.there)) ?_
    (refine g0_ ?_; repeat ((first | refine n1_ fun b_ => ?_ | refine n2_ fun b_ => ?_ | refine Nat1.mk fun q_ hq_ => ?_ | refine em_ fun x_ hx_ => ?_ | refine Elem1.mk fun e_ he_ => ?_); refine g0_ ?_))
    (refine g1_ ?_; repeat ((first | refine n1_ fun b_ => ?_ | refine n2_ fun b_ => ?_ | refine Nat1.mk fun q_ hq_ => ?_ | refine em_ fun x_ hx_ => ?_ | refine Elem1.mk fun e_ he_ => ?_); refine g1_ ?_))
    refine rd_bad (.mk 0 0 1 []) i (by repeat (first | exact .here _ _ _ | apply Look.there)) (by repeat (first | exact .here _ _ _ | apply Look.there)) (by repeat (first | exact .here _ _ _ | apply Look.there)) (by repeat (first | exact .here _ _ _ | apply Look.there)) (by repeat (first | exact .here _ _ _ | apply Look.there)) (by repeat (first | exact .here _ _ _ | apply Look.there)) ?_
    exact frz_leafT 0 1
  · refine acalls_of_vc (drawOk W) Tryd.func61 rfl (by decide) (by decide) rfl ?_
    (refine g0_ ?_; repeat ((first | refine n1_ fun b_ => ?_ | refine n2_ fun b_ => ?_ | refine Nat1.mk fun q_ hq_ => ?_ | refine em_ fun x_ hx_ => ?_ | refine Elem1.mk fun e_ he_ => ?_); refine g0_ ?_))
    refine ACalls.same2 (isR_ok W bA bS s (i) 123 false (by first | exact decide_eq_true (by omega) | exact decide_eq_false (by omega)) (by omega) hs (by decide)) (by repeat (first | exact .here _ _ _ | apply Look.there)) (by repeat (first | exact .here _ _ _ | apply Look.there)) ?_
    (refine g0_ ?_; repeat ((first | refine n1_ fun b_ => ?_ | refine n2_ fun b_ => ?_ | refine Nat1.mk fun q_ hq_ => ?_ | refine em_ fun x_ hx_ => ?_ | refine Elem1.mk fun e_ he_ => ?_); refine g0_ ?_))
    (refine g1_ ?_; repeat ((first | refine n1_ fun b_ => ?_ | refine n2_ fun b_ => ?_ | refine Nat1.mk fun q_ hq_ => ?_ | refine em_ fun x_ hx_ => ?_ | refine Elem1.mk fun e_ he_ => ?_); refine g1_ ?_))
    refine ACalls.same2 (isR_ok W bA bS s (i) 91 true (by first | exact decide_eq_true (by omega) | exact decide_eq_false (by omega)) (by omega) hs (by decide)) (by repeat (first | exact .here _ _ _ | apply Look.there)) (by repeat (first | exact .here _ _ _ | apply Look.there)) ?_
    (refine g0_ ?_; repeat ((first | refine n1_ fun b_ => ?_ | refine n2_ fun b_ => ?_ | refine Nat1.mk fun q_ hq_ => ?_ | refine em_ fun x_ hx_ => ?_ | refine Elem1.mk fun e_ he_ => ?_); refine g0_ ?_))
    (refine g1_ ?_; repeat ((first | refine n1_ fun b_ => ?_ | refine n2_ fun b_ => ?_ | refine Nat1.mk fun q_ hq_ => ?_ | refine em_ fun x_ hx_ => ?_ | refine Elem1.mk fun e_ he_ => ?_); refine g1_ ?_))
    refine rd_bad (.mk 0 0 1 []) i (by repeat (first | exact .here _ _ _ | apply Look.there)) (by repeat (first | exact .here _ _ _ | apply Look.there)) (by repeat (first | exact .here _ _ _ | apply Look.there)) (by repeat (first | exact .here _ _ _ | apply Look.there)) (by repeat (first | exact .here _ _ _ | apply Look.there)) (by repeat (first | exact .here _ _ _ | apply Look.there)) ?_
    exact frz_leafT 0 1
theorem readR_leaf (hE : ErrJ W) (bA bS bB bI bN bR : Nat) (s : List UInt8) (i : Nat) (d : Int) (hs : s.length ≤ 4000) (hi : i ≤ s.length) (hc : ¬ (nextN s i = 123 ∨ nextN s i = 91)) :
    RdCall W bA bS bB bI bN bR s i d (match readN s i with | .error e => .error e | .ok (p, m) => sizeX s 0 p [] m) := by
  unfold RdCall
  simp only [rsm, rsA, rsS, rsI, rsN, rsR]
  cases hr : readN s i with
  | error e =>
    obtain ⟨rfl, hbad⟩ := readN_bad hr
    refine acalls_of_vc (drawOk W) Tryd.func61 rfl (by decide) (by decide) rfl ?_
    (refine g0_ ?_; repeat ((first | refine n1_ fun b_ => ?_ | refine n2_ fun b_ => ?_ | refine Nat1.mk fun q_ hq_ => ?_ | refine em_ fun x_ hx_ => ?_ | refine Elem1.mk fun e_ he_ => ?_); refine g0_ ?_))
    refine ACalls.same2 (isR_ok W bA bS s (e) 123 false (by first | exact decide_eq_true (by omega) | exact decide_eq_false (by omega)) (by omega) hs (by decide)) (by repeat (first | exact .here _ _ _ | apply Look.there)) (by repeat (first | exact .here _ _ _ | apply Look.there)) ?_
    (refine g0_ ?_; repeat ((first | refine n1_ fun b_ => ?_ | refine n2_ fun b_ => ?_ | refine Nat1.mk fun q_ hq_ => ?_ | refine em_ fun x_ hx_ => ?_ | refine Elem1.mk fun e_ he_ => ?_); refine g0_ ?_))
    (refine g1_ ?_; repeat ((first | refine n1_ fun b_ => ?_ | refine n2_ fun b_ => ?_ | refine Nat1.mk fun q_ hq_ => ?_ | refine em_ fun x_ hx_ => ?_ | refine Elem1.mk fun e_ he_ => ?_); refine g1_ ?_))
    refine ACalls.same2 (isR_ok W bA bS s (e) 91 false (by first | exact decide_eq_true (by omega) | exact decide_eq_false (by omega)) (by omega) hs (by decide)) (by repeat (first | exact .here _ _ _ | apply Look.there)) (by repeat (first | exact .here _ _ _ | apply Look.there)) ?_
    (refine g0_ ?_; repeat ((first | refine n1_ fun b_ => ?_ | refine n2_ fun b_ => ?_ | refine Nat1.mk fun q_ hq_ => ?_ | refine em_ fun x_ hx_ => ?_ | refine Elem1.mk fun e_ he_ => ?_); refine g0_ ?_))
    (refine g1_ ?_; repeat ((first | refine n1_ fun b_ => ?_ | refine n2_ fun b_ => ?_ | refine Nat1.mk fun q_ hq_ => ?_ | refine em_ fun x_ hx_ => ?_ | refine Elem1.mk fun e_ he_ => ?_); refine g1_ ?_))
    refine ACalls.lend (numberR_bad W bA bS bB s e hs hi hbad) (look3 (by repeat (first | exact .here _ _ _ | apply Look.there)) (by repeat (first | exact .here _ _ _ | apply Look.there)) (by repeat (first | exact .here _ _ _ | apply Look.there))) ?_
    rintro _ -
    simp only [rsA, rsS, List.cons_append, List.nil_append]
    (refine g0_ ?_; repeat ((first | refine n1_ fun b_ => ?_ | refine n2_ fun b_ => ?_ | refine Nat1.mk fun q_ hq_ => ?_ | refine em_ fun x_ hx_ => ?_ | refine Elem1.mk fun e_ he_ => ?_); refine g0_ ?_))
    (refine g1_ ?_; repeat ((first | refine n1_ fun b_ => ?_ | refine n2_ fun b_ => ?_ | refine Nat1.mk fun q_ hq_ => ?_ | refine em_ fun x_ hx_ => ?_ | refine Elem1.mk fun e_ he_ => ?_); refine g1_ ?_))
    refine rd_bad (.mk 0 0 1 []) e (by repeat (first | exact .here _ _ _ | apply Look.there)) (by repeat (first | exact .here _ _ _ | apply Look.there)) (by repeat (first | exact .here _ _ _ | apply Look.there)) (by repeat (first | exact .here _ _ _ | apply Look.there)) (by repeat (first | exact .here _ _ _ | apply Look.there)) (by repeat (first | exact .here _ _ _ | apply Look.there)) ?_
    exact frz_leafT 0 1
  | ok y =>
    obtain ⟨p, m⟩ := y
    dsimp only
    obtain ⟨k1, k2, k3, -⟩ := readN_len hr
    refine acalls_of_vc (drawOk W) Tryd.func61 rfl (by decide) (by decide) rfl ?_
    (refine g0_ ?_; repeat ((first | refine n1_ fun b_ => ?_ | refine n2_ fun b_ => ?_ | refine Nat1.mk fun q_ hq_ => ?_ | refine em_ fun x_ hx_ => ?_ | refine Elem1.mk fun e_ he_ => ?_); refine g0_ ?_))
    refine ACalls.same2 (isR_ok W bA bS s (i) 123 false (by first | exact decide_eq_true (by omega) | exact decide_eq_false (by omega)) (by omega) hs (by decide)) (by repeat (first | exact .here _ _ _ | apply Look.there)) (by repeat (first | exact .here _ _ _ | apply Look.there)) ?_
    (refine g0_ ?_; repeat ((first | refine n1_ fun b_ => ?_ | refine n2_ fun b_ => ?_ | refine Nat1.mk fun q_ hq_ => ?_ | refine em_ fun x_ hx_ => ?_ | refine Elem1.mk fun e_ he_ => ?_); refine g0_ ?_))
    (refine g1_ ?_; repeat ((first | refine n1_ fun b_ => ?_ | refine n2_ fun b_ => ?_ | refine Nat1.mk fun q_ hq_ => ?_ | refine em_ fun x_ hx_ => ?_ | refine Elem1.mk fun e_ he_ => ?_); refine g1_ ?_))
    refine ACalls.same2 (isR_ok W bA bS s (i) 91 false (by first | exact decide_eq_true (by omega) | exact decide_eq_false (by omega)) (by omega) hs (by decide)) (by repeat (first | exact .here _ _ _ | apply Look.there)) (by repeat (first | exact .here _ _ _ | apply Look.there)) ?_
    (refine g0_ ?_; repeat ((first | refine n1_ fun b_ => ?_ | refine n2_ fun b_ => ?_ | refine Nat1.mk fun q_ hq_ => ?_ | refine em_ fun x_ hx_ => ?_ | refine Elem1.mk fun e_ he_ => ?_); refine g0_ ?_))
    (refine g1_ ?_; repeat ((first | refine n1_ fun b_ => ?_ | refine n2_ fun b_ => ?_ | refine Nat1.mk fun q_ hq_ => ?_ | refine em_ fun x_ hx_ => ?_ | refine Elem1.mk fun e_ he_ => ?_); refine g1_ ?_))
    refine ACalls.lend (numberR_ok W hE bA bS bB s i hs hi hr) (look3 (by repeat (first | exact .here _ _ _ | apply Look.there)) (by repeat (first | exact .here _ _ _ | apply Look.there)) (by repeat (first | exact .here _ _ _ | apply Look.there))) ?_
    rintro _ -
    simp only [rsA, rsS, List.cons_append, List.nil_append]
    (refine g0_ ?_; repeat ((first | refine n1_ fun b_ => ?_ | refine n2_ fun b_ => ?_ | refine Nat1.mk fun q_ hq_ => ?_ | refine em_ fun x_ hx_ => ?_ | refine Elem1.mk fun e_ he_ => ?_); refine g0_ ?_))
    (refine g1_ ?_; repeat ((first | refine n1_ fun b_ => ?_ | refine n2_ fun b_ => ?_ | refine Nat1.mk fun q_ hq_ => ?_ | refine em_ fun x_ hx_ => ?_ | refine Elem1.mk fun e_ he_ => ?_); refine g1_ ?_))
    have hs42 := sizeX_cases s 0 p ([]) (m)
    generalize sizeX s 0 p ([]) (m) = Z at *
    rcases hs42 with ⟨h42, rfl⟩ | ⟨h42, ⟨e, hr, rfl⟩ | ⟨z, m2, hr, ⟨rfl, rfl⟩ | ⟨hz1, rfl⟩⟩⟩
    · refine ACalls.same2 (isR_ok W bA bS s (m) 42 false (by first | exact decide_eq_true (by omega) | exact decide_eq_false (by omega)) (by omega) hs (by decide)) (by repeat (first | exact .here _ _ _ | apply Look.there)) (by repeat (first | exact .here _ _ _ | apply Look.there)) ?_
      (refine g0_ ?_; repeat ((first | refine n1_ fun b_ => ?_ | refine n2_ fun b_ => ?_ | refine Nat1.mk fun q_ hq_ => ?_ | refine em_ fun x_ hx_ => ?_ | refine Elem1.mk fun e_ he_ => ?_); refine g0_ ?_))
      (refine g1_ ?_; repeat ((first | refine n1_ fun b_ => ?_ | refine n2_ fun b_ => ?_ | refine Nat1.mk fun q_ hq_ => ?_ | refine em_ fun x_ hx_ => ?_ | refine Elem1.mk fun e_ he_ => ?_); refine g1_ ?_))
      refine rd_ok (by repeat (first | exact .here _ _ _ | apply Look.there)) (by repeat (first | exact .here _ _ _ | apply Look.there)) (by repeat (first | exact .here _ _ _ | apply Look.there)) (by repeat (first | exact .here _ _ _ | apply Look.there)) (by repeat (first | exact .here _ _ _ | apply Look.there)) (by repeat (first | exact .here _ _ _ | apply Look.there)) ?_
      exact frz_leafT _ _
    · obtain ⟨rfl, hbad⟩ := readN_bad hr
      have hm42 := next_lt h42 (by decide)
      refine ACalls.same2 (isR_ok W bA bS s (m) 42 true (by first | exact decide_eq_true (by omega) | exact decide_eq_false (by omega)) (by omega) hs (by decide)) (by repeat (first | exact .here _ _ _ | apply Look.there)) (by repeat (first | exact .here _ _ _ | apply Look.there)) ?_
      (refine g0_ ?_; repeat ((first | refine n1_ fun b_ => ?_ | refine n2_ fun b_ => ?_ | refine Nat1.mk fun q_ hq_ => ?_ | refine em_ fun x_ hx_ => ?_ | refine Elem1.mk fun e_ he_ => ?_); refine g0_ ?_))
      (refine g1_ ?_; repeat ((first | refine n1_ fun b_ => ?_ | refine n2_ fun b_ => ?_ | refine Nat1.mk fun q_ hq_ => ?_ | refine em_ fun x_ hx_ => ?_ | refine Elem1.mk fun e_ he_ => ?_); refine g1_ ?_))
      refine ACalls.lend (numberR_bad W bA bS bB s (m + 1) hs (by omega) hbad) (look3 (by repeat (first | exact .here _ _ _ | apply Look.there)) (by repeat (first | exact .here _ _ _ | apply Look.there)) (by repeat (first | exact .here _ _ _ | apply Look.there))) ?_
      rintro _ -
      simp only [rsA, rsS, List.cons_append, List.nil_append]
      (refine g0_ ?_; repeat ((first | refine n1_ fun b_ => ?_ | refine n2_ fun b_ => ?_ | refine Nat1.mk fun q_ hq_ => ?_ | refine em_ fun x_ hx_ => ?_ | refine Elem1.mk fun e_ he_ => ?_); refine g0_ ?_))
      (refine g1_ ?_; repeat ((first | refine n1_ fun b_ => ?_ | refine n2_ fun b_ => ?_ | refine Nat1.mk fun q_ hq_ => ?_ | refine em_ fun x_ hx_ => ?_ | refine Elem1.mk fun e_ he_ => ?_); refine g1_ ?_))
      refine rd_bad (.mk 0 p 0 ([])) (m + 1) (by repeat (first | exact .here _ _ _ | apply Look.there)) (by repeat (first | exact .here _ _ _ | apply Look.there)) (by repeat (first | exact .here _ _ _ | apply Look.there)) (by repeat (first | exact .here _ _ _ | apply Look.there)) (by repeat (first | exact .here _ _ _ | apply Look.there)) (by repeat (first | exact .here _ _ _ | apply Look.there)) ?_
      exact frz_leafT _ _
    · have hm42 := next_lt h42 (by decide)
      obtain ⟨k1, k2, k3, -⟩ := readN_len hr
      refine ACalls.same2 (isR_ok W bA bS s (m) 42 true (by first | exact decide_eq_true (by omega) | exact decide_eq_false (by omega)) (by omega) hs (by decide)) (by repeat (first | exact .here _ _ _ | apply Look.there)) (by repeat (first | exact .here _ _ _ | apply Look.there)) ?_
      (refine g0_ ?_; repeat ((first | refine n1_ fun b_ => ?_ | refine n2_ fun b_ => ?_ | refine Nat1.mk fun q_ hq_ => ?_ | refine em_ fun x_ hx_ => ?_ | refine Elem1.mk fun e_ he_ => ?_); refine g0_ ?_))
      (refine g1_ ?_; repeat ((first | refine n1_ fun b_ => ?_ | refine n2_ fun b_ => ?_ | refine Nat1.mk fun q_ hq_ => ?_ | refine em_ fun x_ hx_ => ?_ | refine Elem1.mk fun e_ he_ => ?_); refine g1_ ?_))
      refine ACalls.lend (numberR_ok W hE bA bS bB s (m + 1) hs (by omega) hr) (look3 (by repeat (first | exact .here _ _ _ | apply Look.there)) (by repeat (first | exact .here _ _ _ | apply Look.there)) (by repeat (first | exact .here _ _ _ | apply Look.there))) ?_
      rintro _ -
      simp only [rsA, rsS, List.cons_append, List.nil_append]
      (refine g0_ ?_; repeat ((first | refine n1_ fun b_ => ?_ | refine n2_ fun b_ => ?_ | refine Nat1.mk fun q_ hq_ => ?_ | refine em_ fun x_ hx_ => ?_ | refine Elem1.mk fun e_ he_ => ?_); refine g0_ ?_))
      (refine g1_ ?_; repeat ((first | refine n1_ fun b_ => ?_ | refine n2_ fun b_ => ?_ | refine Nat1.mk fun q_ hq_ => ?_ | refine em_ fun x_ hx_ => ?_ | refine Elem1.mk fun e_ he_ => ?_); refine g1_ ?_))
      refine rd_bad (.mk 0 p 1 ([])) m2 (by repeat (first | exact .here _ _ _ | apply Look.there)) (by repeat (first | exact .here _ _ _ | apply Look.there)) (by rw [show ((m2 - 1 : Nat) : Int) = (m2 : Int) - 1 by omega]; repeat (first | exact .here _ _ _ | apply Look.there)) (by repeat (first | exact .here _ _ _ | apply Look.there)) (by repeat (first | exact .here _ _ _ | apply Look.there)) (by repeat (first | exact .here _ _ _ | apply Look.there)) ?_
      exact frz_leafT _ _
    · have hm42 := next_lt h42 (by decide)
      obtain ⟨k1, k2, k3, -⟩ := readN_len hr
      refine ACalls.same2 (isR_ok W bA bS s (m) 42 true (by first | exact decide_eq_true (by omega) | exact decide_eq_false (by omega)) (by omega) hs (by decide)) (by repeat (first | exact .here _ _ _ | apply Look.there)) (by repeat (first | exact .here _ _ _ | apply Look.there)) ?_
      (refine g0_ ?_; repeat ((first | refine n1_ fun b_ => ?_ | refine n2_ fun b_ => ?_ | refine Nat1.mk fun q_ hq_ => ?_ | refine em_ fun x_ hx_ => ?_ | refine Elem1.mk fun e_ he_ => ?_); refine g0_ ?_))
      (refine g1_ ?_; repeat ((first | refine n1_ fun b_ => ?_ | refine n2_ fun b_ => ?_ | refine Nat1.mk fun q_ hq_ => ?_ | refine em_ fun x_ hx_ => ?_ | refine Elem1.mk fun e_ he_ => ?_); refine g1_ ?_))
      refine ACalls.lend (numberR_ok W hE bA bS bB s (m + 1) hs (by omega) hr) (look3 (by repeat (first | exact .here _ _ _ | apply Look.there)) (by repeat (first | exact .here _ _ _ | apply Look.there)) (by repeat (first | exact .here _ _ _ | apply Look.there))) ?_
      rintro _ -
      simp only [rsA, rsS, List.cons_append, List.nil_append]
      (refine g0_ ?_; repeat ((first | refine n1_ fun b_ => ?_ | refine n2_ fun b_ => ?_ | refine Nat1.mk fun q_ hq_ => ?_ | refine em_ fun x_ hx_ => ?_ | refine Elem1.mk fun e_ he_ => ?_); refine g0_ ?_))
      (refine g1_ ?_; repeat ((first | refine n1_ fun b_ => ?_ | refine n2_ fun b_ => ?_ | refine Nat1.mk fun q_ hq_ => ?_ | refine em_ fun x_ hx_ => ?_ | refine Elem1.mk fun e_ he_ => ?_); refine g1_ ?_))
      refine rd_ok (by repeat (first | exact .here _ _ _ | apply Look.there)) (by repeat (first | exact .here _ _ _ | apply Look.there)) (by repeat (first | exact .here _ _ _ | apply Look.there)) (by repeat (first | exact .here _ _ _ | apply Look.there)) (by repeat (first | exact .here _ _ _ | apply Look.there)) (by repeat (first | exact .here _ _ _ | apply Look.there)) ?_
      exact frz_leafT _ _
end Go.Eng.YtmodblkagimhlaaDoor
end

/- Splits: the document's text of a split (b_ x_ q_ e_). -/
section
namespace Go.Eng.YtmodblkagimhlaaDoor
open Go Go.Eng Go.Proofs
variable (W : World)
set_option linter.unusedSimpArgs false
set_option maxRecDepth 100000
set_option linter.unusedVariables false
set_option maxHeartbeats 4000000
theorem join_wr : ∀ ks : List Spl, Lib.join (ks.map wrS) [44] = (wrSs ks).drop 1
  | [] => by simp [Lib.join, wrSs]
  | [k] => by simp [Lib.join, wrSs]
  | k :: j :: ks => by
    have := join_wr (j :: ks)
    rw [List.map_cons] at this
    rw [List.map_cons, List.map_cons, wrSs, wrSs]
    rw [wrSs] at this
    simp only [List.cons_append, List.drop_succ_cons, List.drop_zero, List.append_assoc, List.nil_append] at this ⊢
    rw [← this]
    simp [Lib.join]
theorem splText_ok (hN : Nums W) (t : Spl) : ∀ way, t.right way → (panesT t).length ≤ 12 → Pure Tryd.prog W 14 [encSpl t] (.str (wrS t)) := by
  induction t using spl_induct with
  | h w p s ks ih =>
    intro way hr hn
    have hlen := wrS_len (.mk w p s ks) way hr
    rw [wrS_mk] at hlen ⊢
    rw [right_mk] at hr
    obtain ⟨hs, hr⟩ := hr
    have his := itoa_ok W hN s (by unfold i64ok; omega)
    have hsl := (itoa_dig hs).2.1
    have hkm : (ks.map encSpl).length = ks.length := List.length_map _
    rw [encSpl_mk]
    rcases hr with ⟨h0, hk, hp⟩ | ⟨hw, -, hk2, hp, hkr⟩
    · subst h0 hk
      rw [if_pos rfl] at *
      have hip := itoa_ok W hN p (by unfold i64ok; omega)
      have hpl := (itoa_dig hp).2.1
      clear ih
      refine Pure.of (acalls_of_vc (drawOk W) Tryd.func14 rfl (by decide) (by decide) rfl ?_)
      (refine g0_ ?_; repeat ((first | refine n1_ fun b_ => ?_ | refine n2_ fun b_ => ?_ | refine Nat1.mk fun q_ hq_ => ?_ | refine em_ fun x_ hx_ => ?_ | refine Elem1.mk fun e_ he_ => ?_); refine g0_ ?_))
      refine (hip).use ?_; (refine g0_ ?_; repeat ((first | refine n1_ fun b_ => ?_ | refine n2_ fun b_ => ?_ | refine Nat1.mk fun q_ hq_ => ?_ | refine em_ fun x_ hx_ => ?_ | refine Elem1.mk fun e_ he_ => ?_); refine g0_ ?_))
      (refine g1_ ?_; repeat ((first | refine n1_ fun b_ => ?_ | refine n2_ fun b_ => ?_ | refine Nat1.mk fun q_ hq_ => ?_ | refine em_ fun x_ hx_ => ?_ | refine Elem1.mk fun e_ he_ => ?_); refine g1_ ?_))
      by_cases h1 : s = 1
      · subst h1
        (refine g1_ ?_; repeat ((first | refine n1_ fun b_ => ?_ | refine n2_ fun b_ => ?_ | refine Nat1.mk fun q_ hq_ => ?_ | refine em_ fun x_ hx_ => ?_ | refine Elem1.mk fun e_ he_ => ?_); refine g1_ ?_))
        exact .of_eq (by rw [show sizeS 1 = [] from rfl, List.append_nil] <;> rfl)
      · (refine g1_ ?_; repeat ((first | refine n1_ fun b_ => ?_ | refine n2_ fun b_ => ?_ | refine Nat1.mk fun q_ hq_ => ?_ | refine em_ fun x_ hx_ => ?_ | refine Elem1.mk fun e_ he_ => ?_); refine g1_ ?_))
        refine (his).use ?_; (refine g0_ ?_; repeat ((first | refine n1_ fun b_ => ?_ | refine n2_ fun b_ => ?_ | refine Nat1.mk fun q_ hq_ => ?_ | refine em_ fun x_ hx_ => ?_ | refine Elem1.mk fun e_ he_ => ?_); refine g0_ ?_))
        (refine g0_ ?_; repeat ((first | refine n1_ fun b_ => ?_ | refine n2_ fun b_ => ?_ | refine Nat1.mk fun q_ hq_ => ?_ | refine em_ fun x_ hx_ => ?_ | refine Elem1.mk fun e_ he_ => ?_); refine g0_ ?_))
        exact .of_eq (by rw [show sizeS s = 42 :: Lib.itoa s from if_neg h1]; rfl)
    · have hw0 : w ≠ 0 := by omega
      have hpn := panesT_mk w p s ks
      rw [if_neg hw0] at *
      subst hp
      have hkp : (ks.flatMap panesT).length ≤ 12 := by rw [← hpn]; exact hn
      have hkc := kids_panes hkr
      have hwl : (wrSs ks).length ≤ 250 := by
        simp only [List.length_append, List.length_cons, List.length_nil, List.length_drop] at hlen
        omega
      have hip := itoa_ok W hN 0 (by unfold i64ok; omega)
      rcases hw with rfl | rfl
      · refine Pure.of (acalls_of_vc (drawOk W) Tryd.func14 rfl (by decide) (by decide) rfl ?_)
        (refine g0_ ?_; repeat ((first | refine n1_ fun b_ => ?_ | refine n2_ fun b_ => ?_ | refine Nat1.mk fun q_ hq_ => ?_ | refine em_ fun x_ hx_ => ?_ | refine Elem1.mk fun e_ he_ => ?_); refine g0_ ?_))
        refine (hip).use ?_; (refine g0_ ?_; repeat ((first | refine n1_ fun b_ => ?_ | refine n2_ fun b_ => ?_ | refine Nat1.mk fun q_ hq_ => ?_ | refine em_ fun x_ hx_ => ?_ | refine Elem1.mk fun e_ he_ => ?_); refine g0_ ?_))
        (refine g1_ ?_; repeat ((first | refine n1_ fun b_ => ?_ | refine n2_ fun b_ => ?_ | refine Nat1.mk fun q_ hq_ => ?_ | refine em_ fun x_ hx_ => ?_ | refine Elem1.mk fun e_ he_ => ?_); refine g1_ ?_))
        obtain ⟨bT, rfl⟩ : ∃ z, z = b_ := ⟨_, rfl⟩
        refine' loopI (α := Nat × Nat × (List (List UInt8))) (fun (i, b', l) => [(16, .int .i64 i), (4, accV b' 1 (l.map PV.str))]) [(1, _), (14, _), (15, _)] (fun (i, b', l) => ⟨bT, .row 4 [.agg [.int .i64 1, .int .i64 0, .int .i64 s, .sl 4 (ks.map encSpl)]] 0⟩ :: accM b' 1 (l.map PV.str)) (fun (i, b', l) => i ≤ ks.length ∧ l = (ks.take i).map wrS) (fun (i, b', l) => ks.length - i) (0, 0, []) ?_ ?_
        · exact ⟨Nat.zero_le _, rfl⟩
        rintro ⟨i, b', l⟩ ⟨hi, hl⟩
        by_cases hie : i = ks.length
        · subst hie
          rw [List.take_length] at hl
          obtain ⟨l0, l, rfl⟩ : ∃ a m, l = a :: m := by
            cases l with
            | nil =>
              have := congrArg List.length hl
              rw [List.length_map, List.length_nil] at this
              omega
            | cons a m => exact ⟨a, m, rfl⟩
          have hjl : (Lib.join (l0 :: l) [44]) = (wrSs ks).drop 1 := by rw [hl]; exact join_wr ks
          have hll := congrArg List.length hl
          rw [List.length_map, List.length_cons] at hll
          have hjn := join_ok W (l0 :: l) [44] (by rw [List.length_cons]; omega) (by rw [hjl, List.length_drop]; omega)
          rw [hjl] at hjn
          have hdl : ((wrSs ks).drop 1).length ≤ 1000 := by rw [List.length_drop]; omega
          clear hjl ih hlen
          generalize (wrSs ks).drop 1 = J at *
          (refine g0_ ?_; repeat ((first | refine n1_ fun b_ => ?_ | refine n2_ fun b_ => ?_ | refine Nat1.mk fun q_ hq_ => ?_ | refine em_ fun x_ hx_ => ?_ | refine Elem1.mk fun e_ he_ => ?_); refine g0_ ?_))
          (refine g1_ ?_; repeat ((first | refine n1_ fun b_ => ?_ | refine n2_ fun b_ => ?_ | refine Nat1.mk fun q_ hq_ => ?_ | refine em_ fun x_ hx_ => ?_ | refine Elem1.mk fun e_ he_ => ?_); refine g1_ ?_))
          refine hjn.borrow rfl rfl (fun j hj => ?_) ?_
          · match j, hj with
            | 0, _ => exact frz_row (by repeat (first | exact .here _ _ _ | apply Look.there)) _ rfl
            | 1, _ => exact .refl _
          (refine g0_ ?_; repeat ((first | refine n1_ fun b_ => ?_ | refine n2_ fun b_ => ?_ | refine Nat1.mk fun q_ hq_ => ?_ | refine em_ fun x_ hx_ => ?_ | refine Elem1.mk fun e_ he_ => ?_); refine g0_ ?_))
          (refine g1_ ?_; repeat ((first | refine n1_ fun b_ => ?_ | refine n2_ fun b_ => ?_ | refine Nat1.mk fun q_ hq_ => ?_ | refine em_ fun x_ hx_ => ?_ | refine Elem1.mk fun e_ he_ => ?_); refine g1_ ?_))
          by_cases h1 : s = 1
          · subst h1
            (refine g1_ ?_; repeat ((first | refine n1_ fun b_ => ?_ | refine n2_ fun b_ => ?_ | refine Nat1.mk fun q_ hq_ => ?_ | refine em_ fun x_ hx_ => ?_ | refine Elem1.mk fun e_ he_ => ?_); refine g1_ ?_))
            exact .of_eq (by rw [show sizeS 1 = [] from rfl, List.append_nil] <;> rfl)
          · (refine g1_ ?_; repeat ((first | refine n1_ fun b_ => ?_ | refine n2_ fun b_ => ?_ | refine Nat1.mk fun q_ hq_ => ?_ | refine em_ fun x_ hx_ => ?_ | refine Elem1.mk fun e_ he_ => ?_); refine g1_ ?_))
            refine (his).use ?_; (refine g0_ ?_; repeat ((first | refine n1_ fun b_ => ?_ | refine n2_ fun b_ => ?_ | refine Nat1.mk fun q_ hq_ => ?_ | refine em_ fun x_ hx_ => ?_ | refine Elem1.mk fun e_ he_ => ?_); refine g0_ ?_))
            (refine g0_ ?_; repeat ((first | refine n1_ fun b_ => ?_ | refine n2_ fun b_ => ?_ | refine Nat1.mk fun q_ hq_ => ?_ | refine em_ fun x_ hx_ => ?_ | refine Elem1.mk fun e_ he_ => ?_); refine g0_ ?_))
            exact .of_eq (by rw [show sizeS s = 42 :: Lib.itoa s from if_neg h1]; rfl)
        · have hil : i < ks.length := by omega
          obtain ⟨x, hx⟩ : ∃ x, ks[i]? = some x := ⟨_, List.getElem?_eq_getElem hil⟩
          have hxm := List.mem_of_getElem? hx
          have hcl := ih x hxm 1 (hkr x hxm) (Nat.le_trans (kid_panes hxm) hkp)
          have hnx : (ks.take (i + 1)).map wrS = l ++ [wrS x] := by rw [take_snoc_of hx, List.map_append, ← hl]; rfl
          have hll := congrArg List.length hl
          rw [List.length_map, List.length_take] at hll
          generalize wrS x = X at *
          obtain ⟨w2, p2, s2, ks2⟩ := x
          simp only [encSpl] at hcl
          rcases l with _ | ⟨l0, l⟩
          · (refine g0_ ?_; repeat ((first | refine n1_ fun b_ => ?_ | refine n2_ fun b_ => ?_ | refine Nat1.mk fun q_ hq_ => ?_ | refine em_ fun x_ hx_ => ?_ | refine Elem1.mk fun e_ he_ => ?_); refine g0_ ?_))
            (refine g1_ ?_; repeat ((first | refine n1_ fun b_ => ?_ | refine n2_ fun b_ => ?_ | refine Nat1.mk fun q_ hq_ => ?_ | refine em_ fun x_ hx_ => ?_ | refine Elem1.mk fun e_ he_ => ?_); refine g1_ ?_))
            refine (hcl).use ?_; (refine g0_ ?_; repeat ((first | refine n1_ fun b_ => ?_ | refine n2_ fun b_ => ?_ | refine Nat1.mk fun q_ hq_ => ?_ | refine em_ fun x_ hx_ => ?_ | refine Elem1.mk fun e_ he_ => ?_); refine g0_ ?_))
            refine .inl ?_
            (refine g0_ ?_; repeat ((first | refine n1_ fun b_ => ?_ | refine n2_ fun b_ => ?_ | refine Nat1.mk fun q_ hq_ => ?_ | refine em_ fun x_ hx_ => ?_ | refine Elem1.mk fun e_ he_ => ?_); refine g0_ ?_))
            refine nx_ (i + 1, b_, [X]) ?_ ?_
            · exact ⟨hil, hnx.symm⟩
            · ((try dsimp only); (try simp only [List.length_drop, List.length_take, List.length_append, List.length_cons, List.length_nil, List.length_map] at *); omega)
          · rw [List.length_cons] at hll
            have hlm : (List.map PV.str l).length = l.length := List.length_map _
            (refine g0_ ?_; repeat ((first | refine n1_ fun b_ => ?_ | refine n2_ fun b_ => ?_ | refine Nat1.mk fun q_ hq_ => ?_ | refine em_ fun x_ hx_ => ?_ | refine Elem1.mk fun e_ he_ => ?_); refine g0_ ?_))
            (refine g1_ ?_; repeat ((first | refine n1_ fun b_ => ?_ | refine n2_ fun b_ => ?_ | refine Nat1.mk fun q_ hq_ => ?_ | refine em_ fun x_ hx_ => ?_ | refine Elem1.mk fun e_ he_ => ?_); refine g1_ ?_))
            refine (hcl).use ?_; (refine g0_ ?_; repeat ((first | refine n1_ fun b_ => ?_ | refine n2_ fun b_ => ?_ | refine Nat1.mk fun q_ hq_ => ?_ | refine em_ fun x_ hx_ => ?_ | refine Elem1.mk fun e_ he_ => ?_); refine g0_ ?_))
            refine .inl ?_
            (refine g0_ ?_; repeat ((first | refine n1_ fun b_ => ?_ | refine n2_ fun b_ => ?_ | refine Nat1.mk fun q_ hq_ => ?_ | refine em_ fun x_ hx_ => ?_ | refine Elem1.mk fun e_ he_ => ?_); refine g0_ ?_))
            rw [show (List.map PV.str l).length + 1 + [PV.str X].length = (List.map PV.str (l ++ [X])).length + 1 from by simp]
            rw [show (PV.str l0 :: List.map PV.str l) ++ [PV.str X] = List.map PV.str (l0 :: l ++ [X]) from by simp]
            refine nx_ (i + 1, b_, l0 :: l ++ [X]) ?_ ?_
            · exact ⟨hil, hnx.symm⟩
            · ((try dsimp only); (try simp only [List.length_drop, List.length_take, List.length_append, List.length_cons, List.length_nil, List.length_map] at *); omega)
      · refine Pure.of (acalls_of_vc (drawOk W) Tryd.func14 rfl (by decide) (by decide) rfl ?_)
        (refine g0_ ?_; repeat ((first | refine n1_ fun b_ => ?_ | refine n2_ fun b_ => ?_ | refine Nat1.mk fun q_ hq_ => ?_ | refine em_ fun x_ hx_ => ?_ | refine Elem1.mk fun e_ he_ => ?_); refine g0_ ?_))
        refine (hip).use ?_; (refine g0_ ?_; repeat ((first | refine n1_ fun b_ => ?_ | refine n2_ fun b_ => ?_ | refine Nat1.mk fun q_ hq_ => ?_ | refine em_ fun x_ hx_ => ?_ | refine Elem1.mk fun e_ he_ => ?_); refine g0_ ?_))
        (refine g1_ ?_; repeat ((first | refine n1_ fun b_ => ?_ | refine n2_ fun b_ => ?_ | refine Nat1.mk fun q_ hq_ => ?_ | refine em_ fun x_ hx_ => ?_ | refine Elem1.mk fun e_ he_ => ?_); refine g1_ ?_))
        obtain ⟨bT, rfl⟩ : ∃ z, z = b_ := ⟨_, rfl⟩
        refine' loopI (α := Nat × Nat × (List (List UInt8))) (fun (i, b', l) => [(16, .int .i64 i), (4, accV b' 1 (l.map PV.str))]) [(1, _), (14, _), (15, _)] (fun (i, b', l) => ⟨bT, .row 4 [.agg [.int .i64 2, .int .i64 0, .int .i64 s, .sl 4 (ks.map encSpl)]] 0⟩ :: accM b' 1 (l.map PV.str)) (fun (i, b', l) => i ≤ ks.length ∧ l = (ks.take i).map wrS) (fun (i, b', l) => ks.length - i) (0, 0, []) ?_ ?_
        · exact ⟨Nat.zero_le _, rfl⟩
        rintro ⟨i, b', l⟩ ⟨hi, hl⟩
        by_cases hie : i = ks.length
        · subst hie
          rw [List.take_length] at hl
          obtain ⟨l0, l, rfl⟩ : ∃ a m, l = a :: m := by
            cases l with
            | nil =>
              have := congrArg List.length hl
              rw [List.length_map, List.length_nil] at this
              omega
            | cons a m => exact ⟨a, m, rfl⟩
          have hjl : (Lib.join (l0 :: l) [44]) = (wrSs ks).drop 1 := by rw [hl]; exact join_wr ks
          have hll := congrArg List.length hl
          rw [List.length_map, List.length_cons] at hll
          have hjn := join_ok W (l0 :: l) [44] (by rw [List.length_cons]; omega) (by rw [hjl, List.length_drop]; omega)
          rw [hjl] at hjn
          have hdl : ((wrSs ks).drop 1).length ≤ 1000 := by rw [List.length_drop]; omega
          clear hjl ih hlen
          generalize (wrSs ks).drop 1 = J at *
          (refine g0_ ?_; repeat ((first | refine n1_ fun b_ => ?_ | refine n2_ fun b_ => ?_ | refine Nat1.mk fun q_ hq_ => ?_ | refine em_ fun x_ hx_ => ?_ | refine Elem1.mk fun e_ he_ => ?_); refine g0_ ?_))
          (refine g1_ ?_; repeat ((first | refine n1_ fun b_ => ?_ | refine n2_ fun b_ => ?_ | refine Nat1.mk fun q_ hq_ => ?_ | refine em_ fun x_ hx_ => ?_ | refine Elem1.mk fun e_ he_ => ?_); refine g1_ ?_))
          refine hjn.borrow rfl rfl (fun j hj => ?_) ?_
          · match j, hj with
            | 0, _ => exact frz_row (by repeat (first | exact .here _ _ _ | apply Look.there)) _ rfl
            | 1, _ => exact .refl _
          (refine g0_ ?_; repeat ((first | refine n1_ fun b_ => ?_ | refine n2_ fun b_ => ?_ | refine Nat1.mk fun q_ hq_ => ?_ | refine em_ fun x_ hx_ => ?_ | refine Elem1.mk fun e_ he_ => ?_); refine g0_ ?_))
          (refine g1_ ?_; repeat ((first | refine n1_ fun b_ => ?_ | refine n2_ fun b_ => ?_ | refine Nat1.mk fun q_ hq_ => ?_ | refine em_ fun x_ hx_ => ?_ | refine Elem1.mk fun e_ he_ => ?_); refine g1_ ?_))
          by_cases h1 : s = 1
          · subst h1
            (refine g1_ ?_; repeat ((first | refine n1_ fun b_ => ?_ | refine n2_ fun b_ => ?_ | refine Nat1.mk fun q_ hq_ => ?_ | refine em_ fun x_ hx_ => ?_ | refine Elem1.mk fun e_ he_ => ?_); refine g1_ ?_))
            exact .of_eq (by rw [show sizeS 1 = [] from rfl, List.append_nil] <;> rfl)
          · (refine g1_ ?_; repeat ((first | refine n1_ fun b_ => ?_ | refine n2_ fun b_ => ?_ | refine Nat1.mk fun q_ hq_ => ?_ | refine em_ fun x_ hx_ => ?_ | refine Elem1.mk fun e_ he_ => ?_); refine g1_ ?_))
            refine (his).use ?_; (refine g0_ ?_; repeat ((first | refine n1_ fun b_ => ?_ | refine n2_ fun b_ => ?_ | refine Nat1.mk fun q_ hq_ => ?_ | refine em_ fun x_ hx_ => ?_ | refine Elem1.mk fun e_ he_ => ?_); refine g0_ ?_))
            (refine g0_ ?_; repeat ((first | refine n1_ fun b_ => ?_ | refine n2_ fun b_ => ?_ | refine Nat1.mk fun q_ hq_ => ?_ | refine em_ fun x_ hx_ => ?_ | refine Elem1.mk fun e_ he_ => ?_); refine g0_ ?_))
            exact .of_eq (by rw [show sizeS s = 42 :: Lib.itoa s from if_neg h1]; rfl)
        · have hil : i < ks.length := by omega
          obtain ⟨x, hx⟩ : ∃ x, ks[i]? = some x := ⟨_, List.getElem?_eq_getElem hil⟩
          have hxm := List.mem_of_getElem? hx
          have hcl := ih x hxm 2 (hkr x hxm) (Nat.le_trans (kid_panes hxm) hkp)
          have hnx : (ks.take (i + 1)).map wrS = l ++ [wrS x] := by rw [take_snoc_of hx, List.map_append, ← hl]; rfl
          have hll := congrArg List.length hl
          rw [List.length_map, List.length_take] at hll
          generalize wrS x = X at *
          obtain ⟨w2, p2, s2, ks2⟩ := x
          simp only [encSpl] at hcl
          rcases l with _ | ⟨l0, l⟩
          · (refine g0_ ?_; repeat ((first | refine n1_ fun b_ => ?_ | refine n2_ fun b_ => ?_ | refine Nat1.mk fun q_ hq_ => ?_ | refine em_ fun x_ hx_ => ?_ | refine Elem1.mk fun e_ he_ => ?_); refine g0_ ?_))
            (refine g1_ ?_; repeat ((first | refine n1_ fun b_ => ?_ | refine n2_ fun b_ => ?_ | refine Nat1.mk fun q_ hq_ => ?_ | refine em_ fun x_ hx_ => ?_ | refine Elem1.mk fun e_ he_ => ?_); refine g1_ ?_))
            refine (hcl).use ?_; (refine g0_ ?_; repeat ((first | refine n1_ fun b_ => ?_ | refine n2_ fun b_ => ?_ | refine Nat1.mk fun q_ hq_ => ?_ | refine em_ fun x_ hx_ => ?_ | refine Elem1.mk fun e_ he_ => ?_); refine g0_ ?_))
            refine .inl ?_
            (refine g0_ ?_; repeat ((first | refine n1_ fun b_ => ?_ | refine n2_ fun b_ => ?_ | refine Nat1.mk fun q_ hq_ => ?_ | refine em_ fun x_ hx_ => ?_ | refine Elem1.mk fun e_ he_ => ?_); refine g0_ ?_))
            refine nx_ (i + 1, b_, [X]) ?_ ?_
            · exact ⟨hil, hnx.symm⟩
            · ((try dsimp only); (try simp only [List.length_drop, List.length_take, List.length_append, List.length_cons, List.length_nil, List.length_map] at *); omega)
          · rw [List.length_cons] at hll
            have hlm : (List.map PV.str l).length = l.length := List.length_map _
            (refine g0_ ?_; repeat ((first | refine n1_ fun b_ => ?_ | refine n2_ fun b_ => ?_ | refine Nat1.mk fun q_ hq_ => ?_ | refine em_ fun x_ hx_ => ?_ | refine Elem1.mk fun e_ he_ => ?_); refine g0_ ?_))
            (refine g1_ ?_; repeat ((first | refine n1_ fun b_ => ?_ | refine n2_ fun b_ => ?_ | refine Nat1.mk fun q_ hq_ => ?_ | refine em_ fun x_ hx_ => ?_ | refine Elem1.mk fun e_ he_ => ?_); refine g1_ ?_))
            refine (hcl).use ?_; (refine g0_ ?_; repeat ((first | refine n1_ fun b_ => ?_ | refine n2_ fun b_ => ?_ | refine Nat1.mk fun q_ hq_ => ?_ | refine em_ fun x_ hx_ => ?_ | refine Elem1.mk fun e_ he_ => ?_); refine g0_ ?_))
            refine .inl ?_
            (refine g0_ ?_; repeat ((first | refine n1_ fun b_ => ?_ | refine n2_ fun b_ => ?_ | refine Nat1.mk fun q_ hq_ => ?_ | refine em_ fun x_ hx_ => ?_ | refine Elem1.mk fun e_ he_ => ?_); refine g0_ ?_))
            rw [show (List.map PV.str l).length + 1 + [PV.str X].length = (List.map PV.str (l ++ [X])).length + 1 from by simp]
            rw [show (PV.str l0 :: List.map PV.str l) ++ [PV.str X] = List.map PV.str (l0 :: l ++ [X]) from by simp]
            refine nx_ (i + 1, b_, l0 :: l ++ [X]) ?_ ?_
            · exact ⟨hil, hnx.symm⟩
            · ((try dsimp only); (try simp only [List.length_drop, List.length_take, List.length_append, List.length_cons, List.length_nil, List.length_map] at *); omega)
end Go.Eng.YtmodblkagimhlaaDoor
end
