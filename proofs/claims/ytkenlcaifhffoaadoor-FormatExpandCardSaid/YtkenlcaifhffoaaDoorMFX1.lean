/- Texts put together: FmtL, Fmt6, Fmt7, Fmt8. -/
import Derived.Test.YtkenlcaifhffoaaDoorMFM1
import Derived.Test.YtkenlcaifhffoaaDoorME12
import Derived.Test.YtkenlcaifhffoaaDoorMBN1
import Derived.Test.YtkenlcaifhffoaaDoorMRB
/- Formats, plain: what a format says, or where it can't go on (full). -/
section
namespace Go.Eng.YtkenlcaifhffoaaDoor
open Go Go.Eng Go.Proofs Go.RowKit
set_option linter.unusedSimpArgs false
set_option maxRecDepth 100000
set_option linter.unusedVariables false
set_option maxHeartbeats 4000000
/-- Names and what they stand for. -/
abbrev Its := List (List UInt8 × List UInt8)
def valQ : Its → List UInt8 → List UInt8
  | [], _ => []
  | x :: r, n => if x.1 = n then x.2 else valQ r n
def stQ (a : Nat) (c : UInt8) : Nat := a * 10 + (c.toNat - 48)
def ltr (c : UInt8) : Bool := decide ((97 ≤ c.toNat ∧ c.toNat ≤ 122) ∨ c.toNat = 95)
def dgt (c : UInt8) : Bool := decide (48 ≤ c.toNat ∧ c.toNat ≤ 57)
def nmQ (s : List UInt8) (i : Nat) : List UInt8 := (s.drop i).takeWhile ltr
def dgQ (s : List UInt8) (i : Nat) : List UInt8 := ((s.drop i).take 3).takeWhile dgt
def nameQ (s : List UInt8) (i : Nat) : Except Nat (List UInt8 × Nat) := if nmQ s i = [] then .error i else .ok (nmQ s i, i + (nmQ s i).length)
def expQ (s : List UInt8) (i : Nat) (c : UInt8) : Except Nat Nat := if s[i]? = some c then .ok (i + 1) else .error i
def untilQ (s ends : List UInt8) (f : Nat → Except Nat (List UInt8 × Nat)) : Nat → Nat → List UInt8 → Except Nat (List UInt8 × Nat)
  | 0, i, _ => .error i
  | k + 1, i, w => match s[i]? with
    | none => .ok (w, i)
    | some c => if ends.contains c then .ok (w, i) else if c = 35 ∧ s[i + 1]? = some 123 then (match f i with
        | .error e => .error e
        | .ok (x, m) => untilQ s ends f k m (w ++ x))
      else if c = 35 ∧ s[i + 1]? = some 35 then untilQ s ends f k (i + 2) (w ++ [35]) else untilQ s ends f k (i + 1) (w ++ [c])
def condQ (v a b : List UInt8) : List UInt8 := if v ≠ [] ∧ v ≠ [48] then a else b
/-- Behind '#{?'. -/
def askQ (s : List UInt8) (its : Its) (u : List UInt8 → Nat → Except Nat (List UInt8 × Nat)) (i : Nat) : Except Nat (List UInt8 × Nat) := match nameQ s i with
  | .error e => .error e
  | .ok (n, m1) => match expQ s m1 44 with
    | .error e => .error e
    | .ok m2 => match u [44, 125] m2 with
      | .error e => .error e
      | .ok (y, m3) => match expQ s m3 44 with
        | .error e => .error e
        | .ok m4 => match u [125] m4 with
          | .error e => .error e
          | .ok (z, m5) => match expQ s m5 125 with
            | .error e => .error e
            | .ok m6 => .ok (condQ (valQ its n) y z, m6)
/-- Behind '#{='. -/
def cutQ (s : List UInt8) (its : Its) (i : Nat) : Except Nat (List UInt8 × Nat) :=
  if dgQ s i = [] then .error i else match expQ s (i + (dgQ s i).length) 58 with
    | .error e => .error e
    | .ok m1 => match nameQ s m1 with
      | .error e => .error e
      | .ok (n, m2) => match expQ s m2 125 with
        | .error e => .error e
        | .ok m3 => .ok (cutL (valQ its n) (((dgQ s i).foldl stQ 0 : Nat) : Int), m3)
/-- Behind '#{'. -/
def plainQ (s : List UInt8) (its : Its) (i : Nat) : Except Nat (List UInt8 × Nat) := match nameQ s i with
  | .error e => .error e
  | .ok (n, m1) => match expQ s m1 125 with
    | .error e => .error e
    | .ok m2 => .ok (valQ its n, m2)
def itemQ (s : List UInt8) (its : Its) (u : List UInt8 → Nat → Except Nat (List UInt8 × Nat)) (i : Nat) : Except Nat (List UInt8 × Nat) :=
  if s[i + 2]? = some 63 then askQ s its u (i + 3) else if s[i + 2]? = some 61 then cutQ s its (i + 3) else plainQ s its (i + 2)
/-- An item within so many more braces, at most. -/
def itQ (s : List UInt8) (its : Its) : Nat → Nat → Except Nat (List UInt8 × Nat)
  | 0, i => .error i
  | n + 1, i => itemQ s its (fun ends j => untilQ s ends (itQ s its n) (s.length + 1) j []) i
/-! ### How far, and how much -/
theorem nmQ_len (s : List UInt8) (i : Nat) (hi : i ≤ s.length) : i + (nmQ s i).length ≤ s.length := by
  have h1 : (nmQ s i).length ≤ (s.drop i).length := (List.takeWhile_sublist _).length_le
  rw [List.length_drop] at h1
  omega
theorem dgQ_len (s : List UInt8) (i : Nat) (hi : i ≤ s.length) : (dgQ s i).length ≤ 3 ∧ i + (dgQ s i).length ≤ s.length := by
  have h1 : (dgQ s i).length ≤ ((s.drop i).take 3).length := (List.takeWhile_sublist _).length_le
  rw [List.length_take, List.length_drop] at h1
  omega
theorem nameQ_ok {s : List UInt8} {i m : Nat} {n : List UInt8} (hi : i ≤ s.length) (h : nameQ s i = .ok (n, m)) : i < m ∧ m ≤ s.length ∧ n = nmQ s i ∧ m = i + (nmQ s i).length ∧ nmQ s i ≠ [] := by
  unfold nameQ at h
  split at h
  · cases h
  · rename_i hn
    injection h with h
    obtain ⟨rfl, rfl⟩ := Prod.mk.inj h
    have := List.length_pos_iff.2 hn
    exact ⟨by omega, nmQ_len s i hi, rfl, rfl, hn⟩
theorem nameQ_bad {s : List UInt8} {i e : Nat} (h : nameQ s i = .error e) : e = i ∧ nmQ s i = [] := by
  unfold nameQ at h
  split at h
  · rename_i hn
    injection h with h
    exact ⟨h.symm, hn⟩
  · cases h
theorem expQ_ok {s : List UInt8} {i m : Nat} {c : UInt8} (h : expQ s i c = .ok m) : s[i]? = some c ∧ m = i + 1 ∧ m ≤ s.length := by
  unfold expQ at h
  split at h
  · rename_i hc
    injection h with h
    exact ⟨hc, h.symm, h ▸ lt_of_at hc⟩
  · cases h
theorem expQ_bad {s : List UInt8} {i e : Nat} {c : UInt8} (h : expQ s i c = .error e) : s[i]? ≠ some c ∧ e = i := by
  unfold expQ at h
  split at h
  · cases h
  · rename_i hc
    injection h with h
    exact ⟨hc, h.symm⟩
theorem valQ_len {its : Its} (h : ∀ x ∈ its, x.2.length ≤ 4000) (n : List UInt8) : (valQ its n).length ≤ 4000 := by
  induction its with
  | nil => exact Nat.zero_le _
  | cons x r ih =>
    rw [valQ]
    split
    · exact h x (by simp)
    · exact ih fun y hy => h y (List.mem_cons_of_mem _ hy)
/-- What is read at i is no longer than this. -/
def SmallQ (s : List UInt8) (lo i : Nat) (r : Except Nat (List UInt8 × Nat)) : Prop := match r with
  | .error _ => True
  | .ok (x, m) => lo ≤ m ∧ m ≤ s.length ∧ x.length ≤ 4000 * (m - i)
theorem untilQ_small {s ends : List UInt8} {f : Nat → Except Nat (List UInt8 × Nat)} (hf : ∀ i, i + 2 ≤ s.length → SmallQ s (i + 1) i (f i)) : ∀ (k i : Nat) (w : List UInt8) (i0 : Nat), i0 ≤ i → i ≤ s.length → w.length ≤ 4000 * (i - i0) → SmallQ s i0 i0 (untilQ s ends f k i w)
  | 0, i, w, i0, _, _, _ => trivial
  | k + 1, i, w, i0, h0, hi, hw => by
    rw [untilQ]
    cases h : s[i]? with
    | none => exact ⟨h0, hi, hw⟩
    | some c =>
      have hl := lt_of_at h
      dsimp only
      split
      · exact ⟨h0, hi, hw⟩
      split
      · rename_i h1
        have hl2 := lt_of_at h1.2
        have hs := hf i (by omega)
        cases hr : f i with
        | error e => trivial
        | ok y =>
          obtain ⟨x, m⟩ := y
          rw [hr] at hs
          obtain ⟨a1, a2, a3⟩ := hs
          exact untilQ_small hf k m (w ++ x) i0 (by omega) a2 (by rw [List.length_append]; omega)
      split
      · rename_i h1
        have hl2 := lt_of_at h1.2
        exact untilQ_small hf k (i + 2) (w ++ [35]) i0 (by omega) (by omega) (by simp only [List.length_append, List.length_cons, List.length_nil]; omega)
      · exact untilQ_small hf k (i + 1) (w ++ [c]) i0 (by omega) (by omega) (by simp only [List.length_append, List.length_cons, List.length_nil]; omega)
theorem itemQ_small {s : List UInt8} {its : Its} (hv : ∀ x ∈ its, x.2.length ≤ 4000) {u : List UInt8 → Nat → Except Nat (List UInt8 × Nat)} (hu : ∀ e i, i ≤ s.length → SmallQ s i i (u e i)) {i : Nat} (hi : i + 2 ≤ s.length) : SmallQ s (i + 1) i (itemQ s its u i) := by
  unfold itemQ
  split
  · rename_i h
    have hl := lt_of_at h
    unfold askQ
    cases h1 : nameQ s (i + 3) with
    | error e => trivial
    | ok y =>
      obtain ⟨n, m1⟩ := y
      obtain ⟨a1, a2, -⟩ := nameQ_ok (by omega) h1
      dsimp only
      cases h2 : expQ s m1 44 with
      | error e => trivial
      | ok m2 =>
        obtain ⟨-, b2, b3⟩ := expQ_ok h2
        dsimp only
        have hs := hu [44, 125] m2 b3
        cases h3 : u [44, 125] m2 with
        | error e => trivial
        | ok y =>
          obtain ⟨y, m3⟩ := y
          rw [h3] at hs
          obtain ⟨c1, c2, c3⟩ := hs
          dsimp only
          cases h4 : expQ s m3 44 with
          | error e => trivial
          | ok m4 =>
            obtain ⟨-, d2, d3⟩ := expQ_ok h4
            dsimp only
            have hs := hu [125] m4 d3
            cases h5 : u [125] m4 with
            | error e => trivial
            | ok z =>
              obtain ⟨z, m5⟩ := z
              rw [h5] at hs
              obtain ⟨e1, e2, e3⟩ := hs
              dsimp only
              cases h6 : expQ s m5 125 with
              | error e => trivial
              | ok m6 =>
                obtain ⟨-, f2, f3⟩ := expQ_ok h6
                refine ⟨by omega, f3, ?_⟩
                unfold condQ
                split <;> omega
  split
  · rename_i h
    have hl := lt_of_at h
    unfold cutQ
    split
    · trivial
    obtain ⟨g1, g2⟩ := dgQ_len s (i + 3) (by omega)
    cases h2 : expQ s (i + 3 + (dgQ s (i + 3)).length) 58 with
    | error e => trivial
    | ok m1 =>
      obtain ⟨-, b2, b3⟩ := expQ_ok h2
      dsimp only
      cases h1 : nameQ s m1 with
      | error e => trivial
      | ok y =>
        obtain ⟨n, m2⟩ := y
        obtain ⟨a1, a2, -⟩ := nameQ_ok (by omega) h1
        dsimp only
        cases h3 : expQ s m2 125 with
        | error e => trivial
        | ok m3 =>
          obtain ⟨-, d2, d3⟩ := expQ_ok h3
          refine ⟨by omega, d3, ?_⟩
          have k1 := cutL_len (valQ its n) (((dgQ s (i + 3)).foldl stQ 0 : Nat) : Int)
          have k2 := valQ_len hv n
          omega
  · unfold plainQ
    cases h1 : nameQ s (i + 2) with
    | error e => trivial
    | ok y =>
      obtain ⟨n, m1⟩ := y
      obtain ⟨a1, a2, -⟩ := nameQ_ok (by omega) h1
      dsimp only
      cases h2 : expQ s m1 125 with
      | error e => trivial
      | ok m2 =>
        obtain ⟨-, b2, b3⟩ := expQ_ok h2
        refine ⟨by omega, b3, ?_⟩
        have k2 := valQ_len hv n
        omega
theorem itQ_small {s : List UInt8} {its : Its} (hv : ∀ x ∈ its, x.2.length ≤ 4000) : ∀ (n i : Nat), i + 2 ≤ s.length → SmallQ s (i + 1) i (itQ s its n i)
  | 0, i, _ => trivial
  | n + 1, i, hi => by
    rw [itQ]
    exact itemQ_small hv (fun e j hj => untilQ_small (itQ_small hv n) _ j [] j (Nat.le_refl _) hj (Nat.zero_le _)) hi
end Go.Eng.YtkenlcaifhffoaaDoor
end

/- Formats: what an item stands for; a name; a byte that is expected (b_ x_ q_ e_). -/
section
namespace Go.Eng
open Go
variable {P : Program} {W : World}
theorem XCalls.toA {f : FuncId} {args : List PV} {σ : Mem} {k r : PV → Mem → Prop} (h : XCalls P W f args σ k r) (hr : ∀ v σ', ¬ r v σ') : ACalls P W f args σ k :=
  ⟨h.body, fun K w vs hl hrr hm hp => (h.run K w vs hl hrr hm hp).mono fun _ _ ⟨v, pv, σ', K', h1, h2⟩ => h1.elim (fun ⟨a, b⟩ => ⟨v, pv, σ', K', a, b, h2⟩) fun ⟨_, b⟩ => (hr _ _ b).elim⟩
end Go.Eng
namespace Go.Eng.YtkenlcaifhffoaaDoor
open Go Go.Eng Go.Proofs Go.RowKit
variable (W : World)
set_option linter.unusedSimpArgs false
set_option maxRecDepth 100000
set_option linter.unusedVariables false
set_option maxHeartbeats 4000000
def itV (x : List UInt8 × List UInt8) : PV := .agg [.str x.1, .str x.2]
/-- The reader under way. -/
def fQ (b : Nat) (s : List UInt8) (i : Nat) (its : Its) : Mem := [⟨b, .row 3 [.agg [.str s, .int .i64 i, .sl 2 (its.map itV)]] 0⟩]
/-- Where reading stops. -/
def stopF (i : Nat) : PV := .ifc 99 (.agg [.int .i64 i])
/-- The first of a text for which something does not hold. -/
theorem tw_at (p : UInt8 → Bool) (l : List UInt8) : ∀ j, j ≤ (l.takeWhile p).length →
    (j < (l.takeWhile p).length → ∃ c, l[j]? = some c ∧ p c = true) ∧ (j = (l.takeWhile p).length → j = l.length ∨ ∃ c, l[j]? = some c ∧ p c = false) := by
  induction l with
  | nil => intro j hj; simp at hj ⊢; try omega
  | cons c l ih =>
    intro j hj
    by_cases hc : p c = true
    · rw [List.takeWhile_cons_of_pos hc] at hj ⊢
      cases j with
      | zero => exact ⟨fun _ => ⟨c, rfl, hc⟩, fun h => by simp at h⟩
      | succ j =>
        obtain ⟨h1, h2⟩ := ih j (by simpa using hj)
        refine ⟨fun h => ?_, fun h => ?_⟩
        · obtain ⟨c', a1, a2⟩ := h1 (by simpa using h)
          exact ⟨c', by simpa using a1, a2⟩
        · rcases h2 (by simpa using h) with h | h
          · exact .inl (by simp [h])
          · exact .inr (by simpa using h)
    · rw [List.takeWhile_cons_of_neg hc] at hj ⊢
      obtain rfl : j = 0 := by simpa using hj
      exact ⟨fun h => by simp at h, fun _ => .inr ⟨c, rfl, by simpa using hc⟩⟩
theorem tw_slice (p : UInt8 → Bool) (s : List UInt8) (i : Nat) : (s.take (i + ((s.drop i).takeWhile p).length)).drop i = (s.drop i).takeWhile p := by
  rw [List.drop_take, Nat.add_sub_cancel_left]
  exact (List.prefix_iff_eq_take.1 (List.takeWhile_prefix p)).symm
theorem letQ_ok (c : UInt8) : Pure Tryd.prog W 129 [.int .u8 c.toNat] (.bool (ltr c)) := letterF_ok W c.toNat _ rfl
theorem valQ_ok (b : Nat) (s : List UInt8) (i : Nat) (its : Its) (hits : its.length ≤ 1000) (n : List UInt8) : ACalls Tryd.prog W 113 [.bref b 0, .str n] (fQ b s i its) (Gives (fun _ : Unit => .str (valQ its n)) (fun _ => fQ b s i its) (fun _ => True)) := by
  have hlm : (its.map itV).length = its.length := List.length_map _
  unfold fQ
  refine acalls_of_vc (drawOk W) Tryd.func113 rfl (by decide) (by decide) rfl ?_
  (refine g0_ ?_; repeat ((first | refine n1_ fun b_ => ?_ | refine n2_ fun b_ => ?_ | refine Nat1.mk fun q_ hq_ => ?_ | refine em_ fun x_ hx_ => ?_ | refine Elem1.mk fun e_ he_ => ?_); refine g0_ ?_))
  refine' loopI (α := Nat) (fun j => [(12, .int .i64 j)]) [(1, _), (10, _), (11, _)] (fun j => [⟨b, .row 3 [.agg [.str s, .int .i64 i, .sl 2 (its.map itV)]] 0⟩]) (fun j => j ≤ its.length ∧ valQ its n = valQ (its.drop j) n) (fun j => its.length - j) 0 ?_ ?_
  · exact ⟨Nat.zero_le _, rfl⟩
  rintro j ⟨hj, hv⟩
  by_cases hjl : j = its.length
  · subst hjl
    rw [List.drop_length, valQ] at hv
    (refine g0_ ?_; repeat ((first | refine n1_ fun b_ => ?_ | refine n2_ fun b_ => ?_ | refine Nat1.mk fun q_ hq_ => ?_ | refine em_ fun x_ hx_ => ?_ | refine Elem1.mk fun e_ he_ => ?_); refine g0_ ?_))
    (refine g1_ ?_; repeat ((first | refine n1_ fun b_ => ?_ | refine n2_ fun b_ => ?_ | refine Nat1.mk fun q_ hq_ => ?_ | refine em_ fun x_ hx_ => ?_ | refine Elem1.mk fun e_ he_ => ?_); refine g1_ ?_))
    exact ⟨(), trivial, by rw [hv], by (first | exact ⟨_, .refl _⟩ | exact wkMem.rfl' | exact ⟨_, .swap _ _ _⟩ | (repeat (first | exact wkMem.nil _ | exact wkMem.rfl' | exact wk_snoc _ _ _ | exact wk_fam (by assumption) _ _ _ | exact wk_famN (by assumption) _ _ _ | (apply wkMem.cons; (case' hl => (repeat (first | exact .here _ _ _ | apply Look.there)))) | apply wkMem.skip)))⟩
  · have hlt : j < its.length := by omega
    obtain ⟨x, hx⟩ : ∃ x, its[j]? = some x := ⟨_, List.getElem?_eq_getElem hlt⟩
    rw [drop_cons_of hx, valQ] at hv
    obtain ⟨x1, x2⟩ := x
    dsimp only at hv
    by_cases hn : x1 = n
    · rw [if_pos hn] at hv
      (refine g0_ ?_; repeat ((first | refine n1_ fun b_ => ?_ | refine n2_ fun b_ => ?_ | refine Nat1.mk fun q_ hq_ => ?_ | refine em_ fun x_ hx_ => ?_ | refine Elem1.mk fun e_ he_ => ?_); refine g0_ ?_))
      (refine g1_ ?_; repeat ((first | refine n1_ fun b_ => ?_ | refine n2_ fun b_ => ?_ | refine Nat1.mk fun q_ hq_ => ?_ | refine em_ fun x_ hx_ => ?_ | refine Elem1.mk fun e_ he_ => ?_); refine g1_ ?_))
      exact ⟨(), trivial, by rw [hv], by (first | exact ⟨_, .refl _⟩ | exact wkMem.rfl' | exact ⟨_, .swap _ _ _⟩ | (repeat (first | exact wkMem.nil _ | exact wkMem.rfl' | exact wk_snoc _ _ _ | exact wk_fam (by assumption) _ _ _ | exact wk_famN (by assumption) _ _ _ | (apply wkMem.cons; (case' hl => (repeat (first | exact .here _ _ _ | apply Look.there)))) | apply wkMem.skip)))⟩
    · rw [if_neg hn] at hv
      (refine g0_ ?_; repeat ((first | refine n1_ fun b_ => ?_ | refine n2_ fun b_ => ?_ | refine Nat1.mk fun q_ hq_ => ?_ | refine em_ fun x_ hx_ => ?_ | refine Elem1.mk fun e_ he_ => ?_); refine g0_ ?_))
      (refine g1_ ?_; repeat ((first | refine n1_ fun b_ => ?_ | refine n2_ fun b_ => ?_ | refine Nat1.mk fun q_ hq_ => ?_ | refine em_ fun x_ hx_ => ?_ | refine Elem1.mk fun e_ he_ => ?_); refine g1_ ?_))
      refine nx_ (j + 1) ?_ ?_
      · exact ⟨hlt, hv⟩
      · ((try dsimp only); (try simp only [List.length_drop, List.length_take, List.length_append, List.length_cons, List.length_nil, List.length_map] at *); omega)
theorem nameX_ok (b : Nat) (s : List UInt8) (i : Nat) (its : Its) (hs : s.length ≤ 4000) (hi : i ≤ s.length) (hn : nmQ s i ≠ []) :
    ACalls Tryd.prog W 114 [.bref b 0] (fQ b s i its) (Gives (fun _ : Unit => .str (nmQ s i)) (fun _ => fQ b s (i + (nmQ s i).length) its) (fun _ => True)) := by
  have hat := tw_at ltr (s.drop i)
  have hsl := tw_slice ltr s i
  have hlen := nmQ_len s i hi
  have hdl : (s.drop i).length = s.length - i := List.length_drop
  change ∀ j, j ≤ (nmQ s i).length → (j < (nmQ s i).length → _) ∧ (j = (nmQ s i).length → _) at hat
  change (s.take (i + (nmQ s i).length)).drop i = nmQ s i at hsl
  have hL : 1 ≤ (nmQ s i).length := List.length_pos_iff.2 hn
  generalize nmQ s i = nm at *
  unfold fQ
  refine acalls_of_vc (drawOk W) Tryd.func114 rfl (by decide) (by decide) rfl ?_
  (refine g0_ ?_; repeat ((first | refine n1_ fun b_ => ?_ | refine n2_ fun b_ => ?_ | refine Nat1.mk fun q_ hq_ => ?_ | refine em_ fun x_ hx_ => ?_ | refine Elem1.mk fun e_ he_ => ?_); refine g0_ ?_))
  refine' loopI (α := Nat) (fun j => []) [(0, _), (3, _)] (fun j => [⟨b, .row 3 [.agg [.str s, .int .i64 ((i + j : Nat) : Int), .sl 2 (its.map itV)]] 0⟩]) (fun j => j ≤ nm.length) (fun j => nm.length - j) 0 ?_ ?_
  · exact Nat.zero_le _
  rintro j hj
  obtain ⟨h1, h2⟩ := hat j hj
  by_cases hjl : j = nm.length
  · rcases h2 hjl with h3 | ⟨c, hc, hl⟩
    · clear h1 h2 hat
      have hje : i + j = s.length := by omega
      subst hjl
      (refine g0_ ?_; repeat ((first | refine n1_ fun b_ => ?_ | refine n2_ fun b_ => ?_ | refine Nat1.mk fun q_ hq_ => ?_ | refine em_ fun x_ hx_ => ?_ | refine Elem1.mk fun e_ he_ => ?_); refine g0_ ?_))
      refine head_ ?_; (refine g0_ ?_; repeat ((first | refine n1_ fun b_ => ?_ | refine n2_ fun b_ => ?_ | refine Nat1.mk fun q_ hq_ => ?_ | refine em_ fun x_ hx_ => ?_ | refine Elem1.mk fun e_ he_ => ?_); refine g0_ ?_))
      (refine g1_ ?_; repeat ((first | refine n1_ fun b_ => ?_ | refine n2_ fun b_ => ?_ | refine Nat1.mk fun q_ hq_ => ?_ | refine em_ fun x_ hx_ => ?_ | refine Elem1.mk fun e_ he_ => ?_); refine g1_ ?_))
      refine head_ ?_; (refine g0_ ?_; repeat ((first | refine n1_ fun b_ => ?_ | refine n2_ fun b_ => ?_ | refine Nat1.mk fun q_ hq_ => ?_ | refine em_ fun x_ hx_ => ?_ | refine Elem1.mk fun e_ he_ => ?_); refine g0_ ?_))
      (refine g0_ ?_; repeat ((first | refine n1_ fun b_ => ?_ | refine n2_ fun b_ => ?_ | refine Nat1.mk fun q_ hq_ => ?_ | refine em_ fun x_ hx_ => ?_ | refine Elem1.mk fun e_ he_ => ?_); refine g0_ ?_))
      exact ⟨(), trivial, by rw [hsl], by (first | exact ⟨_, .refl _⟩ | exact wkMem.rfl' | exact ⟨_, .swap _ _ _⟩ | (repeat (first | exact wkMem.nil _ | exact wkMem.rfl' | exact wk_snoc _ _ _ | exact wk_fam (by assumption) _ _ _ | exact wk_famN (by assumption) _ _ _ | (apply wkMem.cons; (case' hl => (repeat (first | exact .here _ _ _ | apply Look.there)))) | apply wkMem.skip)))⟩
    · clear h1 h2 hat
      rw [List.getElem?_drop] at hc
      have hlt := lt_of_at hc
      have hlc := letQ_ok W c
      rw [hl] at hlc
      subst hjl
      (refine g0_ ?_; repeat ((first | refine n1_ fun b_ => ?_ | refine n2_ fun b_ => ?_ | refine Nat1.mk fun q_ hq_ => ?_ | refine em_ fun x_ hx_ => ?_ | refine Elem1.mk fun e_ he_ => ?_); refine g0_ ?_))
      refine head_ ?_; (refine g0_ ?_; repeat ((first | refine n1_ fun b_ => ?_ | refine n2_ fun b_ => ?_ | refine Nat1.mk fun q_ hq_ => ?_ | refine em_ fun x_ hx_ => ?_ | refine Elem1.mk fun e_ he_ => ?_); refine g0_ ?_))
      (refine g1_ ?_; repeat ((first | refine n1_ fun b_ => ?_ | refine n2_ fun b_ => ?_ | refine Nat1.mk fun q_ hq_ => ?_ | refine em_ fun x_ hx_ => ?_ | refine Elem1.mk fun e_ he_ => ?_); refine g1_ ?_))
      rw [hc] at he_
      obtain rfl := Option.some.inj he_
      refine ⟨_, (hlc).quiet, ?_⟩; (refine g0_ ?_; repeat ((first | refine n1_ fun b_ => ?_ | refine n2_ fun b_ => ?_ | refine Nat1.mk fun q_ hq_ => ?_ | refine em_ fun x_ hx_ => ?_ | refine Elem1.mk fun e_ he_ => ?_); refine g0_ ?_))
      (refine g1_ ?_; repeat ((first | refine n1_ fun b_ => ?_ | refine n2_ fun b_ => ?_ | refine Nat1.mk fun q_ hq_ => ?_ | refine em_ fun x_ hx_ => ?_ | refine Elem1.mk fun e_ he_ => ?_); refine g1_ ?_))
      refine head_ ?_; (refine g0_ ?_; repeat ((first | refine n1_ fun b_ => ?_ | refine n2_ fun b_ => ?_ | refine Nat1.mk fun q_ hq_ => ?_ | refine em_ fun x_ hx_ => ?_ | refine Elem1.mk fun e_ he_ => ?_); refine g0_ ?_))
      (refine g0_ ?_; repeat ((first | refine n1_ fun b_ => ?_ | refine n2_ fun b_ => ?_ | refine Nat1.mk fun q_ hq_ => ?_ | refine em_ fun x_ hx_ => ?_ | refine Elem1.mk fun e_ he_ => ?_); refine g0_ ?_))
      exact ⟨(), trivial, by rw [hsl], by (first | exact ⟨_, .refl _⟩ | exact wkMem.rfl' | exact ⟨_, .swap _ _ _⟩ | (repeat (first | exact wkMem.nil _ | exact wkMem.rfl' | exact wk_snoc _ _ _ | exact wk_fam (by assumption) _ _ _ | exact wk_famN (by assumption) _ _ _ | (apply wkMem.cons; (case' hl => (repeat (first | exact .here _ _ _ | apply Look.there)))) | apply wkMem.skip)))⟩
  · obtain ⟨c, hc, hl⟩ := h1 (by omega)
    clear h1 h2 hat
    rw [List.getElem?_drop] at hc
    have hlt := lt_of_at hc
    have hlc := letQ_ok W c
    rw [hl] at hlc
    (refine g0_ ?_; repeat ((first | refine n1_ fun b_ => ?_ | refine n2_ fun b_ => ?_ | refine Nat1.mk fun q_ hq_ => ?_ | refine em_ fun x_ hx_ => ?_ | refine Elem1.mk fun e_ he_ => ?_); refine g0_ ?_))
    refine head_ ?_; (refine g0_ ?_; repeat ((first | refine n1_ fun b_ => ?_ | refine n2_ fun b_ => ?_ | refine Nat1.mk fun q_ hq_ => ?_ | refine em_ fun x_ hx_ => ?_ | refine Elem1.mk fun e_ he_ => ?_); refine g0_ ?_))
    (refine g1_ ?_; repeat ((first | refine n1_ fun b_ => ?_ | refine n2_ fun b_ => ?_ | refine Nat1.mk fun q_ hq_ => ?_ | refine em_ fun x_ hx_ => ?_ | refine Elem1.mk fun e_ he_ => ?_); refine g1_ ?_))
    rw [hc] at he_
    obtain rfl := Option.some.inj he_
    refine ⟨_, (hlc).quiet, ?_⟩; (refine g0_ ?_; repeat ((first | refine n1_ fun b_ => ?_ | refine n2_ fun b_ => ?_ | refine Nat1.mk fun q_ hq_ => ?_ | refine em_ fun x_ hx_ => ?_ | refine Elem1.mk fun e_ he_ => ?_); refine g0_ ?_))
    (refine g1_ ?_; repeat ((first | refine n1_ fun b_ => ?_ | refine n2_ fun b_ => ?_ | refine Nat1.mk fun q_ hq_ => ?_ | refine em_ fun x_ hx_ => ?_ | refine Elem1.mk fun e_ he_ => ?_); refine g1_ ?_))
    refine nx_ (j + 1) ?_ ?_
    · show j + 1 ≤ nm.length
      omega
    · ((try dsimp only); (try simp only [List.length_drop, List.length_take, List.length_append, List.length_cons, List.length_nil, List.length_map] at *); omega)
theorem expX_ok (b : Nat) (s : List UInt8) (i : Nat) (its : Its) (hs : s.length ≤ 4000) (c : UInt8) (h : s[i]? = some c) (c' : Nat) (hc : c.toNat = c') : ACalls Tryd.prog W 115 [.bref b 0, .int .u8 c'] (fQ b s i its) (Gives (fun _ : Unit => .tup []) (fun _ => fQ b s (i + 1) its) (fun _ => True)) := by
  have hi : i < s.length := lt_of_at h
  subst hc
  unfold fQ
  refine acalls_of_vc (drawOk W) Tryd.func115 rfl (by decide) (by decide) rfl ?_
  (refine g0_ ?_; repeat ((first | refine n1_ fun b_ => ?_ | refine n2_ fun b_ => ?_ | refine Nat1.mk fun q_ hq_ => ?_ | refine em_ fun x_ hx_ => ?_ | refine Elem1.mk fun e_ he_ => ?_); refine g0_ ?_))
  refine head_ ?_; (refine g0_ ?_; repeat ((first | refine n1_ fun b_ => ?_ | refine n2_ fun b_ => ?_ | refine Nat1.mk fun q_ hq_ => ?_ | refine em_ fun x_ hx_ => ?_ | refine Elem1.mk fun e_ he_ => ?_); refine g0_ ?_))
  (refine g1_ ?_; repeat ((first | refine n1_ fun b_ => ?_ | refine n2_ fun b_ => ?_ | refine Nat1.mk fun q_ hq_ => ?_ | refine em_ fun x_ hx_ => ?_ | refine Elem1.mk fun e_ he_ => ?_); refine g1_ ?_))
  rw [h] at he_
  obtain rfl := Option.some.inj he_
  (refine g1_ ?_; repeat ((first | refine n1_ fun b_ => ?_ | refine n2_ fun b_ => ?_ | refine Nat1.mk fun q_ hq_ => ?_ | refine em_ fun x_ hx_ => ?_ | refine Elem1.mk fun e_ he_ => ?_); refine g1_ ?_))
  exact ⟨(), trivial, rfl, by (first | exact ⟨_, .refl _⟩ | exact wkMem.rfl' | exact ⟨_, .swap _ _ _⟩ | (repeat (first | exact wkMem.nil _ | exact wkMem.rfl' | exact wk_snoc _ _ _ | exact wk_fam (by assumption) _ _ _ | exact wk_famN (by assumption) _ _ _ | (apply wkMem.cons; (case' hl => (repeat (first | exact .here _ _ _ | apply Look.there)))) | apply wkMem.skip)))⟩
theorem nameX_bad (b : Nat) (s : List UInt8) (i : Nat) (its : Its) (hs : s.length ≤ 4000) (hi : i ≤ s.length) (hn : nmQ s i = []) :
    XCalls Tryd.prog W 114 [.bref b 0] (fQ b s i its) (fun _ _ => False) (fun v _ => v = stopF i) := by
  have hat := tw_at ltr (s.drop i)
  have hsl := tw_slice ltr s i
  have hlen := nmQ_len s i hi
  have hdl : (s.drop i).length = s.length - i := List.length_drop
  change ∀ j, j ≤ (nmQ s i).length → (j < (nmQ s i).length → _) ∧ (j = (nmQ s i).length → _) at hat
  change (s.take (i + (nmQ s i).length)).drop i = nmQ s i at hsl
  rw [hn] at *
  unfold fQ
  refine xcalls_of_body Tryd.func114 rfl (by decide) rfl ?_
  skip
  refine WpX.seq (WpX.of_vc (DD_ok (by decide)) (by decide) ?_)
  (refine g0_ ?_; repeat ((first | refine n1_ fun b_ => ?_ | refine n2_ fun b_ => ?_ | refine Nat1.mk fun q_ hq_ => ?_ | refine em_ fun x_ hx_ => ?_ | refine Elem1.mk fun e_ he_ => ?_); refine g0_ ?_))
  refine WpX.seq (WpX.of_vc (DD_ok (by decide)) (by decide) ?_)
  (refine g0_ ?_; repeat ((first | refine n1_ fun b_ => ?_ | refine n2_ fun b_ => ?_ | refine Nat1.mk fun q_ hq_ => ?_ | refine em_ fun x_ hx_ => ?_ | refine Elem1.mk fun e_ he_ => ?_); refine g0_ ?_))
  refine WpX.seq (WpX.of_vc (DD_ok (by decide)) (by decide) ?_)
  (refine g0_ ?_; repeat ((first | refine n1_ fun b_ => ?_ | refine n2_ fun b_ => ?_ | refine Nat1.mk fun q_ hq_ => ?_ | refine em_ fun x_ hx_ => ?_ | refine Elem1.mk fun e_ he_ => ?_); refine g0_ ?_))
  refine' loopI (α := Nat) (fun j => []) [(0, _), (3, _)] (fun j => [⟨b, .row 3 [.agg [.str s, .int .i64 (i : Int), .sl 2 (its.map itV)]] 0⟩]) (fun j => j = 0) (fun j => 0) 0 ?_ ?_
  · rfl
  rintro j rfl
  rcases (hat 0 (Nat.zero_le _)).2 rfl with h3 | ⟨c, hc, hl⟩
  · clear hat
    (refine g0_ ?_; repeat ((first | refine n1_ fun b_ => ?_ | refine n2_ fun b_ => ?_ | refine Nat1.mk fun q_ hq_ => ?_ | refine em_ fun x_ hx_ => ?_ | refine Elem1.mk fun e_ he_ => ?_); refine g0_ ?_))
    refine head_ ?_; (refine g0_ ?_; repeat ((first | refine n1_ fun b_ => ?_ | refine n2_ fun b_ => ?_ | refine Nat1.mk fun q_ hq_ => ?_ | refine em_ fun x_ hx_ => ?_ | refine Elem1.mk fun e_ he_ => ?_); refine g0_ ?_))
    (refine g1_ ?_; repeat ((first | refine n1_ fun b_ => ?_ | refine n2_ fun b_ => ?_ | refine Nat1.mk fun q_ hq_ => ?_ | refine em_ fun x_ hx_ => ?_ | refine Elem1.mk fun e_ he_ => ?_); refine g1_ ?_))
    refine WpX.seq (WpX.seq (WpX.of_vc (DD_ok (by decide)) (by decide) ?_))
    (refine g0_ ?_; repeat ((first | refine n1_ fun b_ => ?_ | refine n2_ fun b_ => ?_ | refine Nat1.mk fun q_ hq_ => ?_ | refine em_ fun x_ hx_ => ?_ | refine Elem1.mk fun e_ he_ => ?_); refine g0_ ?_))
    (refine g1_ ?_; repeat ((first | refine n1_ fun b_ => ?_ | refine n2_ fun b_ => ?_ | refine Nat1.mk fun q_ hq_ => ?_ | refine em_ fun x_ hx_ => ?_ | refine Elem1.mk fun e_ he_ => ?_); refine g1_ ?_))
    refine WpX.condT (by first | rfl | (have hd9 : decide ((i : Int) = (i : Int)) = true := decide_eq_true rfl; simp only [ev, upd, hd9]; rfl) | (simp only [ev, upd, hdd]; rfl)) (WpX.panicAt 6 _ rfl rfl (by decide) ?_)
    (refine g0_ ?_; repeat ((first | refine n1_ fun b_ => ?_ | refine n2_ fun b_ => ?_ | refine Nat1.mk fun q_ hq_ => ?_ | refine em_ fun x_ hx_ => ?_ | refine Elem1.mk fun e_ he_ => ?_); refine g0_ ?_))
    exact rfl
  · clear hat
    rw [List.getElem?_drop, Nat.add_zero] at hc
    have hlt := lt_of_at hc
    have hlc := letQ_ok W c
    rw [hl] at hlc
    (refine g0_ ?_; repeat ((first | refine n1_ fun b_ => ?_ | refine n2_ fun b_ => ?_ | refine Nat1.mk fun q_ hq_ => ?_ | refine em_ fun x_ hx_ => ?_ | refine Elem1.mk fun e_ he_ => ?_); refine g0_ ?_))
    refine head_ ?_; (refine g0_ ?_; repeat ((first | refine n1_ fun b_ => ?_ | refine n2_ fun b_ => ?_ | refine Nat1.mk fun q_ hq_ => ?_ | refine em_ fun x_ hx_ => ?_ | refine Elem1.mk fun e_ he_ => ?_); refine g0_ ?_))
    (refine g1_ ?_; repeat ((first | refine n1_ fun b_ => ?_ | refine n2_ fun b_ => ?_ | refine Nat1.mk fun q_ hq_ => ?_ | refine em_ fun x_ hx_ => ?_ | refine Elem1.mk fun e_ he_ => ?_); refine g1_ ?_))
    rw [hc] at he_
    obtain rfl := Option.some.inj he_
    refine ⟨_, (hlc).quiet, ?_⟩; (refine g0_ ?_; repeat ((first | refine n1_ fun b_ => ?_ | refine n2_ fun b_ => ?_ | refine Nat1.mk fun q_ hq_ => ?_ | refine em_ fun x_ hx_ => ?_ | refine Elem1.mk fun e_ he_ => ?_); refine g0_ ?_))
    (refine g1_ ?_; repeat ((first | refine n1_ fun b_ => ?_ | refine n2_ fun b_ => ?_ | refine Nat1.mk fun q_ hq_ => ?_ | refine em_ fun x_ hx_ => ?_ | refine Elem1.mk fun e_ he_ => ?_); refine g1_ ?_))
    refine WpX.seq (WpX.seq (WpX.of_vc (DD_ok (by decide)) (by decide) ?_))
    (refine g0_ ?_; repeat ((first | refine n1_ fun b_ => ?_ | refine n2_ fun b_ => ?_ | refine Nat1.mk fun q_ hq_ => ?_ | refine em_ fun x_ hx_ => ?_ | refine Elem1.mk fun e_ he_ => ?_); refine g0_ ?_))
    (refine g1_ ?_; repeat ((first | refine n1_ fun b_ => ?_ | refine n2_ fun b_ => ?_ | refine Nat1.mk fun q_ hq_ => ?_ | refine em_ fun x_ hx_ => ?_ | refine Elem1.mk fun e_ he_ => ?_); refine g1_ ?_))
    refine WpX.condT (by first | rfl | (have hd9 : decide ((i : Int) = (i : Int)) = true := decide_eq_true rfl; simp only [ev, upd, hd9]; rfl) | (simp only [ev, upd, hdd]; rfl)) (WpX.panicAt 6 _ rfl rfl (by decide) ?_)
    (refine g0_ ?_; repeat ((first | refine n1_ fun b_ => ?_ | refine n2_ fun b_ => ?_ | refine Nat1.mk fun q_ hq_ => ?_ | refine em_ fun x_ hx_ => ?_ | refine Elem1.mk fun e_ he_ => ?_); refine g0_ ?_))
    exact rfl
theorem expX_bad (b : Nat) (s : List UInt8) (i : Nat) (its : Its) (hs : s.length ≤ 4000) (hi : i ≤ s.length) (c : UInt8) (h : s[i]? ≠ some c) (c' : Nat) (hc : c.toNat = c') : XCalls Tryd.prog W 115 [.bref b 0, .int .u8 c'] (fQ b s i its) (fun _ _ => False) (fun v _ => v = stopF i) := by
  subst hc
  unfold fQ
  refine xcalls_of_body Tryd.func115 rfl (by decide) rfl ?_
  skip
  refine WpX.seq (WpX.seq (WpX.of_vc (DD_ok (by decide)) (by decide) ?_))
  by_cases hil : i = s.length
  · have hdd : decide ((i : Int) = (s.length : Int)) = true := decide_eq_true (by omega)
    (refine g0_ ?_; repeat ((first | refine n1_ fun b_ => ?_ | refine n2_ fun b_ => ?_ | refine Nat1.mk fun q_ hq_ => ?_ | refine em_ fun x_ hx_ => ?_ | refine Elem1.mk fun e_ he_ => ?_); refine g0_ ?_))
    refine head_ ?_; (refine g0_ ?_; repeat ((first | refine n1_ fun b_ => ?_ | refine n2_ fun b_ => ?_ | refine Nat1.mk fun q_ hq_ => ?_ | refine em_ fun x_ hx_ => ?_ | refine Elem1.mk fun e_ he_ => ?_); refine g0_ ?_))
    (refine g1_ ?_; repeat ((first | refine n1_ fun b_ => ?_ | refine n2_ fun b_ => ?_ | refine Nat1.mk fun q_ hq_ => ?_ | refine em_ fun x_ hx_ => ?_ | refine Elem1.mk fun e_ he_ => ?_); refine g1_ ?_))
    refine WpX.condT (by first | rfl | (have hd9 : decide ((i : Int) = (i : Int)) = true := decide_eq_true rfl; simp only [ev, upd, hd9]; rfl) | (simp only [ev, upd, hdd]; rfl)) (WpX.panicAt 6 _ rfl rfl (by decide) ?_)
    (refine g0_ ?_; repeat ((first | refine n1_ fun b_ => ?_ | refine n2_ fun b_ => ?_ | refine Nat1.mk fun q_ hq_ => ?_ | refine em_ fun x_ hx_ => ?_ | refine Elem1.mk fun e_ he_ => ?_); refine g0_ ?_))
    exact rfl
  · obtain ⟨d, hd⟩ : ∃ d, s[i]? = some d := ⟨_, List.getElem?_eq_getElem (show i < s.length by omega)⟩
    have hne : d.toNat ≠ c.toNat := fun e => h (by rw [hd, UInt8.toNat_inj.1 e])
    have hdd : decide ((d.toNat : Int) ≠ (c.toNat : Int)) = true := decide_eq_true (by omega)
    (refine g0_ ?_; repeat ((first | refine n1_ fun b_ => ?_ | refine n2_ fun b_ => ?_ | refine Nat1.mk fun q_ hq_ => ?_ | refine em_ fun x_ hx_ => ?_ | refine Elem1.mk fun e_ he_ => ?_); refine g0_ ?_))
    refine head_ ?_; (refine g0_ ?_; repeat ((first | refine n1_ fun b_ => ?_ | refine n2_ fun b_ => ?_ | refine Nat1.mk fun q_ hq_ => ?_ | refine em_ fun x_ hx_ => ?_ | refine Elem1.mk fun e_ he_ => ?_); refine g0_ ?_))
    (refine g1_ ?_; repeat ((first | refine n1_ fun b_ => ?_ | refine n2_ fun b_ => ?_ | refine Nat1.mk fun q_ hq_ => ?_ | refine em_ fun x_ hx_ => ?_ | refine Elem1.mk fun e_ he_ => ?_); refine g1_ ?_))
    rw [hd] at he_
    obtain rfl := Option.some.inj he_
    refine WpX.condT (by first | rfl | (have hd9 : decide ((i : Int) = (i : Int)) = true := decide_eq_true rfl; simp only [ev, upd, hd9]; rfl) | (simp only [ev, upd, hdd]; rfl)) (WpX.panicAt 6 _ rfl rfl (by decide) ?_)
    (refine g0_ ?_; repeat ((first | refine n1_ fun b_ => ?_ | refine n2_ fun b_ => ?_ | refine Nat1.mk fun q_ hq_ => ?_ | refine em_ fun x_ hx_ => ?_ | refine Elem1.mk fun e_ he_ => ?_); refine g0_ ?_))
    exact rfl
end Go.Eng.YtkenlcaifhffoaaDoor
end

/- Formats: what stands up to one of some bytes (b_ x_ q_ e_). -/
section
namespace Go.Eng.YtkenlcaifhffoaaDoor
open Go Go.Eng Go.Proofs Go.RowKit
variable (W : World)
set_option linter.unusedSimpArgs false
set_option maxRecDepth 100000
set_option linter.unusedVariables false
set_option maxHeartbeats 4000000
theorem hp2_eq (s : List UInt8) (p : Nat) (c d : UInt8) : Lib.hasPrefix (s.drop p) [c, d] = decide (s[p]? = some c ∧ s[p + 1]? = some d) := by
  rw [Bool.eq_iff_iff, decide_eq_true_eq]
  have e0 : s[p]? = (s.drop p)[0]? := by rw [List.getElem?_drop, Nat.add_zero]
  have e1 : s[p + 1]? = (s.drop p)[1]? := by rw [List.getElem?_drop]
  rw [e0, e1]
  rcases s.drop p with _ | ⟨a, _ | ⟨a2, l⟩⟩
  · simp [Lib.hasPrefix, List.isPrefixOf]
  · simp [Lib.hasPrefix, List.isPrefixOf]
  · show (c == a && (d == a2 && true)) = true ↔ some a = some c ∧ some a2 = some d
    rw [Bool.and_true, Bool.and_eq_true, beq_iff_eq, beq_iff_eq, Option.some.injEq, Option.some.injEq]
    exact ⟨fun ⟨h1, h2⟩ => ⟨h1.symm, h2.symm⟩, fun ⟨h1, h2⟩ => ⟨h1.symm, h2.symm⟩⟩
theorem hp1_eq (s : List UInt8) (p : Nat) (c : UInt8) : Lib.hasPrefix (s.drop p) [c] = decide (s[p]? = some c) := by
  rw [Bool.eq_iff_iff, decide_eq_true_eq]
  have e0 : s[p]? = (s.drop p)[0]? := by rw [List.getElem?_drop, Nat.add_zero]
  rw [e0]
  rcases s.drop p with _ | ⟨a, l⟩
  · simp [Lib.hasPrefix, List.isPrefixOf]
  · show (c == a && true) = true ↔ some a = some c
    rw [Bool.and_true, beq_iff_eq, Option.some.injEq]
    exact ⟨fun h => h.symm, fun h => h.symm⟩
theorem writeByte1 (b : Nat) (x : UInt8) :
    ACalls Tryd.prog W 91 [.tpt 136 2 b, .int .u8 x.toNat] (bldM1 b) (Gives (fun _ : Nat => .lit .nilIface) (fun c => bldM b c [x]) (fun _ => True)) := by
  refine acalls_of_vc (drawOk W) Tryd.func91 rfl (by decide) (by decide) rfl ?_
  (refine g0_ ?_; repeat ((first | refine n1_ fun b_ => ?_ | refine n2_ fun b_ => ?_ | refine Nat1.mk fun q_ hq_ => ?_ | refine em_ fun x_ hx_ => ?_ | refine Elem1.mk fun e_ he_ => ?_); refine g0_ ?_))
  refine ACalls.lend (copyCheck1 W b) (r := []) (by simp) ?_
  rintro _ -
  (refine g0_ ?_; repeat ((first | refine n1_ fun b_ => ?_ | refine n2_ fun b_ => ?_ | refine Nat1.mk fun q_ hq_ => ?_ | refine em_ fun x_ hx_ => ?_ | refine Elem1.mk fun e_ he_ => ?_); refine g0_ ?_))
  refine .inl ?_
  (refine g0_ ?_; repeat ((first | refine n1_ fun b_ => ?_ | refine n2_ fun b_ => ?_ | refine Nat1.mk fun q_ hq_ => ?_ | refine em_ fun x_ hx_ => ?_ | refine Elem1.mk fun e_ he_ => ?_); refine g0_ ?_))
  refine ⟨b_, trivial, rfl, ?_⟩
  (first | exact ⟨_, .refl _⟩ | exact wkMem.rfl' | exact ⟨_, .swap _ _ _⟩ | (repeat (first | exact wkMem.nil _ | exact wkMem.rfl' | exact wk_snoc _ _ _ | exact wk_fam (by assumption) _ _ _ | exact wk_famN (by assumption) _ _ _ | (apply wkMem.cons; (case' hl => (repeat (first | exact .here _ _ _ | apply Look.there)))) | apply wkMem.skip)))
theorem writeBT_ok (b c : Nat) (z : Bool) (l : List UInt8) (x : UInt8) (hl : l.length ≤ 70368744177664) :
    ACalls Tryd.prog W 91 [.tpt 136 2 b, .int .u8 x.toNat] (bldT b c z l) (Gives (fun _ : Nat => .lit .nilIface) (fun c => bldT b c true (l ++ [x])) (fun _ => True)) := by
  have e : (fun c => bldT b c true (l ++ [x])) = fun c => bldM b c (l ++ [x]) := by funext c; exact bldT_ne b c true (by simp)
  rw [e]
  by_cases h : l = []
  · subst h
    cases z
    · exact writeByte0 W b x
    · exact writeByte1 W b x
  · rw [bldT_ne b c z h]; exact writeByte2 W b c l h x hl
def okQ (b : Nat) (s : List UInt8) (its : Its) (r : Except Nat (List UInt8 × Nat)) (v : PV) (σ : Mem) : Prop := match r with
  | .ok (x, m) => Gives (fun _ : Unit => .str x) (fun _ => fQ b s m its) (fun _ => True) v σ
  | .error _ => False
def badQ (r : Except Nat (List UInt8 × Nat)) (v : PV) (_ : Mem) : Prop := match r with
  | .ok _ => False
  | .error e => v = stopF e
/-- What the reader's functions do at i. -/
def ReadsQ (f : FuncId) (args : List PV) (b : Nat) (s : List UInt8) (its : Its) (i : Nat) (r : Except Nat (List UInt8 × Nat)) : Prop :=
  XCalls Tryd.prog W f args (fQ b s i its) (okQ b s its r) (badQ r)
theorem ReadsQ.ok {f : FuncId} {args : List PV} {b i m : Nat} {s x : List UInt8} {its : Its} (h : ReadsQ W f args b s its i (.ok (x, m))) : ACalls Tryd.prog W f args (fQ b s i its) (Gives (fun _ : Unit => .str x) (fun _ => fQ b s m its) (fun _ => True)) :=
  XCalls.toA h fun _ _ h => h
theorem ReadsQ.bad {f : FuncId} {args : List PV} {b i e : Nat} {s : List UInt8} {its : Its} (h : ReadsQ W f args b s its i (.error e)) : XCalls Tryd.prog W f args (fQ b s i its) (fun _ _ => False) (fun v _ => v = stopF e) :=
  XCalls.mono h (fun _ _ h => h) fun _ _ h => h
/-- Up to one of some bytes. -/
theorem untilX (b : Nat) (s : List UInt8) (its : Its) (hs : s.length ≤ 4000) (ends : List UInt8) (deep : Int) (hd : 0 ≤ deep ∧ deep ≤ 100) (f : Nat → Except Nat (List UInt8 × Nat))
    (hf : ∀ i, i + 2 ≤ s.length → ReadsQ W 90 [.bref b 0, .int .i64 (deep + 1)] b s its i (f i)) (hsm : ∀ i, i + 2 ≤ s.length → SmallQ s (i + 1) i (f i)) (i : Nat) (hi : i ≤ s.length) (res : Except Nat (List UInt8 × Nat)) (hr : untilQ s ends f (s.length + 1) i [] = res) :
    ReadsQ W 57 [.bref b 0, .str ends, .int .i64 deep] b s its i res := by
  unfold ReadsQ
  unfold fQ
  refine xcalls_of_body Tryd.func57 rfl (by decide) rfl ?_
  skip
  refine WpX.seq (WpX.of_vc (DD_ok (by decide)) (by decide) ?_)
  (refine g0_ ?_; repeat ((first | refine n1_ fun b_ => ?_ | refine n2_ fun b_ => ?_ | refine Nat1.mk fun q_ hq_ => ?_ | refine em_ fun x_ hx_ => ?_ | refine Elem1.mk fun e_ he_ => ?_); refine g0_ ?_))
  refine WpX.seq (WpX.of_vc (DD_ok (by decide)) (by decide) ?_)
  (refine g0_ ?_; repeat ((first | refine n1_ fun b_ => ?_ | refine n2_ fun b_ => ?_ | refine Nat1.mk fun q_ hq_ => ?_ | refine em_ fun x_ hx_ => ?_ | refine Elem1.mk fun e_ he_ => ?_); refine g0_ ?_))
  refine WpX.seq (WpX.block (WpX.loop (fun _ : Nat × Nat × Bool × List UInt8 × Nat => [(0, .bref b 0), (1, .str ends), (2, .int .i64 deep), (7, .tpt 136 2 b_)])
    (fun y => ⟨b, .row 3 [.agg [.str s, .int .i64 (y.1 : Int), .sl 2 (its.map itV)]] 0⟩ :: bldT b_ y.2.1 y.2.2.1 y.2.2.2.1)
    (fun y => y.1 ≤ s.length ∧ y.2.2.2.1.length ≤ 4000 * y.1 ∧ untilQ s ends f y.2.2.2.2 y.1 y.2.2.2.1 = res ∧ s.length < y.2.2.2.2 + y.1) (fun y => y.2.2.2.2) (i, 0, false, [], s.length + 1)
    (by (repeat (refine wkEnv.cons (by first | rfl | ((conv => lhs; whnf); rfl) | (simp; done)) ?_)); exact wkEnv.nil) (by (first | exact ⟨_, .refl _⟩ | exact wkMem.rfl' | exact ⟨_, .swap _ _ _⟩ | (repeat (first | exact wkMem.nil _ | exact wkMem.rfl' | exact wk_snoc _ _ _ | exact wk_fam (by assumption) _ _ _ | exact wk_famN (by assumption) _ _ _ | (apply wkMem.cons; (case' hl => (repeat (first | exact .here _ _ _ | apply Look.there)))) | apply wkMem.skip)))) ⟨hi, Nat.zero_le _, hr, by show s.length < s.length + 1 + i; omega⟩ ?_))
  rintro ⟨p, c', z, w, k⟩ ⟨hp, hw, hres, hk⟩
  dsimp only at hp hw hres hk ⊢
  obtain ⟨k, rfl⟩ : ∃ k', k = k' + 1 := ⟨k - 1, by omega⟩
  rw [untilQ] at hres
  cases hc : s[p]? with
  | none =>
    rw [hc] at hres
    dsimp only at hres
    subst hres
    have hpe : p = s.length := by
      have := List.getElem?_eq_none_iff.1 hc
      omega
    refine WpX.of_vc (DD_ok (by decide)) (by decide) ?_
    (refine g0_ ?_; repeat ((first | refine n1_ fun b_ => ?_ | refine n2_ fun b_ => ?_ | refine Nat1.mk fun q_ hq_ => ?_ | refine em_ fun x_ hx_ => ?_ | refine Elem1.mk fun e_ he_ => ?_); refine g0_ ?_))
    refine head_ ?_; (refine g0_ ?_; repeat ((first | refine n1_ fun b_ => ?_ | refine n2_ fun b_ => ?_ | refine Nat1.mk fun q_ hq_ => ?_ | refine em_ fun x_ hx_ => ?_ | refine Elem1.mk fun e_ he_ => ?_); refine g0_ ?_))
    (refine g1_ ?_; repeat ((first | refine n1_ fun b_ => ?_ | refine n2_ fun b_ => ?_ | refine Nat1.mk fun q_ hq_ => ?_ | refine em_ fun x_ hx_ => ?_ | refine Elem1.mk fun e_ he_ => ?_); refine g1_ ?_))
    refine WpX.of_vc (DD_ok (by decide)) (by decide) ?_
    (refine g0_ ?_; repeat ((first | refine n1_ fun b_ => ?_ | refine n2_ fun b_ => ?_ | refine Nat1.mk fun q_ hq_ => ?_ | refine em_ fun x_ hx_ => ?_ | refine Elem1.mk fun e_ he_ => ?_); refine g0_ ?_))
    refine ACalls.lendR (stringT_ok W b_ c' z w (by omega)) (r := [_]) (.refl _) ?_
    rintro _ -
    (refine g0_ ?_; repeat ((first | refine n1_ fun b_ => ?_ | refine n2_ fun b_ => ?_ | refine Nat1.mk fun q_ hq_ => ?_ | refine em_ fun x_ hx_ => ?_ | refine Elem1.mk fun e_ he_ => ?_); refine g0_ ?_))
    exact ⟨(), trivial, rfl, by (first | exact ⟨_, .refl _⟩ | exact wkMem.rfl' | exact ⟨_, .swap _ _ _⟩ | (repeat (first | exact wkMem.nil _ | exact wkMem.rfl' | exact wk_snoc _ _ _ | exact wk_fam (by assumption) _ _ _ | exact wk_famN (by assumption) _ _ _ | (apply wkMem.cons; (case' hl => (repeat (first | exact .here _ _ _ | apply Look.there)))) | apply wkMem.skip)))⟩
  | some c =>
    have hpl := lt_of_at hc
    have hce := contains1F_ok W ends c
    rw [hc] at hres
    dsimp only at hres
    by_cases he : ends.contains c = true
    · rw [if_pos he] at hres
      subst hres
      rw [he] at hce
      refine WpX.of_vc (DD_ok (by decide)) (by decide) ?_
      (refine g0_ ?_; repeat ((first | refine n1_ fun b_ => ?_ | refine n2_ fun b_ => ?_ | refine Nat1.mk fun q_ hq_ => ?_ | refine em_ fun x_ hx_ => ?_ | refine Elem1.mk fun e_ he_ => ?_); refine g0_ ?_))
      refine head_ ?_; (refine g0_ ?_; repeat ((first | refine n1_ fun b_ => ?_ | refine n2_ fun b_ => ?_ | refine Nat1.mk fun q_ hq_ => ?_ | refine em_ fun x_ hx_ => ?_ | refine Elem1.mk fun e_ he_ => ?_); refine g0_ ?_))
      (refine g1_ ?_; repeat ((first | refine n1_ fun b_ => ?_ | refine n2_ fun b_ => ?_ | refine Nat1.mk fun q_ hq_ => ?_ | refine em_ fun x_ hx_ => ?_ | refine Elem1.mk fun e_ he_ => ?_); refine g1_ ?_))
      rw [slice1F hc]
      refine ⟨_, (hce).quiet, ?_⟩; (refine g0_ ?_; repeat ((first | refine n1_ fun b_ => ?_ | refine n2_ fun b_ => ?_ | refine Nat1.mk fun q_ hq_ => ?_ | refine em_ fun x_ hx_ => ?_ | refine Elem1.mk fun e_ he_ => ?_); refine g0_ ?_))
      (refine g1_ ?_; repeat ((first | refine n1_ fun b_ => ?_ | refine n2_ fun b_ => ?_ | refine Nat1.mk fun q_ hq_ => ?_ | refine em_ fun x_ hx_ => ?_ | refine Elem1.mk fun e_ he_ => ?_); refine g1_ ?_))
      refine WpX.of_vc (DD_ok (by decide)) (by decide) ?_
      (refine g0_ ?_; repeat ((first | refine n1_ fun b_ => ?_ | refine n2_ fun b_ => ?_ | refine Nat1.mk fun q_ hq_ => ?_ | refine em_ fun x_ hx_ => ?_ | refine Elem1.mk fun e_ he_ => ?_); refine g0_ ?_))
      refine ACalls.lendR (stringT_ok W b_ c' z w (by omega)) (r := [_]) (.refl _) ?_
      rintro _ -
      (refine g0_ ?_; repeat ((first | refine n1_ fun b_ => ?_ | refine n2_ fun b_ => ?_ | refine Nat1.mk fun q_ hq_ => ?_ | refine em_ fun x_ hx_ => ?_ | refine Elem1.mk fun e_ he_ => ?_); refine g0_ ?_))
      exact ⟨(), trivial, rfl, by (first | exact ⟨_, .refl _⟩ | exact wkMem.rfl' | exact ⟨_, .swap _ _ _⟩ | (repeat (first | exact wkMem.nil _ | exact wkMem.rfl' | exact wk_snoc _ _ _ | exact wk_fam (by assumption) _ _ _ | exact wk_famN (by assumption) _ _ _ | (apply wkMem.cons; (case' hl => (repeat (first | exact .here _ _ _ | apply Look.there)))) | apply wkMem.skip)))⟩
    · rw [if_neg he] at hres
      rw [Bool.not_eq_true] at he
      rw [he] at hce
      have hp1 := hasPrefix_ok W (s.drop p) [35, 123]
      rw [hp2_eq, hc] at hp1
      have hp2 := hasPrefix_ok W (s.drop p) [35, 35]
      rw [hp2_eq, hc] at hp2
      by_cases h1 : c = 35 ∧ s[p + 1]? = some 123
      · rw [if_pos h1] at hres
        have hl2 := lt_of_at h1.2
        rw [decide_eq_true ⟨by rw [h1.1], h1.2⟩] at hp1
        have hft := hf p (by omega)
        have hst := hsm p (by omega)
        cases hfp : f p with
        | error e =>
          rw [hfp] at hres hft
          dsimp only at hres
          subst hres
          have hbx := hft.bad
          unfold fQ at hbx
          refine WpX.seq (WpX.of_vc (DD_ok (by decide)) (by decide) ?_)
          (refine g0_ ?_; repeat ((first | refine n1_ fun b_ => ?_ | refine n2_ fun b_ => ?_ | refine Nat1.mk fun q_ hq_ => ?_ | refine em_ fun x_ hx_ => ?_ | refine Elem1.mk fun e_ he_ => ?_); refine g0_ ?_))
          refine head_ ?_; (refine g0_ ?_; repeat ((first | refine n1_ fun b_ => ?_ | refine n2_ fun b_ => ?_ | refine Nat1.mk fun q_ hq_ => ?_ | refine em_ fun x_ hx_ => ?_ | refine Elem1.mk fun e_ he_ => ?_); refine g0_ ?_))
          (refine g1_ ?_; repeat ((first | refine n1_ fun b_ => ?_ | refine n2_ fun b_ => ?_ | refine Nat1.mk fun q_ hq_ => ?_ | refine em_ fun x_ hx_ => ?_ | refine Elem1.mk fun e_ he_ => ?_); refine g1_ ?_))
          rw [slice1F hc]
          refine ⟨_, (hce).quiet, ?_⟩; (refine g0_ ?_; repeat ((first | refine n1_ fun b_ => ?_ | refine n2_ fun b_ => ?_ | refine Nat1.mk fun q_ hq_ => ?_ | refine em_ fun x_ hx_ => ?_ | refine Elem1.mk fun e_ he_ => ?_); refine g0_ ?_))
          (refine g1_ ?_; repeat ((first | refine n1_ fun b_ => ?_ | refine n2_ fun b_ => ?_ | refine Nat1.mk fun q_ hq_ => ?_ | refine em_ fun x_ hx_ => ?_ | refine Elem1.mk fun e_ he_ => ?_); refine g1_ ?_))
          refine WpX.block ?_
          repeat refine WpX.seq ?_
          refine WpX.of_vc (DD_ok (by decide)) (by decide) ?_
          (refine g0_ ?_; repeat ((first | refine n1_ fun b_ => ?_ | refine n2_ fun b_ => ?_ | refine Nat1.mk fun q_ hq_ => ?_ | refine em_ fun x_ hx_ => ?_ | refine Elem1.mk fun e_ he_ => ?_); refine g0_ ?_))
          refine head_ ?_; (refine g0_ ?_; repeat ((first | refine n1_ fun b_ => ?_ | refine n2_ fun b_ => ?_ | refine Nat1.mk fun q_ hq_ => ?_ | refine em_ fun x_ hx_ => ?_ | refine Elem1.mk fun e_ he_ => ?_); refine g0_ ?_))
          refine ⟨_, (hp1).quiet, ?_⟩; (refine g0_ ?_; repeat ((first | refine n1_ fun b_ => ?_ | refine n2_ fun b_ => ?_ | refine Nat1.mk fun q_ hq_ => ?_ | refine em_ fun x_ hx_ => ?_ | refine Elem1.mk fun e_ he_ => ?_); refine g0_ ?_))
          refine WpX.condT (by rfl) (WpX.seq (WpX.panicAt 3 _ rfl rfl (by decide) ?_))
          (refine g0_ ?_; repeat ((first | refine n1_ fun b_ => ?_ | refine n2_ fun b_ => ?_ | refine Nat1.mk fun q_ hq_ => ?_ | refine em_ fun x_ hx_ => ?_ | refine Elem1.mk fun e_ he_ => ?_); refine g0_ ?_))
          exact (hbx.dies (ρ := bldT b_ c' z w) (fun _ _ h => h) (.refl _)).mono (fun _ _ h => h.elim) fun _ _ h => h.1
        | ok y =>
          obtain ⟨x, m⟩ := y
          rw [hfp] at hres hft hst
          dsimp only at hres
          obtain ⟨g1, g2, g3⟩ := hst
          have hok := hft.ok
          unfold fQ at hok
          refine WpX.of_vc (DD_ok (by decide)) (by decide) ?_
          (refine g0_ ?_; repeat ((first | refine n1_ fun b_ => ?_ | refine n2_ fun b_ => ?_ | refine Nat1.mk fun q_ hq_ => ?_ | refine em_ fun x_ hx_ => ?_ | refine Elem1.mk fun e_ he_ => ?_); refine g0_ ?_))
          refine head_ ?_; (refine g0_ ?_; repeat ((first | refine n1_ fun b_ => ?_ | refine n2_ fun b_ => ?_ | refine Nat1.mk fun q_ hq_ => ?_ | refine em_ fun x_ hx_ => ?_ | refine Elem1.mk fun e_ he_ => ?_); refine g0_ ?_))
          (refine g1_ ?_; repeat ((first | refine n1_ fun b_ => ?_ | refine n2_ fun b_ => ?_ | refine Nat1.mk fun q_ hq_ => ?_ | refine em_ fun x_ hx_ => ?_ | refine Elem1.mk fun e_ he_ => ?_); refine g1_ ?_))
          rw [slice1F hc]
          refine ⟨_, (hce).quiet, ?_⟩; (refine g0_ ?_; repeat ((first | refine n1_ fun b_ => ?_ | refine n2_ fun b_ => ?_ | refine Nat1.mk fun q_ hq_ => ?_ | refine em_ fun x_ hx_ => ?_ | refine Elem1.mk fun e_ he_ => ?_); refine g0_ ?_))
          (refine g1_ ?_; repeat ((first | refine n1_ fun b_ => ?_ | refine n2_ fun b_ => ?_ | refine Nat1.mk fun q_ hq_ => ?_ | refine em_ fun x_ hx_ => ?_ | refine Elem1.mk fun e_ he_ => ?_); refine g1_ ?_))
          refine head_ ?_; (refine g0_ ?_; repeat ((first | refine n1_ fun b_ => ?_ | refine n2_ fun b_ => ?_ | refine Nat1.mk fun q_ hq_ => ?_ | refine em_ fun x_ hx_ => ?_ | refine Elem1.mk fun e_ he_ => ?_); refine g0_ ?_))
          refine ⟨_, (hp1).quiet, ?_⟩; (refine g0_ ?_; repeat ((first | refine n1_ fun b_ => ?_ | refine n2_ fun b_ => ?_ | refine Nat1.mk fun q_ hq_ => ?_ | refine em_ fun x_ hx_ => ?_ | refine Elem1.mk fun e_ he_ => ?_); refine g0_ ?_))
          (refine g1_ ?_; repeat ((first | refine n1_ fun b_ => ?_ | refine n2_ fun b_ => ?_ | refine Nat1.mk fun q_ hq_ => ?_ | refine em_ fun x_ hx_ => ?_ | refine Elem1.mk fun e_ he_ => ?_); refine g1_ ?_))
          refine ACalls.lend hok (r := bldT b_ c' z w) (.refl _) ?_
          rintro _ -
          (refine g0_ ?_; repeat ((first | refine n1_ fun b_ => ?_ | refine n2_ fun b_ => ?_ | refine Nat1.mk fun q_ hq_ => ?_ | refine em_ fun x_ hx_ => ?_ | refine Elem1.mk fun e_ he_ => ?_); refine g0_ ?_))
          refine ACalls.lendR (writeT_ok W b_ c' z w x (by omega) (by omega)) (r := [_]) (.refl _) ?_
          rintro c2 -
          (refine g0_ ?_; repeat ((first | refine n1_ fun b_ => ?_ | refine n2_ fun b_ => ?_ | refine Nat1.mk fun q_ hq_ => ?_ | refine em_ fun x_ hx_ => ?_ | refine Elem1.mk fun e_ he_ => ?_); refine g0_ ?_))
          refine ⟨(m, c2, true, w ++ x, k), ⟨?_, ?_, hres, ?_⟩, Nat.lt_succ_self k, (by (repeat (refine wkEnv.cons (by first | rfl | ((conv => lhs; whnf); rfl) | (simp; done)) ?_)); exact wkEnv.nil), (by (first | exact ⟨_, .refl _⟩ | exact wkMem.rfl' | exact ⟨_, .swap _ _ _⟩ | (repeat (first | exact wkMem.nil _ | exact wkMem.rfl' | exact wk_snoc _ _ _ | exact wk_fam (by assumption) _ _ _ | exact wk_famN (by assumption) _ _ _ | (apply wkMem.cons; (case' hl => (repeat (first | exact .here _ _ _ | apply Look.there)))) | apply wkMem.skip))))⟩
          · first | assumption | (show _ ≤ _; omega)
          · simp only [List.length_append, List.length_cons, List.length_nil]; omega
          · show s.length < k + m
            omega
      · rw [if_neg h1] at hres
        rw [decide_eq_false (fun h => h1 ⟨Option.some.inj h.1, h.2⟩)] at hp1
        by_cases h2 : c = 35 ∧ s[p + 1]? = some 35
        · rw [if_pos h2] at hres
          have hl2 := lt_of_at h2.2
          have hat2 := h2.2
          rw [decide_eq_true ⟨by rw [h2.1], h2.2⟩] at hp2
          refine WpX.of_vc (DD_ok (by decide)) (by decide) ?_
          (refine g0_ ?_; repeat ((first | refine n1_ fun b_ => ?_ | refine n2_ fun b_ => ?_ | refine Nat1.mk fun q_ hq_ => ?_ | refine em_ fun x_ hx_ => ?_ | refine Elem1.mk fun e_ he_ => ?_); refine g0_ ?_))
          refine head_ ?_; (refine g0_ ?_; repeat ((first | refine n1_ fun b_ => ?_ | refine n2_ fun b_ => ?_ | refine Nat1.mk fun q_ hq_ => ?_ | refine em_ fun x_ hx_ => ?_ | refine Elem1.mk fun e_ he_ => ?_); refine g0_ ?_))
          (refine g1_ ?_; repeat ((first | refine n1_ fun b_ => ?_ | refine n2_ fun b_ => ?_ | refine Nat1.mk fun q_ hq_ => ?_ | refine em_ fun x_ hx_ => ?_ | refine Elem1.mk fun e_ he_ => ?_); refine g1_ ?_))
          rw [slice1F hc]
          refine ⟨_, (hce).quiet, ?_⟩; (refine g0_ ?_; repeat ((first | refine n1_ fun b_ => ?_ | refine n2_ fun b_ => ?_ | refine Nat1.mk fun q_ hq_ => ?_ | refine em_ fun x_ hx_ => ?_ | refine Elem1.mk fun e_ he_ => ?_); refine g0_ ?_))
          (refine g1_ ?_; repeat ((first | refine n1_ fun b_ => ?_ | refine n2_ fun b_ => ?_ | refine Nat1.mk fun q_ hq_ => ?_ | refine em_ fun x_ hx_ => ?_ | refine Elem1.mk fun e_ he_ => ?_); refine g1_ ?_))
          refine head_ ?_; (refine g0_ ?_; repeat ((first | refine n1_ fun b_ => ?_ | refine n2_ fun b_ => ?_ | refine Nat1.mk fun q_ hq_ => ?_ | refine em_ fun x_ hx_ => ?_ | refine Elem1.mk fun e_ he_ => ?_); refine g0_ ?_))
          refine ⟨_, (hp1).quiet, ?_⟩; (refine g0_ ?_; repeat ((first | refine n1_ fun b_ => ?_ | refine n2_ fun b_ => ?_ | refine Nat1.mk fun q_ hq_ => ?_ | refine em_ fun x_ hx_ => ?_ | refine Elem1.mk fun e_ he_ => ?_); refine g0_ ?_))
          (refine g1_ ?_; repeat ((first | refine n1_ fun b_ => ?_ | refine n2_ fun b_ => ?_ | refine Nat1.mk fun q_ hq_ => ?_ | refine em_ fun x_ hx_ => ?_ | refine Elem1.mk fun e_ he_ => ?_); refine g1_ ?_))
          refine head_ ?_; (refine g0_ ?_; repeat ((first | refine n1_ fun b_ => ?_ | refine n2_ fun b_ => ?_ | refine Nat1.mk fun q_ hq_ => ?_ | refine em_ fun x_ hx_ => ?_ | refine Elem1.mk fun e_ he_ => ?_); refine g0_ ?_))
          refine ⟨_, (hp2).quiet, ?_⟩; (refine g0_ ?_; repeat ((first | refine n1_ fun b_ => ?_ | refine n2_ fun b_ => ?_ | refine Nat1.mk fun q_ hq_ => ?_ | refine em_ fun x_ hx_ => ?_ | refine Elem1.mk fun e_ he_ => ?_); refine g0_ ?_))
          (refine g1_ ?_; repeat ((first | refine n1_ fun b_ => ?_ | refine n2_ fun b_ => ?_ | refine Nat1.mk fun q_ hq_ => ?_ | refine em_ fun x_ hx_ => ?_ | refine Elem1.mk fun e_ he_ => ?_); refine g1_ ?_))
          refine Draws.head ⟨9, by decide +kernel, ?_⟩; (refine g0_ ?_; repeat ((first | refine n1_ fun b_ => ?_ | refine n2_ fun b_ => ?_ | refine Nat1.mk fun q_ hq_ => ?_ | refine em_ fun x_ hx_ => ?_ | refine Elem1.mk fun e_ he_ => ?_); refine g0_ ?_))
          rw [hat2] at he_
          obtain rfl := Option.some.inj he_
          refine ACalls.lendR (writeBT_ok W b_ c' z w 35 (by omega)) (r := [_]) (.refl _) ?_
          rintro c2 -
          (refine g0_ ?_; repeat ((first | refine n1_ fun b_ => ?_ | refine n2_ fun b_ => ?_ | refine Nat1.mk fun q_ hq_ => ?_ | refine em_ fun x_ hx_ => ?_ | refine Elem1.mk fun e_ he_ => ?_); refine g0_ ?_))
          refine ⟨(p + 2, c2, true, w ++ [35], k), ⟨?_, ?_, hres, ?_⟩, Nat.lt_succ_self k, (by (repeat (refine wkEnv.cons (by first | rfl | ((conv => lhs; whnf); rfl) | (simp; done)) ?_)); exact wkEnv.nil), (by (first | exact ⟨_, .refl _⟩ | exact wkMem.rfl' | exact ⟨_, .swap _ _ _⟩ | (repeat (first | exact wkMem.nil _ | exact wkMem.rfl' | exact wk_snoc _ _ _ | exact wk_fam (by assumption) _ _ _ | exact wk_famN (by assumption) _ _ _ | (apply wkMem.cons; (case' hl => (repeat (first | exact .here _ _ _ | apply Look.there)))) | apply wkMem.skip))))⟩
          · first | assumption | (show _ ≤ _; omega)
          · simp only [List.length_append, List.length_cons, List.length_nil]; omega
          · show s.length < k + p + 2
            omega
        · rw [if_neg h2] at hres
          rw [decide_eq_false (fun h => h2 ⟨Option.some.inj h.1, h.2⟩)] at hp2
          refine WpX.of_vc (DD_ok (by decide)) (by decide) ?_
          (refine g0_ ?_; repeat ((first | refine n1_ fun b_ => ?_ | refine n2_ fun b_ => ?_ | refine Nat1.mk fun q_ hq_ => ?_ | refine em_ fun x_ hx_ => ?_ | refine Elem1.mk fun e_ he_ => ?_); refine g0_ ?_))
          refine head_ ?_; (refine g0_ ?_; repeat ((first | refine n1_ fun b_ => ?_ | refine n2_ fun b_ => ?_ | refine Nat1.mk fun q_ hq_ => ?_ | refine em_ fun x_ hx_ => ?_ | refine Elem1.mk fun e_ he_ => ?_); refine g0_ ?_))
          (refine g1_ ?_; repeat ((first | refine n1_ fun b_ => ?_ | refine n2_ fun b_ => ?_ | refine Nat1.mk fun q_ hq_ => ?_ | refine em_ fun x_ hx_ => ?_ | refine Elem1.mk fun e_ he_ => ?_); refine g1_ ?_))
          rw [slice1F hc]
          refine ⟨_, (hce).quiet, ?_⟩; (refine g0_ ?_; repeat ((first | refine n1_ fun b_ => ?_ | refine n2_ fun b_ => ?_ | refine Nat1.mk fun q_ hq_ => ?_ | refine em_ fun x_ hx_ => ?_ | refine Elem1.mk fun e_ he_ => ?_); refine g0_ ?_))
          (refine g1_ ?_; repeat ((first | refine n1_ fun b_ => ?_ | refine n2_ fun b_ => ?_ | refine Nat1.mk fun q_ hq_ => ?_ | refine em_ fun x_ hx_ => ?_ | refine Elem1.mk fun e_ he_ => ?_); refine g1_ ?_))
          refine head_ ?_; (refine g0_ ?_; repeat ((first | refine n1_ fun b_ => ?_ | refine n2_ fun b_ => ?_ | refine Nat1.mk fun q_ hq_ => ?_ | refine em_ fun x_ hx_ => ?_ | refine Elem1.mk fun e_ he_ => ?_); refine g0_ ?_))
          refine ⟨_, (hp1).quiet, ?_⟩; (refine g0_ ?_; repeat ((first | refine n1_ fun b_ => ?_ | refine n2_ fun b_ => ?_ | refine Nat1.mk fun q_ hq_ => ?_ | refine em_ fun x_ hx_ => ?_ | refine Elem1.mk fun e_ he_ => ?_); refine g0_ ?_))
          (refine g1_ ?_; repeat ((first | refine n1_ fun b_ => ?_ | refine n2_ fun b_ => ?_ | refine Nat1.mk fun q_ hq_ => ?_ | refine em_ fun x_ hx_ => ?_ | refine Elem1.mk fun e_ he_ => ?_); refine g1_ ?_))
          refine head_ ?_; (refine g0_ ?_; repeat ((first | refine n1_ fun b_ => ?_ | refine n2_ fun b_ => ?_ | refine Nat1.mk fun q_ hq_ => ?_ | refine em_ fun x_ hx_ => ?_ | refine Elem1.mk fun e_ he_ => ?_); refine g0_ ?_))
          refine ⟨_, (hp2).quiet, ?_⟩; (refine g0_ ?_; repeat ((first | refine n1_ fun b_ => ?_ | refine n2_ fun b_ => ?_ | refine Nat1.mk fun q_ hq_ => ?_ | refine em_ fun x_ hx_ => ?_ | refine Elem1.mk fun e_ he_ => ?_); refine g0_ ?_))
          (refine g1_ ?_; repeat ((first | refine n1_ fun b_ => ?_ | refine n2_ fun b_ => ?_ | refine Nat1.mk fun q_ hq_ => ?_ | refine em_ fun x_ hx_ => ?_ | refine Elem1.mk fun e_ he_ => ?_); refine g1_ ?_))
          refine Draws.head ⟨9, by decide +kernel, ?_⟩; (refine g0_ ?_; repeat ((first | refine n1_ fun b_ => ?_ | refine n2_ fun b_ => ?_ | refine Nat1.mk fun q_ hq_ => ?_ | refine em_ fun x_ hx_ => ?_ | refine Elem1.mk fun e_ he_ => ?_); refine g0_ ?_))
          rw [hc] at he_
          obtain rfl := Option.some.inj he_
          refine ACalls.lendR (writeBT_ok W b_ c' z w c (by omega)) (r := [_]) (.refl _) ?_
          rintro c2 -
          (refine g0_ ?_; repeat ((first | refine n1_ fun b_ => ?_ | refine n2_ fun b_ => ?_ | refine Nat1.mk fun q_ hq_ => ?_ | refine em_ fun x_ hx_ => ?_ | refine Elem1.mk fun e_ he_ => ?_); refine g0_ ?_))
          refine ⟨(p + 1, c2, true, w ++ [c], k), ⟨?_, ?_, hres, ?_⟩, Nat.lt_succ_self k, (by (repeat (refine wkEnv.cons (by first | rfl | ((conv => lhs; whnf); rfl) | (simp; done)) ?_)); exact wkEnv.nil), (by (first | exact ⟨_, .refl _⟩ | exact wkMem.rfl' | exact ⟨_, .swap _ _ _⟩ | (repeat (first | exact wkMem.nil _ | exact wkMem.rfl' | exact wk_snoc _ _ _ | exact wk_fam (by assumption) _ _ _ | exact wk_famN (by assumption) _ _ _ | (apply wkMem.cons; (case' hl => (repeat (first | exact .here _ _ _ | apply Look.there)))) | apply wkMem.skip))))⟩
          · first | assumption | (show _ ≤ _; omega)
          · simp only [List.length_append, List.length_cons, List.length_nil]; omega
          · show s.length < k + p + 1
            omega
end Go.Eng.YtkenlcaifhffoaaDoor
end

/- Formats: an item (b_ x_ q_ e_). -/
section
namespace Go.Eng.YtkenlcaifhffoaaDoor
open Go Go.Eng Go.Proofs Go.RowKit
variable (W : World)
set_option linter.unusedSimpArgs false
set_option maxRecDepth 100000
set_option linter.unusedVariables false
set_option maxHeartbeats 4000000
theorem dgt_bd (c : UInt8) : dgt c = true ↔ 48 ≤ c.toNat ∧ c.toNat ≤ 57 := by unfold dgt; rw [decide_eq_true_eq]
/-- The digits ahead, at most three. -/
theorem dg_at (l : List UInt8) : ∀ n j, j ≤ ((l.take n).takeWhile dgt).length →
    (j < ((l.take n).takeWhile dgt).length → ∃ c, l[j]? = some c ∧ ((l.take n).takeWhile dgt)[j]? = some c ∧ 48 ≤ c.toNat ∧ c.toNat ≤ 57) ∧
    (j = ((l.take n).takeWhile dgt).length → j = n ∨ j = l.length ∨ ∃ c, l[j]? = some c ∧ ¬ (48 ≤ c.toNat ∧ c.toNat ≤ 57)) := by
  induction l with
  | nil => intro n j hj; simp at hj ⊢; omega
  | cons c l ih =>
    intro n j hj
    cases n with
    | zero => simp at hj ⊢; omega
    | succ n =>
      rw [List.take_succ_cons] at hj ⊢
      by_cases hc : dgt c = true
      · rw [List.takeWhile_cons_of_pos hc] at hj ⊢
        cases j with
        | zero => exact ⟨fun _ => ⟨c, rfl, rfl, (dgt_bd c).1 hc⟩, fun h => by simp at h⟩
        | succ j =>
          obtain ⟨h1, h2⟩ := ih n j (by simpa using hj)
          refine ⟨fun h => ?_, fun h => ?_⟩
          · obtain ⟨c', a1, a2, a3⟩ := h1 (by simpa using h)
            exact ⟨c', by simpa using a1, by simpa using a2, a3⟩
          · rcases h2 (by simpa using h) with h | h | h
            · exact .inl (by omega)
            · exact .inr (.inl (by simp [h]))
            · exact .inr (.inr (by simpa using h))
      · rw [List.takeWhile_cons_of_neg hc] at hj ⊢
        obtain rfl : j = 0 := by simpa using hj
        exact ⟨fun h => by simp at h, fun _ => .inr (.inr ⟨c, rfl, fun h => hc ((dgt_bd c).2 h)⟩)⟩
theorem dg_slice (s : List UInt8) (i : Nat) : (s.take (i + (dgQ s i).length)).drop i = dgQ s i := by
  rw [List.drop_take, Nat.add_sub_cancel_left]
  have h1 : dgQ s i <+: s.drop i := (List.takeWhile_prefix dgt).trans (List.take_prefix _ _)
  exact (List.prefix_iff_eq_take.1 h1).symm
theorem dg_dig (s : List UInt8) (i : Nat) : ∀ c ∈ dgQ s i, 48 ≤ c.toNat ∧ c.toNat ≤ 57 := by
  intro c hc
  obtain ⟨j, hj, rfl⟩ := List.getElem_of_mem hc
  obtain ⟨c', -, a2, a3⟩ := (dg_at (s.drop i) 3 j (Nat.le_of_lt hj)).1 hj
  have a5 : (dgQ s i)[j]? = some c' := a2
  rw [List.getElem?_eq_getElem hj] at a5
  rw [Option.some.inj a5]
  exact a3
theorem uint_dgQ : ∀ (l : List UInt8) (acc k : Nat), (∀ c ∈ l, 48 ≤ c.toNat ∧ c.toNat ≤ 57) → acc < 10 ^ k → k + l.length ≤ 10 → Lib.parseUint10 acc l = .ok (l.foldl stQ acc) ∧ l.foldl stQ acc < 10 ^ (k + l.length)
  | [], acc, k, _, ha, _ => ⟨rfl, ha⟩
  | c :: l, acc, k, hd, ha, hk => by
    rw [List.length_cons] at hk
    have h10 : (10 : Nat) ^ k ≤ 10 ^ 9 := Nat.pow_le_pow_right (by decide) (by omega)
    have hc := hd c (by simp)
    rw [show (10 : Nat) ^ 9 = 1000000000 from rfl] at h10
    have hn : stQ acc c < 10 ^ (k + 1) := by
      unfold stQ
      rw [Nat.pow_succ]
      omega
    obtain ⟨h1, h2⟩ := uint_dgQ l (stQ acc c) (k + 1) (fun x hx => hd x (List.mem_cons_of_mem _ hx)) hn (by omega)
    refine ⟨?_, by rw [List.length_cons, List.foldl_cons, show k + (l.length + 1) = k + 1 + l.length by omega]; exact h2⟩
    rw [Lib.parseUint10, if_pos hc, if_neg (by omega), if_neg (by omega), List.foldl_cons]
    exact h1
/-- Few digits are a number. -/
theorem cnt_dgQ {l : List UInt8} (hne : l ≠ []) (hl : l.length ≤ 3) (hd : ∀ c ∈ l, 48 ≤ c.toNat ∧ c.toNat ≤ 57) : cntV l = ((l.foldl stQ 0 : Nat) : Int) ∧ isOk (Lib.atoiAll l) = true ∧ l.foldl stQ 0 < 1000 := by
  obtain ⟨h1, h2⟩ := uint_dgQ l 0 0 hd (by decide) (by omega)
  have h4 : (10 : Nat) ^ (0 + l.length) ≤ 10 ^ 3 := Nat.pow_le_pow_right (by decide) (by omega)
  rw [show (10 : Nat) ^ 3 = 1000 from rfl] at h4
  unfold cntV
  cases l with
  | nil => exact absurd rfl hne
  | cons c r =>
    have hc := hd c (by simp)
    rw [Lib.atoiAll_plain c r (by omega) (by omega), Lib.parseMag, if_neg (by simp), h1]
    simp only [Lib.signless]
    rw [if_neg (by omega)]
    exact ⟨rfl, rfl, by omega⟩
/-- Too deep. -/
theorem itemX_deep (b : Nat) (s : List UInt8) (its : Its) (deep : Int) (hd : 8 < deep ∧ deep ≤ 100) (i : Nat) : ReadsQ W 90 [.bref b 0, .int .i64 deep] b s its i (.error i) := by
  have hd1 : decide (deep > 8) = true := decide_eq_true hd.1
  have hd2 : decide (8 < deep) = true := decide_eq_true hd.1
  unfold ReadsQ
  unfold fQ
  refine xcalls_of_body Tryd.func90 rfl (by decide) rfl ?_
  skip
  repeat refine WpX.seq ?_
  refine WpX.of_vc (DD_ok (by decide)) (by decide) ?_
  (refine g0_ ?_; repeat ((first | refine n1_ fun b_ => ?_ | refine n2_ fun b_ => ?_ | refine Nat1.mk fun q_ hq_ => ?_ | refine em_ fun x_ hx_ => ?_ | refine Elem1.mk fun e_ he_ => ?_); refine g0_ ?_))
  repeat refine WpX.seq ?_
  refine WpX.of_vc (DD_ok (by decide)) (by decide) ?_
  (refine g0_ ?_; repeat ((first | refine n1_ fun b_ => ?_ | refine n2_ fun b_ => ?_ | refine Nat1.mk fun q_ hq_ => ?_ | refine em_ fun x_ hx_ => ?_ | refine Elem1.mk fun e_ he_ => ?_); refine g0_ ?_))
  refine WpX.condT (by first | rfl | (simp only [ev, upd, hd1]; rfl) | (simp only [ev, upd, hd2]; rfl)) (WpX.panicAt 6 _ rfl rfl (by decide) ?_)
  (refine g0_ ?_; repeat ((first | refine n1_ fun b_ => ?_ | refine n2_ fun b_ => ?_ | refine Nat1.mk fun q_ hq_ => ?_ | refine em_ fun x_ hx_ => ?_ | refine Elem1.mk fun e_ he_ => ?_); refine g0_ ?_))
  exact rfl
theorem itemX_plain (b : Nat) (s : List UInt8) (its : Its) (hs : s.length ≤ 4000) (hits : its.length ≤ 1000) (deep : Int) (hd : 0 ≤ deep ∧ deep ≤ 8) (i : Nat) (hi : i + 2 ≤ s.length) (h1 : s[i + 2]? ≠ some 63) (h2 : s[i + 2]? ≠ some 61) (res : Except Nat (List UInt8 × Nat)) (hres : plainQ s its (i + 2) = res) :
    ReadsQ W 90 [.bref b 0, .int .i64 deep] b s its i res := by
  have hd1 : decide (deep > 8) = false := decide_eq_false (by omega)
  have hd2 : decide (8 < deep) = false := decide_eq_false (by omega)
  have hp1 := hasPrefix_ok W (s.drop (i + 2)) [63]
  rw [hp1_eq, decide_eq_false h1] at hp1
  have hp2 := hasPrefix_ok W (s.drop (i + 2)) [61]
  rw [hp1_eq, decide_eq_false h2] at hp2
  unfold plainQ at hres
  unfold ReadsQ
  unfold fQ
  refine xcalls_of_body Tryd.func90 rfl (by decide) rfl ?_
  skip
  repeat refine WpX.seq ?_
  refine WpX.of_vc (DD_ok (by decide)) (by decide) ?_
  (refine g0_ ?_; repeat ((first | refine n1_ fun b_ => ?_ | refine n2_ fun b_ => ?_ | refine Nat1.mk fun q_ hq_ => ?_ | refine em_ fun x_ hx_ => ?_ | refine Elem1.mk fun e_ he_ => ?_); refine g0_ ?_))
  repeat refine WpX.seq ?_
  refine WpX.of_vc (DD_ok (by decide)) (by decide) ?_
  (refine g0_ ?_; repeat ((first | refine n1_ fun b_ => ?_ | refine n2_ fun b_ => ?_ | refine Nat1.mk fun q_ hq_ => ?_ | refine em_ fun x_ hx_ => ?_ | refine Elem1.mk fun e_ he_ => ?_); refine g0_ ?_))
  refine WpX.condF (by first | rfl | (simp only [ev, upd, hd1]; rfl) | (simp only [ev, upd, hd2]; rfl)) (WpX.skip ?_)
  repeat refine WpX.seq ?_
  refine WpX.of_vc (DD_ok (by decide)) (by decide) ?_
  (refine g0_ ?_; repeat ((first | refine n1_ fun b_ => ?_ | refine n2_ fun b_ => ?_ | refine Nat1.mk fun q_ hq_ => ?_ | refine em_ fun x_ hx_ => ?_ | refine Elem1.mk fun e_ he_ => ?_); refine g0_ ?_))
  repeat refine WpX.seq ?_
  refine WpX.of_vc (DD_ok (by decide)) (by decide) ?_
  (refine g0_ ?_; repeat ((first | refine n1_ fun b_ => ?_ | refine n2_ fun b_ => ?_ | refine Nat1.mk fun q_ hq_ => ?_ | refine em_ fun x_ hx_ => ?_ | refine Elem1.mk fun e_ he_ => ?_); refine g0_ ?_))
  refine WpX.seq (WpX.block ?_)
  repeat refine WpX.seq ?_
  refine WpX.of_vc (DD_ok (by decide)) (by decide) ?_
  (refine g0_ ?_; repeat ((first | refine n1_ fun b_ => ?_ | refine n2_ fun b_ => ?_ | refine Nat1.mk fun q_ hq_ => ?_ | refine em_ fun x_ hx_ => ?_ | refine Elem1.mk fun e_ he_ => ?_); refine g0_ ?_))
  refine head_ ?_; (refine g0_ ?_; repeat ((first | refine n1_ fun b_ => ?_ | refine n2_ fun b_ => ?_ | refine Nat1.mk fun q_ hq_ => ?_ | refine em_ fun x_ hx_ => ?_ | refine Elem1.mk fun e_ he_ => ?_); refine g0_ ?_))
  refine ⟨_, (hp1).quiet, ?_⟩; (refine g0_ ?_; repeat ((first | refine n1_ fun b_ => ?_ | refine n2_ fun b_ => ?_ | refine Nat1.mk fun q_ hq_ => ?_ | refine em_ fun x_ hx_ => ?_ | refine Elem1.mk fun e_ he_ => ?_); refine g0_ ?_))
  refine WpX.condF (by rfl) ?_
  repeat refine WpX.seq ?_
  refine WpX.of_vc (DD_ok (by decide)) (by decide) ?_
  (refine g0_ ?_; repeat ((first | refine n1_ fun b_ => ?_ | refine n2_ fun b_ => ?_ | refine Nat1.mk fun q_ hq_ => ?_ | refine em_ fun x_ hx_ => ?_ | refine Elem1.mk fun e_ he_ => ?_); refine g0_ ?_))
  refine head_ ?_; (refine g0_ ?_; repeat ((first | refine n1_ fun b_ => ?_ | refine n2_ fun b_ => ?_ | refine Nat1.mk fun q_ hq_ => ?_ | refine em_ fun x_ hx_ => ?_ | refine Elem1.mk fun e_ he_ => ?_); refine g0_ ?_))
  refine ⟨_, (hp2).quiet, ?_⟩; (refine g0_ ?_; repeat ((first | refine n1_ fun b_ => ?_ | refine n2_ fun b_ => ?_ | refine Nat1.mk fun q_ hq_ => ?_ | refine em_ fun x_ hx_ => ?_ | refine Elem1.mk fun e_ he_ => ?_); refine g0_ ?_))
  refine WpX.condF (by rfl) ?_
  cases hn : nameQ s (i + 2) with
  | error e =>
    rw [hn] at hres
    subst hres
    obtain ⟨rfl, hb⟩ := nameQ_bad hn
    have hx := nameX_bad W b s (i + 2) its hs hi hb
    unfold fQ at hx
    repeat refine WpX.seq ?_
    refine WpX.panicAt 2 _ rfl rfl (by decide) ?_
    (refine g0_ ?_; repeat ((first | refine n1_ fun b_ => ?_ | refine n2_ fun b_ => ?_ | refine Nat1.mk fun q_ hq_ => ?_ | refine em_ fun x_ hx_ => ?_ | refine Elem1.mk fun e_ he_ => ?_); refine g0_ ?_))
    exact ((hx).dies (ρ := []) (fun _ _ h => h) (.refl _)).mono (fun _ _ h => h.elim) fun _ _ h => h.1
  | ok y =>
    obtain ⟨n, m1⟩ := y
    rw [hn] at hres
    dsimp only at hres
    obtain ⟨a1, a2, rfl, rfl, a5⟩ := nameQ_ok hi hn
    have hx := nameX_ok W b s (i + 2) its hs hi a5
    have hva := valQ_ok W b s (i + 2 + (nmQ s (i + 2)).length) its hits (nmQ s (i + 2))
    generalize nmQ s (i + 2) = nm at *
    unfold fQ at hx hva
    repeat refine WpX.seq ?_
    refine WpX.of_vc (DD_ok (by decide)) (by decide) ?_
    (refine g0_ ?_; repeat ((first | refine n1_ fun b_ => ?_ | refine n2_ fun b_ => ?_ | refine Nat1.mk fun q_ hq_ => ?_ | refine em_ fun x_ hx_ => ?_ | refine Elem1.mk fun e_ he_ => ?_); refine g0_ ?_))
    refine ACalls.lend (hx) (r := []) (.refl _) ?_
    rintro _ -
    (refine g0_ ?_; repeat ((first | refine n1_ fun b_ => ?_ | refine n2_ fun b_ => ?_ | refine Nat1.mk fun q_ hq_ => ?_ | refine em_ fun x_ hx_ => ?_ | refine Elem1.mk fun e_ he_ => ?_); refine g0_ ?_))
    refine ACalls.lend (hva) (r := []) (.refl _) ?_
    rintro _ -
    (refine g0_ ?_; repeat ((first | refine n1_ fun b_ => ?_ | refine n2_ fun b_ => ?_ | refine Nat1.mk fun q_ hq_ => ?_ | refine em_ fun x_ hx_ => ?_ | refine Elem1.mk fun e_ he_ => ?_); refine g0_ ?_))
    cases h9 : expQ s (i + 2 + nm.length) 125 with
    | error e =>
      rw [h9] at hres
      subst hres
      obtain ⟨hb, rfl⟩ := expQ_bad h9
      have hx := expX_bad W b s _ its hs (by omega) 125 hb 125 rfl
      unfold fQ at hx
      repeat refine WpX.seq ?_
      refine WpX.panicAt 1 _ rfl rfl (by decide) ?_
      (refine g0_ ?_; repeat ((first | refine n1_ fun b_ => ?_ | refine n2_ fun b_ => ?_ | refine Nat1.mk fun q_ hq_ => ?_ | refine em_ fun x_ hx_ => ?_ | refine Elem1.mk fun e_ he_ => ?_); refine g0_ ?_))
      exact ((hx).dies (ρ := []) (fun _ _ h => h) (.refl _)).mono (fun _ _ h => h.elim) fun _ _ h => h.1
    | ok m9 =>
      rw [h9] at hres
      subst hres
      obtain ⟨ha, rfl, hm9⟩ := expQ_ok h9
      have hx := expX_ok W b s _ its hs 125 ha 125 rfl
      unfold fQ at hx
      repeat refine WpX.seq ?_
      refine WpX.of_vc (DD_ok (by decide)) (by decide) ?_
      (refine g0_ ?_; repeat ((first | refine n1_ fun b_ => ?_ | refine n2_ fun b_ => ?_ | refine Nat1.mk fun q_ hq_ => ?_ | refine em_ fun x_ hx_ => ?_ | refine Elem1.mk fun e_ he_ => ?_); refine g0_ ?_))
      refine ACalls.lend (hx) (r := []) (.refl _) ?_
      rintro _ -
      (refine g0_ ?_; repeat ((first | refine n1_ fun b_ => ?_ | refine n2_ fun b_ => ?_ | refine Nat1.mk fun q_ hq_ => ?_ | refine em_ fun x_ hx_ => ?_ | refine Elem1.mk fun e_ he_ => ?_); refine g0_ ?_))
      refine WpX.of_vc (DD_ok (by decide)) (by decide) ?_
      (refine g0_ ?_; repeat ((first | refine n1_ fun b_ => ?_ | refine n2_ fun b_ => ?_ | refine Nat1.mk fun q_ hq_ => ?_ | refine em_ fun x_ hx_ => ?_ | refine Elem1.mk fun e_ he_ => ?_); refine g0_ ?_))
      exact ⟨(), trivial, rfl, by (first | exact ⟨_, .refl _⟩ | exact wkMem.rfl' | exact ⟨_, .swap _ _ _⟩ | (repeat (first | exact wkMem.nil _ | exact wkMem.rfl' | exact wk_snoc _ _ _ | exact wk_fam (by assumption) _ _ _ | exact wk_famN (by assumption) _ _ _ | (apply wkMem.cons; (case' hl => (repeat (first | exact .here _ _ _ | apply Look.there)))) | apply wkMem.skip)))⟩
theorem itemX_ask (b : Nat) (s : List UInt8) (its : Its) (hs : s.length ≤ 4000) (hits : its.length ≤ 1000) (deep : Int) (hd : 0 ≤ deep ∧ deep ≤ 8) (u : List UInt8 → Nat → Except Nat (List UInt8 × Nat))
    (hu : ∀ e i, i ≤ s.length → ReadsQ W 57 [.bref b 0, .str e, .int .i64 deep] b s its i (u e i)) (hsm : ∀ e i, i ≤ s.length → SmallQ s i i (u e i)) (i : Nat) (h1 : s[i + 2]? = some 63) (res : Except Nat (List UInt8 × Nat)) (hres : askQ s its u (i + 3) = res) :
    ReadsQ W 90 [.bref b 0, .int .i64 deep] b s its i res := by
  have hi3 := lt_of_at h1
  have hd1 : decide (deep > 8) = false := decide_eq_false (by omega)
  have hd2 : decide (8 < deep) = false := decide_eq_false (by omega)
  have hp1 := hasPrefix_ok W (s.drop (i + 2)) [63]
  rw [hp1_eq, decide_eq_true h1] at hp1
  unfold askQ at hres
  unfold ReadsQ
  unfold fQ
  refine xcalls_of_body Tryd.func90 rfl (by decide) rfl ?_
  skip
  repeat refine WpX.seq ?_
  refine WpX.of_vc (DD_ok (by decide)) (by decide) ?_
  (refine g0_ ?_; repeat ((first | refine n1_ fun b_ => ?_ | refine n2_ fun b_ => ?_ | refine Nat1.mk fun q_ hq_ => ?_ | refine em_ fun x_ hx_ => ?_ | refine Elem1.mk fun e_ he_ => ?_); refine g0_ ?_))
  repeat refine WpX.seq ?_
  refine WpX.of_vc (DD_ok (by decide)) (by decide) ?_
  (refine g0_ ?_; repeat ((first | refine n1_ fun b_ => ?_ | refine n2_ fun b_ => ?_ | refine Nat1.mk fun q_ hq_ => ?_ | refine em_ fun x_ hx_ => ?_ | refine Elem1.mk fun e_ he_ => ?_); refine g0_ ?_))
  refine WpX.condF (by first | rfl | (simp only [ev, upd, hd1]; rfl) | (simp only [ev, upd, hd2]; rfl)) (WpX.skip ?_)
  repeat refine WpX.seq ?_
  refine WpX.of_vc (DD_ok (by decide)) (by decide) ?_
  (refine g0_ ?_; repeat ((first | refine n1_ fun b_ => ?_ | refine n2_ fun b_ => ?_ | refine Nat1.mk fun q_ hq_ => ?_ | refine em_ fun x_ hx_ => ?_ | refine Elem1.mk fun e_ he_ => ?_); refine g0_ ?_))
  repeat refine WpX.seq ?_
  refine WpX.of_vc (DD_ok (by decide)) (by decide) ?_
  (refine g0_ ?_; repeat ((first | refine n1_ fun b_ => ?_ | refine n2_ fun b_ => ?_ | refine Nat1.mk fun q_ hq_ => ?_ | refine em_ fun x_ hx_ => ?_ | refine Elem1.mk fun e_ he_ => ?_); refine g0_ ?_))
  refine WpX.seq (WpX.block ?_)
  repeat refine WpX.seq ?_
  refine WpX.of_vc (DD_ok (by decide)) (by decide) ?_
  (refine g0_ ?_; repeat ((first | refine n1_ fun b_ => ?_ | refine n2_ fun b_ => ?_ | refine Nat1.mk fun q_ hq_ => ?_ | refine em_ fun x_ hx_ => ?_ | refine Elem1.mk fun e_ he_ => ?_); refine g0_ ?_))
  refine head_ ?_; (refine g0_ ?_; repeat ((first | refine n1_ fun b_ => ?_ | refine n2_ fun b_ => ?_ | refine Nat1.mk fun q_ hq_ => ?_ | refine em_ fun x_ hx_ => ?_ | refine Elem1.mk fun e_ he_ => ?_); refine g0_ ?_))
  refine ⟨_, (hp1).quiet, ?_⟩; (refine g0_ ?_; repeat ((first | refine n1_ fun b_ => ?_ | refine n2_ fun b_ => ?_ | refine Nat1.mk fun q_ hq_ => ?_ | refine em_ fun x_ hx_ => ?_ | refine Elem1.mk fun e_ he_ => ?_); refine g0_ ?_))
  refine WpX.condT (by rfl) ?_
  repeat refine WpX.seq ?_
  refine WpX.of_vc (DD_ok (by decide)) (by decide) ?_
  (refine g0_ ?_; repeat ((first | refine n1_ fun b_ => ?_ | refine n2_ fun b_ => ?_ | refine Nat1.mk fun q_ hq_ => ?_ | refine em_ fun x_ hx_ => ?_ | refine Elem1.mk fun e_ he_ => ?_); refine g0_ ?_))
  cases hn : nameQ s (i + 3) with
  | error e =>
    rw [hn] at hres
    subst hres
    obtain ⟨rfl, hb⟩ := nameQ_bad hn
    have hx := nameX_bad W b s (i + 3) its hs (by omega) hb
    unfold fQ at hx
    repeat refine WpX.seq ?_
    refine WpX.panicAt 2 _ rfl rfl (by decide) ?_
    (refine g0_ ?_; repeat ((first | refine n1_ fun b_ => ?_ | refine n2_ fun b_ => ?_ | refine Nat1.mk fun q_ hq_ => ?_ | refine em_ fun x_ hx_ => ?_ | refine Elem1.mk fun e_ he_ => ?_); refine g0_ ?_))
    exact ((hx).dies (ρ := []) (fun _ _ h => h) (.refl _)).mono (fun _ _ h => h.elim) fun _ _ h => h.1
  | ok y =>
    obtain ⟨n, m1⟩ := y
    rw [hn] at hres
    dsimp only at hres
    obtain ⟨a1, a2, rfl, rfl, a5⟩ := nameQ_ok (by omega) hn
    have hx := nameX_ok W b s (i + 3) its hs (by omega) a5
    have hva := valQ_ok W b s (i + 3 + (nmQ s (i + 3)).length) its hits (nmQ s (i + 3))
    generalize nmQ s (i + 3) = nm at *
    generalize i + 3 + nm.length = m1 at *
    unfold fQ at hx hva
    repeat refine WpX.seq ?_
    refine WpX.of_vc (DD_ok (by decide)) (by decide) ?_
    (refine g0_ ?_; repeat ((first | refine n1_ fun b_ => ?_ | refine n2_ fun b_ => ?_ | refine Nat1.mk fun q_ hq_ => ?_ | refine em_ fun x_ hx_ => ?_ | refine Elem1.mk fun e_ he_ => ?_); refine g0_ ?_))
    refine ACalls.lend (hx) (r := []) (.refl _) ?_
    rintro _ -
    (refine g0_ ?_; repeat ((first | refine n1_ fun b_ => ?_ | refine n2_ fun b_ => ?_ | refine Nat1.mk fun q_ hq_ => ?_ | refine em_ fun x_ hx_ => ?_ | refine Elem1.mk fun e_ he_ => ?_); refine g0_ ?_))
    refine ACalls.lend (hva) (r := []) (.refl _) ?_
    rintro _ -
    (refine g0_ ?_; repeat ((first | refine n1_ fun b_ => ?_ | refine n2_ fun b_ => ?_ | refine Nat1.mk fun q_ hq_ => ?_ | refine em_ fun x_ hx_ => ?_ | refine Elem1.mk fun e_ he_ => ?_); refine g0_ ?_))
    cases h4 : expQ s m1 44 with
    | error e =>
      rw [h4] at hres
      subst hres
      obtain ⟨hb, rfl⟩ := expQ_bad h4
      have hx := expX_bad W b s _ its hs (by omega) 44 hb 44 rfl
      unfold fQ at hx
      repeat refine WpX.seq ?_
      refine WpX.panicAt 1 _ rfl rfl (by decide) ?_
      (refine g0_ ?_; repeat ((first | refine n1_ fun b_ => ?_ | refine n2_ fun b_ => ?_ | refine Nat1.mk fun q_ hq_ => ?_ | refine em_ fun x_ hx_ => ?_ | refine Elem1.mk fun e_ he_ => ?_); refine g0_ ?_))
      exact ((hx).dies (ρ := []) (fun _ _ h => h) (.refl _)).mono (fun _ _ h => h.elim) fun _ _ h => h.1
    | ok m2 =>
      rw [h4] at hres
      dsimp only at hres
      obtain ⟨ha, e2, hm2⟩ := expQ_ok h4
      have hx := expX_ok W b s m1 its hs 44 ha 44 rfl
      rw [← e2] at hx
      unfold fQ at hx
      repeat refine WpX.seq ?_
      refine WpX.of_vc (DD_ok (by decide)) (by decide) ?_
      (refine g0_ ?_; repeat ((first | refine n1_ fun b_ => ?_ | refine n2_ fun b_ => ?_ | refine Nat1.mk fun q_ hq_ => ?_ | refine em_ fun x_ hx_ => ?_ | refine Elem1.mk fun e_ he_ => ?_); refine g0_ ?_))
      refine ACalls.lend (hx) (r := []) (.refl _) ?_
      rintro _ -
      (refine g0_ ?_; repeat ((first | refine n1_ fun b_ => ?_ | refine n2_ fun b_ => ?_ | refine Nat1.mk fun q_ hq_ => ?_ | refine em_ fun x_ hx_ => ?_ | refine Elem1.mk fun e_ he_ => ?_); refine g0_ ?_))
      have hx := hu [44, 125] m2 (by omega)
      have hsx := hsm [44, 125] m2 (by omega)
      cases h5 : u [44, 125] m2 with
      | error e =>
        rw [h5] at hres hx
        subst hres
        have hx := hx.bad
        unfold fQ at hx
        repeat refine WpX.seq ?_
        refine WpX.panicAt 2 _ rfl rfl (by decide) ?_
        (refine g0_ ?_; repeat ((first | refine n1_ fun b_ => ?_ | refine n2_ fun b_ => ?_ | refine Nat1.mk fun q_ hq_ => ?_ | refine em_ fun x_ hx_ => ?_ | refine Elem1.mk fun e_ he_ => ?_); refine g0_ ?_))
        exact ((hx).dies (ρ := []) (fun _ _ h => h) (.refl _)).mono (fun _ _ h => h.elim) fun _ _ h => h.1
      | ok y =>
        obtain ⟨y, m3⟩ := y
        rw [h5] at hres hx hsx
        dsimp only at hres
        obtain ⟨b1, b2, b3⟩ := hsx
        have hx := hx.ok
        unfold fQ at hx
        repeat refine WpX.seq ?_
        refine WpX.of_vc (DD_ok (by decide)) (by decide) ?_
        (refine g0_ ?_; repeat ((first | refine n1_ fun b_ => ?_ | refine n2_ fun b_ => ?_ | refine Nat1.mk fun q_ hq_ => ?_ | refine em_ fun x_ hx_ => ?_ | refine Elem1.mk fun e_ he_ => ?_); refine g0_ ?_))
        refine ACalls.lend (hx) (r := []) (.refl _) ?_
        rintro _ -
        (refine g0_ ?_; repeat ((first | refine n1_ fun b_ => ?_ | refine n2_ fun b_ => ?_ | refine Nat1.mk fun q_ hq_ => ?_ | refine em_ fun x_ hx_ => ?_ | refine Elem1.mk fun e_ he_ => ?_); refine g0_ ?_))
        cases h6 : expQ s m3 44 with
        | error e =>
          rw [h6] at hres
          subst hres
          obtain ⟨hb, rfl⟩ := expQ_bad h6
          have hx := expX_bad W b s _ its hs (by omega) 44 hb 44 rfl
          unfold fQ at hx
          repeat refine WpX.seq ?_
          refine WpX.panicAt 1 _ rfl rfl (by decide) ?_
          (refine g0_ ?_; repeat ((first | refine n1_ fun b_ => ?_ | refine n2_ fun b_ => ?_ | refine Nat1.mk fun q_ hq_ => ?_ | refine em_ fun x_ hx_ => ?_ | refine Elem1.mk fun e_ he_ => ?_); refine g0_ ?_))
          exact ((hx).dies (ρ := []) (fun _ _ h => h) (.refl _)).mono (fun _ _ h => h.elim) fun _ _ h => h.1
        | ok m4 =>
          rw [h6] at hres
          dsimp only at hres
          obtain ⟨ha, e4, hm4⟩ := expQ_ok h6
          have hx := expX_ok W b s m3 its hs 44 ha 44 rfl
          rw [← e4] at hx
          unfold fQ at hx
          repeat refine WpX.seq ?_
          refine WpX.of_vc (DD_ok (by decide)) (by decide) ?_
          (refine g0_ ?_; repeat ((first | refine n1_ fun b_ => ?_ | refine n2_ fun b_ => ?_ | refine Nat1.mk fun q_ hq_ => ?_ | refine em_ fun x_ hx_ => ?_ | refine Elem1.mk fun e_ he_ => ?_); refine g0_ ?_))
          refine ACalls.lend (hx) (r := []) (.refl _) ?_
          rintro _ -
          (refine g0_ ?_; repeat ((first | refine n1_ fun b_ => ?_ | refine n2_ fun b_ => ?_ | refine Nat1.mk fun q_ hq_ => ?_ | refine em_ fun x_ hx_ => ?_ | refine Elem1.mk fun e_ he_ => ?_); refine g0_ ?_))
          have hx := hu [125] m4 (by omega)
          have hsx := hsm [125] m4 (by omega)
          cases h7 : u [125] m4 with
          | error e =>
            rw [h7] at hres hx
            subst hres
            have hx := hx.bad
            unfold fQ at hx
            repeat refine WpX.seq ?_
            refine WpX.panicAt 2 _ rfl rfl (by decide) ?_
            (refine g0_ ?_; repeat ((first | refine n1_ fun b_ => ?_ | refine n2_ fun b_ => ?_ | refine Nat1.mk fun q_ hq_ => ?_ | refine em_ fun x_ hx_ => ?_ | refine Elem1.mk fun e_ he_ => ?_); refine g0_ ?_))
            exact ((hx).dies (ρ := []) (fun _ _ h => h) (.refl _)).mono (fun _ _ h => h.elim) fun _ _ h => h.1
          | ok z =>
            obtain ⟨z, m5⟩ := z
            rw [h7] at hres hx hsx
            dsimp only at hres
            obtain ⟨c1, c2, c3⟩ := hsx
            have hx := hx.ok
            unfold fQ at hx
            generalize valQ its nm = v at *
            unfold condQ at hres
            by_cases hv0 : v = []
            · rw [if_neg (fun h => h.1 hv0)] at hres
              subst hv0
              repeat refine WpX.seq ?_
              refine WpX.of_vc (DD_ok (by decide)) (by decide) ?_
              (refine g0_ ?_; repeat ((first | refine n1_ fun b_ => ?_ | refine n2_ fun b_ => ?_ | refine Nat1.mk fun q_ hq_ => ?_ | refine em_ fun x_ hx_ => ?_ | refine Elem1.mk fun e_ he_ => ?_); refine g0_ ?_))
              refine ACalls.lend (hx) (r := []) (.refl _) ?_
              rintro _ -
              (refine g0_ ?_; repeat ((first | refine n1_ fun b_ => ?_ | refine n2_ fun b_ => ?_ | refine Nat1.mk fun q_ hq_ => ?_ | refine em_ fun x_ hx_ => ?_ | refine Elem1.mk fun e_ he_ => ?_); refine g0_ ?_))
              repeat refine WpX.seq ?_
              refine WpX.of_vc (DD_ok (by decide)) (by decide) ?_
              (refine g0_ ?_; repeat ((first | refine n1_ fun b_ => ?_ | refine n2_ fun b_ => ?_ | refine Nat1.mk fun q_ hq_ => ?_ | refine em_ fun x_ hx_ => ?_ | refine Elem1.mk fun e_ he_ => ?_); refine g0_ ?_))
              repeat refine WpX.seq ?_
              refine WpX.of_vc (DD_ok (by decide)) (by decide) ?_
              (refine g0_ ?_; repeat ((first | refine n1_ fun b_ => ?_ | refine n2_ fun b_ => ?_ | refine Nat1.mk fun q_ hq_ => ?_ | refine em_ fun x_ hx_ => ?_ | refine Elem1.mk fun e_ he_ => ?_); refine g0_ ?_))
              refine WpX.condF (by rfl) (WpX.skip ?_)
              cases h9 : expQ s m5 125 with
              | error e =>
                rw [h9] at hres
                subst hres
                obtain ⟨hb, rfl⟩ := expQ_bad h9
                have hx := expX_bad W b s _ its hs (by omega) 125 hb 125 rfl
                unfold fQ at hx
                repeat refine WpX.seq ?_
                refine WpX.panicAt 1 _ rfl rfl (by decide) ?_
                (refine g0_ ?_; repeat ((first | refine n1_ fun b_ => ?_ | refine n2_ fun b_ => ?_ | refine Nat1.mk fun q_ hq_ => ?_ | refine em_ fun x_ hx_ => ?_ | refine Elem1.mk fun e_ he_ => ?_); refine g0_ ?_))
                exact ((hx).dies (ρ := []) (fun _ _ h => h) (.refl _)).mono (fun _ _ h => h.elim) fun _ _ h => h.1
              | ok m9 =>
                rw [h9] at hres
                subst hres
                obtain ⟨ha, rfl, hm9⟩ := expQ_ok h9
                have hx := expX_ok W b s _ its hs 125 ha 125 rfl
                unfold fQ at hx
                repeat refine WpX.seq ?_
                refine WpX.of_vc (DD_ok (by decide)) (by decide) ?_
                (refine g0_ ?_; repeat ((first | refine n1_ fun b_ => ?_ | refine n2_ fun b_ => ?_ | refine Nat1.mk fun q_ hq_ => ?_ | refine em_ fun x_ hx_ => ?_ | refine Elem1.mk fun e_ he_ => ?_); refine g0_ ?_))
                refine ACalls.lend (hx) (r := []) (.refl _) ?_
                rintro _ -
                (refine g0_ ?_; repeat ((first | refine n1_ fun b_ => ?_ | refine n2_ fun b_ => ?_ | refine Nat1.mk fun q_ hq_ => ?_ | refine em_ fun x_ hx_ => ?_ | refine Elem1.mk fun e_ he_ => ?_); refine g0_ ?_))
                refine WpX.of_vc (DD_ok (by decide)) (by decide) ?_
                (refine g0_ ?_; repeat ((first | refine n1_ fun b_ => ?_ | refine n2_ fun b_ => ?_ | refine Nat1.mk fun q_ hq_ => ?_ | refine em_ fun x_ hx_ => ?_ | refine Elem1.mk fun e_ he_ => ?_); refine g0_ ?_))
                exact ⟨(), trivial, rfl, by (first | exact ⟨_, .refl _⟩ | exact wkMem.rfl' | exact ⟨_, .swap _ _ _⟩ | (repeat (first | exact wkMem.nil _ | exact wkMem.rfl' | exact wk_snoc _ _ _ | exact wk_fam (by assumption) _ _ _ | exact wk_famN (by assumption) _ _ _ | (apply wkMem.cons; (case' hl => (repeat (first | exact .here _ _ _ | apply Look.there)))) | apply wkMem.skip)))⟩
            · by_cases hv1 : v = [48]
              · rw [if_neg (fun h => h.2 hv1)] at hres
                subst hv1
                repeat refine WpX.seq ?_
                refine WpX.of_vc (DD_ok (by decide)) (by decide) ?_
                (refine g0_ ?_; repeat ((first | refine n1_ fun b_ => ?_ | refine n2_ fun b_ => ?_ | refine Nat1.mk fun q_ hq_ => ?_ | refine em_ fun x_ hx_ => ?_ | refine Elem1.mk fun e_ he_ => ?_); refine g0_ ?_))
                refine ACalls.lend (hx) (r := []) (.refl _) ?_
                rintro _ -
                (refine g0_ ?_; repeat ((first | refine n1_ fun b_ => ?_ | refine n2_ fun b_ => ?_ | refine Nat1.mk fun q_ hq_ => ?_ | refine em_ fun x_ hx_ => ?_ | refine Elem1.mk fun e_ he_ => ?_); refine g0_ ?_))
                repeat refine WpX.seq ?_
                refine WpX.of_vc (DD_ok (by decide)) (by decide) ?_
                (refine g0_ ?_; repeat ((first | refine n1_ fun b_ => ?_ | refine n2_ fun b_ => ?_ | refine Nat1.mk fun q_ hq_ => ?_ | refine em_ fun x_ hx_ => ?_ | refine Elem1.mk fun e_ he_ => ?_); refine g0_ ?_))
                repeat refine WpX.seq ?_
                refine WpX.of_vc (DD_ok (by decide)) (by decide) ?_
                (refine g0_ ?_; repeat ((first | refine n1_ fun b_ => ?_ | refine n2_ fun b_ => ?_ | refine Nat1.mk fun q_ hq_ => ?_ | refine em_ fun x_ hx_ => ?_ | refine Elem1.mk fun e_ he_ => ?_); refine g0_ ?_))
                refine WpX.condF (by rfl) (WpX.skip ?_)
                cases h9 : expQ s m5 125 with
                | error e =>
                  rw [h9] at hres
                  subst hres
                  obtain ⟨hb, rfl⟩ := expQ_bad h9
                  have hx := expX_bad W b s _ its hs (by omega) 125 hb 125 rfl
                  unfold fQ at hx
                  repeat refine WpX.seq ?_
                  refine WpX.panicAt 1 _ rfl rfl (by decide) ?_
                  (refine g0_ ?_; repeat ((first | refine n1_ fun b_ => ?_ | refine n2_ fun b_ => ?_ | refine Nat1.mk fun q_ hq_ => ?_ | refine em_ fun x_ hx_ => ?_ | refine Elem1.mk fun e_ he_ => ?_); refine g0_ ?_))
                  exact ((hx).dies (ρ := []) (fun _ _ h => h) (.refl _)).mono (fun _ _ h => h.elim) fun _ _ h => h.1
                | ok m9 =>
                  rw [h9] at hres
                  subst hres
                  obtain ⟨ha, rfl, hm9⟩ := expQ_ok h9
                  have hx := expX_ok W b s _ its hs 125 ha 125 rfl
                  unfold fQ at hx
                  repeat refine WpX.seq ?_
                  refine WpX.of_vc (DD_ok (by decide)) (by decide) ?_
                  (refine g0_ ?_; repeat ((first | refine n1_ fun b_ => ?_ | refine n2_ fun b_ => ?_ | refine Nat1.mk fun q_ hq_ => ?_ | refine em_ fun x_ hx_ => ?_ | refine Elem1.mk fun e_ he_ => ?_); refine g0_ ?_))
                  refine ACalls.lend (hx) (r := []) (.refl _) ?_
                  rintro _ -
                  (refine g0_ ?_; repeat ((first | refine n1_ fun b_ => ?_ | refine n2_ fun b_ => ?_ | refine Nat1.mk fun q_ hq_ => ?_ | refine em_ fun x_ hx_ => ?_ | refine Elem1.mk fun e_ he_ => ?_); refine g0_ ?_))
                  refine WpX.of_vc (DD_ok (by decide)) (by decide) ?_
                  (refine g0_ ?_; repeat ((first | refine n1_ fun b_ => ?_ | refine n2_ fun b_ => ?_ | refine Nat1.mk fun q_ hq_ => ?_ | refine em_ fun x_ hx_ => ?_ | refine Elem1.mk fun e_ he_ => ?_); refine g0_ ?_))
                  exact ⟨(), trivial, rfl, by (first | exact ⟨_, .refl _⟩ | exact wkMem.rfl' | exact ⟨_, .swap _ _ _⟩ | (repeat (first | exact wkMem.nil _ | exact wkMem.rfl' | exact wk_snoc _ _ _ | exact wk_fam (by assumption) _ _ _ | exact wk_famN (by assumption) _ _ _ | (apply wkMem.cons; (case' hl => (repeat (first | exact .here _ _ _ | apply Look.there)))) | apply wkMem.skip)))⟩
              · rw [if_pos ⟨hv0, hv1⟩] at hres
                repeat refine WpX.seq ?_
                refine WpX.of_vc (DD_ok (by decide)) (by decide) ?_
                (refine g0_ ?_; repeat ((first | refine n1_ fun b_ => ?_ | refine n2_ fun b_ => ?_ | refine Nat1.mk fun q_ hq_ => ?_ | refine em_ fun x_ hx_ => ?_ | refine Elem1.mk fun e_ he_ => ?_); refine g0_ ?_))
                refine ACalls.lend (hx) (r := []) (.refl _) ?_
                rintro _ -
                (refine g0_ ?_; repeat ((first | refine n1_ fun b_ => ?_ | refine n2_ fun b_ => ?_ | refine Nat1.mk fun q_ hq_ => ?_ | refine em_ fun x_ hx_ => ?_ | refine Elem1.mk fun e_ he_ => ?_); refine g0_ ?_))
                repeat refine WpX.seq ?_
                refine WpX.of_vc (DD_ok (by decide)) (by decide) ?_
                (refine g0_ ?_; repeat ((first | refine n1_ fun b_ => ?_ | refine n2_ fun b_ => ?_ | refine Nat1.mk fun q_ hq_ => ?_ | refine em_ fun x_ hx_ => ?_ | refine Elem1.mk fun e_ he_ => ?_); refine g0_ ?_))
                repeat refine WpX.seq ?_
                refine WpX.of_vc (DD_ok (by decide)) (by decide) ?_
                (refine g0_ ?_; repeat ((first | refine n1_ fun b_ => ?_ | refine n2_ fun b_ => ?_ | refine Nat1.mk fun q_ hq_ => ?_ | refine em_ fun x_ hx_ => ?_ | refine Elem1.mk fun e_ he_ => ?_); refine g0_ ?_))
                refine WpX.condT (by (conv => lhs; whnf); congr 1; simp [hv0, hv1]) ?_
                repeat refine WpX.seq ?_
                refine WpX.of_vc (DD_ok (by decide)) (by decide) ?_
                (refine g0_ ?_; repeat ((first | refine n1_ fun b_ => ?_ | refine n2_ fun b_ => ?_ | refine Nat1.mk fun q_ hq_ => ?_ | refine em_ fun x_ hx_ => ?_ | refine Elem1.mk fun e_ he_ => ?_); refine g0_ ?_))
                cases h9 : expQ s m5 125 with
                | error e =>
                  rw [h9] at hres
                  subst hres
                  obtain ⟨hb, rfl⟩ := expQ_bad h9
                  have hx := expX_bad W b s _ its hs (by omega) 125 hb 125 rfl
                  unfold fQ at hx
                  repeat refine WpX.seq ?_
                  refine WpX.panicAt 1 _ rfl rfl (by decide) ?_
                  (refine g0_ ?_; repeat ((first | refine n1_ fun b_ => ?_ | refine n2_ fun b_ => ?_ | refine Nat1.mk fun q_ hq_ => ?_ | refine em_ fun x_ hx_ => ?_ | refine Elem1.mk fun e_ he_ => ?_); refine g0_ ?_))
                  exact ((hx).dies (ρ := []) (fun _ _ h => h) (.refl _)).mono (fun _ _ h => h.elim) fun _ _ h => h.1
                | ok m9 =>
                  rw [h9] at hres
                  subst hres
                  obtain ⟨ha, rfl, hm9⟩ := expQ_ok h9
                  have hx := expX_ok W b s _ its hs 125 ha 125 rfl
                  unfold fQ at hx
                  repeat refine WpX.seq ?_
                  refine WpX.of_vc (DD_ok (by decide)) (by decide) ?_
                  (refine g0_ ?_; repeat ((first | refine n1_ fun b_ => ?_ | refine n2_ fun b_ => ?_ | refine Nat1.mk fun q_ hq_ => ?_ | refine em_ fun x_ hx_ => ?_ | refine Elem1.mk fun e_ he_ => ?_); refine g0_ ?_))
                  refine ACalls.lend (hx) (r := []) (.refl _) ?_
                  rintro _ -
                  (refine g0_ ?_; repeat ((first | refine n1_ fun b_ => ?_ | refine n2_ fun b_ => ?_ | refine Nat1.mk fun q_ hq_ => ?_ | refine em_ fun x_ hx_ => ?_ | refine Elem1.mk fun e_ he_ => ?_); refine g0_ ?_))
                  refine WpX.of_vc (DD_ok (by decide)) (by decide) ?_
                  (refine g0_ ?_; repeat ((first | refine n1_ fun b_ => ?_ | refine n2_ fun b_ => ?_ | refine Nat1.mk fun q_ hq_ => ?_ | refine em_ fun x_ hx_ => ?_ | refine Elem1.mk fun e_ he_ => ?_); refine g0_ ?_))
                  exact ⟨(), trivial, rfl, by (first | exact ⟨_, .refl _⟩ | exact wkMem.rfl' | exact ⟨_, .swap _ _ _⟩ | (repeat (first | exact wkMem.nil _ | exact wkMem.rfl' | exact wk_snoc _ _ _ | exact wk_fam (by assumption) _ _ _ | exact wk_famN (by assumption) _ _ _ | (apply wkMem.cons; (case' hl => (repeat (first | exact .here _ _ _ | apply Look.there)))) | apply wkMem.skip)))⟩
theorem itemX_cut (hT : Tabs W) (hE : ErrJ W) (b : Nat) (s : List UInt8) (its : Its) (hs : s.length ≤ 4000) (hits : its.length ≤ 1000) (hv : ∀ x ∈ its, x.2.length ≤ 4000) (deep : Int) (hd : 0 ≤ deep ∧ deep ≤ 8) (i : Nat) (h1 : s[i + 2]? = some 61) (res : Except Nat (List UInt8 × Nat)) (hres : cutQ s its (i + 3) = res) :
    ReadsQ W 90 [.bref b 0, .int .i64 deep] b s its i res := by
  have hi3 := lt_of_at h1
  have hd1 : decide (deep > 8) = false := decide_eq_false (by omega)
  have hd2 : decide (8 < deep) = false := decide_eq_false (by omega)
  have hp1 := hasPrefix_ok W (s.drop (i + 2)) [63]
  rw [hp1_eq, h1, decide_eq_false (by decide)] at hp1
  have hp2 := hasPrefix_ok W (s.drop (i + 2)) [61]
  rw [hp1_eq, decide_eq_true h1] at hp2
  have hat := fun j => dg_at (s.drop (i + 3)) 3 j
  change ∀ j, j ≤ (dgQ s (i + 3)).length → (j < (dgQ s (i + 3)).length → ∃ c, (s.drop (i + 3))[j]? = some c ∧ (dgQ s (i + 3))[j]? = some c ∧ 48 ≤ c.toNat ∧ c.toNat ≤ 57) ∧ (j = (dgQ s (i + 3)).length → _) at hat
  have hsl := dg_slice s (i + 3)
  have hdd := dg_dig s (i + 3)
  have hdl : (s.drop (i + 3)).length = s.length - (i + 3) := List.length_drop
  obtain ⟨g1, g2⟩ := dgQ_len s (i + 3) (by omega)
  have hato := atoi_ok W hE (dgQ s (i + 3)) (by omega)
  unfold cutQ at hres
  generalize dgQ s (i + 3) = ds at *
  unfold ReadsQ
  unfold fQ
  refine xcalls_of_body Tryd.func90 rfl (by decide) rfl ?_
  skip
  repeat refine WpX.seq ?_
  refine WpX.of_vc (DD_ok (by decide)) (by decide) ?_
  (refine g0_ ?_; repeat ((first | refine n1_ fun b_ => ?_ | refine n2_ fun b_ => ?_ | refine Nat1.mk fun q_ hq_ => ?_ | refine em_ fun x_ hx_ => ?_ | refine Elem1.mk fun e_ he_ => ?_); refine g0_ ?_))
  repeat refine WpX.seq ?_
  refine WpX.of_vc (DD_ok (by decide)) (by decide) ?_
  (refine g0_ ?_; repeat ((first | refine n1_ fun b_ => ?_ | refine n2_ fun b_ => ?_ | refine Nat1.mk fun q_ hq_ => ?_ | refine em_ fun x_ hx_ => ?_ | refine Elem1.mk fun e_ he_ => ?_); refine g0_ ?_))
  refine WpX.condF (by first | rfl | (simp only [ev, upd, hd1]; rfl) | (simp only [ev, upd, hd2]; rfl)) (WpX.skip ?_)
  repeat refine WpX.seq ?_
  refine WpX.of_vc (DD_ok (by decide)) (by decide) ?_
  (refine g0_ ?_; repeat ((first | refine n1_ fun b_ => ?_ | refine n2_ fun b_ => ?_ | refine Nat1.mk fun q_ hq_ => ?_ | refine em_ fun x_ hx_ => ?_ | refine Elem1.mk fun e_ he_ => ?_); refine g0_ ?_))
  repeat refine WpX.seq ?_
  refine WpX.of_vc (DD_ok (by decide)) (by decide) ?_
  (refine g0_ ?_; repeat ((first | refine n1_ fun b_ => ?_ | refine n2_ fun b_ => ?_ | refine Nat1.mk fun q_ hq_ => ?_ | refine em_ fun x_ hx_ => ?_ | refine Elem1.mk fun e_ he_ => ?_); refine g0_ ?_))
  refine WpX.seq (WpX.block ?_)
  repeat refine WpX.seq ?_
  refine WpX.of_vc (DD_ok (by decide)) (by decide) ?_
  (refine g0_ ?_; repeat ((first | refine n1_ fun b_ => ?_ | refine n2_ fun b_ => ?_ | refine Nat1.mk fun q_ hq_ => ?_ | refine em_ fun x_ hx_ => ?_ | refine Elem1.mk fun e_ he_ => ?_); refine g0_ ?_))
  refine head_ ?_; (refine g0_ ?_; repeat ((first | refine n1_ fun b_ => ?_ | refine n2_ fun b_ => ?_ | refine Nat1.mk fun q_ hq_ => ?_ | refine em_ fun x_ hx_ => ?_ | refine Elem1.mk fun e_ he_ => ?_); refine g0_ ?_))
  refine ⟨_, (hp1).quiet, ?_⟩; (refine g0_ ?_; repeat ((first | refine n1_ fun b_ => ?_ | refine n2_ fun b_ => ?_ | refine Nat1.mk fun q_ hq_ => ?_ | refine em_ fun x_ hx_ => ?_ | refine Elem1.mk fun e_ he_ => ?_); refine g0_ ?_))
  refine WpX.condF (by rfl) ?_
  repeat refine WpX.seq ?_
  refine WpX.of_vc (DD_ok (by decide)) (by decide) ?_
  (refine g0_ ?_; repeat ((first | refine n1_ fun b_ => ?_ | refine n2_ fun b_ => ?_ | refine Nat1.mk fun q_ hq_ => ?_ | refine em_ fun x_ hx_ => ?_ | refine Elem1.mk fun e_ he_ => ?_); refine g0_ ?_))
  refine head_ ?_; (refine g0_ ?_; repeat ((first | refine n1_ fun b_ => ?_ | refine n2_ fun b_ => ?_ | refine Nat1.mk fun q_ hq_ => ?_ | refine em_ fun x_ hx_ => ?_ | refine Elem1.mk fun e_ he_ => ?_); refine g0_ ?_))
  refine ⟨_, (hp2).quiet, ?_⟩; (refine g0_ ?_; repeat ((first | refine n1_ fun b_ => ?_ | refine n2_ fun b_ => ?_ | refine Nat1.mk fun q_ hq_ => ?_ | refine em_ fun x_ hx_ => ?_ | refine Elem1.mk fun e_ he_ => ?_); refine g0_ ?_))
  refine WpX.condT (by rfl) ?_
  repeat refine WpX.seq ?_
  refine WpX.of_vc (DD_ok (by decide)) (by decide) ?_
  (refine g0_ ?_; repeat ((first | refine n1_ fun b_ => ?_ | refine n2_ fun b_ => ?_ | refine Nat1.mk fun q_ hq_ => ?_ | refine em_ fun x_ hx_ => ?_ | refine Elem1.mk fun e_ he_ => ?_); refine g0_ ?_))
  repeat refine WpX.seq ?_
  refine WpX.of_vc (DD_ok (by decide)) (by decide) ?_
  (refine g0_ ?_; repeat ((first | refine n1_ fun b_ => ?_ | refine n2_ fun b_ => ?_ | refine Nat1.mk fun q_ hq_ => ?_ | refine em_ fun x_ hx_ => ?_ | refine Elem1.mk fun e_ he_ => ?_); refine g0_ ?_))
  repeat refine WpX.seq ?_
  refine WpX.of_vc (DD_ok (by decide)) (by decide) ?_
  (refine g0_ ?_; repeat ((first | refine n1_ fun b_ => ?_ | refine n2_ fun b_ => ?_ | refine Nat1.mk fun q_ hq_ => ?_ | refine em_ fun x_ hx_ => ?_ | refine Elem1.mk fun e_ he_ => ?_); refine g0_ ?_))
  refine' loopI (α := Nat) (fun j => []) [(0, _), (9, _)] (fun j => [⟨b, .row 3 [.agg [.str s, .int .i64 ((i + 3 + j : Nat) : Int), .sl 2 (its.map itV)]] 0⟩]) (fun j => j ≤ ds.length) (fun j => ds.length - j) 0 ?_ ?_
  · exact Nat.zero_le _
  rintro j hj
  obtain ⟨q1, q2⟩ := hat j hj
  rw [List.getElem?_drop] at q1 q2
  rw [hdl] at q2
  by_cases hjl : j = ds.length
  · have q3 : i + 3 + j = s.length ∨ ∃ c, s[i + 3 + j]? = some c ∧ (j = 3 ∨ ¬ (48 ≤ c.toNat ∧ c.toNat ≤ 57)) := by
      by_cases he : i + 3 + j = s.length
      · exact .inl he
      · obtain ⟨c, hc⟩ : ∃ c, s[i + 3 + j]? = some c := ⟨_, List.getElem?_eq_getElem (by omega)⟩
        refine .inr ⟨c, hc, ?_⟩
        rcases q2 hjl with h | h | ⟨c', h, h'⟩
        · exact .inl h
        · clear hat q1 q2
          omega
        · rw [hc] at h
          obtain rfl := Option.some.inj h
          exact .inr h'
    clear hat q1 q2
    subst hjl
    rcases q3 with q3 | ⟨c, hc, hc3⟩
    · (refine g0_ ?_; repeat ((first | refine n1_ fun b_ => ?_ | refine n2_ fun b_ => ?_ | refine Nat1.mk fun q_ hq_ => ?_ | refine em_ fun x_ hx_ => ?_ | refine Elem1.mk fun e_ he_ => ?_); refine g0_ ?_))
      refine head_ ?_; (refine g0_ ?_; repeat ((first | refine n1_ fun b_ => ?_ | refine n2_ fun b_ => ?_ | refine Nat1.mk fun q_ hq_ => ?_ | refine em_ fun x_ hx_ => ?_ | refine Elem1.mk fun e_ he_ => ?_); refine g0_ ?_))
      (refine g1_ ?_; repeat ((first | refine n1_ fun b_ => ?_ | refine n2_ fun b_ => ?_ | refine Nat1.mk fun q_ hq_ => ?_ | refine em_ fun x_ hx_ => ?_ | refine Elem1.mk fun e_ he_ => ?_); refine g1_ ?_))
      by_cases h0 : ds = []
      · rw [if_pos h0] at hres
        subst hres h0
        rw [show errP (isOk (Lib.atoiAll [])) = .ifc 188 .dead from rfl] at hato
        repeat refine WpX.seq ?_
        refine WpX.of_vc (DD_ok (by decide)) (by decide) ?_
        (refine g0_ ?_; repeat ((first | refine n1_ fun b_ => ?_ | refine n2_ fun b_ => ?_ | refine Nat1.mk fun q_ hq_ => ?_ | refine em_ fun x_ hx_ => ?_ | refine Elem1.mk fun e_ he_ => ?_); refine g0_ ?_))
        refine head_ ?_; (refine g0_ ?_; repeat ((first | refine n1_ fun b_ => ?_ | refine n2_ fun b_ => ?_ | refine Nat1.mk fun q_ hq_ => ?_ | refine em_ fun x_ hx_ => ?_ | refine Elem1.mk fun e_ he_ => ?_); refine g0_ ?_))
        rw [hsl]
        refine ⟨_, (hato).quiet, ?_⟩; (refine g0_ ?_; repeat ((first | refine n1_ fun b_ => ?_ | refine n2_ fun b_ => ?_ | refine Nat1.mk fun q_ hq_ => ?_ | refine em_ fun x_ hx_ => ?_ | refine Elem1.mk fun e_ he_ => ?_); refine g0_ ?_))
        repeat refine WpX.seq ?_
        refine WpX.of_vc (DD_ok (by decide)) (by decide) ?_
        (refine g0_ ?_; repeat ((first | refine n1_ fun b_ => ?_ | refine n2_ fun b_ => ?_ | refine Nat1.mk fun q_ hq_ => ?_ | refine em_ fun x_ hx_ => ?_ | refine Elem1.mk fun e_ he_ => ?_); refine g0_ ?_))
        refine ⟨_, neq_held (by kernel_rfl), ?_⟩
        (refine g0_ ?_; repeat ((first | refine n1_ fun b_ => ?_ | refine n2_ fun b_ => ?_ | refine Nat1.mk fun q_ hq_ => ?_ | refine em_ fun x_ hx_ => ?_ | refine Elem1.mk fun e_ he_ => ?_); refine g0_ ?_))
        refine WpX.condT (by rfl) (WpX.panicAt 3 _ rfl rfl (by decide) ?_)
        (refine g0_ ?_; repeat ((first | refine n1_ fun b_ => ?_ | refine n2_ fun b_ => ?_ | refine Nat1.mk fun q_ hq_ => ?_ | refine em_ fun x_ hx_ => ?_ | refine Elem1.mk fun e_ he_ => ?_); refine g0_ ?_))
        exact rfl
      · rw [if_neg h0] at hres
        obtain ⟨k1, k2, k3⟩ := cnt_dgQ h0 g1 hdd
        rw [k1, k2, show errP true = .lit .nilIface from rfl] at hato
        generalize ds.foldl stQ 0 = N at *
        have hm0 : i + 3 ≤ i + 3 + ds.length := Nat.le_add_right _ _
        generalize i + 3 + ds.length = m0 at *
        repeat refine WpX.seq ?_
        refine WpX.of_vc (DD_ok (by decide)) (by decide) ?_
        (refine g0_ ?_; repeat ((first | refine n1_ fun b_ => ?_ | refine n2_ fun b_ => ?_ | refine Nat1.mk fun q_ hq_ => ?_ | refine em_ fun x_ hx_ => ?_ | refine Elem1.mk fun e_ he_ => ?_); refine g0_ ?_))
        refine head_ ?_; (refine g0_ ?_; repeat ((first | refine n1_ fun b_ => ?_ | refine n2_ fun b_ => ?_ | refine Nat1.mk fun q_ hq_ => ?_ | refine em_ fun x_ hx_ => ?_ | refine Elem1.mk fun e_ he_ => ?_); refine g0_ ?_))
        rw [hsl]
        refine ⟨_, (hato).quiet, ?_⟩; (refine g0_ ?_; repeat ((first | refine n1_ fun b_ => ?_ | refine n2_ fun b_ => ?_ | refine Nat1.mk fun q_ hq_ => ?_ | refine em_ fun x_ hx_ => ?_ | refine Elem1.mk fun e_ he_ => ?_); refine g0_ ?_))
        repeat refine WpX.seq ?_
        refine WpX.of_vc (DD_ok (by decide)) (by decide) ?_
        (refine g0_ ?_; repeat ((first | refine n1_ fun b_ => ?_ | refine n2_ fun b_ => ?_ | refine Nat1.mk fun q_ hq_ => ?_ | refine em_ fun x_ hx_ => ?_ | refine Elem1.mk fun e_ he_ => ?_); refine g0_ ?_))
        refine ⟨_, neq_nil0 (by kernel_rfl), ?_⟩
        (refine g0_ ?_; repeat ((first | refine n1_ fun b_ => ?_ | refine n2_ fun b_ => ?_ | refine Nat1.mk fun q_ hq_ => ?_ | refine em_ fun x_ hx_ => ?_ | refine Elem1.mk fun e_ he_ => ?_); refine g0_ ?_))
        refine WpX.condF (by rfl) (WpX.skip ?_)
        cases h4 : expQ s m0 58 with
        | error e =>
          rw [h4] at hres
          subst hres
          obtain ⟨hb, rfl⟩ := expQ_bad h4
          have hx := expX_bad W b s _ its hs (by omega) 58 hb 58 rfl
          unfold fQ at hx
          repeat refine WpX.seq ?_
          refine WpX.panicAt 1 _ rfl rfl (by decide) ?_
          (refine g0_ ?_; repeat ((first | refine n1_ fun b_ => ?_ | refine n2_ fun b_ => ?_ | refine Nat1.mk fun q_ hq_ => ?_ | refine em_ fun x_ hx_ => ?_ | refine Elem1.mk fun e_ he_ => ?_); refine g0_ ?_))
          exact ((hx).dies (ρ := []) (fun _ _ h => h) (.refl _)).mono (fun _ _ h => h.elim) fun _ _ h => h.1
        | ok m1 =>
          rw [h4] at hres
          dsimp only at hres
          obtain ⟨ha, e2, hm2⟩ := expQ_ok h4
          have hx := expX_ok W b s m0 its hs 58 ha 58 rfl
          rw [← e2] at hx
          unfold fQ at hx
          repeat refine WpX.seq ?_
          refine WpX.of_vc (DD_ok (by decide)) (by decide) ?_
          (refine g0_ ?_; repeat ((first | refine n1_ fun b_ => ?_ | refine n2_ fun b_ => ?_ | refine Nat1.mk fun q_ hq_ => ?_ | refine em_ fun x_ hx_ => ?_ | refine Elem1.mk fun e_ he_ => ?_); refine g0_ ?_))
          refine ACalls.lend (hx) (r := []) (.refl _) ?_
          rintro _ -
          (refine g0_ ?_; repeat ((first | refine n1_ fun b_ => ?_ | refine n2_ fun b_ => ?_ | refine Nat1.mk fun q_ hq_ => ?_ | refine em_ fun x_ hx_ => ?_ | refine Elem1.mk fun e_ he_ => ?_); refine g0_ ?_))
          cases hn : nameQ s m1 with
          | error e =>
            rw [hn] at hres
            subst hres
            obtain ⟨e3, hb⟩ := nameQ_bad hn
            have hx := nameX_bad W b s m1 its hs (by omega) hb
            rw [← e3] at hx
            rw [e3] at hx
            unfold fQ at hx
            subst e3
            repeat refine WpX.seq ?_
            refine WpX.panicAt 2 _ rfl rfl (by decide) ?_
            (refine g0_ ?_; repeat ((first | refine n1_ fun b_ => ?_ | refine n2_ fun b_ => ?_ | refine Nat1.mk fun q_ hq_ => ?_ | refine em_ fun x_ hx_ => ?_ | refine Elem1.mk fun e_ he_ => ?_); refine g0_ ?_))
            exact ((hx).dies (ρ := []) (fun _ _ h => h) (.refl _)).mono (fun _ _ h => h.elim) fun _ _ h => h.1
          | ok y =>
            obtain ⟨n, m2⟩ := y
            rw [hn] at hres
            dsimp only at hres
            obtain ⟨a1, a2, a3, a4, a5⟩ := nameQ_ok (by omega) hn
            have hx := nameX_ok W b s m1 its hs (by omega) a5
            rw [← a4, ← a3] at hx
            have hva := valQ_ok W b s m2 its hits n
            have hvl := valQ_len hv n
            have hcu := cut_ok W hT (valQ its n) N (by omega)
            generalize valQ its n = v at *
            unfold fQ at hx hva
            repeat refine WpX.seq ?_
            refine WpX.of_vc (DD_ok (by decide)) (by decide) ?_
            (refine g0_ ?_; repeat ((first | refine n1_ fun b_ => ?_ | refine n2_ fun b_ => ?_ | refine Nat1.mk fun q_ hq_ => ?_ | refine em_ fun x_ hx_ => ?_ | refine Elem1.mk fun e_ he_ => ?_); refine g0_ ?_))
            refine ACalls.lend (hx) (r := []) (.refl _) ?_
            rintro _ -
            (refine g0_ ?_; repeat ((first | refine n1_ fun b_ => ?_ | refine n2_ fun b_ => ?_ | refine Nat1.mk fun q_ hq_ => ?_ | refine em_ fun x_ hx_ => ?_ | refine Elem1.mk fun e_ he_ => ?_); refine g0_ ?_))
            refine ACalls.lend (hva) (r := []) (.refl _) ?_
            rintro _ -
            (refine g0_ ?_; repeat ((first | refine n1_ fun b_ => ?_ | refine n2_ fun b_ => ?_ | refine Nat1.mk fun q_ hq_ => ?_ | refine em_ fun x_ hx_ => ?_ | refine Elem1.mk fun e_ he_ => ?_); refine g0_ ?_))
            refine (hcu).use ?_; (refine g0_ ?_; repeat ((first | refine n1_ fun b_ => ?_ | refine n2_ fun b_ => ?_ | refine Nat1.mk fun q_ hq_ => ?_ | refine em_ fun x_ hx_ => ?_ | refine Elem1.mk fun e_ he_ => ?_); refine g0_ ?_))
            cases h9 : expQ s m2 125 with
            | error e =>
              rw [h9] at hres
              subst hres
              obtain ⟨hb, rfl⟩ := expQ_bad h9
              have hx := expX_bad W b s _ its hs (by omega) 125 hb 125 rfl
              unfold fQ at hx
              repeat refine WpX.seq ?_
              refine WpX.panicAt 1 _ rfl rfl (by decide) ?_
              (refine g0_ ?_; repeat ((first | refine n1_ fun b_ => ?_ | refine n2_ fun b_ => ?_ | refine Nat1.mk fun q_ hq_ => ?_ | refine em_ fun x_ hx_ => ?_ | refine Elem1.mk fun e_ he_ => ?_); refine g0_ ?_))
              exact ((hx).dies (ρ := []) (fun _ _ h => h) (.refl _)).mono (fun _ _ h => h.elim) fun _ _ h => h.1
            | ok m9 =>
              rw [h9] at hres
              subst hres
              obtain ⟨ha, rfl, hm9⟩ := expQ_ok h9
              have hx := expX_ok W b s _ its hs 125 ha 125 rfl
              unfold fQ at hx
              repeat refine WpX.seq ?_
              refine WpX.of_vc (DD_ok (by decide)) (by decide) ?_
              (refine g0_ ?_; repeat ((first | refine n1_ fun b_ => ?_ | refine n2_ fun b_ => ?_ | refine Nat1.mk fun q_ hq_ => ?_ | refine em_ fun x_ hx_ => ?_ | refine Elem1.mk fun e_ he_ => ?_); refine g0_ ?_))
              refine ACalls.lend (hx) (r := []) (.refl _) ?_
              rintro _ -
              (refine g0_ ?_; repeat ((first | refine n1_ fun b_ => ?_ | refine n2_ fun b_ => ?_ | refine Nat1.mk fun q_ hq_ => ?_ | refine em_ fun x_ hx_ => ?_ | refine Elem1.mk fun e_ he_ => ?_); refine g0_ ?_))
              refine WpX.of_vc (DD_ok (by decide)) (by decide) ?_
              (refine g0_ ?_; repeat ((first | refine n1_ fun b_ => ?_ | refine n2_ fun b_ => ?_ | refine Nat1.mk fun q_ hq_ => ?_ | refine em_ fun x_ hx_ => ?_ | refine Elem1.mk fun e_ he_ => ?_); refine g0_ ?_))
              exact ⟨(), trivial, rfl, by (first | exact ⟨_, .refl _⟩ | exact wkMem.rfl' | exact ⟨_, .swap _ _ _⟩ | (repeat (first | exact wkMem.nil _ | exact wkMem.rfl' | exact wk_snoc _ _ _ | exact wk_fam (by assumption) _ _ _ | exact wk_famN (by assumption) _ _ _ | (apply wkMem.cons; (case' hl => (repeat (first | exact .here _ _ _ | apply Look.there)))) | apply wkMem.skip)))⟩
    · have hlt := lt_of_at hc
      (refine g0_ ?_; repeat ((first | refine n1_ fun b_ => ?_ | refine n2_ fun b_ => ?_ | refine Nat1.mk fun q_ hq_ => ?_ | refine em_ fun x_ hx_ => ?_ | refine Elem1.mk fun e_ he_ => ?_); refine g0_ ?_))
      refine head_ ?_; (refine g0_ ?_; repeat ((first | refine n1_ fun b_ => ?_ | refine n2_ fun b_ => ?_ | refine Nat1.mk fun q_ hq_ => ?_ | refine em_ fun x_ hx_ => ?_ | refine Elem1.mk fun e_ he_ => ?_); refine g0_ ?_))
      (refine g1_ ?_; repeat ((first | refine n1_ fun b_ => ?_ | refine n2_ fun b_ => ?_ | refine Nat1.mk fun q_ hq_ => ?_ | refine em_ fun x_ hx_ => ?_ | refine Elem1.mk fun e_ he_ => ?_); refine g1_ ?_))
      (repeat ((rw [hc] at he_; obtain rfl := Option.some.inj he_; clear he_); (refine g1_ ?_; repeat ((first | refine n1_ fun b_ => ?_ | refine n2_ fun b_ => ?_ | refine Nat1.mk fun q_ hq_ => ?_ | refine em_ fun x_ hx_ => ?_ | refine Elem1.mk fun e_ he_ => ?_); refine g1_ ?_))))
      refine brec ?_; intro c_ hq; (try rw [hq]); cases c_ <;> replace hq := nm_ hq
      · clear hq
        (refine g0_ ?_; repeat ((first | refine n1_ fun b_ => ?_ | refine n2_ fun b_ => ?_ | refine Nat1.mk fun q_ hq_ => ?_ | refine em_ fun x_ hx_ => ?_ | refine Elem1.mk fun e_ he_ => ?_); refine g0_ ?_))
        by_cases h0 : ds = []
        · rw [if_pos h0] at hres
          subst hres h0
          rw [show errP (isOk (Lib.atoiAll [])) = .ifc 188 .dead from rfl] at hato
          repeat refine WpX.seq ?_
          refine WpX.of_vc (DD_ok (by decide)) (by decide) ?_
          (refine g0_ ?_; repeat ((first | refine n1_ fun b_ => ?_ | refine n2_ fun b_ => ?_ | refine Nat1.mk fun q_ hq_ => ?_ | refine em_ fun x_ hx_ => ?_ | refine Elem1.mk fun e_ he_ => ?_); refine g0_ ?_))
          refine head_ ?_; (refine g0_ ?_; repeat ((first | refine n1_ fun b_ => ?_ | refine n2_ fun b_ => ?_ | refine Nat1.mk fun q_ hq_ => ?_ | refine em_ fun x_ hx_ => ?_ | refine Elem1.mk fun e_ he_ => ?_); refine g0_ ?_))
          rw [hsl]
          refine ⟨_, (hato).quiet, ?_⟩; (refine g0_ ?_; repeat ((first | refine n1_ fun b_ => ?_ | refine n2_ fun b_ => ?_ | refine Nat1.mk fun q_ hq_ => ?_ | refine em_ fun x_ hx_ => ?_ | refine Elem1.mk fun e_ he_ => ?_); refine g0_ ?_))
          repeat refine WpX.seq ?_
          refine WpX.of_vc (DD_ok (by decide)) (by decide) ?_
          (refine g0_ ?_; repeat ((first | refine n1_ fun b_ => ?_ | refine n2_ fun b_ => ?_ | refine Nat1.mk fun q_ hq_ => ?_ | refine em_ fun x_ hx_ => ?_ | refine Elem1.mk fun e_ he_ => ?_); refine g0_ ?_))
          refine ⟨_, neq_held (by kernel_rfl), ?_⟩
          (refine g0_ ?_; repeat ((first | refine n1_ fun b_ => ?_ | refine n2_ fun b_ => ?_ | refine Nat1.mk fun q_ hq_ => ?_ | refine em_ fun x_ hx_ => ?_ | refine Elem1.mk fun e_ he_ => ?_); refine g0_ ?_))
          refine WpX.condT (by rfl) (WpX.panicAt 3 _ rfl rfl (by decide) ?_)
          (refine g0_ ?_; repeat ((first | refine n1_ fun b_ => ?_ | refine n2_ fun b_ => ?_ | refine Nat1.mk fun q_ hq_ => ?_ | refine em_ fun x_ hx_ => ?_ | refine Elem1.mk fun e_ he_ => ?_); refine g0_ ?_))
          exact rfl
        · rw [if_neg h0] at hres
          obtain ⟨k1, k2, k3⟩ := cnt_dgQ h0 g1 hdd
          rw [k1, k2, show errP true = .lit .nilIface from rfl] at hato
          generalize ds.foldl stQ 0 = N at *
          have hm0 : i + 3 ≤ i + 3 + ds.length := Nat.le_add_right _ _
          generalize i + 3 + ds.length = m0 at *
          repeat refine WpX.seq ?_
          refine WpX.of_vc (DD_ok (by decide)) (by decide) ?_
          (refine g0_ ?_; repeat ((first | refine n1_ fun b_ => ?_ | refine n2_ fun b_ => ?_ | refine Nat1.mk fun q_ hq_ => ?_ | refine em_ fun x_ hx_ => ?_ | refine Elem1.mk fun e_ he_ => ?_); refine g0_ ?_))
          refine head_ ?_; (refine g0_ ?_; repeat ((first | refine n1_ fun b_ => ?_ | refine n2_ fun b_ => ?_ | refine Nat1.mk fun q_ hq_ => ?_ | refine em_ fun x_ hx_ => ?_ | refine Elem1.mk fun e_ he_ => ?_); refine g0_ ?_))
          rw [hsl]
          refine ⟨_, (hato).quiet, ?_⟩; (refine g0_ ?_; repeat ((first | refine n1_ fun b_ => ?_ | refine n2_ fun b_ => ?_ | refine Nat1.mk fun q_ hq_ => ?_ | refine em_ fun x_ hx_ => ?_ | refine Elem1.mk fun e_ he_ => ?_); refine g0_ ?_))
          repeat refine WpX.seq ?_
          refine WpX.of_vc (DD_ok (by decide)) (by decide) ?_
          (refine g0_ ?_; repeat ((first | refine n1_ fun b_ => ?_ | refine n2_ fun b_ => ?_ | refine Nat1.mk fun q_ hq_ => ?_ | refine em_ fun x_ hx_ => ?_ | refine Elem1.mk fun e_ he_ => ?_); refine g0_ ?_))
          refine ⟨_, neq_nil0 (by kernel_rfl), ?_⟩
          (refine g0_ ?_; repeat ((first | refine n1_ fun b_ => ?_ | refine n2_ fun b_ => ?_ | refine Nat1.mk fun q_ hq_ => ?_ | refine em_ fun x_ hx_ => ?_ | refine Elem1.mk fun e_ he_ => ?_); refine g0_ ?_))
          refine WpX.condF (by rfl) (WpX.skip ?_)
          cases h4 : expQ s m0 58 with
          | error e =>
            rw [h4] at hres
            subst hres
            obtain ⟨hb, rfl⟩ := expQ_bad h4
            have hx := expX_bad W b s _ its hs (by omega) 58 hb 58 rfl
            unfold fQ at hx
            repeat refine WpX.seq ?_
            refine WpX.panicAt 1 _ rfl rfl (by decide) ?_
            (refine g0_ ?_; repeat ((first | refine n1_ fun b_ => ?_ | refine n2_ fun b_ => ?_ | refine Nat1.mk fun q_ hq_ => ?_ | refine em_ fun x_ hx_ => ?_ | refine Elem1.mk fun e_ he_ => ?_); refine g0_ ?_))
            exact ((hx).dies (ρ := []) (fun _ _ h => h) (.refl _)).mono (fun _ _ h => h.elim) fun _ _ h => h.1
          | ok m1 =>
            rw [h4] at hres
            dsimp only at hres
            obtain ⟨ha, e2, hm2⟩ := expQ_ok h4
            have hx := expX_ok W b s m0 its hs 58 ha 58 rfl
            rw [← e2] at hx
            unfold fQ at hx
            repeat refine WpX.seq ?_
            refine WpX.of_vc (DD_ok (by decide)) (by decide) ?_
            (refine g0_ ?_; repeat ((first | refine n1_ fun b_ => ?_ | refine n2_ fun b_ => ?_ | refine Nat1.mk fun q_ hq_ => ?_ | refine em_ fun x_ hx_ => ?_ | refine Elem1.mk fun e_ he_ => ?_); refine g0_ ?_))
            refine ACalls.lend (hx) (r := []) (.refl _) ?_
            rintro _ -
            (refine g0_ ?_; repeat ((first | refine n1_ fun b_ => ?_ | refine n2_ fun b_ => ?_ | refine Nat1.mk fun q_ hq_ => ?_ | refine em_ fun x_ hx_ => ?_ | refine Elem1.mk fun e_ he_ => ?_); refine g0_ ?_))
            cases hn : nameQ s m1 with
            | error e =>
              rw [hn] at hres
              subst hres
              obtain ⟨e3, hb⟩ := nameQ_bad hn
              have hx := nameX_bad W b s m1 its hs (by omega) hb
              rw [← e3] at hx
              rw [e3] at hx
              unfold fQ at hx
              subst e3
              repeat refine WpX.seq ?_
              refine WpX.panicAt 2 _ rfl rfl (by decide) ?_
              (refine g0_ ?_; repeat ((first | refine n1_ fun b_ => ?_ | refine n2_ fun b_ => ?_ | refine Nat1.mk fun q_ hq_ => ?_ | refine em_ fun x_ hx_ => ?_ | refine Elem1.mk fun e_ he_ => ?_); refine g0_ ?_))
              exact ((hx).dies (ρ := []) (fun _ _ h => h) (.refl _)).mono (fun _ _ h => h.elim) fun _ _ h => h.1
            | ok y =>
              obtain ⟨n, m2⟩ := y
              rw [hn] at hres
              dsimp only at hres
              obtain ⟨a1, a2, a3, a4, a5⟩ := nameQ_ok (by omega) hn
              have hx := nameX_ok W b s m1 its hs (by omega) a5
              rw [← a4, ← a3] at hx
              have hva := valQ_ok W b s m2 its hits n
              have hvl := valQ_len hv n
              have hcu := cut_ok W hT (valQ its n) N (by omega)
              generalize valQ its n = v at *
              unfold fQ at hx hva
              repeat refine WpX.seq ?_
              refine WpX.of_vc (DD_ok (by decide)) (by decide) ?_
              (refine g0_ ?_; repeat ((first | refine n1_ fun b_ => ?_ | refine n2_ fun b_ => ?_ | refine Nat1.mk fun q_ hq_ => ?_ | refine em_ fun x_ hx_ => ?_ | refine Elem1.mk fun e_ he_ => ?_); refine g0_ ?_))
              refine ACalls.lend (hx) (r := []) (.refl _) ?_
              rintro _ -
              (refine g0_ ?_; repeat ((first | refine n1_ fun b_ => ?_ | refine n2_ fun b_ => ?_ | refine Nat1.mk fun q_ hq_ => ?_ | refine em_ fun x_ hx_ => ?_ | refine Elem1.mk fun e_ he_ => ?_); refine g0_ ?_))
              refine ACalls.lend (hva) (r := []) (.refl _) ?_
              rintro _ -
              (refine g0_ ?_; repeat ((first | refine n1_ fun b_ => ?_ | refine n2_ fun b_ => ?_ | refine Nat1.mk fun q_ hq_ => ?_ | refine em_ fun x_ hx_ => ?_ | refine Elem1.mk fun e_ he_ => ?_); refine g0_ ?_))
              refine (hcu).use ?_; (refine g0_ ?_; repeat ((first | refine n1_ fun b_ => ?_ | refine n2_ fun b_ => ?_ | refine Nat1.mk fun q_ hq_ => ?_ | refine em_ fun x_ hx_ => ?_ | refine Elem1.mk fun e_ he_ => ?_); refine g0_ ?_))
              cases h9 : expQ s m2 125 with
              | error e =>
                rw [h9] at hres
                subst hres
                obtain ⟨hb, rfl⟩ := expQ_bad h9
                have hx := expX_bad W b s _ its hs (by omega) 125 hb 125 rfl
                unfold fQ at hx
                repeat refine WpX.seq ?_
                refine WpX.panicAt 1 _ rfl rfl (by decide) ?_
                (refine g0_ ?_; repeat ((first | refine n1_ fun b_ => ?_ | refine n2_ fun b_ => ?_ | refine Nat1.mk fun q_ hq_ => ?_ | refine em_ fun x_ hx_ => ?_ | refine Elem1.mk fun e_ he_ => ?_); refine g0_ ?_))
                exact ((hx).dies (ρ := []) (fun _ _ h => h) (.refl _)).mono (fun _ _ h => h.elim) fun _ _ h => h.1
              | ok m9 =>
                rw [h9] at hres
                subst hres
                obtain ⟨ha, rfl, hm9⟩ := expQ_ok h9
                have hx := expX_ok W b s _ its hs 125 ha 125 rfl
                unfold fQ at hx
                repeat refine WpX.seq ?_
                refine WpX.of_vc (DD_ok (by decide)) (by decide) ?_
                (refine g0_ ?_; repeat ((first | refine n1_ fun b_ => ?_ | refine n2_ fun b_ => ?_ | refine Nat1.mk fun q_ hq_ => ?_ | refine em_ fun x_ hx_ => ?_ | refine Elem1.mk fun e_ he_ => ?_); refine g0_ ?_))
                refine ACalls.lend (hx) (r := []) (.refl _) ?_
                rintro _ -
                (refine g0_ ?_; repeat ((first | refine n1_ fun b_ => ?_ | refine n2_ fun b_ => ?_ | refine Nat1.mk fun q_ hq_ => ?_ | refine em_ fun x_ hx_ => ?_ | refine Elem1.mk fun e_ he_ => ?_); refine g0_ ?_))
                refine WpX.of_vc (DD_ok (by decide)) (by decide) ?_
                (refine g0_ ?_; repeat ((first | refine n1_ fun b_ => ?_ | refine n2_ fun b_ => ?_ | refine Nat1.mk fun q_ hq_ => ?_ | refine em_ fun x_ hx_ => ?_ | refine Elem1.mk fun e_ he_ => ?_); refine g0_ ?_))
                exact ⟨(), trivial, rfl, by (first | exact ⟨_, .refl _⟩ | exact wkMem.rfl' | exact ⟨_, .swap _ _ _⟩ | (repeat (first | exact wkMem.nil _ | exact wkMem.rfl' | exact wk_snoc _ _ _ | exact wk_fam (by assumption) _ _ _ | exact wk_famN (by assumption) _ _ _ | (apply wkMem.cons; (case' hl => (repeat (first | exact .here _ _ _ | apply Look.there)))) | apply wkMem.skip)))⟩
      · (refine g0_ ?_; repeat ((first | refine n1_ fun b_ => ?_ | refine n2_ fun b_ => ?_ | refine Nat1.mk fun q_ hq_ => ?_ | refine em_ fun x_ hx_ => ?_ | refine Elem1.mk fun e_ he_ => ?_); refine g0_ ?_))
        (repeat ((rw [hc] at he_; obtain rfl := Option.some.inj he_; clear he_); (refine g0_ ?_; repeat ((first | refine n1_ fun b_ => ?_ | refine n2_ fun b_ => ?_ | refine Nat1.mk fun q_ hq_ => ?_ | refine em_ fun x_ hx_ => ?_ | refine Elem1.mk fun e_ he_ => ?_); refine g0_ ?_))))
        refine brec ?_; intro c_ hq2; (try rw [hq2]); cases c_ <;> replace hq2 := nm_ hq2
        · clear hq hq2
          (refine g0_ ?_; repeat ((first | refine n1_ fun b_ => ?_ | refine n2_ fun b_ => ?_ | refine Nat1.mk fun q_ hq_ => ?_ | refine em_ fun x_ hx_ => ?_ | refine Elem1.mk fun e_ he_ => ?_); refine g0_ ?_))
          by_cases h0 : ds = []
          · rw [if_pos h0] at hres
            subst hres h0
            rw [show errP (isOk (Lib.atoiAll [])) = .ifc 188 .dead from rfl] at hato
            repeat refine WpX.seq ?_
            refine WpX.of_vc (DD_ok (by decide)) (by decide) ?_
            (refine g0_ ?_; repeat ((first | refine n1_ fun b_ => ?_ | refine n2_ fun b_ => ?_ | refine Nat1.mk fun q_ hq_ => ?_ | refine em_ fun x_ hx_ => ?_ | refine Elem1.mk fun e_ he_ => ?_); refine g0_ ?_))
            refine head_ ?_; (refine g0_ ?_; repeat ((first | refine n1_ fun b_ => ?_ | refine n2_ fun b_ => ?_ | refine Nat1.mk fun q_ hq_ => ?_ | refine em_ fun x_ hx_ => ?_ | refine Elem1.mk fun e_ he_ => ?_); refine g0_ ?_))
            rw [hsl]
            refine ⟨_, (hato).quiet, ?_⟩; (refine g0_ ?_; repeat ((first | refine n1_ fun b_ => ?_ | refine n2_ fun b_ => ?_ | refine Nat1.mk fun q_ hq_ => ?_ | refine em_ fun x_ hx_ => ?_ | refine Elem1.mk fun e_ he_ => ?_); refine g0_ ?_))
            repeat refine WpX.seq ?_
            refine WpX.of_vc (DD_ok (by decide)) (by decide) ?_
            (refine g0_ ?_; repeat ((first | refine n1_ fun b_ => ?_ | refine n2_ fun b_ => ?_ | refine Nat1.mk fun q_ hq_ => ?_ | refine em_ fun x_ hx_ => ?_ | refine Elem1.mk fun e_ he_ => ?_); refine g0_ ?_))
            refine ⟨_, neq_held (by kernel_rfl), ?_⟩
            (refine g0_ ?_; repeat ((first | refine n1_ fun b_ => ?_ | refine n2_ fun b_ => ?_ | refine Nat1.mk fun q_ hq_ => ?_ | refine em_ fun x_ hx_ => ?_ | refine Elem1.mk fun e_ he_ => ?_); refine g0_ ?_))
            refine WpX.condT (by rfl) (WpX.panicAt 3 _ rfl rfl (by decide) ?_)
            (refine g0_ ?_; repeat ((first | refine n1_ fun b_ => ?_ | refine n2_ fun b_ => ?_ | refine Nat1.mk fun q_ hq_ => ?_ | refine em_ fun x_ hx_ => ?_ | refine Elem1.mk fun e_ he_ => ?_); refine g0_ ?_))
            exact rfl
          · rw [if_neg h0] at hres
            obtain ⟨k1, k2, k3⟩ := cnt_dgQ h0 g1 hdd
            rw [k1, k2, show errP true = .lit .nilIface from rfl] at hato
            generalize ds.foldl stQ 0 = N at *
            have hm0 : i + 3 ≤ i + 3 + ds.length := Nat.le_add_right _ _
            generalize i + 3 + ds.length = m0 at *
            repeat refine WpX.seq ?_
            refine WpX.of_vc (DD_ok (by decide)) (by decide) ?_
            (refine g0_ ?_; repeat ((first | refine n1_ fun b_ => ?_ | refine n2_ fun b_ => ?_ | refine Nat1.mk fun q_ hq_ => ?_ | refine em_ fun x_ hx_ => ?_ | refine Elem1.mk fun e_ he_ => ?_); refine g0_ ?_))
            refine head_ ?_; (refine g0_ ?_; repeat ((first | refine n1_ fun b_ => ?_ | refine n2_ fun b_ => ?_ | refine Nat1.mk fun q_ hq_ => ?_ | refine em_ fun x_ hx_ => ?_ | refine Elem1.mk fun e_ he_ => ?_); refine g0_ ?_))
            rw [hsl]
            refine ⟨_, (hato).quiet, ?_⟩; (refine g0_ ?_; repeat ((first | refine n1_ fun b_ => ?_ | refine n2_ fun b_ => ?_ | refine Nat1.mk fun q_ hq_ => ?_ | refine em_ fun x_ hx_ => ?_ | refine Elem1.mk fun e_ he_ => ?_); refine g0_ ?_))
            repeat refine WpX.seq ?_
            refine WpX.of_vc (DD_ok (by decide)) (by decide) ?_
            (refine g0_ ?_; repeat ((first | refine n1_ fun b_ => ?_ | refine n2_ fun b_ => ?_ | refine Nat1.mk fun q_ hq_ => ?_ | refine em_ fun x_ hx_ => ?_ | refine Elem1.mk fun e_ he_ => ?_); refine g0_ ?_))
            refine ⟨_, neq_nil0 (by kernel_rfl), ?_⟩
            (refine g0_ ?_; repeat ((first | refine n1_ fun b_ => ?_ | refine n2_ fun b_ => ?_ | refine Nat1.mk fun q_ hq_ => ?_ | refine em_ fun x_ hx_ => ?_ | refine Elem1.mk fun e_ he_ => ?_); refine g0_ ?_))
            refine WpX.condF (by rfl) (WpX.skip ?_)
            cases h4 : expQ s m0 58 with
            | error e =>
              rw [h4] at hres
              subst hres
              obtain ⟨hb, rfl⟩ := expQ_bad h4
              have hx := expX_bad W b s _ its hs (by omega) 58 hb 58 rfl
              unfold fQ at hx
              repeat refine WpX.seq ?_
              refine WpX.panicAt 1 _ rfl rfl (by decide) ?_
              (refine g0_ ?_; repeat ((first | refine n1_ fun b_ => ?_ | refine n2_ fun b_ => ?_ | refine Nat1.mk fun q_ hq_ => ?_ | refine em_ fun x_ hx_ => ?_ | refine Elem1.mk fun e_ he_ => ?_); refine g0_ ?_))
              exact ((hx).dies (ρ := []) (fun _ _ h => h) (.refl _)).mono (fun _ _ h => h.elim) fun _ _ h => h.1
            | ok m1 =>
              rw [h4] at hres
              dsimp only at hres
              obtain ⟨ha, e2, hm2⟩ := expQ_ok h4
              have hx := expX_ok W b s m0 its hs 58 ha 58 rfl
              rw [← e2] at hx
              unfold fQ at hx
              repeat refine WpX.seq ?_
              refine WpX.of_vc (DD_ok (by decide)) (by decide) ?_
              (refine g0_ ?_; repeat ((first | refine n1_ fun b_ => ?_ | refine n2_ fun b_ => ?_ | refine Nat1.mk fun q_ hq_ => ?_ | refine em_ fun x_ hx_ => ?_ | refine Elem1.mk fun e_ he_ => ?_); refine g0_ ?_))
              refine ACalls.lend (hx) (r := []) (.refl _) ?_
              rintro _ -
              (refine g0_ ?_; repeat ((first | refine n1_ fun b_ => ?_ | refine n2_ fun b_ => ?_ | refine Nat1.mk fun q_ hq_ => ?_ | refine em_ fun x_ hx_ => ?_ | refine Elem1.mk fun e_ he_ => ?_); refine g0_ ?_))
              cases hn : nameQ s m1 with
              | error e =>
                rw [hn] at hres
                subst hres
                obtain ⟨e3, hb⟩ := nameQ_bad hn
                have hx := nameX_bad W b s m1 its hs (by omega) hb
                rw [← e3] at hx
                rw [e3] at hx
                unfold fQ at hx
                subst e3
                repeat refine WpX.seq ?_
                refine WpX.panicAt 2 _ rfl rfl (by decide) ?_
                (refine g0_ ?_; repeat ((first | refine n1_ fun b_ => ?_ | refine n2_ fun b_ => ?_ | refine Nat1.mk fun q_ hq_ => ?_ | refine em_ fun x_ hx_ => ?_ | refine Elem1.mk fun e_ he_ => ?_); refine g0_ ?_))
                exact ((hx).dies (ρ := []) (fun _ _ h => h) (.refl _)).mono (fun _ _ h => h.elim) fun _ _ h => h.1
              | ok y =>
                obtain ⟨n, m2⟩ := y
                rw [hn] at hres
                dsimp only at hres
                obtain ⟨a1, a2, a3, a4, a5⟩ := nameQ_ok (by omega) hn
                have hx := nameX_ok W b s m1 its hs (by omega) a5
                rw [← a4, ← a3] at hx
                have hva := valQ_ok W b s m2 its hits n
                have hvl := valQ_len hv n
                have hcu := cut_ok W hT (valQ its n) N (by omega)
                generalize valQ its n = v at *
                unfold fQ at hx hva
                repeat refine WpX.seq ?_
                refine WpX.of_vc (DD_ok (by decide)) (by decide) ?_
                (refine g0_ ?_; repeat ((first | refine n1_ fun b_ => ?_ | refine n2_ fun b_ => ?_ | refine Nat1.mk fun q_ hq_ => ?_ | refine em_ fun x_ hx_ => ?_ | refine Elem1.mk fun e_ he_ => ?_); refine g0_ ?_))
                refine ACalls.lend (hx) (r := []) (.refl _) ?_
                rintro _ -
                (refine g0_ ?_; repeat ((first | refine n1_ fun b_ => ?_ | refine n2_ fun b_ => ?_ | refine Nat1.mk fun q_ hq_ => ?_ | refine em_ fun x_ hx_ => ?_ | refine Elem1.mk fun e_ he_ => ?_); refine g0_ ?_))
                refine ACalls.lend (hva) (r := []) (.refl _) ?_
                rintro _ -
                (refine g0_ ?_; repeat ((first | refine n1_ fun b_ => ?_ | refine n2_ fun b_ => ?_ | refine Nat1.mk fun q_ hq_ => ?_ | refine em_ fun x_ hx_ => ?_ | refine Elem1.mk fun e_ he_ => ?_); refine g0_ ?_))
                refine (hcu).use ?_; (refine g0_ ?_; repeat ((first | refine n1_ fun b_ => ?_ | refine n2_ fun b_ => ?_ | refine Nat1.mk fun q_ hq_ => ?_ | refine em_ fun x_ hx_ => ?_ | refine Elem1.mk fun e_ he_ => ?_); refine g0_ ?_))
                cases h9 : expQ s m2 125 with
                | error e =>
                  rw [h9] at hres
                  subst hres
                  obtain ⟨hb, rfl⟩ := expQ_bad h9
                  have hx := expX_bad W b s _ its hs (by omega) 125 hb 125 rfl
                  unfold fQ at hx
                  repeat refine WpX.seq ?_
                  refine WpX.panicAt 1 _ rfl rfl (by decide) ?_
                  (refine g0_ ?_; repeat ((first | refine n1_ fun b_ => ?_ | refine n2_ fun b_ => ?_ | refine Nat1.mk fun q_ hq_ => ?_ | refine em_ fun x_ hx_ => ?_ | refine Elem1.mk fun e_ he_ => ?_); refine g0_ ?_))
                  exact ((hx).dies (ρ := []) (fun _ _ h => h) (.refl _)).mono (fun _ _ h => h.elim) fun _ _ h => h.1
                | ok m9 =>
                  rw [h9] at hres
                  subst hres
                  obtain ⟨ha, rfl, hm9⟩ := expQ_ok h9
                  have hx := expX_ok W b s _ its hs 125 ha 125 rfl
                  unfold fQ at hx
                  repeat refine WpX.seq ?_
                  refine WpX.of_vc (DD_ok (by decide)) (by decide) ?_
                  (refine g0_ ?_; repeat ((first | refine n1_ fun b_ => ?_ | refine n2_ fun b_ => ?_ | refine Nat1.mk fun q_ hq_ => ?_ | refine em_ fun x_ hx_ => ?_ | refine Elem1.mk fun e_ he_ => ?_); refine g0_ ?_))
                  refine ACalls.lend (hx) (r := []) (.refl _) ?_
                  rintro _ -
                  (refine g0_ ?_; repeat ((first | refine n1_ fun b_ => ?_ | refine n2_ fun b_ => ?_ | refine Nat1.mk fun q_ hq_ => ?_ | refine em_ fun x_ hx_ => ?_ | refine Elem1.mk fun e_ he_ => ?_); refine g0_ ?_))
                  refine WpX.of_vc (DD_ok (by decide)) (by decide) ?_
                  (refine g0_ ?_; repeat ((first | refine n1_ fun b_ => ?_ | refine n2_ fun b_ => ?_ | refine Nat1.mk fun q_ hq_ => ?_ | refine em_ fun x_ hx_ => ?_ | refine Elem1.mk fun e_ he_ => ?_); refine g0_ ?_))
                  exact ⟨(), trivial, rfl, by (first | exact ⟨_, .refl _⟩ | exact wkMem.rfl' | exact ⟨_, .swap _ _ _⟩ | (repeat (first | exact wkMem.nil _ | exact wkMem.rfl' | exact wk_snoc _ _ _ | exact wk_fam (by assumption) _ _ _ | exact wk_famN (by assumption) _ _ _ | (apply wkMem.cons; (case' hl => (repeat (first | exact .here _ _ _ | apply Look.there)))) | apply wkMem.skip)))⟩
        · have hl3 : ds.length = 3 := by omega
          clear hq hq2 hc3
          (refine g0_ ?_; repeat ((first | refine n1_ fun b_ => ?_ | refine n2_ fun b_ => ?_ | refine Nat1.mk fun q_ hq_ => ?_ | refine em_ fun x_ hx_ => ?_ | refine Elem1.mk fun e_ he_ => ?_); refine g0_ ?_))
          (refine g1_ ?_; repeat ((first | refine n1_ fun b_ => ?_ | refine n2_ fun b_ => ?_ | refine Nat1.mk fun q_ hq_ => ?_ | refine em_ fun x_ hx_ => ?_ | refine Elem1.mk fun e_ he_ => ?_); refine g1_ ?_))
          by_cases h0 : ds = []
          · rw [if_pos h0] at hres
            subst hres h0
            rw [show errP (isOk (Lib.atoiAll [])) = .ifc 188 .dead from rfl] at hato
            repeat refine WpX.seq ?_
            refine WpX.of_vc (DD_ok (by decide)) (by decide) ?_
            (refine g0_ ?_; repeat ((first | refine n1_ fun b_ => ?_ | refine n2_ fun b_ => ?_ | refine Nat1.mk fun q_ hq_ => ?_ | refine em_ fun x_ hx_ => ?_ | refine Elem1.mk fun e_ he_ => ?_); refine g0_ ?_))
            refine head_ ?_; (refine g0_ ?_; repeat ((first | refine n1_ fun b_ => ?_ | refine n2_ fun b_ => ?_ | refine Nat1.mk fun q_ hq_ => ?_ | refine em_ fun x_ hx_ => ?_ | refine Elem1.mk fun e_ he_ => ?_); refine g0_ ?_))
            rw [hsl]
            refine ⟨_, (hato).quiet, ?_⟩; (refine g0_ ?_; repeat ((first | refine n1_ fun b_ => ?_ | refine n2_ fun b_ => ?_ | refine Nat1.mk fun q_ hq_ => ?_ | refine em_ fun x_ hx_ => ?_ | refine Elem1.mk fun e_ he_ => ?_); refine g0_ ?_))
            repeat refine WpX.seq ?_
            refine WpX.of_vc (DD_ok (by decide)) (by decide) ?_
            (refine g0_ ?_; repeat ((first | refine n1_ fun b_ => ?_ | refine n2_ fun b_ => ?_ | refine Nat1.mk fun q_ hq_ => ?_ | refine em_ fun x_ hx_ => ?_ | refine Elem1.mk fun e_ he_ => ?_); refine g0_ ?_))
            refine ⟨_, neq_held (by kernel_rfl), ?_⟩
            (refine g0_ ?_; repeat ((first | refine n1_ fun b_ => ?_ | refine n2_ fun b_ => ?_ | refine Nat1.mk fun q_ hq_ => ?_ | refine em_ fun x_ hx_ => ?_ | refine Elem1.mk fun e_ he_ => ?_); refine g0_ ?_))
            refine WpX.condT (by rfl) (WpX.panicAt 3 _ rfl rfl (by decide) ?_)
            (refine g0_ ?_; repeat ((first | refine n1_ fun b_ => ?_ | refine n2_ fun b_ => ?_ | refine Nat1.mk fun q_ hq_ => ?_ | refine em_ fun x_ hx_ => ?_ | refine Elem1.mk fun e_ he_ => ?_); refine g0_ ?_))
            exact rfl
          · rw [if_neg h0] at hres
            obtain ⟨k1, k2, k3⟩ := cnt_dgQ h0 g1 hdd
            rw [k1, k2, show errP true = .lit .nilIface from rfl] at hato
            generalize ds.foldl stQ 0 = N at *
            have hm0 : i + 3 ≤ i + 3 + ds.length := Nat.le_add_right _ _
            generalize i + 3 + ds.length = m0 at *
            repeat refine WpX.seq ?_
            refine WpX.of_vc (DD_ok (by decide)) (by decide) ?_
            (refine g0_ ?_; repeat ((first | refine n1_ fun b_ => ?_ | refine n2_ fun b_ => ?_ | refine Nat1.mk fun q_ hq_ => ?_ | refine em_ fun x_ hx_ => ?_ | refine Elem1.mk fun e_ he_ => ?_); refine g0_ ?_))
            refine head_ ?_; (refine g0_ ?_; repeat ((first | refine n1_ fun b_ => ?_ | refine n2_ fun b_ => ?_ | refine Nat1.mk fun q_ hq_ => ?_ | refine em_ fun x_ hx_ => ?_ | refine Elem1.mk fun e_ he_ => ?_); refine g0_ ?_))
            rw [hsl]
            refine ⟨_, (hato).quiet, ?_⟩; (refine g0_ ?_; repeat ((first | refine n1_ fun b_ => ?_ | refine n2_ fun b_ => ?_ | refine Nat1.mk fun q_ hq_ => ?_ | refine em_ fun x_ hx_ => ?_ | refine Elem1.mk fun e_ he_ => ?_); refine g0_ ?_))
            repeat refine WpX.seq ?_
            refine WpX.of_vc (DD_ok (by decide)) (by decide) ?_
            (refine g0_ ?_; repeat ((first | refine n1_ fun b_ => ?_ | refine n2_ fun b_ => ?_ | refine Nat1.mk fun q_ hq_ => ?_ | refine em_ fun x_ hx_ => ?_ | refine Elem1.mk fun e_ he_ => ?_); refine g0_ ?_))
            refine ⟨_, neq_nil0 (by kernel_rfl), ?_⟩
            (refine g0_ ?_; repeat ((first | refine n1_ fun b_ => ?_ | refine n2_ fun b_ => ?_ | refine Nat1.mk fun q_ hq_ => ?_ | refine em_ fun x_ hx_ => ?_ | refine Elem1.mk fun e_ he_ => ?_); refine g0_ ?_))
            refine WpX.condF (by rfl) (WpX.skip ?_)
            cases h4 : expQ s m0 58 with
            | error e =>
              rw [h4] at hres
              subst hres
              obtain ⟨hb, rfl⟩ := expQ_bad h4
              have hx := expX_bad W b s _ its hs (by omega) 58 hb 58 rfl
              unfold fQ at hx
              repeat refine WpX.seq ?_
              refine WpX.panicAt 1 _ rfl rfl (by decide) ?_
              (refine g0_ ?_; repeat ((first | refine n1_ fun b_ => ?_ | refine n2_ fun b_ => ?_ | refine Nat1.mk fun q_ hq_ => ?_ | refine em_ fun x_ hx_ => ?_ | refine Elem1.mk fun e_ he_ => ?_); refine g0_ ?_))
              exact ((hx).dies (ρ := []) (fun _ _ h => h) (.refl _)).mono (fun _ _ h => h.elim) fun _ _ h => h.1
            | ok m1 =>
              rw [h4] at hres
              dsimp only at hres
              obtain ⟨ha, e2, hm2⟩ := expQ_ok h4
              have hx := expX_ok W b s m0 its hs 58 ha 58 rfl
              rw [← e2] at hx
              unfold fQ at hx
              repeat refine WpX.seq ?_
              refine WpX.of_vc (DD_ok (by decide)) (by decide) ?_
              (refine g0_ ?_; repeat ((first | refine n1_ fun b_ => ?_ | refine n2_ fun b_ => ?_ | refine Nat1.mk fun q_ hq_ => ?_ | refine em_ fun x_ hx_ => ?_ | refine Elem1.mk fun e_ he_ => ?_); refine g0_ ?_))
              refine ACalls.lend (hx) (r := []) (.refl _) ?_
              rintro _ -
              (refine g0_ ?_; repeat ((first | refine n1_ fun b_ => ?_ | refine n2_ fun b_ => ?_ | refine Nat1.mk fun q_ hq_ => ?_ | refine em_ fun x_ hx_ => ?_ | refine Elem1.mk fun e_ he_ => ?_); refine g0_ ?_))
              cases hn : nameQ s m1 with
              | error e =>
                rw [hn] at hres
                subst hres
                obtain ⟨e3, hb⟩ := nameQ_bad hn
                have hx := nameX_bad W b s m1 its hs (by omega) hb
                rw [← e3] at hx
                rw [e3] at hx
                unfold fQ at hx
                subst e3
                repeat refine WpX.seq ?_
                refine WpX.panicAt 2 _ rfl rfl (by decide) ?_
                (refine g0_ ?_; repeat ((first | refine n1_ fun b_ => ?_ | refine n2_ fun b_ => ?_ | refine Nat1.mk fun q_ hq_ => ?_ | refine em_ fun x_ hx_ => ?_ | refine Elem1.mk fun e_ he_ => ?_); refine g0_ ?_))
                exact ((hx).dies (ρ := []) (fun _ _ h => h) (.refl _)).mono (fun _ _ h => h.elim) fun _ _ h => h.1
              | ok y =>
                obtain ⟨n, m2⟩ := y
                rw [hn] at hres
                dsimp only at hres
                obtain ⟨a1, a2, a3, a4, a5⟩ := nameQ_ok (by omega) hn
                have hx := nameX_ok W b s m1 its hs (by omega) a5
                rw [← a4, ← a3] at hx
                have hva := valQ_ok W b s m2 its hits n
                have hvl := valQ_len hv n
                have hcu := cut_ok W hT (valQ its n) N (by omega)
                generalize valQ its n = v at *
                unfold fQ at hx hva
                repeat refine WpX.seq ?_
                refine WpX.of_vc (DD_ok (by decide)) (by decide) ?_
                (refine g0_ ?_; repeat ((first | refine n1_ fun b_ => ?_ | refine n2_ fun b_ => ?_ | refine Nat1.mk fun q_ hq_ => ?_ | refine em_ fun x_ hx_ => ?_ | refine Elem1.mk fun e_ he_ => ?_); refine g0_ ?_))
                refine ACalls.lend (hx) (r := []) (.refl _) ?_
                rintro _ -
                (refine g0_ ?_; repeat ((first | refine n1_ fun b_ => ?_ | refine n2_ fun b_ => ?_ | refine Nat1.mk fun q_ hq_ => ?_ | refine em_ fun x_ hx_ => ?_ | refine Elem1.mk fun e_ he_ => ?_); refine g0_ ?_))
                refine ACalls.lend (hva) (r := []) (.refl _) ?_
                rintro _ -
                (refine g0_ ?_; repeat ((first | refine n1_ fun b_ => ?_ | refine n2_ fun b_ => ?_ | refine Nat1.mk fun q_ hq_ => ?_ | refine em_ fun x_ hx_ => ?_ | refine Elem1.mk fun e_ he_ => ?_); refine g0_ ?_))
                refine (hcu).use ?_; (refine g0_ ?_; repeat ((first | refine n1_ fun b_ => ?_ | refine n2_ fun b_ => ?_ | refine Nat1.mk fun q_ hq_ => ?_ | refine em_ fun x_ hx_ => ?_ | refine Elem1.mk fun e_ he_ => ?_); refine g0_ ?_))
                cases h9 : expQ s m2 125 with
                | error e =>
                  rw [h9] at hres
                  subst hres
                  obtain ⟨hb, rfl⟩ := expQ_bad h9
                  have hx := expX_bad W b s _ its hs (by omega) 125 hb 125 rfl
                  unfold fQ at hx
                  repeat refine WpX.seq ?_
                  refine WpX.panicAt 1 _ rfl rfl (by decide) ?_
                  (refine g0_ ?_; repeat ((first | refine n1_ fun b_ => ?_ | refine n2_ fun b_ => ?_ | refine Nat1.mk fun q_ hq_ => ?_ | refine em_ fun x_ hx_ => ?_ | refine Elem1.mk fun e_ he_ => ?_); refine g0_ ?_))
                  exact ((hx).dies (ρ := []) (fun _ _ h => h) (.refl _)).mono (fun _ _ h => h.elim) fun _ _ h => h.1
                | ok m9 =>
                  rw [h9] at hres
                  subst hres
                  obtain ⟨ha, rfl, hm9⟩ := expQ_ok h9
                  have hx := expX_ok W b s _ its hs 125 ha 125 rfl
                  unfold fQ at hx
                  repeat refine WpX.seq ?_
                  refine WpX.of_vc (DD_ok (by decide)) (by decide) ?_
                  (refine g0_ ?_; repeat ((first | refine n1_ fun b_ => ?_ | refine n2_ fun b_ => ?_ | refine Nat1.mk fun q_ hq_ => ?_ | refine em_ fun x_ hx_ => ?_ | refine Elem1.mk fun e_ he_ => ?_); refine g0_ ?_))
                  refine ACalls.lend (hx) (r := []) (.refl _) ?_
                  rintro _ -
                  (refine g0_ ?_; repeat ((first | refine n1_ fun b_ => ?_ | refine n2_ fun b_ => ?_ | refine Nat1.mk fun q_ hq_ => ?_ | refine em_ fun x_ hx_ => ?_ | refine Elem1.mk fun e_ he_ => ?_); refine g0_ ?_))
                  refine WpX.of_vc (DD_ok (by decide)) (by decide) ?_
                  (refine g0_ ?_; repeat ((first | refine n1_ fun b_ => ?_ | refine n2_ fun b_ => ?_ | refine Nat1.mk fun q_ hq_ => ?_ | refine em_ fun x_ hx_ => ?_ | refine Elem1.mk fun e_ he_ => ?_); refine g0_ ?_))
                  exact ⟨(), trivial, rfl, by (first | exact ⟨_, .refl _⟩ | exact wkMem.rfl' | exact ⟨_, .swap _ _ _⟩ | (repeat (first | exact wkMem.nil _ | exact wkMem.rfl' | exact wk_snoc _ _ _ | exact wk_fam (by assumption) _ _ _ | exact wk_famN (by assumption) _ _ _ | (apply wkMem.cons; (case' hl => (repeat (first | exact .here _ _ _ | apply Look.there)))) | apply wkMem.skip)))⟩
  · obtain ⟨c, hc, hc2, hcd⟩ := q1 (by omega)
    clear hat q1 q2
    have hlt := lt_of_at hc
    (refine g0_ ?_; repeat ((first | refine n1_ fun b_ => ?_ | refine n2_ fun b_ => ?_ | refine Nat1.mk fun q_ hq_ => ?_ | refine em_ fun x_ hx_ => ?_ | refine Elem1.mk fun e_ he_ => ?_); refine g0_ ?_))
    refine head_ ?_; (refine g0_ ?_; repeat ((first | refine n1_ fun b_ => ?_ | refine n2_ fun b_ => ?_ | refine Nat1.mk fun q_ hq_ => ?_ | refine em_ fun x_ hx_ => ?_ | refine Elem1.mk fun e_ he_ => ?_); refine g0_ ?_))
    (refine g1_ ?_; repeat ((first | refine n1_ fun b_ => ?_ | refine n2_ fun b_ => ?_ | refine Nat1.mk fun q_ hq_ => ?_ | refine em_ fun x_ hx_ => ?_ | refine Elem1.mk fun e_ he_ => ?_); refine g1_ ?_))
    (repeat ((rw [hc] at he_; obtain rfl := Option.some.inj he_; clear he_); (refine g1_ ?_; repeat ((first | refine n1_ fun b_ => ?_ | refine n2_ fun b_ => ?_ | refine Nat1.mk fun q_ hq_ => ?_ | refine em_ fun x_ hx_ => ?_ | refine Elem1.mk fun e_ he_ => ?_); refine g1_ ?_))))
    refine nx_ (j + 1) ?_ ?_
    · show j + 1 ≤ ds.length
      omega
    · ((try dsimp only); (try simp only [List.length_drop, List.length_take, List.length_append, List.length_cons, List.length_nil, List.length_map] at *); omega)
/-- An item, by what stands up to a byte. -/
theorem itemX (hT : Tabs W) (hE : ErrJ W) (b : Nat) (s : List UInt8) (its : Its) (hs : s.length ≤ 4000) (hits : its.length ≤ 1000) (hv : ∀ x ∈ its, x.2.length ≤ 4000) (deep : Int) (hd : 0 ≤ deep ∧ deep ≤ 8) (u : List UInt8 → Nat → Except Nat (List UInt8 × Nat))
    (hu : ∀ e i, i ≤ s.length → ReadsQ W 57 [.bref b 0, .str e, .int .i64 deep] b s its i (u e i)) (hsm : ∀ e i, i ≤ s.length → SmallQ s i i (u e i)) (i : Nat) (hi : i + 2 ≤ s.length) :
    ReadsQ W 90 [.bref b 0, .int .i64 deep] b s its i (itemQ s its u i) := by
  unfold itemQ
  by_cases h1 : s[i + 2]? = some 63
  · rw [if_pos h1]
    exact itemX_ask W b s its hs hits deep hd u hu hsm i h1 _ rfl
  rw [if_neg h1]
  by_cases h2 : s[i + 2]? = some 61
  · rw [if_pos h2]
    exact itemX_cut W hT hE b s its hs hits hv deep hd i h2 _ rfl
  · rw [if_neg h2]
    exact itemX_plain W b s its hs hits deep hd i hi h1 h2 _ rfl
theorem itX (hT : Tabs W) (hE : ErrJ W) (b : Nat) (s : List UInt8) (its : Its) (hs : s.length ≤ 4000) (hits : its.length ≤ 1000) (hv : ∀ x ∈ its, x.2.length ≤ 4000) : ∀ (n i : Nat), n ≤ 8 → i + 2 ≤ s.length → ReadsQ W 90 [.bref b 0, .int .i64 (9 - (n : Int))] b s its i (itQ s its n i)
  | 0, i, _, hi => itemX_deep W b s its 9 (by decide) i
  | n + 1, i, hn, hi => by
    rw [itQ]
    have he : (9 : Int) - ((n + 1 : Nat) : Int) + 1 = 9 - (n : Int) := by omega
    refine itemX W hT hE b s its hs hits hv _ (by omega) _ (fun e j hj => untilX W b s its hs e _ (by omega) (itQ s its n) (fun k hk => ?_) (itQ_small hv n) j hj _ rfl) (fun e j hj => untilQ_small (itQ_small hv n) _ j [] j (Nat.le_refl _) hj (Nat.zero_le _)) i hi
    rw [he]
    exact itX hT hE b s its hs hits hv n k (by omega) hk
/-- What a format says. -/
def sayQ (s : List UInt8) (its : Its) : Except Nat (List UInt8 × Nat) := untilQ s [] (itQ s its 8) (s.length + 1) 0 []
theorem untilTop (hT : Tabs W) (hE : ErrJ W) (b : Nat) (s : List UInt8) (its : Its) (hs : s.length ≤ 4000) (hits : its.length ≤ 1000) (hv : ∀ x ∈ its, x.2.length ≤ 4000) : ReadsQ W 57 [.bref b 0, .str [], .int .i64 0] b s its 0 (sayQ s its) :=
  untilX W b s its hs [] 0 (by decide) (itQ s its 8) (fun k hk => itX W hT hE b s its hs hits hv 8 k (Nat.le_refl _) hk) (itQ_small hv 8) 0 (Nat.zero_le _) _ rfl
theorem sayQ_small {s : List UInt8} {its : Its} (hv : ∀ x ∈ its, x.2.length ≤ 4000) : SmallQ s 0 0 (sayQ s its) := untilQ_small (itQ_small hv 8) _ 0 [] 0 (Nat.le_refl _) (Nat.zero_le _) (Nat.zero_le _)
end Go.Eng.YtkenlcaifhffoaaDoor
end
