/- Texts put together: Spl46, Spl47, Spl48. -/
import Derived.Test.YtmodblkagimhlaaDoorMSB1
import Derived.Test.YtmodblkagimhlaaDoorME12
/- Splits: any text is read: numbers (b_ x_ q_ e_). -/
section
namespace Go.Eng.YtmodblkagimhlaaDoor
open Go Go.Eng Go.Proofs Go.RowKit
variable (W : World)
set_option linter.unusedSimpArgs false
set_option maxRecDepth 100000
set_option linter.unusedVariables false
set_option maxHeartbeats 4000000
/-- Where reading stops. -/
def stopV (i : Nat) : PV := .ifc 93 (.agg [.int .i64 i])
/-- The digits ahead, at most four. -/
def dg4 (l : List UInt8) : List UInt8 := (l.take 4).takeWhile fun c => decide (48 ≤ c.toNat ∧ c.toNat ≤ 57)
theorem dg4_at (l : List UInt8) : ∀ n j, j ≤ ((l.take n).takeWhile fun c => decide (48 ≤ c.toNat ∧ c.toNat ≤ 57)).length → 
    (j < ((l.take n).takeWhile fun c => decide (48 ≤ c.toNat ∧ c.toNat ≤ 57)).length → ∃ c, l[j]? = some c ∧ ((l.take n).takeWhile fun c => decide (48 ≤ c.toNat ∧ c.toNat ≤ 57))[j]? = some c ∧ 48 ≤ c.toNat ∧ c.toNat ≤ 57) ∧
    (j = ((l.take n).takeWhile fun c => decide (48 ≤ c.toNat ∧ c.toNat ≤ 57)).length → j = n ∨ (((l[j]?).map UInt8.toNat).getD 0 < 48 ∨ 57 < ((l[j]?).map UInt8.toNat).getD 0)) := by
  induction l with
  | nil => intro n j hj; simp at hj ⊢
  | cons c l ih =>
    intro n j hj
    cases n with
    | zero => simp at hj ⊢; omega
    | succ n =>
      rw [List.take_succ_cons] at hj ⊢
      by_cases hc : 48 ≤ c.toNat ∧ c.toNat ≤ 57
      · rw [List.takeWhile_cons_of_pos (by simpa using hc)] at hj ⊢
        cases j with
        | zero => exact ⟨fun _ => ⟨c, rfl, rfl, hc⟩, fun h => by simp at h⟩
        | succ j =>
          obtain ⟨h1, h2⟩ := ih n j (by simpa using hj)
          refine ⟨fun h => ?_, fun h => ?_⟩
          · obtain ⟨c', a1, a2, a3⟩ := h1 (by simpa using h)
            exact ⟨c', by simpa using a1, by simpa using a2, a3⟩
          · rcases h2 (by simpa using h) with h | h
            · exact .inl (by omega)
            · exact .inr (by simpa using h)
      · rw [List.takeWhile_cons_of_neg (by simpa using hc)] at hj ⊢
        obtain rfl : j = 0 := by simpa using hj
        refine ⟨fun h => by simp at h, fun _ => .inr ?_⟩
        simp only [List.getElem?_cons_zero, Option.map_some, Option.getD_some]
        omega
theorem dg4_len (l : List UInt8) : (dg4 l).length ≤ 4 ∧ (dg4 l).length ≤ l.length := by
  unfold dg4
  have h1 : ((l.take 4).takeWhile fun c => decide (48 ≤ c.toNat ∧ c.toNat ≤ 57)).length ≤ (l.take 4).length := (List.takeWhile_sublist _).length_le
  rw [List.length_take] at h1
  omega
theorem numberX_bad (b : Nat) (s : List UInt8) (i : Nat) (hs : s.length ≤ 4000) (hi : i ≤ s.length) (hbad : dg4 (s.drop i) = [] ∨ (dg4 (s.drop i)).headD 48 = 48) :
    XCalls Tryd.prog W 107 [.bref b 0] [rdM b s i] (fun _ _ => False) (fun v _ => v = stopV i) := by
  have hn := fun j (hj : j ≤ s.length) => nextB_ok W b s j hj hs
  have hat := fun j => dg4_at (s.drop i) 4 j
  obtain ⟨hl4, hll⟩ := dg4_len (s.drop i)
  rw [List.length_drop] at hll
  change ∀ j, j ≤ (dg4 (s.drop i)).length → (j < (dg4 (s.drop i)).length → ∃ c, (s.drop i)[j]? = some c ∧ (dg4 (s.drop i))[j]? = some c ∧ 48 ≤ c.toNat ∧ c.toNat ≤ 57) ∧ (j = (dg4 (s.drop i)).length → _) at hat
  have hnx := fun j => nextN_drop s i j
  generalize dg4 (s.drop i) = ds at *
  simp only [rdM] at hn ⊢
  refine xcalls_of_body Tryd.func107 rfl (by decide) rfl ?_
  skip
  refine WpX.seq (WpX.of_vc (DD_ok (by decide)) (by decide) ?_)
  (refine g0_ ?_; repeat ((first | refine n1_ fun b_ => ?_ | refine n2_ fun b_ => ?_ | refine Nat1.mk fun q_ hq_ => ?_ | refine em_ fun x_ hx_ => ?_ | refine Elem1.mk fun e_ he_ => ?_); refine g0_ ?_))
  refine WpX.seq (WpX.of_vc (DD_ok (by decide)) (by decide) ?_)
  (refine g0_ ?_; repeat ((first | refine n1_ fun b_ => ?_ | refine n2_ fun b_ => ?_ | refine Nat1.mk fun q_ hq_ => ?_ | refine em_ fun x_ hx_ => ?_ | refine Elem1.mk fun e_ he_ => ?_); refine g0_ ?_))
  refine WpX.seq (WpX.of_vc (DD_ok (by decide)) (by decide) ?_)
  (refine g0_ ?_; repeat ((first | refine n1_ fun b_ => ?_ | refine n2_ fun b_ => ?_ | refine Nat1.mk fun q_ hq_ => ?_ | refine em_ fun x_ hx_ => ?_ | refine Elem1.mk fun e_ he_ => ?_); refine g0_ ?_))
  refine ACalls.lendL (hn i (by omega)) (r := []) (.refl _) ?_
  rintro _ -
  (refine g0_ ?_; repeat ((first | refine n1_ fun b_ => ?_ | refine n2_ fun b_ => ?_ | refine Nat1.mk fun q_ hq_ => ?_ | refine em_ fun x_ hx_ => ?_ | refine Elem1.mk fun e_ he_ => ?_); refine g0_ ?_))
  refine' loopI (α := Nat × Nat) (fun (j, v) => [(5, .int .u8 (nextN s (i + j))), (4, .int .i64 v)]) [(0, _), (3, _)] (fun (j, v) => [⟨b, .row 2 [.agg [.str s, .int .i64 ((i + j : Nat) : Int)]] 0⟩]) (fun (j, v) => j ≤ ds.length ∧ v < 10 ^ j) (fun (j, v) => ds.length - j) (0, 0) ?_ ?_
  · exact ⟨Nat.zero_le _, by decide⟩
  rintro ⟨j, v⟩ ⟨hj, hv⟩
  obtain ⟨h1, h2⟩ := hat j hj
  rw [← hnx j] at h2
  by_cases hjL : j = ds.length
  · have h2 := h2 hjL
    (refine g0_ ?_; repeat ((first | refine n1_ fun b_ => ?_ | refine n2_ fun b_ => ?_ | refine Nat1.mk fun q_ hq_ => ?_ | refine em_ fun x_ hx_ => ?_ | refine Elem1.mk fun e_ he_ => ?_); refine g0_ ?_))
    (refine g1_ ?_; repeat ((first | refine n1_ fun b_ => ?_ | refine n2_ fun b_ => ?_ | refine Nat1.mk fun q_ hq_ => ?_ | refine em_ fun x_ hx_ => ?_ | refine Elem1.mk fun e_ he_ => ?_); refine g1_ ?_))
    have hvb : v < 10000 := Nat.lt_of_lt_of_le hv (Nat.pow_le_pow_right (n := 10) (by decide) (show j ≤ 4 by omega))
    rcases Nat.eq_zero_or_pos j with h0 | h0
    · obtain rfl := h0
      refine WpX.seq (WpX.seq (WpX.of_vc (DD_ok (by decide)) (by decide) ?_))
      (refine g0_ ?_; repeat ((first | refine n1_ fun b_ => ?_ | refine n2_ fun b_ => ?_ | refine Nat1.mk fun q_ hq_ => ?_ | refine em_ fun x_ hx_ => ?_ | refine Elem1.mk fun e_ he_ => ?_); refine g0_ ?_))
      (refine g1_ ?_; repeat ((first | refine n1_ fun b_ => ?_ | refine n2_ fun b_ => ?_ | refine Nat1.mk fun q_ hq_ => ?_ | refine em_ fun x_ hx_ => ?_ | refine Elem1.mk fun e_ he_ => ?_); refine g1_ ?_))
      refine WpX.condT (by rfl) (WpX.panicAt 3 _ rfl rfl (by decide) ?_)
      (refine g0_ ?_; repeat ((first | refine n1_ fun b_ => ?_ | refine n2_ fun b_ => ?_ | refine Nat1.mk fun q_ hq_ => ?_ | refine em_ fun x_ hx_ => ?_ | refine Elem1.mk fun e_ he_ => ?_); refine g0_ ?_))
      exact rfl
    · obtain ⟨c0, hc0, hc48⟩ : ∃ c0, s[i]? = some c0 ∧ c0.toNat = 48 := by
        obtain ⟨c, a1, a2, -⟩ := (hat 0 (Nat.zero_le _)).1 (by omega)
        rw [List.getElem?_drop, Nat.add_zero] at a1
        refine ⟨c, a1, ?_⟩
        rcases hbad with h | h
        · rw [h] at a2; cases a2
        · cases ds with
          | nil => cases a2
          | cons x l =>
            obtain rfl := Option.some.inj a2
            rw [show x = 48 from h]; rfl
      clear hat hnx
      have hil : i < s.length := lt_of_at hc0
      refine WpX.seq (WpX.seq (WpX.of_vc (DD_ok (by decide)) (by decide) ?_))
      (refine g0_ ?_; repeat ((first | refine n1_ fun b_ => ?_ | refine n2_ fun b_ => ?_ | refine Nat1.mk fun q_ hq_ => ?_ | refine em_ fun x_ hx_ => ?_ | refine Elem1.mk fun e_ he_ => ?_); refine g0_ ?_))
      (refine g1_ ?_; repeat ((first | refine n1_ fun b_ => ?_ | refine n2_ fun b_ => ?_ | refine Nat1.mk fun q_ hq_ => ?_ | refine em_ fun x_ hx_ => ?_ | refine Elem1.mk fun e_ he_ => ?_); refine g1_ ?_))
      try rw [hc0] at he_
      try obtain rfl := Option.some.inj he_
      refine WpX.condT (by first | rfl | (show PV.bool (decide ((c0.toNat : Int) = 48)) = PV.bool true; rw [decide_eq_true (by omega)]) | (have h48 : decide ((c0.toNat : Int) = 48) = true := decide_eq_true (by omega); simp only [ev, upd, h48]; rfl)) (WpX.panicAt 3 _ rfl rfl (by decide) ?_)
      (refine g0_ ?_; repeat ((first | refine n1_ fun b_ => ?_ | refine n2_ fun b_ => ?_ | refine Nat1.mk fun q_ hq_ => ?_ | refine em_ fun x_ hx_ => ?_ | refine Elem1.mk fun e_ he_ => ?_); refine g0_ ?_))
      exact rfl
  · obtain ⟨c, hc1, hc2, hcr⟩ := h1 (by omega)
    have hcv : nextN s (i + j) = c.toNat := by rw [hnx, hc1]; rfl
    have hx := nextN_le s (i + (j + 1))
    have hn' := hn (i + (j + 1)) (by omega)
    clear hn hnx hat h1 h2
    rw [← hcv] at hcr
    have hvb : v < 10000 := Nat.lt_of_lt_of_le hv (Nat.pow_le_pow_right (n := 10) (by decide) (show j ≤ 4 by omega))
    have hv' : v * 10 + (nextN s (i + j) - 48) < 10 ^ (j + 1) := by rw [Nat.pow_succ]; omega
    (refine g0_ ?_; repeat ((first | refine n1_ fun b_ => ?_ | refine n2_ fun b_ => ?_ | refine Nat1.mk fun q_ hq_ => ?_ | refine em_ fun x_ hx_ => ?_ | refine Elem1.mk fun e_ he_ => ?_); refine g0_ ?_))
    (refine g1_ ?_; repeat ((first | refine n1_ fun b_ => ?_ | refine n2_ fun b_ => ?_ | refine Nat1.mk fun q_ hq_ => ?_ | refine em_ fun x_ hx_ => ?_ | refine Elem1.mk fun e_ he_ => ?_); refine g1_ ?_))
    refine ACalls.lendL hn' (r := []) (.refl _) ?_
    rintro _ -
    (refine g0_ ?_; repeat ((first | refine n1_ fun b_ => ?_ | refine n2_ fun b_ => ?_ | refine Nat1.mk fun q_ hq_ => ?_ | refine em_ fun x_ hx_ => ?_ | refine Elem1.mk fun e_ he_ => ?_); refine g0_ ?_))
    refine nx_ (j + 1, v * 10 + (nextN s (i + j) - 48)) ?_ ?_
    · exact ⟨by omega, hv'⟩
    · ((try dsimp only); (try simp only [List.length_drop, List.length_take, List.length_append, List.length_cons, List.length_nil, List.length_map] at *); omega)
theorem numberX_ok (b : Nat) (s : List UInt8) (i : Nat) (hs : s.length ≤ 4000) (hi : i ≤ s.length) (h0 : dg4 (s.drop i) ≠ []) (h48 : (dg4 (s.drop i)).headD 48 ≠ 48) :
    ACalls Tryd.prog W 107 [.bref b 0] [rdM b s i] (Gives (fun _ : Unit => .int .i64 (((dg4 (s.drop i)).foldl stD 0 : Nat) : Int)) (fun _ => [rdM b s (i + (dg4 (s.drop i)).length)]) (fun _ => True)) := by
  have hn := fun j (hj : j ≤ s.length) => nextB_ok W b s j hj hs
  have hat := fun j => dg4_at (s.drop i) 4 j
  obtain ⟨hl4, hll⟩ := dg4_len (s.drop i)
  rw [List.length_drop] at hll
  change ∀ j, j ≤ (dg4 (s.drop i)).length → (j < (dg4 (s.drop i)).length → ∃ c, (s.drop i)[j]? = some c ∧ (dg4 (s.drop i))[j]? = some c ∧ 48 ≤ c.toNat ∧ c.toNat ≤ 57) ∧ (j = (dg4 (s.drop i)).length → _) at hat
  have hnx := fun j => nextN_drop s i j
  generalize dg4 (s.drop i) = ds at *
  have hL : 1 ≤ ds.length := List.length_pos_iff.2 h0
  obtain ⟨c0, hc0, hc48⟩ : ∃ c0, s[i]? = some c0 ∧ c0.toNat ≠ 48 := by
    obtain ⟨c, a1, a2, -⟩ := (hat 0 (Nat.zero_le _)).1 (by omega)
    rw [List.getElem?_drop, Nat.add_zero] at a1
    refine ⟨c, a1, fun e => ?_⟩
    cases ds with
    | nil => cases a2
    | cons x l =>
      obtain rfl := Option.some.inj a2
      exact h48 (UInt8.toNat_inj.1 e)
  have hil : i < s.length := lt_of_at hc0
  simp only [rdM] at hn ⊢
  refine acalls_of_vc (drawOk W) Tryd.func107 rfl (by decide) (by decide) rfl ?_
  (refine g0_ ?_; repeat ((first | refine n1_ fun b_ => ?_ | refine n2_ fun b_ => ?_ | refine Nat1.mk fun q_ hq_ => ?_ | refine em_ fun x_ hx_ => ?_ | refine Elem1.mk fun e_ he_ => ?_); refine g0_ ?_))
  refine ACalls.lendL (hn i (by omega)) (r := []) (.refl _) ?_
  rintro _ -
  (refine g0_ ?_; repeat ((first | refine n1_ fun b_ => ?_ | refine n2_ fun b_ => ?_ | refine Nat1.mk fun q_ hq_ => ?_ | refine em_ fun x_ hx_ => ?_ | refine Elem1.mk fun e_ he_ => ?_); refine g0_ ?_))
  refine' loopI (α := Nat × Nat) (fun (j, v) => [(5, .int .u8 (nextN s (i + j))), (4, .int .i64 v)]) [(0, _), (3, _)] (fun (j, v) => [⟨b, .row 2 [.agg [.str s, .int .i64 ((i + j : Nat) : Int)]] 0⟩]) (fun (j, v) => j ≤ ds.length ∧ v = (ds.take j).foldl stD 0 ∧ v < 10 ^ j) (fun (j, v) => ds.length - j) (0, 0) ?_ ?_
  · exact ⟨Nat.zero_le _, rfl, by decide⟩
  rintro ⟨j, v⟩ ⟨hj, hve, hv⟩
  obtain ⟨h1, h2⟩ := hat j hj
  rw [← hnx j] at h2
  have hvb : v < 10000 := Nat.lt_of_lt_of_le hv (Nat.pow_le_pow_right (n := 10) (by decide) (show j ≤ 4 by omega))
  by_cases hjL : j = ds.length
  · have h2 := h2 hjL
    subst hjL
    rw [List.take_length] at hve
    rw [← hve]
    clear hat hnx hve h1
    (refine g0_ ?_; repeat ((first | refine n1_ fun b_ => ?_ | refine n2_ fun b_ => ?_ | refine Nat1.mk fun q_ hq_ => ?_ | refine em_ fun x_ hx_ => ?_ | refine Elem1.mk fun e_ he_ => ?_); refine g0_ ?_))
    (refine g1_ ?_; repeat ((first | refine n1_ fun b_ => ?_ | refine n2_ fun b_ => ?_ | refine Nat1.mk fun q_ hq_ => ?_ | refine em_ fun x_ hx_ => ?_ | refine Elem1.mk fun e_ he_ => ?_); refine g1_ ?_))
    rw [hc0] at he_
    obtain rfl := Option.some.inj he_
    (refine g1_ ?_; repeat ((first | refine n1_ fun b_ => ?_ | refine n2_ fun b_ => ?_ | refine Nat1.mk fun q_ hq_ => ?_ | refine em_ fun x_ hx_ => ?_ | refine Elem1.mk fun e_ he_ => ?_); refine g1_ ?_))
    exact ⟨(), trivial, rfl, by (first | exact ⟨_, .refl _⟩ | exact wkMem.rfl' | exact ⟨_, .swap _ _ _⟩ | (repeat (first | exact wkMem.nil _ | exact wkMem.rfl' | exact wk_snoc _ _ _ | exact wk_fam (by assumption) _ _ _ | exact wk_famN (by assumption) _ _ _ | (apply wkMem.cons; (case' hl => (repeat (first | exact .here _ _ _ | apply Look.there)))) | apply wkMem.skip)))⟩
  · obtain ⟨c, hc1, hc2, hcr⟩ := h1 (by omega)
    have hcv : nextN s (i + j) = c.toNat := by rw [hnx, hc1]; rfl
    have hx := nextN_le s (i + (j + 1))
    have hn' := hn (i + (j + 1)) (by omega)
    have hve' : v * 10 + (nextN s (i + j) - 48) = (ds.take (j + 1)).foldl stD 0 := by
      rw [take_snoc_of hc2, List.foldl_append, ← hve, hcv]
      rfl
    clear hn hnx hat h1 h2 hve
    rw [← hcv] at hcr
    have hv' : v * 10 + (nextN s (i + j) - 48) < 10 ^ (j + 1) := by rw [Nat.pow_succ]; omega
    (refine g0_ ?_; repeat ((first | refine n1_ fun b_ => ?_ | refine n2_ fun b_ => ?_ | refine Nat1.mk fun q_ hq_ => ?_ | refine em_ fun x_ hx_ => ?_ | refine Elem1.mk fun e_ he_ => ?_); refine g0_ ?_))
    (refine g1_ ?_; repeat ((first | refine n1_ fun b_ => ?_ | refine n2_ fun b_ => ?_ | refine Nat1.mk fun q_ hq_ => ?_ | refine em_ fun x_ hx_ => ?_ | refine Elem1.mk fun e_ he_ => ?_); refine g1_ ?_))
    refine ACalls.lendL hn' (r := []) (.refl _) ?_
    rintro _ -
    (refine g0_ ?_; repeat ((first | refine n1_ fun b_ => ?_ | refine n2_ fun b_ => ?_ | refine Nat1.mk fun q_ hq_ => ?_ | refine em_ fun x_ hx_ => ?_ | refine Elem1.mk fun e_ he_ => ?_); refine g0_ ?_))
    refine nx_ (j + 1, v * 10 + (nextN s (i + j) - 48)) ?_ ?_
    · exact ⟨by omega, hve', hv'⟩
    · ((try dsimp only); (try simp only [List.length_drop, List.length_take, List.length_append, List.length_cons, List.length_nil, List.length_map] at *); omega)
end Go.Eng.YtmodblkagimhlaaDoor
end

/- Splits: any text is read (plain); a part that begins with no number (b_ x_ q_ e_). -/
section
namespace Go.Eng.YtmodblkagimhlaaDoor
open Go Go.Eng Go.Proofs Go.RowKit
variable (W : World)
set_option linter.unusedSimpArgs false
set_option maxRecDepth 100000
set_option linter.unusedVariables false
set_option maxHeartbeats 4000000
/-- A number and where it ends, or where it can't go on. -/
def readN (s : List UInt8) (i : Nat) : Except Nat (Nat × Nat) := if dg4 (s.drop i) = [] ∨ (dg4 (s.drop i)).headD 48 = 48 then .error i else .ok ((dg4 (s.drop i)).foldl stD 0, i + (dg4 (s.drop i)).length)
/-- The parts, each behind a bracket or a comma. -/
def loopK (s : List UInt8) (f : Nat → Except Nat (Spl × Nat)) (cls : Nat) : Nat → Nat → List Spl → Except Nat (List Spl × Nat)
  | 0, a, _ => .error a
  | fuel + 1, a, l => match f (a + 1) with
    | .error e => .error e
    | .ok (k, m) => if nextN s m = cls then .ok (l ++ [k], m + 1) else if nextN s m = 44 then loopK s f cls fuel m (l ++ [k]) else .error m
/-- What stands behind a star. -/
def sizeX (s : List UInt8) (w p : Int) (ks : List Spl) (m : Nat) : Except Nat (Spl × Nat) :=
  if nextN s m = 42 then (match readN s (m + 1) with
    | .error e => .error e
    | .ok (z, m2) => if z = 1 then .error (m2 - 1) else .ok (.mk w p z ks, m2))
  else .ok (.mk w p 1 ks, m)
/-- A split that is read, so deep at most. -/
def readS (s : List UInt8) : Nat → Nat → Except Nat (Spl × Nat)
  | 0, i => if nextN s i = 123 ∨ nextN s i = 91 then .error i else (match readN s i with
    | .error e => .error e
    | .ok (p, m) => sizeX s 0 p [] m)
  | n + 1, i => if nextN s i = 123 ∨ nextN s i = 91 then (match loopK s (readS s n) (if nextN s i = 123 then 125 else 93) (s.length + 1) i [] with
      | .error e => .error e
      | .ok (ks, m) => sizeX s (if nextN s i = 123 then 1 else 2) 0 ks m)
    else (match readN s i with
      | .error e => .error e
      | .ok (p, m) => sizeX s 0 p [] m)
theorem index_none {c : Nat} (hc : c < 256) (h : c ≠ 123 ∧ c ≠ 91) : Lib.indexByte [123, 91] (UInt8.ofNat c) = -1 := by
  have : ∀ n < 256, n ≠ 123 ∧ n ≠ 91 → Lib.indexByte [123, 91] (UInt8.ofNat n) = -1 := by decide +kernel
  exact this c hc h
/-- No number ahead: it panics where it stands. -/
theorem splitX_num (b : Nat) (s : List UInt8) (i : Nat) (d : Int) (hs : s.length ≤ 4000) (hi : i ≤ s.length) (hc : nextN s i ≠ 123 ∧ nextN s i ≠ 91) (hbad : dg4 (s.drop i) = [] ∨ (dg4 (s.drop i)).headD 48 = 48) :
    XCalls Tryd.prog W 51 [.bref b 0, .int .i64 d] [rdM b s i] (fun _ _ => False) (fun v _ => v = stopV i) := by
  have hn := fun j (hj : j ≤ s.length) => nextB_ok W b s j hj hs
  have hnum := numberX_bad W b s i hs hi hbad
  have hix := indexB_ok W (nextN s i)
  rw [index_none (nextN_le s i) hc] at hix
  simp only [rdM] at hn hnum ⊢
  refine xcalls_of_body Tryd.func51 rfl (by decide) rfl ?_
  skip
  refine WpX.seq (WpX.of_vc (DD_ok (by decide)) (by decide) ?_)
  (refine g0_ ?_; repeat ((first | refine n1_ fun b_ => ?_ | refine n2_ fun b_ => ?_ | refine Nat1.mk fun q_ hq_ => ?_ | refine em_ fun x_ hx_ => ?_ | refine Elem1.mk fun e_ he_ => ?_); refine g0_ ?_))
  refine WpX.seq (WpX.of_vc (DD_ok (by decide)) (by decide) ?_)
  (refine g0_ ?_; repeat ((first | refine n1_ fun b_ => ?_ | refine n2_ fun b_ => ?_ | refine Nat1.mk fun q_ hq_ => ?_ | refine em_ fun x_ hx_ => ?_ | refine Elem1.mk fun e_ he_ => ?_); refine g0_ ?_))
  refine WpX.seq (WpX.of_vc (DD_ok (by decide)) (by decide) ?_)
  (refine g0_ ?_; repeat ((first | refine n1_ fun b_ => ?_ | refine n2_ fun b_ => ?_ | refine Nat1.mk fun q_ hq_ => ?_ | refine em_ fun x_ hx_ => ?_ | refine Elem1.mk fun e_ he_ => ?_); refine g0_ ?_))
  refine ACalls.lend1 (hn i (by omega)) (by repeat (first | exact .here _ _ _ | apply Look.there)) ?_
  rintro _ -
  (refine g0_ ?_; repeat ((first | refine n1_ fun b_ => ?_ | refine n2_ fun b_ => ?_ | refine Nat1.mk fun q_ hq_ => ?_ | refine em_ fun x_ hx_ => ?_ | refine Elem1.mk fun e_ he_ => ?_); refine g0_ ?_))
  refine (hix).use ?_; (refine g0_ ?_; repeat ((first | refine n1_ fun b_ => ?_ | refine n2_ fun b_ => ?_ | refine Nat1.mk fun q_ hq_ => ?_ | refine em_ fun x_ hx_ => ?_ | refine Elem1.mk fun e_ he_ => ?_); refine g0_ ?_))
  (refine g1_ ?_; repeat ((first | refine n1_ fun b_ => ?_ | refine n2_ fun b_ => ?_ | refine Nat1.mk fun q_ hq_ => ?_ | refine em_ fun x_ hx_ => ?_ | refine Elem1.mk fun e_ he_ => ?_); refine g1_ ?_))
  refine WpX.seq (WpX.seq (WpX.of_vc (DD_ok (by decide)) (by decide) ?_))
  (refine g0_ ?_; repeat ((first | refine n1_ fun b_ => ?_ | refine n2_ fun b_ => ?_ | refine Nat1.mk fun q_ hq_ => ?_ | refine em_ fun x_ hx_ => ?_ | refine Elem1.mk fun e_ he_ => ?_); refine g0_ ?_))
  refine head_ ?_; (refine g0_ ?_; repeat ((first | refine n1_ fun b_ => ?_ | refine n2_ fun b_ => ?_ | refine Nat1.mk fun q_ hq_ => ?_ | refine em_ fun x_ hx_ => ?_ | refine Elem1.mk fun e_ he_ => ?_); refine g0_ ?_))
  (refine g1_ ?_; repeat ((first | refine n1_ fun b_ => ?_ | refine n2_ fun b_ => ?_ | refine Nat1.mk fun q_ hq_ => ?_ | refine em_ fun x_ hx_ => ?_ | refine Elem1.mk fun e_ he_ => ?_); refine g1_ ?_))
  refine WpX.condF (by rfl) (WpX.panicAt 1 _ rfl rfl (by decide) ?_)
  (refine g0_ ?_; repeat ((first | refine n1_ fun b_ => ?_ | refine n2_ fun b_ => ?_ | refine Nat1.mk fun q_ hq_ => ?_ | refine em_ fun x_ hx_ => ?_ | refine Elem1.mk fun e_ he_ => ?_); refine g0_ ?_))
  first
    | exact (hnum.dies (ρ := [_, _]) (fun _ _ h => h) (.refl _)).mono (fun _ _ h => h) (fun _ _ h => h.1)
    | exact (hnum.dies (ρ := [_, _]) (fun _ _ h => h) (List.perm_middle (l₁ := [_]) (l₂ := [_]))).mono (fun _ _ h => h) (fun _ _ h => h.1)
    | exact (hnum.dies (ρ := [_, _]) (fun _ _ h => h) (List.perm_middle (l₁ := [_, _]) (l₂ := []))).mono (fun _ _ h => h) (fun _ _ h => h.1)
end Go.Eng.YtmodblkagimhlaaDoor
end

/- Splits: any text is read: parts that panic (b_ x_ q_ e_). -/
section
namespace Go.Eng.YtmodblkagimhlaaDoor
open Go Go.Eng Go.Proofs Go.RowKit
variable (W : World)
set_option linter.unusedSimpArgs false
set_option maxRecDepth 100000
set_option linter.unusedVariables false
set_option maxHeartbeats 4000000
/-- Too deep: it panics where it stands. -/
theorem splitX_deep (b : Nat) (s : List UInt8) (i : Nat) (d : Int) (hs : s.length ≤ 4000) (hi : i < s.length) (hc : nextN s i = 123 ∨ nextN s i = 91) (hd : 12 < d) (hd2 : d ≤ 100) :
    XCalls Tryd.prog W 51 [.bref b 0, .int .i64 d] [rdM b s i] (fun _ _ => False) (fun v _ => v = stopV i) := by
  have hn := fun j (hj : j ≤ s.length) => nextB_ok W b s j hj hs
  have hix := indexB_ok W (nextN s i)
  simp only [rdM] at hn ⊢
  rcases hc with hc | hc
  · rw [hc, show Lib.indexByte [123, 91] (UInt8.ofNat 123) = 0 from by decide] at hix
    refine xcalls_of_body Tryd.func51 rfl (by decide) rfl ?_
    skip
    refine WpX.seq (WpX.of_vc (DD_ok (by decide)) (by decide) ?_)
    (refine g0_ ?_; repeat ((first | refine n1_ fun b_ => ?_ | refine n2_ fun b_ => ?_ | refine Nat1.mk fun q_ hq_ => ?_ | refine em_ fun x_ hx_ => ?_ | refine Elem1.mk fun e_ he_ => ?_); refine g0_ ?_))
    refine WpX.seq (WpX.of_vc (DD_ok (by decide)) (by decide) ?_)
    (refine g0_ ?_; repeat ((first | refine n1_ fun b_ => ?_ | refine n2_ fun b_ => ?_ | refine Nat1.mk fun q_ hq_ => ?_ | refine em_ fun x_ hx_ => ?_ | refine Elem1.mk fun e_ he_ => ?_); refine g0_ ?_))
    rename_i bR
    obtain ⟨bT, rfl⟩ : ∃ z, z = b_ := ⟨_, rfl⟩
    refine WpX.seq (WpX.of_vc (DD_ok (by decide)) (by decide) ?_)
    (refine g0_ ?_; repeat ((first | refine n1_ fun b_ => ?_ | refine n2_ fun b_ => ?_ | refine Nat1.mk fun q_ hq_ => ?_ | refine em_ fun x_ hx_ => ?_ | refine Elem1.mk fun e_ he_ => ?_); refine g0_ ?_))
    refine ACalls.lend1 (hn i (by omega)) (by repeat (first | exact .here _ _ _ | apply Look.there)) ?_
    rintro _ -
    rw [hc]
    (refine g0_ ?_; repeat ((first | refine n1_ fun b_ => ?_ | refine n2_ fun b_ => ?_ | refine Nat1.mk fun q_ hq_ => ?_ | refine em_ fun x_ hx_ => ?_ | refine Elem1.mk fun e_ he_ => ?_); refine g0_ ?_))
    refine (hix).use ?_; (refine g0_ ?_; repeat ((first | refine n1_ fun b_ => ?_ | refine n2_ fun b_ => ?_ | refine Nat1.mk fun q_ hq_ => ?_ | refine em_ fun x_ hx_ => ?_ | refine Elem1.mk fun e_ he_ => ?_); refine g0_ ?_))
    (refine g1_ ?_; repeat ((first | refine n1_ fun b_ => ?_ | refine n2_ fun b_ => ?_ | refine Nat1.mk fun q_ hq_ => ?_ | refine em_ fun x_ hx_ => ?_ | refine Elem1.mk fun e_ he_ => ?_); refine g1_ ?_))
    refine WpX.seq (WpX.seq (WpX.of_vc (DD_ok (by decide)) (by decide) ?_))
    (refine g0_ ?_; repeat ((first | refine n1_ fun b_ => ?_ | refine n2_ fun b_ => ?_ | refine Nat1.mk fun q_ hq_ => ?_ | refine em_ fun x_ hx_ => ?_ | refine Elem1.mk fun e_ he_ => ?_); refine g0_ ?_))
    refine head_ ?_; (refine g0_ ?_; repeat ((first | refine n1_ fun b_ => ?_ | refine n2_ fun b_ => ?_ | refine Nat1.mk fun q_ hq_ => ?_ | refine em_ fun x_ hx_ => ?_ | refine Elem1.mk fun e_ he_ => ?_); refine g0_ ?_))
    (refine g1_ ?_; repeat ((first | refine n1_ fun b_ => ?_ | refine n2_ fun b_ => ?_ | refine Nat1.mk fun q_ hq_ => ?_ | refine em_ fun x_ hx_ => ?_ | refine Elem1.mk fun e_ he_ => ?_); refine g1_ ?_))
    refine WpX.condT (by first | rfl | (show PV.bool (decide ((i : Int) < (s.length : Int))) = PV.bool true; rw [decide_eq_true (by omega)])) ?_
    refine WpX.seq (WpX.seq (WpX.of_vc (DD_ok (by decide)) (by decide) ?_))
    (refine g0_ ?_; repeat ((first | refine n1_ fun b_ => ?_ | refine n2_ fun b_ => ?_ | refine Nat1.mk fun q_ hq_ => ?_ | refine em_ fun x_ hx_ => ?_ | refine Elem1.mk fun e_ he_ => ?_); refine g0_ ?_))
    (refine g1_ ?_; repeat ((first | refine n1_ fun b_ => ?_ | refine n2_ fun b_ => ?_ | refine Nat1.mk fun q_ hq_ => ?_ | refine em_ fun x_ hx_ => ?_ | refine Elem1.mk fun e_ he_ => ?_); refine g1_ ?_))
    refine WpX.condT (by first | rfl | (show PV.bool (decide (d > 12)) = PV.bool true; rw [decide_eq_true (by omega)]) | (show PV.bool (decide (12 < d)) = PV.bool true; rw [decide_eq_true (by omega)])) (WpX.panicAt 6 _ rfl rfl (by decide) ?_)
    (refine g0_ ?_; repeat ((first | refine n1_ fun b_ => ?_ | refine n2_ fun b_ => ?_ | refine Nat1.mk fun q_ hq_ => ?_ | refine em_ fun x_ hx_ => ?_ | refine Elem1.mk fun e_ he_ => ?_); refine g0_ ?_))
    exact rfl
  · rw [hc, show Lib.indexByte [123, 91] (UInt8.ofNat 91) = 1 from by decide] at hix
    refine xcalls_of_body Tryd.func51 rfl (by decide) rfl ?_
    skip
    refine WpX.seq (WpX.of_vc (DD_ok (by decide)) (by decide) ?_)
    (refine g0_ ?_; repeat ((first | refine n1_ fun b_ => ?_ | refine n2_ fun b_ => ?_ | refine Nat1.mk fun q_ hq_ => ?_ | refine em_ fun x_ hx_ => ?_ | refine Elem1.mk fun e_ he_ => ?_); refine g0_ ?_))
    refine WpX.seq (WpX.of_vc (DD_ok (by decide)) (by decide) ?_)
    (refine g0_ ?_; repeat ((first | refine n1_ fun b_ => ?_ | refine n2_ fun b_ => ?_ | refine Nat1.mk fun q_ hq_ => ?_ | refine em_ fun x_ hx_ => ?_ | refine Elem1.mk fun e_ he_ => ?_); refine g0_ ?_))
    rename_i bR
    obtain ⟨bT, rfl⟩ : ∃ z, z = b_ := ⟨_, rfl⟩
    refine WpX.seq (WpX.of_vc (DD_ok (by decide)) (by decide) ?_)
    (refine g0_ ?_; repeat ((first | refine n1_ fun b_ => ?_ | refine n2_ fun b_ => ?_ | refine Nat1.mk fun q_ hq_ => ?_ | refine em_ fun x_ hx_ => ?_ | refine Elem1.mk fun e_ he_ => ?_); refine g0_ ?_))
    refine ACalls.lend1 (hn i (by omega)) (by repeat (first | exact .here _ _ _ | apply Look.there)) ?_
    rintro _ -
    rw [hc]
    (refine g0_ ?_; repeat ((first | refine n1_ fun b_ => ?_ | refine n2_ fun b_ => ?_ | refine Nat1.mk fun q_ hq_ => ?_ | refine em_ fun x_ hx_ => ?_ | refine Elem1.mk fun e_ he_ => ?_); refine g0_ ?_))
    refine (hix).use ?_; (refine g0_ ?_; repeat ((first | refine n1_ fun b_ => ?_ | refine n2_ fun b_ => ?_ | refine Nat1.mk fun q_ hq_ => ?_ | refine em_ fun x_ hx_ => ?_ | refine Elem1.mk fun e_ he_ => ?_); refine g0_ ?_))
    (refine g1_ ?_; repeat ((first | refine n1_ fun b_ => ?_ | refine n2_ fun b_ => ?_ | refine Nat1.mk fun q_ hq_ => ?_ | refine em_ fun x_ hx_ => ?_ | refine Elem1.mk fun e_ he_ => ?_); refine g1_ ?_))
    refine WpX.seq (WpX.seq (WpX.of_vc (DD_ok (by decide)) (by decide) ?_))
    (refine g0_ ?_; repeat ((first | refine n1_ fun b_ => ?_ | refine n2_ fun b_ => ?_ | refine Nat1.mk fun q_ hq_ => ?_ | refine em_ fun x_ hx_ => ?_ | refine Elem1.mk fun e_ he_ => ?_); refine g0_ ?_))
    refine head_ ?_; (refine g0_ ?_; repeat ((first | refine n1_ fun b_ => ?_ | refine n2_ fun b_ => ?_ | refine Nat1.mk fun q_ hq_ => ?_ | refine em_ fun x_ hx_ => ?_ | refine Elem1.mk fun e_ he_ => ?_); refine g0_ ?_))
    (refine g1_ ?_; repeat ((first | refine n1_ fun b_ => ?_ | refine n2_ fun b_ => ?_ | refine Nat1.mk fun q_ hq_ => ?_ | refine em_ fun x_ hx_ => ?_ | refine Elem1.mk fun e_ he_ => ?_); refine g1_ ?_))
    refine WpX.condT (by first | rfl | (show PV.bool (decide ((i : Int) < (s.length : Int))) = PV.bool true; rw [decide_eq_true (by omega)])) ?_
    refine WpX.seq (WpX.seq (WpX.of_vc (DD_ok (by decide)) (by decide) ?_))
    (refine g0_ ?_; repeat ((first | refine n1_ fun b_ => ?_ | refine n2_ fun b_ => ?_ | refine Nat1.mk fun q_ hq_ => ?_ | refine em_ fun x_ hx_ => ?_ | refine Elem1.mk fun e_ he_ => ?_); refine g0_ ?_))
    (refine g1_ ?_; repeat ((first | refine n1_ fun b_ => ?_ | refine n2_ fun b_ => ?_ | refine Nat1.mk fun q_ hq_ => ?_ | refine em_ fun x_ hx_ => ?_ | refine Elem1.mk fun e_ he_ => ?_); refine g1_ ?_))
    refine WpX.condT (by first | rfl | (show PV.bool (decide (d > 12)) = PV.bool true; rw [decide_eq_true (by omega)]) | (show PV.bool (decide (12 < d)) = PV.bool true; rw [decide_eq_true (by omega)])) (WpX.panicAt 6 _ rfl rfl (by decide) ?_)
    (refine g0_ ?_; repeat ((first | refine n1_ fun b_ => ?_ | refine n2_ fun b_ => ?_ | refine Nat1.mk fun q_ hq_ => ?_ | refine em_ fun x_ hx_ => ?_ | refine Elem1.mk fun e_ he_ => ?_); refine g0_ ?_))
    exact rfl
theorem next_in {s : List UInt8} {m : Nat} (h : nextN s m = 44) : m < s.length := by
  rcases Nat.lt_or_ge m s.length with h1 | h1
  · exact h1
  · rw [nextN, List.getElem?_eq_none h1] at h
    cases h
/-- A part panics, or what stands behind it does. -/
theorem splitX_kids (b : Nat) (s : List UInt8) (i : Nat) (d : Int) (e : Nat) (hs : s.length ≤ 4000) (hi : i < s.length) (hd : 1 ≤ d ∧ d ≤ 12) (f : Nat → Except Nat (Spl × Nat))
    (hok : ∀ a t m, a ≤ s.length → f a = .ok (t, m) → a < m ∧ m ≤ s.length ∧ ACalls Tryd.prog W 51 [.bref b 0, .int .i64 (d + 1)] [rdM b s a] (SpOut b s m t))
    (hbad : ∀ a x, a ≤ s.length → f a = .error x → XCalls Tryd.prog W 51 [.bref b 0, .int .i64 (d + 1)] [rdM b s a] (fun _ _ => False) (fun v _ => v = stopV x))
    (hc : nextN s i = 123) (h : loopK s f 125 (s.length + 1) i [] = .error e) :
    XCalls Tryd.prog W 51 [.bref b 0, .int .i64 d] [rdM b s i] (fun _ _ => False) (fun v _ => v = stopV e) := by
  have hn := fun j (hj : j ≤ s.length) => nextB_ok W b s j hj hs
  have hix := indexB_ok W (nextN s i)
  simp only [rdM] at hn ⊢
  rw [hc, show Lib.indexByte [123, 91] (UInt8.ofNat 123) = 0 from by decide] at hix
  refine xcalls_of_body Tryd.func51 rfl (by decide) rfl ?_
  skip
  refine WpX.seq (WpX.of_vc (DD_ok (by decide)) (by decide) ?_)
  (refine g0_ ?_; repeat ((first | refine n1_ fun b_ => ?_ | refine n2_ fun b_ => ?_ | refine Nat1.mk fun q_ hq_ => ?_ | refine em_ fun x_ hx_ => ?_ | refine Elem1.mk fun e_ he_ => ?_); refine g0_ ?_))
  refine WpX.seq (WpX.of_vc (DD_ok (by decide)) (by decide) ?_)
  (refine g0_ ?_; repeat ((first | refine n1_ fun b_ => ?_ | refine n2_ fun b_ => ?_ | refine Nat1.mk fun q_ hq_ => ?_ | refine em_ fun x_ hx_ => ?_ | refine Elem1.mk fun e_ he_ => ?_); refine g0_ ?_))
  rename_i bR
  obtain ⟨bT, rfl⟩ : ∃ z, z = b_ := ⟨_, rfl⟩
  refine WpX.seq (WpX.of_vc (DD_ok (by decide)) (by decide) ?_)
  (refine g0_ ?_; repeat ((first | refine n1_ fun b_ => ?_ | refine n2_ fun b_ => ?_ | refine Nat1.mk fun q_ hq_ => ?_ | refine em_ fun x_ hx_ => ?_ | refine Elem1.mk fun e_ he_ => ?_); refine g0_ ?_))
  refine ACalls.lend1 (hn i (by omega)) (by repeat (first | exact .here _ _ _ | apply Look.there)) ?_
  rintro _ -
  rw [hc]
  (refine g0_ ?_; repeat ((first | refine n1_ fun b_ => ?_ | refine n2_ fun b_ => ?_ | refine Nat1.mk fun q_ hq_ => ?_ | refine em_ fun x_ hx_ => ?_ | refine Elem1.mk fun e_ he_ => ?_); refine g0_ ?_))
  refine (hix).use ?_; (refine g0_ ?_; repeat ((first | refine n1_ fun b_ => ?_ | refine n2_ fun b_ => ?_ | refine Nat1.mk fun q_ hq_ => ?_ | refine em_ fun x_ hx_ => ?_ | refine Elem1.mk fun e_ he_ => ?_); refine g0_ ?_))
  (refine g1_ ?_; repeat ((first | refine n1_ fun b_ => ?_ | refine n2_ fun b_ => ?_ | refine Nat1.mk fun q_ hq_ => ?_ | refine em_ fun x_ hx_ => ?_ | refine Elem1.mk fun e_ he_ => ?_); refine g1_ ?_))
  refine WpX.seq (WpX.seq (WpX.of_vc (DD_ok (by decide)) (by decide) ?_))
  (refine g0_ ?_; repeat ((first | refine n1_ fun b_ => ?_ | refine n2_ fun b_ => ?_ | refine Nat1.mk fun q_ hq_ => ?_ | refine em_ fun x_ hx_ => ?_ | refine Elem1.mk fun e_ he_ => ?_); refine g0_ ?_))
  refine head_ ?_; (refine g0_ ?_; repeat ((first | refine n1_ fun b_ => ?_ | refine n2_ fun b_ => ?_ | refine Nat1.mk fun q_ hq_ => ?_ | refine em_ fun x_ hx_ => ?_ | refine Elem1.mk fun e_ he_ => ?_); refine g0_ ?_))
  (refine g1_ ?_; repeat ((first | refine n1_ fun b_ => ?_ | refine n2_ fun b_ => ?_ | refine Nat1.mk fun q_ hq_ => ?_ | refine em_ fun x_ hx_ => ?_ | refine Elem1.mk fun e_ he_ => ?_); refine g1_ ?_))
  refine WpX.condT (by first | rfl | (show PV.bool (decide ((i : Int) < (s.length : Int))) = PV.bool true; rw [decide_eq_true (by omega)])) ?_
  refine WpX.seq (WpX.seq (WpX.of_vc (DD_ok (by decide)) (by decide) ?_))
  (refine g0_ ?_; repeat ((first | refine n1_ fun b_ => ?_ | refine n2_ fun b_ => ?_ | refine Nat1.mk fun q_ hq_ => ?_ | refine em_ fun x_ hx_ => ?_ | refine Elem1.mk fun e_ he_ => ?_); refine g0_ ?_))
  (refine g1_ ?_; repeat ((first | refine n1_ fun b_ => ?_ | refine n2_ fun b_ => ?_ | refine Nat1.mk fun q_ hq_ => ?_ | refine em_ fun x_ hx_ => ?_ | refine Elem1.mk fun e_ he_ => ?_); refine g1_ ?_))
  refine WpX.condF (by first | rfl | (show PV.bool (decide (d > 12)) = PV.bool false; rw [decide_eq_false (by omega)]) | (show PV.bool (decide (12 < d)) = PV.bool false; rw [decide_eq_false (by omega)])) (WpX.skip ?_)
  change WpX _ _ _ _ _ _ _ _ _
  refine WpX.seq (WpX.of_vc (DD_ok (by decide)) (by decide) ?_)
  (refine g0_ ?_; repeat ((first | refine n1_ fun b_ => ?_ | refine n2_ fun b_ => ?_ | refine Nat1.mk fun q_ hq_ => ?_ | refine em_ fun x_ hx_ => ?_ | refine Elem1.mk fun e_ he_ => ?_); refine g0_ ?_))
  refine WpX.block (WpX.loop (fun _ : Nat × Nat × List Spl × Nat => [(0, .bref b 0), (1, .int .i64 d), (4, .bref bR 0), (5, .bref bT 0), (6, .int .i64 0)])
    (fun y => ⟨b, .row 2 [.agg [.str s, .int .i64 (y.1 : Int)]] 0⟩ :: ⟨bT, .row 4 [.agg [.int .i64 1, .int .i64 0, .int .i64 1, accV y.2.1 4 (splsV y.2.2.1)]] 0⟩ :: ⟨bR, .row 4 [.agg [.int .i64 0, .int .i64 0, .int .i64 0, .nils]] 0⟩ :: accM y.2.1 4 (splsV y.2.2.1))
    (fun y => y.1 < s.length ∧ y.2.2.1.length ≤ y.1 ∧ loopK s f 125 y.2.2.2 y.1 y.2.2.1 = .error e ∧ s.length < y.2.2.2 + y.1) (fun y => s.length - y.1) (i, 0, [], s.length + 1)
    (by (repeat (refine wkEnv.cons (by first | rfl | ((conv => lhs; whnf); rfl) | (simp; done)) ?_)); exact wkEnv.nil) (by (first | exact ⟨_, .refl _⟩ | exact wkMem.rfl' | exact ⟨_, .swap _ _ _⟩ | (repeat (first | exact wkMem.nil _ | exact wkMem.rfl' | exact wk_snoc _ _ _ | exact wk_fam (by assumption) _ _ _ | exact wk_famN (by assumption) _ _ _ | (apply wkMem.cons; (case' hl => (repeat (first | exact .here _ _ _ | apply Look.there)))) | apply wkMem.skip)))) ⟨hi, Nat.zero_le _, h, by show s.length < s.length + 1 + i; omega⟩ ?_)
  rintro ⟨a, b', l, fu⟩ ⟨ha, hla, hlp, hfu⟩
  dsimp only at ha hla hlp hfu ⊢
  obtain ⟨fu, rfl⟩ : ∃ k, fu = k + 1 := ⟨fu - 1, by omega⟩
  rw [loopK] at hlp
  cases hfa : f (a + 1) with
  | error x =>
    rw [hfa] at hlp
    obtain rfl : x = e := by injection hlp
    have hkd := hbad (a + 1) x (by omega) hfa
    simp only [rdM] at hkd
    have ha9 : a + 1 ≤ 4000 := by omega
    clear hok hbad hlp hfa hix h
    rcases l with _ | ⟨l0, l⟩
    · refine WpX.block (WpX.seq (WpX.of_vc (DD_ok (by decide)) (by decide) ?_))
      (refine g0_ ?_; repeat ((first | refine n1_ fun b_ => ?_ | refine n2_ fun b_ => ?_ | refine Nat1.mk fun q_ hq_ => ?_ | refine em_ fun x_ hx_ => ?_ | refine Elem1.mk fun e_ he_ => ?_); refine g0_ ?_))
      (refine g1_ ?_; repeat ((first | refine n1_ fun b_ => ?_ | refine n2_ fun b_ => ?_ | refine Nat1.mk fun q_ hq_ => ?_ | refine em_ fun x_ hx_ => ?_ | refine Elem1.mk fun e_ he_ => ?_); refine g1_ ?_))
      refine WpX.seq (WpX.panicDraw (by decide) 5 _ rfl rfl (by decide +kernel) (by decide) ?_)
      (refine g0_ ?_; repeat ((first | refine n1_ fun b_ => ?_ | refine n2_ fun b_ => ?_ | refine Nat1.mk fun q_ hq_ => ?_ | refine em_ fun x_ hx_ => ?_ | refine Elem1.mk fun e_ he_ => ?_); refine g0_ ?_))
      exact (hkd.dies (ρ := _ :: _ :: accM b' 4 (splsV [])) (fun _ _ h => h) (.refl _)).mono (fun _ _ h => h) (fun _ _ h _ => h.1)
    · refine WpX.block (WpX.seq (WpX.of_vc (DD_ok (by decide)) (by decide) ?_))
      (refine g0_ ?_; repeat ((first | refine n1_ fun b_ => ?_ | refine n2_ fun b_ => ?_ | refine Nat1.mk fun q_ hq_ => ?_ | refine em_ fun x_ hx_ => ?_ | refine Elem1.mk fun e_ he_ => ?_); refine g0_ ?_))
      (refine g1_ ?_; repeat ((first | refine n1_ fun b_ => ?_ | refine n2_ fun b_ => ?_ | refine Nat1.mk fun q_ hq_ => ?_ | refine em_ fun x_ hx_ => ?_ | refine Elem1.mk fun e_ he_ => ?_); refine g1_ ?_))
      refine WpX.seq (WpX.panicDraw (by decide) 5 _ rfl rfl (by decide +kernel) (by decide) ?_)
      (refine g0_ ?_; repeat ((first | refine n1_ fun b_ => ?_ | refine n2_ fun b_ => ?_ | refine Nat1.mk fun q_ hq_ => ?_ | refine em_ fun x_ hx_ => ?_ | refine Elem1.mk fun e_ he_ => ?_); refine g0_ ?_))
      exact (hkd.dies (ρ := _ :: _ :: accM b' 4 (splsV (l0 :: l))) (fun _ _ h => h) (.refl _)).mono (fun _ _ h => h) (fun _ _ h _ => h.1)
  | ok y =>
    obtain ⟨k, m⟩ := y
    rw [hfa] at hlp
    dsimp only at hlp
    obtain ⟨hm1, hm2, hkd⟩ := hok (a + 1) k m (by omega) hfa
    by_cases hcl : nextN s m = 125
    · rw [if_pos hcl] at hlp
      cases hlp
    · rw [if_neg hcl] at hlp
      unfold SpOut at hkd
      have ha9 : a + 1 ≤ 4000 := by omega
      have hlm : (List.map encSpl l).length = l.length := List.length_map _
      clear hok hbad hfa hix h
      have hnm := hn m hm2
      have hml : nextN s m = 44 → m < s.length := next_in
      by_cases h44 : nextN s m = 44
      · rw [if_pos h44] at hlp
        replace hml := hml h44
        rcases l with _ | ⟨l0, l⟩
        · obtain ⟨w2, p2, s2, ks2⟩ := k
          have e2 := encSpl_mk w2 p2 s2 ks2
          rw [e2] at hkd
          simp only [rdM] at hkd
          refine WpX.of_vc (DM_ok (by decide)) (by decide) ?_
          (refine g0_ ?_; repeat ((first | refine n1_ fun b_ => ?_ | refine n2_ fun b_ => ?_ | refine Nat1.mk fun q_ hq_ => ?_ | refine em_ fun x_ hx_ => ?_ | refine Elem1.mk fun e_ he_ => ?_); refine g0_ ?_))
          refine Draws11.tree ⟨10, [.new, .new, .new, .new, .new, .turn, .skip, .skip, .skip, .skip], (.one 5 [.again, .again, .keep, .keep, .keep, .keep, .new, .turn, .skip, .skip] (.one 7 [.keep, .keep, .keep, .keep, .keep, .keep, .keep, .keep, .new, .turn] (.one 9 [.keep, .keep, .keep, .keep, .keep, .keep, .keep, .keep, .keep, .keep] .fin))), by decide +kernel, ?_⟩; (refine g0_ ?_; repeat ((first | refine n1_ fun b_ => ?_ | refine n2_ fun b_ => ?_ | refine Nat1.mk fun q_ hq_ => ?_ | refine em_ fun x_ hx_ => ?_ | refine Elem1.mk fun e_ he_ => ?_); refine g0_ ?_))
          refine ACalls.lendK hkd (List.Perm.refl _) ?_
          (refine g0_ ?_; repeat ((first | refine n1_ fun b_ => ?_ | refine n2_ fun b_ => ?_ | refine Nat1.mk fun q_ hq_ => ?_ | refine em_ fun x_ hx_ => ?_ | refine Elem1.mk fun e_ he_ => ?_); refine g0_ ?_))
          refine ACalls.lend1 (hnm) (by repeat (first | exact .here _ _ _ | apply Look.there)) ?_
          rintro _ -
          rw [h44]
          (refine g0_ ?_; repeat ((first | refine n1_ fun b_ => ?_ | refine n2_ fun b_ => ?_ | refine Nat1.mk fun q_ hq_ => ?_ | refine em_ fun x_ hx_ => ?_ | refine Elem1.mk fun e_ he_ => ?_); refine g0_ ?_))
          (refine g1_ ?_; repeat ((first | refine n1_ fun b_ => ?_ | refine n2_ fun b_ => ?_ | refine Nat1.mk fun q_ hq_ => ?_ | refine em_ fun x_ hx_ => ?_ | refine Elem1.mk fun e_ he_ => ?_); refine g1_ ?_))
          rw [← e2]
          try rw [show ∀ v : PV, (List.map encSpl l).length + 1 + [v].length = (List.map encSpl (l ++ [Spl.mk w2 p2 s2 ks2])).length + 1 from fun v => by simp]
          try rw [show (encSpl l0 :: List.map encSpl l) ++ [encSpl (Spl.mk w2 p2 s2 ks2)] = splsV (l0 :: l ++ [Spl.mk w2 p2 s2 ks2]) from by simp [splsV]]
          refine ⟨(m, b_, [] ++ [Spl.mk w2 p2 s2 ks2], fu), ⟨hml, by simp only [List.length_append, List.length_cons, List.length_nil] at *; omega, hlp, ?_⟩, ?_, (by (repeat (refine wkEnv.cons (by first | rfl | ((conv => lhs; whnf); rfl) | (simp; done)) ?_)); exact wkEnv.nil), (by (first | exact ⟨_, .refl _⟩ | exact wkMem.rfl' | exact ⟨_, .swap _ _ _⟩ | (repeat (first | exact wkMem.nil _ | exact wkMem.rfl' | exact wk_snoc _ _ _ | exact wk_fam (by assumption) _ _ _ | exact wk_famN (by assumption) _ _ _ | (apply wkMem.cons; (case' hl => (repeat (first | exact .here _ _ _ | apply Look.there)))) | apply wkMem.skip))))⟩
          · show s.length < fu + m
            omega
          · show s.length - m < s.length - a
            omega
        · simp only [List.map_cons, List.length_cons] at hlm hla
          obtain ⟨w2, p2, s2, ks2⟩ := k
          have e2 := encSpl_mk w2 p2 s2 ks2
          rw [e2] at hkd
          simp only [rdM] at hkd
          refine WpX.of_vc (DM_ok (by decide)) (by decide) ?_
          (refine g0_ ?_; repeat ((first | refine n1_ fun b_ => ?_ | refine n2_ fun b_ => ?_ | refine Nat1.mk fun q_ hq_ => ?_ | refine em_ fun x_ hx_ => ?_ | refine Elem1.mk fun e_ he_ => ?_); refine g0_ ?_))
          refine Draws11.tree ⟨10, [.new, .new, .new, .new, .new, .turn, .skip, .skip, .skip, .skip], (.one 5 [.again, .again, .keep, .keep, .keep, .keep, .new, .turn, .skip, .skip] (.one 7 [.keep, .keep, .keep, .keep, .keep, .keep, .keep, .keep, .new, .turn] (.one 9 [.keep, .keep, .keep, .keep, .keep, .keep, .keep, .keep, .keep, .keep] .fin))), by decide +kernel, ?_⟩; (refine g0_ ?_; repeat ((first | refine n1_ fun b_ => ?_ | refine n2_ fun b_ => ?_ | refine Nat1.mk fun q_ hq_ => ?_ | refine em_ fun x_ hx_ => ?_ | refine Elem1.mk fun e_ he_ => ?_); refine g0_ ?_))
          refine ACalls.lendK hkd (List.Perm.refl _) ?_
          (refine g0_ ?_; repeat ((first | refine n1_ fun b_ => ?_ | refine n2_ fun b_ => ?_ | refine Nat1.mk fun q_ hq_ => ?_ | refine em_ fun x_ hx_ => ?_ | refine Elem1.mk fun e_ he_ => ?_); refine g0_ ?_))
          refine ACalls.lend1 (hnm) (by repeat (first | exact .here _ _ _ | apply Look.there)) ?_
          rintro _ -
          rw [h44]
          (refine g0_ ?_; repeat ((first | refine n1_ fun b_ => ?_ | refine n2_ fun b_ => ?_ | refine Nat1.mk fun q_ hq_ => ?_ | refine em_ fun x_ hx_ => ?_ | refine Elem1.mk fun e_ he_ => ?_); refine g0_ ?_))
          (refine g1_ ?_; repeat ((first | refine n1_ fun b_ => ?_ | refine n2_ fun b_ => ?_ | refine Nat1.mk fun q_ hq_ => ?_ | refine em_ fun x_ hx_ => ?_ | refine Elem1.mk fun e_ he_ => ?_); refine g1_ ?_))
          rw [← e2]
          try rw [show ∀ v : PV, (List.map encSpl l).length + 1 + [v].length = (List.map encSpl (l ++ [Spl.mk w2 p2 s2 ks2])).length + 1 from fun v => by simp]
          try rw [show (encSpl l0 :: List.map encSpl l) ++ [encSpl (Spl.mk w2 p2 s2 ks2)] = splsV (l0 :: l ++ [Spl.mk w2 p2 s2 ks2]) from by simp [splsV]]
          refine ⟨(m, b_, (l0 :: l) ++ [Spl.mk w2 p2 s2 ks2], fu), ⟨hml, by simp only [List.length_append, List.length_cons, List.length_nil] at *; omega, hlp, ?_⟩, ?_, (by (repeat (refine wkEnv.cons (by first | rfl | ((conv => lhs; whnf); rfl) | (simp; done)) ?_)); exact wkEnv.nil), (by (first | exact ⟨_, .refl _⟩ | exact wkMem.rfl' | exact ⟨_, .swap _ _ _⟩ | (repeat (first | exact wkMem.nil _ | exact wkMem.rfl' | exact wk_snoc _ _ _ | exact wk_fam (by assumption) _ _ _ | exact wk_famN (by assumption) _ _ _ | (apply wkMem.cons; (case' hl => (repeat (first | exact .here _ _ _ | apply Look.there)))) | apply wkMem.skip))))⟩
          · show s.length < fu + m
            omega
          · show s.length - m < s.length - a
            omega
      · rw [if_neg h44] at hlp
        obtain rfl : m = e := by injection hlp
        rcases l with _ | ⟨l0, l⟩
        · obtain ⟨w2, p2, s2, ks2⟩ := k
          have e2 := encSpl_mk w2 p2 s2 ks2
          rw [e2] at hkd
          simp only [rdM] at hkd
          refine WpX.block (WpX.seq (WpX.of_vc (DM_ok (by decide)) (by decide) ?_))
          (refine g0_ ?_; repeat ((first | refine n1_ fun b_ => ?_ | refine n2_ fun b_ => ?_ | refine Nat1.mk fun q_ hq_ => ?_ | refine em_ fun x_ hx_ => ?_ | refine Elem1.mk fun e_ he_ => ?_); refine g0_ ?_))
          refine WpX.seq (WpX.of_vc (DM_ok (by decide)) (by decide) ?_)
          (refine g0_ ?_; repeat ((first | refine n1_ fun b_ => ?_ | refine n2_ fun b_ => ?_ | refine Nat1.mk fun q_ hq_ => ?_ | refine em_ fun x_ hx_ => ?_ | refine Elem1.mk fun e_ he_ => ?_); refine g0_ ?_))
          refine Draws11.tree ⟨10, [.new, .new, .new, .new, .new, .turn, .skip, .skip, .skip, .skip], (.one 5 [.again, .again, .keep, .keep, .keep, .keep, .new, .turn, .skip, .skip] (.one 7 [.keep, .keep, .keep, .keep, .keep, .keep, .keep, .keep, .new, .turn] (.one 9 [.keep, .keep, .keep, .keep, .keep, .keep, .keep, .keep, .keep, .keep] .fin))), by decide +kernel, ?_⟩; (refine g0_ ?_; repeat ((first | refine n1_ fun b_ => ?_ | refine n2_ fun b_ => ?_ | refine Nat1.mk fun q_ hq_ => ?_ | refine em_ fun x_ hx_ => ?_ | refine Elem1.mk fun e_ he_ => ?_); refine g0_ ?_))
          refine ACalls.lendK hkd (List.Perm.refl _) ?_
          (refine g0_ ?_; repeat ((first | refine n1_ fun b_ => ?_ | refine n2_ fun b_ => ?_ | refine Nat1.mk fun q_ hq_ => ?_ | refine em_ fun x_ hx_ => ?_ | refine Elem1.mk fun e_ he_ => ?_); refine g0_ ?_))
          refine WpX.seq (WpX.of_vc (DM_ok (by decide)) (by decide) ?_)
          (refine g0_ ?_; repeat ((first | refine n1_ fun b_ => ?_ | refine n2_ fun b_ => ?_ | refine Nat1.mk fun q_ hq_ => ?_ | refine em_ fun x_ hx_ => ?_ | refine Elem1.mk fun e_ he_ => ?_); refine g0_ ?_))
          refine ACalls.lend1 (hnm) (by repeat (first | exact .here _ _ _ | apply Look.there)) ?_
          rintro _ -
          (refine g0_ ?_; repeat ((first | refine n1_ fun b_ => ?_ | refine n2_ fun b_ => ?_ | refine Nat1.mk fun q_ hq_ => ?_ | refine em_ fun x_ hx_ => ?_ | refine Elem1.mk fun e_ he_ => ?_); refine g0_ ?_))
          refine WpX.seq (WpX.of_vc (DM_ok (by decide)) (by decide) ?_)
          (refine g0_ ?_; repeat ((first | refine n1_ fun b_ => ?_ | refine n2_ fun b_ => ?_ | refine Nat1.mk fun q_ hq_ => ?_ | refine em_ fun x_ hx_ => ?_ | refine Elem1.mk fun e_ he_ => ?_); refine g0_ ?_))
          (refine g1_ ?_; repeat ((first | refine n1_ fun b_ => ?_ | refine n2_ fun b_ => ?_ | refine Nat1.mk fun q_ hq_ => ?_ | refine em_ fun x_ hx_ => ?_ | refine Elem1.mk fun e_ he_ => ?_); refine g1_ ?_))
          refine WpX.condF (by first | rfl | (show PV.bool (decide ((nextN s m : Int) = 125)) = PV.bool false; rw [decide_eq_false (by omega)])) (WpX.seq (WpX.of_vc (DM_ok (by decide)) (by decide) ?_))
          (refine g0_ ?_; repeat ((first | refine n1_ fun b_ => ?_ | refine n2_ fun b_ => ?_ | refine Nat1.mk fun q_ hq_ => ?_ | refine em_ fun x_ hx_ => ?_ | refine Elem1.mk fun e_ he_ => ?_); refine g0_ ?_))
          (refine g1_ ?_; repeat ((first | refine n1_ fun b_ => ?_ | refine n2_ fun b_ => ?_ | refine Nat1.mk fun q_ hq_ => ?_ | refine em_ fun x_ hx_ => ?_ | refine Elem1.mk fun e_ he_ => ?_); refine g1_ ?_))
          refine WpX.condT (by first | rfl | (show PV.bool (decide ((nextN s m : Int) ≠ 44)) = PV.bool true; rw [decide_eq_true (by omega)])) (WpX.panicAt 6 _ rfl rfl (by decide) ?_)
          (refine g0_ ?_; repeat ((first | refine n1_ fun b_ => ?_ | refine n2_ fun b_ => ?_ | refine Nat1.mk fun q_ hq_ => ?_ | refine em_ fun x_ hx_ => ?_ | refine Elem1.mk fun e_ he_ => ?_); refine g0_ ?_))
          exact rfl
        · simp only [List.map_cons, List.length_cons] at hlm hla
          obtain ⟨w2, p2, s2, ks2⟩ := k
          have e2 := encSpl_mk w2 p2 s2 ks2
          rw [e2] at hkd
          simp only [rdM] at hkd
          refine WpX.block (WpX.seq (WpX.of_vc (DM_ok (by decide)) (by decide) ?_))
          (refine g0_ ?_; repeat ((first | refine n1_ fun b_ => ?_ | refine n2_ fun b_ => ?_ | refine Nat1.mk fun q_ hq_ => ?_ | refine em_ fun x_ hx_ => ?_ | refine Elem1.mk fun e_ he_ => ?_); refine g0_ ?_))
          refine WpX.seq (WpX.of_vc (DM_ok (by decide)) (by decide) ?_)
          (refine g0_ ?_; repeat ((first | refine n1_ fun b_ => ?_ | refine n2_ fun b_ => ?_ | refine Nat1.mk fun q_ hq_ => ?_ | refine em_ fun x_ hx_ => ?_ | refine Elem1.mk fun e_ he_ => ?_); refine g0_ ?_))
          refine Draws11.tree ⟨10, [.new, .new, .new, .new, .new, .turn, .skip, .skip, .skip, .skip], (.one 5 [.again, .again, .keep, .keep, .keep, .keep, .new, .turn, .skip, .skip] (.one 7 [.keep, .keep, .keep, .keep, .keep, .keep, .keep, .keep, .new, .turn] (.one 9 [.keep, .keep, .keep, .keep, .keep, .keep, .keep, .keep, .keep, .keep] .fin))), by decide +kernel, ?_⟩; (refine g0_ ?_; repeat ((first | refine n1_ fun b_ => ?_ | refine n2_ fun b_ => ?_ | refine Nat1.mk fun q_ hq_ => ?_ | refine em_ fun x_ hx_ => ?_ | refine Elem1.mk fun e_ he_ => ?_); refine g0_ ?_))
          refine ACalls.lendK hkd (List.Perm.refl _) ?_
          (refine g0_ ?_; repeat ((first | refine n1_ fun b_ => ?_ | refine n2_ fun b_ => ?_ | refine Nat1.mk fun q_ hq_ => ?_ | refine em_ fun x_ hx_ => ?_ | refine Elem1.mk fun e_ he_ => ?_); refine g0_ ?_))
          refine WpX.seq (WpX.of_vc (DM_ok (by decide)) (by decide) ?_)
          (refine g0_ ?_; repeat ((first | refine n1_ fun b_ => ?_ | refine n2_ fun b_ => ?_ | refine Nat1.mk fun q_ hq_ => ?_ | refine em_ fun x_ hx_ => ?_ | refine Elem1.mk fun e_ he_ => ?_); refine g0_ ?_))
          refine ACalls.lend1 (hnm) (by repeat (first | exact .here _ _ _ | apply Look.there)) ?_
          rintro _ -
          (refine g0_ ?_; repeat ((first | refine n1_ fun b_ => ?_ | refine n2_ fun b_ => ?_ | refine Nat1.mk fun q_ hq_ => ?_ | refine em_ fun x_ hx_ => ?_ | refine Elem1.mk fun e_ he_ => ?_); refine g0_ ?_))
          refine WpX.seq (WpX.of_vc (DM_ok (by decide)) (by decide) ?_)
          (refine g0_ ?_; repeat ((first | refine n1_ fun b_ => ?_ | refine n2_ fun b_ => ?_ | refine Nat1.mk fun q_ hq_ => ?_ | refine em_ fun x_ hx_ => ?_ | refine Elem1.mk fun e_ he_ => ?_); refine g0_ ?_))
          (refine g1_ ?_; repeat ((first | refine n1_ fun b_ => ?_ | refine n2_ fun b_ => ?_ | refine Nat1.mk fun q_ hq_ => ?_ | refine em_ fun x_ hx_ => ?_ | refine Elem1.mk fun e_ he_ => ?_); refine g1_ ?_))
          refine WpX.condF (by first | rfl | (show PV.bool (decide ((nextN s m : Int) = 125)) = PV.bool false; rw [decide_eq_false (by omega)])) (WpX.seq (WpX.of_vc (DM_ok (by decide)) (by decide) ?_))
          (refine g0_ ?_; repeat ((first | refine n1_ fun b_ => ?_ | refine n2_ fun b_ => ?_ | refine Nat1.mk fun q_ hq_ => ?_ | refine em_ fun x_ hx_ => ?_ | refine Elem1.mk fun e_ he_ => ?_); refine g0_ ?_))
          (refine g1_ ?_; repeat ((first | refine n1_ fun b_ => ?_ | refine n2_ fun b_ => ?_ | refine Nat1.mk fun q_ hq_ => ?_ | refine em_ fun x_ hx_ => ?_ | refine Elem1.mk fun e_ he_ => ?_); refine g1_ ?_))
          refine WpX.condT (by first | rfl | (show PV.bool (decide ((nextN s m : Int) ≠ 44)) = PV.bool true; rw [decide_eq_true (by omega)])) (WpX.panicAt 6 _ rfl rfl (by decide) ?_)
          (refine g0_ ?_; repeat ((first | refine n1_ fun b_ => ?_ | refine n2_ fun b_ => ?_ | refine Nat1.mk fun q_ hq_ => ?_ | refine em_ fun x_ hx_ => ?_ | refine Elem1.mk fun e_ he_ => ?_); refine g0_ ?_))
          exact rfl
/-- .. of such as stand one above the other. -/
theorem splitX_kids2 (b : Nat) (s : List UInt8) (i : Nat) (d : Int) (e : Nat) (hs : s.length ≤ 4000) (hi : i < s.length) (hd : 1 ≤ d ∧ d ≤ 12) (f : Nat → Except Nat (Spl × Nat))
    (hok : ∀ a t m, a ≤ s.length → f a = .ok (t, m) → a < m ∧ m ≤ s.length ∧ ACalls Tryd.prog W 51 [.bref b 0, .int .i64 (d + 1)] [rdM b s a] (SpOut b s m t))
    (hbad : ∀ a x, a ≤ s.length → f a = .error x → XCalls Tryd.prog W 51 [.bref b 0, .int .i64 (d + 1)] [rdM b s a] (fun _ _ => False) (fun v _ => v = stopV x))
    (hc : nextN s i = 91) (h : loopK s f 93 (s.length + 1) i [] = .error e) :
    XCalls Tryd.prog W 51 [.bref b 0, .int .i64 d] [rdM b s i] (fun _ _ => False) (fun v _ => v = stopV e) := by
  have hn := fun j (hj : j ≤ s.length) => nextB_ok W b s j hj hs
  have hix := indexB_ok W (nextN s i)
  simp only [rdM] at hn ⊢
  rw [hc, show Lib.indexByte [123, 91] (UInt8.ofNat 91) = 1 from by decide] at hix
  refine xcalls_of_body Tryd.func51 rfl (by decide) rfl ?_
  skip
  refine WpX.seq (WpX.of_vc (DD_ok (by decide)) (by decide) ?_)
  (refine g0_ ?_; repeat ((first | refine n1_ fun b_ => ?_ | refine n2_ fun b_ => ?_ | refine Nat1.mk fun q_ hq_ => ?_ | refine em_ fun x_ hx_ => ?_ | refine Elem1.mk fun e_ he_ => ?_); refine g0_ ?_))
  refine WpX.seq (WpX.of_vc (DD_ok (by decide)) (by decide) ?_)
  (refine g0_ ?_; repeat ((first | refine n1_ fun b_ => ?_ | refine n2_ fun b_ => ?_ | refine Nat1.mk fun q_ hq_ => ?_ | refine em_ fun x_ hx_ => ?_ | refine Elem1.mk fun e_ he_ => ?_); refine g0_ ?_))
  rename_i bR
  obtain ⟨bT, rfl⟩ : ∃ z, z = b_ := ⟨_, rfl⟩
  refine WpX.seq (WpX.of_vc (DD_ok (by decide)) (by decide) ?_)
  (refine g0_ ?_; repeat ((first | refine n1_ fun b_ => ?_ | refine n2_ fun b_ => ?_ | refine Nat1.mk fun q_ hq_ => ?_ | refine em_ fun x_ hx_ => ?_ | refine Elem1.mk fun e_ he_ => ?_); refine g0_ ?_))
  refine ACalls.lend1 (hn i (by omega)) (by repeat (first | exact .here _ _ _ | apply Look.there)) ?_
  rintro _ -
  rw [hc]
  (refine g0_ ?_; repeat ((first | refine n1_ fun b_ => ?_ | refine n2_ fun b_ => ?_ | refine Nat1.mk fun q_ hq_ => ?_ | refine em_ fun x_ hx_ => ?_ | refine Elem1.mk fun e_ he_ => ?_); refine g0_ ?_))
  refine (hix).use ?_; (refine g0_ ?_; repeat ((first | refine n1_ fun b_ => ?_ | refine n2_ fun b_ => ?_ | refine Nat1.mk fun q_ hq_ => ?_ | refine em_ fun x_ hx_ => ?_ | refine Elem1.mk fun e_ he_ => ?_); refine g0_ ?_))
  (refine g1_ ?_; repeat ((first | refine n1_ fun b_ => ?_ | refine n2_ fun b_ => ?_ | refine Nat1.mk fun q_ hq_ => ?_ | refine em_ fun x_ hx_ => ?_ | refine Elem1.mk fun e_ he_ => ?_); refine g1_ ?_))
  refine WpX.seq (WpX.seq (WpX.of_vc (DD_ok (by decide)) (by decide) ?_))
  (refine g0_ ?_; repeat ((first | refine n1_ fun b_ => ?_ | refine n2_ fun b_ => ?_ | refine Nat1.mk fun q_ hq_ => ?_ | refine em_ fun x_ hx_ => ?_ | refine Elem1.mk fun e_ he_ => ?_); refine g0_ ?_))
  refine head_ ?_; (refine g0_ ?_; repeat ((first | refine n1_ fun b_ => ?_ | refine n2_ fun b_ => ?_ | refine Nat1.mk fun q_ hq_ => ?_ | refine em_ fun x_ hx_ => ?_ | refine Elem1.mk fun e_ he_ => ?_); refine g0_ ?_))
  (refine g1_ ?_; repeat ((first | refine n1_ fun b_ => ?_ | refine n2_ fun b_ => ?_ | refine Nat1.mk fun q_ hq_ => ?_ | refine em_ fun x_ hx_ => ?_ | refine Elem1.mk fun e_ he_ => ?_); refine g1_ ?_))
  refine WpX.condT (by first | rfl | (show PV.bool (decide ((i : Int) < (s.length : Int))) = PV.bool true; rw [decide_eq_true (by omega)])) ?_
  refine WpX.seq (WpX.seq (WpX.of_vc (DD_ok (by decide)) (by decide) ?_))
  (refine g0_ ?_; repeat ((first | refine n1_ fun b_ => ?_ | refine n2_ fun b_ => ?_ | refine Nat1.mk fun q_ hq_ => ?_ | refine em_ fun x_ hx_ => ?_ | refine Elem1.mk fun e_ he_ => ?_); refine g0_ ?_))
  (refine g1_ ?_; repeat ((first | refine n1_ fun b_ => ?_ | refine n2_ fun b_ => ?_ | refine Nat1.mk fun q_ hq_ => ?_ | refine em_ fun x_ hx_ => ?_ | refine Elem1.mk fun e_ he_ => ?_); refine g1_ ?_))
  refine WpX.condF (by first | rfl | (show PV.bool (decide (d > 12)) = PV.bool false; rw [decide_eq_false (by omega)]) | (show PV.bool (decide (12 < d)) = PV.bool false; rw [decide_eq_false (by omega)])) (WpX.skip ?_)
  change WpX _ _ _ _ _ _ _ _ _
  refine WpX.seq (WpX.of_vc (DD_ok (by decide)) (by decide) ?_)
  (refine g0_ ?_; repeat ((first | refine n1_ fun b_ => ?_ | refine n2_ fun b_ => ?_ | refine Nat1.mk fun q_ hq_ => ?_ | refine em_ fun x_ hx_ => ?_ | refine Elem1.mk fun e_ he_ => ?_); refine g0_ ?_))
  refine WpX.block (WpX.loop (fun _ : Nat × Nat × List Spl × Nat => [(0, .bref b 0), (1, .int .i64 d), (4, .bref bR 0), (5, .bref bT 0), (6, .int .i64 1)])
    (fun y => ⟨b, .row 2 [.agg [.str s, .int .i64 (y.1 : Int)]] 0⟩ :: ⟨bT, .row 4 [.agg [.int .i64 2, .int .i64 0, .int .i64 1, accV y.2.1 4 (splsV y.2.2.1)]] 0⟩ :: ⟨bR, .row 4 [.agg [.int .i64 0, .int .i64 0, .int .i64 0, .nils]] 0⟩ :: accM y.2.1 4 (splsV y.2.2.1))
    (fun y => y.1 < s.length ∧ y.2.2.1.length ≤ y.1 ∧ loopK s f 93 y.2.2.2 y.1 y.2.2.1 = .error e ∧ s.length < y.2.2.2 + y.1) (fun y => s.length - y.1) (i, 0, [], s.length + 1)
    (by (repeat (refine wkEnv.cons (by first | rfl | ((conv => lhs; whnf); rfl) | (simp; done)) ?_)); exact wkEnv.nil) (by (first | exact ⟨_, .refl _⟩ | exact wkMem.rfl' | exact ⟨_, .swap _ _ _⟩ | (repeat (first | exact wkMem.nil _ | exact wkMem.rfl' | exact wk_snoc _ _ _ | exact wk_fam (by assumption) _ _ _ | exact wk_famN (by assumption) _ _ _ | (apply wkMem.cons; (case' hl => (repeat (first | exact .here _ _ _ | apply Look.there)))) | apply wkMem.skip)))) ⟨hi, Nat.zero_le _, h, by show s.length < s.length + 1 + i; omega⟩ ?_)
  rintro ⟨a, b', l, fu⟩ ⟨ha, hla, hlp, hfu⟩
  dsimp only at ha hla hlp hfu ⊢
  obtain ⟨fu, rfl⟩ : ∃ k, fu = k + 1 := ⟨fu - 1, by omega⟩
  rw [loopK] at hlp
  cases hfa : f (a + 1) with
  | error x =>
    rw [hfa] at hlp
    obtain rfl : x = e := by injection hlp
    have hkd := hbad (a + 1) x (by omega) hfa
    simp only [rdM] at hkd
    have ha9 : a + 1 ≤ 4000 := by omega
    clear hok hbad hlp hfa hix h
    rcases l with _ | ⟨l0, l⟩
    · refine WpX.block (WpX.seq (WpX.of_vc (DD_ok (by decide)) (by decide) ?_))
      (refine g0_ ?_; repeat ((first | refine n1_ fun b_ => ?_ | refine n2_ fun b_ => ?_ | refine Nat1.mk fun q_ hq_ => ?_ | refine em_ fun x_ hx_ => ?_ | refine Elem1.mk fun e_ he_ => ?_); refine g0_ ?_))
      (refine g1_ ?_; repeat ((first | refine n1_ fun b_ => ?_ | refine n2_ fun b_ => ?_ | refine Nat1.mk fun q_ hq_ => ?_ | refine em_ fun x_ hx_ => ?_ | refine Elem1.mk fun e_ he_ => ?_); refine g1_ ?_))
      refine WpX.seq (WpX.panicDraw (by decide) 5 _ rfl rfl (by decide +kernel) (by decide) ?_)
      (refine g0_ ?_; repeat ((first | refine n1_ fun b_ => ?_ | refine n2_ fun b_ => ?_ | refine Nat1.mk fun q_ hq_ => ?_ | refine em_ fun x_ hx_ => ?_ | refine Elem1.mk fun e_ he_ => ?_); refine g0_ ?_))
      exact (hkd.dies (ρ := _ :: _ :: accM b' 4 (splsV [])) (fun _ _ h => h) (.refl _)).mono (fun _ _ h => h) (fun _ _ h _ => h.1)
    · refine WpX.block (WpX.seq (WpX.of_vc (DD_ok (by decide)) (by decide) ?_))
      (refine g0_ ?_; repeat ((first | refine n1_ fun b_ => ?_ | refine n2_ fun b_ => ?_ | refine Nat1.mk fun q_ hq_ => ?_ | refine em_ fun x_ hx_ => ?_ | refine Elem1.mk fun e_ he_ => ?_); refine g0_ ?_))
      (refine g1_ ?_; repeat ((first | refine n1_ fun b_ => ?_ | refine n2_ fun b_ => ?_ | refine Nat1.mk fun q_ hq_ => ?_ | refine em_ fun x_ hx_ => ?_ | refine Elem1.mk fun e_ he_ => ?_); refine g1_ ?_))
      refine WpX.seq (WpX.panicDraw (by decide) 5 _ rfl rfl (by decide +kernel) (by decide) ?_)
      (refine g0_ ?_; repeat ((first | refine n1_ fun b_ => ?_ | refine n2_ fun b_ => ?_ | refine Nat1.mk fun q_ hq_ => ?_ | refine em_ fun x_ hx_ => ?_ | refine Elem1.mk fun e_ he_ => ?_); refine g0_ ?_))
      exact (hkd.dies (ρ := _ :: _ :: accM b' 4 (splsV (l0 :: l))) (fun _ _ h => h) (.refl _)).mono (fun _ _ h => h) (fun _ _ h _ => h.1)
  | ok y =>
    obtain ⟨k, m⟩ := y
    rw [hfa] at hlp
    dsimp only at hlp
    obtain ⟨hm1, hm2, hkd⟩ := hok (a + 1) k m (by omega) hfa
    by_cases hcl : nextN s m = 93
    · rw [if_pos hcl] at hlp
      cases hlp
    · rw [if_neg hcl] at hlp
      unfold SpOut at hkd
      have ha9 : a + 1 ≤ 4000 := by omega
      have hlm : (List.map encSpl l).length = l.length := List.length_map _
      clear hok hbad hfa hix h
      have hnm := hn m hm2
      have hml : nextN s m = 44 → m < s.length := next_in
      by_cases h44 : nextN s m = 44
      · rw [if_pos h44] at hlp
        replace hml := hml h44
        rcases l with _ | ⟨l0, l⟩
        · obtain ⟨w2, p2, s2, ks2⟩ := k
          have e2 := encSpl_mk w2 p2 s2 ks2
          rw [e2] at hkd
          simp only [rdM] at hkd
          refine WpX.of_vc (DM_ok (by decide)) (by decide) ?_
          (refine g0_ ?_; repeat ((first | refine n1_ fun b_ => ?_ | refine n2_ fun b_ => ?_ | refine Nat1.mk fun q_ hq_ => ?_ | refine em_ fun x_ hx_ => ?_ | refine Elem1.mk fun e_ he_ => ?_); refine g0_ ?_))
          refine Draws11.tree ⟨10, [.new, .new, .new, .new, .new, .turn, .skip, .skip, .skip, .skip], (.one 5 [.again, .again, .keep, .keep, .keep, .keep, .new, .turn, .skip, .skip] (.one 7 [.keep, .keep, .keep, .keep, .keep, .keep, .keep, .keep, .new, .turn] (.one 9 [.keep, .keep, .keep, .keep, .keep, .keep, .keep, .keep, .keep, .keep] .fin))), by decide +kernel, ?_⟩; (refine g0_ ?_; repeat ((first | refine n1_ fun b_ => ?_ | refine n2_ fun b_ => ?_ | refine Nat1.mk fun q_ hq_ => ?_ | refine em_ fun x_ hx_ => ?_ | refine Elem1.mk fun e_ he_ => ?_); refine g0_ ?_))
          refine ACalls.lendK hkd (List.Perm.refl _) ?_
          (refine g0_ ?_; repeat ((first | refine n1_ fun b_ => ?_ | refine n2_ fun b_ => ?_ | refine Nat1.mk fun q_ hq_ => ?_ | refine em_ fun x_ hx_ => ?_ | refine Elem1.mk fun e_ he_ => ?_); refine g0_ ?_))
          refine ACalls.lend1 (hnm) (by repeat (first | exact .here _ _ _ | apply Look.there)) ?_
          rintro _ -
          rw [h44]
          (refine g0_ ?_; repeat ((first | refine n1_ fun b_ => ?_ | refine n2_ fun b_ => ?_ | refine Nat1.mk fun q_ hq_ => ?_ | refine em_ fun x_ hx_ => ?_ | refine Elem1.mk fun e_ he_ => ?_); refine g0_ ?_))
          (refine g1_ ?_; repeat ((first | refine n1_ fun b_ => ?_ | refine n2_ fun b_ => ?_ | refine Nat1.mk fun q_ hq_ => ?_ | refine em_ fun x_ hx_ => ?_ | refine Elem1.mk fun e_ he_ => ?_); refine g1_ ?_))
          rw [← e2]
          try rw [show ∀ v : PV, (List.map encSpl l).length + 1 + [v].length = (List.map encSpl (l ++ [Spl.mk w2 p2 s2 ks2])).length + 1 from fun v => by simp]
          try rw [show (encSpl l0 :: List.map encSpl l) ++ [encSpl (Spl.mk w2 p2 s2 ks2)] = splsV (l0 :: l ++ [Spl.mk w2 p2 s2 ks2]) from by simp [splsV]]
          refine ⟨(m, b_, [] ++ [Spl.mk w2 p2 s2 ks2], fu), ⟨hml, by simp only [List.length_append, List.length_cons, List.length_nil] at *; omega, hlp, ?_⟩, ?_, (by (repeat (refine wkEnv.cons (by first | rfl | ((conv => lhs; whnf); rfl) | (simp; done)) ?_)); exact wkEnv.nil), (by (first | exact ⟨_, .refl _⟩ | exact wkMem.rfl' | exact ⟨_, .swap _ _ _⟩ | (repeat (first | exact wkMem.nil _ | exact wkMem.rfl' | exact wk_snoc _ _ _ | exact wk_fam (by assumption) _ _ _ | exact wk_famN (by assumption) _ _ _ | (apply wkMem.cons; (case' hl => (repeat (first | exact .here _ _ _ | apply Look.there)))) | apply wkMem.skip))))⟩
          · show s.length < fu + m
            omega
          · show s.length - m < s.length - a
            omega
        · simp only [List.map_cons, List.length_cons] at hlm hla
          obtain ⟨w2, p2, s2, ks2⟩ := k
          have e2 := encSpl_mk w2 p2 s2 ks2
          rw [e2] at hkd
          simp only [rdM] at hkd
          refine WpX.of_vc (DM_ok (by decide)) (by decide) ?_
          (refine g0_ ?_; repeat ((first | refine n1_ fun b_ => ?_ | refine n2_ fun b_ => ?_ | refine Nat1.mk fun q_ hq_ => ?_ | refine em_ fun x_ hx_ => ?_ | refine Elem1.mk fun e_ he_ => ?_); refine g0_ ?_))
          refine Draws11.tree ⟨10, [.new, .new, .new, .new, .new, .turn, .skip, .skip, .skip, .skip], (.one 5 [.again, .again, .keep, .keep, .keep, .keep, .new, .turn, .skip, .skip] (.one 7 [.keep, .keep, .keep, .keep, .keep, .keep, .keep, .keep, .new, .turn] (.one 9 [.keep, .keep, .keep, .keep, .keep, .keep, .keep, .keep, .keep, .keep] .fin))), by decide +kernel, ?_⟩; (refine g0_ ?_; repeat ((first | refine n1_ fun b_ => ?_ | refine n2_ fun b_ => ?_ | refine Nat1.mk fun q_ hq_ => ?_ | refine em_ fun x_ hx_ => ?_ | refine Elem1.mk fun e_ he_ => ?_); refine g0_ ?_))
          refine ACalls.lendK hkd (List.Perm.refl _) ?_
          (refine g0_ ?_; repeat ((first | refine n1_ fun b_ => ?_ | refine n2_ fun b_ => ?_ | refine Nat1.mk fun q_ hq_ => ?_ | refine em_ fun x_ hx_ => ?_ | refine Elem1.mk fun e_ he_ => ?_); refine g0_ ?_))
          refine ACalls.lend1 (hnm) (by repeat (first | exact .here _ _ _ | apply Look.there)) ?_
          rintro _ -
          rw [h44]
          (refine g0_ ?_; repeat ((first | refine n1_ fun b_ => ?_ | refine n2_ fun b_ => ?_ | refine Nat1.mk fun q_ hq_ => ?_ | refine em_ fun x_ hx_ => ?_ | refine Elem1.mk fun e_ he_ => ?_); refine g0_ ?_))
          (refine g1_ ?_; repeat ((first | refine n1_ fun b_ => ?_ | refine n2_ fun b_ => ?_ | refine Nat1.mk fun q_ hq_ => ?_ | refine em_ fun x_ hx_ => ?_ | refine Elem1.mk fun e_ he_ => ?_); refine g1_ ?_))
          rw [← e2]
          try rw [show ∀ v : PV, (List.map encSpl l).length + 1 + [v].length = (List.map encSpl (l ++ [Spl.mk w2 p2 s2 ks2])).length + 1 from fun v => by simp]
          try rw [show (encSpl l0 :: List.map encSpl l) ++ [encSpl (Spl.mk w2 p2 s2 ks2)] = splsV (l0 :: l ++ [Spl.mk w2 p2 s2 ks2]) from by simp [splsV]]
          refine ⟨(m, b_, (l0 :: l) ++ [Spl.mk w2 p2 s2 ks2], fu), ⟨hml, by simp only [List.length_append, List.length_cons, List.length_nil] at *; omega, hlp, ?_⟩, ?_, (by (repeat (refine wkEnv.cons (by first | rfl | ((conv => lhs; whnf); rfl) | (simp; done)) ?_)); exact wkEnv.nil), (by (first | exact ⟨_, .refl _⟩ | exact wkMem.rfl' | exact ⟨_, .swap _ _ _⟩ | (repeat (first | exact wkMem.nil _ | exact wkMem.rfl' | exact wk_snoc _ _ _ | exact wk_fam (by assumption) _ _ _ | exact wk_famN (by assumption) _ _ _ | (apply wkMem.cons; (case' hl => (repeat (first | exact .here _ _ _ | apply Look.there)))) | apply wkMem.skip))))⟩
          · show s.length < fu + m
            omega
          · show s.length - m < s.length - a
            omega
      · rw [if_neg h44] at hlp
        obtain rfl : m = e := by injection hlp
        rcases l with _ | ⟨l0, l⟩
        · obtain ⟨w2, p2, s2, ks2⟩ := k
          have e2 := encSpl_mk w2 p2 s2 ks2
          rw [e2] at hkd
          simp only [rdM] at hkd
          refine WpX.block (WpX.seq (WpX.of_vc (DM_ok (by decide)) (by decide) ?_))
          (refine g0_ ?_; repeat ((first | refine n1_ fun b_ => ?_ | refine n2_ fun b_ => ?_ | refine Nat1.mk fun q_ hq_ => ?_ | refine em_ fun x_ hx_ => ?_ | refine Elem1.mk fun e_ he_ => ?_); refine g0_ ?_))
          refine WpX.seq (WpX.of_vc (DM_ok (by decide)) (by decide) ?_)
          (refine g0_ ?_; repeat ((first | refine n1_ fun b_ => ?_ | refine n2_ fun b_ => ?_ | refine Nat1.mk fun q_ hq_ => ?_ | refine em_ fun x_ hx_ => ?_ | refine Elem1.mk fun e_ he_ => ?_); refine g0_ ?_))
          refine Draws11.tree ⟨10, [.new, .new, .new, .new, .new, .turn, .skip, .skip, .skip, .skip], (.one 5 [.again, .again, .keep, .keep, .keep, .keep, .new, .turn, .skip, .skip] (.one 7 [.keep, .keep, .keep, .keep, .keep, .keep, .keep, .keep, .new, .turn] (.one 9 [.keep, .keep, .keep, .keep, .keep, .keep, .keep, .keep, .keep, .keep] .fin))), by decide +kernel, ?_⟩; (refine g0_ ?_; repeat ((first | refine n1_ fun b_ => ?_ | refine n2_ fun b_ => ?_ | refine Nat1.mk fun q_ hq_ => ?_ | refine em_ fun x_ hx_ => ?_ | refine Elem1.mk fun e_ he_ => ?_); refine g0_ ?_))
          refine ACalls.lendK hkd (List.Perm.refl _) ?_
          (refine g0_ ?_; repeat ((first | refine n1_ fun b_ => ?_ | refine n2_ fun b_ => ?_ | refine Nat1.mk fun q_ hq_ => ?_ | refine em_ fun x_ hx_ => ?_ | refine Elem1.mk fun e_ he_ => ?_); refine g0_ ?_))
          refine WpX.seq (WpX.of_vc (DM_ok (by decide)) (by decide) ?_)
          (refine g0_ ?_; repeat ((first | refine n1_ fun b_ => ?_ | refine n2_ fun b_ => ?_ | refine Nat1.mk fun q_ hq_ => ?_ | refine em_ fun x_ hx_ => ?_ | refine Elem1.mk fun e_ he_ => ?_); refine g0_ ?_))
          refine ACalls.lend1 (hnm) (by repeat (first | exact .here _ _ _ | apply Look.there)) ?_
          rintro _ -
          (refine g0_ ?_; repeat ((first | refine n1_ fun b_ => ?_ | refine n2_ fun b_ => ?_ | refine Nat1.mk fun q_ hq_ => ?_ | refine em_ fun x_ hx_ => ?_ | refine Elem1.mk fun e_ he_ => ?_); refine g0_ ?_))
          refine WpX.seq (WpX.of_vc (DM_ok (by decide)) (by decide) ?_)
          (refine g0_ ?_; repeat ((first | refine n1_ fun b_ => ?_ | refine n2_ fun b_ => ?_ | refine Nat1.mk fun q_ hq_ => ?_ | refine em_ fun x_ hx_ => ?_ | refine Elem1.mk fun e_ he_ => ?_); refine g0_ ?_))
          (refine g1_ ?_; repeat ((first | refine n1_ fun b_ => ?_ | refine n2_ fun b_ => ?_ | refine Nat1.mk fun q_ hq_ => ?_ | refine em_ fun x_ hx_ => ?_ | refine Elem1.mk fun e_ he_ => ?_); refine g1_ ?_))
          refine WpX.condF (by first | rfl | (show PV.bool (decide ((nextN s m : Int) = 93)) = PV.bool false; rw [decide_eq_false (by omega)])) (WpX.seq (WpX.of_vc (DM_ok (by decide)) (by decide) ?_))
          (refine g0_ ?_; repeat ((first | refine n1_ fun b_ => ?_ | refine n2_ fun b_ => ?_ | refine Nat1.mk fun q_ hq_ => ?_ | refine em_ fun x_ hx_ => ?_ | refine Elem1.mk fun e_ he_ => ?_); refine g0_ ?_))
          (refine g1_ ?_; repeat ((first | refine n1_ fun b_ => ?_ | refine n2_ fun b_ => ?_ | refine Nat1.mk fun q_ hq_ => ?_ | refine em_ fun x_ hx_ => ?_ | refine Elem1.mk fun e_ he_ => ?_); refine g1_ ?_))
          refine WpX.condT (by first | rfl | (show PV.bool (decide ((nextN s m : Int) ≠ 44)) = PV.bool true; rw [decide_eq_true (by omega)])) (WpX.panicAt 6 _ rfl rfl (by decide) ?_)
          (refine g0_ ?_; repeat ((first | refine n1_ fun b_ => ?_ | refine n2_ fun b_ => ?_ | refine Nat1.mk fun q_ hq_ => ?_ | refine em_ fun x_ hx_ => ?_ | refine Elem1.mk fun e_ he_ => ?_); refine g0_ ?_))
          exact rfl
        · simp only [List.map_cons, List.length_cons] at hlm hla
          obtain ⟨w2, p2, s2, ks2⟩ := k
          have e2 := encSpl_mk w2 p2 s2 ks2
          rw [e2] at hkd
          simp only [rdM] at hkd
          refine WpX.block (WpX.seq (WpX.of_vc (DM_ok (by decide)) (by decide) ?_))
          (refine g0_ ?_; repeat ((first | refine n1_ fun b_ => ?_ | refine n2_ fun b_ => ?_ | refine Nat1.mk fun q_ hq_ => ?_ | refine em_ fun x_ hx_ => ?_ | refine Elem1.mk fun e_ he_ => ?_); refine g0_ ?_))
          refine WpX.seq (WpX.of_vc (DM_ok (by decide)) (by decide) ?_)
          (refine g0_ ?_; repeat ((first | refine n1_ fun b_ => ?_ | refine n2_ fun b_ => ?_ | refine Nat1.mk fun q_ hq_ => ?_ | refine em_ fun x_ hx_ => ?_ | refine Elem1.mk fun e_ he_ => ?_); refine g0_ ?_))
          refine Draws11.tree ⟨10, [.new, .new, .new, .new, .new, .turn, .skip, .skip, .skip, .skip], (.one 5 [.again, .again, .keep, .keep, .keep, .keep, .new, .turn, .skip, .skip] (.one 7 [.keep, .keep, .keep, .keep, .keep, .keep, .keep, .keep, .new, .turn] (.one 9 [.keep, .keep, .keep, .keep, .keep, .keep, .keep, .keep, .keep, .keep] .fin))), by decide +kernel, ?_⟩; (refine g0_ ?_; repeat ((first | refine n1_ fun b_ => ?_ | refine n2_ fun b_ => ?_ | refine Nat1.mk fun q_ hq_ => ?_ | refine em_ fun x_ hx_ => ?_ | refine Elem1.mk fun e_ he_ => ?_); refine g0_ ?_))
          refine ACalls.lendK hkd (List.Perm.refl _) ?_
          (refine g0_ ?_; repeat ((first | refine n1_ fun b_ => ?_ | refine n2_ fun b_ => ?_ | refine Nat1.mk fun q_ hq_ => ?_ | refine em_ fun x_ hx_ => ?_ | refine Elem1.mk fun e_ he_ => ?_); refine g0_ ?_))
          refine WpX.seq (WpX.of_vc (DM_ok (by decide)) (by decide) ?_)
          (refine g0_ ?_; repeat ((first | refine n1_ fun b_ => ?_ | refine n2_ fun b_ => ?_ | refine Nat1.mk fun q_ hq_ => ?_ | refine em_ fun x_ hx_ => ?_ | refine Elem1.mk fun e_ he_ => ?_); refine g0_ ?_))
          refine ACalls.lend1 (hnm) (by repeat (first | exact .here _ _ _ | apply Look.there)) ?_
          rintro _ -
          (refine g0_ ?_; repeat ((first | refine n1_ fun b_ => ?_ | refine n2_ fun b_ => ?_ | refine Nat1.mk fun q_ hq_ => ?_ | refine em_ fun x_ hx_ => ?_ | refine Elem1.mk fun e_ he_ => ?_); refine g0_ ?_))
          refine WpX.seq (WpX.of_vc (DM_ok (by decide)) (by decide) ?_)
          (refine g0_ ?_; repeat ((first | refine n1_ fun b_ => ?_ | refine n2_ fun b_ => ?_ | refine Nat1.mk fun q_ hq_ => ?_ | refine em_ fun x_ hx_ => ?_ | refine Elem1.mk fun e_ he_ => ?_); refine g0_ ?_))
          (refine g1_ ?_; repeat ((first | refine n1_ fun b_ => ?_ | refine n2_ fun b_ => ?_ | refine Nat1.mk fun q_ hq_ => ?_ | refine em_ fun x_ hx_ => ?_ | refine Elem1.mk fun e_ he_ => ?_); refine g1_ ?_))
          refine WpX.condF (by first | rfl | (show PV.bool (decide ((nextN s m : Int) = 93)) = PV.bool false; rw [decide_eq_false (by omega)])) (WpX.seq (WpX.of_vc (DM_ok (by decide)) (by decide) ?_))
          (refine g0_ ?_; repeat ((first | refine n1_ fun b_ => ?_ | refine n2_ fun b_ => ?_ | refine Nat1.mk fun q_ hq_ => ?_ | refine em_ fun x_ hx_ => ?_ | refine Elem1.mk fun e_ he_ => ?_); refine g0_ ?_))
          (refine g1_ ?_; repeat ((first | refine n1_ fun b_ => ?_ | refine n2_ fun b_ => ?_ | refine Nat1.mk fun q_ hq_ => ?_ | refine em_ fun x_ hx_ => ?_ | refine Elem1.mk fun e_ he_ => ?_); refine g1_ ?_))
          refine WpX.condT (by first | rfl | (show PV.bool (decide ((nextN s m : Int) ≠ 44)) = PV.bool true; rw [decide_eq_true (by omega)])) (WpX.panicAt 6 _ rfl rfl (by decide) ?_)
          (refine g0_ ?_; repeat ((first | refine n1_ fun b_ => ?_ | refine n2_ fun b_ => ?_ | refine Nat1.mk fun q_ hq_ => ?_ | refine em_ fun x_ hx_ => ?_ | refine Elem1.mk fun e_ he_ => ?_); refine g0_ ?_))
          exact rfl
end Go.Eng.YtmodblkagimhlaaDoor
end
