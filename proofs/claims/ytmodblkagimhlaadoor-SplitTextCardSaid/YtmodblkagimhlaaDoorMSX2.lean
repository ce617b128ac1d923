/- Texts put together: Spl49, Spl50, Spl51, Spl52. -/
import Derived.Test.YtmodblkagimhlaaDoorMSX1
/- Splits: any text is read: what stands behind a star (b_ x_ q_ e_). -/
section
namespace Go.Eng.YtmodblkagimhlaaDoor
open Go Go.Eng Go.Proofs Go.RowKit
variable (W : World)
set_option linter.unusedSimpArgs false
set_option maxRecDepth 100000
set_option linter.unusedVariables false
set_option maxHeartbeats 4000000
theorem readN_len {s : List UInt8} {i p m : Nat} (h : readN s i = .ok (p, m)) : i < m ∧ m ≤ s.length ∧ p < 10000 ∧ m = i + (dg4 (s.drop i)).length ∧ p = (dg4 (s.drop i)).foldl stD 0 ∧ dg4 (s.drop i) ≠ [] ∧ (dg4 (s.drop i)).headD 48 ≠ 48 := by
  unfold readN at h
  split at h
  · cases h
  · rename_i hn
    obtain ⟨h1, h2⟩ := dg4_len (s.drop i)
    rw [List.length_drop] at h2
    obtain ⟨hn1, hn2⟩ := not_or.1 hn
    have hL : 1 ≤ (dg4 (s.drop i)).length := List.length_pos_iff.2 hn1
    injection h with h
    obtain ⟨rfl, rfl⟩ := Prod.mk.inj h
    have hv : ∀ (l : List UInt8) (a : Nat), (∀ c ∈ l, c.toNat ≤ 57) → l.foldl stD a < (a + 1) * 10 ^ l.length := by
      intro l
      induction l with
      | nil => intro a _; simp
      | cons c l ih =>
        intro a hc
        have h1 := ih (stD a c) fun x hx => hc x (List.mem_cons_of_mem _ hx)
        have h2 := hc c (by simp)
        rw [List.foldl_cons, List.length_cons]
        refine Nat.lt_of_lt_of_le h1 ?_
        rw [Nat.pow_succ, Nat.mul_comm (10 ^ l.length) 10, ← Nat.mul_assoc]
        refine Nat.mul_le_mul_right _ ?_
        unfold stD
        omega
    have h3 := hv (dg4 (s.drop i)) 0 fun c hc => by
      obtain ⟨j, hj, rfl⟩ := List.getElem_of_mem hc
      obtain ⟨c', -, a2, -, a4⟩ := (dg4_at (s.drop i) 4 j (Nat.le_of_lt hj)).1 hj
      have a5 : (dg4 (s.drop i))[j]? = some c' := a2
      rw [List.getElem?_eq_getElem hj] at a5
      rw [Option.some.inj a5]
      exact a4
    rw [Nat.zero_add, Nat.one_mul] at h3
    exact ⟨by omega, by omega, Nat.lt_of_lt_of_le h3 (Nat.pow_le_pow_right (n := 10) (by decide) h1), rfl, rfl, hn1, hn2⟩
theorem readN_bad {s : List UInt8} {i e : Nat} (h : readN s i = .error e) : e = i ∧ (dg4 (s.drop i) = [] ∨ (dg4 (s.drop i)).headD 48 = 48) := by
  unfold readN at h
  split at h
  · rename_i hn
    injection h with h
    exact ⟨h.symm, hn⟩
  · cases h
/-- A pane, and what stands behind it can't be read. -/
theorem splitX_leaf_bad (b : Nat) (s : List UInt8) (i p m e : Nat) (d : Int) (hs : s.length ≤ 4000) (hi : i ≤ s.length) (hc : nextN s i ≠ 123 ∧ nextN s i ≠ 91) (hp : readN s i = .ok (p, m)) (hz : sizeX s 0 p [] m = .error e) :
    XCalls Tryd.prog W 51 [.bref b 0, .int .i64 d] [rdM b s i] (fun _ _ => False) (fun v _ => v = stopV e) := by
  have hn := fun j (hj : j ≤ s.length) => nextB_ok W b s j hj hs
  obtain ⟨hm1, hm2, hp4, hme, hpe, g1, g2⟩ := readN_len hp
  have hnum := numberX_ok W b s i hs hi g1 g2
  rw [← hme, ← hpe] at hnum
  have hix := indexB_ok W (nextN s i)
  rw [index_none (nextN_le s i) hc] at hix
  unfold sizeX at hz
  split at hz
  case isFalse => cases hz
  rename_i h42
  have hml : m < s.length := by
    rcases Nat.lt_or_ge m s.length with h1 | h1
    · exact h1
    · rw [nextN, List.getElem?_eq_none h1] at h42
      cases h42
  clear g1 g2 hp hme hpe
  simp only [rdM] at hn hnum ⊢
  refine xcalls_of_body Tryd.func51 rfl (by decide) rfl ?_
  skip
  refine WpX.seq (WpX.of_vc (DD_ok (by decide)) (by decide) ?_)
  (refine g0_ ?_; repeat ((first | refine n1_ fun b_ => ?_ | refine n2_ fun b_ => ?_ | refine Nat1.mk fun q_ hq_ => ?_ | refine em_ fun x_ hx_ => ?_ | refine Elem1.mk fun e_ he_ => ?_); refine g0_ ?_))
  refine WpX.seq (WpX.of_vc (DD_ok (by decide)) (by decide) ?_)
  (refine g0_ ?_; repeat ((first | refine n1_ fun b_ => ?_ | refine n2_ fun b_ => ?_ | refine Nat1.mk fun q_ hq_ => ?_ | refine em_ fun x_ hx_ => ?_ | refine Elem1.mk fun e_ he_ => ?_); refine g0_ ?_))
  rename_i bR
  obtain ⟨bT, rfl⟩ : ∃ z, z = b_ := ⟨_, rfl⟩
  refine WpX.seq (WpX.of_vc (DD_ok (by decide)) (by decide) ?_)
  (refine g0_ ?_; repeat ((first | refine n1_ fun b_ => ?_ | refine n2_ fun b_ => ?_ | refine Nat1.mk fun q_ hq_ => ?_ | refine em_ fun x_ hx_ => ?_ | refine Elem1.mk fun e_ he_ => ?_); refine g0_ ?_))
  refine ACalls.lend1 (hn i (by omega)) (by repeat (first | exact .here _ _ _ | apply Look.there)) ?_
  rintro _ -
  (refine g0_ ?_; repeat ((first | refine n1_ fun b_ => ?_ | refine n2_ fun b_ => ?_ | refine Nat1.mk fun q_ hq_ => ?_ | refine em_ fun x_ hx_ => ?_ | refine Elem1.mk fun e_ he_ => ?_); refine g0_ ?_))
  refine (hix).use ?_; (refine g0_ ?_; repeat ((first | refine n1_ fun b_ => ?_ | refine n2_ fun b_ => ?_ | refine Nat1.mk fun q_ hq_ => ?_ | refine em_ fun x_ hx_ => ?_ | refine Elem1.mk fun e_ he_ => ?_); refine g0_ ?_))
  (refine g1_ ?_; repeat ((first | refine n1_ fun b_ => ?_ | refine n2_ fun b_ => ?_ | refine Nat1.mk fun q_ hq_ => ?_ | refine em_ fun x_ hx_ => ?_ | refine Elem1.mk fun e_ he_ => ?_); refine g1_ ?_))
  refine WpX.seq (WpX.seq (WpX.of_vc (DD_ok (by decide)) (by decide) ?_))
  (refine g0_ ?_; repeat ((first | refine n1_ fun b_ => ?_ | refine n2_ fun b_ => ?_ | refine Nat1.mk fun q_ hq_ => ?_ | refine em_ fun x_ hx_ => ?_ | refine Elem1.mk fun e_ he_ => ?_); refine g0_ ?_))
  refine head_ ?_; (refine g0_ ?_; repeat ((first | refine n1_ fun b_ => ?_ | refine n2_ fun b_ => ?_ | refine Nat1.mk fun q_ hq_ => ?_ | refine em_ fun x_ hx_ => ?_ | refine Elem1.mk fun e_ he_ => ?_); refine g0_ ?_))
  (refine g1_ ?_; repeat ((first | refine n1_ fun b_ => ?_ | refine n2_ fun b_ => ?_ | refine Nat1.mk fun q_ hq_ => ?_ | refine em_ fun x_ hx_ => ?_ | refine Elem1.mk fun e_ he_ => ?_); refine g1_ ?_))
  refine WpX.condF (by rfl) (WpX.of_vc (DD_ok (by decide)) (by decide) ?_)
  (refine g0_ ?_; repeat ((first | refine n1_ fun b_ => ?_ | refine n2_ fun b_ => ?_ | refine Nat1.mk fun q_ hq_ => ?_ | refine em_ fun x_ hx_ => ?_ | refine Elem1.mk fun e_ he_ => ?_); refine g0_ ?_))
  refine ACalls.lend1 (hnum) (by repeat (first | exact .here _ _ _ | apply Look.there)) ?_
  rintro _ -
  (refine g0_ ?_; repeat ((first | refine n1_ fun b_ => ?_ | refine n2_ fun b_ => ?_ | refine Nat1.mk fun q_ hq_ => ?_ | refine em_ fun x_ hx_ => ?_ | refine Elem1.mk fun e_ he_ => ?_); refine g0_ ?_))
  refine WpX.seq (WpX.seq (WpX.of_vc (DD_ok (by decide)) (by decide) ?_))
  (refine g0_ ?_; repeat ((first | refine n1_ fun b_ => ?_ | refine n2_ fun b_ => ?_ | refine Nat1.mk fun q_ hq_ => ?_ | refine em_ fun x_ hx_ => ?_ | refine Elem1.mk fun e_ he_ => ?_); refine g0_ ?_))
  refine ACalls.lend1 (hn m (by omega)) (by repeat (first | exact .here _ _ _ | apply Look.there)) ?_
  rintro _ -
  rw [h42]
  (refine g0_ ?_; repeat ((first | refine n1_ fun b_ => ?_ | refine n2_ fun b_ => ?_ | refine Nat1.mk fun q_ hq_ => ?_ | refine em_ fun x_ hx_ => ?_ | refine Elem1.mk fun e_ he_ => ?_); refine g0_ ?_))
  (refine g1_ ?_; repeat ((first | refine n1_ fun b_ => ?_ | refine n2_ fun b_ => ?_ | refine Nat1.mk fun q_ hq_ => ?_ | refine em_ fun x_ hx_ => ?_ | refine Elem1.mk fun e_ he_ => ?_); refine g1_ ?_))
  refine WpX.condT (by rfl) ?_
  refine WpX.seq (WpX.of_vc (DD_ok (by decide)) (by decide) ?_)
  (refine g0_ ?_; repeat ((first | refine n1_ fun b_ => ?_ | refine n2_ fun b_ => ?_ | refine Nat1.mk fun q_ hq_ => ?_ | refine em_ fun x_ hx_ => ?_ | refine Elem1.mk fun e_ he_ => ?_); refine g0_ ?_))
  cases hr : readN s (m + 1) with
  | error x =>
    rw [hr] at hz
    obtain rfl : x = e := by injection hz
    obtain ⟨rfl, hbad⟩ := readN_bad hr
    have hnx := numberX_bad W b s (m + 1) hs (by omega) hbad
    simp only [rdM] at hnx
    refine WpX.seq (WpX.panicAt 1 _ rfl rfl (by decide) ?_)
    (refine g0_ ?_; repeat ((first | refine n1_ fun b_ => ?_ | refine n2_ fun b_ => ?_ | refine Nat1.mk fun q_ hq_ => ?_ | refine em_ fun x_ hx_ => ?_ | refine Elem1.mk fun e_ he_ => ?_); refine g0_ ?_))
    first
      | exact (hnx.dies (ρ := [_, _]) (fun _ _ h => h) (.refl _)).mono (fun _ _ h => h) (fun _ _ h => h.1)
      | exact (hnx.dies (ρ := [_, _]) (fun _ _ h => h) (List.perm_middle (l₁ := [_]) (l₂ := [_]))).mono (fun _ _ h => h) (fun _ _ h => h.1)
      | exact (hnx.dies (ρ := [_, _]) (fun _ _ h => h) (List.perm_middle (l₁ := [_, _]) (l₂ := []))).mono (fun _ _ h => h) (fun _ _ h => h.1)
  | ok y =>
    obtain ⟨z, m2⟩ := y
    rw [hr] at hz
    dsimp only at hz
    split at hz
    case isFalse => cases hz
    rename_i hz1
    obtain rfl : m2 - 1 = e := by injection hz
    obtain ⟨k1, k2, k3, k4, k5, k6, k7⟩ := readN_len hr
    have hnx := numberX_ok W b s (m + 1) hs (by omega) k6 k7
    rw [← k4, ← k5] at hnx
    simp only [rdM] at hnx
    subst hz1
    refine WpX.seq (WpX.of_vc (DD_ok (by decide)) (by decide) ?_)
    (refine g0_ ?_; repeat ((first | refine n1_ fun b_ => ?_ | refine n2_ fun b_ => ?_ | refine Nat1.mk fun q_ hq_ => ?_ | refine em_ fun x_ hx_ => ?_ | refine Elem1.mk fun e_ he_ => ?_); refine g0_ ?_))
    refine ACalls.lend1 (hnx) (by repeat (first | exact .here _ _ _ | apply Look.there)) ?_
    rintro _ -
    (refine g0_ ?_; repeat ((first | refine n1_ fun b_ => ?_ | refine n2_ fun b_ => ?_ | refine Nat1.mk fun q_ hq_ => ?_ | refine em_ fun x_ hx_ => ?_ | refine Elem1.mk fun e_ he_ => ?_); refine g0_ ?_))
    refine WpX.seq (WpX.of_vc (DD_ok (by decide)) (by decide) ?_)
    (refine g0_ ?_; repeat ((first | refine n1_ fun b_ => ?_ | refine n2_ fun b_ => ?_ | refine Nat1.mk fun q_ hq_ => ?_ | refine em_ fun x_ hx_ => ?_ | refine Elem1.mk fun e_ he_ => ?_); refine g0_ ?_))
    (refine g1_ ?_; repeat ((first | refine n1_ fun b_ => ?_ | refine n2_ fun b_ => ?_ | refine Nat1.mk fun q_ hq_ => ?_ | refine em_ fun x_ hx_ => ?_ | refine Elem1.mk fun e_ he_ => ?_); refine g1_ ?_))
    refine WpX.condT (by rfl) (WpX.panicAt 7 _ rfl rfl (by decide) ?_)
    (refine g0_ ?_; repeat ((first | refine n1_ fun b_ => ?_ | refine n2_ fun b_ => ?_ | refine Nat1.mk fun q_ hq_ => ?_ | refine em_ fun x_ hx_ => ?_ | refine Elem1.mk fun e_ he_ => ?_); refine g0_ ?_))
    show PV.ifc _ (.agg [.int .i64 ((m2 : Int) - 1)]) = stopV (m2 - 1)
    unfold stopV
    rw [show ((m2 - 1 : Nat) : Int) = (m2 : Int) - 1 by omega]
/-- A pane that is read. -/
theorem splitX_leaf_ok (b : Nat) (s : List UInt8) (i p m m2 : Nat) (t : Spl) (d : Int) (hs : s.length ≤ 4000) (hi : i ≤ s.length) (hc : nextN s i ≠ 123 ∧ nextN s i ≠ 91) (hp : readN s i = .ok (p, m)) (hz : sizeX s 0 p [] m = .ok (t, m2)) :
    m ≤ m2 ∧ m2 ≤ s.length ∧ ACalls Tryd.prog W 51 [.bref b 0, .int .i64 d] [rdM b s i] (SpOut b s m2 t) := by
  have hn := fun j (hj : j ≤ s.length) => nextB_ok W b s j hj hs
  obtain ⟨hm1, hm2, hp4, hme, hpe, g1, g2⟩ := readN_len hp
  have hnum := numberX_ok W b s i hs hi g1 g2
  rw [← hme, ← hpe] at hnum
  have hix := indexB_ok W (nextN s i)
  rw [index_none (nextN_le s i) hc] at hix
  unfold sizeX at hz
  clear g1 g2 hp hme hpe
  split at hz
  · rename_i h42
    have hml : m < s.length := by
      rcases Nat.lt_or_ge m s.length with h1 | h1
      · exact h1
      · rw [nextN, List.getElem?_eq_none h1] at h42
        cases h42
    cases hr : readN s (m + 1) with
    | error x => rw [hr] at hz; cases hz
    | ok y =>
      obtain ⟨z, m3⟩ := y
      rw [hr] at hz
      dsimp only at hz
      split at hz
      · cases hz
      · rename_i hz1
        injection hz with hz
        obtain ⟨rfl, rfl⟩ := Prod.mk.inj hz
        obtain ⟨k1, k2, k3, k4, k5, k6, k7⟩ := readN_len hr
        have hnx := numberX_ok W b s (m + 1) hs (by omega) k6 k7
        rw [← k4, ← k5] at hnx
        clear k4 k5 k6 k7 hr hz
        refine ⟨by omega, k2, ?_⟩
        unfold SpOut
        simp only [rdM] at hn hnum hnx ⊢
        rw [encSpl_mk]
        refine acalls_of_vc (drawOk W) Tryd.func51 rfl (by decide) (by decide) rfl ?_
        (refine g0_ ?_; repeat ((first | refine n1_ fun b_ => ?_ | refine n2_ fun b_ => ?_ | refine Nat1.mk fun q_ hq_ => ?_ | refine em_ fun x_ hx_ => ?_ | refine Elem1.mk fun e_ he_ => ?_); refine g0_ ?_))
        refine ACalls.lend1 (hn i (by omega)) (by repeat (first | exact .here _ _ _ | apply Look.there)) ?_
        rintro _ -
        (refine g0_ ?_; repeat ((first | refine n1_ fun b_ => ?_ | refine n2_ fun b_ => ?_ | refine Nat1.mk fun q_ hq_ => ?_ | refine em_ fun x_ hx_ => ?_ | refine Elem1.mk fun e_ he_ => ?_); refine g0_ ?_))
        refine (hix).use ?_; (refine g0_ ?_; repeat ((first | refine n1_ fun b_ => ?_ | refine n2_ fun b_ => ?_ | refine Nat1.mk fun q_ hq_ => ?_ | refine em_ fun x_ hx_ => ?_ | refine Elem1.mk fun e_ he_ => ?_); refine g0_ ?_))
        refine head_ ?_; (refine g0_ ?_; repeat ((first | refine n1_ fun b_ => ?_ | refine n2_ fun b_ => ?_ | refine Nat1.mk fun q_ hq_ => ?_ | refine em_ fun x_ hx_ => ?_ | refine Elem1.mk fun e_ he_ => ?_); refine g0_ ?_))
        (refine g1_ ?_; repeat ((first | refine n1_ fun b_ => ?_ | refine n2_ fun b_ => ?_ | refine Nat1.mk fun q_ hq_ => ?_ | refine em_ fun x_ hx_ => ?_ | refine Elem1.mk fun e_ he_ => ?_); refine g1_ ?_))
        refine ACalls.lend1 (hnum) (by repeat (first | exact .here _ _ _ | apply Look.there)) ?_
        rintro _ -
        (refine g0_ ?_; repeat ((first | refine n1_ fun b_ => ?_ | refine n2_ fun b_ => ?_ | refine Nat1.mk fun q_ hq_ => ?_ | refine em_ fun x_ hx_ => ?_ | refine Elem1.mk fun e_ he_ => ?_); refine g0_ ?_))
        refine ACalls.lend1 (hn m (by omega)) (by repeat (first | exact .here _ _ _ | apply Look.there)) ?_
        rintro _ -
        rw [h42]
        (refine g0_ ?_; repeat ((first | refine n1_ fun b_ => ?_ | refine n2_ fun b_ => ?_ | refine Nat1.mk fun q_ hq_ => ?_ | refine em_ fun x_ hx_ => ?_ | refine Elem1.mk fun e_ he_ => ?_); refine g0_ ?_))
        refine ACalls.lend1 (hnx) (by repeat (first | exact .here _ _ _ | apply Look.there)) ?_
        rintro _ -
        (refine g0_ ?_; repeat ((first | refine n1_ fun b_ => ?_ | refine n2_ fun b_ => ?_ | refine Nat1.mk fun q_ hq_ => ?_ | refine em_ fun x_ hx_ => ?_ | refine Elem1.mk fun e_ he_ => ?_); refine g0_ ?_))
        (refine g1_ ?_; repeat ((first | refine n1_ fun b_ => ?_ | refine n2_ fun b_ => ?_ | refine Nat1.mk fun q_ hq_ => ?_ | refine em_ fun x_ hx_ => ?_ | refine Elem1.mk fun e_ he_ => ?_); refine g1_ ?_))
        exact ⟨[_, _], List.perm_middle (l₁ := [_, _]), frz_leafZ p z⟩
  · rename_i h42
    injection hz with hz
    obtain ⟨rfl, rfl⟩ := Prod.mk.inj hz
    refine ⟨Nat.le_refl _, hm2, ?_⟩
    unfold SpOut
    simp only [rdM] at hn hnum ⊢
    rw [encSpl_mk]
    refine acalls_of_vc (drawOk W) Tryd.func51 rfl (by decide) (by decide) rfl ?_
    (refine g0_ ?_; repeat ((first | refine n1_ fun b_ => ?_ | refine n2_ fun b_ => ?_ | refine Nat1.mk fun q_ hq_ => ?_ | refine em_ fun x_ hx_ => ?_ | refine Elem1.mk fun e_ he_ => ?_); refine g0_ ?_))
    refine ACalls.lend1 (hn i (by omega)) (by repeat (first | exact .here _ _ _ | apply Look.there)) ?_
    rintro _ -
    (refine g0_ ?_; repeat ((first | refine n1_ fun b_ => ?_ | refine n2_ fun b_ => ?_ | refine Nat1.mk fun q_ hq_ => ?_ | refine em_ fun x_ hx_ => ?_ | refine Elem1.mk fun e_ he_ => ?_); refine g0_ ?_))
    refine (hix).use ?_; (refine g0_ ?_; repeat ((first | refine n1_ fun b_ => ?_ | refine n2_ fun b_ => ?_ | refine Nat1.mk fun q_ hq_ => ?_ | refine em_ fun x_ hx_ => ?_ | refine Elem1.mk fun e_ he_ => ?_); refine g0_ ?_))
    refine head_ ?_; (refine g0_ ?_; repeat ((first | refine n1_ fun b_ => ?_ | refine n2_ fun b_ => ?_ | refine Nat1.mk fun q_ hq_ => ?_ | refine em_ fun x_ hx_ => ?_ | refine Elem1.mk fun e_ he_ => ?_); refine g0_ ?_))
    (refine g1_ ?_; repeat ((first | refine n1_ fun b_ => ?_ | refine n2_ fun b_ => ?_ | refine Nat1.mk fun q_ hq_ => ?_ | refine em_ fun x_ hx_ => ?_ | refine Elem1.mk fun e_ he_ => ?_); refine g1_ ?_))
    refine ACalls.lend1 (hnum) (by repeat (first | exact .here _ _ _ | apply Look.there)) ?_
    rintro _ -
    (refine g0_ ?_; repeat ((first | refine n1_ fun b_ => ?_ | refine n2_ fun b_ => ?_ | refine Nat1.mk fun q_ hq_ => ?_ | refine em_ fun x_ hx_ => ?_ | refine Elem1.mk fun e_ he_ => ?_); refine g0_ ?_))
    refine ACalls.lend1 (hn m (by omega)) (by repeat (first | exact .here _ _ _ | apply Look.there)) ?_
    rintro _ -
    (refine g0_ ?_; repeat ((first | refine n1_ fun b_ => ?_ | refine n2_ fun b_ => ?_ | refine Nat1.mk fun q_ hq_ => ?_ | refine em_ fun x_ hx_ => ?_ | refine Elem1.mk fun e_ he_ => ?_); refine g0_ ?_))
    (refine g1_ ?_; repeat ((first | refine n1_ fun b_ => ?_ | refine n2_ fun b_ => ?_ | refine Nat1.mk fun q_ hq_ => ?_ | refine em_ fun x_ hx_ => ?_ | refine Elem1.mk fun e_ he_ => ?_); refine g1_ ?_))
    exact ⟨[_, _], .swap _ _ _, frz_leafZ p 1⟩
end Go.Eng.YtmodblkagimhlaaDoor
end

/- Splits: any text is read: parts that are read (b_ x_ q_ e_). -/
section
namespace Go.Eng.YtmodblkagimhlaaDoor
open Go Go.Eng Go.Proofs Go.RowKit
variable (W : World)
set_option linter.unusedSimpArgs false
set_option maxRecDepth 100000
set_option linter.unusedVariables false
set_option maxHeartbeats 4000000
theorem next_lt {s : List UInt8} {m c : Nat} (h : nextN s m = c) (hc : c ≠ 0) : m < s.length := by
  rcases Nat.lt_or_ge m s.length with h1 | h1
  · exact h1
  · rw [nextN, List.getElem?_eq_none h1] at h
    exact absurd h.symm hc
/-- Parts that are read, and what stands behind them. -/
theorem splitX_kids_ok (b : Nat) (s : List UInt8) (i : Nat) (d : Int) (ks : List Spl) (m m2 : Nat) (t : Spl) (hs : s.length ≤ 4000) (hi : i < s.length) (hd : 1 ≤ d ∧ d ≤ 12) (f : Nat → Except Nat (Spl × Nat))
    (hok : ∀ a t m, a ≤ s.length → f a = .ok (t, m) → a < m ∧ m ≤ s.length ∧ ACalls Tryd.prog W 51 [.bref b 0, .int .i64 (d + 1)] [rdM b s a] (SpOut b s m t))
    (hc : nextN s i = 123) (h : loopK s f 125 (s.length + 1) i [] = .ok (ks, m)) (hz : sizeX s 1 0 ks m = .ok (t, m2)) :
    ACalls Tryd.prog W 51 [.bref b 0, .int .i64 d] [rdM b s i] (SpOut b s m2 t) := by
  have hn := fun j (hj : j ≤ s.length) => nextB_ok W b s j hj hs
  have hix := indexB_ok W (nextN s i)
  rw [hc, show Lib.indexByte [123, 91] (UInt8.ofNat 123) = 0 from by decide] at hix
  unfold SpOut at hok ⊢
  simp only [rdM] at hn hok ⊢
  refine acalls_of_vc (DM_ok (by decide)) Tryd.func51 rfl (by decide) (by decide) rfl ?_
  (refine g0_ ?_; repeat ((first | refine n1_ fun b_ => ?_ | refine n2_ fun b_ => ?_ | refine Nat1.mk fun q_ hq_ => ?_ | refine em_ fun x_ hx_ => ?_ | refine Elem1.mk fun e_ he_ => ?_); refine g0_ ?_))
  rename_i bR
  obtain ⟨bT, rfl⟩ : ∃ z, z = b_ := ⟨_, rfl⟩
  refine ACalls.lend1 (hn i (by omega)) (by repeat (first | exact .here _ _ _ | apply Look.there)) ?_
  rintro _ -
  rw [hc]
  (refine g0_ ?_; repeat ((first | refine n1_ fun b_ => ?_ | refine n2_ fun b_ => ?_ | refine Nat1.mk fun q_ hq_ => ?_ | refine em_ fun x_ hx_ => ?_ | refine Elem1.mk fun e_ he_ => ?_); refine g0_ ?_))
  refine (hix).use ?_; (refine g0_ ?_; repeat ((first | refine n1_ fun b_ => ?_ | refine n2_ fun b_ => ?_ | refine Nat1.mk fun q_ hq_ => ?_ | refine em_ fun x_ hx_ => ?_ | refine Elem1.mk fun e_ he_ => ?_); refine g0_ ?_))
  refine headT_ (head_ ?_); (refine g0_ ?_; repeat ((first | refine n1_ fun b_ => ?_ | refine n2_ fun b_ => ?_ | refine Nat1.mk fun q_ hq_ => ?_ | refine em_ fun x_ hx_ => ?_ | refine Elem1.mk fun e_ he_ => ?_); refine g0_ ?_))
  (refine g1_ ?_; repeat ((first | refine n1_ fun b_ => ?_ | refine n2_ fun b_ => ?_ | refine Nat1.mk fun q_ hq_ => ?_ | refine em_ fun x_ hx_ => ?_ | refine Elem1.mk fun e_ he_ => ?_); refine g1_ ?_))
  refine' loopI (α := Nat × Nat × (List Spl) × Nat) (fun (a, b', l, fu) => []) [(0, _), (1, _), (4, _), (5, _), (6, _)] (fun (a, b', l, fu) => ⟨b, .row 2 [.agg [.str s, .int .i64 (a : Int)]] 0⟩ :: ⟨bT, .row 4 [.agg [.int .i64 1, .int .i64 0, .int .i64 1, accV b' 4 (splsV l)]] 0⟩ :: ⟨bR, .row 4 [.agg [.int .i64 0, .int .i64 0, .int .i64 0, .nils]] 0⟩ :: accM b' 4 (splsV l)) (fun (a, b', l, fu) => a < s.length ∧ l.length ≤ a ∧ loopK s f 125 fu a l = .ok (ks, m) ∧ s.length < fu + a) (fun (a, b', l, fu) => s.length - a) (i, 0, [], s.length + 1) ?_ ?_
  · exact ⟨hi, Nat.zero_le _, h, by omega⟩
  rintro ⟨a, b', l, fu⟩ ⟨ha, hla, hlp, hfu⟩
  obtain ⟨fu, rfl⟩ : ∃ k, fu = k + 1 := ⟨fu - 1, by omega⟩
  rw [loopK] at hlp
  cases hfa : f (a + 1) with
  | error x => rw [hfa] at hlp; cases hlp
  | ok y =>
    obtain ⟨k, m'⟩ := y
    rw [hfa] at hlp
    dsimp only at hlp
    obtain ⟨hm1, hm2, hkd⟩ := hok (a + 1) k m' (by omega) hfa
    have ha9 : a + 1 ≤ 4000 := by omega
    have hlm : (List.map encSpl l).length = l.length := List.length_map _
    obtain ⟨w2, p2, s2, ks2⟩ := k
    have e2 := encSpl_mk w2 p2 s2 ks2
    rw [e2] at hkd
    have hnm := hn m' hm2
    clear hok hfa hix h
    by_cases hcl : nextN s m' = 125
    · rw [if_pos hcl] at hlp
      rcases l with _ | ⟨l0, l⟩
      · injection hlp with hlp
        obtain ⟨hks, rfl⟩ := Prod.mk.inj hlp
        have hml := next_lt hcl (by decide)
        have hn1 := hn (m' + 1) (by omega)
        have hnh : Hide (ks = _) := ⟨hks.symm⟩
        clear hks hlp
        unfold sizeX at hz
        split at hz
        · rename_i h42
          have hmz := next_lt h42 (by decide)
          cases hr : readN s (m' + 1 + 1) with
          | error x => rw [hr] at hz; cases hz
          | ok y =>
            obtain ⟨z, m3⟩ := y
            rw [hr] at hz
            dsimp only at hz
            split at hz
            · cases hz
            · rename_i hz1
              injection hz with hz
              obtain ⟨rfl, rfl⟩ := Prod.mk.inj hz
              obtain ⟨k1, k2, k3, k4, k5, k6, k7⟩ := readN_len hr
              have hnx := numberX_ok W b s (m' + 1 + 1) hs (by omega) k6 k7
              rw [← k4, ← k5] at hnx
              clear k4 k5 k6 k7 hr hz
              simp only [rdM] at hnx
              rw [encSpl_mk]
              (refine g0_ ?_; repeat ((first | refine n1_ fun b_ => ?_ | refine n2_ fun b_ => ?_ | refine Nat1.mk fun q_ hq_ => ?_ | refine em_ fun x_ hx_ => ?_ | refine Elem1.mk fun e_ he_ => ?_); refine g0_ ?_))
              refine Draws11.tree ⟨10, [.new, .new, .new, .new, .new, .turn, .skip, .skip, .skip, .skip], (.one 5 [.again, .again, .keep, .keep, .keep, .keep, .new, .turn, .skip, .skip] (.one 7 [.keep, .keep, .keep, .keep, .keep, .keep, .keep, .keep, .new, .turn] (.one 9 [.keep, .keep, .keep, .keep, .keep, .keep, .keep, .keep, .keep, .keep] .fin))), by decide +kernel, ?_⟩; (refine g0_ ?_; repeat ((first | refine n1_ fun b_ => ?_ | refine n2_ fun b_ => ?_ | refine Nat1.mk fun q_ hq_ => ?_ | refine em_ fun x_ hx_ => ?_ | refine Elem1.mk fun e_ he_ => ?_); refine g0_ ?_))
              refine ACalls.lendK hkd (List.Perm.refl _) ?_
              (refine g0_ ?_; repeat ((first | refine n1_ fun b_ => ?_ | refine n2_ fun b_ => ?_ | refine Nat1.mk fun q_ hq_ => ?_ | refine em_ fun x_ hx_ => ?_ | refine Elem1.mk fun e_ he_ => ?_); refine g0_ ?_))
              refine ACalls.lend1 (hnm) (by repeat (first | exact .here _ _ _ | apply Look.there)) ?_
              rintro _ -
              rw [hcl]
              (refine g0_ ?_; repeat ((first | refine n1_ fun b_ => ?_ | refine n2_ fun b_ => ?_ | refine Nat1.mk fun q_ hq_ => ?_ | refine em_ fun x_ hx_ => ?_ | refine Elem1.mk fun e_ he_ => ?_); refine g0_ ?_))
              (refine g1_ ?_; repeat ((first | refine n1_ fun b_ => ?_ | refine n2_ fun b_ => ?_ | refine Nat1.mk fun q_ hq_ => ?_ | refine em_ fun x_ hx_ => ?_ | refine Elem1.mk fun e_ he_ => ?_); refine g1_ ?_))
              refine ACalls.lend1 (hn1) (by repeat (first | exact .here _ _ _ | apply Look.there)) ?_
              rintro _ -
              rw [h42]
              (refine g0_ ?_; repeat ((first | refine n1_ fun b_ => ?_ | refine n2_ fun b_ => ?_ | refine Nat1.mk fun q_ hq_ => ?_ | refine em_ fun x_ hx_ => ?_ | refine Elem1.mk fun e_ he_ => ?_); refine g0_ ?_))
              refine ACalls.lend1 (hnx) (by repeat (first | exact .here _ _ _ | apply Look.there)) ?_
              rintro _ -
              (refine g0_ ?_; repeat ((first | refine n1_ fun b_ => ?_ | refine n2_ fun b_ => ?_ | refine Nat1.mk fun q_ hq_ => ?_ | refine em_ fun x_ hx_ => ?_ | refine Elem1.mk fun e_ he_ => ?_); refine g0_ ?_))
              (refine g1_ ?_; repeat ((first | refine n1_ fun b_ => ?_ | refine n2_ fun b_ => ?_ | refine Nat1.mk fun q_ hq_ => ?_ | refine em_ fun x_ hx_ => ?_ | refine Elem1.mk fun e_ he_ => ?_); refine g1_ ?_))
              exact ⟨[_, _, _], List.perm_middle (l₁ := [_, _]), frz_last (by rw [Hide.out hnh]; simp [e2]) (.there _ _ _ _ _ (.there _ _ _ _ _ (.here _ _ _))) (by simp)⟩
        · rename_i h42
          injection hz with hz
          obtain ⟨rfl, rfl⟩ := Prod.mk.inj hz
          rw [encSpl_mk]
          (refine g0_ ?_; repeat ((first | refine n1_ fun b_ => ?_ | refine n2_ fun b_ => ?_ | refine Nat1.mk fun q_ hq_ => ?_ | refine em_ fun x_ hx_ => ?_ | refine Elem1.mk fun e_ he_ => ?_); refine g0_ ?_))
          refine Draws11.tree ⟨10, [.new, .new, .new, .new, .new, .turn, .skip, .skip, .skip, .skip], (.one 5 [.again, .again, .keep, .keep, .keep, .keep, .new, .turn, .skip, .skip] (.one 7 [.keep, .keep, .keep, .keep, .keep, .keep, .keep, .keep, .new, .turn] (.one 9 [.keep, .keep, .keep, .keep, .keep, .keep, .keep, .keep, .keep, .keep] .fin))), by decide +kernel, ?_⟩; (refine g0_ ?_; repeat ((first | refine n1_ fun b_ => ?_ | refine n2_ fun b_ => ?_ | refine Nat1.mk fun q_ hq_ => ?_ | refine em_ fun x_ hx_ => ?_ | refine Elem1.mk fun e_ he_ => ?_); refine g0_ ?_))
          refine ACalls.lendK hkd (List.Perm.refl _) ?_
          (refine g0_ ?_; repeat ((first | refine n1_ fun b_ => ?_ | refine n2_ fun b_ => ?_ | refine Nat1.mk fun q_ hq_ => ?_ | refine em_ fun x_ hx_ => ?_ | refine Elem1.mk fun e_ he_ => ?_); refine g0_ ?_))
          refine ACalls.lend1 (hnm) (by repeat (first | exact .here _ _ _ | apply Look.there)) ?_
          rintro _ -
          rw [hcl]
          (refine g0_ ?_; repeat ((first | refine n1_ fun b_ => ?_ | refine n2_ fun b_ => ?_ | refine Nat1.mk fun q_ hq_ => ?_ | refine em_ fun x_ hx_ => ?_ | refine Elem1.mk fun e_ he_ => ?_); refine g0_ ?_))
          (refine g1_ ?_; repeat ((first | refine n1_ fun b_ => ?_ | refine n2_ fun b_ => ?_ | refine Nat1.mk fun q_ hq_ => ?_ | refine em_ fun x_ hx_ => ?_ | refine Elem1.mk fun e_ he_ => ?_); refine g1_ ?_))
          refine ACalls.lend1 (hn1) (by repeat (first | exact .here _ _ _ | apply Look.there)) ?_
          rintro _ -
          (refine g0_ ?_; repeat ((first | refine n1_ fun b_ => ?_ | refine n2_ fun b_ => ?_ | refine Nat1.mk fun q_ hq_ => ?_ | refine em_ fun x_ hx_ => ?_ | refine Elem1.mk fun e_ he_ => ?_); refine g0_ ?_))
          (refine g1_ ?_; repeat ((first | refine n1_ fun b_ => ?_ | refine n2_ fun b_ => ?_ | refine Nat1.mk fun q_ hq_ => ?_ | refine em_ fun x_ hx_ => ?_ | refine Elem1.mk fun e_ he_ => ?_); refine g1_ ?_))
          exact ⟨[_, _, _], .swap _ _ _, frz_last (by rw [Hide.out hnh]; simp [e2]) (.there _ _ _ _ _ (.there _ _ _ _ _ (.here _ _ _))) (by simp)⟩
      · simp only [List.map_cons, List.length_cons] at hlm hla
        injection hlp with hlp
        obtain ⟨hks, rfl⟩ := Prod.mk.inj hlp
        have hml := next_lt hcl (by decide)
        have hn1 := hn (m' + 1) (by omega)
        have hnh : Hide (ks = _) := ⟨hks.symm⟩
        clear hks hlp
        unfold sizeX at hz
        split at hz
        · rename_i h42
          have hmz := next_lt h42 (by decide)
          cases hr : readN s (m' + 1 + 1) with
          | error x => rw [hr] at hz; cases hz
          | ok y =>
            obtain ⟨z, m3⟩ := y
            rw [hr] at hz
            dsimp only at hz
            split at hz
            · cases hz
            · rename_i hz1
              injection hz with hz
              obtain ⟨rfl, rfl⟩ := Prod.mk.inj hz
              obtain ⟨k1, k2, k3, k4, k5, k6, k7⟩ := readN_len hr
              have hnx := numberX_ok W b s (m' + 1 + 1) hs (by omega) k6 k7
              rw [← k4, ← k5] at hnx
              clear k4 k5 k6 k7 hr hz
              simp only [rdM] at hnx
              rw [encSpl_mk]
              (refine g0_ ?_; repeat ((first | refine n1_ fun b_ => ?_ | refine n2_ fun b_ => ?_ | refine Nat1.mk fun q_ hq_ => ?_ | refine em_ fun x_ hx_ => ?_ | refine Elem1.mk fun e_ he_ => ?_); refine g0_ ?_))
              refine Draws11.tree ⟨10, [.new, .new, .new, .new, .new, .turn, .skip, .skip, .skip, .skip], (.one 5 [.again, .again, .keep, .keep, .keep, .keep, .new, .turn, .skip, .skip] (.one 7 [.keep, .keep, .keep, .keep, .keep, .keep, .keep, .keep, .new, .turn] (.one 9 [.keep, .keep, .keep, .keep, .keep, .keep, .keep, .keep, .keep, .keep] .fin))), by decide +kernel, ?_⟩; (refine g0_ ?_; repeat ((first | refine n1_ fun b_ => ?_ | refine n2_ fun b_ => ?_ | refine Nat1.mk fun q_ hq_ => ?_ | refine em_ fun x_ hx_ => ?_ | refine Elem1.mk fun e_ he_ => ?_); refine g0_ ?_))
              refine ACalls.lendK hkd (List.Perm.refl _) ?_
              (refine g0_ ?_; repeat ((first | refine n1_ fun b_ => ?_ | refine n2_ fun b_ => ?_ | refine Nat1.mk fun q_ hq_ => ?_ | refine em_ fun x_ hx_ => ?_ | refine Elem1.mk fun e_ he_ => ?_); refine g0_ ?_))
              refine ACalls.lend1 (hnm) (by repeat (first | exact .here _ _ _ | apply Look.there)) ?_
              rintro _ -
              rw [hcl]
              (refine g0_ ?_; repeat ((first | refine n1_ fun b_ => ?_ | refine n2_ fun b_ => ?_ | refine Nat1.mk fun q_ hq_ => ?_ | refine em_ fun x_ hx_ => ?_ | refine Elem1.mk fun e_ he_ => ?_); refine g0_ ?_))
              (refine g1_ ?_; repeat ((first | refine n1_ fun b_ => ?_ | refine n2_ fun b_ => ?_ | refine Nat1.mk fun q_ hq_ => ?_ | refine em_ fun x_ hx_ => ?_ | refine Elem1.mk fun e_ he_ => ?_); refine g1_ ?_))
              refine ACalls.lend1 (hn1) (by repeat (first | exact .here _ _ _ | apply Look.there)) ?_
              rintro _ -
              rw [h42]
              (refine g0_ ?_; repeat ((first | refine n1_ fun b_ => ?_ | refine n2_ fun b_ => ?_ | refine Nat1.mk fun q_ hq_ => ?_ | refine em_ fun x_ hx_ => ?_ | refine Elem1.mk fun e_ he_ => ?_); refine g0_ ?_))
              refine ACalls.lend1 (hnx) (by repeat (first | exact .here _ _ _ | apply Look.there)) ?_
              rintro _ -
              (refine g0_ ?_; repeat ((first | refine n1_ fun b_ => ?_ | refine n2_ fun b_ => ?_ | refine Nat1.mk fun q_ hq_ => ?_ | refine em_ fun x_ hx_ => ?_ | refine Elem1.mk fun e_ he_ => ?_); refine g0_ ?_))
              (refine g1_ ?_; repeat ((first | refine n1_ fun b_ => ?_ | refine n2_ fun b_ => ?_ | refine Nat1.mk fun q_ hq_ => ?_ | refine em_ fun x_ hx_ => ?_ | refine Elem1.mk fun e_ he_ => ?_); refine g1_ ?_))
              exact ⟨[_, _, _], List.perm_middle (l₁ := [_, _]), frz_last (by rw [Hide.out hnh]; simp [e2]) (.there _ _ _ _ _ (.there _ _ _ _ _ (.here _ _ _))) (by simp)⟩
        · rename_i h42
          injection hz with hz
          obtain ⟨rfl, rfl⟩ := Prod.mk.inj hz
          rw [encSpl_mk]
          (refine g0_ ?_; repeat ((first | refine n1_ fun b_ => ?_ | refine n2_ fun b_ => ?_ | refine Nat1.mk fun q_ hq_ => ?_ | refine em_ fun x_ hx_ => ?_ | refine Elem1.mk fun e_ he_ => ?_); refine g0_ ?_))
          refine Draws11.tree ⟨10, [.new, .new, .new, .new, .new, .turn, .skip, .skip, .skip, .skip], (.one 5 [.again, .again, .keep, .keep, .keep, .keep, .new, .turn, .skip, .skip] (.one 7 [.keep, .keep, .keep, .keep, .keep, .keep, .keep, .keep, .new, .turn] (.one 9 [.keep, .keep, .keep, .keep, .keep, .keep, .keep, .keep, .keep, .keep] .fin))), by decide +kernel, ?_⟩; (refine g0_ ?_; repeat ((first | refine n1_ fun b_ => ?_ | refine n2_ fun b_ => ?_ | refine Nat1.mk fun q_ hq_ => ?_ | refine em_ fun x_ hx_ => ?_ | refine Elem1.mk fun e_ he_ => ?_); refine g0_ ?_))
          refine ACalls.lendK hkd (List.Perm.refl _) ?_
          (refine g0_ ?_; repeat ((first | refine n1_ fun b_ => ?_ | refine n2_ fun b_ => ?_ | refine Nat1.mk fun q_ hq_ => ?_ | refine em_ fun x_ hx_ => ?_ | refine Elem1.mk fun e_ he_ => ?_); refine g0_ ?_))
          refine ACalls.lend1 (hnm) (by repeat (first | exact .here _ _ _ | apply Look.there)) ?_
          rintro _ -
          rw [hcl]
          (refine g0_ ?_; repeat ((first | refine n1_ fun b_ => ?_ | refine n2_ fun b_ => ?_ | refine Nat1.mk fun q_ hq_ => ?_ | refine em_ fun x_ hx_ => ?_ | refine Elem1.mk fun e_ he_ => ?_); refine g0_ ?_))
          (refine g1_ ?_; repeat ((first | refine n1_ fun b_ => ?_ | refine n2_ fun b_ => ?_ | refine Nat1.mk fun q_ hq_ => ?_ | refine em_ fun x_ hx_ => ?_ | refine Elem1.mk fun e_ he_ => ?_); refine g1_ ?_))
          refine ACalls.lend1 (hn1) (by repeat (first | exact .here _ _ _ | apply Look.there)) ?_
          rintro _ -
          (refine g0_ ?_; repeat ((first | refine n1_ fun b_ => ?_ | refine n2_ fun b_ => ?_ | refine Nat1.mk fun q_ hq_ => ?_ | refine em_ fun x_ hx_ => ?_ | refine Elem1.mk fun e_ he_ => ?_); refine g0_ ?_))
          (refine g1_ ?_; repeat ((first | refine n1_ fun b_ => ?_ | refine n2_ fun b_ => ?_ | refine Nat1.mk fun q_ hq_ => ?_ | refine em_ fun x_ hx_ => ?_ | refine Elem1.mk fun e_ he_ => ?_); refine g1_ ?_))
          exact ⟨[_, _, _], .swap _ _ _, frz_last (by rw [Hide.out hnh]; simp [e2]) (.there _ _ _ _ _ (.there _ _ _ _ _ (.here _ _ _))) (by simp)⟩
    · rw [if_neg hcl] at hlp
      split at hlp
      case isFalse => cases hlp
      rename_i h44
      rcases l with _ | ⟨l0, l⟩
      · (refine g0_ ?_; repeat ((first | refine n1_ fun b_ => ?_ | refine n2_ fun b_ => ?_ | refine Nat1.mk fun q_ hq_ => ?_ | refine em_ fun x_ hx_ => ?_ | refine Elem1.mk fun e_ he_ => ?_); refine g0_ ?_))
        refine Draws11.tree ⟨10, [.new, .new, .new, .new, .new, .turn, .skip, .skip, .skip, .skip], (.one 5 [.again, .again, .keep, .keep, .keep, .keep, .new, .turn, .skip, .skip] (.one 7 [.keep, .keep, .keep, .keep, .keep, .keep, .keep, .keep, .new, .turn] (.one 9 [.keep, .keep, .keep, .keep, .keep, .keep, .keep, .keep, .keep, .keep] .fin))), by decide +kernel, ?_⟩; (refine g0_ ?_; repeat ((first | refine n1_ fun b_ => ?_ | refine n2_ fun b_ => ?_ | refine Nat1.mk fun q_ hq_ => ?_ | refine em_ fun x_ hx_ => ?_ | refine Elem1.mk fun e_ he_ => ?_); refine g0_ ?_))
        refine ACalls.lendK hkd (List.Perm.refl _) ?_
        (refine g0_ ?_; repeat ((first | refine n1_ fun b_ => ?_ | refine n2_ fun b_ => ?_ | refine Nat1.mk fun q_ hq_ => ?_ | refine em_ fun x_ hx_ => ?_ | refine Elem1.mk fun e_ he_ => ?_); refine g0_ ?_))
        refine ACalls.lend1 (hnm) (by repeat (first | exact .here _ _ _ | apply Look.there)) ?_
        rintro _ -
        rw [h44]
        (refine g0_ ?_; repeat ((first | refine n1_ fun b_ => ?_ | refine n2_ fun b_ => ?_ | refine Nat1.mk fun q_ hq_ => ?_ | refine em_ fun x_ hx_ => ?_ | refine Elem1.mk fun e_ he_ => ?_); refine g0_ ?_))
        (refine g1_ ?_; repeat ((first | refine n1_ fun b_ => ?_ | refine n2_ fun b_ => ?_ | refine Nat1.mk fun q_ hq_ => ?_ | refine em_ fun x_ hx_ => ?_ | refine Elem1.mk fun e_ he_ => ?_); refine g1_ ?_))
        rw [← e2]
        try rw [show ∀ v : PV, (List.map encSpl l).length + 1 + [v].length = (List.map encSpl (l ++ [Spl.mk w2 p2 s2 ks2])).length + 1 from fun v => by simp]
        try rw [show (encSpl l0 :: List.map encSpl l) ++ [encSpl (Spl.mk w2 p2 s2 ks2)] = splsV (l0 :: l ++ [Spl.mk w2 p2 s2 ks2]) from by simp [splsV]]
        refine nx_ (m', b_, [] ++ [Spl.mk w2 p2 s2 ks2], fu) ?_ ?_
        · exact ⟨next_lt h44 (by decide), by simp only [List.length_append, List.length_cons, List.length_nil] at *; omega, hlp, by omega⟩
        · ((try dsimp only); (try simp only [List.length_drop, List.length_take, List.length_append, List.length_cons, List.length_nil, List.length_map] at *); omega)
      · simp only [List.map_cons, List.length_cons] at hlm hla
        (refine g0_ ?_; repeat ((first | refine n1_ fun b_ => ?_ | refine n2_ fun b_ => ?_ | refine Nat1.mk fun q_ hq_ => ?_ | refine em_ fun x_ hx_ => ?_ | refine Elem1.mk fun e_ he_ => ?_); refine g0_ ?_))
        refine Draws11.tree ⟨10, [.new, .new, .new, .new, .new, .turn, .skip, .skip, .skip, .skip], (.one 5 [.again, .again, .keep, .keep, .keep, .keep, .new, .turn, .skip, .skip] (.one 7 [.keep, .keep, .keep, .keep, .keep, .keep, .keep, .keep, .new, .turn] (.one 9 [.keep, .keep, .keep, .keep, .keep, .keep, .keep, .keep, .keep, .keep] .fin))), by decide +kernel, ?_⟩; (refine g0_ ?_; repeat ((first | refine n1_ fun b_ => ?_ | refine n2_ fun b_ => ?_ | refine Nat1.mk fun q_ hq_ => ?_ | refine em_ fun x_ hx_ => ?_ | refine Elem1.mk fun e_ he_ => ?_); refine g0_ ?_))
        refine ACalls.lendK hkd (List.Perm.refl _) ?_
        (refine g0_ ?_; repeat ((first | refine n1_ fun b_ => ?_ | refine n2_ fun b_ => ?_ | refine Nat1.mk fun q_ hq_ => ?_ | refine em_ fun x_ hx_ => ?_ | refine Elem1.mk fun e_ he_ => ?_); refine g0_ ?_))
        refine ACalls.lend1 (hnm) (by repeat (first | exact .here _ _ _ | apply Look.there)) ?_
        rintro _ -
        rw [h44]
        (refine g0_ ?_; repeat ((first | refine n1_ fun b_ => ?_ | refine n2_ fun b_ => ?_ | refine Nat1.mk fun q_ hq_ => ?_ | refine em_ fun x_ hx_ => ?_ | refine Elem1.mk fun e_ he_ => ?_); refine g0_ ?_))
        (refine g1_ ?_; repeat ((first | refine n1_ fun b_ => ?_ | refine n2_ fun b_ => ?_ | refine Nat1.mk fun q_ hq_ => ?_ | refine em_ fun x_ hx_ => ?_ | refine Elem1.mk fun e_ he_ => ?_); refine g1_ ?_))
        rw [← e2]
        try rw [show ∀ v : PV, (List.map encSpl l).length + 1 + [v].length = (List.map encSpl (l ++ [Spl.mk w2 p2 s2 ks2])).length + 1 from fun v => by simp]
        try rw [show (encSpl l0 :: List.map encSpl l) ++ [encSpl (Spl.mk w2 p2 s2 ks2)] = splsV (l0 :: l ++ [Spl.mk w2 p2 s2 ks2]) from by simp [splsV]]
        refine nx_ (m', b_, (l0 :: l) ++ [Spl.mk w2 p2 s2 ks2], fu) ?_ ?_
        · exact ⟨next_lt h44 (by decide), by simp only [List.length_append, List.length_cons, List.length_nil] at *; omega, hlp, by omega⟩
        · ((try dsimp only); (try simp only [List.length_drop, List.length_take, List.length_append, List.length_cons, List.length_nil, List.length_map] at *); omega)
/-- .. one above the other. -/
theorem splitX_kids_ok2 (b : Nat) (s : List UInt8) (i : Nat) (d : Int) (ks : List Spl) (m m2 : Nat) (t : Spl) (hs : s.length ≤ 4000) (hi : i < s.length) (hd : 1 ≤ d ∧ d ≤ 12) (f : Nat → Except Nat (Spl × Nat))
    (hok : ∀ a t m, a ≤ s.length → f a = .ok (t, m) → a < m ∧ m ≤ s.length ∧ ACalls Tryd.prog W 51 [.bref b 0, .int .i64 (d + 1)] [rdM b s a] (SpOut b s m t))
    (hc : nextN s i = 91) (h : loopK s f 93 (s.length + 1) i [] = .ok (ks, m)) (hz : sizeX s 2 0 ks m = .ok (t, m2)) :
    ACalls Tryd.prog W 51 [.bref b 0, .int .i64 d] [rdM b s i] (SpOut b s m2 t) := by
  have hn := fun j (hj : j ≤ s.length) => nextB_ok W b s j hj hs
  have hix := indexB_ok W (nextN s i)
  rw [hc, show Lib.indexByte [123, 91] (UInt8.ofNat 91) = 1 from by decide] at hix
  unfold SpOut at hok ⊢
  simp only [rdM] at hn hok ⊢
  refine acalls_of_vc (DM_ok (by decide)) Tryd.func51 rfl (by decide) (by decide) rfl ?_
  (refine g0_ ?_; repeat ((first | refine n1_ fun b_ => ?_ | refine n2_ fun b_ => ?_ | refine Nat1.mk fun q_ hq_ => ?_ | refine em_ fun x_ hx_ => ?_ | refine Elem1.mk fun e_ he_ => ?_); refine g0_ ?_))
  rename_i bR
  obtain ⟨bT, rfl⟩ : ∃ z, z = b_ := ⟨_, rfl⟩
  refine ACalls.lend1 (hn i (by omega)) (by repeat (first | exact .here _ _ _ | apply Look.there)) ?_
  rintro _ -
  rw [hc]
  (refine g0_ ?_; repeat ((first | refine n1_ fun b_ => ?_ | refine n2_ fun b_ => ?_ | refine Nat1.mk fun q_ hq_ => ?_ | refine em_ fun x_ hx_ => ?_ | refine Elem1.mk fun e_ he_ => ?_); refine g0_ ?_))
  refine (hix).use ?_; (refine g0_ ?_; repeat ((first | refine n1_ fun b_ => ?_ | refine n2_ fun b_ => ?_ | refine Nat1.mk fun q_ hq_ => ?_ | refine em_ fun x_ hx_ => ?_ | refine Elem1.mk fun e_ he_ => ?_); refine g0_ ?_))
  refine headT_ (head_ ?_); (refine g0_ ?_; repeat ((first | refine n1_ fun b_ => ?_ | refine n2_ fun b_ => ?_ | refine Nat1.mk fun q_ hq_ => ?_ | refine em_ fun x_ hx_ => ?_ | refine Elem1.mk fun e_ he_ => ?_); refine g0_ ?_))
  (refine g1_ ?_; repeat ((first | refine n1_ fun b_ => ?_ | refine n2_ fun b_ => ?_ | refine Nat1.mk fun q_ hq_ => ?_ | refine em_ fun x_ hx_ => ?_ | refine Elem1.mk fun e_ he_ => ?_); refine g1_ ?_))
  refine' loopI (α := Nat × Nat × (List Spl) × Nat) (fun (a, b', l, fu) => []) [(0, _), (1, _), (4, _), (5, _), (6, _)] (fun (a, b', l, fu) => ⟨b, .row 2 [.agg [.str s, .int .i64 (a : Int)]] 0⟩ :: ⟨bT, .row 4 [.agg [.int .i64 2, .int .i64 0, .int .i64 1, accV b' 4 (splsV l)]] 0⟩ :: ⟨bR, .row 4 [.agg [.int .i64 0, .int .i64 0, .int .i64 0, .nils]] 0⟩ :: accM b' 4 (splsV l)) (fun (a, b', l, fu) => a < s.length ∧ l.length ≤ a ∧ loopK s f 93 fu a l = .ok (ks, m) ∧ s.length < fu + a) (fun (a, b', l, fu) => s.length - a) (i, 0, [], s.length + 1) ?_ ?_
  · exact ⟨hi, Nat.zero_le _, h, by omega⟩
  rintro ⟨a, b', l, fu⟩ ⟨ha, hla, hlp, hfu⟩
  obtain ⟨fu, rfl⟩ : ∃ k, fu = k + 1 := ⟨fu - 1, by omega⟩
  rw [loopK] at hlp
  cases hfa : f (a + 1) with
  | error x => rw [hfa] at hlp; cases hlp
  | ok y =>
    obtain ⟨k, m'⟩ := y
    rw [hfa] at hlp
    dsimp only at hlp
    obtain ⟨hm1, hm2, hkd⟩ := hok (a + 1) k m' (by omega) hfa
    have ha9 : a + 1 ≤ 4000 := by omega
    have hlm : (List.map encSpl l).length = l.length := List.length_map _
    obtain ⟨w2, p2, s2, ks2⟩ := k
    have e2 := encSpl_mk w2 p2 s2 ks2
    rw [e2] at hkd
    have hnm := hn m' hm2
    clear hok hfa hix h
    by_cases hcl : nextN s m' = 93
    · rw [if_pos hcl] at hlp
      rcases l with _ | ⟨l0, l⟩
      · injection hlp with hlp
        obtain ⟨hks, rfl⟩ := Prod.mk.inj hlp
        have hml := next_lt hcl (by decide)
        have hn1 := hn (m' + 1) (by omega)
        have hnh : Hide (ks = _) := ⟨hks.symm⟩
        clear hks hlp
        unfold sizeX at hz
        split at hz
        · rename_i h42
          have hmz := next_lt h42 (by decide)
          cases hr : readN s (m' + 1 + 1) with
          | error x => rw [hr] at hz; cases hz
          | ok y =>
            obtain ⟨z, m3⟩ := y
            rw [hr] at hz
            dsimp only at hz
            split at hz
            · cases hz
            · rename_i hz1
              injection hz with hz
              obtain ⟨rfl, rfl⟩ := Prod.mk.inj hz
              obtain ⟨k1, k2, k3, k4, k5, k6, k7⟩ := readN_len hr
              have hnx := numberX_ok W b s (m' + 1 + 1) hs (by omega) k6 k7
              rw [← k4, ← k5] at hnx
              clear k4 k5 k6 k7 hr hz
              simp only [rdM] at hnx
              rw [encSpl_mk]
              (refine g0_ ?_; repeat ((first | refine n1_ fun b_ => ?_ | refine n2_ fun b_ => ?_ | refine Nat1.mk fun q_ hq_ => ?_ | refine em_ fun x_ hx_ => ?_ | refine Elem1.mk fun e_ he_ => ?_); refine g0_ ?_))
              refine Draws11.tree ⟨10, [.new, .new, .new, .new, .new, .turn, .skip, .skip, .skip, .skip], (.one 5 [.again, .again, .keep, .keep, .keep, .keep, .new, .turn, .skip, .skip] (.one 7 [.keep, .keep, .keep, .keep, .keep, .keep, .keep, .keep, .new, .turn] (.one 9 [.keep, .keep, .keep, .keep, .keep, .keep, .keep, .keep, .keep, .keep] .fin))), by decide +kernel, ?_⟩; (refine g0_ ?_; repeat ((first | refine n1_ fun b_ => ?_ | refine n2_ fun b_ => ?_ | refine Nat1.mk fun q_ hq_ => ?_ | refine em_ fun x_ hx_ => ?_ | refine Elem1.mk fun e_ he_ => ?_); refine g0_ ?_))
              refine ACalls.lendK hkd (List.Perm.refl _) ?_
              (refine g0_ ?_; repeat ((first | refine n1_ fun b_ => ?_ | refine n2_ fun b_ => ?_ | refine Nat1.mk fun q_ hq_ => ?_ | refine em_ fun x_ hx_ => ?_ | refine Elem1.mk fun e_ he_ => ?_); refine g0_ ?_))
              refine ACalls.lend1 (hnm) (by repeat (first | exact .here _ _ _ | apply Look.there)) ?_
              rintro _ -
              rw [hcl]
              (refine g0_ ?_; repeat ((first | refine n1_ fun b_ => ?_ | refine n2_ fun b_ => ?_ | refine Nat1.mk fun q_ hq_ => ?_ | refine em_ fun x_ hx_ => ?_ | refine Elem1.mk fun e_ he_ => ?_); refine g0_ ?_))
              (refine g1_ ?_; repeat ((first | refine n1_ fun b_ => ?_ | refine n2_ fun b_ => ?_ | refine Nat1.mk fun q_ hq_ => ?_ | refine em_ fun x_ hx_ => ?_ | refine Elem1.mk fun e_ he_ => ?_); refine g1_ ?_))
              refine ACalls.lend1 (hn1) (by repeat (first | exact .here _ _ _ | apply Look.there)) ?_
              rintro _ -
              rw [h42]
              (refine g0_ ?_; repeat ((first | refine n1_ fun b_ => ?_ | refine n2_ fun b_ => ?_ | refine Nat1.mk fun q_ hq_ => ?_ | refine em_ fun x_ hx_ => ?_ | refine Elem1.mk fun e_ he_ => ?_); refine g0_ ?_))
              refine ACalls.lend1 (hnx) (by repeat (first | exact .here _ _ _ | apply Look.there)) ?_
              rintro _ -
              (refine g0_ ?_; repeat ((first | refine n1_ fun b_ => ?_ | refine n2_ fun b_ => ?_ | refine Nat1.mk fun q_ hq_ => ?_ | refine em_ fun x_ hx_ => ?_ | refine Elem1.mk fun e_ he_ => ?_); refine g0_ ?_))
              (refine g1_ ?_; repeat ((first | refine n1_ fun b_ => ?_ | refine n2_ fun b_ => ?_ | refine Nat1.mk fun q_ hq_ => ?_ | refine em_ fun x_ hx_ => ?_ | refine Elem1.mk fun e_ he_ => ?_); refine g1_ ?_))
              exact ⟨[_, _, _], List.perm_middle (l₁ := [_, _]), frz_last (by rw [Hide.out hnh]; simp [e2]) (.there _ _ _ _ _ (.there _ _ _ _ _ (.here _ _ _))) (by simp)⟩
        · rename_i h42
          injection hz with hz
          obtain ⟨rfl, rfl⟩ := Prod.mk.inj hz
          rw [encSpl_mk]
          (refine g0_ ?_; repeat ((first | refine n1_ fun b_ => ?_ | refine n2_ fun b_ => ?_ | refine Nat1.mk fun q_ hq_ => ?_ | refine em_ fun x_ hx_ => ?_ | refine Elem1.mk fun e_ he_ => ?_); refine g0_ ?_))
          refine Draws11.tree ⟨10, [.new, .new, .new, .new, .new, .turn, .skip, .skip, .skip, .skip], (.one 5 [.again, .again, .keep, .keep, .keep, .keep, .new, .turn, .skip, .skip] (.one 7 [.keep, .keep, .keep, .keep, .keep, .keep, .keep, .keep, .new, .turn] (.one 9 [.keep, .keep, .keep, .keep, .keep, .keep, .keep, .keep, .keep, .keep] .fin))), by decide +kernel, ?_⟩; (refine g0_ ?_; repeat ((first | refine n1_ fun b_ => ?_ | refine n2_ fun b_ => ?_ | refine Nat1.mk fun q_ hq_ => ?_ | refine em_ fun x_ hx_ => ?_ | refine Elem1.mk fun e_ he_ => ?_); refine g0_ ?_))
          refine ACalls.lendK hkd (List.Perm.refl _) ?_
          (refine g0_ ?_; repeat ((first | refine n1_ fun b_ => ?_ | refine n2_ fun b_ => ?_ | refine Nat1.mk fun q_ hq_ => ?_ | refine em_ fun x_ hx_ => ?_ | refine Elem1.mk fun e_ he_ => ?_); refine g0_ ?_))
          refine ACalls.lend1 (hnm) (by repeat (first | exact .here _ _ _ | apply Look.there)) ?_
          rintro _ -
          rw [hcl]
          (refine g0_ ?_; repeat ((first | refine n1_ fun b_ => ?_ | refine n2_ fun b_ => ?_ | refine Nat1.mk fun q_ hq_ => ?_ | refine em_ fun x_ hx_ => ?_ | refine Elem1.mk fun e_ he_ => ?_); refine g0_ ?_))
          (refine g1_ ?_; repeat ((first | refine n1_ fun b_ => ?_ | refine n2_ fun b_ => ?_ | refine Nat1.mk fun q_ hq_ => ?_ | refine em_ fun x_ hx_ => ?_ | refine Elem1.mk fun e_ he_ => ?_); refine g1_ ?_))
          refine ACalls.lend1 (hn1) (by repeat (first | exact .here _ _ _ | apply Look.there)) ?_
          rintro _ -
          (refine g0_ ?_; repeat ((first | refine n1_ fun b_ => ?_ | refine n2_ fun b_ => ?_ | refine Nat1.mk fun q_ hq_ => ?_ | refine em_ fun x_ hx_ => ?_ | refine Elem1.mk fun e_ he_ => ?_); refine g0_ ?_))
          (refine g1_ ?_; repeat ((first | refine n1_ fun b_ => ?_ | refine n2_ fun b_ => ?_ | refine Nat1.mk fun q_ hq_ => ?_ | refine em_ fun x_ hx_ => ?_ | refine Elem1.mk fun e_ he_ => ?_); refine g1_ ?_))
          exact ⟨[_, _, _], .swap _ _ _, frz_last (by rw [Hide.out hnh]; simp [e2]) (.there _ _ _ _ _ (.there _ _ _ _ _ (.here _ _ _))) (by simp)⟩
      · simp only [List.map_cons, List.length_cons] at hlm hla
        injection hlp with hlp
        obtain ⟨hks, rfl⟩ := Prod.mk.inj hlp
        have hml := next_lt hcl (by decide)
        have hn1 := hn (m' + 1) (by omega)
        have hnh : Hide (ks = _) := ⟨hks.symm⟩
        clear hks hlp
        unfold sizeX at hz
        split at hz
        · rename_i h42
          have hmz := next_lt h42 (by decide)
          cases hr : readN s (m' + 1 + 1) with
          | error x => rw [hr] at hz; cases hz
          | ok y =>
            obtain ⟨z, m3⟩ := y
            rw [hr] at hz
            dsimp only at hz
            split at hz
            · cases hz
            · rename_i hz1
              injection hz with hz
              obtain ⟨rfl, rfl⟩ := Prod.mk.inj hz
              obtain ⟨k1, k2, k3, k4, k5, k6, k7⟩ := readN_len hr
              have hnx := numberX_ok W b s (m' + 1 + 1) hs (by omega) k6 k7
              rw [← k4, ← k5] at hnx
              clear k4 k5 k6 k7 hr hz
              simp only [rdM] at hnx
              rw [encSpl_mk]
              (refine g0_ ?_; repeat ((first | refine n1_ fun b_ => ?_ | refine n2_ fun b_ => ?_ | refine Nat1.mk fun q_ hq_ => ?_ | refine em_ fun x_ hx_ => ?_ | refine Elem1.mk fun e_ he_ => ?_); refine g0_ ?_))
              refine Draws11.tree ⟨10, [.new, .new, .new, .new, .new, .turn, .skip, .skip, .skip, .skip], (.one 5 [.again, .again, .keep, .keep, .keep, .keep, .new, .turn, .skip, .skip] (.one 7 [.keep, .keep, .keep, .keep, .keep, .keep, .keep, .keep, .new, .turn] (.one 9 [.keep, .keep, .keep, .keep, .keep, .keep, .keep, .keep, .keep, .keep] .fin))), by decide +kernel, ?_⟩; (refine g0_ ?_; repeat ((first | refine n1_ fun b_ => ?_ | refine n2_ fun b_ => ?_ | refine Nat1.mk fun q_ hq_ => ?_ | refine em_ fun x_ hx_ => ?_ | refine Elem1.mk fun e_ he_ => ?_); refine g0_ ?_))
              refine ACalls.lendK hkd (List.Perm.refl _) ?_
              (refine g0_ ?_; repeat ((first | refine n1_ fun b_ => ?_ | refine n2_ fun b_ => ?_ | refine Nat1.mk fun q_ hq_ => ?_ | refine em_ fun x_ hx_ => ?_ | refine Elem1.mk fun e_ he_ => ?_); refine g0_ ?_))
              refine ACalls.lend1 (hnm) (by repeat (first | exact .here _ _ _ | apply Look.there)) ?_
              rintro _ -
              rw [hcl]
              (refine g0_ ?_; repeat ((first | refine n1_ fun b_ => ?_ | refine n2_ fun b_ => ?_ | refine Nat1.mk fun q_ hq_ => ?_ | refine em_ fun x_ hx_ => ?_ | refine Elem1.mk fun e_ he_ => ?_); refine g0_ ?_))
              (refine g1_ ?_; repeat ((first | refine n1_ fun b_ => ?_ | refine n2_ fun b_ => ?_ | refine Nat1.mk fun q_ hq_ => ?_ | refine em_ fun x_ hx_ => ?_ | refine Elem1.mk fun e_ he_ => ?_); refine g1_ ?_))
              refine ACalls.lend1 (hn1) (by repeat (first | exact .here _ _ _ | apply Look.there)) ?_
              rintro _ -
              rw [h42]
              (refine g0_ ?_; repeat ((first | refine n1_ fun b_ => ?_ | refine n2_ fun b_ => ?_ | refine Nat1.mk fun q_ hq_ => ?_ | refine em_ fun x_ hx_ => ?_ | refine Elem1.mk fun e_ he_ => ?_); refine g0_ ?_))
              refine ACalls.lend1 (hnx) (by repeat (first | exact .here _ _ _ | apply Look.there)) ?_
              rintro _ -
              (refine g0_ ?_; repeat ((first | refine n1_ fun b_ => ?_ | refine n2_ fun b_ => ?_ | refine Nat1.mk fun q_ hq_ => ?_ | refine em_ fun x_ hx_ => ?_ | refine Elem1.mk fun e_ he_ => ?_); refine g0_ ?_))
              (refine g1_ ?_; repeat ((first | refine n1_ fun b_ => ?_ | refine n2_ fun b_ => ?_ | refine Nat1.mk fun q_ hq_ => ?_ | refine em_ fun x_ hx_ => ?_ | refine Elem1.mk fun e_ he_ => ?_); refine g1_ ?_))
              exact ⟨[_, _, _], List.perm_middle (l₁ := [_, _]), frz_last (by rw [Hide.out hnh]; simp [e2]) (.there _ _ _ _ _ (.there _ _ _ _ _ (.here _ _ _))) (by simp)⟩
        · rename_i h42
          injection hz with hz
          obtain ⟨rfl, rfl⟩ := Prod.mk.inj hz
          rw [encSpl_mk]
          (refine g0_ ?_; repeat ((first | refine n1_ fun b_ => ?_ | refine n2_ fun b_ => ?_ | refine Nat1.mk fun q_ hq_ => ?_ | refine em_ fun x_ hx_ => ?_ | refine Elem1.mk fun e_ he_ => ?_); refine g0_ ?_))
          refine Draws11.tree ⟨10, [.new, .new, .new, .new, .new, .turn, .skip, .skip, .skip, .skip], (.one 5 [.again, .again, .keep, .keep, .keep, .keep, .new, .turn, .skip, .skip] (.one 7 [.keep, .keep, .keep, .keep, .keep, .keep, .keep, .keep, .new, .turn] (.one 9 [.keep, .keep, .keep, .keep, .keep, .keep, .keep, .keep, .keep, .keep] .fin))), by decide +kernel, ?_⟩; (refine g0_ ?_; repeat ((first | refine n1_ fun b_ => ?_ | refine n2_ fun b_ => ?_ | refine Nat1.mk fun q_ hq_ => ?_ | refine em_ fun x_ hx_ => ?_ | refine Elem1.mk fun e_ he_ => ?_); refine g0_ ?_))
          refine ACalls.lendK hkd (List.Perm.refl _) ?_
          (refine g0_ ?_; repeat ((first | refine n1_ fun b_ => ?_ | refine n2_ fun b_ => ?_ | refine Nat1.mk fun q_ hq_ => ?_ | refine em_ fun x_ hx_ => ?_ | refine Elem1.mk fun e_ he_ => ?_); refine g0_ ?_))
          refine ACalls.lend1 (hnm) (by repeat (first | exact .here _ _ _ | apply Look.there)) ?_
          rintro _ -
          rw [hcl]
          (refine g0_ ?_; repeat ((first | refine n1_ fun b_ => ?_ | refine n2_ fun b_ => ?_ | refine Nat1.mk fun q_ hq_ => ?_ | refine em_ fun x_ hx_ => ?_ | refine Elem1.mk fun e_ he_ => ?_); refine g0_ ?_))
          (refine g1_ ?_; repeat ((first | refine n1_ fun b_ => ?_ | refine n2_ fun b_ => ?_ | refine Nat1.mk fun q_ hq_ => ?_ | refine em_ fun x_ hx_ => ?_ | refine Elem1.mk fun e_ he_ => ?_); refine g1_ ?_))
          refine ACalls.lend1 (hn1) (by repeat (first | exact .here _ _ _ | apply Look.there)) ?_
          rintro _ -
          (refine g0_ ?_; repeat ((first | refine n1_ fun b_ => ?_ | refine n2_ fun b_ => ?_ | refine Nat1.mk fun q_ hq_ => ?_ | refine em_ fun x_ hx_ => ?_ | refine Elem1.mk fun e_ he_ => ?_); refine g0_ ?_))
          (refine g1_ ?_; repeat ((first | refine n1_ fun b_ => ?_ | refine n2_ fun b_ => ?_ | refine Nat1.mk fun q_ hq_ => ?_ | refine em_ fun x_ hx_ => ?_ | refine Elem1.mk fun e_ he_ => ?_); refine g1_ ?_))
          exact ⟨[_, _, _], .swap _ _ _, frz_last (by rw [Hide.out hnh]; simp [e2]) (.there _ _ _ _ _ (.there _ _ _ _ _ (.here _ _ _))) (by simp)⟩
    · rw [if_neg hcl] at hlp
      split at hlp
      case isFalse => cases hlp
      rename_i h44
      rcases l with _ | ⟨l0, l⟩
      · (refine g0_ ?_; repeat ((first | refine n1_ fun b_ => ?_ | refine n2_ fun b_ => ?_ | refine Nat1.mk fun q_ hq_ => ?_ | refine em_ fun x_ hx_ => ?_ | refine Elem1.mk fun e_ he_ => ?_); refine g0_ ?_))
        refine Draws11.tree ⟨10, [.new, .new, .new, .new, .new, .turn, .skip, .skip, .skip, .skip], (.one 5 [.again, .again, .keep, .keep, .keep, .keep, .new, .turn, .skip, .skip] (.one 7 [.keep, .keep, .keep, .keep, .keep, .keep, .keep, .keep, .new, .turn] (.one 9 [.keep, .keep, .keep, .keep, .keep, .keep, .keep, .keep, .keep, .keep] .fin))), by decide +kernel, ?_⟩; (refine g0_ ?_; repeat ((first | refine n1_ fun b_ => ?_ | refine n2_ fun b_ => ?_ | refine Nat1.mk fun q_ hq_ => ?_ | refine em_ fun x_ hx_ => ?_ | refine Elem1.mk fun e_ he_ => ?_); refine g0_ ?_))
        refine ACalls.lendK hkd (List.Perm.refl _) ?_
        (refine g0_ ?_; repeat ((first | refine n1_ fun b_ => ?_ | refine n2_ fun b_ => ?_ | refine Nat1.mk fun q_ hq_ => ?_ | refine em_ fun x_ hx_ => ?_ | refine Elem1.mk fun e_ he_ => ?_); refine g0_ ?_))
        refine ACalls.lend1 (hnm) (by repeat (first | exact .here _ _ _ | apply Look.there)) ?_
        rintro _ -
        rw [h44]
        (refine g0_ ?_; repeat ((first | refine n1_ fun b_ => ?_ | refine n2_ fun b_ => ?_ | refine Nat1.mk fun q_ hq_ => ?_ | refine em_ fun x_ hx_ => ?_ | refine Elem1.mk fun e_ he_ => ?_); refine g0_ ?_))
        (refine g1_ ?_; repeat ((first | refine n1_ fun b_ => ?_ | refine n2_ fun b_ => ?_ | refine Nat1.mk fun q_ hq_ => ?_ | refine em_ fun x_ hx_ => ?_ | refine Elem1.mk fun e_ he_ => ?_); refine g1_ ?_))
        rw [← e2]
        try rw [show ∀ v : PV, (List.map encSpl l).length + 1 + [v].length = (List.map encSpl (l ++ [Spl.mk w2 p2 s2 ks2])).length + 1 from fun v => by simp]
        try rw [show (encSpl l0 :: List.map encSpl l) ++ [encSpl (Spl.mk w2 p2 s2 ks2)] = splsV (l0 :: l ++ [Spl.mk w2 p2 s2 ks2]) from by simp [splsV]]
        refine nx_ (m', b_, [] ++ [Spl.mk w2 p2 s2 ks2], fu) ?_ ?_
        · exact ⟨next_lt h44 (by decide), by simp only [List.length_append, List.length_cons, List.length_nil] at *; omega, hlp, by omega⟩
        · ((try dsimp only); (try simp only [List.length_drop, List.length_take, List.length_append, List.length_cons, List.length_nil, List.length_map] at *); omega)
      · simp only [List.map_cons, List.length_cons] at hlm hla
        (refine g0_ ?_; repeat ((first | refine n1_ fun b_ => ?_ | refine n2_ fun b_ => ?_ | refine Nat1.mk fun q_ hq_ => ?_ | refine em_ fun x_ hx_ => ?_ | refine Elem1.mk fun e_ he_ => ?_); refine g0_ ?_))
        refine Draws11.tree ⟨10, [.new, .new, .new, .new, .new, .turn, .skip, .skip, .skip, .skip], (.one 5 [.again, .again, .keep, .keep, .keep, .keep, .new, .turn, .skip, .skip] (.one 7 [.keep, .keep, .keep, .keep, .keep, .keep, .keep, .keep, .new, .turn] (.one 9 [.keep, .keep, .keep, .keep, .keep, .keep, .keep, .keep, .keep, .keep] .fin))), by decide +kernel, ?_⟩; (refine g0_ ?_; repeat ((first | refine n1_ fun b_ => ?_ | refine n2_ fun b_ => ?_ | refine Nat1.mk fun q_ hq_ => ?_ | refine em_ fun x_ hx_ => ?_ | refine Elem1.mk fun e_ he_ => ?_); refine g0_ ?_))
        refine ACalls.lendK hkd (List.Perm.refl _) ?_
        (refine g0_ ?_; repeat ((first | refine n1_ fun b_ => ?_ | refine n2_ fun b_ => ?_ | refine Nat1.mk fun q_ hq_ => ?_ | refine em_ fun x_ hx_ => ?_ | refine Elem1.mk fun e_ he_ => ?_); refine g0_ ?_))
        refine ACalls.lend1 (hnm) (by repeat (first | exact .here _ _ _ | apply Look.there)) ?_
        rintro _ -
        rw [h44]
        (refine g0_ ?_; repeat ((first | refine n1_ fun b_ => ?_ | refine n2_ fun b_ => ?_ | refine Nat1.mk fun q_ hq_ => ?_ | refine em_ fun x_ hx_ => ?_ | refine Elem1.mk fun e_ he_ => ?_); refine g0_ ?_))
        (refine g1_ ?_; repeat ((first | refine n1_ fun b_ => ?_ | refine n2_ fun b_ => ?_ | refine Nat1.mk fun q_ hq_ => ?_ | refine em_ fun x_ hx_ => ?_ | refine Elem1.mk fun e_ he_ => ?_); refine g1_ ?_))
        rw [← e2]
        try rw [show ∀ v : PV, (List.map encSpl l).length + 1 + [v].length = (List.map encSpl (l ++ [Spl.mk w2 p2 s2 ks2])).length + 1 from fun v => by simp]
        try rw [show (encSpl l0 :: List.map encSpl l) ++ [encSpl (Spl.mk w2 p2 s2 ks2)] = splsV (l0 :: l ++ [Spl.mk w2 p2 s2 ks2]) from by simp [splsV]]
        refine nx_ (m', b_, (l0 :: l) ++ [Spl.mk w2 p2 s2 ks2], fu) ?_ ?_
        · exact ⟨next_lt h44 (by decide), by simp only [List.length_append, List.length_cons, List.length_nil] at *; omega, hlp, by omega⟩
        · ((try dsimp only); (try simp only [List.length_drop, List.length_take, List.length_append, List.length_cons, List.length_nil, List.length_map] at *); omega)
end Go.Eng.YtmodblkagimhlaaDoor
end

/- Splits: any text is read: behind parts that are read it can't go on (b_ x_ q_ e_). -/
section
namespace Go.Eng.YtmodblkagimhlaaDoor
open Go Go.Eng Go.Proofs Go.RowKit
variable (W : World)
set_option linter.unusedSimpArgs false
set_option maxRecDepth 100000
set_option linter.unusedVariables false
set_option maxHeartbeats 4000000
/-- Parts are read; what stands behind them is not. -/
theorem splitX_kids_end (b : Nat) (s : List UInt8) (i : Nat) (d : Int) (ks : List Spl) (m e : Nat) (hs : s.length ≤ 4000) (hi : i < s.length) (hd : 1 ≤ d ∧ d ≤ 12) (f : Nat → Except Nat (Spl × Nat))
    (hok : ∀ a t m, a ≤ s.length → f a = .ok (t, m) → a < m ∧ m ≤ s.length ∧ ACalls Tryd.prog W 51 [.bref b 0, .int .i64 (d + 1)] [rdM b s a] (SpOut b s m t))
    (hc : nextN s i = 123) (h : loopK s f 125 (s.length + 1) i [] = .ok (ks, m)) (hz : sizeX s 1 0 ks m = .error e) :
    XCalls Tryd.prog W 51 [.bref b 0, .int .i64 d] [rdM b s i] (fun _ _ => False) (fun v _ => v = stopV e) := by
  have hn := fun j (hj : j ≤ s.length) => nextB_ok W b s j hj hs
  have hix := indexB_ok W (nextN s i)
  unfold SpOut at hok
  simp only [rdM] at hn hok ⊢
  rw [hc, show Lib.indexByte [123, 91] (UInt8.ofNat 123) = 0 from by decide] at hix
  refine xcalls_of_body Tryd.func51 rfl (by decide) rfl ?_
  skip
  refine WpX.seq (WpX.of_vc (DD_ok (by decide)) (by decide) ?_)
  (refine g0_ ?_; repeat ((first | refine n1_ fun b_ => ?_ | refine n2_ fun b_ => ?_ | refine Nat1.mk fun q_ hq_ => ?_ | refine em_ fun x_ hx_ => ?_ | refine Elem1.mk fun e_ he_ => ?_); refine g0_ ?_))
  refine WpX.seq (WpX.of_vc (DD_ok (by decide)) (by decide) ?_)
  (refine g0_ ?_; repeat ((first | refine n1_ fun b_ => ?_ | refine n2_ fun b_ => ?_ | refine Nat1.mk fun q_ hq_ => ?_ | refine em_ fun x_ hx_ => ?_ | refine Elem1.mk fun e_ he_ => ?_); refine g0_ ?_))
  rename_i bR
  obtain ⟨bT, rfl⟩ : ∃ z, z = b_ := ⟨_, rfl⟩
  refine WpX.seq (WpX.of_vc (DD_ok (by decide)) (by decide) ?_)
  (refine g0_ ?_; repeat ((first | refine n1_ fun b_ => ?_ | refine n2_ fun b_ => ?_ | refine Nat1.mk fun q_ hq_ => ?_ | refine em_ fun x_ hx_ => ?_ | refine Elem1.mk fun e_ he_ => ?_); refine g0_ ?_))
  refine ACalls.lend1 (hn i (by omega)) (by repeat (first | exact .here _ _ _ | apply Look.there)) ?_
  rintro _ -
  rw [hc]
  (refine g0_ ?_; repeat ((first | refine n1_ fun b_ => ?_ | refine n2_ fun b_ => ?_ | refine Nat1.mk fun q_ hq_ => ?_ | refine em_ fun x_ hx_ => ?_ | refine Elem1.mk fun e_ he_ => ?_); refine g0_ ?_))
  refine (hix).use ?_; (refine g0_ ?_; repeat ((first | refine n1_ fun b_ => ?_ | refine n2_ fun b_ => ?_ | refine Nat1.mk fun q_ hq_ => ?_ | refine em_ fun x_ hx_ => ?_ | refine Elem1.mk fun e_ he_ => ?_); refine g0_ ?_))
  (refine g1_ ?_; repeat ((first | refine n1_ fun b_ => ?_ | refine n2_ fun b_ => ?_ | refine Nat1.mk fun q_ hq_ => ?_ | refine em_ fun x_ hx_ => ?_ | refine Elem1.mk fun e_ he_ => ?_); refine g1_ ?_))
  refine WpX.seq (WpX.seq (WpX.of_vc (DD_ok (by decide)) (by decide) ?_))
  (refine g0_ ?_; repeat ((first | refine n1_ fun b_ => ?_ | refine n2_ fun b_ => ?_ | refine Nat1.mk fun q_ hq_ => ?_ | refine em_ fun x_ hx_ => ?_ | refine Elem1.mk fun e_ he_ => ?_); refine g0_ ?_))
  refine head_ ?_; (refine g0_ ?_; repeat ((first | refine n1_ fun b_ => ?_ | refine n2_ fun b_ => ?_ | refine Nat1.mk fun q_ hq_ => ?_ | refine em_ fun x_ hx_ => ?_ | refine Elem1.mk fun e_ he_ => ?_); refine g0_ ?_))
  (refine g1_ ?_; repeat ((first | refine n1_ fun b_ => ?_ | refine n2_ fun b_ => ?_ | refine Nat1.mk fun q_ hq_ => ?_ | refine em_ fun x_ hx_ => ?_ | refine Elem1.mk fun e_ he_ => ?_); refine g1_ ?_))
  refine WpX.condT (by first | rfl | (show PV.bool (decide ((i : Int) < (s.length : Int))) = PV.bool true; rw [decide_eq_true (by omega)])) ?_
  refine WpX.seq (WpX.seq (WpX.of_vc (DD_ok (by decide)) (by decide) ?_))
  (refine g0_ ?_; repeat ((first | refine n1_ fun b_ => ?_ | refine n2_ fun b_ => ?_ | refine Nat1.mk fun q_ hq_ => ?_ | refine em_ fun x_ hx_ => ?_ | refine Elem1.mk fun e_ he_ => ?_); refine g0_ ?_))
  (refine g1_ ?_; repeat ((first | refine n1_ fun b_ => ?_ | refine n2_ fun b_ => ?_ | refine Nat1.mk fun q_ hq_ => ?_ | refine em_ fun x_ hx_ => ?_ | refine Elem1.mk fun e_ he_ => ?_); refine g1_ ?_))
  refine WpX.condF (by first | rfl | (show PV.bool (decide (d > 12)) = PV.bool false; rw [decide_eq_false (by omega)]) | (show PV.bool (decide (12 < d)) = PV.bool false; rw [decide_eq_false (by omega)])) (WpX.skip ?_)
  change WpX _ _ _ _ _ _ _ _ _
  refine WpX.of_vc (DM_ok (by decide)) (by decide) ?_
  (refine g0_ ?_; repeat ((first | refine n1_ fun b_ => ?_ | refine n2_ fun b_ => ?_ | refine Nat1.mk fun q_ hq_ => ?_ | refine em_ fun x_ hx_ => ?_ | refine Elem1.mk fun e_ he_ => ?_); refine g0_ ?_))
  refine' loopI (α := Nat × Nat × (List Spl) × Nat) (fun (a, b', l, fu) => []) [(0, _), (1, _), (4, _), (5, _), (6, _)] (fun (a, b', l, fu) => ⟨b, .row 2 [.agg [.str s, .int .i64 (a : Int)]] 0⟩ :: ⟨bT, .row 4 [.agg [.int .i64 1, .int .i64 0, .int .i64 1, accV b' 4 (splsV l)]] 0⟩ :: ⟨bR, .row 4 [.agg [.int .i64 0, .int .i64 0, .int .i64 0, .nils]] 0⟩ :: accM b' 4 (splsV l)) (fun (a, b', l, fu) => a < s.length ∧ l.length ≤ a ∧ loopK s f 125 fu a l = .ok (ks, m) ∧ s.length < fu + a) (fun (a, b', l, fu) => s.length - a) (i, 0, [], s.length + 1) ?_ ?_
  · exact ⟨hi, Nat.zero_le _, h, by omega⟩
  rintro ⟨a, b', l, fu⟩ ⟨ha, hla, hlp, hfu⟩
  obtain ⟨fu, rfl⟩ : ∃ k, fu = k + 1 := ⟨fu - 1, by omega⟩
  rw [loopK] at hlp
  cases hfa : f (a + 1) with
  | error x => rw [hfa] at hlp; cases hlp
  | ok y =>
    obtain ⟨k, m'⟩ := y
    rw [hfa] at hlp
    dsimp only at hlp
    obtain ⟨hm1, hm2, hkd⟩ := hok (a + 1) k m' (by omega) hfa
    have ha9 : a + 1 ≤ 4000 := by omega
    have hlm : (List.map encSpl l).length = l.length := List.length_map _
    obtain ⟨w2, p2, s2, ks2⟩ := k
    have e2 := encSpl_mk w2 p2 s2 ks2
    rw [e2] at hkd
    have hnm := hn m' hm2
    clear hok hfa hix h
    by_cases hcl : nextN s m' = 125
    · rw [if_pos hcl] at hlp
      rcases l with _ | ⟨l0, l⟩
      · injection hlp with hlp
        obtain ⟨hks, rfl⟩ := Prod.mk.inj hlp
        have hml := next_lt hcl (by decide)
        have hn1 := hn (m' + 1) (by omega)
        clear hks hlp
        unfold sizeX at hz
        split at hz
        case isFalse => cases hz
        rename_i h42
        have hmz := next_lt h42 (by decide)
        (refine g0_ ?_; repeat ((first | refine n1_ fun b_ => ?_ | refine n2_ fun b_ => ?_ | refine Nat1.mk fun q_ hq_ => ?_ | refine em_ fun x_ hx_ => ?_ | refine Elem1.mk fun e_ he_ => ?_); refine g0_ ?_))
        refine Draws11.tree ⟨10, [.new, .new, .new, .new, .new, .turn, .skip, .skip, .skip, .skip], (.one 5 [.again, .again, .keep, .keep, .keep, .keep, .new, .turn, .skip, .skip] (.one 7 [.keep, .keep, .keep, .keep, .keep, .keep, .keep, .keep, .new, .turn] (.one 9 [.keep, .keep, .keep, .keep, .keep, .keep, .keep, .keep, .keep, .keep] .fin))), by decide +kernel, ?_⟩; (refine g0_ ?_; repeat ((first | refine n1_ fun b_ => ?_ | refine n2_ fun b_ => ?_ | refine Nat1.mk fun q_ hq_ => ?_ | refine em_ fun x_ hx_ => ?_ | refine Elem1.mk fun e_ he_ => ?_); refine g0_ ?_))
        refine ACalls.lendK hkd (List.Perm.refl _) ?_
        (refine g0_ ?_; repeat ((first | refine n1_ fun b_ => ?_ | refine n2_ fun b_ => ?_ | refine Nat1.mk fun q_ hq_ => ?_ | refine em_ fun x_ hx_ => ?_ | refine Elem1.mk fun e_ he_ => ?_); refine g0_ ?_))
        refine ACalls.lend1 (hnm) (by repeat (first | exact .here _ _ _ | apply Look.there)) ?_
        rintro _ -
        rw [hcl]
        (refine g0_ ?_; repeat ((first | refine n1_ fun b_ => ?_ | refine n2_ fun b_ => ?_ | refine Nat1.mk fun q_ hq_ => ?_ | refine em_ fun x_ hx_ => ?_ | refine Elem1.mk fun e_ he_ => ?_); refine g0_ ?_))
        (refine g1_ ?_; repeat ((first | refine n1_ fun b_ => ?_ | refine n2_ fun b_ => ?_ | refine Nat1.mk fun q_ hq_ => ?_ | refine em_ fun x_ hx_ => ?_ | refine Elem1.mk fun e_ he_ => ?_); refine g1_ ?_))
        refine WpX.seq (WpX.seq (WpX.of_vc (DM_ok (by decide)) (by decide) ?_))
        (refine g0_ ?_; repeat ((first | refine n1_ fun b_ => ?_ | refine n2_ fun b_ => ?_ | refine Nat1.mk fun q_ hq_ => ?_ | refine em_ fun x_ hx_ => ?_ | refine Elem1.mk fun e_ he_ => ?_); refine g0_ ?_))
        refine ACalls.lend1 (hn1) (by repeat (first | exact .here _ _ _ | apply Look.there)) ?_
        rintro _ -
        rw [h42]
        (refine g0_ ?_; repeat ((first | refine n1_ fun b_ => ?_ | refine n2_ fun b_ => ?_ | refine Nat1.mk fun q_ hq_ => ?_ | refine em_ fun x_ hx_ => ?_ | refine Elem1.mk fun e_ he_ => ?_); refine g0_ ?_))
        (refine g1_ ?_; repeat ((first | refine n1_ fun b_ => ?_ | refine n2_ fun b_ => ?_ | refine Nat1.mk fun q_ hq_ => ?_ | refine em_ fun x_ hx_ => ?_ | refine Elem1.mk fun e_ he_ => ?_); refine g1_ ?_))
        refine WpX.condT (by rfl) ?_
        refine WpX.seq (WpX.of_vc (DM_ok (by decide)) (by decide) ?_)
        (refine g0_ ?_; repeat ((first | refine n1_ fun b_ => ?_ | refine n2_ fun b_ => ?_ | refine Nat1.mk fun q_ hq_ => ?_ | refine em_ fun x_ hx_ => ?_ | refine Elem1.mk fun e_ he_ => ?_); refine g0_ ?_))
        (refine g1_ ?_; repeat ((first | refine n1_ fun b_ => ?_ | refine n2_ fun b_ => ?_ | refine Nat1.mk fun q_ hq_ => ?_ | refine em_ fun x_ hx_ => ?_ | refine Elem1.mk fun e_ he_ => ?_); refine g1_ ?_))
        cases hr : readN s (m' + 1 + 1) with
        | error x =>
          rw [hr] at hz
          obtain rfl : x = e := by injection hz
          obtain ⟨rfl, hbad⟩ := readN_bad hr
          have hnx := numberX_bad W b s (m' + 1 + 1) hs (by omega) hbad
          simp only [rdM] at hnx
          refine WpX.seq (WpX.panicAt 1 _ rfl rfl (by decide) ?_)
          (refine g0_ ?_; repeat ((first | refine n1_ fun b_ => ?_ | refine n2_ fun b_ => ?_ | refine Nat1.mk fun q_ hq_ => ?_ | refine em_ fun x_ hx_ => ?_ | refine Elem1.mk fun e_ he_ => ?_); refine g0_ ?_))
          first
            | exact (hnx.dies (ρ := [_, _, _]) (fun _ _ h => h) (.refl _)).mono (fun _ _ h => h) (fun _ _ h => h.1)
            | exact (hnx.dies (ρ := [_, _, _]) (fun _ _ h => h) (List.perm_middle (l₁ := [_]) (l₂ := [_, _]))).mono (fun _ _ h => h) (fun _ _ h => h.1)
            | exact (hnx.dies (ρ := [_, _, _]) (fun _ _ h => h) (List.perm_middle (l₁ := [_, _]) (l₂ := [_]))).mono (fun _ _ h => h) (fun _ _ h => h.1)
        | ok y =>
          obtain ⟨z, m3⟩ := y
          rw [hr] at hz
          dsimp only at hz
          split at hz
          case isFalse => cases hz
          rename_i hz1
          obtain rfl : m3 - 1 = e := by injection hz
          obtain ⟨k1, k2, k3, k4, k5, k6, k7⟩ := readN_len hr
          have hnx := numberX_ok W b s (m' + 1 + 1) hs (by omega) k6 k7
          rw [← k4, ← k5] at hnx
          simp only [rdM] at hnx
          subst hz1
          refine WpX.seq (WpX.of_vc (DM_ok (by decide)) (by decide) ?_)
          (refine g0_ ?_; repeat ((first | refine n1_ fun b_ => ?_ | refine n2_ fun b_ => ?_ | refine Nat1.mk fun q_ hq_ => ?_ | refine em_ fun x_ hx_ => ?_ | refine Elem1.mk fun e_ he_ => ?_); refine g0_ ?_))
          refine ACalls.lend1 (hnx) (by repeat (first | exact .here _ _ _ | apply Look.there)) ?_
          rintro _ -
          (refine g0_ ?_; repeat ((first | refine n1_ fun b_ => ?_ | refine n2_ fun b_ => ?_ | refine Nat1.mk fun q_ hq_ => ?_ | refine em_ fun x_ hx_ => ?_ | refine Elem1.mk fun e_ he_ => ?_); refine g0_ ?_))
          refine WpX.seq (WpX.of_vc (DM_ok (by decide)) (by decide) ?_)
          (refine g0_ ?_; repeat ((first | refine n1_ fun b_ => ?_ | refine n2_ fun b_ => ?_ | refine Nat1.mk fun q_ hq_ => ?_ | refine em_ fun x_ hx_ => ?_ | refine Elem1.mk fun e_ he_ => ?_); refine g0_ ?_))
          (refine g1_ ?_; repeat ((first | refine n1_ fun b_ => ?_ | refine n2_ fun b_ => ?_ | refine Nat1.mk fun q_ hq_ => ?_ | refine em_ fun x_ hx_ => ?_ | refine Elem1.mk fun e_ he_ => ?_); refine g1_ ?_))
          refine WpX.condT (by rfl) (WpX.panicAt 7 _ rfl rfl (by decide) ?_)
          (refine g0_ ?_; repeat ((first | refine n1_ fun b_ => ?_ | refine n2_ fun b_ => ?_ | refine Nat1.mk fun q_ hq_ => ?_ | refine em_ fun x_ hx_ => ?_ | refine Elem1.mk fun e_ he_ => ?_); refine g0_ ?_))
          show PV.ifc _ (.agg [.int .i64 ((m3 : Int) - 1)]) = stopV (m3 - 1)
          unfold stopV
          rw [show ((m3 - 1 : Nat) : Int) = (m3 : Int) - 1 by omega]
      · simp only [List.map_cons, List.length_cons] at hlm hla
        injection hlp with hlp
        obtain ⟨hks, rfl⟩ := Prod.mk.inj hlp
        have hml := next_lt hcl (by decide)
        have hn1 := hn (m' + 1) (by omega)
        clear hks hlp
        unfold sizeX at hz
        split at hz
        case isFalse => cases hz
        rename_i h42
        have hmz := next_lt h42 (by decide)
        (refine g0_ ?_; repeat ((first | refine n1_ fun b_ => ?_ | refine n2_ fun b_ => ?_ | refine Nat1.mk fun q_ hq_ => ?_ | refine em_ fun x_ hx_ => ?_ | refine Elem1.mk fun e_ he_ => ?_); refine g0_ ?_))
        refine Draws11.tree ⟨10, [.new, .new, .new, .new, .new, .turn, .skip, .skip, .skip, .skip], (.one 5 [.again, .again, .keep, .keep, .keep, .keep, .new, .turn, .skip, .skip] (.one 7 [.keep, .keep, .keep, .keep, .keep, .keep, .keep, .keep, .new, .turn] (.one 9 [.keep, .keep, .keep, .keep, .keep, .keep, .keep, .keep, .keep, .keep] .fin))), by decide +kernel, ?_⟩; (refine g0_ ?_; repeat ((first | refine n1_ fun b_ => ?_ | refine n2_ fun b_ => ?_ | refine Nat1.mk fun q_ hq_ => ?_ | refine em_ fun x_ hx_ => ?_ | refine Elem1.mk fun e_ he_ => ?_); refine g0_ ?_))
        refine ACalls.lendK hkd (List.Perm.refl _) ?_
        (refine g0_ ?_; repeat ((first | refine n1_ fun b_ => ?_ | refine n2_ fun b_ => ?_ | refine Nat1.mk fun q_ hq_ => ?_ | refine em_ fun x_ hx_ => ?_ | refine Elem1.mk fun e_ he_ => ?_); refine g0_ ?_))
        refine ACalls.lend1 (hnm) (by repeat (first | exact .here _ _ _ | apply Look.there)) ?_
        rintro _ -
        rw [hcl]
        (refine g0_ ?_; repeat ((first | refine n1_ fun b_ => ?_ | refine n2_ fun b_ => ?_ | refine Nat1.mk fun q_ hq_ => ?_ | refine em_ fun x_ hx_ => ?_ | refine Elem1.mk fun e_ he_ => ?_); refine g0_ ?_))
        (refine g1_ ?_; repeat ((first | refine n1_ fun b_ => ?_ | refine n2_ fun b_ => ?_ | refine Nat1.mk fun q_ hq_ => ?_ | refine em_ fun x_ hx_ => ?_ | refine Elem1.mk fun e_ he_ => ?_); refine g1_ ?_))
        refine WpX.seq (WpX.seq (WpX.of_vc (DM_ok (by decide)) (by decide) ?_))
        (refine g0_ ?_; repeat ((first | refine n1_ fun b_ => ?_ | refine n2_ fun b_ => ?_ | refine Nat1.mk fun q_ hq_ => ?_ | refine em_ fun x_ hx_ => ?_ | refine Elem1.mk fun e_ he_ => ?_); refine g0_ ?_))
        refine ACalls.lend1 (hn1) (by repeat (first | exact .here _ _ _ | apply Look.there)) ?_
        rintro _ -
        rw [h42]
        (refine g0_ ?_; repeat ((first | refine n1_ fun b_ => ?_ | refine n2_ fun b_ => ?_ | refine Nat1.mk fun q_ hq_ => ?_ | refine em_ fun x_ hx_ => ?_ | refine Elem1.mk fun e_ he_ => ?_); refine g0_ ?_))
        (refine g1_ ?_; repeat ((first | refine n1_ fun b_ => ?_ | refine n2_ fun b_ => ?_ | refine Nat1.mk fun q_ hq_ => ?_ | refine em_ fun x_ hx_ => ?_ | refine Elem1.mk fun e_ he_ => ?_); refine g1_ ?_))
        refine WpX.condT (by rfl) ?_
        refine WpX.seq (WpX.of_vc (DM_ok (by decide)) (by decide) ?_)
        (refine g0_ ?_; repeat ((first | refine n1_ fun b_ => ?_ | refine n2_ fun b_ => ?_ | refine Nat1.mk fun q_ hq_ => ?_ | refine em_ fun x_ hx_ => ?_ | refine Elem1.mk fun e_ he_ => ?_); refine g0_ ?_))
        (refine g1_ ?_; repeat ((first | refine n1_ fun b_ => ?_ | refine n2_ fun b_ => ?_ | refine Nat1.mk fun q_ hq_ => ?_ | refine em_ fun x_ hx_ => ?_ | refine Elem1.mk fun e_ he_ => ?_); refine g1_ ?_))
        cases hr : readN s (m' + 1 + 1) with
        | error x =>
          rw [hr] at hz
          obtain rfl : x = e := by injection hz
          obtain ⟨rfl, hbad⟩ := readN_bad hr
          have hnx := numberX_bad W b s (m' + 1 + 1) hs (by omega) hbad
          simp only [rdM] at hnx
          refine WpX.seq (WpX.panicAt 1 _ rfl rfl (by decide) ?_)
          (refine g0_ ?_; repeat ((first | refine n1_ fun b_ => ?_ | refine n2_ fun b_ => ?_ | refine Nat1.mk fun q_ hq_ => ?_ | refine em_ fun x_ hx_ => ?_ | refine Elem1.mk fun e_ he_ => ?_); refine g0_ ?_))
          first
            | exact (hnx.dies (ρ := [_, _, _]) (fun _ _ h => h) (.refl _)).mono (fun _ _ h => h) (fun _ _ h => h.1)
            | exact (hnx.dies (ρ := [_, _, _]) (fun _ _ h => h) (List.perm_middle (l₁ := [_]) (l₂ := [_, _]))).mono (fun _ _ h => h) (fun _ _ h => h.1)
            | exact (hnx.dies (ρ := [_, _, _]) (fun _ _ h => h) (List.perm_middle (l₁ := [_, _]) (l₂ := [_]))).mono (fun _ _ h => h) (fun _ _ h => h.1)
        | ok y =>
          obtain ⟨z, m3⟩ := y
          rw [hr] at hz
          dsimp only at hz
          split at hz
          case isFalse => cases hz
          rename_i hz1
          obtain rfl : m3 - 1 = e := by injection hz
          obtain ⟨k1, k2, k3, k4, k5, k6, k7⟩ := readN_len hr
          have hnx := numberX_ok W b s (m' + 1 + 1) hs (by omega) k6 k7
          rw [← k4, ← k5] at hnx
          simp only [rdM] at hnx
          subst hz1
          refine WpX.seq (WpX.of_vc (DM_ok (by decide)) (by decide) ?_)
          (refine g0_ ?_; repeat ((first | refine n1_ fun b_ => ?_ | refine n2_ fun b_ => ?_ | refine Nat1.mk fun q_ hq_ => ?_ | refine em_ fun x_ hx_ => ?_ | refine Elem1.mk fun e_ he_ => ?_); refine g0_ ?_))
          refine ACalls.lend1 (hnx) (by repeat (first | exact .here _ _ _ | apply Look.there)) ?_
          rintro _ -
          (refine g0_ ?_; repeat ((first | refine n1_ fun b_ => ?_ | refine n2_ fun b_ => ?_ | refine Nat1.mk fun q_ hq_ => ?_ | refine em_ fun x_ hx_ => ?_ | refine Elem1.mk fun e_ he_ => ?_); refine g0_ ?_))
          refine WpX.seq (WpX.of_vc (DM_ok (by decide)) (by decide) ?_)
          (refine g0_ ?_; repeat ((first | refine n1_ fun b_ => ?_ | refine n2_ fun b_ => ?_ | refine Nat1.mk fun q_ hq_ => ?_ | refine em_ fun x_ hx_ => ?_ | refine Elem1.mk fun e_ he_ => ?_); refine g0_ ?_))
          (refine g1_ ?_; repeat ((first | refine n1_ fun b_ => ?_ | refine n2_ fun b_ => ?_ | refine Nat1.mk fun q_ hq_ => ?_ | refine em_ fun x_ hx_ => ?_ | refine Elem1.mk fun e_ he_ => ?_); refine g1_ ?_))
          refine WpX.condT (by rfl) (WpX.panicAt 7 _ rfl rfl (by decide) ?_)
          (refine g0_ ?_; repeat ((first | refine n1_ fun b_ => ?_ | refine n2_ fun b_ => ?_ | refine Nat1.mk fun q_ hq_ => ?_ | refine em_ fun x_ hx_ => ?_ | refine Elem1.mk fun e_ he_ => ?_); refine g0_ ?_))
          show PV.ifc _ (.agg [.int .i64 ((m3 : Int) - 1)]) = stopV (m3 - 1)
          unfold stopV
          rw [show ((m3 - 1 : Nat) : Int) = (m3 : Int) - 1 by omega]
    · rw [if_neg hcl] at hlp
      split at hlp
      case isFalse => cases hlp
      rename_i h44
      rcases l with _ | ⟨l0, l⟩
      · (refine g0_ ?_; repeat ((first | refine n1_ fun b_ => ?_ | refine n2_ fun b_ => ?_ | refine Nat1.mk fun q_ hq_ => ?_ | refine em_ fun x_ hx_ => ?_ | refine Elem1.mk fun e_ he_ => ?_); refine g0_ ?_))
        refine Draws11.tree ⟨10, [.new, .new, .new, .new, .new, .turn, .skip, .skip, .skip, .skip], (.one 5 [.again, .again, .keep, .keep, .keep, .keep, .new, .turn, .skip, .skip] (.one 7 [.keep, .keep, .keep, .keep, .keep, .keep, .keep, .keep, .new, .turn] (.one 9 [.keep, .keep, .keep, .keep, .keep, .keep, .keep, .keep, .keep, .keep] .fin))), by decide +kernel, ?_⟩; (refine g0_ ?_; repeat ((first | refine n1_ fun b_ => ?_ | refine n2_ fun b_ => ?_ | refine Nat1.mk fun q_ hq_ => ?_ | refine em_ fun x_ hx_ => ?_ | refine Elem1.mk fun e_ he_ => ?_); refine g0_ ?_))
        refine ACalls.lendK hkd (List.Perm.refl _) ?_
        (refine g0_ ?_; repeat ((first | refine n1_ fun b_ => ?_ | refine n2_ fun b_ => ?_ | refine Nat1.mk fun q_ hq_ => ?_ | refine em_ fun x_ hx_ => ?_ | refine Elem1.mk fun e_ he_ => ?_); refine g0_ ?_))
        refine ACalls.lend1 (hnm) (by repeat (first | exact .here _ _ _ | apply Look.there)) ?_
        rintro _ -
        rw [h44]
        (refine g0_ ?_; repeat ((first | refine n1_ fun b_ => ?_ | refine n2_ fun b_ => ?_ | refine Nat1.mk fun q_ hq_ => ?_ | refine em_ fun x_ hx_ => ?_ | refine Elem1.mk fun e_ he_ => ?_); refine g0_ ?_))
        (refine g1_ ?_; repeat ((first | refine n1_ fun b_ => ?_ | refine n2_ fun b_ => ?_ | refine Nat1.mk fun q_ hq_ => ?_ | refine em_ fun x_ hx_ => ?_ | refine Elem1.mk fun e_ he_ => ?_); refine g1_ ?_))
        rw [← e2]
        try rw [show ∀ v : PV, (List.map encSpl l).length + 1 + [v].length = (List.map encSpl (l ++ [Spl.mk w2 p2 s2 ks2])).length + 1 from fun v => by simp]
        try rw [show (encSpl l0 :: List.map encSpl l) ++ [encSpl (Spl.mk w2 p2 s2 ks2)] = splsV (l0 :: l ++ [Spl.mk w2 p2 s2 ks2]) from by simp [splsV]]
        refine nx_ (m', b_, [] ++ [Spl.mk w2 p2 s2 ks2], fu) ?_ ?_
        · exact ⟨next_lt h44 (by decide), by simp only [List.length_append, List.length_cons, List.length_nil] at *; omega, hlp, by omega⟩
        · ((try dsimp only); (try simp only [List.length_drop, List.length_take, List.length_append, List.length_cons, List.length_nil, List.length_map] at *); omega)
      · simp only [List.map_cons, List.length_cons] at hlm hla
        (refine g0_ ?_; repeat ((first | refine n1_ fun b_ => ?_ | refine n2_ fun b_ => ?_ | refine Nat1.mk fun q_ hq_ => ?_ | refine em_ fun x_ hx_ => ?_ | refine Elem1.mk fun e_ he_ => ?_); refine g0_ ?_))
        refine Draws11.tree ⟨10, [.new, .new, .new, .new, .new, .turn, .skip, .skip, .skip, .skip], (.one 5 [.again, .again, .keep, .keep, .keep, .keep, .new, .turn, .skip, .skip] (.one 7 [.keep, .keep, .keep, .keep, .keep, .keep, .keep, .keep, .new, .turn] (.one 9 [.keep, .keep, .keep, .keep, .keep, .keep, .keep, .keep, .keep, .keep] .fin))), by decide +kernel, ?_⟩; (refine g0_ ?_; repeat ((first | refine n1_ fun b_ => ?_ | refine n2_ fun b_ => ?_ | refine Nat1.mk fun q_ hq_ => ?_ | refine em_ fun x_ hx_ => ?_ | refine Elem1.mk fun e_ he_ => ?_); refine g0_ ?_))
        refine ACalls.lendK hkd (List.Perm.refl _) ?_
        (refine g0_ ?_; repeat ((first | refine n1_ fun b_ => ?_ | refine n2_ fun b_ => ?_ | refine Nat1.mk fun q_ hq_ => ?_ | refine em_ fun x_ hx_ => ?_ | refine Elem1.mk fun e_ he_ => ?_); refine g0_ ?_))
        refine ACalls.lend1 (hnm) (by repeat (first | exact .here _ _ _ | apply Look.there)) ?_
        rintro _ -
        rw [h44]
        (refine g0_ ?_; repeat ((first | refine n1_ fun b_ => ?_ | refine n2_ fun b_ => ?_ | refine Nat1.mk fun q_ hq_ => ?_ | refine em_ fun x_ hx_ => ?_ | refine Elem1.mk fun e_ he_ => ?_); refine g0_ ?_))
        (refine g1_ ?_; repeat ((first | refine n1_ fun b_ => ?_ | refine n2_ fun b_ => ?_ | refine Nat1.mk fun q_ hq_ => ?_ | refine em_ fun x_ hx_ => ?_ | refine Elem1.mk fun e_ he_ => ?_); refine g1_ ?_))
        rw [← e2]
        try rw [show ∀ v : PV, (List.map encSpl l).length + 1 + [v].length = (List.map encSpl (l ++ [Spl.mk w2 p2 s2 ks2])).length + 1 from fun v => by simp]
        try rw [show (encSpl l0 :: List.map encSpl l) ++ [encSpl (Spl.mk w2 p2 s2 ks2)] = splsV (l0 :: l ++ [Spl.mk w2 p2 s2 ks2]) from by simp [splsV]]
        refine nx_ (m', b_, (l0 :: l) ++ [Spl.mk w2 p2 s2 ks2], fu) ?_ ?_
        · exact ⟨next_lt h44 (by decide), by simp only [List.length_append, List.length_cons, List.length_nil] at *; omega, hlp, by omega⟩
        · ((try dsimp only); (try simp only [List.length_drop, List.length_take, List.length_append, List.length_cons, List.length_nil, List.length_map] at *); omega)
/-- .. one above the other. -/
theorem splitX_kids_end2 (b : Nat) (s : List UInt8) (i : Nat) (d : Int) (ks : List Spl) (m e : Nat) (hs : s.length ≤ 4000) (hi : i < s.length) (hd : 1 ≤ d ∧ d ≤ 12) (f : Nat → Except Nat (Spl × Nat))
    (hok : ∀ a t m, a ≤ s.length → f a = .ok (t, m) → a < m ∧ m ≤ s.length ∧ ACalls Tryd.prog W 51 [.bref b 0, .int .i64 (d + 1)] [rdM b s a] (SpOut b s m t))
    (hc : nextN s i = 91) (h : loopK s f 93 (s.length + 1) i [] = .ok (ks, m)) (hz : sizeX s 2 0 ks m = .error e) :
    XCalls Tryd.prog W 51 [.bref b 0, .int .i64 d] [rdM b s i] (fun _ _ => False) (fun v _ => v = stopV e) := by
  have hn := fun j (hj : j ≤ s.length) => nextB_ok W b s j hj hs
  have hix := indexB_ok W (nextN s i)
  unfold SpOut at hok
  simp only [rdM] at hn hok ⊢
  rw [hc, show Lib.indexByte [123, 91] (UInt8.ofNat 91) = 1 from by decide] at hix
  refine xcalls_of_body Tryd.func51 rfl (by decide) rfl ?_
  skip
  refine WpX.seq (WpX.of_vc (DD_ok (by decide)) (by decide) ?_)
  (refine g0_ ?_; repeat ((first | refine n1_ fun b_ => ?_ | refine n2_ fun b_ => ?_ | refine Nat1.mk fun q_ hq_ => ?_ | refine em_ fun x_ hx_ => ?_ | refine Elem1.mk fun e_ he_ => ?_); refine g0_ ?_))
  refine WpX.seq (WpX.of_vc (DD_ok (by decide)) (by decide) ?_)
  (refine g0_ ?_; repeat ((first | refine n1_ fun b_ => ?_ | refine n2_ fun b_ => ?_ | refine Nat1.mk fun q_ hq_ => ?_ | refine em_ fun x_ hx_ => ?_ | refine Elem1.mk fun e_ he_ => ?_); refine g0_ ?_))
  rename_i bR
  obtain ⟨bT, rfl⟩ : ∃ z, z = b_ := ⟨_, rfl⟩
  refine WpX.seq (WpX.of_vc (DD_ok (by decide)) (by decide) ?_)
  (refine g0_ ?_; repeat ((first | refine n1_ fun b_ => ?_ | refine n2_ fun b_ => ?_ | refine Nat1.mk fun q_ hq_ => ?_ | refine em_ fun x_ hx_ => ?_ | refine Elem1.mk fun e_ he_ => ?_); refine g0_ ?_))
  refine ACalls.lend1 (hn i (by omega)) (by repeat (first | exact .here _ _ _ | apply Look.there)) ?_
  rintro _ -
  rw [hc]
  (refine g0_ ?_; repeat ((first | refine n1_ fun b_ => ?_ | refine n2_ fun b_ => ?_ | refine Nat1.mk fun q_ hq_ => ?_ | refine em_ fun x_ hx_ => ?_ | refine Elem1.mk fun e_ he_ => ?_); refine g0_ ?_))
  refine (hix).use ?_; (refine g0_ ?_; repeat ((first | refine n1_ fun b_ => ?_ | refine n2_ fun b_ => ?_ | refine Nat1.mk fun q_ hq_ => ?_ | refine em_ fun x_ hx_ => ?_ | refine Elem1.mk fun e_ he_ => ?_); refine g0_ ?_))
  (refine g1_ ?_; repeat ((first | refine n1_ fun b_ => ?_ | refine n2_ fun b_ => ?_ | refine Nat1.mk fun q_ hq_ => ?_ | refine em_ fun x_ hx_ => ?_ | refine Elem1.mk fun e_ he_ => ?_); refine g1_ ?_))
  refine WpX.seq (WpX.seq (WpX.of_vc (DD_ok (by decide)) (by decide) ?_))
  (refine g0_ ?_; repeat ((first | refine n1_ fun b_ => ?_ | refine n2_ fun b_ => ?_ | refine Nat1.mk fun q_ hq_ => ?_ | refine em_ fun x_ hx_ => ?_ | refine Elem1.mk fun e_ he_ => ?_); refine g0_ ?_))
  refine head_ ?_; (refine g0_ ?_; repeat ((first | refine n1_ fun b_ => ?_ | refine n2_ fun b_ => ?_ | refine Nat1.mk fun q_ hq_ => ?_ | refine em_ fun x_ hx_ => ?_ | refine Elem1.mk fun e_ he_ => ?_); refine g0_ ?_))
  (refine g1_ ?_; repeat ((first | refine n1_ fun b_ => ?_ | refine n2_ fun b_ => ?_ | refine Nat1.mk fun q_ hq_ => ?_ | refine em_ fun x_ hx_ => ?_ | refine Elem1.mk fun e_ he_ => ?_); refine g1_ ?_))
  refine WpX.condT (by first | rfl | (show PV.bool (decide ((i : Int) < (s.length : Int))) = PV.bool true; rw [decide_eq_true (by omega)])) ?_
  refine WpX.seq (WpX.seq (WpX.of_vc (DD_ok (by decide)) (by decide) ?_))
  (refine g0_ ?_; repeat ((first | refine n1_ fun b_ => ?_ | refine n2_ fun b_ => ?_ | refine Nat1.mk fun q_ hq_ => ?_ | refine em_ fun x_ hx_ => ?_ | refine Elem1.mk fun e_ he_ => ?_); refine g0_ ?_))
  (refine g1_ ?_; repeat ((first | refine n1_ fun b_ => ?_ | refine n2_ fun b_ => ?_ | refine Nat1.mk fun q_ hq_ => ?_ | refine em_ fun x_ hx_ => ?_ | refine Elem1.mk fun e_ he_ => ?_); refine g1_ ?_))
  refine WpX.condF (by first | rfl | (show PV.bool (decide (d > 12)) = PV.bool false; rw [decide_eq_false (by omega)]) | (show PV.bool (decide (12 < d)) = PV.bool false; rw [decide_eq_false (by omega)])) (WpX.skip ?_)
  change WpX _ _ _ _ _ _ _ _ _
  refine WpX.of_vc (DM_ok (by decide)) (by decide) ?_
  (refine g0_ ?_; repeat ((first | refine n1_ fun b_ => ?_ | refine n2_ fun b_ => ?_ | refine Nat1.mk fun q_ hq_ => ?_ | refine em_ fun x_ hx_ => ?_ | refine Elem1.mk fun e_ he_ => ?_); refine g0_ ?_))
  refine' loopI (α := Nat × Nat × (List Spl) × Nat) (fun (a, b', l, fu) => []) [(0, _), (1, _), (4, _), (5, _), (6, _)] (fun (a, b', l, fu) => ⟨b, .row 2 [.agg [.str s, .int .i64 (a : Int)]] 0⟩ :: ⟨bT, .row 4 [.agg [.int .i64 2, .int .i64 0, .int .i64 1, accV b' 4 (splsV l)]] 0⟩ :: ⟨bR, .row 4 [.agg [.int .i64 0, .int .i64 0, .int .i64 0, .nils]] 0⟩ :: accM b' 4 (splsV l)) (fun (a, b', l, fu) => a < s.length ∧ l.length ≤ a ∧ loopK s f 93 fu a l = .ok (ks, m) ∧ s.length < fu + a) (fun (a, b', l, fu) => s.length - a) (i, 0, [], s.length + 1) ?_ ?_
  · exact ⟨hi, Nat.zero_le _, h, by omega⟩
  rintro ⟨a, b', l, fu⟩ ⟨ha, hla, hlp, hfu⟩
  obtain ⟨fu, rfl⟩ : ∃ k, fu = k + 1 := ⟨fu - 1, by omega⟩
  rw [loopK] at hlp
  cases hfa : f (a + 1) with
  | error x => rw [hfa] at hlp; cases hlp
  | ok y =>
    obtain ⟨k, m'⟩ := y
    rw [hfa] at hlp
    dsimp only at hlp
    obtain ⟨hm1, hm2, hkd⟩ := hok (a + 1) k m' (by omega) hfa
    have ha9 : a + 1 ≤ 4000 := by omega
    have hlm : (List.map encSpl l).length = l.length := List.length_map _
    obtain ⟨w2, p2, s2, ks2⟩ := k
    have e2 := encSpl_mk w2 p2 s2 ks2
    rw [e2] at hkd
    have hnm := hn m' hm2
    clear hok hfa hix h
    by_cases hcl : nextN s m' = 93
    · rw [if_pos hcl] at hlp
      rcases l with _ | ⟨l0, l⟩
      · injection hlp with hlp
        obtain ⟨hks, rfl⟩ := Prod.mk.inj hlp
        have hml := next_lt hcl (by decide)
        have hn1 := hn (m' + 1) (by omega)
        clear hks hlp
        unfold sizeX at hz
        split at hz
        case isFalse => cases hz
        rename_i h42
        have hmz := next_lt h42 (by decide)
        (refine g0_ ?_; repeat ((first | refine n1_ fun b_ => ?_ | refine n2_ fun b_ => ?_ | refine Nat1.mk fun q_ hq_ => ?_ | refine em_ fun x_ hx_ => ?_ | refine Elem1.mk fun e_ he_ => ?_); refine g0_ ?_))
        refine Draws11.tree ⟨10, [.new, .new, .new, .new, .new, .turn, .skip, .skip, .skip, .skip], (.one 5 [.again, .again, .keep, .keep, .keep, .keep, .new, .turn, .skip, .skip] (.one 7 [.keep, .keep, .keep, .keep, .keep, .keep, .keep, .keep, .new, .turn] (.one 9 [.keep, .keep, .keep, .keep, .keep, .keep, .keep, .keep, .keep, .keep] .fin))), by decide +kernel, ?_⟩; (refine g0_ ?_; repeat ((first | refine n1_ fun b_ => ?_ | refine n2_ fun b_ => ?_ | refine Nat1.mk fun q_ hq_ => ?_ | refine em_ fun x_ hx_ => ?_ | refine Elem1.mk fun e_ he_ => ?_); refine g0_ ?_))
        refine ACalls.lendK hkd (List.Perm.refl _) ?_
        (refine g0_ ?_; repeat ((first | refine n1_ fun b_ => ?_ | refine n2_ fun b_ => ?_ | refine Nat1.mk fun q_ hq_ => ?_ | refine em_ fun x_ hx_ => ?_ | refine Elem1.mk fun e_ he_ => ?_); refine g0_ ?_))
        refine ACalls.lend1 (hnm) (by repeat (first | exact .here _ _ _ | apply Look.there)) ?_
        rintro _ -
        rw [hcl]
        (refine g0_ ?_; repeat ((first | refine n1_ fun b_ => ?_ | refine n2_ fun b_ => ?_ | refine Nat1.mk fun q_ hq_ => ?_ | refine em_ fun x_ hx_ => ?_ | refine Elem1.mk fun e_ he_ => ?_); refine g0_ ?_))
        (refine g1_ ?_; repeat ((first | refine n1_ fun b_ => ?_ | refine n2_ fun b_ => ?_ | refine Nat1.mk fun q_ hq_ => ?_ | refine em_ fun x_ hx_ => ?_ | refine Elem1.mk fun e_ he_ => ?_); refine g1_ ?_))
        refine WpX.seq (WpX.seq (WpX.of_vc (DM_ok (by decide)) (by decide) ?_))
        (refine g0_ ?_; repeat ((first | refine n1_ fun b_ => ?_ | refine n2_ fun b_ => ?_ | refine Nat1.mk fun q_ hq_ => ?_ | refine em_ fun x_ hx_ => ?_ | refine Elem1.mk fun e_ he_ => ?_); refine g0_ ?_))
        refine ACalls.lend1 (hn1) (by repeat (first | exact .here _ _ _ | apply Look.there)) ?_
        rintro _ -
        rw [h42]
        (refine g0_ ?_; repeat ((first | refine n1_ fun b_ => ?_ | refine n2_ fun b_ => ?_ | refine Nat1.mk fun q_ hq_ => ?_ | refine em_ fun x_ hx_ => ?_ | refine Elem1.mk fun e_ he_ => ?_); refine g0_ ?_))
        (refine g1_ ?_; repeat ((first | refine n1_ fun b_ => ?_ | refine n2_ fun b_ => ?_ | refine Nat1.mk fun q_ hq_ => ?_ | refine em_ fun x_ hx_ => ?_ | refine Elem1.mk fun e_ he_ => ?_); refine g1_ ?_))
        refine WpX.condT (by rfl) ?_
        refine WpX.seq (WpX.of_vc (DM_ok (by decide)) (by decide) ?_)
        (refine g0_ ?_; repeat ((first | refine n1_ fun b_ => ?_ | refine n2_ fun b_ => ?_ | refine Nat1.mk fun q_ hq_ => ?_ | refine em_ fun x_ hx_ => ?_ | refine Elem1.mk fun e_ he_ => ?_); refine g0_ ?_))
        (refine g1_ ?_; repeat ((first | refine n1_ fun b_ => ?_ | refine n2_ fun b_ => ?_ | refine Nat1.mk fun q_ hq_ => ?_ | refine em_ fun x_ hx_ => ?_ | refine Elem1.mk fun e_ he_ => ?_); refine g1_ ?_))
        cases hr : readN s (m' + 1 + 1) with
        | error x =>
          rw [hr] at hz
          obtain rfl : x = e := by injection hz
          obtain ⟨rfl, hbad⟩ := readN_bad hr
          have hnx := numberX_bad W b s (m' + 1 + 1) hs (by omega) hbad
          simp only [rdM] at hnx
          refine WpX.seq (WpX.panicAt 1 _ rfl rfl (by decide) ?_)
          (refine g0_ ?_; repeat ((first | refine n1_ fun b_ => ?_ | refine n2_ fun b_ => ?_ | refine Nat1.mk fun q_ hq_ => ?_ | refine em_ fun x_ hx_ => ?_ | refine Elem1.mk fun e_ he_ => ?_); refine g0_ ?_))
          first
            | exact (hnx.dies (ρ := [_, _, _]) (fun _ _ h => h) (.refl _)).mono (fun _ _ h => h) (fun _ _ h => h.1)
            | exact (hnx.dies (ρ := [_, _, _]) (fun _ _ h => h) (List.perm_middle (l₁ := [_]) (l₂ := [_, _]))).mono (fun _ _ h => h) (fun _ _ h => h.1)
            | exact (hnx.dies (ρ := [_, _, _]) (fun _ _ h => h) (List.perm_middle (l₁ := [_, _]) (l₂ := [_]))).mono (fun _ _ h => h) (fun _ _ h => h.1)
        | ok y =>
          obtain ⟨z, m3⟩ := y
          rw [hr] at hz
          dsimp only at hz
          split at hz
          case isFalse => cases hz
          rename_i hz1
          obtain rfl : m3 - 1 = e := by injection hz
          obtain ⟨k1, k2, k3, k4, k5, k6, k7⟩ := readN_len hr
          have hnx := numberX_ok W b s (m' + 1 + 1) hs (by omega) k6 k7
          rw [← k4, ← k5] at hnx
          simp only [rdM] at hnx
          subst hz1
          refine WpX.seq (WpX.of_vc (DM_ok (by decide)) (by decide) ?_)
          (refine g0_ ?_; repeat ((first | refine n1_ fun b_ => ?_ | refine n2_ fun b_ => ?_ | refine Nat1.mk fun q_ hq_ => ?_ | refine em_ fun x_ hx_ => ?_ | refine Elem1.mk fun e_ he_ => ?_); refine g0_ ?_))
          refine ACalls.lend1 (hnx) (by repeat (first | exact .here _ _ _ | apply Look.there)) ?_
          rintro _ -
          (refine g0_ ?_; repeat ((first | refine n1_ fun b_ => ?_ | refine n2_ fun b_ => ?_ | refine Nat1.mk fun q_ hq_ => ?_ | refine em_ fun x_ hx_ => ?_ | refine Elem1.mk fun e_ he_ => ?_); refine g0_ ?_))
          refine WpX.seq (WpX.of_vc (DM_ok (by decide)) (by decide) ?_)
          (refine g0_ ?_; repeat ((first | refine n1_ fun b_ => ?_ | refine n2_ fun b_ => ?_ | refine Nat1.mk fun q_ hq_ => ?_ | refine em_ fun x_ hx_ => ?_ | refine Elem1.mk fun e_ he_ => ?_); refine g0_ ?_))
          (refine g1_ ?_; repeat ((first | refine n1_ fun b_ => ?_ | refine n2_ fun b_ => ?_ | refine Nat1.mk fun q_ hq_ => ?_ | refine em_ fun x_ hx_ => ?_ | refine Elem1.mk fun e_ he_ => ?_); refine g1_ ?_))
          refine WpX.condT (by rfl) (WpX.panicAt 7 _ rfl rfl (by decide) ?_)
          (refine g0_ ?_; repeat ((first | refine n1_ fun b_ => ?_ | refine n2_ fun b_ => ?_ | refine Nat1.mk fun q_ hq_ => ?_ | refine em_ fun x_ hx_ => ?_ | refine Elem1.mk fun e_ he_ => ?_); refine g0_ ?_))
          show PV.ifc _ (.agg [.int .i64 ((m3 : Int) - 1)]) = stopV (m3 - 1)
          unfold stopV
          rw [show ((m3 - 1 : Nat) : Int) = (m3 : Int) - 1 by omega]
      · simp only [List.map_cons, List.length_cons] at hlm hla
        injection hlp with hlp
        obtain ⟨hks, rfl⟩ := Prod.mk.inj hlp
        have hml := next_lt hcl (by decide)
        have hn1 := hn (m' + 1) (by omega)
        clear hks hlp
        unfold sizeX at hz
        split at hz
        case isFalse => cases hz
        rename_i h42
        have hmz := next_lt h42 (by decide)
        (refine g0_ ?_; repeat ((first | refine n1_ fun b_ => ?_ | refine n2_ fun b_ => ?_ | refine Nat1.mk fun q_ hq_ => ?_ | refine em_ fun x_ hx_ => ?_ | refine Elem1.mk fun e_ he_ => ?_); refine g0_ ?_))
        refine Draws11.tree ⟨10, [.new, .new, .new, .new, .new, .turn, .skip, .skip, .skip, .skip], (.one 5 [.again, .again, .keep, .keep, .keep, .keep, .new, .turn, .skip, .skip] (.one 7 [.keep, .keep, .keep, .keep, .keep, .keep, .keep, .keep, .new, .turn] (.one 9 [.keep, .keep, .keep, .keep, .keep, .keep, .keep, .keep, .keep, .keep] .fin))), by decide +kernel, ?_⟩; (refine g0_ ?_; repeat ((first | refine n1_ fun b_ => ?_ | refine n2_ fun b_ => ?_ | refine Nat1.mk fun q_ hq_ => ?_ | refine em_ fun x_ hx_ => ?_ | refine Elem1.mk fun e_ he_ => ?_); refine g0_ ?_))
        refine ACalls.lendK hkd (List.Perm.refl _) ?_
        (refine g0_ ?_; repeat ((first | refine n1_ fun b_ => ?_ | refine n2_ fun b_ => ?_ | refine Nat1.mk fun q_ hq_ => ?_ | refine em_ fun x_ hx_ => ?_ | refine Elem1.mk fun e_ he_ => ?_); refine g0_ ?_))
        refine ACalls.lend1 (hnm) (by repeat (first | exact .here _ _ _ | apply Look.there)) ?_
        rintro _ -
        rw [hcl]
        (refine g0_ ?_; repeat ((first | refine n1_ fun b_ => ?_ | refine n2_ fun b_ => ?_ | refine Nat1.mk fun q_ hq_ => ?_ | refine em_ fun x_ hx_ => ?_ | refine Elem1.mk fun e_ he_ => ?_); refine g0_ ?_))
        (refine g1_ ?_; repeat ((first | refine n1_ fun b_ => ?_ | refine n2_ fun b_ => ?_ | refine Nat1.mk fun q_ hq_ => ?_ | refine em_ fun x_ hx_ => ?_ | refine Elem1.mk fun e_ he_ => ?_); refine g1_ ?_))
        refine WpX.seq (WpX.seq (WpX.of_vc (DM_ok (by decide)) (by decide) ?_))
        (refine g0_ ?_; repeat ((first | refine n1_ fun b_ => ?_ | refine n2_ fun b_ => ?_ | refine Nat1.mk fun q_ hq_ => ?_ | refine em_ fun x_ hx_ => ?_ | refine Elem1.mk fun e_ he_ => ?_); refine g0_ ?_))
        refine ACalls.lend1 (hn1) (by repeat (first | exact .here _ _ _ | apply Look.there)) ?_
        rintro _ -
        rw [h42]
        (refine g0_ ?_; repeat ((first | refine n1_ fun b_ => ?_ | refine n2_ fun b_ => ?_ | refine Nat1.mk fun q_ hq_ => ?_ | refine em_ fun x_ hx_ => ?_ | refine Elem1.mk fun e_ he_ => ?_); refine g0_ ?_))
        (refine g1_ ?_; repeat ((first | refine n1_ fun b_ => ?_ | refine n2_ fun b_ => ?_ | refine Nat1.mk fun q_ hq_ => ?_ | refine em_ fun x_ hx_ => ?_ | refine Elem1.mk fun e_ he_ => ?_); refine g1_ ?_))
        refine WpX.condT (by rfl) ?_
        refine WpX.seq (WpX.of_vc (DM_ok (by decide)) (by decide) ?_)
        (refine g0_ ?_; repeat ((first | refine n1_ fun b_ => ?_ | refine n2_ fun b_ => ?_ | refine Nat1.mk fun q_ hq_ => ?_ | refine em_ fun x_ hx_ => ?_ | refine Elem1.mk fun e_ he_ => ?_); refine g0_ ?_))
        (refine g1_ ?_; repeat ((first | refine n1_ fun b_ => ?_ | refine n2_ fun b_ => ?_ | refine Nat1.mk fun q_ hq_ => ?_ | refine em_ fun x_ hx_ => ?_ | refine Elem1.mk fun e_ he_ => ?_); refine g1_ ?_))
        cases hr : readN s (m' + 1 + 1) with
        | error x =>
          rw [hr] at hz
          obtain rfl : x = e := by injection hz
          obtain ⟨rfl, hbad⟩ := readN_bad hr
          have hnx := numberX_bad W b s (m' + 1 + 1) hs (by omega) hbad
          simp only [rdM] at hnx
          refine WpX.seq (WpX.panicAt 1 _ rfl rfl (by decide) ?_)
          (refine g0_ ?_; repeat ((first | refine n1_ fun b_ => ?_ | refine n2_ fun b_ => ?_ | refine Nat1.mk fun q_ hq_ => ?_ | refine em_ fun x_ hx_ => ?_ | refine Elem1.mk fun e_ he_ => ?_); refine g0_ ?_))
          first
            | exact (hnx.dies (ρ := [_, _, _]) (fun _ _ h => h) (.refl _)).mono (fun _ _ h => h) (fun _ _ h => h.1)
            | exact (hnx.dies (ρ := [_, _, _]) (fun _ _ h => h) (List.perm_middle (l₁ := [_]) (l₂ := [_, _]))).mono (fun _ _ h => h) (fun _ _ h => h.1)
            | exact (hnx.dies (ρ := [_, _, _]) (fun _ _ h => h) (List.perm_middle (l₁ := [_, _]) (l₂ := [_]))).mono (fun _ _ h => h) (fun _ _ h => h.1)
        | ok y =>
          obtain ⟨z, m3⟩ := y
          rw [hr] at hz
          dsimp only at hz
          split at hz
          case isFalse => cases hz
          rename_i hz1
          obtain rfl : m3 - 1 = e := by injection hz
          obtain ⟨k1, k2, k3, k4, k5, k6, k7⟩ := readN_len hr
          have hnx := numberX_ok W b s (m' + 1 + 1) hs (by omega) k6 k7
          rw [← k4, ← k5] at hnx
          simp only [rdM] at hnx
          subst hz1
          refine WpX.seq (WpX.of_vc (DM_ok (by decide)) (by decide) ?_)
          (refine g0_ ?_; repeat ((first | refine n1_ fun b_ => ?_ | refine n2_ fun b_ => ?_ | refine Nat1.mk fun q_ hq_ => ?_ | refine em_ fun x_ hx_ => ?_ | refine Elem1.mk fun e_ he_ => ?_); refine g0_ ?_))
          refine ACalls.lend1 (hnx) (by repeat (first | exact .here _ _ _ | apply Look.there)) ?_
          rintro _ -
          (refine g0_ ?_; repeat ((first | refine n1_ fun b_ => ?_ | refine n2_ fun b_ => ?_ | refine Nat1.mk fun q_ hq_ => ?_ | refine em_ fun x_ hx_ => ?_ | refine Elem1.mk fun e_ he_ => ?_); refine g0_ ?_))
          refine WpX.seq (WpX.of_vc (DM_ok (by decide)) (by decide) ?_)
          (refine g0_ ?_; repeat ((first | refine n1_ fun b_ => ?_ | refine n2_ fun b_ => ?_ | refine Nat1.mk fun q_ hq_ => ?_ | refine em_ fun x_ hx_ => ?_ | refine Elem1.mk fun e_ he_ => ?_); refine g0_ ?_))
          (refine g1_ ?_; repeat ((first | refine n1_ fun b_ => ?_ | refine n2_ fun b_ => ?_ | refine Nat1.mk fun q_ hq_ => ?_ | refine em_ fun x_ hx_ => ?_ | refine Elem1.mk fun e_ he_ => ?_); refine g1_ ?_))
          refine WpX.condT (by rfl) (WpX.panicAt 7 _ rfl rfl (by decide) ?_)
          (refine g0_ ?_; repeat ((first | refine n1_ fun b_ => ?_ | refine n2_ fun b_ => ?_ | refine Nat1.mk fun q_ hq_ => ?_ | refine em_ fun x_ hx_ => ?_ | refine Elem1.mk fun e_ he_ => ?_); refine g0_ ?_))
          show PV.ifc _ (.agg [.int .i64 ((m3 : Int) - 1)]) = stopV (m3 - 1)
          unfold stopV
          rw [show ((m3 - 1 : Nat) : Int) = (m3 : Int) - 1 by omega]
    · rw [if_neg hcl] at hlp
      split at hlp
      case isFalse => cases hlp
      rename_i h44
      rcases l with _ | ⟨l0, l⟩
      · (refine g0_ ?_; repeat ((first | refine n1_ fun b_ => ?_ | refine n2_ fun b_ => ?_ | refine Nat1.mk fun q_ hq_ => ?_ | refine em_ fun x_ hx_ => ?_ | refine Elem1.mk fun e_ he_ => ?_); refine g0_ ?_))
        refine Draws11.tree ⟨10, [.new, .new, .new, .new, .new, .turn, .skip, .skip, .skip, .skip], (.one 5 [.again, .again, .keep, .keep, .keep, .keep, .new, .turn, .skip, .skip] (.one 7 [.keep, .keep, .keep, .keep, .keep, .keep, .keep, .keep, .new, .turn] (.one 9 [.keep, .keep, .keep, .keep, .keep, .keep, .keep, .keep, .keep, .keep] .fin))), by decide +kernel, ?_⟩; (refine g0_ ?_; repeat ((first | refine n1_ fun b_ => ?_ | refine n2_ fun b_ => ?_ | refine Nat1.mk fun q_ hq_ => ?_ | refine em_ fun x_ hx_ => ?_ | refine Elem1.mk fun e_ he_ => ?_); refine g0_ ?_))
        refine ACalls.lendK hkd (List.Perm.refl _) ?_
        (refine g0_ ?_; repeat ((first | refine n1_ fun b_ => ?_ | refine n2_ fun b_ => ?_ | refine Nat1.mk fun q_ hq_ => ?_ | refine em_ fun x_ hx_ => ?_ | refine Elem1.mk fun e_ he_ => ?_); refine g0_ ?_))
        refine ACalls.lend1 (hnm) (by repeat (first | exact .here _ _ _ | apply Look.there)) ?_
        rintro _ -
        rw [h44]
        (refine g0_ ?_; repeat ((first | refine n1_ fun b_ => ?_ | refine n2_ fun b_ => ?_ | refine Nat1.mk fun q_ hq_ => ?_ | refine em_ fun x_ hx_ => ?_ | refine Elem1.mk fun e_ he_ => ?_); refine g0_ ?_))
        (refine g1_ ?_; repeat ((first | refine n1_ fun b_ => ?_ | refine n2_ fun b_ => ?_ | refine Nat1.mk fun q_ hq_ => ?_ | refine em_ fun x_ hx_ => ?_ | refine Elem1.mk fun e_ he_ => ?_); refine g1_ ?_))
        rw [← e2]
        try rw [show ∀ v : PV, (List.map encSpl l).length + 1 + [v].length = (List.map encSpl (l ++ [Spl.mk w2 p2 s2 ks2])).length + 1 from fun v => by simp]
        try rw [show (encSpl l0 :: List.map encSpl l) ++ [encSpl (Spl.mk w2 p2 s2 ks2)] = splsV (l0 :: l ++ [Spl.mk w2 p2 s2 ks2]) from by simp [splsV]]
        refine nx_ (m', b_, [] ++ [Spl.mk w2 p2 s2 ks2], fu) ?_ ?_
        · exact ⟨next_lt h44 (by decide), by simp only [List.length_append, List.length_cons, List.length_nil] at *; omega, hlp, by omega⟩
        · ((try dsimp only); (try simp only [List.length_drop, List.length_take, List.length_append, List.length_cons, List.length_nil, List.length_map] at *); omega)
      · simp only [List.map_cons, List.length_cons] at hlm hla
        (refine g0_ ?_; repeat ((first | refine n1_ fun b_ => ?_ | refine n2_ fun b_ => ?_ | refine Nat1.mk fun q_ hq_ => ?_ | refine em_ fun x_ hx_ => ?_ | refine Elem1.mk fun e_ he_ => ?_); refine g0_ ?_))
        refine Draws11.tree ⟨10, [.new, .new, .new, .new, .new, .turn, .skip, .skip, .skip, .skip], (.one 5 [.again, .again, .keep, .keep, .keep, .keep, .new, .turn, .skip, .skip] (.one 7 [.keep, .keep, .keep, .keep, .keep, .keep, .keep, .keep, .new, .turn] (.one 9 [.keep, .keep, .keep, .keep, .keep, .keep, .keep, .keep, .keep, .keep] .fin))), by decide +kernel, ?_⟩; (refine g0_ ?_; repeat ((first | refine n1_ fun b_ => ?_ | refine n2_ fun b_ => ?_ | refine Nat1.mk fun q_ hq_ => ?_ | refine em_ fun x_ hx_ => ?_ | refine Elem1.mk fun e_ he_ => ?_); refine g0_ ?_))
        refine ACalls.lendK hkd (List.Perm.refl _) ?_
        (refine g0_ ?_; repeat ((first | refine n1_ fun b_ => ?_ | refine n2_ fun b_ => ?_ | refine Nat1.mk fun q_ hq_ => ?_ | refine em_ fun x_ hx_ => ?_ | refine Elem1.mk fun e_ he_ => ?_); refine g0_ ?_))
        refine ACalls.lend1 (hnm) (by repeat (first | exact .here _ _ _ | apply Look.there)) ?_
        rintro _ -
        rw [h44]
        (refine g0_ ?_; repeat ((first | refine n1_ fun b_ => ?_ | refine n2_ fun b_ => ?_ | refine Nat1.mk fun q_ hq_ => ?_ | refine em_ fun x_ hx_ => ?_ | refine Elem1.mk fun e_ he_ => ?_); refine g0_ ?_))
        (refine g1_ ?_; repeat ((first | refine n1_ fun b_ => ?_ | refine n2_ fun b_ => ?_ | refine Nat1.mk fun q_ hq_ => ?_ | refine em_ fun x_ hx_ => ?_ | refine Elem1.mk fun e_ he_ => ?_); refine g1_ ?_))
        rw [← e2]
        try rw [show ∀ v : PV, (List.map encSpl l).length + 1 + [v].length = (List.map encSpl (l ++ [Spl.mk w2 p2 s2 ks2])).length + 1 from fun v => by simp]
        try rw [show (encSpl l0 :: List.map encSpl l) ++ [encSpl (Spl.mk w2 p2 s2 ks2)] = splsV (l0 :: l ++ [Spl.mk w2 p2 s2 ks2]) from by simp [splsV]]
        refine nx_ (m', b_, (l0 :: l) ++ [Spl.mk w2 p2 s2 ks2], fu) ?_ ?_
        · exact ⟨next_lt h44 (by decide), by simp only [List.length_append, List.length_cons, List.length_nil] at *; omega, hlp, by omega⟩
        · ((try dsimp only); (try simp only [List.length_drop, List.length_take, List.length_append, List.length_cons, List.length_nil, List.length_map] at *); omega)
end Go.Eng.YtmodblkagimhlaaDoor
end

/- Splits: any text is read, or it stops where the plain reader stops (b_ x_ q_ e_). -/
section
namespace Go.Eng.YtmodblkagimhlaaDoor
open Go Go.Eng Go.Proofs Go.RowKit
variable (W : World)
set_option linter.unusedSimpArgs false
set_option maxRecDepth 100000
set_option linter.unusedVariables false
set_option maxHeartbeats 4000000
theorem loopK_bd {s : List UInt8} {f : Nat → Except Nat (Spl × Nat)} {cls : Nat} (hcls : cls ≠ 0) (hf : ∀ a t m, a ≤ s.length → f a = .ok (t, m) → a < m ∧ m ≤ s.length) : ∀ (fu a : Nat) (l ks : List Spl) (m : Nat), a < s.length → loopK s f cls fu a l = .ok (ks, m) → a < m ∧ m ≤ s.length
  | 0, a, l, ks, m, _, h => by cases h
  | fu + 1, a, l, ks, m, ha, h => by
    rw [loopK] at h
    cases hfa : f (a + 1) with
    | error x => rw [hfa] at h; cases h
    | ok y =>
      obtain ⟨k, m'⟩ := y
      rw [hfa] at h
      dsimp only at h
      obtain ⟨h1, h2⟩ := hf (a + 1) k m' (by omega) hfa
      split at h
      · rename_i hc
        have := next_lt hc hcls
        injection h with h
        obtain ⟨-, rfl⟩ := Prod.mk.inj h
        omega
      · split at h
        · rename_i h44
          have := loopK_bd hcls hf fu m' _ ks m (next_lt h44 (by decide)) h
          omega
        · cases h
theorem sizeX_bd {s : List UInt8} {w p : Int} {ks : List Spl} {m m2 : Nat} {t : Spl} (hm : m ≤ s.length) (h : sizeX s w p ks m = .ok (t, m2)) : m ≤ m2 ∧ m2 ≤ s.length := by
  unfold sizeX at h
  split at h
  · cases hr : readN s (m + 1) with
    | error x => rw [hr] at h; cases h
    | ok y =>
      obtain ⟨z, m3⟩ := y
      rw [hr] at h
      dsimp only at h
      split at h
      · cases h
      · injection h with h
        obtain ⟨-, rfl⟩ := Prod.mk.inj h
        obtain ⟨k1, k2, -⟩ := readN_len hr
        omega
  · injection h with h
    obtain ⟨-, rfl⟩ := Prod.mk.inj h
    omega
/-- What the program's reader does, as the plain one tells. -/
def Reads (W : World) (b : Nat) (s : List UInt8) (i : Nat) (d : Int) : Except Nat (Spl × Nat) → Prop
  | .ok (t, m) => i < m ∧ m ≤ s.length ∧ ACalls Tryd.prog W 51 [.bref b 0, .int .i64 d] [rdM b s i] (SpOut b s m t)
  | .error e => XCalls Tryd.prog W 51 [.bref b 0, .int .i64 d] [rdM b s i] (fun _ _ => False) (fun v _ => v = stopV e)
theorem leafX (b : Nat) (s : List UInt8) (i : Nat) (d : Int) (hs : s.length ≤ 4000) (hi : i ≤ s.length) (hc : ¬ (nextN s i = 123 ∨ nextN s i = 91)) : Reads W b s i d (match readN s i with | .error e => .error e | .ok (p, m) => sizeX s 0 p [] m) := by
  have hc' : nextN s i ≠ 123 ∧ nextN s i ≠ 91 := not_or.1 hc
  cases hr : readN s i with
  | error e =>
    obtain ⟨rfl, hbad⟩ := readN_bad hr
    exact splitX_num W b s e d hs hi hc' hbad
  | ok y =>
    obtain ⟨p, m⟩ := y
    dsimp only
    obtain ⟨k1, k2, -⟩ := readN_len hr
    cases hz : sizeX s 0 p [] m with
    | error e => exact splitX_leaf_bad W b s i p m e d hs hi hc' hr hz
    | ok z =>
      obtain ⟨t, m2⟩ := z
      obtain ⟨a1, a2, a3⟩ := splitX_leaf_ok W b s i p m m2 t d hs hi hc' hr hz
      exact ⟨by omega, a2, a3⟩
theorem readX (b : Nat) (s : List UInt8) (hs : s.length ≤ 4000) : ∀ (n i : Nat), n ≤ 12 → i ≤ s.length → Reads W b s i (13 - (n : Int)) (readS s n i) := by
  intro n
  induction n with
  | zero =>
    intro i hn hi
    rw [readS]
    split
    · rename_i hc
      have hil : i < s.length := by rcases hc with hc | hc <;> exact next_lt hc (by decide)
      exact splitX_deep W b s i _ hs hil hc (by decide) (by decide)
    · rename_i hc
      exact leafX W b s i _ hs hi hc
  | succ n ih =>
    intro i hn hi
    rw [readS]
    split
    · rename_i hc
      have hil : i < s.length := by rcases hc with hc | hc <;> exact next_lt hc (by decide)
      have hd : (1 : Int) ≤ 13 - ((n + 1 : Nat) : Int) ∧ 13 - ((n + 1 : Nat) : Int) ≤ 12 := by omega
      have he : 13 - ((n + 1 : Nat) : Int) + 1 = 13 - (n : Int) := by omega
      have hok : ∀ a t m, a ≤ s.length → readS s n a = .ok (t, m) → a < m ∧ m ≤ s.length ∧ ACalls Tryd.prog W 51 [.bref b 0, .int .i64 (13 - ((n + 1 : Nat) : Int) + 1)] [rdM b s a] (SpOut b s m t) := by
        intro a t m ha hr
        have := ih a (by omega) ha
        rw [hr] at this
        rw [he]
        exact this
      have hbad : ∀ a x, a ≤ s.length → readS s n a = .error x → XCalls Tryd.prog W 51 [.bref b 0, .int .i64 (13 - ((n + 1 : Nat) : Int) + 1)] [rdM b s a] (fun _ _ => False) (fun v _ => v = stopV x) := by
        intro a x ha hr
        have := ih a (by omega) ha
        rw [hr] at this
        rw [he]
        exact this
      have hbd := fun a t m ha hr => (⟨(hok a t m ha hr).1, (hok a t m ha hr).2.1⟩ : a < m ∧ m ≤ s.length)
      rcases hc with hc | hc
      · rw [if_pos hc, if_pos hc]
        cases hl : loopK s (readS s n) 125 (s.length + 1) i [] with
        | error e => exact splitX_kids W b s i _ e hs hil hd (readS s n) hok hbad hc hl
        | ok y =>
          obtain ⟨ks, m⟩ := y
          dsimp only
          obtain ⟨k1, k2⟩ := loopK_bd (by decide) hbd _ _ _ _ _ hil hl
          cases hz : sizeX s 1 0 ks m with
          | error e => exact splitX_kids_end W b s i _ ks m e hs hil hd (readS s n) hok hc hl hz
          | ok z =>
            obtain ⟨t, m2⟩ := z
            obtain ⟨a1, a2⟩ := sizeX_bd k2 hz
            exact ⟨by omega, a2, splitX_kids_ok W b s i _ ks m m2 t hs hil hd (readS s n) hok hc hl hz⟩
      · have h123 : ¬ nextN s i = 123 := by omega
        rw [if_neg h123, if_neg h123]
        cases hl : loopK s (readS s n) 93 (s.length + 1) i [] with
        | error e => exact splitX_kids2 W b s i _ e hs hil hd (readS s n) hok hbad hc hl
        | ok y =>
          obtain ⟨ks, m⟩ := y
          dsimp only
          obtain ⟨k1, k2⟩ := loopK_bd (by decide) hbd _ _ _ _ _ hil hl
          cases hz : sizeX s 2 0 ks m with
          | error e => exact splitX_kids_end2 W b s i _ ks m e hs hil hd (readS s n) hok hc hl hz
          | ok z =>
            obtain ⟨t, m2⟩ := z
            obtain ⟨a1, a2⟩ := sizeX_bd k2 hz
            exact ⟨by omega, a2, splitX_kids_ok2 W b s i _ ks m m2 t hs hil hd (readS s n) hok hc hl hz⟩
    · rename_i hc
      exact leafX W b s i _ hs hi hc
end Go.Eng.YtmodblkagimhlaaDoor
end
