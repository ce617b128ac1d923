/- Texts put together: Spl59, Spl60, Spl61. -/
import Derived.Test.YtmodblkagimhlaaDoorMSX4
import Derived.Test.YtmodblkagimhlaaDoorMSB
import Derived.Test.YtmodblkagimhlaaDoorMSE
import Derived.Test.YtmodblkagimhlaaDoorMSB1
/- Splits: the document's reader: parts (b_ x_ q_ e_). -/
section
namespace Go.Eng.YtmodblkagimhlaaDoor
open Go Go.Eng Go.Proofs Go.RowKit
variable (W : World)
set_option linter.unusedSimpArgs false
set_option maxRecDepth 100000
set_option linter.unusedVariables false
set_option maxHeartbeats 8000000
theorem frz_nilT {σ : Mem} (w p z : Int) : Frz σ (.agg [.int .i64 w, .int .i64 p, .int .i64 z, .nils]) (encSpl (.mk w p z [])) := by
  rw [encSpl_mk]
  refine .agg _ _ rfl fun j hj => ?_
  match j, hj with
  | 0, _ => exact .refl _
  | 1, _ => exact .refl _
  | 2, _ => exact .refl _
  | 3, _ => exact .nils 4
theorem readR_kids (hE : ErrJ W) (bA bS bB bI bN bR : Nat) (s : List UInt8) (i : Nat) (d : Int) (hs : s.length ≤ 4000) (hi : i < s.length) (hd : 1 ≤ d ∧ d ≤ 12) (f : Nat → Except Nat (Spl × Nat)) (hk : ∀ a, a ≤ s.length → RdCall W bA bS bB bI bN bR s a (d + 1) (f a)) (hbd : ∀ a t m, a ≤ s.length → f a = .ok (t, m) → a < m ∧ m ≤ s.length)
    (hc : nextN s i = 123) (r : Except Nat (Spl × Nat)) (hr : (match loopK s f 125 (s.length + 1) i [] with | .error e => .error e | .ok (ks, m) => sizeX s 1 0 ks m) = r) : RdCall W bA bS bB bI bN bR s i d r := by
  unfold RdCall
  simp only [rsm, rsA, rsS, rsI, rsN, rsR]
  refine acalls_of_vc (drawOk W) Tryd.func61 rfl (by decide) (by decide) rfl ?_
  (refine g0_ ?_; repeat ((first | refine n1_ fun b_ => ?_ | refine n2_ fun b_ => ?_ | refine Nat1.mk fun q_ hq_ => ?_ | refine em_ fun x_ hx_ => ?_ | refine Elem1.mk fun e_ he_ => ?_); refine g0_ ?_))
  refine ACalls.same2 (isR_ok W bA bS s (i) 123 true (by first | exact decide_eq_true (by omega) | exact decide_eq_false (by omega)) (by omega) hs (by decide)) (by repeat (first | exact .here _ _ _ | apply Look.there)) (by repeat (first | exact .here _ _ _ | apply Look.there)) ?_
  (refine g0_ ?_; repeat ((first | refine n1_ fun b_ => ?_ | refine n2_ fun b_ => ?_ | refine Nat1.mk fun q_ hq_ => ?_ | refine em_ fun x_ hx_ => ?_ | refine Elem1.mk fun e_ he_ => ?_); refine g0_ ?_))
  (refine g1_ ?_; repeat ((first | refine n1_ fun b_ => ?_ | refine n2_ fun b_ => ?_ | refine Nat1.mk fun q_ hq_ => ?_ | refine em_ fun x_ hx_ => ?_ | refine Elem1.mk fun e_ he_ => ?_); refine g1_ ?_))
  refine ACalls.same2 (isR_ok W bA bS s (i) 91 false (by first | exact decide_eq_true (by omega) | exact decide_eq_false (by omega)) (by omega) hs (by decide)) (by repeat (first | exact .here _ _ _ | apply Look.there)) (by repeat (first | exact .here _ _ _ | apply Look.there)) ?_
  (refine g0_ ?_; repeat ((first | refine n1_ fun b_ => ?_ | refine n2_ fun b_ => ?_ | refine Nat1.mk fun q_ hq_ => ?_ | refine em_ fun x_ hx_ => ?_ | refine Elem1.mk fun e_ he_ => ?_); refine g0_ ?_))
  (refine g1_ ?_; repeat ((first | refine n1_ fun b_ => ?_ | refine n2_ fun b_ => ?_ | refine Nat1.mk fun q_ hq_ => ?_ | refine em_ fun x_ hx_ => ?_ | refine Elem1.mk fun e_ he_ => ?_); refine g1_ ?_))
  generalize hR : loopK s f 125 (s.length + 1) i [] = R at hr
  obtain ⟨bT, rfl⟩ : ∃ z, z = b_ := ⟨_, rfl⟩
  refine' loopI (α := Nat × Nat × (List Spl) × Nat) (fun (a, b', l, fu) => []) [(0, _), (1, _), (2, _), (3, _), (4, _), (5, _), (7, _), (8, _)] (fun (a, b', l, fu) => ⟨bA, .row 1 [.int .i64 (a : Int)] 0⟩ :: ⟨bS, .row 1 [.str s] 0⟩ :: ⟨bB, .row 1 [.int .i64 (-1)] 0⟩ :: ⟨bI, .row 1 [.fn 58 [.bref bA 0, .bref bS 0]] 0⟩ :: ⟨bN, .row 1 [.fn 59 [.bref bA 0, .bref bS 0, .bref bB 0]] 0⟩ :: ⟨bR, .row 1 [.fn 61 [.bref bI 0, .bref bA 0, .bref bB 0, .bref bR 0, .bref bN 0]] 0⟩ :: ⟨bT, .row 4 [.agg [.int .i64 1, .int .i64 0, .int .i64 1, accV b' 4 (splsV l)]] 0⟩ :: accM b' 4 (splsV l)) (fun (a, b', l, fu) => a < s.length ∧ l.length ≤ a ∧ loopK s f 125 fu a l = R ∧ s.length < fu + a) (fun (a, b', l, fu) => s.length - a) (i, 0, [], s.length + 1) ?_ ?_
  · exact ⟨hi, Nat.zero_le _, hR, by omega⟩
  rintro ⟨a, b', l, fu⟩ ⟨ha, hla, hlp, hfu⟩
  obtain ⟨fu, rfl⟩ : ∃ k, fu = k + 1 := ⟨fu - 1, by omega⟩
  rw [loopK] at hlp
  clear hR
  rcases l with _ | ⟨l0, l⟩
  · cases hfa : f (a + 1) with
    | error x =>
      rw [hfa] at hlp
      dsimp only at hlp
      subst hlp
      dsimp only at hr
      subst hr
      have hkd := hk (a + 1) (by omega)
      rw [hfa] at hkd
      unfold RdCall RdOut at hkd
      simp only [rsm, rsA, rsS, rsI, rsN, rsR] at hkd
      (refine g0_ ?_; repeat ((first | refine n1_ fun b_ => ?_ | refine n2_ fun b_ => ?_ | refine Nat1.mk fun q_ hq_ => ?_ | refine em_ fun x_ hx_ => ?_ | refine Elem1.mk fun e_ he_ => ?_); refine g0_ ?_))
      refine ACalls.lendKE hkd (look6 (by repeat (first | exact .here _ _ _ | apply Look.there)) (by repeat (first | exact .here _ _ _ | apply Look.there)) (by repeat (first | exact .here _ _ _ | apply Look.there)) (by repeat (first | exact .here _ _ _ | apply Look.there)) (by repeat (first | exact .here _ _ _ | apply Look.there)) (by repeat (first | exact .here _ _ _ | apply Look.there))) ?_
      rintro ⟨⟨w2, p2, s2, ks2⟩, m'⟩ -
      simp only [encSpl_mk, List.cons_append, List.nil_append]
      (refine g0_ ?_; repeat ((first | refine n1_ fun b_ => ?_ | refine n2_ fun b_ => ?_ | refine Nat1.mk fun q_ hq_ => ?_ | refine em_ fun x_ hx_ => ?_ | refine Elem1.mk fun e_ he_ => ?_); refine g0_ ?_))
      (refine g1_ ?_; repeat ((first | refine n1_ fun b_ => ?_ | refine n2_ fun b_ => ?_ | refine Nat1.mk fun q_ hq_ => ?_ | refine em_ fun x_ hx_ => ?_ | refine Elem1.mk fun e_ he_ => ?_); refine g1_ ?_))
      refine rd_bad (.mk 1 0 1 (([] : List Spl))) m' (by repeat (first | exact .here _ _ _ | apply Look.there)) (by repeat (first | exact .here _ _ _ | apply Look.there)) (by repeat (first | exact .here _ _ _ | apply Look.there)) (by repeat (first | exact .here _ _ _ | apply Look.there)) (by repeat (first | exact .here _ _ _ | apply Look.there)) (by repeat (first | exact .here _ _ _ | apply Look.there)) ?_
      exact frz_nilT _ _ _
    | ok y =>
      obtain ⟨k, m⟩ := y
      rw [hfa] at hlp
      dsimp only at hlp
      obtain ⟨hm1, hm2⟩ := hbd (a + 1) k m (by omega) hfa
      have hkd := hk (a + 1) (by omega)
      rw [hfa] at hkd
      unfold RdCall RdOut at hkd
      simp only [rsm, rsA, rsS, rsI, rsN, rsR] at hkd
      obtain ⟨w2, p2, s2, ks2⟩ := k
      have e2 := encSpl_mk w2 p2 s2 ks2
      rw [e2] at hkd
      (refine g0_ ?_; repeat ((first | refine n1_ fun b_ => ?_ | refine n2_ fun b_ => ?_ | refine Nat1.mk fun q_ hq_ => ?_ | refine em_ fun x_ hx_ => ?_ | refine Elem1.mk fun e_ he_ => ?_); refine g0_ ?_))
      refine ACalls.lendK hkd (look6 (by repeat (first | exact .here _ _ _ | apply Look.there)) (by repeat (first | exact .here _ _ _ | apply Look.there)) (by repeat (first | exact .here _ _ _ | apply Look.there)) (by repeat (first | exact .here _ _ _ | apply Look.there)) (by repeat (first | exact .here _ _ _ | apply Look.there)) (by repeat (first | exact .here _ _ _ | apply Look.there))) ?_
      simp only [List.cons_append, List.nil_append]
      (refine g0_ ?_; repeat ((first | refine n1_ fun b_ => ?_ | refine n2_ fun b_ => ?_ | refine Nat1.mk fun q_ hq_ => ?_ | refine em_ fun x_ hx_ => ?_ | refine Elem1.mk fun e_ he_ => ?_); refine g0_ ?_))
      (refine g1_ ?_; repeat ((first | refine n1_ fun b_ => ?_ | refine n2_ fun b_ => ?_ | refine Nat1.mk fun q_ hq_ => ?_ | refine em_ fun x_ hx_ => ?_ | refine Elem1.mk fun e_ he_ => ?_); refine g1_ ?_))
      refine .inl ?_
      (refine g0_ ?_; repeat ((first | refine n1_ fun b_ => ?_ | refine n2_ fun b_ => ?_ | refine Nat1.mk fun q_ hq_ => ?_ | refine em_ fun x_ hx_ => ?_ | refine Elem1.mk fun e_ he_ => ?_); refine g0_ ?_))
      rw [← e2]
      clear hkd
      by_cases hcl : nextN s m = 125
      · rw [if_pos hcl] at hlp
        subst hlp
        dsimp only at hr
        have hml := next_lt hcl (by decide)
        clear hk hbd hfa e2
        refine ACalls.same2 (isR_ok W bA bS s (m) 125 true (by first | exact decide_eq_true (by omega) | exact decide_eq_false (by omega)) (by omega) hs (by decide)) (by repeat (first | exact .here _ _ _ | apply Look.there)) (by repeat (first | exact .here _ _ _ | apply Look.there)) ?_
        (refine g0_ ?_; repeat ((first | refine n1_ fun b_ => ?_ | refine n2_ fun b_ => ?_ | refine Nat1.mk fun q_ hq_ => ?_ | refine em_ fun x_ hx_ => ?_ | refine Elem1.mk fun e_ he_ => ?_); refine g0_ ?_))
        (refine g1_ ?_; repeat ((first | refine n1_ fun b_ => ?_ | refine n2_ fun b_ => ?_ | refine Nat1.mk fun q_ hq_ => ?_ | refine em_ fun x_ hx_ => ?_ | refine Elem1.mk fun e_ he_ => ?_); refine g1_ ?_))
        have hs42 := sizeX_cases s 1 0 (([] : List Spl) ++ [Spl.mk w2 p2 s2 ks2]) (m + 1)
        rw [hr] at hs42
        clear hr
        rcases hs42 with ⟨h42, rfl⟩ | ⟨h42, ⟨e, hr, rfl⟩ | ⟨z, m2, hr, ⟨rfl, rfl⟩ | ⟨hz1, rfl⟩⟩⟩
        · refine ACalls.same2 (isR_ok W bA bS s (m + 1) 42 false (by first | exact decide_eq_true (by omega) | exact decide_eq_false (by omega)) (by omega) hs (by decide)) (by repeat (first | exact .here _ _ _ | apply Look.there)) (by repeat (first | exact .here _ _ _ | apply Look.there)) ?_
          (refine g0_ ?_; repeat ((first | refine n1_ fun b_ => ?_ | refine n2_ fun b_ => ?_ | refine Nat1.mk fun q_ hq_ => ?_ | refine em_ fun x_ hx_ => ?_ | refine Elem1.mk fun e_ he_ => ?_); refine g0_ ?_))
          (refine g1_ ?_; repeat ((first | refine n1_ fun b_ => ?_ | refine n2_ fun b_ => ?_ | refine Nat1.mk fun q_ hq_ => ?_ | refine em_ fun x_ hx_ => ?_ | refine Elem1.mk fun e_ he_ => ?_); refine g1_ ?_))
          refine rd_ok (by repeat (first | exact .here _ _ _ | apply Look.there)) (by repeat (first | exact .here _ _ _ | apply Look.there)) (by repeat (first | exact .here _ _ _ | apply Look.there)) (by repeat (first | exact .here _ _ _ | apply Look.there)) (by repeat (first | exact .here _ _ _ | apply Look.there)) (by repeat (first | exact .here _ _ _ | apply Look.there)) ?_
          exact frz_lastT (by repeat (first | exact .here _ _ _ | apply Look.there)) (by simp) (by simp)
        · obtain ⟨rfl, hbad⟩ := readN_bad hr
          have hm42 := next_lt h42 (by decide)
          refine ACalls.same2 (isR_ok W bA bS s (m + 1) 42 true (by first | exact decide_eq_true (by omega) | exact decide_eq_false (by omega)) (by omega) hs (by decide)) (by repeat (first | exact .here _ _ _ | apply Look.there)) (by repeat (first | exact .here _ _ _ | apply Look.there)) ?_
          (refine g0_ ?_; repeat ((first | refine n1_ fun b_ => ?_ | refine n2_ fun b_ => ?_ | refine Nat1.mk fun q_ hq_ => ?_ | refine em_ fun x_ hx_ => ?_ | refine Elem1.mk fun e_ he_ => ?_); refine g0_ ?_))
          (refine g1_ ?_; repeat ((first | refine n1_ fun b_ => ?_ | refine n2_ fun b_ => ?_ | refine Nat1.mk fun q_ hq_ => ?_ | refine em_ fun x_ hx_ => ?_ | refine Elem1.mk fun e_ he_ => ?_); refine g1_ ?_))
          refine ACalls.lend (numberR_bad W bA bS bB s (m + 1 + 1) hs (by omega) hbad) (look3 (by repeat (first | exact .here _ _ _ | apply Look.there)) (by repeat (first | exact .here _ _ _ | apply Look.there)) (by repeat (first | exact .here _ _ _ | apply Look.there))) ?_
          rintro _ -
          simp only [rsA, rsS, List.cons_append, List.nil_append]
          (refine g0_ ?_; repeat ((first | refine n1_ fun b_ => ?_ | refine n2_ fun b_ => ?_ | refine Nat1.mk fun q_ hq_ => ?_ | refine em_ fun x_ hx_ => ?_ | refine Elem1.mk fun e_ he_ => ?_); refine g0_ ?_))
          (refine g1_ ?_; repeat ((first | refine n1_ fun b_ => ?_ | refine n2_ fun b_ => ?_ | refine Nat1.mk fun q_ hq_ => ?_ | refine em_ fun x_ hx_ => ?_ | refine Elem1.mk fun e_ he_ => ?_); refine g1_ ?_))
          refine rd_bad (.mk 1 0 0 (([] : List Spl) ++ [Spl.mk w2 p2 s2 ks2])) (m + 1 + 1) (by repeat (first | exact .here _ _ _ | apply Look.there)) (by repeat (first | exact .here _ _ _ | apply Look.there)) (by repeat (first | exact .here _ _ _ | apply Look.there)) (by repeat (first | exact .here _ _ _ | apply Look.there)) (by repeat (first | exact .here _ _ _ | apply Look.there)) (by repeat (first | exact .here _ _ _ | apply Look.there)) ?_
          exact frz_lastT (by repeat (first | exact .here _ _ _ | apply Look.there)) (by simp) (by simp)
        · have hm42 := next_lt h42 (by decide)
          obtain ⟨k1, k2, k3, -⟩ := readN_len hr
          refine ACalls.same2 (isR_ok W bA bS s (m + 1) 42 true (by first | exact decide_eq_true (by omega) | exact decide_eq_false (by omega)) (by omega) hs (by decide)) (by repeat (first | exact .here _ _ _ | apply Look.there)) (by repeat (first | exact .here _ _ _ | apply Look.there)) ?_
          (refine g0_ ?_; repeat ((first | refine n1_ fun b_ => ?_ | refine n2_ fun b_ => ?_ | refine Nat1.mk fun q_ hq_ => ?_ | refine em_ fun x_ hx_ => ?_ | refine Elem1.mk fun e_ he_ => ?_); refine g0_ ?_))
          (refine g1_ ?_; repeat ((first | refine n1_ fun b_ => ?_ | refine n2_ fun b_ => ?_ | refine Nat1.mk fun q_ hq_ => ?_ | refine em_ fun x_ hx_ => ?_ | refine Elem1.mk fun e_ he_ => ?_); refine g1_ ?_))
          refine ACalls.lend (numberR_ok W hE bA bS bB s (m + 1 + 1) hs (by omega) hr) (look3 (by repeat (first | exact .here _ _ _ | apply Look.there)) (by repeat (first | exact .here _ _ _ | apply Look.there)) (by repeat (first | exact .here _ _ _ | apply Look.there))) ?_
          rintro _ -
          simp only [rsA, rsS, List.cons_append, List.nil_append]
          (refine g0_ ?_; repeat ((first | refine n1_ fun b_ => ?_ | refine n2_ fun b_ => ?_ | refine Nat1.mk fun q_ hq_ => ?_ | refine em_ fun x_ hx_ => ?_ | refine Elem1.mk fun e_ he_ => ?_); refine g0_ ?_))
          (refine g1_ ?_; repeat ((first | refine n1_ fun b_ => ?_ | refine n2_ fun b_ => ?_ | refine Nat1.mk fun q_ hq_ => ?_ | refine em_ fun x_ hx_ => ?_ | refine Elem1.mk fun e_ he_ => ?_); refine g1_ ?_))
          refine rd_bad (.mk 1 0 1 (([] : List Spl) ++ [Spl.mk w2 p2 s2 ks2])) m2 (by repeat (first | exact .here _ _ _ | apply Look.there)) (by repeat (first | exact .here _ _ _ | apply Look.there)) (by rw [show ((m2 - 1 : Nat) : Int) = (m2 : Int) - 1 by omega]; repeat (first | exact .here _ _ _ | apply Look.there)) (by repeat (first | exact .here _ _ _ | apply Look.there)) (by repeat (first | exact .here _ _ _ | apply Look.there)) (by repeat (first | exact .here _ _ _ | apply Look.there)) ?_
          exact frz_lastT (by repeat (first | exact .here _ _ _ | apply Look.there)) (by simp) (by simp)
        · have hm42 := next_lt h42 (by decide)
          obtain ⟨k1, k2, k3, -⟩ := readN_len hr
          refine ACalls.same2 (isR_ok W bA bS s (m + 1) 42 true (by first | exact decide_eq_true (by omega) | exact decide_eq_false (by omega)) (by omega) hs (by decide)) (by repeat (first | exact .here _ _ _ | apply Look.there)) (by repeat (first | exact .here _ _ _ | apply Look.there)) ?_
          (refine g0_ ?_; repeat ((first | refine n1_ fun b_ => ?_ | refine n2_ fun b_ => ?_ | refine Nat1.mk fun q_ hq_ => ?_ | refine em_ fun x_ hx_ => ?_ | refine Elem1.mk fun e_ he_ => ?_); refine g0_ ?_))
          (refine g1_ ?_; repeat ((first | refine n1_ fun b_ => ?_ | refine n2_ fun b_ => ?_ | refine Nat1.mk fun q_ hq_ => ?_ | refine em_ fun x_ hx_ => ?_ | refine Elem1.mk fun e_ he_ => ?_); refine g1_ ?_))
          refine ACalls.lend (numberR_ok W hE bA bS bB s (m + 1 + 1) hs (by omega) hr) (look3 (by repeat (first | exact .here _ _ _ | apply Look.there)) (by repeat (first | exact .here _ _ _ | apply Look.there)) (by repeat (first | exact .here _ _ _ | apply Look.there))) ?_
          rintro _ -
          simp only [rsA, rsS, List.cons_append, List.nil_append]
          (refine g0_ ?_; repeat ((first | refine n1_ fun b_ => ?_ | refine n2_ fun b_ => ?_ | refine Nat1.mk fun q_ hq_ => ?_ | refine em_ fun x_ hx_ => ?_ | refine Elem1.mk fun e_ he_ => ?_); refine g0_ ?_))
          (refine g1_ ?_; repeat ((first | refine n1_ fun b_ => ?_ | refine n2_ fun b_ => ?_ | refine Nat1.mk fun q_ hq_ => ?_ | refine em_ fun x_ hx_ => ?_ | refine Elem1.mk fun e_ he_ => ?_); refine g1_ ?_))
          refine rd_ok (by repeat (first | exact .here _ _ _ | apply Look.there)) (by repeat (first | exact .here _ _ _ | apply Look.there)) (by repeat (first | exact .here _ _ _ | apply Look.there)) (by repeat (first | exact .here _ _ _ | apply Look.there)) (by repeat (first | exact .here _ _ _ | apply Look.there)) (by repeat (first | exact .here _ _ _ | apply Look.there)) ?_
          exact frz_lastT (by repeat (first | exact .here _ _ _ | apply Look.there)) (by simp) (by simp)
      · rw [if_neg hcl] at hlp
        by_cases h44 : nextN s m = 44
        · rw [if_pos h44] at hlp
          have hml := next_lt h44 (by decide)
          refine ACalls.same2 (isR_ok W bA bS s (m) 125 false (by first | exact decide_eq_true (by omega) | exact decide_eq_false (by omega)) (by omega) hs (by decide)) (by repeat (first | exact .here _ _ _ | apply Look.there)) (by repeat (first | exact .here _ _ _ | apply Look.there)) ?_
          (refine g0_ ?_; repeat ((first | refine n1_ fun b_ => ?_ | refine n2_ fun b_ => ?_ | refine Nat1.mk fun q_ hq_ => ?_ | refine em_ fun x_ hx_ => ?_ | refine Elem1.mk fun e_ he_ => ?_); refine g0_ ?_))
          (refine g1_ ?_; repeat ((first | refine n1_ fun b_ => ?_ | refine n2_ fun b_ => ?_ | refine Nat1.mk fun q_ hq_ => ?_ | refine em_ fun x_ hx_ => ?_ | refine Elem1.mk fun e_ he_ => ?_); refine g1_ ?_))
          refine ACalls.same2 (isR_ok W bA bS s (m) 44 true (by first | exact decide_eq_true (by omega) | exact decide_eq_false (by omega)) (by omega) hs (by decide)) (by repeat (first | exact .here _ _ _ | apply Look.there)) (by repeat (first | exact .here _ _ _ | apply Look.there)) ?_
          (refine g0_ ?_; repeat ((first | refine n1_ fun b_ => ?_ | refine n2_ fun b_ => ?_ | refine Nat1.mk fun q_ hq_ => ?_ | refine em_ fun x_ hx_ => ?_ | refine Elem1.mk fun e_ he_ => ?_); refine g0_ ?_))
          (refine g1_ ?_; repeat ((first | refine n1_ fun b_ => ?_ | refine n2_ fun b_ => ?_ | refine Nat1.mk fun q_ hq_ => ?_ | refine em_ fun x_ hx_ => ?_ | refine Elem1.mk fun e_ he_ => ?_); refine g1_ ?_))
          try rw [show ∀ v : PV, (List.map encSpl l).length + 1 + [v].length = (List.map encSpl (l ++ [Spl.mk w2 p2 s2 ks2])).length + 1 from fun v => by simp]
          try rw [show (encSpl l0 :: List.map encSpl l) ++ [encSpl (Spl.mk w2 p2 s2 ks2)] = splsV (l0 :: l ++ [Spl.mk w2 p2 s2 ks2]) from by simp [splsV]]
          refine nx_ (m, b_, ([] : List Spl) ++ [Spl.mk w2 p2 s2 ks2], fu) ?_ ?_
          · exact ⟨hml, by (rw [List.length_append, List.length_singleton]; (try rw [List.length_cons]); (try rw [List.length_nil]); omega), hlp, (show s.length < fu + m by omega)⟩
          · ((try dsimp only); (try simp only [List.length_drop, List.length_take, List.length_append, List.length_cons, List.length_nil, List.length_map] at *); omega)
        · rw [if_neg h44] at hlp
          subst hlp
          dsimp only at hr
          subst hr
          refine ACalls.same2 (isR_ok W bA bS s (m) 125 false (by first | exact decide_eq_true (by omega) | exact decide_eq_false (by omega)) (by omega) hs (by decide)) (by repeat (first | exact .here _ _ _ | apply Look.there)) (by repeat (first | exact .here _ _ _ | apply Look.there)) ?_
          (refine g0_ ?_; repeat ((first | refine n1_ fun b_ => ?_ | refine n2_ fun b_ => ?_ | refine Nat1.mk fun q_ hq_ => ?_ | refine em_ fun x_ hx_ => ?_ | refine Elem1.mk fun e_ he_ => ?_); refine g0_ ?_))
          (refine g1_ ?_; repeat ((first | refine n1_ fun b_ => ?_ | refine n2_ fun b_ => ?_ | refine Nat1.mk fun q_ hq_ => ?_ | refine em_ fun x_ hx_ => ?_ | refine Elem1.mk fun e_ he_ => ?_); refine g1_ ?_))
          refine ACalls.same2 (isR_ok W bA bS s (m) 44 false (by first | exact decide_eq_true (by omega) | exact decide_eq_false (by omega)) (by omega) hs (by decide)) (by repeat (first | exact .here _ _ _ | apply Look.there)) (by repeat (first | exact .here _ _ _ | apply Look.there)) ?_
          (refine g0_ ?_; repeat ((first | refine n1_ fun b_ => ?_ | refine n2_ fun b_ => ?_ | refine Nat1.mk fun q_ hq_ => ?_ | refine em_ fun x_ hx_ => ?_ | refine Elem1.mk fun e_ he_ => ?_); refine g0_ ?_))
          (refine g1_ ?_; repeat ((first | refine n1_ fun b_ => ?_ | refine n2_ fun b_ => ?_ | refine Nat1.mk fun q_ hq_ => ?_ | refine em_ fun x_ hx_ => ?_ | refine Elem1.mk fun e_ he_ => ?_); refine g1_ ?_))
          refine rd_bad (.mk 1 0 1 (([] : List Spl) ++ [Spl.mk w2 p2 s2 ks2])) m (by repeat (first | exact .here _ _ _ | apply Look.there)) (by repeat (first | exact .here _ _ _ | apply Look.there)) (by repeat (first | exact .here _ _ _ | apply Look.there)) (by repeat (first | exact .here _ _ _ | apply Look.there)) (by repeat (first | exact .here _ _ _ | apply Look.there)) (by repeat (first | exact .here _ _ _ | apply Look.there)) ?_
          exact frz_lastT (by repeat (first | exact .here _ _ _ | apply Look.there)) (by simp) (by simp)
  · have hlm : (List.map encSpl l).length = l.length := List.length_map _
    rw [List.length_cons] at hla
    cases hfa : f (a + 1) with
    | error x =>
      rw [hfa] at hlp
      dsimp only at hlp
      subst hlp
      dsimp only at hr
      subst hr
      have hkd := hk (a + 1) (by omega)
      rw [hfa] at hkd
      unfold RdCall RdOut at hkd
      simp only [rsm, rsA, rsS, rsI, rsN, rsR] at hkd
      (refine g0_ ?_; repeat ((first | refine n1_ fun b_ => ?_ | refine n2_ fun b_ => ?_ | refine Nat1.mk fun q_ hq_ => ?_ | refine em_ fun x_ hx_ => ?_ | refine Elem1.mk fun e_ he_ => ?_); refine g0_ ?_))
      refine ACalls.lendKE hkd (look6 (by repeat (first | exact .here _ _ _ | apply Look.there)) (by repeat (first | exact .here _ _ _ | apply Look.there)) (by repeat (first | exact .here _ _ _ | apply Look.there)) (by repeat (first | exact .here _ _ _ | apply Look.there)) (by repeat (first | exact .here _ _ _ | apply Look.there)) (by repeat (first | exact .here _ _ _ | apply Look.there))) ?_
      rintro ⟨⟨w2, p2, s2, ks2⟩, m'⟩ -
      simp only [encSpl_mk, List.cons_append, List.nil_append]
      (refine g0_ ?_; repeat ((first | refine n1_ fun b_ => ?_ | refine n2_ fun b_ => ?_ | refine Nat1.mk fun q_ hq_ => ?_ | refine em_ fun x_ hx_ => ?_ | refine Elem1.mk fun e_ he_ => ?_); refine g0_ ?_))
      (refine g1_ ?_; repeat ((first | refine n1_ fun b_ => ?_ | refine n2_ fun b_ => ?_ | refine Nat1.mk fun q_ hq_ => ?_ | refine em_ fun x_ hx_ => ?_ | refine Elem1.mk fun e_ he_ => ?_); refine g1_ ?_))
      refine rd_bad (.mk 1 0 1 ((l0 :: l))) m' (by repeat (first | exact .here _ _ _ | apply Look.there)) (by repeat (first | exact .here _ _ _ | apply Look.there)) (by repeat (first | exact .here _ _ _ | apply Look.there)) (by repeat (first | exact .here _ _ _ | apply Look.there)) (by repeat (first | exact .here _ _ _ | apply Look.there)) (by repeat (first | exact .here _ _ _ | apply Look.there)) ?_
      exact frz_lastT (by repeat (first | exact .here _ _ _ | apply Look.there)) (by simp) (by simp)
    | ok y =>
      obtain ⟨k, m⟩ := y
      rw [hfa] at hlp
      dsimp only at hlp
      obtain ⟨hm1, hm2⟩ := hbd (a + 1) k m (by omega) hfa
      have hkd := hk (a + 1) (by omega)
      rw [hfa] at hkd
      unfold RdCall RdOut at hkd
      simp only [rsm, rsA, rsS, rsI, rsN, rsR] at hkd
      obtain ⟨w2, p2, s2, ks2⟩ := k
      have e2 := encSpl_mk w2 p2 s2 ks2
      rw [e2] at hkd
      (refine g0_ ?_; repeat ((first | refine n1_ fun b_ => ?_ | refine n2_ fun b_ => ?_ | refine Nat1.mk fun q_ hq_ => ?_ | refine em_ fun x_ hx_ => ?_ | refine Elem1.mk fun e_ he_ => ?_); refine g0_ ?_))
      refine ACalls.lendK hkd (look6 (by repeat (first | exact .here _ _ _ | apply Look.there)) (by repeat (first | exact .here _ _ _ | apply Look.there)) (by repeat (first | exact .here _ _ _ | apply Look.there)) (by repeat (first | exact .here _ _ _ | apply Look.there)) (by repeat (first | exact .here _ _ _ | apply Look.there)) (by repeat (first | exact .here _ _ _ | apply Look.there))) ?_
      simp only [List.cons_append, List.nil_append]
      (refine g0_ ?_; repeat ((first | refine n1_ fun b_ => ?_ | refine n2_ fun b_ => ?_ | refine Nat1.mk fun q_ hq_ => ?_ | refine em_ fun x_ hx_ => ?_ | refine Elem1.mk fun e_ he_ => ?_); refine g0_ ?_))
      (refine g1_ ?_; repeat ((first | refine n1_ fun b_ => ?_ | refine n2_ fun b_ => ?_ | refine Nat1.mk fun q_ hq_ => ?_ | refine em_ fun x_ hx_ => ?_ | refine Elem1.mk fun e_ he_ => ?_); refine g1_ ?_))
      refine .inl ?_
      (refine g0_ ?_; repeat ((first | refine n1_ fun b_ => ?_ | refine n2_ fun b_ => ?_ | refine Nat1.mk fun q_ hq_ => ?_ | refine em_ fun x_ hx_ => ?_ | refine Elem1.mk fun e_ he_ => ?_); refine g0_ ?_))
      rw [← e2]
      clear hkd
      by_cases hcl : nextN s m = 125
      · rw [if_pos hcl] at hlp
        subst hlp
        dsimp only at hr
        have hml := next_lt hcl (by decide)
        clear hk hbd hfa e2
        refine ACalls.same2 (isR_ok W bA bS s (m) 125 true (by first | exact decide_eq_true (by omega) | exact decide_eq_false (by omega)) (by omega) hs (by decide)) (by repeat (first | exact .here _ _ _ | apply Look.there)) (by repeat (first | exact .here _ _ _ | apply Look.there)) ?_
        (refine g0_ ?_; repeat ((first | refine n1_ fun b_ => ?_ | refine n2_ fun b_ => ?_ | refine Nat1.mk fun q_ hq_ => ?_ | refine em_ fun x_ hx_ => ?_ | refine Elem1.mk fun e_ he_ => ?_); refine g0_ ?_))
        (refine g1_ ?_; repeat ((first | refine n1_ fun b_ => ?_ | refine n2_ fun b_ => ?_ | refine Nat1.mk fun q_ hq_ => ?_ | refine em_ fun x_ hx_ => ?_ | refine Elem1.mk fun e_ he_ => ?_); refine g1_ ?_))
        have hs42 := sizeX_cases s 1 0 ((l0 :: l) ++ [Spl.mk w2 p2 s2 ks2]) (m + 1)
        rw [hr] at hs42
        clear hr
        rcases hs42 with ⟨h42, rfl⟩ | ⟨h42, ⟨e, hr, rfl⟩ | ⟨z, m2, hr, ⟨rfl, rfl⟩ | ⟨hz1, rfl⟩⟩⟩
        · refine ACalls.same2 (isR_ok W bA bS s (m + 1) 42 false (by first | exact decide_eq_true (by omega) | exact decide_eq_false (by omega)) (by omega) hs (by decide)) (by repeat (first | exact .here _ _ _ | apply Look.there)) (by repeat (first | exact .here _ _ _ | apply Look.there)) ?_
          (refine g0_ ?_; repeat ((first | refine n1_ fun b_ => ?_ | refine n2_ fun b_ => ?_ | refine Nat1.mk fun q_ hq_ => ?_ | refine em_ fun x_ hx_ => ?_ | refine Elem1.mk fun e_ he_ => ?_); refine g0_ ?_))
          (refine g1_ ?_; repeat ((first | refine n1_ fun b_ => ?_ | refine n2_ fun b_ => ?_ | refine Nat1.mk fun q_ hq_ => ?_ | refine em_ fun x_ hx_ => ?_ | refine Elem1.mk fun e_ he_ => ?_); refine g1_ ?_))
          refine rd_ok (by repeat (first | exact .here _ _ _ | apply Look.there)) (by repeat (first | exact .here _ _ _ | apply Look.there)) (by repeat (first | exact .here _ _ _ | apply Look.there)) (by repeat (first | exact .here _ _ _ | apply Look.there)) (by repeat (first | exact .here _ _ _ | apply Look.there)) (by repeat (first | exact .here _ _ _ | apply Look.there)) ?_
          exact frz_lastT (by repeat (first | exact .here _ _ _ | apply Look.there)) (by simp) (by simp)
        · obtain ⟨rfl, hbad⟩ := readN_bad hr
          have hm42 := next_lt h42 (by decide)
          refine ACalls.same2 (isR_ok W bA bS s (m + 1) 42 true (by first | exact decide_eq_true (by omega) | exact decide_eq_false (by omega)) (by omega) hs (by decide)) (by repeat (first | exact .here _ _ _ | apply Look.there)) (by repeat (first | exact .here _ _ _ | apply Look.there)) ?_
          (refine g0_ ?_; repeat ((first | refine n1_ fun b_ => ?_ | refine n2_ fun b_ => ?_ | refine Nat1.mk fun q_ hq_ => ?_ | refine em_ fun x_ hx_ => ?_ | refine Elem1.mk fun e_ he_ => ?_); refine g0_ ?_))
          (refine g1_ ?_; repeat ((first | refine n1_ fun b_ => ?_ | refine n2_ fun b_ => ?_ | refine Nat1.mk fun q_ hq_ => ?_ | refine em_ fun x_ hx_ => ?_ | refine Elem1.mk fun e_ he_ => ?_); refine g1_ ?_))
          refine ACalls.lend (numberR_bad W bA bS bB s (m + 1 + 1) hs (by omega) hbad) (look3 (by repeat (first | exact .here _ _ _ | apply Look.there)) (by repeat (first | exact .here _ _ _ | apply Look.there)) (by repeat (first | exact .here _ _ _ | apply Look.there))) ?_
          rintro _ -
          simp only [rsA, rsS, List.cons_append, List.nil_append]
          (refine g0_ ?_; repeat ((first | refine n1_ fun b_ => ?_ | refine n2_ fun b_ => ?_ | refine Nat1.mk fun q_ hq_ => ?_ | refine em_ fun x_ hx_ => ?_ | refine Elem1.mk fun e_ he_ => ?_); refine g0_ ?_))
          (refine g1_ ?_; repeat ((first | refine n1_ fun b_ => ?_ | refine n2_ fun b_ => ?_ | refine Nat1.mk fun q_ hq_ => ?_ | refine em_ fun x_ hx_ => ?_ | refine Elem1.mk fun e_ he_ => ?_); refine g1_ ?_))
          refine rd_bad (.mk 1 0 0 ((l0 :: l) ++ [Spl.mk w2 p2 s2 ks2])) (m + 1 + 1) (by repeat (first | exact .here _ _ _ | apply Look.there)) (by repeat (first | exact .here _ _ _ | apply Look.there)) (by repeat (first | exact .here _ _ _ | apply Look.there)) (by repeat (first | exact .here _ _ _ | apply Look.there)) (by repeat (first | exact .here _ _ _ | apply Look.there)) (by repeat (first | exact .here _ _ _ | apply Look.there)) ?_
          exact frz_lastT (by repeat (first | exact .here _ _ _ | apply Look.there)) (by simp) (by simp)
        · have hm42 := next_lt h42 (by decide)
          obtain ⟨k1, k2, k3, -⟩ := readN_len hr
          refine ACalls.same2 (isR_ok W bA bS s (m + 1) 42 true (by first | exact decide_eq_true (by omega) | exact decide_eq_false (by omega)) (by omega) hs (by decide)) (by repeat (first | exact .here _ _ _ | apply Look.there)) (by repeat (first | exact .here _ _ _ | apply Look.there)) ?_
          (refine g0_ ?_; repeat ((first | refine n1_ fun b_ => ?_ | refine n2_ fun b_ => ?_ | refine Nat1.mk fun q_ hq_ => ?_ | refine em_ fun x_ hx_ => ?_ | refine Elem1.mk fun e_ he_ => ?_); refine g0_ ?_))
          (refine g1_ ?_; repeat ((first | refine n1_ fun b_ => ?_ | refine n2_ fun b_ => ?_ | refine Nat1.mk fun q_ hq_ => ?_ | refine em_ fun x_ hx_ => ?_ | refine Elem1.mk fun e_ he_ => ?_); refine g1_ ?_))
          refine ACalls.lend (numberR_ok W hE bA bS bB s (m + 1 + 1) hs (by omega) hr) (look3 (by repeat (first | exact .here _ _ _ | apply Look.there)) (by repeat (first | exact .here _ _ _ | apply Look.there)) (by repeat (first | exact .here _ _ _ | apply Look.there))) ?_
          rintro _ -
          simp only [rsA, rsS, List.cons_append, List.nil_append]
          (refine g0_ ?_; repeat ((first | refine n1_ fun b_ => ?_ | refine n2_ fun b_ => ?_ | refine Nat1.mk fun q_ hq_ => ?_ | refine em_ fun x_ hx_ => ?_ | refine Elem1.mk fun e_ he_ => ?_); refine g0_ ?_))
          (refine g1_ ?_; repeat ((first | refine n1_ fun b_ => ?_ | refine n2_ fun b_ => ?_ | refine Nat1.mk fun q_ hq_ => ?_ | refine em_ fun x_ hx_ => ?_ | refine Elem1.mk fun e_ he_ => ?_); refine g1_ ?_))
          refine rd_bad (.mk 1 0 1 ((l0 :: l) ++ [Spl.mk w2 p2 s2 ks2])) m2 (by repeat (first | exact .here _ _ _ | apply Look.there)) (by repeat (first | exact .here _ _ _ | apply Look.there)) (by rw [show ((m2 - 1 : Nat) : Int) = (m2 : Int) - 1 by omega]; repeat (first | exact .here _ _ _ | apply Look.there)) (by repeat (first | exact .here _ _ _ | apply Look.there)) (by repeat (first | exact .here _ _ _ | apply Look.there)) (by repeat (first | exact .here _ _ _ | apply Look.there)) ?_
          exact frz_lastT (by repeat (first | exact .here _ _ _ | apply Look.there)) (by simp) (by simp)
        · have hm42 := next_lt h42 (by decide)
          obtain ⟨k1, k2, k3, -⟩ := readN_len hr
          refine ACalls.same2 (isR_ok W bA bS s (m + 1) 42 true (by first | exact decide_eq_true (by omega) | exact decide_eq_false (by omega)) (by omega) hs (by decide)) (by repeat (first | exact .here _ _ _ | apply Look.there)) (by repeat (first | exact .here _ _ _ | apply Look.there)) ?_
          (refine g0_ ?_; repeat ((first | refine n1_ fun b_ => ?_ | refine n2_ fun b_ => ?_ | refine Nat1.mk fun q_ hq_ => ?_ | refine em_ fun x_ hx_ => ?_ | refine Elem1.mk fun e_ he_ => ?_); refine g0_ ?_))
          (refine g1_ ?_; repeat ((first | refine n1_ fun b_ => ?_ | refine n2_ fun b_ => ?_ | refine Nat1.mk fun q_ hq_ => ?_ | refine em_ fun x_ hx_ => ?_ | refine Elem1.mk fun e_ he_ => ?_); refine g1_ ?_))
          refine ACalls.lend (numberR_ok W hE bA bS bB s (m + 1 + 1) hs (by omega) hr) (look3 (by repeat (first | exact .here _ _ _ | apply Look.there)) (by repeat (first | exact .here _ _ _ | apply Look.there)) (by repeat (first | exact .here _ _ _ | apply Look.there))) ?_
          rintro _ -
          simp only [rsA, rsS, List.cons_append, List.nil_append]
          (refine g0_ ?_; repeat ((first | refine n1_ fun b_ => ?_ | refine n2_ fun b_ => ?_ | refine Nat1.mk fun q_ hq_ => ?_ | refine em_ fun x_ hx_ => ?_ | refine Elem1.mk fun e_ he_ => ?_); refine g0_ ?_))
          (refine g1_ ?_; repeat ((first | refine n1_ fun b_ => ?_ | refine n2_ fun b_ => ?_ | refine Nat1.mk fun q_ hq_ => ?_ | refine em_ fun x_ hx_ => ?_ | refine Elem1.mk fun e_ he_ => ?_); refine g1_ ?_))
          refine rd_ok (by repeat (first | exact .here _ _ _ | apply Look.there)) (by repeat (first | exact .here _ _ _ | apply Look.there)) (by repeat (first | exact .here _ _ _ | apply Look.there)) (by repeat (first | exact .here _ _ _ | apply Look.there)) (by repeat (first | exact .here _ _ _ | apply Look.there)) (by repeat (first | exact .here _ _ _ | apply Look.there)) ?_
          exact frz_lastT (by repeat (first | exact .here _ _ _ | apply Look.there)) (by simp) (by simp)
      · rw [if_neg hcl] at hlp
        by_cases h44 : nextN s m = 44
        · rw [if_pos h44] at hlp
          have hml := next_lt h44 (by decide)
          refine ACalls.same2 (isR_ok W bA bS s (m) 125 false (by first | exact decide_eq_true (by omega) | exact decide_eq_false (by omega)) (by omega) hs (by decide)) (by repeat (first | exact .here _ _ _ | apply Look.there)) (by repeat (first | exact .here _ _ _ | apply Look.there)) ?_
          (refine g0_ ?_; repeat ((first | refine n1_ fun b_ => ?_ | refine n2_ fun b_ => ?_ | refine Nat1.mk fun q_ hq_ => ?_ | refine em_ fun x_ hx_ => ?_ | refine Elem1.mk fun e_ he_ => ?_); refine g0_ ?_))
          (refine g1_ ?_; repeat ((first | refine n1_ fun b_ => ?_ | refine n2_ fun b_ => ?_ | refine Nat1.mk fun q_ hq_ => ?_ | refine em_ fun x_ hx_ => ?_ | refine Elem1.mk fun e_ he_ => ?_); refine g1_ ?_))
          refine ACalls.same2 (isR_ok W bA bS s (m) 44 true (by first | exact decide_eq_true (by omega) | exact decide_eq_false (by omega)) (by omega) hs (by decide)) (by repeat (first | exact .here _ _ _ | apply Look.there)) (by repeat (first | exact .here _ _ _ | apply Look.there)) ?_
          (refine g0_ ?_; repeat ((first | refine n1_ fun b_ => ?_ | refine n2_ fun b_ => ?_ | refine Nat1.mk fun q_ hq_ => ?_ | refine em_ fun x_ hx_ => ?_ | refine Elem1.mk fun e_ he_ => ?_); refine g0_ ?_))
          (refine g1_ ?_; repeat ((first | refine n1_ fun b_ => ?_ | refine n2_ fun b_ => ?_ | refine Nat1.mk fun q_ hq_ => ?_ | refine em_ fun x_ hx_ => ?_ | refine Elem1.mk fun e_ he_ => ?_); refine g1_ ?_))
          try rw [show ∀ v : PV, (List.map encSpl l).length + 1 + [v].length = (List.map encSpl (l ++ [Spl.mk w2 p2 s2 ks2])).length + 1 from fun v => by simp]
          try rw [show (encSpl l0 :: List.map encSpl l) ++ [encSpl (Spl.mk w2 p2 s2 ks2)] = splsV (l0 :: l ++ [Spl.mk w2 p2 s2 ks2]) from by simp [splsV]]
          refine nx_ (m, b_, (l0 :: l) ++ [Spl.mk w2 p2 s2 ks2], fu) ?_ ?_
          · exact ⟨hml, by (rw [List.length_append, List.length_singleton]; (try rw [List.length_cons]); (try rw [List.length_nil]); omega), hlp, (show s.length < fu + m by omega)⟩
          · ((try dsimp only); (try simp only [List.length_drop, List.length_take, List.length_append, List.length_cons, List.length_nil, List.length_map] at *); omega)
        · rw [if_neg h44] at hlp
          subst hlp
          dsimp only at hr
          subst hr
          refine ACalls.same2 (isR_ok W bA bS s (m) 125 false (by first | exact decide_eq_true (by omega) | exact decide_eq_false (by omega)) (by omega) hs (by decide)) (by repeat (first | exact .here _ _ _ | apply Look.there)) (by repeat (first | exact .here _ _ _ | apply Look.there)) ?_
          (refine g0_ ?_; repeat ((first | refine n1_ fun b_ => ?_ | refine n2_ fun b_ => ?_ | refine Nat1.mk fun q_ hq_ => ?_ | refine em_ fun x_ hx_ => ?_ | refine Elem1.mk fun e_ he_ => ?_); refine g0_ ?_))
          (refine g1_ ?_; repeat ((first | refine n1_ fun b_ => ?_ | refine n2_ fun b_ => ?_ | refine Nat1.mk fun q_ hq_ => ?_ | refine em_ fun x_ hx_ => ?_ | refine Elem1.mk fun e_ he_ => ?_); refine g1_ ?_))
          refine ACalls.same2 (isR_ok W bA bS s (m) 44 false (by first | exact decide_eq_true (by omega) | exact decide_eq_false (by omega)) (by omega) hs (by decide)) (by repeat (first | exact .here _ _ _ | apply Look.there)) (by repeat (first | exact .here _ _ _ | apply Look.there)) ?_
          (refine g0_ ?_; repeat ((first | refine n1_ fun b_ => ?_ | refine n2_ fun b_ => ?_ | refine Nat1.mk fun q_ hq_ => ?_ | refine em_ fun x_ hx_ => ?_ | refine Elem1.mk fun e_ he_ => ?_); refine g0_ ?_))
          (refine g1_ ?_; repeat ((first | refine n1_ fun b_ => ?_ | refine n2_ fun b_ => ?_ | refine Nat1.mk fun q_ hq_ => ?_ | refine em_ fun x_ hx_ => ?_ | refine Elem1.mk fun e_ he_ => ?_); refine g1_ ?_))
          refine rd_bad (.mk 1 0 1 ((l0 :: l) ++ [Spl.mk w2 p2 s2 ks2])) m (by repeat (first | exact .here _ _ _ | apply Look.there)) (by repeat (first | exact .here _ _ _ | apply Look.there)) (by repeat (first | exact .here _ _ _ | apply Look.there)) (by repeat (first | exact .here _ _ _ | apply Look.there)) (by repeat (first | exact .here _ _ _ | apply Look.there)) (by repeat (first | exact .here _ _ _ | apply Look.there)) ?_
          exact frz_lastT (by repeat (first | exact .here _ _ _ | apply Look.there)) (by simp) (by simp)
theorem readR_kids2 (hE : ErrJ W) (bA bS bB bI bN bR : Nat) (s : List UInt8) (i : Nat) (d : Int) (hs : s.length ≤ 4000) (hi : i < s.length) (hd : 1 ≤ d ∧ d ≤ 12) (f : Nat → Except Nat (Spl × Nat)) (hk : ∀ a, a ≤ s.length → RdCall W bA bS bB bI bN bR s a (d + 1) (f a)) (hbd : ∀ a t m, a ≤ s.length → f a = .ok (t, m) → a < m ∧ m ≤ s.length)
    (hc : nextN s i = 91) (r : Except Nat (Spl × Nat)) (hr : (match loopK s f 93 (s.length + 1) i [] with | .error e => .error e | .ok (ks, m) => sizeX s 2 0 ks m) = r) : RdCall W bA bS bB bI bN bR s i d r := by
  unfold RdCall
  simp only [rsm, rsA, rsS, rsI, rsN, rsR]
  refine acalls_of_vc (drawOk W) Tryd.func61 rfl (by decide) (by decide) rfl ?_
  (refine g0_ ?_; repeat ((first | refine n1_ fun b_ => ?_ | refine n2_ fun b_ => ?_ | refine Nat1.mk fun q_ hq_ => ?_ | refine em_ fun x_ hx_ => ?_ | refine Elem1.mk fun e_ he_ => ?_); refine g0_ ?_))
  refine ACalls.same2 (isR_ok W bA bS s (i) 123 false (by first | exact decide_eq_true (by omega) | exact decide_eq_false (by omega)) (by omega) hs (by decide)) (by repeat (first | exact .here _ _ _ | apply Look.there)) (by repeat (first | exact .here _ _ _ | apply Look.there)) ?_
  (refine g0_ ?_; repeat ((first | refine n1_ fun b_ => ?_ | refine n2_ fun b_ => ?_ | refine Nat1.mk fun q_ hq_ => ?_ | refine em_ fun x_ hx_ => ?_ | refine Elem1.mk fun e_ he_ => ?_); refine g0_ ?_))
  (refine g1_ ?_; repeat ((first | refine n1_ fun b_ => ?_ | refine n2_ fun b_ => ?_ | refine Nat1.mk fun q_ hq_ => ?_ | refine em_ fun x_ hx_ => ?_ | refine Elem1.mk fun e_ he_ => ?_); refine g1_ ?_))
  refine ACalls.same2 (isR_ok W bA bS s (i) 91 true (by first | exact decide_eq_true (by omega) | exact decide_eq_false (by omega)) (by omega) hs (by decide)) (by repeat (first | exact .here _ _ _ | apply Look.there)) (by repeat (first | exact .here _ _ _ | apply Look.there)) ?_
  (refine g0_ ?_; repeat ((first | refine n1_ fun b_ => ?_ | refine n2_ fun b_ => ?_ | refine Nat1.mk fun q_ hq_ => ?_ | refine em_ fun x_ hx_ => ?_ | refine Elem1.mk fun e_ he_ => ?_); refine g0_ ?_))
  (refine g1_ ?_; repeat ((first | refine n1_ fun b_ => ?_ | refine n2_ fun b_ => ?_ | refine Nat1.mk fun q_ hq_ => ?_ | refine em_ fun x_ hx_ => ?_ | refine Elem1.mk fun e_ he_ => ?_); refine g1_ ?_))
  refine ACalls.same2 (isR_ok W bA bS s (i) 91 true (by first | exact decide_eq_true (by omega) | exact decide_eq_false (by omega)) (by omega) hs (by decide)) (by repeat (first | exact .here _ _ _ | apply Look.there)) (by repeat (first | exact .here _ _ _ | apply Look.there)) ?_
  (refine g0_ ?_; repeat ((first | refine n1_ fun b_ => ?_ | refine n2_ fun b_ => ?_ | refine Nat1.mk fun q_ hq_ => ?_ | refine em_ fun x_ hx_ => ?_ | refine Elem1.mk fun e_ he_ => ?_); refine g0_ ?_))
  (refine g1_ ?_; repeat ((first | refine n1_ fun b_ => ?_ | refine n2_ fun b_ => ?_ | refine Nat1.mk fun q_ hq_ => ?_ | refine em_ fun x_ hx_ => ?_ | refine Elem1.mk fun e_ he_ => ?_); refine g1_ ?_))
  generalize hR : loopK s f 93 (s.length + 1) i [] = R at hr
  obtain ⟨bT, rfl⟩ : ∃ z, z = b_ := ⟨_, rfl⟩
  refine' loopI (α := Nat × Nat × (List Spl) × Nat) (fun (a, b', l, fu) => []) [(0, _), (1, _), (2, _), (3, _), (4, _), (5, _), (7, _), (8, _)] (fun (a, b', l, fu) => ⟨bA, .row 1 [.int .i64 (a : Int)] 0⟩ :: ⟨bS, .row 1 [.str s] 0⟩ :: ⟨bB, .row 1 [.int .i64 (-1)] 0⟩ :: ⟨bI, .row 1 [.fn 58 [.bref bA 0, .bref bS 0]] 0⟩ :: ⟨bN, .row 1 [.fn 59 [.bref bA 0, .bref bS 0, .bref bB 0]] 0⟩ :: ⟨bR, .row 1 [.fn 61 [.bref bI 0, .bref bA 0, .bref bB 0, .bref bR 0, .bref bN 0]] 0⟩ :: ⟨bT, .row 4 [.agg [.int .i64 2, .int .i64 0, .int .i64 1, accV b' 4 (splsV l)]] 0⟩ :: accM b' 4 (splsV l)) (fun (a, b', l, fu) => a < s.length ∧ l.length ≤ a ∧ loopK s f 93 fu a l = R ∧ s.length < fu + a) (fun (a, b', l, fu) => s.length - a) (i, 0, [], s.length + 1) ?_ ?_
  · exact ⟨hi, Nat.zero_le _, hR, by omega⟩
  rintro ⟨a, b', l, fu⟩ ⟨ha, hla, hlp, hfu⟩
  obtain ⟨fu, rfl⟩ : ∃ k, fu = k + 1 := ⟨fu - 1, by omega⟩
  rw [loopK] at hlp
  clear hR
  rcases l with _ | ⟨l0, l⟩
  · cases hfa : f (a + 1) with
    | error x =>
      rw [hfa] at hlp
      dsimp only at hlp
      subst hlp
      dsimp only at hr
      subst hr
      have hkd := hk (a + 1) (by omega)
      rw [hfa] at hkd
      unfold RdCall RdOut at hkd
      simp only [rsm, rsA, rsS, rsI, rsN, rsR] at hkd
      (refine g0_ ?_; repeat ((first | refine n1_ fun b_ => ?_ | refine n2_ fun b_ => ?_ | refine Nat1.mk fun q_ hq_ => ?_ | refine em_ fun x_ hx_ => ?_ | refine Elem1.mk fun e_ he_ => ?_); refine g0_ ?_))
      refine ACalls.lendKE hkd (look6 (by repeat (first | exact .here _ _ _ | apply Look.there)) (by repeat (first | exact .here _ _ _ | apply Look.there)) (by repeat (first | exact .here _ _ _ | apply Look.there)) (by repeat (first | exact .here _ _ _ | apply Look.there)) (by repeat (first | exact .here _ _ _ | apply Look.there)) (by repeat (first | exact .here _ _ _ | apply Look.there))) ?_
      rintro ⟨⟨w2, p2, s2, ks2⟩, m'⟩ -
      simp only [encSpl_mk, List.cons_append, List.nil_append]
      (refine g0_ ?_; repeat ((first | refine n1_ fun b_ => ?_ | refine n2_ fun b_ => ?_ | refine Nat1.mk fun q_ hq_ => ?_ | refine em_ fun x_ hx_ => ?_ | refine Elem1.mk fun e_ he_ => ?_); refine g0_ ?_))
      (refine g1_ ?_; repeat ((first | refine n1_ fun b_ => ?_ | refine n2_ fun b_ => ?_ | refine Nat1.mk fun q_ hq_ => ?_ | refine em_ fun x_ hx_ => ?_ | refine Elem1.mk fun e_ he_ => ?_); refine g1_ ?_))
      refine rd_bad (.mk 2 0 1 (([] : List Spl))) m' (by repeat (first | exact .here _ _ _ | apply Look.there)) (by repeat (first | exact .here _ _ _ | apply Look.there)) (by repeat (first | exact .here _ _ _ | apply Look.there)) (by repeat (first | exact .here _ _ _ | apply Look.there)) (by repeat (first | exact .here _ _ _ | apply Look.there)) (by repeat (first | exact .here _ _ _ | apply Look.there)) ?_
      exact frz_nilT _ _ _
    | ok y =>
      obtain ⟨k, m⟩ := y
      rw [hfa] at hlp
      dsimp only at hlp
      obtain ⟨hm1, hm2⟩ := hbd (a + 1) k m (by omega) hfa
      have hkd := hk (a + 1) (by omega)
      rw [hfa] at hkd
      unfold RdCall RdOut at hkd
      simp only [rsm, rsA, rsS, rsI, rsN, rsR] at hkd
      obtain ⟨w2, p2, s2, ks2⟩ := k
      have e2 := encSpl_mk w2 p2 s2 ks2
      rw [e2] at hkd
      (refine g0_ ?_; repeat ((first | refine n1_ fun b_ => ?_ | refine n2_ fun b_ => ?_ | refine Nat1.mk fun q_ hq_ => ?_ | refine em_ fun x_ hx_ => ?_ | refine Elem1.mk fun e_ he_ => ?_); refine g0_ ?_))
      refine ACalls.lendK hkd (look6 (by repeat (first | exact .here _ _ _ | apply Look.there)) (by repeat (first | exact .here _ _ _ | apply Look.there)) (by repeat (first | exact .here _ _ _ | apply Look.there)) (by repeat (first | exact .here _ _ _ | apply Look.there)) (by repeat (first | exact .here _ _ _ | apply Look.there)) (by repeat (first | exact .here _ _ _ | apply Look.there))) ?_
      simp only [List.cons_append, List.nil_append]
      (refine g0_ ?_; repeat ((first | refine n1_ fun b_ => ?_ | refine n2_ fun b_ => ?_ | refine Nat1.mk fun q_ hq_ => ?_ | refine em_ fun x_ hx_ => ?_ | refine Elem1.mk fun e_ he_ => ?_); refine g0_ ?_))
      (refine g1_ ?_; repeat ((first | refine n1_ fun b_ => ?_ | refine n2_ fun b_ => ?_ | refine Nat1.mk fun q_ hq_ => ?_ | refine em_ fun x_ hx_ => ?_ | refine Elem1.mk fun e_ he_ => ?_); refine g1_ ?_))
      refine .inl ?_
      (refine g0_ ?_; repeat ((first | refine n1_ fun b_ => ?_ | refine n2_ fun b_ => ?_ | refine Nat1.mk fun q_ hq_ => ?_ | refine em_ fun x_ hx_ => ?_ | refine Elem1.mk fun e_ he_ => ?_); refine g0_ ?_))
      rw [← e2]
      clear hkd
      by_cases hcl : nextN s m = 93
      · rw [if_pos hcl] at hlp
        subst hlp
        dsimp only at hr
        have hml := next_lt hcl (by decide)
        clear hk hbd hfa e2
        refine ACalls.same2 (isR_ok W bA bS s (m) 93 true (by first | exact decide_eq_true (by omega) | exact decide_eq_false (by omega)) (by omega) hs (by decide)) (by repeat (first | exact .here _ _ _ | apply Look.there)) (by repeat (first | exact .here _ _ _ | apply Look.there)) ?_
        (refine g0_ ?_; repeat ((first | refine n1_ fun b_ => ?_ | refine n2_ fun b_ => ?_ | refine Nat1.mk fun q_ hq_ => ?_ | refine em_ fun x_ hx_ => ?_ | refine Elem1.mk fun e_ he_ => ?_); refine g0_ ?_))
        (refine g1_ ?_; repeat ((first | refine n1_ fun b_ => ?_ | refine n2_ fun b_ => ?_ | refine Nat1.mk fun q_ hq_ => ?_ | refine em_ fun x_ hx_ => ?_ | refine Elem1.mk fun e_ he_ => ?_); refine g1_ ?_))
        have hs42 := sizeX_cases s 2 0 (([] : List Spl) ++ [Spl.mk w2 p2 s2 ks2]) (m + 1)
        rw [hr] at hs42
        clear hr
        rcases hs42 with ⟨h42, rfl⟩ | ⟨h42, ⟨e, hr, rfl⟩ | ⟨z, m2, hr, ⟨rfl, rfl⟩ | ⟨hz1, rfl⟩⟩⟩
        · refine ACalls.same2 (isR_ok W bA bS s (m + 1) 42 false (by first | exact decide_eq_true (by omega) | exact decide_eq_false (by omega)) (by omega) hs (by decide)) (by repeat (first | exact .here _ _ _ | apply Look.there)) (by repeat (first | exact .here _ _ _ | apply Look.there)) ?_
          (refine g0_ ?_; repeat ((first | refine n1_ fun b_ => ?_ | refine n2_ fun b_ => ?_ | refine Nat1.mk fun q_ hq_ => ?_ | refine em_ fun x_ hx_ => ?_ | refine Elem1.mk fun e_ he_ => ?_); refine g0_ ?_))
          (refine g1_ ?_; repeat ((first | refine n1_ fun b_ => ?_ | refine n2_ fun b_ => ?_ | refine Nat1.mk fun q_ hq_ => ?_ | refine em_ fun x_ hx_ => ?_ | refine Elem1.mk fun e_ he_ => ?_); refine g1_ ?_))
          refine rd_ok (by repeat (first | exact .here _ _ _ | apply Look.there)) (by repeat (first | exact .here _ _ _ | apply Look.there)) (by repeat (first | exact .here _ _ _ | apply Look.there)) (by repeat (first | exact .here _ _ _ | apply Look.there)) (by repeat (first | exact .here _ _ _ | apply Look.there)) (by repeat (first | exact .here _ _ _ | apply Look.there)) ?_
          exact frz_lastT (by repeat (first | exact .here _ _ _ | apply Look.there)) (by simp) (by simp)
        · obtain ⟨rfl, hbad⟩ := readN_bad hr
          have hm42 := next_lt h42 (by decide)
          refine ACalls.same2 (isR_ok W bA bS s (m + 1) 42 true (by first | exact decide_eq_true (by omega) | exact decide_eq_false (by omega)) (by omega) hs (by decide)) (by repeat (first | exact .here _ _ _ | apply Look.there)) (by repeat (first | exact .here _ _ _ | apply Look.there)) ?_
          (refine g0_ ?_; repeat ((first | refine n1_ fun b_ => ?_ | refine n2_ fun b_ => ?_ | refine Nat1.mk fun q_ hq_ => ?_ | refine em_ fun x_ hx_ => ?_ | refine Elem1.mk fun e_ he_ => ?_); refine g0_ ?_))
          (refine g1_ ?_; repeat ((first | refine n1_ fun b_ => ?_ | refine n2_ fun b_ => ?_ | refine Nat1.mk fun q_ hq_ => ?_ | refine em_ fun x_ hx_ => ?_ | refine Elem1.mk fun e_ he_ => ?_); refine g1_ ?_))
          refine ACalls.lend (numberR_bad W bA bS bB s (m + 1 + 1) hs (by omega) hbad) (look3 (by repeat (first | exact .here _ _ _ | apply Look.there)) (by repeat (first | exact .here _ _ _ | apply Look.there)) (by repeat (first | exact .here _ _ _ | apply Look.there))) ?_
          rintro _ -
          simp only [rsA, rsS, List.cons_append, List.nil_append]
          (refine g0_ ?_; repeat ((first | refine n1_ fun b_ => ?_ | refine n2_ fun b_ => ?_ | refine Nat1.mk fun q_ hq_ => ?_ | refine em_ fun x_ hx_ => ?_ | refine Elem1.mk fun e_ he_ => ?_); refine g0_ ?_))
          (refine g1_ ?_; repeat ((first | refine n1_ fun b_ => ?_ | refine n2_ fun b_ => ?_ | refine Nat1.mk fun q_ hq_ => ?_ | refine em_ fun x_ hx_ => ?_ | refine Elem1.mk fun e_ he_ => ?_); refine g1_ ?_))
          refine rd_bad (.mk 2 0 0 (([] : List Spl) ++ [Spl.mk w2 p2 s2 ks2])) (m + 1 + 1) (by repeat (first | exact .here _ _ _ | apply Look.there)) (by repeat (first | exact .here _ _ _ | apply Look.there)) (by repeat (first | exact .here _ _ _ | apply Look.there)) (by repeat (first | exact .here _ _ _ | apply Look.there)) (by repeat (first | exact .here _ _ _ | apply Look.there)) (by repeat (first | exact .here _ _ _ | apply Look.there)) ?_
          exact frz_lastT (by repeat (first | exact .here _ _ _ | apply Look.there)) (by simp) (by simp)
        · have hm42 := next_lt h42 (by decide)
          obtain ⟨k1, k2, k3, -⟩ := readN_len hr
          refine ACalls.same2 (isR_ok W bA bS s (m + 1) 42 true (by first | exact decide_eq_true (by omega) | exact decide_eq_false (by omega)) (by omega) hs (by decide)) (by repeat (first | exact .here _ _ _ | apply Look.there)) (by repeat (first | exact .here _ _ _ | apply Look.there)) ?_
          (refine g0_ ?_; repeat ((first | refine n1_ fun b_ => ?_ | refine n2_ fun b_ => ?_ | refine Nat1.mk fun q_ hq_ => ?_ | refine em_ fun x_ hx_ => ?_ | refine Elem1.mk fun e_ he_ => ?_); refine g0_ ?_))
          (refine g1_ ?_; repeat ((first | refine n1_ fun b_ => ?_ | refine n2_ fun b_ => ?_ | refine Nat1.mk fun q_ hq_ => ?_ | refine em_ fun x_ hx_ => ?_ | refine Elem1.mk fun e_ he_ => ?_); refine g1_ ?_))
          refine ACalls.lend (numberR_ok W hE bA bS bB s (m + 1 + 1) hs (by omega) hr) (look3 (by repeat (first | exact .here _ _ _ | apply Look.there)) (by repeat (first | exact .here _ _ _ | apply Look.there)) (by repeat (first | exact .here _ _ _ | apply Look.there))) ?_
          rintro _ -
          simp only [rsA, rsS, List.cons_append, List.nil_append]
          (refine g0_ ?_; repeat ((first | refine n1_ fun b_ => ?_ | refine n2_ fun b_ => ?_ | refine Nat1.mk fun q_ hq_ => ?_ | refine em_ fun x_ hx_ => ?_ | refine Elem1.mk fun e_ he_ => ?_); refine g0_ ?_))
          (refine g1_ ?_; repeat ((first | refine n1_ fun b_ => ?_ | refine n2_ fun b_ => ?_ | refine Nat1.mk fun q_ hq_ => ?_ | refine em_ fun x_ hx_ => ?_ | refine Elem1.mk fun e_ he_ => ?_); refine g1_ ?_))
          refine rd_bad (.mk 2 0 1 (([] : List Spl) ++ [Spl.mk w2 p2 s2 ks2])) m2 (by repeat (first | exact .here _ _ _ | apply Look.there)) (by repeat (first | exact .here _ _ _ | apply Look.there)) (by rw [show ((m2 - 1 : Nat) : Int) = (m2 : Int) - 1 by omega]; repeat (first | exact .here _ _ _ | apply Look.there)) (by repeat (first | exact .here _ _ _ | apply Look.there)) (by repeat (first | exact .here _ _ _ | apply Look.there)) (by repeat (first | exact .here _ _ _ | apply Look.there)) ?_
          exact frz_lastT (by repeat (first | exact .here _ _ _ | apply Look.there)) (by simp) (by simp)
        · have hm42 := next_lt h42 (by decide)
          obtain ⟨k1, k2, k3, -⟩ := readN_len hr
          refine ACalls.same2 (isR_ok W bA bS s (m + 1) 42 true (by first | exact decide_eq_true (by omega) | exact decide_eq_false (by omega)) (by omega) hs (by decide)) (by repeat (first | exact .here _ _ _ | apply Look.there)) (by repeat (first | exact .here _ _ _ | apply Look.there)) ?_
          (refine g0_ ?_; repeat ((first | refine n1_ fun b_ => ?_ | refine n2_ fun b_ => ?_ | refine Nat1.mk fun q_ hq_ => ?_ | refine em_ fun x_ hx_ => ?_ | refine Elem1.mk fun e_ he_ => ?_); refine g0_ ?_))
          (refine g1_ ?_; repeat ((first | refine n1_ fun b_ => ?_ | refine n2_ fun b_ => ?_ | refine Nat1.mk fun q_ hq_ => ?_ | refine em_ fun x_ hx_ => ?_ | refine Elem1.mk fun e_ he_ => ?_); refine g1_ ?_))
          refine ACalls.lend (numberR_ok W hE bA bS bB s (m + 1 + 1) hs (by omega) hr) (look3 (by repeat (first | exact .here _ _ _ | apply Look.there)) (by repeat (first | exact .here _ _ _ | apply Look.there)) (by repeat (first | exact .here _ _ _ | apply Look.there))) ?_
          rintro _ -
          simp only [rsA, rsS, List.cons_append, List.nil_append]
          (refine g0_ ?_; repeat ((first | refine n1_ fun b_ => ?_ | refine n2_ fun b_ => ?_ | refine Nat1.mk fun q_ hq_ => ?_ | refine em_ fun x_ hx_ => ?_ | refine Elem1.mk fun e_ he_ => ?_); refine g0_ ?_))
          (refine g1_ ?_; repeat ((first | refine n1_ fun b_ => ?_ | refine n2_ fun b_ => ?_ | refine Nat1.mk fun q_ hq_ => ?_ | refine em_ fun x_ hx_ => ?_ | refine Elem1.mk fun e_ he_ => ?_); refine g1_ ?_))
          refine rd_ok (by repeat (first | exact .here _ _ _ | apply Look.there)) (by repeat (first | exact .here _ _ _ | apply Look.there)) (by repeat (first | exact .here _ _ _ | apply Look.there)) (by repeat (first | exact .here _ _ _ | apply Look.there)) (by repeat (first | exact .here _ _ _ | apply Look.there)) (by repeat (first | exact .here _ _ _ | apply Look.there)) ?_
          exact frz_lastT (by repeat (first | exact .here _ _ _ | apply Look.there)) (by simp) (by simp)
      · rw [if_neg hcl] at hlp
        by_cases h44 : nextN s m = 44
        · rw [if_pos h44] at hlp
          have hml := next_lt h44 (by decide)
          refine ACalls.same2 (isR_ok W bA bS s (m) 93 false (by first | exact decide_eq_true (by omega) | exact decide_eq_false (by omega)) (by omega) hs (by decide)) (by repeat (first | exact .here _ _ _ | apply Look.there)) (by repeat (first | exact .here _ _ _ | apply Look.there)) ?_
          (refine g0_ ?_; repeat ((first | refine n1_ fun b_ => ?_ | refine n2_ fun b_ => ?_ | refine Nat1.mk fun q_ hq_ => ?_ | refine em_ fun x_ hx_ => ?_ | refine Elem1.mk fun e_ he_ => ?_); refine g0_ ?_))
          (refine g1_ ?_; repeat ((first | refine n1_ fun b_ => ?_ | refine n2_ fun b_ => ?_ | refine Nat1.mk fun q_ hq_ => ?_ | refine em_ fun x_ hx_ => ?_ | refine Elem1.mk fun e_ he_ => ?_); refine g1_ ?_))
          refine ACalls.same2 (isR_ok W bA bS s (m) 44 true (by first | exact decide_eq_true (by omega) | exact decide_eq_false (by omega)) (by omega) hs (by decide)) (by repeat (first | exact .here _ _ _ | apply Look.there)) (by repeat (first | exact .here _ _ _ | apply Look.there)) ?_
          (refine g0_ ?_; repeat ((first | refine n1_ fun b_ => ?_ | refine n2_ fun b_ => ?_ | refine Nat1.mk fun q_ hq_ => ?_ | refine em_ fun x_ hx_ => ?_ | refine Elem1.mk fun e_ he_ => ?_); refine g0_ ?_))
          (refine g1_ ?_; repeat ((first | refine n1_ fun b_ => ?_ | refine n2_ fun b_ => ?_ | refine Nat1.mk fun q_ hq_ => ?_ | refine em_ fun x_ hx_ => ?_ | refine Elem1.mk fun e_ he_ => ?_); refine g1_ ?_))
          try rw [show ∀ v : PV, (List.map encSpl l).length + 1 + [v].length = (List.map encSpl (l ++ [Spl.mk w2 p2 s2 ks2])).length + 1 from fun v => by simp]
          try rw [show (encSpl l0 :: List.map encSpl l) ++ [encSpl (Spl.mk w2 p2 s2 ks2)] = splsV (l0 :: l ++ [Spl.mk w2 p2 s2 ks2]) from by simp [splsV]]
          refine nx_ (m, b_, ([] : List Spl) ++ [Spl.mk w2 p2 s2 ks2], fu) ?_ ?_
          · exact ⟨hml, by (rw [List.length_append, List.length_singleton]; (try rw [List.length_cons]); (try rw [List.length_nil]); omega), hlp, (show s.length < fu + m by omega)⟩
          · ((try dsimp only); (try simp only [List.length_drop, List.length_take, List.length_append, List.length_cons, List.length_nil, List.length_map] at *); omega)
        · rw [if_neg h44] at hlp
          subst hlp
          dsimp only at hr
          subst hr
          refine ACalls.same2 (isR_ok W bA bS s (m) 93 false (by first | exact decide_eq_true (by omega) | exact decide_eq_false (by omega)) (by omega) hs (by decide)) (by repeat (first | exact .here _ _ _ | apply Look.there)) (by repeat (first | exact .here _ _ _ | apply Look.there)) ?_
          (refine g0_ ?_; repeat ((first | refine n1_ fun b_ => ?_ | refine n2_ fun b_ => ?_ | refine Nat1.mk fun q_ hq_ => ?_ | refine em_ fun x_ hx_ => ?_ | refine Elem1.mk fun e_ he_ => ?_); refine g0_ ?_))
          (refine g1_ ?_; repeat ((first | refine n1_ fun b_ => ?_ | refine n2_ fun b_ => ?_ | refine Nat1.mk fun q_ hq_ => ?_ | refine em_ fun x_ hx_ => ?_ | refine Elem1.mk fun e_ he_ => ?_); refine g1_ ?_))
          refine ACalls.same2 (isR_ok W bA bS s (m) 44 false (by first | exact decide_eq_true (by omega) | exact decide_eq_false (by omega)) (by omega) hs (by decide)) (by repeat (first | exact .here _ _ _ | apply Look.there)) (by repeat (first | exact .here _ _ _ | apply Look.there)) ?_
          (refine g0_ ?_; repeat ((first | refine n1_ fun b_ => ?_ | refine n2_ fun b_ => ?_ | refine Nat1.mk fun q_ hq_ => ?_ | refine em_ fun x_ hx_ => ?_ | refine Elem1.mk fun e_ he_ => ?_); refine g0_ ?_))
          (refine g1_ ?_; repeat ((first | refine n1_ fun b_ => ?_ | refine n2_ fun b_ => ?_ | refine Nat1.mk fun q_ hq_ => ?_ | refine em_ fun x_ hx_ => ?_ | refine Elem1.mk fun e_ he_ => ?_); refine g1_ ?_))
          refine rd_bad (.mk 2 0 1 (([] : List Spl) ++ [Spl.mk w2 p2 s2 ks2])) m (by repeat (first | exact .here _ _ _ | apply Look.there)) (by repeat (first | exact .here _ _ _ | apply Look.there)) (by repeat (first | exact .here _ _ _ | apply Look.there)) (by repeat (first | exact .here _ _ _ | apply Look.there)) (by repeat (first | exact .here _ _ _ | apply Look.there)) (by repeat (first | exact .here _ _ _ | apply Look.there)) ?_
          exact frz_lastT (by repeat (first | exact .here _ _ _ | apply Look.there)) (by simp) (by simp)
  · have hlm : (List.map encSpl l).length = l.length := List.length_map _
    rw [List.length_cons] at hla
    cases hfa : f (a + 1) with
    | error x =>
      rw [hfa] at hlp
      dsimp only at hlp
      subst hlp
      dsimp only at hr
      subst hr
      have hkd := hk (a + 1) (by omega)
      rw [hfa] at hkd
      unfold RdCall RdOut at hkd
      simp only [rsm, rsA, rsS, rsI, rsN, rsR] at hkd
      (refine g0_ ?_; repeat ((first | refine n1_ fun b_ => ?_ | refine n2_ fun b_ => ?_ | refine Nat1.mk fun q_ hq_ => ?_ | refine em_ fun x_ hx_ => ?_ | refine Elem1.mk fun e_ he_ => ?_); refine g0_ ?_))
      refine ACalls.lendKE hkd (look6 (by repeat (first | exact .here _ _ _ | apply Look.there)) (by repeat (first | exact .here _ _ _ | apply Look.there)) (by repeat (first | exact .here _ _ _ | apply Look.there)) (by repeat (first | exact .here _ _ _ | apply Look.there)) (by repeat (first | exact .here _ _ _ | apply Look.there)) (by repeat (first | exact .here _ _ _ | apply Look.there))) ?_
      rintro ⟨⟨w2, p2, s2, ks2⟩, m'⟩ -
      simp only [encSpl_mk, List.cons_append, List.nil_append]
      (refine g0_ ?_; repeat ((first | refine n1_ fun b_ => ?_ | refine n2_ fun b_ => ?_ | refine Nat1.mk fun q_ hq_ => ?_ | refine em_ fun x_ hx_ => ?_ | refine Elem1.mk fun e_ he_ => ?_); refine g0_ ?_))
      (refine g1_ ?_; repeat ((first | refine n1_ fun b_ => ?_ | refine n2_ fun b_ => ?_ | refine Nat1.mk fun q_ hq_ => ?_ | refine em_ fun x_ hx_ => ?_ | refine Elem1.mk fun e_ he_ => ?_); refine g1_ ?_))
      refine rd_bad (.mk 2 0 1 ((l0 :: l))) m' (by repeat (first | exact .here _ _ _ | apply Look.there)) (by repeat (first | exact .here _ _ _ | apply Look.there)) (by repeat (first | exact .here _ _ _ | apply Look.there)) (by repeat (first | exact .here _ _ _ | apply Look.there)) (by repeat (first | exact .here _ _ _ | apply Look.there)) (by repeat (first | exact .here _ _ _ | apply Look.there)) ?_
      exact frz_lastT (by repeat (first | exact .here _ _ _ | apply Look.there)) (by simp) (by simp)
    | ok y =>
      obtain ⟨k, m⟩ := y
      rw [hfa] at hlp
      dsimp only at hlp
      obtain ⟨hm1, hm2⟩ := hbd (a + 1) k m (by omega) hfa
      have hkd := hk (a + 1) (by omega)
      rw [hfa] at hkd
      unfold RdCall RdOut at hkd
      simp only [rsm, rsA, rsS, rsI, rsN, rsR] at hkd
      obtain ⟨w2, p2, s2, ks2⟩ := k
      have e2 := encSpl_mk w2 p2 s2 ks2
      rw [e2] at hkd
      (refine g0_ ?_; repeat ((first | refine n1_ fun b_ => ?_ | refine n2_ fun b_ => ?_ | refine Nat1.mk fun q_ hq_ => ?_ | refine em_ fun x_ hx_ => ?_ | refine Elem1.mk fun e_ he_ => ?_); refine g0_ ?_))
      refine ACalls.lendK hkd (look6 (by repeat (first | exact .here _ _ _ | apply Look.there)) (by repeat (first | exact .here _ _ _ | apply Look.there)) (by repeat (first | exact .here _ _ _ | apply Look.there)) (by repeat (first | exact .here _ _ _ | apply Look.there)) (by repeat (first | exact .here _ _ _ | apply Look.there)) (by repeat (first | exact .here _ _ _ | apply Look.there))) ?_
      simp only [List.cons_append, List.nil_append]
      (refine g0_ ?_; repeat ((first | refine n1_ fun b_ => ?_ | refine n2_ fun b_ => ?_ | refine Nat1.mk fun q_ hq_ => ?_ | refine em_ fun x_ hx_ => ?_ | refine Elem1.mk fun e_ he_ => ?_); refine g0_ ?_))
      (refine g1_ ?_; repeat ((first | refine n1_ fun b_ => ?_ | refine n2_ fun b_ => ?_ | refine Nat1.mk fun q_ hq_ => ?_ | refine em_ fun x_ hx_ => ?_ | refine Elem1.mk fun e_ he_ => ?_); refine g1_ ?_))
      refine .inl ?_
      (refine g0_ ?_; repeat ((first | refine n1_ fun b_ => ?_ | refine n2_ fun b_ => ?_ | refine Nat1.mk fun q_ hq_ => ?_ | refine em_ fun x_ hx_ => ?_ | refine Elem1.mk fun e_ he_ => ?_); refine g0_ ?_))
      rw [← e2]
      clear hkd
      by_cases hcl : nextN s m = 93
      · rw [if_pos hcl] at hlp
        subst hlp
        dsimp only at hr
        have hml := next_lt hcl (by decide)
        clear hk hbd hfa e2
        refine ACalls.same2 (isR_ok W bA bS s (m) 93 true (by first | exact decide_eq_true (by omega) | exact decide_eq_false (by omega)) (by omega) hs (by decide)) (by repeat (first | exact .here _ _ _ | apply Look.there)) (by repeat (first | exact .here _ _ _ | apply Look.there)) ?_
        (refine g0_ ?_; repeat ((first | refine n1_ fun b_ => ?_ | refine n2_ fun b_ => ?_ | refine Nat1.mk fun q_ hq_ => ?_ | refine em_ fun x_ hx_ => ?_ | refine Elem1.mk fun e_ he_ => ?_); refine g0_ ?_))
        (refine g1_ ?_; repeat ((first | refine n1_ fun b_ => ?_ | refine n2_ fun b_ => ?_ | refine Nat1.mk fun q_ hq_ => ?_ | refine em_ fun x_ hx_ => ?_ | refine Elem1.mk fun e_ he_ => ?_); refine g1_ ?_))
        have hs42 := sizeX_cases s 2 0 ((l0 :: l) ++ [Spl.mk w2 p2 s2 ks2]) (m + 1)
        rw [hr] at hs42
        clear hr
        rcases hs42 with ⟨h42, rfl⟩ | ⟨h42, ⟨e, hr, rfl⟩ | ⟨z, m2, hr, ⟨rfl, rfl⟩ | ⟨hz1, rfl⟩⟩⟩
        · refine ACalls.same2 (isR_ok W bA bS s (m + 1) 42 false (by first | exact decide_eq_true (by omega) | exact decide_eq_false (by omega)) (by omega) hs (by decide)) (by repeat (first | exact .here _ _ _ | apply Look.there)) (by repeat (first | exact .here _ _ _ | apply Look.there)) ?_
          (refine g0_ ?_; repeat ((first | refine n1_ fun b_ => ?_ | refine n2_ fun b_ => ?_ | refine Nat1.mk fun q_ hq_ => ?_ | refine em_ fun x_ hx_ => ?_ | refine Elem1.mk fun e_ he_ => ?_); refine g0_ ?_))
          (refine g1_ ?_; repeat ((first | refine n1_ fun b_ => ?_ | refine n2_ fun b_ => ?_ | refine Nat1.mk fun q_ hq_ => ?_ | refine em_ fun x_ hx_ => ?_ | refine Elem1.mk fun e_ he_ => ?_); refine g1_ ?_))
          refine rd_ok (by repeat (first | exact .here _ _ _ | apply Look.there)) (by repeat (first | exact .here _ _ _ | apply Look.there)) (by repeat (first | exact .here _ _ _ | apply Look.there)) (by repeat (first | exact .here _ _ _ | apply Look.there)) (by repeat (first | exact .here _ _ _ | apply Look.there)) (by repeat (first | exact .here _ _ _ | apply Look.there)) ?_
          exact frz_lastT (by repeat (first | exact .here _ _ _ | apply Look.there)) (by simp) (by simp)
        · obtain ⟨rfl, hbad⟩ := readN_bad hr
          have hm42 := next_lt h42 (by decide)
          refine ACalls.same2 (isR_ok W bA bS s (m + 1) 42 true (by first | exact decide_eq_true (by omega) | exact decide_eq_false (by omega)) (by omega) hs (by decide)) (by repeat (first | exact .here _ _ _ | apply Look.there)) (by repeat (first | exact .here _ _ _ | apply Look.there)) ?_
          (refine g0_ ?_; repeat ((first | refine n1_ fun b_ => ?_ | refine n2_ fun b_ => ?_ | refine Nat1.mk fun q_ hq_ => ?_ | refine em_ fun x_ hx_ => ?_ | refine Elem1.mk fun e_ he_ => ?_); refine g0_ ?_))
          (refine g1_ ?_; repeat ((first | refine n1_ fun b_ => ?_ | refine n2_ fun b_ => ?_ | refine Nat1.mk fun q_ hq_ => ?_ | refine em_ fun x_ hx_ => ?_ | refine Elem1.mk fun e_ he_ => ?_); refine g1_ ?_))
          refine ACalls.lend (numberR_bad W bA bS bB s (m + 1 + 1) hs (by omega) hbad) (look3 (by repeat (first | exact .here _ _ _ | apply Look.there)) (by repeat (first | exact .here _ _ _ | apply Look.there)) (by repeat (first | exact .here _ _ _ | apply Look.there))) ?_
          rintro _ -
          simp only [rsA, rsS, List.cons_append, List.nil_append]
          (refine g0_ ?_; repeat ((first | refine n1_ fun b_ => ?_ | refine n2_ fun b_ => ?_ | refine Nat1.mk fun q_ hq_ => ?_ | refine em_ fun x_ hx_ => ?_ | refine Elem1.mk fun e_ he_ => ?_); refine g0_ ?_))
          (refine g1_ ?_; repeat ((first | refine n1_ fun b_ => ?_ | refine n2_ fun b_ => ?_ | refine Nat1.mk fun q_ hq_ => ?_ | refine em_ fun x_ hx_ => ?_ | refine Elem1.mk fun e_ he_ => ?_); refine g1_ ?_))
          refine rd_bad (.mk 2 0 0 ((l0 :: l) ++ [Spl.mk w2 p2 s2 ks2])) (m + 1 + 1) (by repeat (first | exact .here _ _ _ | apply Look.there)) (by repeat (first | exact .here _ _ _ | apply Look.there)) (by repeat (first | exact .here _ _ _ | apply Look.there)) (by repeat (first | exact .here _ _ _ | apply Look.there)) (by repeat (first | exact .here _ _ _ | apply Look.there)) (by repeat (first | exact .here _ _ _ | apply Look.there)) ?_
          exact frz_lastT (by repeat (first | exact .here _ _ _ | apply Look.there)) (by simp) (by simp)
        · have hm42 := next_lt h42 (by decide)
          obtain ⟨k1, k2, k3, -⟩ := readN_len hr
          refine ACalls.same2 (isR_ok W bA bS s (m + 1) 42 true (by first | exact decide_eq_true (by omega) | exact decide_eq_false (by omega)) (by omega) hs (by decide)) (by repeat (first | exact .here _ _ _ | apply Look.there)) (by repeat (first | exact .here _ _ _ | apply Look.there)) ?_
          (refine g0_ ?_; repeat ((first | refine n1_ fun b_ => ?_ | refine n2_ fun b_ => ?_ | refine Nat1.mk fun q_ hq_ => ?_ | refine em_ fun x_ hx_ => ?_ | refine Elem1.mk fun e_ he_ => ?_); refine g0_ ?_))
          (refine g1_ ?_; repeat ((first | refine n1_ fun b_ => ?_ | refine n2_ fun b_ => ?_ | refine Nat1.mk fun q_ hq_ => ?_ | refine em_ fun x_ hx_ => ?_ | refine Elem1.mk fun e_ he_ => ?_); refine g1_ ?_))
          refine ACalls.lend (numberR_ok W hE bA bS bB s (m + 1 + 1) hs (by omega) hr) (look3 (by repeat (first | exact .here _ _ _ | apply Look.there)) (by repeat (first | exact .here _ _ _ | apply Look.there)) (by repeat (first | exact .here _ _ _ | apply Look.there))) ?_
          rintro _ -
          simp only [rsA, rsS, List.cons_append, List.nil_append]
          (refine g0_ ?_; repeat ((first | refine n1_ fun b_ => ?_ | refine n2_ fun b_ => ?_ | refine Nat1.mk fun q_ hq_ => ?_ | refine em_ fun x_ hx_ => ?_ | refine Elem1.mk fun e_ he_ => ?_); refine g0_ ?_))
          (refine g1_ ?_; repeat ((first | refine n1_ fun b_ => ?_ | refine n2_ fun b_ => ?_ | refine Nat1.mk fun q_ hq_ => ?_ | refine em_ fun x_ hx_ => ?_ | refine Elem1.mk fun e_ he_ => ?_); refine g1_ ?_))
          refine rd_bad (.mk 2 0 1 ((l0 :: l) ++ [Spl.mk w2 p2 s2 ks2])) m2 (by repeat (first | exact .here _ _ _ | apply Look.there)) (by repeat (first | exact .here _ _ _ | apply Look.there)) (by rw [show ((m2 - 1 : Nat) : Int) = (m2 : Int) - 1 by omega]; repeat (first | exact .here _ _ _ | apply Look.there)) (by repeat (first | exact .here _ _ _ | apply Look.there)) (by repeat (first | exact .here _ _ _ | apply Look.there)) (by repeat (first | exact .here _ _ _ | apply Look.there)) ?_
          exact frz_lastT (by repeat (first | exact .here _ _ _ | apply Look.there)) (by simp) (by simp)
        · have hm42 := next_lt h42 (by decide)
          obtain ⟨k1, k2, k3, -⟩ := readN_len hr
          refine ACalls.same2 (isR_ok W bA bS s (m + 1) 42 true (by first | exact decide_eq_true (by omega) | exact decide_eq_false (by omega)) (by omega) hs (by decide)) (by repeat (first | exact .here _ _ _ | apply Look.there)) (by repeat (first | exact .here _ _ _ | apply Look.there)) ?_
          (refine g0_ ?_; repeat ((first | refine n1_ fun b_ => ?_ | refine n2_ fun b_ => ?_ | refine Nat1.mk fun q_ hq_ => ?_ | refine em_ fun x_ hx_ => ?_ | refine Elem1.mk fun e_ he_ => ?_); refine g0_ ?_))
          (refine g1_ ?_; repeat ((first | refine n1_ fun b_ => ?_ | refine n2_ fun b_ => ?_ | refine Nat1.mk fun q_ hq_ => ?_ | refine em_ fun x_ hx_ => ?_ | refine Elem1.mk fun e_ he_ => ?_); refine g1_ ?_))
          refine ACalls.lend (numberR_ok W hE bA bS bB s (m + 1 + 1) hs (by omega) hr) (look3 (by repeat (first | exact .here _ _ _ | apply Look.there)) (by repeat (first | exact .here _ _ _ | apply Look.there)) (by repeat (first | exact .here _ _ _ | apply Look.there))) ?_
          rintro _ -
          simp only [rsA, rsS, List.cons_append, List.nil_append]
          (refine g0_ ?_; repeat ((first | refine n1_ fun b_ => ?_ | refine n2_ fun b_ => ?_ | refine Nat1.mk fun q_ hq_ => ?_ | refine em_ fun x_ hx_ => ?_ | refine Elem1.mk fun e_ he_ => ?_); refine g0_ ?_))
          (refine g1_ ?_; repeat ((first | refine n1_ fun b_ => ?_ | refine n2_ fun b_ => ?_ | refine Nat1.mk fun q_ hq_ => ?_ | refine em_ fun x_ hx_ => ?_ | refine Elem1.mk fun e_ he_ => ?_); refine g1_ ?_))
          refine rd_ok (by repeat (first | exact .here _ _ _ | apply Look.there)) (by repeat (first | exact .here _ _ _ | apply Look.there)) (by repeat (first | exact .here _ _ _ | apply Look.there)) (by repeat (first | exact .here _ _ _ | apply Look.there)) (by repeat (first | exact .here _ _ _ | apply Look.there)) (by repeat (first | exact .here _ _ _ | apply Look.there)) ?_
          exact frz_lastT (by repeat (first | exact .here _ _ _ | apply Look.there)) (by simp) (by simp)
      · rw [if_neg hcl] at hlp
        by_cases h44 : nextN s m = 44
        · rw [if_pos h44] at hlp
          have hml := next_lt h44 (by decide)
          refine ACalls.same2 (isR_ok W bA bS s (m) 93 false (by first | exact decide_eq_true (by omega) | exact decide_eq_false (by omega)) (by omega) hs (by decide)) (by repeat (first | exact .here _ _ _ | apply Look.there)) (by repeat (first | exact .here _ _ _ | apply Look.there)) ?_
          (refine g0_ ?_; repeat ((first | refine n1_ fun b_ => ?_ | refine n2_ fun b_ => ?_ | refine Nat1.mk fun q_ hq_ => ?_ | refine em_ fun x_ hx_ => ?_ | refine Elem1.mk fun e_ he_ => ?_); refine g0_ ?_))
          (refine g1_ ?_; repeat ((first | refine n1_ fun b_ => ?_ | refine n2_ fun b_ => ?_ | refine Nat1.mk fun q_ hq_ => ?_ | refine em_ fun x_ hx_ => ?_ | refine Elem1.mk fun e_ he_ => ?_); refine g1_ ?_))
          refine ACalls.same2 (isR_ok W bA bS s (m) 44 true (by first | exact decide_eq_true (by omega) | exact decide_eq_false (by omega)) (by omega) hs (by decide)) (by repeat (first | exact .here _ _ _ | apply Look.there)) (by repeat (first | exact .here _ _ _ | apply Look.there)) ?_
          (refine g0_ ?_; repeat ((first | refine n1_ fun b_ => ?_ | refine n2_ fun b_ => ?_ | refine Nat1.mk fun q_ hq_ => ?_ | refine em_ fun x_ hx_ => ?_ | refine Elem1.mk fun e_ he_ => ?_); refine g0_ ?_))
          (refine g1_ ?_; repeat ((first | refine n1_ fun b_ => ?_ | refine n2_ fun b_ => ?_ | refine Nat1.mk fun q_ hq_ => ?_ | refine em_ fun x_ hx_ => ?_ | refine Elem1.mk fun e_ he_ => ?_); refine g1_ ?_))
          try rw [show ∀ v : PV, (List.map encSpl l).length + 1 + [v].length = (List.map encSpl (l ++ [Spl.mk w2 p2 s2 ks2])).length + 1 from fun v => by simp]
          try rw [show (encSpl l0 :: List.map encSpl l) ++ [encSpl (Spl.mk w2 p2 s2 ks2)] = splsV (l0 :: l ++ [Spl.mk w2 p2 s2 ks2]) from by simp [splsV]]
          refine nx_ (m, b_, (l0 :: l) ++ [Spl.mk w2 p2 s2 ks2], fu) ?_ ?_
          · exact ⟨hml, by (rw [List.length_append, List.length_singleton]; (try rw [List.length_cons]); (try rw [List.length_nil]); omega), hlp, (show s.length < fu + m by omega)⟩
          · ((try dsimp only); (try simp only [List.length_drop, List.length_take, List.length_append, List.length_cons, List.length_nil, List.length_map] at *); omega)
        · rw [if_neg h44] at hlp
          subst hlp
          dsimp only at hr
          subst hr
          refine ACalls.same2 (isR_ok W bA bS s (m) 93 false (by first | exact decide_eq_true (by omega) | exact decide_eq_false (by omega)) (by omega) hs (by decide)) (by repeat (first | exact .here _ _ _ | apply Look.there)) (by repeat (first | exact .here _ _ _ | apply Look.there)) ?_
          (refine g0_ ?_; repeat ((first | refine n1_ fun b_ => ?_ | refine n2_ fun b_ => ?_ | refine Nat1.mk fun q_ hq_ => ?_ | refine em_ fun x_ hx_ => ?_ | refine Elem1.mk fun e_ he_ => ?_); refine g0_ ?_))
          (refine g1_ ?_; repeat ((first | refine n1_ fun b_ => ?_ | refine n2_ fun b_ => ?_ | refine Nat1.mk fun q_ hq_ => ?_ | refine em_ fun x_ hx_ => ?_ | refine Elem1.mk fun e_ he_ => ?_); refine g1_ ?_))
          refine ACalls.same2 (isR_ok W bA bS s (m) 44 false (by first | exact decide_eq_true (by omega) | exact decide_eq_false (by omega)) (by omega) hs (by decide)) (by repeat (first | exact .here _ _ _ | apply Look.there)) (by repeat (first | exact .here _ _ _ | apply Look.there)) ?_
          (refine g0_ ?_; repeat ((first | refine n1_ fun b_ => ?_ | refine n2_ fun b_ => ?_ | refine Nat1.mk fun q_ hq_ => ?_ | refine em_ fun x_ hx_ => ?_ | refine Elem1.mk fun e_ he_ => ?_); refine g0_ ?_))
          (refine g1_ ?_; repeat ((first | refine n1_ fun b_ => ?_ | refine n2_ fun b_ => ?_ | refine Nat1.mk fun q_ hq_ => ?_ | refine em_ fun x_ hx_ => ?_ | refine Elem1.mk fun e_ he_ => ?_); refine g1_ ?_))
          refine rd_bad (.mk 2 0 1 ((l0 :: l) ++ [Spl.mk w2 p2 s2 ks2])) m (by repeat (first | exact .here _ _ _ | apply Look.there)) (by repeat (first | exact .here _ _ _ | apply Look.there)) (by repeat (first | exact .here _ _ _ | apply Look.there)) (by repeat (first | exact .here _ _ _ | apply Look.there)) (by repeat (first | exact .here _ _ _ | apply Look.there)) (by repeat (first | exact .here _ _ _ | apply Look.there)) ?_
          exact frz_lastT (by repeat (first | exact .here _ _ _ | apply Look.there)) (by simp) (by simp)
theorem readR_ok (hE : ErrJ W) (bA bS bB bI bN bR : Nat) (s : List UInt8) (hs : s.length ≤ 4000) : ∀ (n i : Nat), n ≤ 12 → i ≤ s.length → RdCall W bA bS bB bI bN bR s i (13 - (n : Int)) (readS s n i) := by
  intro n
  induction n with
  | zero =>
    intro i hn hi
    rw [readS]
    split
    · rename_i hc
      have hil : i < s.length := by rcases hc with hc | hc <;> exact next_lt hc (by decide)
      exact readR_deep W bA bS bB bI bN bR s i _ hs hil hc (by decide) (by decide)
    · rename_i hc
      exact readR_leaf W hE bA bS bB bI bN bR s i _ hs hi hc
  | succ n ih =>
    intro i hn hi
    rw [readS]
    split
    · rename_i hc
      have hil : i < s.length := by rcases hc with hc | hc <;> exact next_lt hc (by decide)
      have hd : (1 : Int) ≤ 13 - ((n + 1 : Nat) : Int) ∧ 13 - ((n + 1 : Nat) : Int) ≤ 12 := by omega
      have he : 13 - ((n + 1 : Nat) : Int) + 1 = 13 - (n : Int) := by omega
      have hk : ∀ a, a ≤ s.length → RdCall W bA bS bB bI bN bR s a (13 - ((n + 1 : Nat) : Int) + 1) (readS s n a) := fun a ha => by
        rw [he]
        exact ih a (by omega) ha
      have hbd : ∀ a t m, a ≤ s.length → readS s n a = .ok (t, m) → a < m ∧ m ≤ s.length := fun a t m ha hr => (readS_okT hs n a m t ha hr).2
      rcases hc with hc | hc
      · rw [if_pos hc, if_pos hc]
        exact readR_kids W hE bA bS bB bI bN bR s i _ hs hil hd _ hk hbd hc _ rfl
      · have h123 : ¬ nextN s i = 123 := by omega
        rw [if_neg h123, if_neg h123]
        exact readR_kids2 W hE bA bS bB bI bN bR s i _ hs hil hd _ hk hbd hc _ rfl
    · rename_i hc
      exact readR_leaf W hE bA bS bB bI bN bR s i _ hs hi hc
end Go.Eng.YtmodblkagimhlaaDoor
end

/- Splits: the document's reader of a text (b_ x_ q_ e_). -/
section
namespace Go.Eng.YtmodblkagimhlaaDoor
open Go Go.Eng Go.Proofs Go.RowKit
variable (W : World)
set_option linter.unusedSimpArgs false
set_option maxRecDepth 100000
set_option linter.unusedVariables false
set_option maxHeartbeats 8000000
/-- What the document's reader makes of a text that is not too long. -/
def readT (s : List UInt8) : Spl × Int × Int :=
  match readS s 12 0 with
    | .error x => (zeroT, x, 1)
    | .ok (t, m) => if m < s.length then (zeroT, m, 1) else if (visS t 0 (0, [])).1 = 0 then (t, 0, 0) else (zeroT, 0, (visS t 0 (0, [])).1)
theorem parse_read {s : List UInt8} (h : s.length ≤ 4000) : parseS s = readT s := by
  unfold parseS readT
  rw [if_neg (by omega)]
  rfl
theorem frz_t3 {σ : Mem} {v : PV} {t : Spl} {a b : Int} (h : Frz σ v (encSpl t)) : Frz σ (.tup [v, .int .i64 a, .int .i64 b]) (.tup [encSpl t, .int .i64 a, .int .i64 b]) := by
  refine .tup _ _ rfl fun j hj => ?_
  match j, hj with
  | 0, _ => exact h
  | 1, _ => exact .refl _
  | 2, _ => exact .refl _
theorem readSplitR_ok (hE : ErrJ W) (s : List UInt8) (hs : s.length ≤ 4000) : Pure Tryd.prog W 16 [.str s] (.tup [encSpl (readT s).1, .int .i64 (readT s).2.1, .int .i64 (readT s).2.2]) := by
  have hrd := fun bA bS bB bI bN bR => readR_ok W hE bA bS bB bI bN bR s hs 12 0 (Nat.le_refl _) (Nat.zero_le _)
  have hrk := fun m t => readS_okT hs 12 0 m t (Nat.zero_le _)
  unfold readT
  generalize readS s 12 0 = R at *
  unfold RdCall at hrd
  simp only [rsm, rsA, rsS, rsI, rsN, rsR] at hrd
  cases R with
  | error x =>
    dsimp only
    unfold RdOut at hrd
    simp only [rsm, rsA, rsS, rsI, rsN, rsR] at hrd
    clear hrk
    refine Pure.of (acalls_of_vc (DL_ok (by decide)) Tryd.func16 rfl (by decide) (by decide) rfl ?_)
    (refine g0_ ?_; repeat ((first | refine n1_ fun b_ => ?_ | refine n2_ fun b_ => ?_ | refine Nat1.mk fun q_ hq_ => ?_ | refine em_ fun x_ hx_ => ?_ | refine Elem1.mk fun e_ he_ => ?_); refine g0_ ?_))
    refine ACalls.lendKE (hrd _ _ _ _ _ _) (look6 (by repeat (first | exact .here _ _ _ | apply Look.there)) (by repeat (first | exact .here _ _ _ | apply Look.there)) (by repeat (first | exact .here _ _ _ | apply Look.there)) (by repeat (first | exact .here _ _ _ | apply Look.there)) (by repeat (first | exact .here _ _ _ | apply Look.there)) (by repeat (first | exact .here _ _ _ | apply Look.there))) ?_
    rintro ⟨⟨w2, p2, s2, ks2⟩, m'⟩ -
    simp only [encSpl_mk, List.cons_append, List.nil_append]
    (refine g0_ ?_; repeat ((first | refine n1_ fun b_ => ?_ | refine n2_ fun b_ => ?_ | refine Nat1.mk fun q_ hq_ => ?_ | refine em_ fun x_ hx_ => ?_ | refine Elem1.mk fun e_ he_ => ?_); refine g0_ ?_))
    (refine g1_ ?_; repeat ((first | refine n1_ fun b_ => ?_ | refine n2_ fun b_ => ?_ | refine Nat1.mk fun q_ hq_ => ?_ | refine em_ fun x_ hx_ => ?_ | refine Elem1.mk fun e_ he_ => ?_); refine g1_ ?_))
    refine Draws10.chain ⟨3, [.new, .new, .turn], [(2, [.keep, .again, .keep])], by decide +kernel, ?_⟩; (refine g0_ ?_; repeat ((first | refine n1_ fun b_ => ?_ | refine n2_ fun b_ => ?_ | refine Nat1.mk fun q_ hq_ => ?_ | refine em_ fun x_ hx_ => ?_ | refine Elem1.mk fun e_ he_ => ?_); refine g0_ ?_))
    exact frz_t3 (frz_zeroT _)
  | ok y =>
    obtain ⟨t, m⟩ := y
    obtain ⟨hto, hm0, hml⟩ := hrk m t rfl
    clear hrk
    have hck := checkR_ok W t hto
    dsimp only
    rw [chk_eq t]
    generalize chkT t 0 [] = C at *
    unfold RdOut at hrd
    simp only [rsm, rsA, rsS, rsI, rsN, rsR] at hrd
    obtain ⟨w2, p2, s2, ks2⟩ := t
    rw [encSpl_mk] at hrd hck
    by_cases hm : m < s.length
    · rw [if_pos hm]
      clear hck
      refine Pure.of (acalls_of_vc (DL_ok (by decide)) Tryd.func16 rfl (by decide) (by decide) rfl ?_)
      (refine g0_ ?_; repeat ((first | refine n1_ fun b_ => ?_ | refine n2_ fun b_ => ?_ | refine Nat1.mk fun q_ hq_ => ?_ | refine em_ fun x_ hx_ => ?_ | refine Elem1.mk fun e_ he_ => ?_); refine g0_ ?_))
      refine ACalls.lendK (hrd _ _ _ _ _ _) (look6 (by repeat (first | exact .here _ _ _ | apply Look.there)) (by repeat (first | exact .here _ _ _ | apply Look.there)) (by repeat (first | exact .here _ _ _ | apply Look.there)) (by repeat (first | exact .here _ _ _ | apply Look.there)) (by repeat (first | exact .here _ _ _ | apply Look.there)) (by repeat (first | exact .here _ _ _ | apply Look.there))) ?_
      simp only [List.cons_append, List.nil_append]
      (refine g0_ ?_; repeat ((first | refine n1_ fun b_ => ?_ | refine n2_ fun b_ => ?_ | refine Nat1.mk fun q_ hq_ => ?_ | refine em_ fun x_ hx_ => ?_ | refine Elem1.mk fun e_ he_ => ?_); refine g0_ ?_))
      (refine g1_ ?_; repeat ((first | refine n1_ fun b_ => ?_ | refine n2_ fun b_ => ?_ | refine Nat1.mk fun q_ hq_ => ?_ | refine em_ fun x_ hx_ => ?_ | refine Elem1.mk fun e_ he_ => ?_); refine g1_ ?_))
      refine Draws10.chain ⟨3, [.new, .new, .turn], [(2, [.keep, .again, .keep])], by decide +kernel, ?_⟩; (refine g0_ ?_; repeat ((first | refine n1_ fun b_ => ?_ | refine n2_ fun b_ => ?_ | refine Nat1.mk fun q_ hq_ => ?_ | refine em_ fun x_ hx_ => ?_ | refine Elem1.mk fun e_ he_ => ?_); refine g0_ ?_))
      exact frz_t3 (frz_zeroT _)
    · obtain rfl : m = s.length := by omega
      rw [if_neg hm]
      obtain ⟨c, qs⟩ := C
      dsimp only at hck ⊢
      by_cases hc : c = 0
      · subst hc
        rw [if_pos rfl, encSpl_mk]
        refine Pure.of (acalls_of_vc (DL_ok (by decide)) Tryd.func16 rfl (by decide) (by decide) rfl ?_)
        (refine g0_ ?_; repeat ((first | refine n1_ fun b_ => ?_ | refine n2_ fun b_ => ?_ | refine Nat1.mk fun q_ hq_ => ?_ | refine em_ fun x_ hx_ => ?_ | refine Elem1.mk fun e_ he_ => ?_); refine g0_ ?_))
        refine ACalls.lendK (hrd _ _ _ _ _ _) (look6 (by repeat (first | exact .here _ _ _ | apply Look.there)) (by repeat (first | exact .here _ _ _ | apply Look.there)) (by repeat (first | exact .here _ _ _ | apply Look.there)) (by repeat (first | exact .here _ _ _ | apply Look.there)) (by repeat (first | exact .here _ _ _ | apply Look.there)) (by repeat (first | exact .here _ _ _ | apply Look.there))) ?_
        simp only [List.cons_append, List.nil_append]
        (refine g0_ ?_; repeat ((first | refine n1_ fun b_ => ?_ | refine n2_ fun b_ => ?_ | refine Nat1.mk fun q_ hq_ => ?_ | refine em_ fun x_ hx_ => ?_ | refine Elem1.mk fun e_ he_ => ?_); refine g0_ ?_))
        (refine g1_ ?_; repeat ((first | refine n1_ fun b_ => ?_ | refine n2_ fun b_ => ?_ | refine Nat1.mk fun q_ hq_ => ?_ | refine em_ fun x_ hx_ => ?_ | refine Elem1.mk fun e_ he_ => ?_); refine g1_ ?_))
        refine (hck).use ?_; (refine g0_ ?_; repeat ((first | refine n1_ fun b_ => ?_ | refine n2_ fun b_ => ?_ | refine Nat1.mk fun q_ hq_ => ?_ | refine em_ fun x_ hx_ => ?_ | refine Elem1.mk fun e_ he_ => ?_); refine g0_ ?_))
        (refine g1_ ?_; repeat ((first | refine n1_ fun b_ => ?_ | refine n2_ fun b_ => ?_ | refine Nat1.mk fun q_ hq_ => ?_ | refine em_ fun x_ hx_ => ?_ | refine Elem1.mk fun e_ he_ => ?_); refine g1_ ?_))
        exact .refl _
      · rw [if_neg hc]
        refine Pure.of (acalls_of_vc (DL_ok (by decide)) Tryd.func16 rfl (by decide) (by decide) rfl ?_)
        (refine g0_ ?_; repeat ((first | refine n1_ fun b_ => ?_ | refine n2_ fun b_ => ?_ | refine Nat1.mk fun q_ hq_ => ?_ | refine em_ fun x_ hx_ => ?_ | refine Elem1.mk fun e_ he_ => ?_); refine g0_ ?_))
        refine ACalls.lendK (hrd _ _ _ _ _ _) (look6 (by repeat (first | exact .here _ _ _ | apply Look.there)) (by repeat (first | exact .here _ _ _ | apply Look.there)) (by repeat (first | exact .here _ _ _ | apply Look.there)) (by repeat (first | exact .here _ _ _ | apply Look.there)) (by repeat (first | exact .here _ _ _ | apply Look.there)) (by repeat (first | exact .here _ _ _ | apply Look.there))) ?_
        simp only [List.cons_append, List.nil_append]
        (refine g0_ ?_; repeat ((first | refine n1_ fun b_ => ?_ | refine n2_ fun b_ => ?_ | refine Nat1.mk fun q_ hq_ => ?_ | refine em_ fun x_ hx_ => ?_ | refine Elem1.mk fun e_ he_ => ?_); refine g0_ ?_))
        (refine g1_ ?_; repeat ((first | refine n1_ fun b_ => ?_ | refine n2_ fun b_ => ?_ | refine Nat1.mk fun q_ hq_ => ?_ | refine em_ fun x_ hx_ => ?_ | refine Elem1.mk fun e_ he_ => ?_); refine g1_ ?_))
        refine (hck).use ?_; (refine g0_ ?_; repeat ((first | refine n1_ fun b_ => ?_ | refine n2_ fun b_ => ?_ | refine Nat1.mk fun q_ hq_ => ?_ | refine em_ fun x_ hx_ => ?_ | refine Elem1.mk fun e_ he_ => ?_); refine g0_ ?_))
        (refine g1_ ?_; repeat ((first | refine n1_ fun b_ => ?_ | refine n2_ fun b_ => ?_ | refine Nat1.mk fun q_ hq_ => ?_ | refine em_ fun x_ hx_ => ?_ | refine Elem1.mk fun e_ he_ => ?_); refine g1_ ?_))
        exact frz_t3 (frz_zeroT _)
end Go.Eng.YtmodblkagimhlaaDoor
end

/- The law SplitText (b_ x_ q_ e_). -/
section
namespace Go.Eng.YtmodblkagimhlaaDoor
open Go Go.Eng Go.Proofs
variable (W : World)
set_option linter.unusedSimpArgs false
set_option maxRecDepth 100000
set_option linter.unusedVariables false
set_option maxHeartbeats 8000000
theorem printP_bad (t : Spl) (ht : t.ok) (h0 : (visS t 0 (0, [])).1 ≠ 0) : Pure Tryd.prog W 10 [encSpl t] (.tup [.str [], .int .i64 (visS t 0 (0, [])).1]) := by
  have hc := checkS_ok W t ht
  generalize (visS t 0 (0, [])).1 = e at *
  obtain ⟨w, p, s, ks⟩ := t
  rw [encSpl_mk] at *
  refine Pure.of (acalls_of_vc (drawOk W) Tryd.func10 rfl (by decide) (by decide) rfl ?_)
  (refine g0_ ?_; repeat ((first | refine n1_ fun b_ => ?_ | refine n2_ fun b_ => ?_ | refine Nat1.mk fun q_ hq_ => ?_ | refine em_ fun x_ hx_ => ?_ | refine Elem1.mk fun e_ he_ => ?_); refine g0_ ?_))
  refine (hc).use ?_; (refine g0_ ?_; repeat ((first | refine n1_ fun b_ => ?_ | refine n2_ fun b_ => ?_ | refine Nat1.mk fun q_ hq_ => ?_ | refine em_ fun x_ hx_ => ?_ | refine Elem1.mk fun e_ he_ => ?_); refine g0_ ?_))
  (refine g1_ ?_; repeat ((first | refine n1_ fun b_ => ?_ | refine n2_ fun b_ => ?_ | refine Nat1.mk fun q_ hq_ => ?_ | refine em_ fun x_ hx_ => ?_ | refine Elem1.mk fun e_ he_ => ?_); refine g1_ ?_))
  exact .refl _
theorem parseS_ok {s : List UInt8} : (parseS s).1.ok := by
  unfold parseS
  split
  · exact zeroT_ok
  · rename_i h
    cases hr : readS s 12 0 with
    | error x => exact zeroT_ok
    | ok y =>
      obtain ⟨t, m⟩ := y
      dsimp only
      split
      · exact zeroT_ok
      · split
        · exact (readS_okT (by omega) _ _ _ _ (Nat.zero_le _) hr).1
        · exact zeroT_ok
theorem splitText_ok (hR : Nums W ∧ ErrJ W) (t : Spl) (ht : t.ok) (s : List UInt8) (hs : s.length ≤ 140737488355328) : Pure Tryd.prog W 3 [encSpl t, .str s] (.bool true) := by
  obtain ⟨hN, hE⟩ := hR
  have hpt := parted_ok W
  have hps := parseX_ok W s (by omega)
  have hck := checkR_ok W t ht
  have hce := chk_eq t
  have hvr := @vis_right t
  have hpb := printP_bad W t ht
  have hpo := printP_ok W hN t
  have hst := fun h => splText_ok W hN t 0 (hvr h).1 (hvr h).2.2.1
  clear hvr
  rw [hce] at hpb hpo hst
  clear hce
  generalize chkT t 0 [] = C at *
  obtain ⟨c, qs⟩ := C
  dsimp only at *
  have hpk := @parseS_ok s
  have hno := noSplit_ok W zeroT zeroT_ok
  rw [sameT_rfl] at hno
  have hrs := readSplitR_ok W hE s
  have hpr := @parse_read s
  have hlong : 4000 < s.length → parseS s = (zeroT, 0, 2) := fun h => by unfold parseS; rw [if_pos h]
  by_cases hl : 4000 < s.length
  · rw [hlong hl] at hps
    dsimp only at hps
    rw [zeroV_eq] at hps hno
    clear hrs hpr hpk hlong
    by_cases hc : c = 0
    · subst hc
      have hpo := hpo ht rfl
      have hst := hst rfl
      clear hpb ht
      generalize wrS t = X at *
      obtain ⟨w, p, z, ks⟩ := t
      rw [encSpl_mk] at *
      refine Pure.of (acalls_of_vc (drawOk W) Tryd.func3 rfl (by decide) (by decide) rfl ?_)
      (refine g0_ ?_; repeat ((first | refine n1_ fun b_ => ?_ | refine n2_ fun b_ => ?_ | refine Nat1.mk fun q_ hq_ => ?_ | refine em_ fun x_ hx_ => ?_ | refine Elem1.mk fun e_ he_ => ?_); refine g0_ ?_))
      refine (hpo).use ?_; (refine g0_ ?_; repeat ((first | refine n1_ fun b_ => ?_ | refine n2_ fun b_ => ?_ | refine Nat1.mk fun q_ hq_ => ?_ | refine em_ fun x_ hx_ => ?_ | refine Elem1.mk fun e_ he_ => ?_); refine g0_ ?_))
      (refine g0_ ?_; repeat ((first | refine n1_ fun b_ => ?_ | refine n2_ fun b_ => ?_ | refine Nat1.mk fun q_ hq_ => ?_ | refine em_ fun x_ hx_ => ?_ | refine Elem1.mk fun e_ he_ => ?_); refine g0_ ?_))
      refine (hps).use ?_; (refine g0_ ?_; repeat ((first | refine n1_ fun b_ => ?_ | refine n2_ fun b_ => ?_ | refine Nat1.mk fun q_ hq_ => ?_ | refine em_ fun x_ hx_ => ?_ | refine Elem1.mk fun e_ he_ => ?_); refine g0_ ?_))
      (refine g0_ ?_; repeat ((first | refine n1_ fun b_ => ?_ | refine n2_ fun b_ => ?_ | refine Nat1.mk fun q_ hq_ => ?_ | refine em_ fun x_ hx_ => ?_ | refine Elem1.mk fun e_ he_ => ?_); refine g0_ ?_))
      refine (hpt).use ?_; (refine g0_ ?_; repeat ((first | refine n1_ fun b_ => ?_ | refine n2_ fun b_ => ?_ | refine Nat1.mk fun q_ hq_ => ?_ | refine em_ fun x_ hx_ => ?_ | refine Elem1.mk fun e_ he_ => ?_); refine g0_ ?_))
      (refine g1_ ?_; repeat ((first | refine n1_ fun b_ => ?_ | refine n2_ fun b_ => ?_ | refine Nat1.mk fun q_ hq_ => ?_ | refine em_ fun x_ hx_ => ?_ | refine Elem1.mk fun e_ he_ => ?_); refine g1_ ?_))
      refine (hck).use ?_; (refine g0_ ?_; repeat ((first | refine n1_ fun b_ => ?_ | refine n2_ fun b_ => ?_ | refine Nat1.mk fun q_ hq_ => ?_ | refine em_ fun x_ hx_ => ?_ | refine Elem1.mk fun e_ he_ => ?_); refine g0_ ?_))
      (refine g1_ ?_; repeat ((first | refine n1_ fun b_ => ?_ | refine n2_ fun b_ => ?_ | refine Nat1.mk fun q_ hq_ => ?_ | refine em_ fun x_ hx_ => ?_ | refine Elem1.mk fun e_ he_ => ?_); refine g1_ ?_))
      refine (hst).use ?_; (refine g0_ ?_; repeat ((first | refine n1_ fun b_ => ?_ | refine n2_ fun b_ => ?_ | refine Nat1.mk fun q_ hq_ => ?_ | refine em_ fun x_ hx_ => ?_ | refine Elem1.mk fun e_ he_ => ?_); refine g0_ ?_))
      (refine g1_ ?_; repeat ((first | refine n1_ fun b_ => ?_ | refine n2_ fun b_ => ?_ | refine Nat1.mk fun q_ hq_ => ?_ | refine em_ fun x_ hx_ => ?_ | refine Elem1.mk fun e_ he_ => ?_); refine g1_ ?_))
      refine (hno).use ?_; (refine g0_ ?_; repeat ((first | refine n1_ fun b_ => ?_ | refine n2_ fun b_ => ?_ | refine Nat1.mk fun q_ hq_ => ?_ | refine em_ fun x_ hx_ => ?_ | refine Elem1.mk fun e_ he_ => ?_); refine g0_ ?_))
      exact .refl _
    · have hpb := hpb hc
      clear hpo hst ht
      obtain ⟨w, p, z, ks⟩ := t
      rw [encSpl_mk] at *
      refine Pure.of (acalls_of_vc (drawOk W) Tryd.func3 rfl (by decide) (by decide) rfl ?_)
      (refine g0_ ?_; repeat ((first | refine n1_ fun b_ => ?_ | refine n2_ fun b_ => ?_ | refine Nat1.mk fun q_ hq_ => ?_ | refine em_ fun x_ hx_ => ?_ | refine Elem1.mk fun e_ he_ => ?_); refine g0_ ?_))
      refine (hpb).use ?_; (refine g0_ ?_; repeat ((first | refine n1_ fun b_ => ?_ | refine n2_ fun b_ => ?_ | refine Nat1.mk fun q_ hq_ => ?_ | refine em_ fun x_ hx_ => ?_ | refine Elem1.mk fun e_ he_ => ?_); refine g0_ ?_))
      (refine g0_ ?_; repeat ((first | refine n1_ fun b_ => ?_ | refine n2_ fun b_ => ?_ | refine Nat1.mk fun q_ hq_ => ?_ | refine em_ fun x_ hx_ => ?_ | refine Elem1.mk fun e_ he_ => ?_); refine g0_ ?_))
      refine (hps).use ?_; (refine g0_ ?_; repeat ((first | refine n1_ fun b_ => ?_ | refine n2_ fun b_ => ?_ | refine Nat1.mk fun q_ hq_ => ?_ | refine em_ fun x_ hx_ => ?_ | refine Elem1.mk fun e_ he_ => ?_); refine g0_ ?_))
      (refine g0_ ?_; repeat ((first | refine n1_ fun b_ => ?_ | refine n2_ fun b_ => ?_ | refine Nat1.mk fun q_ hq_ => ?_ | refine em_ fun x_ hx_ => ?_ | refine Elem1.mk fun e_ he_ => ?_); refine g0_ ?_))
      refine (hpt).use ?_; (refine g0_ ?_; repeat ((first | refine n1_ fun b_ => ?_ | refine n2_ fun b_ => ?_ | refine Nat1.mk fun q_ hq_ => ?_ | refine em_ fun x_ hx_ => ?_ | refine Elem1.mk fun e_ he_ => ?_); refine g0_ ?_))
      (refine g1_ ?_; repeat ((first | refine n1_ fun b_ => ?_ | refine n2_ fun b_ => ?_ | refine Nat1.mk fun q_ hq_ => ?_ | refine em_ fun x_ hx_ => ?_ | refine Elem1.mk fun e_ he_ => ?_); refine g1_ ?_))
      refine (hck).use ?_; (refine g0_ ?_; repeat ((first | refine n1_ fun b_ => ?_ | refine n2_ fun b_ => ?_ | refine Nat1.mk fun q_ hq_ => ?_ | refine em_ fun x_ hx_ => ?_ | refine Elem1.mk fun e_ he_ => ?_); refine g0_ ?_))
      (refine g1_ ?_; repeat ((first | refine n1_ fun b_ => ?_ | refine n2_ fun b_ => ?_ | refine Nat1.mk fun q_ hq_ => ?_ | refine em_ fun x_ hx_ => ?_ | refine Elem1.mk fun e_ he_ => ?_); refine g1_ ?_))
      refine (hno).use ?_; (refine g0_ ?_; repeat ((first | refine n1_ fun b_ => ?_ | refine n2_ fun b_ => ?_ | refine Nat1.mk fun q_ hq_ => ?_ | refine em_ fun x_ hx_ => ?_ | refine Elem1.mk fun e_ he_ => ?_); refine g0_ ?_))
      exact .refl _
  · have hrs := hrs (by omega)
    rw [← hpr (by omega)] at hrs
    have hsm := sameT_ok W _ hpk (parseS s).1
    rw [sameT_rfl] at hsm
    clear hpr hpk hlong hno
    generalize parseS s = P at *
    obtain ⟨⟨xw, xp, xz, xk⟩, a, e⟩ := P
    dsimp only at *
    rw [encSpl_mk] at hps hrs hsm
    by_cases hc : c = 0
    · subst hc
      have hpo := hpo ht rfl
      have hst := hst rfl
      clear hpb ht
      generalize wrS t = X at *
      obtain ⟨w, p, z, ks⟩ := t
      rw [encSpl_mk] at *
      refine Pure.of (acalls_of_vc (drawOk W) Tryd.func3 rfl (by decide) (by decide) rfl ?_)
      (refine g0_ ?_; repeat ((first | refine n1_ fun b_ => ?_ | refine n2_ fun b_ => ?_ | refine Nat1.mk fun q_ hq_ => ?_ | refine em_ fun x_ hx_ => ?_ | refine Elem1.mk fun e_ he_ => ?_); refine g0_ ?_))
      refine (hpo).use ?_; (refine g0_ ?_; repeat ((first | refine n1_ fun b_ => ?_ | refine n2_ fun b_ => ?_ | refine Nat1.mk fun q_ hq_ => ?_ | refine em_ fun x_ hx_ => ?_ | refine Elem1.mk fun e_ he_ => ?_); refine g0_ ?_))
      (refine g0_ ?_; repeat ((first | refine n1_ fun b_ => ?_ | refine n2_ fun b_ => ?_ | refine Nat1.mk fun q_ hq_ => ?_ | refine em_ fun x_ hx_ => ?_ | refine Elem1.mk fun e_ he_ => ?_); refine g0_ ?_))
      refine (hps).use ?_; (refine g0_ ?_; repeat ((first | refine n1_ fun b_ => ?_ | refine n2_ fun b_ => ?_ | refine Nat1.mk fun q_ hq_ => ?_ | refine em_ fun x_ hx_ => ?_ | refine Elem1.mk fun e_ he_ => ?_); refine g0_ ?_))
      (refine g0_ ?_; repeat ((first | refine n1_ fun b_ => ?_ | refine n2_ fun b_ => ?_ | refine Nat1.mk fun q_ hq_ => ?_ | refine em_ fun x_ hx_ => ?_ | refine Elem1.mk fun e_ he_ => ?_); refine g0_ ?_))
      refine (hpt).use ?_; (refine g0_ ?_; repeat ((first | refine n1_ fun b_ => ?_ | refine n2_ fun b_ => ?_ | refine Nat1.mk fun q_ hq_ => ?_ | refine em_ fun x_ hx_ => ?_ | refine Elem1.mk fun e_ he_ => ?_); refine g0_ ?_))
      (refine g1_ ?_; repeat ((first | refine n1_ fun b_ => ?_ | refine n2_ fun b_ => ?_ | refine Nat1.mk fun q_ hq_ => ?_ | refine em_ fun x_ hx_ => ?_ | refine Elem1.mk fun e_ he_ => ?_); refine g1_ ?_))
      refine (hck).use ?_; (refine g0_ ?_; repeat ((first | refine n1_ fun b_ => ?_ | refine n2_ fun b_ => ?_ | refine Nat1.mk fun q_ hq_ => ?_ | refine em_ fun x_ hx_ => ?_ | refine Elem1.mk fun e_ he_ => ?_); refine g0_ ?_))
      (refine g1_ ?_; repeat ((first | refine n1_ fun b_ => ?_ | refine n2_ fun b_ => ?_ | refine Nat1.mk fun q_ hq_ => ?_ | refine em_ fun x_ hx_ => ?_ | refine Elem1.mk fun e_ he_ => ?_); refine g1_ ?_))
      refine (hst).use ?_; (refine g0_ ?_; repeat ((first | refine n1_ fun b_ => ?_ | refine n2_ fun b_ => ?_ | refine Nat1.mk fun q_ hq_ => ?_ | refine em_ fun x_ hx_ => ?_ | refine Elem1.mk fun e_ he_ => ?_); refine g0_ ?_))
      (refine g1_ ?_; repeat ((first | refine n1_ fun b_ => ?_ | refine n2_ fun b_ => ?_ | refine Nat1.mk fun q_ hq_ => ?_ | refine em_ fun x_ hx_ => ?_ | refine Elem1.mk fun e_ he_ => ?_); refine g1_ ?_))
      refine (hrs).use ?_; (refine g0_ ?_; repeat ((first | refine n1_ fun b_ => ?_ | refine n2_ fun b_ => ?_ | refine Nat1.mk fun q_ hq_ => ?_ | refine em_ fun x_ hx_ => ?_ | refine Elem1.mk fun e_ he_ => ?_); refine g0_ ?_))
      (refine g1_ ?_; repeat ((first | refine n1_ fun b_ => ?_ | refine n2_ fun b_ => ?_ | refine Nat1.mk fun q_ hq_ => ?_ | refine em_ fun x_ hx_ => ?_ | refine Elem1.mk fun e_ he_ => ?_); refine g1_ ?_))
      refine (hsm).use ?_; (refine g0_ ?_; repeat ((first | refine n1_ fun b_ => ?_ | refine n2_ fun b_ => ?_ | refine Nat1.mk fun q_ hq_ => ?_ | refine em_ fun x_ hx_ => ?_ | refine Elem1.mk fun e_ he_ => ?_); refine g0_ ?_))
      exact .refl _
    · have hpb := hpb hc
      clear hpo hst ht
      obtain ⟨w, p, z, ks⟩ := t
      rw [encSpl_mk] at *
      refine Pure.of (acalls_of_vc (drawOk W) Tryd.func3 rfl (by decide) (by decide) rfl ?_)
      (refine g0_ ?_; repeat ((first | refine n1_ fun b_ => ?_ | refine n2_ fun b_ => ?_ | refine Nat1.mk fun q_ hq_ => ?_ | refine em_ fun x_ hx_ => ?_ | refine Elem1.mk fun e_ he_ => ?_); refine g0_ ?_))
      refine (hpb).use ?_; (refine g0_ ?_; repeat ((first | refine n1_ fun b_ => ?_ | refine n2_ fun b_ => ?_ | refine Nat1.mk fun q_ hq_ => ?_ | refine em_ fun x_ hx_ => ?_ | refine Elem1.mk fun e_ he_ => ?_); refine g0_ ?_))
      (refine g0_ ?_; repeat ((first | refine n1_ fun b_ => ?_ | refine n2_ fun b_ => ?_ | refine Nat1.mk fun q_ hq_ => ?_ | refine em_ fun x_ hx_ => ?_ | refine Elem1.mk fun e_ he_ => ?_); refine g0_ ?_))
      refine (hps).use ?_; (refine g0_ ?_; repeat ((first | refine n1_ fun b_ => ?_ | refine n2_ fun b_ => ?_ | refine Nat1.mk fun q_ hq_ => ?_ | refine em_ fun x_ hx_ => ?_ | refine Elem1.mk fun e_ he_ => ?_); refine g0_ ?_))
      (refine g0_ ?_; repeat ((first | refine n1_ fun b_ => ?_ | refine n2_ fun b_ => ?_ | refine Nat1.mk fun q_ hq_ => ?_ | refine em_ fun x_ hx_ => ?_ | refine Elem1.mk fun e_ he_ => ?_); refine g0_ ?_))
      refine (hpt).use ?_; (refine g0_ ?_; repeat ((first | refine n1_ fun b_ => ?_ | refine n2_ fun b_ => ?_ | refine Nat1.mk fun q_ hq_ => ?_ | refine em_ fun x_ hx_ => ?_ | refine Elem1.mk fun e_ he_ => ?_); refine g0_ ?_))
      (refine g1_ ?_; repeat ((first | refine n1_ fun b_ => ?_ | refine n2_ fun b_ => ?_ | refine Nat1.mk fun q_ hq_ => ?_ | refine em_ fun x_ hx_ => ?_ | refine Elem1.mk fun e_ he_ => ?_); refine g1_ ?_))
      refine (hck).use ?_; (refine g0_ ?_; repeat ((first | refine n1_ fun b_ => ?_ | refine n2_ fun b_ => ?_ | refine Nat1.mk fun q_ hq_ => ?_ | refine em_ fun x_ hx_ => ?_ | refine Elem1.mk fun e_ he_ => ?_); refine g0_ ?_))
      (refine g1_ ?_; repeat ((first | refine n1_ fun b_ => ?_ | refine n2_ fun b_ => ?_ | refine Nat1.mk fun q_ hq_ => ?_ | refine em_ fun x_ hx_ => ?_ | refine Elem1.mk fun e_ he_ => ?_); refine g1_ ?_))
      refine (hrs).use ?_; (refine g0_ ?_; repeat ((first | refine n1_ fun b_ => ?_ | refine n2_ fun b_ => ?_ | refine Nat1.mk fun q_ hq_ => ?_ | refine em_ fun x_ hx_ => ?_ | refine Elem1.mk fun e_ he_ => ?_); refine g0_ ?_))
      (refine g1_ ?_; repeat ((first | refine n1_ fun b_ => ?_ | refine n2_ fun b_ => ?_ | refine Nat1.mk fun q_ hq_ => ?_ | refine em_ fun x_ hx_ => ?_ | refine Elem1.mk fun e_ he_ => ?_); refine g1_ ?_))
      refine (hsm).use ?_; (refine g0_ ?_; repeat ((first | refine n1_ fun b_ => ?_ | refine n2_ fun b_ => ?_ | refine Nat1.mk fun q_ hq_ => ?_ | refine em_ fun x_ hx_ => ?_ | refine Elem1.mk fun e_ he_ => ?_); refine g0_ ?_))
      exact .refl _
end Go.Eng.YtmodblkagimhlaaDoor
end
