/- Texts put together: Fmt10, Fmt11, Fmt9, Fmt12. -/
import Derived.Test.YtkenlcaifhffoaaDoorMFX1
import Derived.Test.YtkenlcaifhffoaaDoorMT1
import Derived.Test.YtkenlcaifhffoaaDoorMFM2
/- Formats: the document's expander: what fails, words, what is wanted, values (b_ x_ q_ e_). -/
section
namespace Go.Eng.YtkenlcaifhffoaaDoor
open Go Go.Eng Go.Proofs Go.RowKit
variable (W : World)
set_option linter.unusedSimpArgs false
set_option maxRecDepth 100000
set_option linter.unusedVariables false
set_option maxHeartbeats 4000000
theorem indexQ_ok (l : List UInt8) (c : UInt8) : Pure Tryd.prog W 59 [.str l, .int .u8 c.toNat] (.int .i64 (Lib.indexByte l c)) := by
  have h : Pure Tryd.prog W 59 [.str l, .int .u8 c.toNat] (.int .i64 (Lib.indexByte l (UInt8.ofNat c.toNat))) :=
    Pure.of_below Tryd.func59 rfl (by decide) rfl rfl fun w _ _ => (Tryd.strings_IndexByte ⟨l.toArray⟩ (c.toNat : Int) w).mono fun _ _ h => ⟨h.1, h.2 ▸ RowKit.Below.refl _ _⟩
  rwa [UInt8.ofNat_toNat] at h
theorem index_in {l : List UInt8} {c : UInt8} (h : l.contains c = true) : ∃ n : Nat, Lib.indexByte l c = n := by
  rw [Lib.contains_iff_indexByte, decide_eq_true_eq] at h
  exact ⟨(Lib.indexByte l c).toNat, by omega⟩
theorem index_out {l : List UInt8} {c : UInt8} (h : l.contains c = false) : Lib.indexByte l c = -1 := by
  rw [Lib.contains_iff_indexByte, decide_eq_false_iff_not] at h
  have := Lib.indexByte_ge l c
  omega
def lets : List UInt8 := [97, 98, 99, 100, 101, 102, 103, 104, 105, 106, 107, 108, 109, 110, 111, 112, 113, 114, 115, 116, 117, 118, 119, 120, 121, 122, 95]
theorem lets_ltr (c : UInt8) : lets.contains c = ltr c := by
  have h : ∀ n < 256, lets.contains (UInt8.ofNat n) = ltr (UInt8.ofNat n) := by decide +kernel
  have := h c.toNat c.toNat_lt
  rwa [UInt8.ofNat_toNat] at this
/-- The document's reader under way. -/
def xM (b : Nat) (s : List UInt8) (p : Nat) (bad : Int) (its : Its) : Mem := [⟨b, .row 4 [.agg [.str s, .int .i64 p, .int .i64 bad, .sl 2 (its.map itV)]] 0⟩]
theorem failX_ok (b : Nat) (s : List UInt8) (p e : Nat) (its : Its) : ACalls Tryd.prog W 61 [.bref b 0, .int .i64 e] (xM b s p (-1) its) (Gives (fun _ : Unit => .str []) (fun _ => xM b s s.length e its) (fun _ => True)) := by
  unfold xM
  refine acalls_of_vc (drawOk W) Tryd.func61 rfl (by decide) (by decide) rfl ?_
  (refine g0_ ?_; repeat ((first | refine n1_ fun b_ => ?_ | refine n2_ fun b_ => ?_ | refine Nat1.mk fun q_ hq_ => ?_ | refine em_ fun x_ hx_ => ?_ | refine Elem1.mk fun e_ he_ => ?_); refine g0_ ?_))
  (refine g1_ ?_; repeat ((first | refine n1_ fun b_ => ?_ | refine n2_ fun b_ => ?_ | refine Nat1.mk fun q_ hq_ => ?_ | refine em_ fun x_ hx_ => ?_ | refine Elem1.mk fun e_ he_ => ?_); refine g1_ ?_))
  exact ⟨(), trivial, rfl, by (first | exact ⟨_, .refl _⟩ | exact wkMem.rfl' | exact ⟨_, .swap _ _ _⟩ | (repeat (first | exact wkMem.nil _ | exact wkMem.rfl' | exact wk_snoc _ _ _ | exact wk_fam (by assumption) _ _ _ | exact wk_famN (by assumption) _ _ _ | (apply wkMem.cons; (case' hl => (repeat (first | exact .here _ _ _ | apply Look.there)))) | apply wkMem.skip)))⟩
theorem wantX_ok (b : Nat) (s : List UInt8) (p m : Nat) (its : Its) (hs : s.length ≤ 4000) (c : UInt8) (h : expQ s p c = .ok m) : ACalls Tryd.prog W 99 [.bref b 0, .str [c]] (xM b s p (-1) its) (Gives (fun _ : Unit => .tup []) (fun _ => xM b s m (-1) its) (fun _ => True)) := by
  obtain ⟨h1, rfl, h3⟩ := expQ_ok h
  have hp1 := hasPrefix_ok W (s.drop p) [c]
  rw [hp1_eq, decide_eq_true h1] at hp1
  have hl1 : [c].length = 1 := rfl
  have hpl := lt_of_at h1
  unfold xM
  refine acalls_of_vc (drawOk W) Tryd.func99 rfl (by decide) (by decide) rfl ?_
  (refine g0_ ?_; repeat ((first | refine n1_ fun b_ => ?_ | refine n2_ fun b_ => ?_ | refine Nat1.mk fun q_ hq_ => ?_ | refine em_ fun x_ hx_ => ?_ | refine Elem1.mk fun e_ he_ => ?_); refine g0_ ?_))
  refine head_ ?_; (refine g0_ ?_; repeat ((first | refine n1_ fun b_ => ?_ | refine n2_ fun b_ => ?_ | refine Nat1.mk fun q_ hq_ => ?_ | refine em_ fun x_ hx_ => ?_ | refine Elem1.mk fun e_ he_ => ?_); refine g0_ ?_))
  refine ⟨_, (hp1).quiet, ?_⟩; (refine g0_ ?_; repeat ((first | refine n1_ fun b_ => ?_ | refine n2_ fun b_ => ?_ | refine Nat1.mk fun q_ hq_ => ?_ | refine em_ fun x_ hx_ => ?_ | refine Elem1.mk fun e_ he_ => ?_); refine g0_ ?_))
  (refine g1_ ?_; repeat ((first | refine n1_ fun b_ => ?_ | refine n2_ fun b_ => ?_ | refine Nat1.mk fun q_ hq_ => ?_ | refine em_ fun x_ hx_ => ?_ | refine Elem1.mk fun e_ he_ => ?_); refine g1_ ?_))
  exact ⟨(), trivial, rfl, by (first | exact ⟨_, .refl _⟩ | exact wkMem.rfl' | exact ⟨_, .swap _ _ _⟩ | (repeat (first | exact wkMem.nil _ | exact wkMem.rfl' | exact wk_snoc _ _ _ | exact wk_fam (by assumption) _ _ _ | exact wk_famN (by assumption) _ _ _ | (apply wkMem.cons; (case' hl => (repeat (first | exact .here _ _ _ | apply Look.there)))) | apply wkMem.skip)))⟩
theorem wantX_bad (b : Nat) (s : List UInt8) (p e : Nat) (its : Its) (hs : s.length ≤ 4000) (hp : p ≤ s.length) (c : UInt8) (h : expQ s p c = .error e) : ACalls Tryd.prog W 99 [.bref b 0, .str [c]] (xM b s p (-1) its) (Gives (fun _ : Unit => .tup []) (fun _ => xM b s s.length e its) (fun _ => True)) := by
  obtain ⟨h1, rfl⟩ := expQ_bad h
  have hp1 := hasPrefix_ok W (s.drop e) [c]
  rw [hp1_eq, decide_eq_false h1] at hp1
  have hf := failX_ok W b s e e its
  unfold xM at *
  refine acalls_of_vc (drawOk W) Tryd.func99 rfl (by decide) (by decide) rfl ?_
  (refine g0_ ?_; repeat ((first | refine n1_ fun b_ => ?_ | refine n2_ fun b_ => ?_ | refine Nat1.mk fun q_ hq_ => ?_ | refine em_ fun x_ hx_ => ?_ | refine Elem1.mk fun e_ he_ => ?_); refine g0_ ?_))
  refine head_ ?_; (refine g0_ ?_; repeat ((first | refine n1_ fun b_ => ?_ | refine n2_ fun b_ => ?_ | refine Nat1.mk fun q_ hq_ => ?_ | refine em_ fun x_ hx_ => ?_ | refine Elem1.mk fun e_ he_ => ?_); refine g0_ ?_))
  refine ⟨_, (hp1).quiet, ?_⟩; (refine g0_ ?_; repeat ((first | refine n1_ fun b_ => ?_ | refine n2_ fun b_ => ?_ | refine Nat1.mk fun q_ hq_ => ?_ | refine em_ fun x_ hx_ => ?_ | refine Elem1.mk fun e_ he_ => ?_); refine g0_ ?_))
  (refine g1_ ?_; repeat ((first | refine n1_ fun b_ => ?_ | refine n2_ fun b_ => ?_ | refine Nat1.mk fun q_ hq_ => ?_ | refine em_ fun x_ hx_ => ?_ | refine Elem1.mk fun e_ he_ => ?_); refine g1_ ?_))
  refine ACalls.lend hf (r := []) (.refl _) ?_
  rintro _ -
  (refine g0_ ?_; repeat ((first | refine n1_ fun b_ => ?_ | refine n2_ fun b_ => ?_ | refine Nat1.mk fun q_ hq_ => ?_ | refine em_ fun x_ hx_ => ?_ | refine Elem1.mk fun e_ he_ => ?_); refine g0_ ?_))
  exact ⟨(), trivial, rfl, by (first | exact ⟨_, .refl _⟩ | exact wkMem.rfl' | exact ⟨_, .swap _ _ _⟩ | (repeat (first | exact wkMem.nil _ | exact wkMem.rfl' | exact wk_snoc _ _ _ | exact wk_fam (by assumption) _ _ _ | exact wk_famN (by assumption) _ _ _ | (apply wkMem.cons; (case' hl => (repeat (first | exact .here _ _ _ | apply Look.there)))) | apply wkMem.skip)))⟩
theorem wordX_ok (b : Nat) (s : List UInt8) (i : Nat) (its : Its) (hs : s.length ≤ 4000) (hi : i ≤ s.length) : ACalls Tryd.prog W 119 [.bref b 0, .str lets] (xM b s i (-1) its) (Gives (fun _ : Unit => .str (nmQ s i)) (fun _ => xM b s (i + (nmQ s i).length) (-1) its) (fun _ => True)) := by
  have hat := tw_at ltr (s.drop i)
  have hsl := tw_slice ltr s i
  have hlen := nmQ_len s i hi
  have hdl : (s.drop i).length = s.length - i := List.length_drop
  change ∀ j, j ≤ (nmQ s i).length → (j < (nmQ s i).length → _) ∧ (j = (nmQ s i).length → _) at hat
  change (s.take (i + (nmQ s i).length)).drop i = nmQ s i at hsl
  have hix := fun c => indexQ_ok W lets c
  have hll := lets_ltr
  generalize nmQ s i = nm at *
  generalize lets = L at *
  unfold xM
  refine acalls_of_vc (drawOk W) Tryd.func119 rfl (by decide) (by decide) rfl ?_
  (refine g0_ ?_; repeat ((first | refine n1_ fun b_ => ?_ | refine n2_ fun b_ => ?_ | refine Nat1.mk fun q_ hq_ => ?_ | refine em_ fun x_ hx_ => ?_ | refine Elem1.mk fun e_ he_ => ?_); refine g0_ ?_))
  refine' loopI (α := Nat) (fun j => []) [(0, _), (1, _), (5, _)] (fun j => [⟨b, .row 4 [.agg [.str s, .int .i64 ((i + j : Nat) : Int), .int .i64 (-1), .sl 2 (its.map itV)]] 0⟩]) (fun j => j ≤ nm.length) (fun j => nm.length - j) 0 ?_ ?_
  · exact Nat.zero_le _
  rintro j hj
  obtain ⟨h1, h2⟩ := hat j hj
  by_cases hjl : j = nm.length
  · rcases h2 hjl with h3 | ⟨c, hc, hl⟩
    · clear h1 h2 hat
      have hje : i + j = s.length := by omega
      subst hjl
      (refine g0_ ?_; repeat ((first | refine n1_ fun b_ => ?_ | refine n2_ fun b_ => ?_ | refine Nat1.mk fun q_ hq_ => ?_ | refine em_ fun x_ hx_ => ?_ | refine Elem1.mk fun e_ he_ => ?_); refine g0_ ?_))
      refine head_ ?_; (refine g0_ ?_; repeat ((first | refine n1_ fun b_ => ?_ | refine n2_ fun b_ => ?_ | refine Nat1.mk fun q_ hq_ => ?_ | refine em_ fun x_ hx_ => ?_ | refine Elem1.mk fun e_ he_ => ?_); refine g0_ ?_))
      (refine g1_ ?_; repeat ((first | refine n1_ fun b_ => ?_ | refine n2_ fun b_ => ?_ | refine Nat1.mk fun q_ hq_ => ?_ | refine em_ fun x_ hx_ => ?_ | refine Elem1.mk fun e_ he_ => ?_); refine g1_ ?_))
      refine head_ ?_; (refine g0_ ?_; repeat ((first | refine n1_ fun b_ => ?_ | refine n2_ fun b_ => ?_ | refine Nat1.mk fun q_ hq_ => ?_ | refine em_ fun x_ hx_ => ?_ | refine Elem1.mk fun e_ he_ => ?_); refine g0_ ?_))
      (refine g0_ ?_; repeat ((first | refine n1_ fun b_ => ?_ | refine n2_ fun b_ => ?_ | refine Nat1.mk fun q_ hq_ => ?_ | refine em_ fun x_ hx_ => ?_ | refine Elem1.mk fun e_ he_ => ?_); refine g0_ ?_))
      exact ⟨(), trivial, by rw [hsl], by (first | exact ⟨_, .refl _⟩ | exact wkMem.rfl' | exact ⟨_, .swap _ _ _⟩ | (repeat (first | exact wkMem.nil _ | exact wkMem.rfl' | exact wk_snoc _ _ _ | exact wk_fam (by assumption) _ _ _ | exact wk_famN (by assumption) _ _ _ | (apply wkMem.cons; (case' hl => (repeat (first | exact .here _ _ _ | apply Look.there)))) | apply wkMem.skip)))⟩
    · clear h1 h2 hat
      rw [List.getElem?_drop] at hc
      have hlt := lt_of_at hc
      have hlc := hix c
      rw [index_out ((hll c).trans hl)] at hlc
      subst hjl
      (refine g0_ ?_; repeat ((first | refine n1_ fun b_ => ?_ | refine n2_ fun b_ => ?_ | refine Nat1.mk fun q_ hq_ => ?_ | refine em_ fun x_ hx_ => ?_ | refine Elem1.mk fun e_ he_ => ?_); refine g0_ ?_))
      refine head_ ?_; (refine g0_ ?_; repeat ((first | refine n1_ fun b_ => ?_ | refine n2_ fun b_ => ?_ | refine Nat1.mk fun q_ hq_ => ?_ | refine em_ fun x_ hx_ => ?_ | refine Elem1.mk fun e_ he_ => ?_); refine g0_ ?_))
      (refine g1_ ?_; repeat ((first | refine n1_ fun b_ => ?_ | refine n2_ fun b_ => ?_ | refine Nat1.mk fun q_ hq_ => ?_ | refine em_ fun x_ hx_ => ?_ | refine Elem1.mk fun e_ he_ => ?_); refine g1_ ?_))
      rw [hc] at he_
      obtain rfl := Option.some.inj he_
      refine ⟨_, (hlc).quiet, ?_⟩; (refine g0_ ?_; repeat ((first | refine n1_ fun b_ => ?_ | refine n2_ fun b_ => ?_ | refine Nat1.mk fun q_ hq_ => ?_ | refine em_ fun x_ hx_ => ?_ | refine Elem1.mk fun e_ he_ => ?_); refine g0_ ?_))
      (refine g1_ ?_; repeat ((first | refine n1_ fun b_ => ?_ | refine n2_ fun b_ => ?_ | refine Nat1.mk fun q_ hq_ => ?_ | refine em_ fun x_ hx_ => ?_ | refine Elem1.mk fun e_ he_ => ?_); refine g1_ ?_))
      refine head_ ?_; (refine g0_ ?_; repeat ((first | refine n1_ fun b_ => ?_ | refine n2_ fun b_ => ?_ | refine Nat1.mk fun q_ hq_ => ?_ | refine em_ fun x_ hx_ => ?_ | refine Elem1.mk fun e_ he_ => ?_); refine g0_ ?_))
      (refine g0_ ?_; repeat ((first | refine n1_ fun b_ => ?_ | refine n2_ fun b_ => ?_ | refine Nat1.mk fun q_ hq_ => ?_ | refine em_ fun x_ hx_ => ?_ | refine Elem1.mk fun e_ he_ => ?_); refine g0_ ?_))
      exact ⟨(), trivial, by rw [hsl], by (first | exact ⟨_, .refl _⟩ | exact wkMem.rfl' | exact ⟨_, .swap _ _ _⟩ | (repeat (first | exact wkMem.nil _ | exact wkMem.rfl' | exact wk_snoc _ _ _ | exact wk_fam (by assumption) _ _ _ | exact wk_famN (by assumption) _ _ _ | (apply wkMem.cons; (case' hl => (repeat (first | exact .here _ _ _ | apply Look.there)))) | apply wkMem.skip)))⟩
  · obtain ⟨c, hc, hl⟩ := h1 (by omega)
    clear h1 h2 hat
    rw [List.getElem?_drop] at hc
    have hlt := lt_of_at hc
    have hlc := hix c
    obtain ⟨n, hn⟩ := index_in ((hll c).trans hl)
    rw [hn] at hlc
    (refine g0_ ?_; repeat ((first | refine n1_ fun b_ => ?_ | refine n2_ fun b_ => ?_ | refine Nat1.mk fun q_ hq_ => ?_ | refine em_ fun x_ hx_ => ?_ | refine Elem1.mk fun e_ he_ => ?_); refine g0_ ?_))
    refine head_ ?_; (refine g0_ ?_; repeat ((first | refine n1_ fun b_ => ?_ | refine n2_ fun b_ => ?_ | refine Nat1.mk fun q_ hq_ => ?_ | refine em_ fun x_ hx_ => ?_ | refine Elem1.mk fun e_ he_ => ?_); refine g0_ ?_))
    (refine g1_ ?_; repeat ((first | refine n1_ fun b_ => ?_ | refine n2_ fun b_ => ?_ | refine Nat1.mk fun q_ hq_ => ?_ | refine em_ fun x_ hx_ => ?_ | refine Elem1.mk fun e_ he_ => ?_); refine g1_ ?_))
    rw [hc] at he_
    obtain rfl := Option.some.inj he_
    refine ⟨_, (hlc).quiet, ?_⟩; (refine g0_ ?_; repeat ((first | refine n1_ fun b_ => ?_ | refine n2_ fun b_ => ?_ | refine Nat1.mk fun q_ hq_ => ?_ | refine em_ fun x_ hx_ => ?_ | refine Elem1.mk fun e_ he_ => ?_); refine g0_ ?_))
    (refine g1_ ?_; repeat ((first | refine n1_ fun b_ => ?_ | refine n2_ fun b_ => ?_ | refine Nat1.mk fun q_ hq_ => ?_ | refine em_ fun x_ hx_ => ?_ | refine Elem1.mk fun e_ he_ => ?_); refine g1_ ?_))
    refine nx_ (j + 1) ?_ ?_
    · show j + 1 ≤ nm.length
      omega
    · ((try dsimp only); (try simp only [List.length_drop, List.length_take, List.length_append, List.length_cons, List.length_nil, List.length_map] at *); omega)
theorem valueX_bad (b : Nat) (s : List UInt8) (i e : Nat) (its : Its) (hs : s.length ≤ 4000) (hi : i ≤ s.length) (h : nameQ s i = .error e) : ACalls Tryd.prog W 98 [.bref b 0] (xM b s i (-1) its) (Gives (fun _ : Unit => .str []) (fun _ => xM b s s.length e its) (fun _ => True)) := by
  obtain ⟨rfl, hn⟩ := nameQ_bad h
  have hw := wordX_ok W b s e its hs hi
  rw [hn, List.length_nil, Nat.add_zero] at hw
  have hf := failX_ok W b s e e its
  unfold xM lets at *
  refine acalls_of_vc (drawOk W) Tryd.func98 rfl (by decide) (by decide) rfl ?_
  (refine g0_ ?_; repeat ((first | refine n1_ fun b_ => ?_ | refine n2_ fun b_ => ?_ | refine Nat1.mk fun q_ hq_ => ?_ | refine em_ fun x_ hx_ => ?_ | refine Elem1.mk fun e_ he_ => ?_); refine g0_ ?_))
  refine ACalls.lend hw (r := []) (.refl _) ?_
  rintro _ -
  (refine g0_ ?_; repeat ((first | refine n1_ fun b_ => ?_ | refine n2_ fun b_ => ?_ | refine Nat1.mk fun q_ hq_ => ?_ | refine em_ fun x_ hx_ => ?_ | refine Elem1.mk fun e_ he_ => ?_); refine g0_ ?_))
  (refine g1_ ?_; repeat ((first | refine n1_ fun b_ => ?_ | refine n2_ fun b_ => ?_ | refine Nat1.mk fun q_ hq_ => ?_ | refine em_ fun x_ hx_ => ?_ | refine Elem1.mk fun e_ he_ => ?_); refine g1_ ?_))
  refine ACalls.lend hf (r := []) (.refl _) ?_
  rintro _ -
  (refine g0_ ?_; repeat ((first | refine n1_ fun b_ => ?_ | refine n2_ fun b_ => ?_ | refine Nat1.mk fun q_ hq_ => ?_ | refine em_ fun x_ hx_ => ?_ | refine Elem1.mk fun e_ he_ => ?_); refine g0_ ?_))
  exact ⟨(), trivial, rfl, by (first | exact ⟨_, .refl _⟩ | exact wkMem.rfl' | exact ⟨_, .swap _ _ _⟩ | (repeat (first | exact wkMem.nil _ | exact wkMem.rfl' | exact wk_snoc _ _ _ | exact wk_fam (by assumption) _ _ _ | exact wk_famN (by assumption) _ _ _ | (apply wkMem.cons; (case' hl => (repeat (first | exact .here _ _ _ | apply Look.there)))) | apply wkMem.skip)))⟩
theorem valueX_ok (b : Nat) (s n : List UInt8) (i m : Nat) (its : Its) (hits : its.length ≤ 1000) (hs : s.length ≤ 4000) (hi : i ≤ s.length) (h : nameQ s i = .ok (n, m)) : ACalls Tryd.prog W 98 [.bref b 0] (xM b s i (-1) its) (Gives (fun _ : Unit => .str (valQ its n)) (fun _ => xM b s m (-1) its) (fun _ => True)) := by
  obtain ⟨a1, a2, rfl, rfl, hn⟩ := nameQ_ok hi h
  have hw := wordX_ok W b s i its hs hi
  have hlm : (its.map itV).length = its.length := List.length_map _
  generalize nmQ s i = n at *
  generalize i + n.length = m at *
  unfold xM lets at *
  refine acalls_of_vc (drawOk W) Tryd.func98 rfl (by decide) (by decide) rfl ?_
  (refine g0_ ?_; repeat ((first | refine n1_ fun b_ => ?_ | refine n2_ fun b_ => ?_ | refine Nat1.mk fun q_ hq_ => ?_ | refine em_ fun x_ hx_ => ?_ | refine Elem1.mk fun e_ he_ => ?_); refine g0_ ?_))
  refine ACalls.lend hw (r := []) (.refl _) ?_
  rintro _ -
  (refine g0_ ?_; repeat ((first | refine n1_ fun b_ => ?_ | refine n2_ fun b_ => ?_ | refine Nat1.mk fun q_ hq_ => ?_ | refine em_ fun x_ hx_ => ?_ | refine Elem1.mk fun e_ he_ => ?_); refine g0_ ?_))
  (refine g1_ ?_; repeat ((first | refine n1_ fun b_ => ?_ | refine n2_ fun b_ => ?_ | refine Nat1.mk fun q_ hq_ => ?_ | refine em_ fun x_ hx_ => ?_ | refine Elem1.mk fun e_ he_ => ?_); refine g1_ ?_))
  refine' loopI (α := Nat) (fun j => [(23, .int .i64 j)]) [(4, _), (21, _), (22, _)] (fun j => [⟨b, .row 4 [.agg [.str s, .int .i64 m, .int .i64 (-1), .sl 2 (its.map itV)]] 0⟩]) (fun j => j ≤ its.length ∧ valQ its n = valQ (its.drop j) n) (fun j => its.length - j) 0 ?_ ?_
  · exact ⟨Nat.zero_le _, rfl⟩
  rintro j ⟨hj, hv⟩
  by_cases hjl : j = its.length
  · subst hjl
    rw [List.drop_length, valQ] at hv
    (refine g0_ ?_; repeat ((first | refine n1_ fun b_ => ?_ | refine n2_ fun b_ => ?_ | refine Nat1.mk fun q_ hq_ => ?_ | refine em_ fun x_ hx_ => ?_ | refine Elem1.mk fun e_ he_ => ?_); refine g0_ ?_))
    (refine g1_ ?_; repeat ((first | refine n1_ fun b_ => ?_ | refine n2_ fun b_ => ?_ | refine Nat1.mk fun q_ hq_ => ?_ | refine em_ fun x_ hx_ => ?_ | refine Elem1.mk fun e_ he_ => ?_); refine g1_ ?_))
    exact ⟨(), trivial, by rw [hv], by (first | exact ⟨_, .refl _⟩ | exact wkMem.rfl' | exact ⟨_, .swap _ _ _⟩ | (repeat (first | exact wkMem.nil _ | exact wkMem.rfl' | exact wk_snoc _ _ _ | exact wk_fam (by assumption) _ _ _ | exact wk_famN (by assumption) _ _ _ | (apply wkMem.cons; (case' hl => (repeat (first | exact .here _ _ _ | apply Look.there)))) | apply wkMem.skip)))⟩
  · have hlt : j < its.length := by omega
    obtain ⟨x, hx⟩ : ∃ x, its[j]? = some x := ⟨_, List.getElem?_eq_getElem hlt⟩
    rw [drop_cons_of hx, valQ] at hv
    obtain ⟨x1, x2⟩ := x
    dsimp only at hv
    by_cases hxn : x1 = n
    · rw [if_pos hxn] at hv
      (refine g0_ ?_; repeat ((first | refine n1_ fun b_ => ?_ | refine n2_ fun b_ => ?_ | refine Nat1.mk fun q_ hq_ => ?_ | refine em_ fun x_ hx_ => ?_ | refine Elem1.mk fun e_ he_ => ?_); refine g0_ ?_))
      (refine g1_ ?_; repeat ((first | refine n1_ fun b_ => ?_ | refine n2_ fun b_ => ?_ | refine Nat1.mk fun q_ hq_ => ?_ | refine em_ fun x_ hx_ => ?_ | refine Elem1.mk fun e_ he_ => ?_); refine g1_ ?_))
      exact ⟨(), trivial, by rw [hv], by (first | exact ⟨_, .refl _⟩ | exact wkMem.rfl' | exact ⟨_, .swap _ _ _⟩ | (repeat (first | exact wkMem.nil _ | exact wkMem.rfl' | exact wk_snoc _ _ _ | exact wk_fam (by assumption) _ _ _ | exact wk_famN (by assumption) _ _ _ | (apply wkMem.cons; (case' hl => (repeat (first | exact .here _ _ _ | apply Look.there)))) | apply wkMem.skip)))⟩
    · rw [if_neg hxn] at hv
      (refine g0_ ?_; repeat ((first | refine n1_ fun b_ => ?_ | refine n2_ fun b_ => ?_ | refine Nat1.mk fun q_ hq_ => ?_ | refine em_ fun x_ hx_ => ?_ | refine Elem1.mk fun e_ he_ => ?_); refine g0_ ?_))
      (refine g1_ ?_; repeat ((first | refine n1_ fun b_ => ?_ | refine n2_ fun b_ => ?_ | refine Nat1.mk fun q_ hq_ => ?_ | refine em_ fun x_ hx_ => ?_ | refine Elem1.mk fun e_ he_ => ?_); refine g1_ ?_))
      refine nx_ (j + 1) ?_ ?_
      · exact ⟨hlt, hv⟩
      · ((try dsimp only); (try simp only [List.length_drop, List.length_take, List.length_append, List.length_cons, List.length_nil, List.length_map] at *); omega)
end Go.Eng.YtkenlcaifhffoaaDoor
end

/- Formats: the document's text and item (b_ x_ q_ e_). -/
section
namespace Go.Eng.YtkenlcaifhffoaaDoor
open Go Go.Eng Go.Proofs Go.RowKit
variable (W : World)
set_option linter.unusedSimpArgs false
set_option maxRecDepth 100000
set_option linter.unusedVariables false
set_option maxHeartbeats 4000000
/-- How the document's reader stands when something was read, or not. -/
def docM (b : Nat) (s : List UInt8) (its : Its) (r : Except Nat (List UInt8 × Nat)) : Mem := match r with
  | .ok (_, m) => xM b s m (-1) its
  | .error e => xM b s s.length e its
def docR (s : List UInt8) (i : Nat) (r : Except Nat (List UInt8 × Nat)) (o : List UInt8) : Prop := match r with
  | .ok (x, _) => o = x
  | .error _ => o.length ≤ 4000 * (s.length - i)
/-- What the document's functions do, from p on. -/
def DocQ (f : FuncId) (args : List PV) (b : Nat) (s : List UInt8) (its : Its) (p i : Nat) (r : Except Nat (List UInt8 × Nat)) : Prop :=
  ACalls Tryd.prog W f args (xM b s p (-1) its) (Gives (fun o : List UInt8 => .str o) (fun _ => docM b s its r) (docR s i r))
theorem dtext_skip (b : Nat) (s : List UInt8) (p e : Nat) (its : Its) (stop : List UInt8) (deep : Int) : ACalls Tryd.prog W 23 [.bref b 0, .str stop, .int .i64 deep] (xM b s p e its) (Gives (fun _ : Unit => .str []) (fun _ => xM b s p e its) (fun _ => True)) := by
  unfold xM
  refine acalls_of_vc (drawOk W) Tryd.func23 rfl (by decide) (by decide) rfl ?_
  (refine g0_ ?_; repeat ((first | refine n1_ fun b_ => ?_ | refine n2_ fun b_ => ?_ | refine Nat1.mk fun q_ hq_ => ?_ | refine em_ fun x_ hx_ => ?_ | refine Elem1.mk fun e_ he_ => ?_); refine g0_ ?_))
  refine' loopI (α := Nat) (fun j => [(7, .str [])]) [(0, _), (1, _), (2, _)] (fun j => [⟨b, .row 4 [.agg [.str s, .int .i64 p, .int .i64 e, .sl 2 (its.map itV)]] 0⟩]) (fun j => j = 0) (fun j => 0) 0 ?_ ?_
  · rfl
  rintro j rfl
  (refine g0_ ?_; repeat ((first | refine n1_ fun b_ => ?_ | refine n2_ fun b_ => ?_ | refine Nat1.mk fun q_ hq_ => ?_ | refine em_ fun x_ hx_ => ?_ | refine Elem1.mk fun e_ he_ => ?_); refine g0_ ?_))
  refine head_ ?_; (refine g0_ ?_; repeat ((first | refine n1_ fun b_ => ?_ | refine n2_ fun b_ => ?_ | refine Nat1.mk fun q_ hq_ => ?_ | refine em_ fun x_ hx_ => ?_ | refine Elem1.mk fun e_ he_ => ?_); refine g0_ ?_))
  (refine g1_ ?_; repeat ((first | refine n1_ fun b_ => ?_ | refine n2_ fun b_ => ?_ | refine Nat1.mk fun q_ hq_ => ?_ | refine em_ fun x_ hx_ => ?_ | refine Elem1.mk fun e_ he_ => ?_); refine g1_ ?_))
  exact ⟨(), trivial, rfl, by (first | exact ⟨_, .refl _⟩ | exact wkMem.rfl' | exact ⟨_, .swap _ _ _⟩ | (repeat (first | exact wkMem.nil _ | exact wkMem.rfl' | exact wk_snoc _ _ _ | exact wk_fam (by assumption) _ _ _ | exact wk_famN (by assumption) _ _ _ | (apply wkMem.cons; (case' hl => (repeat (first | exact .here _ _ _ | apply Look.there)))) | apply wkMem.skip)))⟩
theorem dtext_ok (b : Nat) (s : List UInt8) (its : Its) (hs : s.length ≤ 4000) (stop : List UInt8) (deep : Int) (hd : 0 ≤ deep ∧ deep ≤ 8) (f : Nat → Except Nat (List UInt8 × Nat))
    (hf : (deep = 8 ∧ ∀ i, f i = .error i) ∨ (deep ≠ 8 ∧ ∀ i, i + 2 ≤ s.length → DocQ W 62 [.bref b 0, .int .i64 (deep + 1)] b s its (i + 2) i (f i))) (hsm : ∀ i, i + 2 ≤ s.length → SmallQ s (i + 1) i (f i)) (i : Nat) (hi : i ≤ s.length) (res : Except Nat (List UInt8 × Nat)) (hr : untilQ s stop f (s.length + 1) i [] = res) :
    DocQ W 23 [.bref b 0, .str stop, .int .i64 deep] b s its i i res := by
  unfold DocQ
  unfold xM
  refine acalls_of_vc (drawOk W) Tryd.func23 rfl (by decide) (by decide) rfl ?_
  (refine g0_ ?_; repeat ((first | refine n1_ fun b_ => ?_ | refine n2_ fun b_ => ?_ | refine Nat1.mk fun q_ hq_ => ?_ | refine em_ fun x_ hx_ => ?_ | refine Elem1.mk fun e_ he_ => ?_); refine g0_ ?_))
  refine' loopI (α := Nat × Int × (List UInt8) × Nat) (fun (p, bad, w, k) => [(7, .str w)]) [(0, _), (1, _), (2, _)] (fun (p, bad, w, k) => [⟨b, .row 4 [.agg [.str s, .int .i64 p, .int .i64 bad, .sl 2 (its.map itV)]] 0⟩]) (fun (p, bad, w, k) => (bad = -1 ∧ p ≤ s.length ∧ i ≤ p ∧ w.length ≤ 4000 * (p - i) ∧ untilQ s stop f k p w = res ∧ s.length < k + p) ∨ (∃ e : Nat, bad = e ∧ p = s.length ∧ res = .error e ∧ w.length ≤ 4000 * (s.length - i) ∧ k = 0)) (fun (p, bad, w, k) => k) (i, -1, [], s.length + 1) ?_ ?_
  · exact .inl ⟨rfl, hi, Nat.le_refl _, Nat.zero_le _, hr, by show s.length < s.length + 1 + i; omega⟩
  rintro ⟨p, bad, w, k⟩ (⟨rfl, hp, hip, hw, hres, hk⟩ | ⟨e, rfl, rfl, rfl, hw, rfl⟩)
  case inr =>
    (refine g0_ ?_; repeat ((first | refine n1_ fun b_ => ?_ | refine n2_ fun b_ => ?_ | refine Nat1.mk fun q_ hq_ => ?_ | refine em_ fun x_ hx_ => ?_ | refine Elem1.mk fun e_ he_ => ?_); refine g0_ ?_))
    refine head_ ?_; (refine g0_ ?_; repeat ((first | refine n1_ fun b_ => ?_ | refine n2_ fun b_ => ?_ | refine Nat1.mk fun q_ hq_ => ?_ | refine em_ fun x_ hx_ => ?_ | refine Elem1.mk fun e_ he_ => ?_); refine g0_ ?_))
    (refine g1_ ?_; repeat ((first | refine n1_ fun b_ => ?_ | refine n2_ fun b_ => ?_ | refine Nat1.mk fun q_ hq_ => ?_ | refine em_ fun x_ hx_ => ?_ | refine Elem1.mk fun e_ he_ => ?_); refine g1_ ?_))
    exact ⟨w, hw, rfl, by (first | exact ⟨_, .refl _⟩ | exact wkMem.rfl' | exact ⟨_, .swap _ _ _⟩ | (repeat (first | exact wkMem.nil _ | exact wkMem.rfl' | exact wk_snoc _ _ _ | exact wk_fam (by assumption) _ _ _ | exact wk_famN (by assumption) _ _ _ | (apply wkMem.cons; (case' hl => (repeat (first | exact .here _ _ _ | apply Look.there)))) | apply wkMem.skip)))⟩
  obtain ⟨k, rfl⟩ : ∃ k', k = k' + 1 := ⟨k - 1, by omega⟩
  rw [untilQ] at hres
  cases hc : s[p]? with
  | none =>
    rw [hc] at hres
    dsimp only at hres
    subst hres
    have hpe : p = s.length := by
      have := List.getElem?_eq_none_iff.1 hc
      omega
    (refine g0_ ?_; repeat ((first | refine n1_ fun b_ => ?_ | refine n2_ fun b_ => ?_ | refine Nat1.mk fun q_ hq_ => ?_ | refine em_ fun x_ hx_ => ?_ | refine Elem1.mk fun e_ he_ => ?_); refine g0_ ?_))
    refine head_ ?_; (refine g0_ ?_; repeat ((first | refine n1_ fun b_ => ?_ | refine n2_ fun b_ => ?_ | refine Nat1.mk fun q_ hq_ => ?_ | refine em_ fun x_ hx_ => ?_ | refine Elem1.mk fun e_ he_ => ?_); refine g0_ ?_))
    (refine g1_ ?_; repeat ((first | refine n1_ fun b_ => ?_ | refine n2_ fun b_ => ?_ | refine Nat1.mk fun q_ hq_ => ?_ | refine em_ fun x_ hx_ => ?_ | refine Elem1.mk fun e_ he_ => ?_); refine g1_ ?_))
    exact ⟨w, rfl, rfl, by (first | exact ⟨_, .refl _⟩ | exact wkMem.rfl' | exact ⟨_, .swap _ _ _⟩ | (repeat (first | exact wkMem.nil _ | exact wkMem.rfl' | exact wk_snoc _ _ _ | exact wk_fam (by assumption) _ _ _ | exact wk_famN (by assumption) _ _ _ | (apply wkMem.cons; (case' hl => (repeat (first | exact .here _ _ _ | apply Look.there)))) | apply wkMem.skip)))⟩
  | some c =>
    have hpl := lt_of_at hc
    have hix := indexQ_ok W stop c
    rw [hc] at hres
    dsimp only at hres
    by_cases he : stop.contains c = true
    · rw [if_pos he] at hres
      subst hres
      obtain ⟨n, hn⟩ := index_in he
      rw [hn] at hix
      (refine g0_ ?_; repeat ((first | refine n1_ fun b_ => ?_ | refine n2_ fun b_ => ?_ | refine Nat1.mk fun q_ hq_ => ?_ | refine em_ fun x_ hx_ => ?_ | refine Elem1.mk fun e_ he_ => ?_); refine g0_ ?_))
      refine head_ ?_; (refine g0_ ?_; repeat ((first | refine n1_ fun b_ => ?_ | refine n2_ fun b_ => ?_ | refine Nat1.mk fun q_ hq_ => ?_ | refine em_ fun x_ hx_ => ?_ | refine Elem1.mk fun e_ he_ => ?_); refine g0_ ?_))
      (refine g1_ ?_; repeat ((first | refine n1_ fun b_ => ?_ | refine n2_ fun b_ => ?_ | refine Nat1.mk fun q_ hq_ => ?_ | refine em_ fun x_ hx_ => ?_ | refine Elem1.mk fun e_ he_ => ?_); refine g1_ ?_))
      rw [hc] at he_
      obtain rfl := Option.some.inj he_
      refine ⟨_, (hix).quiet, ?_⟩; (refine g0_ ?_; repeat ((first | refine n1_ fun b_ => ?_ | refine n2_ fun b_ => ?_ | refine Nat1.mk fun q_ hq_ => ?_ | refine em_ fun x_ hx_ => ?_ | refine Elem1.mk fun e_ he_ => ?_); refine g0_ ?_))
      (refine g1_ ?_; repeat ((first | refine n1_ fun b_ => ?_ | refine n2_ fun b_ => ?_ | refine Nat1.mk fun q_ hq_ => ?_ | refine em_ fun x_ hx_ => ?_ | refine Elem1.mk fun e_ he_ => ?_); refine g1_ ?_))
      exact ⟨w, rfl, rfl, by (first | exact ⟨_, .refl _⟩ | exact wkMem.rfl' | exact ⟨_, .swap _ _ _⟩ | (repeat (first | exact wkMem.nil _ | exact wkMem.rfl' | exact wk_snoc _ _ _ | exact wk_fam (by assumption) _ _ _ | exact wk_famN (by assumption) _ _ _ | (apply wkMem.cons; (case' hl => (repeat (first | exact .here _ _ _ | apply Look.there)))) | apply wkMem.skip)))⟩
    rw [if_neg he] at hres
    rw [Bool.not_eq_true] at he
    rw [index_out he] at hix
    have hp1 := hasPrefix_ok W (s.drop p) [35, 123]
    rw [hp2_eq, hc] at hp1
    have hp2 := hasPrefix_ok W (s.drop p) [35, 35]
    rw [hp2_eq, hc] at hp2
    by_cases h1 : c = 35 ∧ s[p + 1]? = some 123
    · rw [if_pos h1] at hres
      have hl2 := lt_of_at h1.2
      rw [decide_eq_true ⟨by rw [h1.1], h1.2⟩] at hp1
      have hst := hsm p (by omega)
      rcases hf with ⟨h8, hf⟩ | ⟨h8, hf⟩
      · rw [hf p] at hres
        dsimp only at hres
        subst hres h8
        have hfl := failX_ok W b s p p its
        unfold xM at hfl
        (refine g0_ ?_; repeat ((first | refine n1_ fun b_ => ?_ | refine n2_ fun b_ => ?_ | refine Nat1.mk fun q_ hq_ => ?_ | refine em_ fun x_ hx_ => ?_ | refine Elem1.mk fun e_ he_ => ?_); refine g0_ ?_))
        refine head_ ?_; (refine g0_ ?_; repeat ((first | refine n1_ fun b_ => ?_ | refine n2_ fun b_ => ?_ | refine Nat1.mk fun q_ hq_ => ?_ | refine em_ fun x_ hx_ => ?_ | refine Elem1.mk fun e_ he_ => ?_); refine g0_ ?_))
        (refine g1_ ?_; repeat ((first | refine n1_ fun b_ => ?_ | refine n2_ fun b_ => ?_ | refine Nat1.mk fun q_ hq_ => ?_ | refine em_ fun x_ hx_ => ?_ | refine Elem1.mk fun e_ he_ => ?_); refine g1_ ?_))
        rw [hc] at he_
        obtain rfl := Option.some.inj he_
        refine ⟨_, (hix).quiet, ?_⟩; (refine g0_ ?_; repeat ((first | refine n1_ fun b_ => ?_ | refine n2_ fun b_ => ?_ | refine Nat1.mk fun q_ hq_ => ?_ | refine em_ fun x_ hx_ => ?_ | refine Elem1.mk fun e_ he_ => ?_); refine g0_ ?_))
        (refine g1_ ?_; repeat ((first | refine n1_ fun b_ => ?_ | refine n2_ fun b_ => ?_ | refine Nat1.mk fun q_ hq_ => ?_ | refine em_ fun x_ hx_ => ?_ | refine Elem1.mk fun e_ he_ => ?_); refine g1_ ?_))
        refine head_ ?_; (refine g0_ ?_; repeat ((first | refine n1_ fun b_ => ?_ | refine n2_ fun b_ => ?_ | refine Nat1.mk fun q_ hq_ => ?_ | refine em_ fun x_ hx_ => ?_ | refine Elem1.mk fun e_ he_ => ?_); refine g0_ ?_))
        refine (hp1).use ?_; (refine g0_ ?_; repeat ((first | refine n1_ fun b_ => ?_ | refine n2_ fun b_ => ?_ | refine Nat1.mk fun q_ hq_ => ?_ | refine em_ fun x_ hx_ => ?_ | refine Elem1.mk fun e_ he_ => ?_); refine g0_ ?_))
        (refine g1_ ?_; repeat ((first | refine n1_ fun b_ => ?_ | refine n2_ fun b_ => ?_ | refine Nat1.mk fun q_ hq_ => ?_ | refine em_ fun x_ hx_ => ?_ | refine Elem1.mk fun e_ he_ => ?_); refine g1_ ?_))
        refine ACalls.lend hfl (r := []) (.refl _) ?_
        rintro _ -
        (refine g0_ ?_; repeat ((first | refine n1_ fun b_ => ?_ | refine n2_ fun b_ => ?_ | refine Nat1.mk fun q_ hq_ => ?_ | refine em_ fun x_ hx_ => ?_ | refine Elem1.mk fun e_ he_ => ?_); refine g0_ ?_))
        exact ⟨[], Nat.zero_le _, rfl, by (first | exact ⟨_, .refl _⟩ | exact wkMem.rfl' | exact ⟨_, .swap _ _ _⟩ | (repeat (first | exact wkMem.nil _ | exact wkMem.rfl' | exact wk_snoc _ _ _ | exact wk_fam (by assumption) _ _ _ | exact wk_famN (by assumption) _ _ _ | (apply wkMem.cons; (case' hl => (repeat (first | exact .here _ _ _ | apply Look.there)))) | apply wkMem.skip)))⟩
      · have hft := hf p (by omega)
        unfold DocQ xM at hft
        (refine g0_ ?_; repeat ((first | refine n1_ fun b_ => ?_ | refine n2_ fun b_ => ?_ | refine Nat1.mk fun q_ hq_ => ?_ | refine em_ fun x_ hx_ => ?_ | refine Elem1.mk fun e_ he_ => ?_); refine g0_ ?_))
        refine head_ ?_; (refine g0_ ?_; repeat ((first | refine n1_ fun b_ => ?_ | refine n2_ fun b_ => ?_ | refine Nat1.mk fun q_ hq_ => ?_ | refine em_ fun x_ hx_ => ?_ | refine Elem1.mk fun e_ he_ => ?_); refine g0_ ?_))
        (refine g1_ ?_; repeat ((first | refine n1_ fun b_ => ?_ | refine n2_ fun b_ => ?_ | refine Nat1.mk fun q_ hq_ => ?_ | refine em_ fun x_ hx_ => ?_ | refine Elem1.mk fun e_ he_ => ?_); refine g1_ ?_))
        rw [hc] at he_
        obtain rfl := Option.some.inj he_
        refine ⟨_, (hix).quiet, ?_⟩; (refine g0_ ?_; repeat ((first | refine n1_ fun b_ => ?_ | refine n2_ fun b_ => ?_ | refine Nat1.mk fun q_ hq_ => ?_ | refine em_ fun x_ hx_ => ?_ | refine Elem1.mk fun e_ he_ => ?_); refine g0_ ?_))
        (refine g1_ ?_; repeat ((first | refine n1_ fun b_ => ?_ | refine n2_ fun b_ => ?_ | refine Nat1.mk fun q_ hq_ => ?_ | refine em_ fun x_ hx_ => ?_ | refine Elem1.mk fun e_ he_ => ?_); refine g1_ ?_))
        refine head_ ?_; (refine g0_ ?_; repeat ((first | refine n1_ fun b_ => ?_ | refine n2_ fun b_ => ?_ | refine Nat1.mk fun q_ hq_ => ?_ | refine em_ fun x_ hx_ => ?_ | refine Elem1.mk fun e_ he_ => ?_); refine g0_ ?_))
        refine (hp1).use ?_; (refine g0_ ?_; repeat ((first | refine n1_ fun b_ => ?_ | refine n2_ fun b_ => ?_ | refine Nat1.mk fun q_ hq_ => ?_ | refine em_ fun x_ hx_ => ?_ | refine Elem1.mk fun e_ he_ => ?_); refine g0_ ?_))
        (refine g1_ ?_; repeat ((first | refine n1_ fun b_ => ?_ | refine n2_ fun b_ => ?_ | refine Nat1.mk fun q_ hq_ => ?_ | refine em_ fun x_ hx_ => ?_ | refine Elem1.mk fun e_ he_ => ?_); refine g1_ ?_))
        refine ACalls.lend hft (r := []) (.refl _) ?_
        rintro o ho
        cases hfp : f p with
        | error e =>
          rw [hfp] at hres ho
          dsimp only at hres
          subst hres
          replace ho : o.length ≤ 4000 * (s.length - p) := ho
          unfold docM xM
          (refine g0_ ?_; repeat ((first | refine n1_ fun b_ => ?_ | refine n2_ fun b_ => ?_ | refine Nat1.mk fun q_ hq_ => ?_ | refine em_ fun x_ hx_ => ?_ | refine Elem1.mk fun e_ he_ => ?_); refine g0_ ?_))
          refine nx_ (s.length, e, w ++ o, 0) ?_ ?_
          · refine .inr ⟨e, rfl, rfl, rfl, ?_, rfl⟩
            rw [List.length_append]
            omega
          · ((try dsimp only); (try simp only [List.length_drop, List.length_take, List.length_append, List.length_cons, List.length_nil, List.length_map] at *); omega)
        | ok y =>
          obtain ⟨x, m⟩ := y
          rw [hfp] at hres ho hst
          dsimp only at hres
          obtain rfl : o = x := ho
          obtain ⟨g1, g2, g3⟩ := hst
          unfold docM xM
          (refine g0_ ?_; repeat ((first | refine n1_ fun b_ => ?_ | refine n2_ fun b_ => ?_ | refine Nat1.mk fun q_ hq_ => ?_ | refine em_ fun x_ hx_ => ?_ | refine Elem1.mk fun e_ he_ => ?_); refine g0_ ?_))
          refine nx_ (m, -1, w ++ o, k) ?_ ?_
          · refine .inl ⟨rfl, g2, by omega, ?_, hres, by omega⟩
            rw [List.length_append]
            omega
          · ((try dsimp only); (try simp only [List.length_drop, List.length_take, List.length_append, List.length_cons, List.length_nil, List.length_map] at *); omega)
    rw [if_neg h1] at hres
    rw [decide_eq_false (fun h => h1 ⟨Option.some.inj h.1, h.2⟩)] at hp1
    by_cases h2 : c = 35 ∧ s[p + 1]? = some 35
    · rw [if_pos h2] at hres
      have hl2 := lt_of_at h2.2
      rw [decide_eq_true ⟨by rw [h2.1], h2.2⟩] at hp2
      (refine g0_ ?_; repeat ((first | refine n1_ fun b_ => ?_ | refine n2_ fun b_ => ?_ | refine Nat1.mk fun q_ hq_ => ?_ | refine em_ fun x_ hx_ => ?_ | refine Elem1.mk fun e_ he_ => ?_); refine g0_ ?_))
      refine head_ ?_; (refine g0_ ?_; repeat ((first | refine n1_ fun b_ => ?_ | refine n2_ fun b_ => ?_ | refine Nat1.mk fun q_ hq_ => ?_ | refine em_ fun x_ hx_ => ?_ | refine Elem1.mk fun e_ he_ => ?_); refine g0_ ?_))
      (refine g1_ ?_; repeat ((first | refine n1_ fun b_ => ?_ | refine n2_ fun b_ => ?_ | refine Nat1.mk fun q_ hq_ => ?_ | refine em_ fun x_ hx_ => ?_ | refine Elem1.mk fun e_ he_ => ?_); refine g1_ ?_))
      rw [hc] at he_
      obtain rfl := Option.some.inj he_
      refine ⟨_, (hix).quiet, ?_⟩; (refine g0_ ?_; repeat ((first | refine n1_ fun b_ => ?_ | refine n2_ fun b_ => ?_ | refine Nat1.mk fun q_ hq_ => ?_ | refine em_ fun x_ hx_ => ?_ | refine Elem1.mk fun e_ he_ => ?_); refine g0_ ?_))
      (refine g1_ ?_; repeat ((first | refine n1_ fun b_ => ?_ | refine n2_ fun b_ => ?_ | refine Nat1.mk fun q_ hq_ => ?_ | refine em_ fun x_ hx_ => ?_ | refine Elem1.mk fun e_ he_ => ?_); refine g1_ ?_))
      refine head_ ?_; (refine g0_ ?_; repeat ((first | refine n1_ fun b_ => ?_ | refine n2_ fun b_ => ?_ | refine Nat1.mk fun q_ hq_ => ?_ | refine em_ fun x_ hx_ => ?_ | refine Elem1.mk fun e_ he_ => ?_); refine g0_ ?_))
      refine (hp1).use ?_; (refine g0_ ?_; repeat ((first | refine n1_ fun b_ => ?_ | refine n2_ fun b_ => ?_ | refine Nat1.mk fun q_ hq_ => ?_ | refine em_ fun x_ hx_ => ?_ | refine Elem1.mk fun e_ he_ => ?_); refine g0_ ?_))
      (refine g1_ ?_; repeat ((first | refine n1_ fun b_ => ?_ | refine n2_ fun b_ => ?_ | refine Nat1.mk fun q_ hq_ => ?_ | refine em_ fun x_ hx_ => ?_ | refine Elem1.mk fun e_ he_ => ?_); refine g1_ ?_))
      refine (hp2).use ?_; (refine g0_ ?_; repeat ((first | refine n1_ fun b_ => ?_ | refine n2_ fun b_ => ?_ | refine Nat1.mk fun q_ hq_ => ?_ | refine em_ fun x_ hx_ => ?_ | refine Elem1.mk fun e_ he_ => ?_); refine g0_ ?_))
      (refine g1_ ?_; repeat ((first | refine n1_ fun b_ => ?_ | refine n2_ fun b_ => ?_ | refine Nat1.mk fun q_ hq_ => ?_ | refine em_ fun x_ hx_ => ?_ | refine Elem1.mk fun e_ he_ => ?_); refine g1_ ?_))
      refine nx_ (p + 2, -1, w ++ [35], k) ?_ ?_
      · refine .inl ⟨rfl, by omega, by omega, ?_, hres, by omega⟩
        simp only [List.length_append, List.length_cons, List.length_nil]
        omega
      · ((try dsimp only); (try simp only [List.length_drop, List.length_take, List.length_append, List.length_cons, List.length_nil, List.length_map] at *); omega)
    · rw [if_neg h2] at hres
      rw [decide_eq_false (fun h => h2 ⟨Option.some.inj h.1, h.2⟩)] at hp2
      (refine g0_ ?_; repeat ((first | refine n1_ fun b_ => ?_ | refine n2_ fun b_ => ?_ | refine Nat1.mk fun q_ hq_ => ?_ | refine em_ fun x_ hx_ => ?_ | refine Elem1.mk fun e_ he_ => ?_); refine g0_ ?_))
      refine head_ ?_; (refine g0_ ?_; repeat ((first | refine n1_ fun b_ => ?_ | refine n2_ fun b_ => ?_ | refine Nat1.mk fun q_ hq_ => ?_ | refine em_ fun x_ hx_ => ?_ | refine Elem1.mk fun e_ he_ => ?_); refine g0_ ?_))
      (refine g1_ ?_; repeat ((first | refine n1_ fun b_ => ?_ | refine n2_ fun b_ => ?_ | refine Nat1.mk fun q_ hq_ => ?_ | refine em_ fun x_ hx_ => ?_ | refine Elem1.mk fun e_ he_ => ?_); refine g1_ ?_))
      rw [hc] at he_
      obtain rfl := Option.some.inj he_
      refine ⟨_, (hix).quiet, ?_⟩; (refine g0_ ?_; repeat ((first | refine n1_ fun b_ => ?_ | refine n2_ fun b_ => ?_ | refine Nat1.mk fun q_ hq_ => ?_ | refine em_ fun x_ hx_ => ?_ | refine Elem1.mk fun e_ he_ => ?_); refine g0_ ?_))
      (refine g1_ ?_; repeat ((first | refine n1_ fun b_ => ?_ | refine n2_ fun b_ => ?_ | refine Nat1.mk fun q_ hq_ => ?_ | refine em_ fun x_ hx_ => ?_ | refine Elem1.mk fun e_ he_ => ?_); refine g1_ ?_))
      refine head_ ?_; (refine g0_ ?_; repeat ((first | refine n1_ fun b_ => ?_ | refine n2_ fun b_ => ?_ | refine Nat1.mk fun q_ hq_ => ?_ | refine em_ fun x_ hx_ => ?_ | refine Elem1.mk fun e_ he_ => ?_); refine g0_ ?_))
      refine (hp1).use ?_; (refine g0_ ?_; repeat ((first | refine n1_ fun b_ => ?_ | refine n2_ fun b_ => ?_ | refine Nat1.mk fun q_ hq_ => ?_ | refine em_ fun x_ hx_ => ?_ | refine Elem1.mk fun e_ he_ => ?_); refine g0_ ?_))
      (refine g1_ ?_; repeat ((first | refine n1_ fun b_ => ?_ | refine n2_ fun b_ => ?_ | refine Nat1.mk fun q_ hq_ => ?_ | refine em_ fun x_ hx_ => ?_ | refine Elem1.mk fun e_ he_ => ?_); refine g1_ ?_))
      refine (hp2).use ?_; (refine g0_ ?_; repeat ((first | refine n1_ fun b_ => ?_ | refine n2_ fun b_ => ?_ | refine Nat1.mk fun q_ hq_ => ?_ | refine em_ fun x_ hx_ => ?_ | refine Elem1.mk fun e_ he_ => ?_); refine g0_ ?_))
      (refine g1_ ?_; repeat ((first | refine n1_ fun b_ => ?_ | refine n2_ fun b_ => ?_ | refine Nat1.mk fun q_ hq_ => ?_ | refine em_ fun x_ hx_ => ?_ | refine Elem1.mk fun e_ he_ => ?_); refine g1_ ?_))
      rw [show (s.drop p).take 1 = [c] by rw [drop_cons_of hc]; rfl]
      refine nx_ (p + 1, -1, w ++ [c], k) ?_ ?_
      · refine .inl ⟨rfl, by omega, by omega, ?_, hres, by omega⟩
        simp only [List.length_append, List.length_cons, List.length_nil]
        omega
      · ((try dsimp only); (try simp only [List.length_drop, List.length_take, List.length_append, List.length_cons, List.length_nil, List.length_map] at *); omega)
theorem ditem_plain (b : Nat) (s : List UInt8) (its : Its) (hs : s.length ≤ 4000) (hits : its.length ≤ 1000) (hv : ∀ x ∈ its, x.2.length ≤ 4000) (deep : Int) (i : Nat) (hi : i + 2 ≤ s.length) (h1 : s[i + 2]? ≠ some 63) (h2 : s[i + 2]? ≠ some 61) (res : Except Nat (List UInt8 × Nat)) (hres : plainQ s its (i + 2) = res) :
    DocQ W 62 [.bref b 0, .int .i64 deep] b s its (i + 2) i res := by
  have hp1 := hasPrefix_ok W (s.drop (i + 2)) [63]
  rw [hp1_eq, decide_eq_false h1] at hp1
  have hp2 := hasPrefix_ok W (s.drop (i + 2)) [61]
  rw [hp1_eq, decide_eq_false h2] at hp2
  unfold plainQ at hres
  unfold DocQ
  unfold xM
  refine acalls_of_vc (drawOk W) Tryd.func62 rfl (by decide) (by decide) rfl ?_
  (refine g0_ ?_; repeat ((first | refine n1_ fun b_ => ?_ | refine n2_ fun b_ => ?_ | refine Nat1.mk fun q_ hq_ => ?_ | refine em_ fun x_ hx_ => ?_ | refine Elem1.mk fun e_ he_ => ?_); refine g0_ ?_))
  refine head_ ?_; (refine g0_ ?_; repeat ((first | refine n1_ fun b_ => ?_ | refine n2_ fun b_ => ?_ | refine Nat1.mk fun q_ hq_ => ?_ | refine em_ fun x_ hx_ => ?_ | refine Elem1.mk fun e_ he_ => ?_); refine g0_ ?_))
  refine (hp1).use ?_; (refine g0_ ?_; repeat ((first | refine n1_ fun b_ => ?_ | refine n2_ fun b_ => ?_ | refine Nat1.mk fun q_ hq_ => ?_ | refine em_ fun x_ hx_ => ?_ | refine Elem1.mk fun e_ he_ => ?_); refine g0_ ?_))
  (refine g1_ ?_; repeat ((first | refine n1_ fun b_ => ?_ | refine n2_ fun b_ => ?_ | refine Nat1.mk fun q_ hq_ => ?_ | refine em_ fun x_ hx_ => ?_ | refine Elem1.mk fun e_ he_ => ?_); refine g1_ ?_))
  refine (hp2).use ?_; (refine g0_ ?_; repeat ((first | refine n1_ fun b_ => ?_ | refine n2_ fun b_ => ?_ | refine Nat1.mk fun q_ hq_ => ?_ | refine em_ fun x_ hx_ => ?_ | refine Elem1.mk fun e_ he_ => ?_); refine g0_ ?_))
  (refine g1_ ?_; repeat ((first | refine n1_ fun b_ => ?_ | refine n2_ fun b_ => ?_ | refine Nat1.mk fun q_ hq_ => ?_ | refine em_ fun x_ hx_ => ?_ | refine Elem1.mk fun e_ he_ => ?_); refine g1_ ?_))
  cases hn : nameQ s (i + 2) with
  | error e =>
    rw [hn] at hres
    subst hres
    have hx := valueX_bad W b s (i + 2) e its hs hi hn
    unfold xM at hx
    refine ACalls.lend (hx) (r := []) (.refl _) ?_
    rintro _ -
    (refine g0_ ?_; repeat ((first | refine n1_ fun b_ => ?_ | refine n2_ fun b_ => ?_ | refine Nat1.mk fun q_ hq_ => ?_ | refine em_ fun x_ hx_ => ?_ | refine Elem1.mk fun e_ he_ => ?_); refine g0_ ?_))
    (refine g1_ ?_; repeat ((first | refine n1_ fun b_ => ?_ | refine n2_ fun b_ => ?_ | refine Nat1.mk fun q_ hq_ => ?_ | refine em_ fun x_ hx_ => ?_ | refine Elem1.mk fun e_ he_ => ?_); refine g1_ ?_))
    exact ⟨[], Nat.zero_le _, rfl, by (first | exact ⟨_, .refl _⟩ | exact wkMem.rfl' | exact ⟨_, .swap _ _ _⟩ | (repeat (first | exact wkMem.nil _ | exact wkMem.rfl' | exact wk_snoc _ _ _ | exact wk_fam (by assumption) _ _ _ | exact wk_famN (by assumption) _ _ _ | (apply wkMem.cons; (case' hl => (repeat (first | exact .here _ _ _ | apply Look.there)))) | apply wkMem.skip)))⟩
  | ok y =>
    obtain ⟨n, m1⟩ := y
    rw [hn] at hres
    dsimp only at hres
    obtain ⟨a1, a2, -⟩ := nameQ_ok hi hn
    have hx := valueX_ok W b s n (i + 2) m1 its hits hs hi hn
    have hvl := valQ_len hv n
    unfold xM at hx
    refine ACalls.lend (hx) (r := []) (.refl _) ?_
    rintro _ -
    (refine g0_ ?_; repeat ((first | refine n1_ fun b_ => ?_ | refine n2_ fun b_ => ?_ | refine Nat1.mk fun q_ hq_ => ?_ | refine em_ fun x_ hx_ => ?_ | refine Elem1.mk fun e_ he_ => ?_); refine g0_ ?_))
    (refine g1_ ?_; repeat ((first | refine n1_ fun b_ => ?_ | refine n2_ fun b_ => ?_ | refine Nat1.mk fun q_ hq_ => ?_ | refine em_ fun x_ hx_ => ?_ | refine Elem1.mk fun e_ he_ => ?_); refine g1_ ?_))
    have hout : (valQ its n).length ≤ 4000 * (s.length - i) := by omega
    generalize valQ its n = v at *
    cases h9 : expQ s m1 125 with
    | error e =>
      rw [h9] at hres
      subst hres
      have hx := wantX_bad W b s m1 e its hs (by omega) 125 h9
      unfold xM at hx
      refine ACalls.lend (hx) (r := []) (.refl _) ?_
      rintro _ -
      (refine g0_ ?_; repeat ((first | refine n1_ fun b_ => ?_ | refine n2_ fun b_ => ?_ | refine Nat1.mk fun q_ hq_ => ?_ | refine em_ fun x_ hx_ => ?_ | refine Elem1.mk fun e_ he_ => ?_); refine g0_ ?_))
      exact ⟨_, hout, rfl, by (first | exact ⟨_, .refl _⟩ | exact wkMem.rfl' | exact ⟨_, .swap _ _ _⟩ | (repeat (first | exact wkMem.nil _ | exact wkMem.rfl' | exact wk_snoc _ _ _ | exact wk_fam (by assumption) _ _ _ | exact wk_famN (by assumption) _ _ _ | (apply wkMem.cons; (case' hl => (repeat (first | exact .here _ _ _ | apply Look.there)))) | apply wkMem.skip)))⟩
    | ok m9 =>
      rw [h9] at hres
      subst hres
      have hx := wantX_ok W b s m1 m9 its hs 125 h9
      unfold xM at hx
      refine ACalls.lend (hx) (r := []) (.refl _) ?_
      rintro _ -
      (refine g0_ ?_; repeat ((first | refine n1_ fun b_ => ?_ | refine n2_ fun b_ => ?_ | refine Nat1.mk fun q_ hq_ => ?_ | refine em_ fun x_ hx_ => ?_ | refine Elem1.mk fun e_ he_ => ?_); refine g0_ ?_))
      exact ⟨_, rfl, rfl, by (first | exact ⟨_, .refl _⟩ | exact wkMem.rfl' | exact ⟨_, .swap _ _ _⟩ | (repeat (first | exact wkMem.nil _ | exact wkMem.rfl' | exact wk_snoc _ _ _ | exact wk_fam (by assumption) _ _ _ | exact wk_famN (by assumption) _ _ _ | (apply wkMem.cons; (case' hl => (repeat (first | exact .here _ _ _ | apply Look.there)))) | apply wkMem.skip)))⟩
theorem ditem_ask (b : Nat) (s : List UInt8) (its : Its) (hs : s.length ≤ 4000) (hits : its.length ≤ 1000) (hv : ∀ x ∈ its, x.2.length ≤ 4000) (deep : Int) (u : List UInt8 → Nat → Except Nat (List UInt8 × Nat))
    (hu : ∀ e i, i ≤ s.length → DocQ W 23 [.bref b 0, .str e, .int .i64 deep] b s its i i (u e i)) (hsm : ∀ e i, i ≤ s.length → SmallQ s i i (u e i)) (i : Nat) (h1 : s[i + 2]? = some 63) (res : Except Nat (List UInt8 × Nat)) (hres : askQ s its u (i + 3) = res) :
    DocQ W 62 [.bref b 0, .int .i64 deep] b s its (i + 2) i res := by
  have hi3 := lt_of_at h1
  have hp1 := hasPrefix_ok W (s.drop (i + 2)) [63]
  rw [hp1_eq, decide_eq_true h1] at hp1
  have hsk := fun (e : Nat) (st : List UInt8) => dtext_skip W b s s.length e its st deep
  unfold askQ at hres
  unfold DocQ
  unfold xM at hsk ⊢
  refine acalls_of_vc (drawOk W) Tryd.func62 rfl (by decide) (by decide) rfl ?_
  (refine g0_ ?_; repeat ((first | refine n1_ fun b_ => ?_ | refine n2_ fun b_ => ?_ | refine Nat1.mk fun q_ hq_ => ?_ | refine em_ fun x_ hx_ => ?_ | refine Elem1.mk fun e_ he_ => ?_); refine g0_ ?_))
  refine head_ ?_; (refine g0_ ?_; repeat ((first | refine n1_ fun b_ => ?_ | refine n2_ fun b_ => ?_ | refine Nat1.mk fun q_ hq_ => ?_ | refine em_ fun x_ hx_ => ?_ | refine Elem1.mk fun e_ he_ => ?_); refine g0_ ?_))
  refine (hp1).use ?_; (refine g0_ ?_; repeat ((first | refine n1_ fun b_ => ?_ | refine n2_ fun b_ => ?_ | refine Nat1.mk fun q_ hq_ => ?_ | refine em_ fun x_ hx_ => ?_ | refine Elem1.mk fun e_ he_ => ?_); refine g0_ ?_))
  (refine g1_ ?_; repeat ((first | refine n1_ fun b_ => ?_ | refine n2_ fun b_ => ?_ | refine Nat1.mk fun q_ hq_ => ?_ | refine em_ fun x_ hx_ => ?_ | refine Elem1.mk fun e_ he_ => ?_); refine g1_ ?_))
  cases hn : nameQ s (i + 3) with
  | error e =>
    rw [hn] at hres
    subst hres
    have hx := valueX_bad W b s (i + 3) e its hs (by omega) hn
    have hsk := hsk e
    unfold xM at hx
    refine ACalls.lend (hx) (r := []) (.refl _) ?_
    rintro _ -
    (refine g0_ ?_; repeat ((first | refine n1_ fun b_ => ?_ | refine n2_ fun b_ => ?_ | refine Nat1.mk fun q_ hq_ => ?_ | refine em_ fun x_ hx_ => ?_ | refine Elem1.mk fun e_ he_ => ?_); refine g0_ ?_))
    (refine g1_ ?_; repeat ((first | refine n1_ fun b_ => ?_ | refine n2_ fun b_ => ?_ | refine Nat1.mk fun q_ hq_ => ?_ | refine em_ fun x_ hx_ => ?_ | refine Elem1.mk fun e_ he_ => ?_); refine g1_ ?_))
    refine ACalls.lend (hsk _) (r := []) (.refl _) ?_
    rintro _ -
    (refine g0_ ?_; repeat ((first | refine n1_ fun b_ => ?_ | refine n2_ fun b_ => ?_ | refine Nat1.mk fun q_ hq_ => ?_ | refine em_ fun x_ hx_ => ?_ | refine Elem1.mk fun e_ he_ => ?_); refine g0_ ?_))
    (refine g1_ ?_; repeat ((first | refine n1_ fun b_ => ?_ | refine n2_ fun b_ => ?_ | refine Nat1.mk fun q_ hq_ => ?_ | refine em_ fun x_ hx_ => ?_ | refine Elem1.mk fun e_ he_ => ?_); refine g1_ ?_))
    refine ACalls.lend (hsk _) (r := []) (.refl _) ?_
    rintro _ -
    (refine g0_ ?_; repeat ((first | refine n1_ fun b_ => ?_ | refine n2_ fun b_ => ?_ | refine Nat1.mk fun q_ hq_ => ?_ | refine em_ fun x_ hx_ => ?_ | refine Elem1.mk fun e_ he_ => ?_); refine g0_ ?_))
    (refine g1_ ?_; repeat ((first | refine n1_ fun b_ => ?_ | refine n2_ fun b_ => ?_ | refine Nat1.mk fun q_ hq_ => ?_ | refine em_ fun x_ hx_ => ?_ | refine Elem1.mk fun e_ he_ => ?_); refine g1_ ?_))
    exact ⟨[], Nat.zero_le _, rfl, by (first | exact ⟨_, .refl _⟩ | exact wkMem.rfl' | exact ⟨_, .swap _ _ _⟩ | (repeat (first | exact wkMem.nil _ | exact wkMem.rfl' | exact wk_snoc _ _ _ | exact wk_fam (by assumption) _ _ _ | exact wk_famN (by assumption) _ _ _ | (apply wkMem.cons; (case' hl => (repeat (first | exact .here _ _ _ | apply Look.there)))) | apply wkMem.skip)))⟩
  | ok y =>
    obtain ⟨n, m1⟩ := y
    rw [hn] at hres
    dsimp only at hres
    obtain ⟨a1, a2, -⟩ := nameQ_ok (by omega) hn
    have hx := valueX_ok W b s n (i + 3) m1 its hits hs (by omega) hn
    generalize valQ its n = v at *
    unfold xM at hx
    refine ACalls.lend (hx) (r := []) (.refl _) ?_
    rintro _ -
    (refine g0_ ?_; repeat ((first | refine n1_ fun b_ => ?_ | refine n2_ fun b_ => ?_ | refine Nat1.mk fun q_ hq_ => ?_ | refine em_ fun x_ hx_ => ?_ | refine Elem1.mk fun e_ he_ => ?_); refine g0_ ?_))
    (refine g1_ ?_; repeat ((first | refine n1_ fun b_ => ?_ | refine n2_ fun b_ => ?_ | refine Nat1.mk fun q_ hq_ => ?_ | refine em_ fun x_ hx_ => ?_ | refine Elem1.mk fun e_ he_ => ?_); refine g1_ ?_))
    cases h4 : expQ s m1 44 with
    | error e =>
      rw [h4] at hres
      subst hres
      have hx := wantX_bad W b s m1 e its hs a2 44 h4
      have hsk := hsk e
      unfold xM at hx
      refine ACalls.lend (hx) (r := []) (.refl _) ?_
      rintro _ -
      (refine g0_ ?_; repeat ((first | refine n1_ fun b_ => ?_ | refine n2_ fun b_ => ?_ | refine Nat1.mk fun q_ hq_ => ?_ | refine em_ fun x_ hx_ => ?_ | refine Elem1.mk fun e_ he_ => ?_); refine g0_ ?_))
      refine ACalls.lend (hsk _) (r := []) (.refl _) ?_
      rintro _ -
      (refine g0_ ?_; repeat ((first | refine n1_ fun b_ => ?_ | refine n2_ fun b_ => ?_ | refine Nat1.mk fun q_ hq_ => ?_ | refine em_ fun x_ hx_ => ?_ | refine Elem1.mk fun e_ he_ => ?_); refine g0_ ?_))
      (refine g1_ ?_; repeat ((first | refine n1_ fun b_ => ?_ | refine n2_ fun b_ => ?_ | refine Nat1.mk fun q_ hq_ => ?_ | refine em_ fun x_ hx_ => ?_ | refine Elem1.mk fun e_ he_ => ?_); refine g1_ ?_))
      refine ACalls.lend (hsk _) (r := []) (.refl _) ?_
      rintro _ -
      (refine g0_ ?_; repeat ((first | refine n1_ fun b_ => ?_ | refine n2_ fun b_ => ?_ | refine Nat1.mk fun q_ hq_ => ?_ | refine em_ fun x_ hx_ => ?_ | refine Elem1.mk fun e_ he_ => ?_); refine g0_ ?_))
      refine brec ?_; intro c_ hq; (try rw [hq]); cases c_ <;> replace hq := nm_ hq
      · (refine g0_ ?_; repeat ((first | refine n1_ fun b_ => ?_ | refine n2_ fun b_ => ?_ | refine Nat1.mk fun q_ hq_ => ?_ | refine em_ fun x_ hx_ => ?_ | refine Elem1.mk fun e_ he_ => ?_); refine g0_ ?_))
        (refine g1_ ?_; repeat ((first | refine n1_ fun b_ => ?_ | refine n2_ fun b_ => ?_ | refine Nat1.mk fun q_ hq_ => ?_ | refine em_ fun x_ hx_ => ?_ | refine Elem1.mk fun e_ he_ => ?_); refine g1_ ?_))
        exact ⟨[], Nat.zero_le _, rfl, by (first | exact ⟨_, .refl _⟩ | exact wkMem.rfl' | exact ⟨_, .swap _ _ _⟩ | (repeat (first | exact wkMem.nil _ | exact wkMem.rfl' | exact wk_snoc _ _ _ | exact wk_fam (by assumption) _ _ _ | exact wk_famN (by assumption) _ _ _ | (apply wkMem.cons; (case' hl => (repeat (first | exact .here _ _ _ | apply Look.there)))) | apply wkMem.skip)))⟩
      · (refine g0_ ?_; repeat ((first | refine n1_ fun b_ => ?_ | refine n2_ fun b_ => ?_ | refine Nat1.mk fun q_ hq_ => ?_ | refine em_ fun x_ hx_ => ?_ | refine Elem1.mk fun e_ he_ => ?_); refine g0_ ?_))
        (refine g1_ ?_; repeat ((first | refine n1_ fun b_ => ?_ | refine n2_ fun b_ => ?_ | refine Nat1.mk fun q_ hq_ => ?_ | refine em_ fun x_ hx_ => ?_ | refine Elem1.mk fun e_ he_ => ?_); refine g1_ ?_))
        exact ⟨[], Nat.zero_le _, rfl, by (first | exact ⟨_, .refl _⟩ | exact wkMem.rfl' | exact ⟨_, .swap _ _ _⟩ | (repeat (first | exact wkMem.nil _ | exact wkMem.rfl' | exact wk_snoc _ _ _ | exact wk_fam (by assumption) _ _ _ | exact wk_famN (by assumption) _ _ _ | (apply wkMem.cons; (case' hl => (repeat (first | exact .here _ _ _ | apply Look.there)))) | apply wkMem.skip)))⟩
    | ok m2 =>
      rw [h4] at hres
      dsimp only at hres
      have hx := wantX_ok W b s m1 m2 its hs 44 h4
      obtain ⟨-, e2, hm2⟩ := expQ_ok h4
      unfold xM at hx
      refine ACalls.lend (hx) (r := []) (.refl _) ?_
      rintro _ -
      (refine g0_ ?_; repeat ((first | refine n1_ fun b_ => ?_ | refine n2_ fun b_ => ?_ | refine Nat1.mk fun q_ hq_ => ?_ | refine em_ fun x_ hx_ => ?_ | refine Elem1.mk fun e_ he_ => ?_); refine g0_ ?_))
      have hx := hu [44, 125] m2 hm2
      have hsx := hsm [44, 125] m2 hm2
      unfold DocQ xM at hx
      refine ACalls.lend hx (r := []) (.refl _) ?_
      rintro y hy
      cases h5 : u [44, 125] m2 with
      | error e =>
        rw [h5] at hres hy
        subst hres
        replace hy : y.length ≤ 4000 * (s.length - m2) := hy
        have hsk := hsk e
        unfold docM xM
        (refine g0_ ?_; repeat ((first | refine n1_ fun b_ => ?_ | refine n2_ fun b_ => ?_ | refine Nat1.mk fun q_ hq_ => ?_ | refine em_ fun x_ hx_ => ?_ | refine Elem1.mk fun e_ he_ => ?_); refine g0_ ?_))
        (refine g1_ ?_; repeat ((first | refine n1_ fun b_ => ?_ | refine n2_ fun b_ => ?_ | refine Nat1.mk fun q_ hq_ => ?_ | refine em_ fun x_ hx_ => ?_ | refine Elem1.mk fun e_ he_ => ?_); refine g1_ ?_))
        refine ACalls.lend (hsk _) (r := []) (.refl _) ?_
        rintro _ -
        (refine g0_ ?_; repeat ((first | refine n1_ fun b_ => ?_ | refine n2_ fun b_ => ?_ | refine Nat1.mk fun q_ hq_ => ?_ | refine em_ fun x_ hx_ => ?_ | refine Elem1.mk fun e_ he_ => ?_); refine g0_ ?_))
        refine brec ?_; intro c_ hq; (try rw [hq]); cases c_ <;> replace hq := nm_ hq
        · (refine g0_ ?_; repeat ((first | refine n1_ fun b_ => ?_ | refine n2_ fun b_ => ?_ | refine Nat1.mk fun q_ hq_ => ?_ | refine em_ fun x_ hx_ => ?_ | refine Elem1.mk fun e_ he_ => ?_); refine g0_ ?_))
          (refine g1_ ?_; repeat ((first | refine n1_ fun b_ => ?_ | refine n2_ fun b_ => ?_ | refine Nat1.mk fun q_ hq_ => ?_ | refine em_ fun x_ hx_ => ?_ | refine Elem1.mk fun e_ he_ => ?_); refine g1_ ?_))
          exact ⟨y, by show _ ≤ _; omega, rfl, by (first | exact ⟨_, .refl _⟩ | exact wkMem.rfl' | exact ⟨_, .swap _ _ _⟩ | (repeat (first | exact wkMem.nil _ | exact wkMem.rfl' | exact wk_snoc _ _ _ | exact wk_fam (by assumption) _ _ _ | exact wk_famN (by assumption) _ _ _ | (apply wkMem.cons; (case' hl => (repeat (first | exact .here _ _ _ | apply Look.there)))) | apply wkMem.skip)))⟩
        · (refine g0_ ?_; repeat ((first | refine n1_ fun b_ => ?_ | refine n2_ fun b_ => ?_ | refine Nat1.mk fun q_ hq_ => ?_ | refine em_ fun x_ hx_ => ?_ | refine Elem1.mk fun e_ he_ => ?_); refine g0_ ?_))
          (refine g1_ ?_; repeat ((first | refine n1_ fun b_ => ?_ | refine n2_ fun b_ => ?_ | refine Nat1.mk fun q_ hq_ => ?_ | refine em_ fun x_ hx_ => ?_ | refine Elem1.mk fun e_ he_ => ?_); refine g1_ ?_))
          exact ⟨[], Nat.zero_le _, rfl, by (first | exact ⟨_, .refl _⟩ | exact wkMem.rfl' | exact ⟨_, .swap _ _ _⟩ | (repeat (first | exact wkMem.nil _ | exact wkMem.rfl' | exact wk_snoc _ _ _ | exact wk_fam (by assumption) _ _ _ | exact wk_famN (by assumption) _ _ _ | (apply wkMem.cons; (case' hl => (repeat (first | exact .here _ _ _ | apply Look.there)))) | apply wkMem.skip)))⟩
      | ok y2 =>
        obtain ⟨y', m3⟩ := y2
        rw [h5] at hres hy hsx
        dsimp only at hres
        obtain rfl : y = y' := hy
        obtain ⟨b1, b2, b3⟩ := hsx
        unfold docM xM
        (refine g0_ ?_; repeat ((first | refine n1_ fun b_ => ?_ | refine n2_ fun b_ => ?_ | refine Nat1.mk fun q_ hq_ => ?_ | refine em_ fun x_ hx_ => ?_ | refine Elem1.mk fun e_ he_ => ?_); refine g0_ ?_))
        (refine g1_ ?_; repeat ((first | refine n1_ fun b_ => ?_ | refine n2_ fun b_ => ?_ | refine Nat1.mk fun q_ hq_ => ?_ | refine em_ fun x_ hx_ => ?_ | refine Elem1.mk fun e_ he_ => ?_); refine g1_ ?_))
        cases h6 : expQ s m3 44 with
        | error e =>
          rw [h6] at hres
          subst hres
          have hx := wantX_bad W b s m3 e its hs b2 44 h6
          have hsk := hsk e
          unfold xM at hx
          refine ACalls.lend (hx) (r := []) (.refl _) ?_
          rintro _ -
          (refine g0_ ?_; repeat ((first | refine n1_ fun b_ => ?_ | refine n2_ fun b_ => ?_ | refine Nat1.mk fun q_ hq_ => ?_ | refine em_ fun x_ hx_ => ?_ | refine Elem1.mk fun e_ he_ => ?_); refine g0_ ?_))
          refine ACalls.lend (hsk _) (r := []) (.refl _) ?_
          rintro _ -
          (refine g0_ ?_; repeat ((first | refine n1_ fun b_ => ?_ | refine n2_ fun b_ => ?_ | refine Nat1.mk fun q_ hq_ => ?_ | refine em_ fun x_ hx_ => ?_ | refine Elem1.mk fun e_ he_ => ?_); refine g0_ ?_))
          refine brec ?_; intro c_ hq; (try rw [hq]); cases c_ <;> replace hq := nm_ hq
          · (refine g0_ ?_; repeat ((first | refine n1_ fun b_ => ?_ | refine n2_ fun b_ => ?_ | refine Nat1.mk fun q_ hq_ => ?_ | refine em_ fun x_ hx_ => ?_ | refine Elem1.mk fun e_ he_ => ?_); refine g0_ ?_))
            (refine g1_ ?_; repeat ((first | refine n1_ fun b_ => ?_ | refine n2_ fun b_ => ?_ | refine Nat1.mk fun q_ hq_ => ?_ | refine em_ fun x_ hx_ => ?_ | refine Elem1.mk fun e_ he_ => ?_); refine g1_ ?_))
            exact ⟨y, by show _ ≤ _; omega, rfl, by (first | exact ⟨_, .refl _⟩ | exact wkMem.rfl' | exact ⟨_, .swap _ _ _⟩ | (repeat (first | exact wkMem.nil _ | exact wkMem.rfl' | exact wk_snoc _ _ _ | exact wk_fam (by assumption) _ _ _ | exact wk_famN (by assumption) _ _ _ | (apply wkMem.cons; (case' hl => (repeat (first | exact .here _ _ _ | apply Look.there)))) | apply wkMem.skip)))⟩
          · (refine g0_ ?_; repeat ((first | refine n1_ fun b_ => ?_ | refine n2_ fun b_ => ?_ | refine Nat1.mk fun q_ hq_ => ?_ | refine em_ fun x_ hx_ => ?_ | refine Elem1.mk fun e_ he_ => ?_); refine g0_ ?_))
            (refine g1_ ?_; repeat ((first | refine n1_ fun b_ => ?_ | refine n2_ fun b_ => ?_ | refine Nat1.mk fun q_ hq_ => ?_ | refine em_ fun x_ hx_ => ?_ | refine Elem1.mk fun e_ he_ => ?_); refine g1_ ?_))
            exact ⟨[], Nat.zero_le _, rfl, by (first | exact ⟨_, .refl _⟩ | exact wkMem.rfl' | exact ⟨_, .swap _ _ _⟩ | (repeat (first | exact wkMem.nil _ | exact wkMem.rfl' | exact wk_snoc _ _ _ | exact wk_fam (by assumption) _ _ _ | exact wk_famN (by assumption) _ _ _ | (apply wkMem.cons; (case' hl => (repeat (first | exact .here _ _ _ | apply Look.there)))) | apply wkMem.skip)))⟩
        | ok m4 =>
          rw [h6] at hres
          dsimp only at hres
          have hx := wantX_ok W b s m3 m4 its hs 44 h6
          obtain ⟨-, e4, hm4⟩ := expQ_ok h6
          unfold xM at hx
          refine ACalls.lend (hx) (r := []) (.refl _) ?_
          rintro _ -
          (refine g0_ ?_; repeat ((first | refine n1_ fun b_ => ?_ | refine n2_ fun b_ => ?_ | refine Nat1.mk fun q_ hq_ => ?_ | refine em_ fun x_ hx_ => ?_ | refine Elem1.mk fun e_ he_ => ?_); refine g0_ ?_))
          have hx := hu [125] m4 hm4
          have hsx := hsm [125] m4 hm4
          unfold DocQ xM at hx
          refine ACalls.lend hx (r := []) (.refl _) ?_
          rintro z hz
          cases h7 : u [125] m4 with
          | error e =>
            rw [h7] at hres hz
            subst hres
            replace hz : z.length ≤ 4000 * (s.length - m4) := hz
            unfold docM xM
            (refine g0_ ?_; repeat ((first | refine n1_ fun b_ => ?_ | refine n2_ fun b_ => ?_ | refine Nat1.mk fun q_ hq_ => ?_ | refine em_ fun x_ hx_ => ?_ | refine Elem1.mk fun e_ he_ => ?_); refine g0_ ?_))
            refine brec ?_; intro c_ hq; (try rw [hq]); cases c_ <;> replace hq := nm_ hq
            · (refine g0_ ?_; repeat ((first | refine n1_ fun b_ => ?_ | refine n2_ fun b_ => ?_ | refine Nat1.mk fun q_ hq_ => ?_ | refine em_ fun x_ hx_ => ?_ | refine Elem1.mk fun e_ he_ => ?_); refine g0_ ?_))
              (refine g1_ ?_; repeat ((first | refine n1_ fun b_ => ?_ | refine n2_ fun b_ => ?_ | refine Nat1.mk fun q_ hq_ => ?_ | refine em_ fun x_ hx_ => ?_ | refine Elem1.mk fun e_ he_ => ?_); refine g1_ ?_))
              exact ⟨y, by show _ ≤ _; omega, rfl, by (first | exact ⟨_, .refl _⟩ | exact wkMem.rfl' | exact ⟨_, .swap _ _ _⟩ | (repeat (first | exact wkMem.nil _ | exact wkMem.rfl' | exact wk_snoc _ _ _ | exact wk_fam (by assumption) _ _ _ | exact wk_famN (by assumption) _ _ _ | (apply wkMem.cons; (case' hl => (repeat (first | exact .here _ _ _ | apply Look.there)))) | apply wkMem.skip)))⟩
            · (refine g0_ ?_; repeat ((first | refine n1_ fun b_ => ?_ | refine n2_ fun b_ => ?_ | refine Nat1.mk fun q_ hq_ => ?_ | refine em_ fun x_ hx_ => ?_ | refine Elem1.mk fun e_ he_ => ?_); refine g0_ ?_))
              (refine g1_ ?_; repeat ((first | refine n1_ fun b_ => ?_ | refine n2_ fun b_ => ?_ | refine Nat1.mk fun q_ hq_ => ?_ | refine em_ fun x_ hx_ => ?_ | refine Elem1.mk fun e_ he_ => ?_); refine g1_ ?_))
              exact ⟨z, by show _ ≤ _; omega, rfl, by (first | exact ⟨_, .refl _⟩ | exact wkMem.rfl' | exact ⟨_, .swap _ _ _⟩ | (repeat (first | exact wkMem.nil _ | exact wkMem.rfl' | exact wk_snoc _ _ _ | exact wk_fam (by assumption) _ _ _ | exact wk_famN (by assumption) _ _ _ | (apply wkMem.cons; (case' hl => (repeat (first | exact .here _ _ _ | apply Look.there)))) | apply wkMem.skip)))⟩
          | ok z2 =>
            obtain ⟨z', m5⟩ := z2
            rw [h7] at hres hz hsx
            dsimp only at hres
            obtain rfl : z = z' := hz
            obtain ⟨c1, c2, c3⟩ := hsx
            unfold docM xM
            (refine g0_ ?_; repeat ((first | refine n1_ fun b_ => ?_ | refine n2_ fun b_ => ?_ | refine Nat1.mk fun q_ hq_ => ?_ | refine em_ fun x_ hx_ => ?_ | refine Elem1.mk fun e_ he_ => ?_); refine g0_ ?_))
            refine brec ?_; intro c_ hq; (try rw [hq]); cases c_ <;> replace hq := nm_ hq
            · have hcd : condQ v y z = y := by
                unfold condQ
                rw [if_pos]
                simpa using hq
              rw [hcd] at hres
              have hout : y.length ≤ 4000 * (s.length - i) := by omega
              (refine g0_ ?_; repeat ((first | refine n1_ fun b_ => ?_ | refine n2_ fun b_ => ?_ | refine Nat1.mk fun q_ hq_ => ?_ | refine em_ fun x_ hx_ => ?_ | refine Elem1.mk fun e_ he_ => ?_); refine g0_ ?_))
              (refine g1_ ?_; repeat ((first | refine n1_ fun b_ => ?_ | refine n2_ fun b_ => ?_ | refine Nat1.mk fun q_ hq_ => ?_ | refine em_ fun x_ hx_ => ?_ | refine Elem1.mk fun e_ he_ => ?_); refine g1_ ?_))
              cases h9 : expQ s m5 125 with
              | error e =>
                rw [h9] at hres
                subst hres
                have hx := wantX_bad W b s m5 e its hs (by omega) 125 h9
                unfold xM at hx
                refine ACalls.lend (hx) (r := []) (.refl _) ?_
                rintro _ -
                (refine g0_ ?_; repeat ((first | refine n1_ fun b_ => ?_ | refine n2_ fun b_ => ?_ | refine Nat1.mk fun q_ hq_ => ?_ | refine em_ fun x_ hx_ => ?_ | refine Elem1.mk fun e_ he_ => ?_); refine g0_ ?_))
                exact ⟨_, hout, rfl, by (first | exact ⟨_, .refl _⟩ | exact wkMem.rfl' | exact ⟨_, .swap _ _ _⟩ | (repeat (first | exact wkMem.nil _ | exact wkMem.rfl' | exact wk_snoc _ _ _ | exact wk_fam (by assumption) _ _ _ | exact wk_famN (by assumption) _ _ _ | (apply wkMem.cons; (case' hl => (repeat (first | exact .here _ _ _ | apply Look.there)))) | apply wkMem.skip)))⟩
              | ok m9 =>
                rw [h9] at hres
                subst hres
                have hx := wantX_ok W b s m5 m9 its hs 125 h9
                unfold xM at hx
                refine ACalls.lend (hx) (r := []) (.refl _) ?_
                rintro _ -
                (refine g0_ ?_; repeat ((first | refine n1_ fun b_ => ?_ | refine n2_ fun b_ => ?_ | refine Nat1.mk fun q_ hq_ => ?_ | refine em_ fun x_ hx_ => ?_ | refine Elem1.mk fun e_ he_ => ?_); refine g0_ ?_))
                exact ⟨_, rfl, rfl, by (first | exact ⟨_, .refl _⟩ | exact wkMem.rfl' | exact ⟨_, .swap _ _ _⟩ | (repeat (first | exact wkMem.nil _ | exact wkMem.rfl' | exact wk_snoc _ _ _ | exact wk_fam (by assumption) _ _ _ | exact wk_famN (by assumption) _ _ _ | (apply wkMem.cons; (case' hl => (repeat (first | exact .here _ _ _ | apply Look.there)))) | apply wkMem.skip)))⟩
            · have hcd : condQ v y z = z := by
                unfold condQ
                rw [if_neg]
                intro h
                simp_all
              rw [hcd] at hres
              have hout : z.length ≤ 4000 * (s.length - i) := by omega
              (refine g0_ ?_; repeat ((first | refine n1_ fun b_ => ?_ | refine n2_ fun b_ => ?_ | refine Nat1.mk fun q_ hq_ => ?_ | refine em_ fun x_ hx_ => ?_ | refine Elem1.mk fun e_ he_ => ?_); refine g0_ ?_))
              (refine g1_ ?_; repeat ((first | refine n1_ fun b_ => ?_ | refine n2_ fun b_ => ?_ | refine Nat1.mk fun q_ hq_ => ?_ | refine em_ fun x_ hx_ => ?_ | refine Elem1.mk fun e_ he_ => ?_); refine g1_ ?_))
              cases h9 : expQ s m5 125 with
              | error e =>
                rw [h9] at hres
                subst hres
                have hx := wantX_bad W b s m5 e its hs (by omega) 125 h9
                unfold xM at hx
                refine ACalls.lend (hx) (r := []) (.refl _) ?_
                rintro _ -
                (refine g0_ ?_; repeat ((first | refine n1_ fun b_ => ?_ | refine n2_ fun b_ => ?_ | refine Nat1.mk fun q_ hq_ => ?_ | refine em_ fun x_ hx_ => ?_ | refine Elem1.mk fun e_ he_ => ?_); refine g0_ ?_))
                exact ⟨_, hout, rfl, by (first | exact ⟨_, .refl _⟩ | exact wkMem.rfl' | exact ⟨_, .swap _ _ _⟩ | (repeat (first | exact wkMem.nil _ | exact wkMem.rfl' | exact wk_snoc _ _ _ | exact wk_fam (by assumption) _ _ _ | exact wk_famN (by assumption) _ _ _ | (apply wkMem.cons; (case' hl => (repeat (first | exact .here _ _ _ | apply Look.there)))) | apply wkMem.skip)))⟩
              | ok m9 =>
                rw [h9] at hres
                subst hres
                have hx := wantX_ok W b s m5 m9 its hs 125 h9
                unfold xM at hx
                refine ACalls.lend (hx) (r := []) (.refl _) ?_
                rintro _ -
                (refine g0_ ?_; repeat ((first | refine n1_ fun b_ => ?_ | refine n2_ fun b_ => ?_ | refine Nat1.mk fun q_ hq_ => ?_ | refine em_ fun x_ hx_ => ?_ | refine Elem1.mk fun e_ he_ => ?_); refine g0_ ?_))
                exact ⟨_, rfl, rfl, by (first | exact ⟨_, .refl _⟩ | exact wkMem.rfl' | exact ⟨_, .swap _ _ _⟩ | (repeat (first | exact wkMem.nil _ | exact wkMem.rfl' | exact wk_snoc _ _ _ | exact wk_fam (by assumption) _ _ _ | exact wk_famN (by assumption) _ _ _ | (apply wkMem.cons; (case' hl => (repeat (first | exact .here _ _ _ | apply Look.there)))) | apply wkMem.skip)))⟩
theorem ditem_cut (b : Nat) (s : List UInt8) (its : Its) (hs : s.length ≤ 4000) (hits : its.length ≤ 1000) (hv : ∀ x ∈ its, x.2.length ≤ 4000) (deep : Int) (i : Nat) (h1 : s[i + 2]? = some 61) (res : Except Nat (List UInt8 × Nat)) (hres : cutQ s its (i + 3) = res) :
    DocQ W 62 [.bref b 0, .int .i64 deep] b s its (i + 2) i res := by
  have hi3 := lt_of_at h1
  have hp1 := hasPrefix_ok W (s.drop (i + 2)) [63]
  rw [hp1_eq, h1, decide_eq_false (by decide)] at hp1
  have hp2 := hasPrefix_ok W (s.drop (i + 2)) [61]
  rw [hp1_eq, decide_eq_true h1] at hp2
  have hat := fun j => dg_at (s.drop (i + 3)) 3 j
  change ∀ j, j ≤ (dgQ s (i + 3)).length → (j < (dgQ s (i + 3)).length → ∃ c, (s.drop (i + 3))[j]? = some c ∧ (dgQ s (i + 3))[j]? = some c ∧ 48 ≤ c.toNat ∧ c.toNat ≤ 57) ∧ (j = (dgQ s (i + 3)).length → _) at hat
  have hdd := dg_dig s (i + 3)
  have hdl : (s.drop (i + 3)).length = s.length - (i + 3) := List.length_drop
  obtain ⟨g1, g2⟩ := dgQ_len s (i + 3) (by omega)
  unfold cutQ at hres
  generalize dgQ s (i + 3) = ds at *
  unfold DocQ
  unfold xM
  refine acalls_of_vc (drawOk W) Tryd.func62 rfl (by decide) (by decide) rfl ?_
  (refine g0_ ?_; repeat ((first | refine n1_ fun b_ => ?_ | refine n2_ fun b_ => ?_ | refine Nat1.mk fun q_ hq_ => ?_ | refine em_ fun x_ hx_ => ?_ | refine Elem1.mk fun e_ he_ => ?_); refine g0_ ?_))
  refine head_ ?_; (refine g0_ ?_; repeat ((first | refine n1_ fun b_ => ?_ | refine n2_ fun b_ => ?_ | refine Nat1.mk fun q_ hq_ => ?_ | refine em_ fun x_ hx_ => ?_ | refine Elem1.mk fun e_ he_ => ?_); refine g0_ ?_))
  refine (hp1).use ?_; (refine g0_ ?_; repeat ((first | refine n1_ fun b_ => ?_ | refine n2_ fun b_ => ?_ | refine Nat1.mk fun q_ hq_ => ?_ | refine em_ fun x_ hx_ => ?_ | refine Elem1.mk fun e_ he_ => ?_); refine g0_ ?_))
  (refine g1_ ?_; repeat ((first | refine n1_ fun b_ => ?_ | refine n2_ fun b_ => ?_ | refine Nat1.mk fun q_ hq_ => ?_ | refine em_ fun x_ hx_ => ?_ | refine Elem1.mk fun e_ he_ => ?_); refine g1_ ?_))
  refine (hp2).use ?_; (refine g0_ ?_; repeat ((first | refine n1_ fun b_ => ?_ | refine n2_ fun b_ => ?_ | refine Nat1.mk fun q_ hq_ => ?_ | refine em_ fun x_ hx_ => ?_ | refine Elem1.mk fun e_ he_ => ?_); refine g0_ ?_))
  (refine g1_ ?_; repeat ((first | refine n1_ fun b_ => ?_ | refine n2_ fun b_ => ?_ | refine Nat1.mk fun q_ hq_ => ?_ | refine em_ fun x_ hx_ => ?_ | refine Elem1.mk fun e_ he_ => ?_); refine g1_ ?_))
  refine' loopI (α := Nat × Nat) (fun (j, N) => [(11, .int .i64 N)]) [(0, _), (5, _), (10, _)] (fun (j, N) => [⟨b, .row 4 [.agg [.str s, .int .i64 ((i + 3 + j : Nat) : Int), .int .i64 (-1), .sl 2 (its.map itV)]] 0⟩]) (fun (j, N) => j ≤ ds.length ∧ N = (ds.take j).foldl stQ 0 ∧ N < 10 ^ j) (fun (j, N) => ds.length - j) (0, 0) ?_ ?_
  · exact ⟨Nat.zero_le _, rfl, by decide⟩
  rintro ⟨j, N⟩ ⟨hj, hN, hN10⟩
  have hNb : N < 1000 := Nat.lt_of_lt_of_le hN10 (Nat.pow_le_pow_right (n := 10) (by decide) (show j ≤ 3 by omega))
  obtain ⟨q1, q2⟩ := hat j hj
  rw [List.getElem?_drop] at q1 q2
  rw [hdl] at q2
  by_cases hjl : j = ds.length
  · have q3 : i + 3 + j = s.length ∨ ∃ c, s[i + 3 + j]? = some c ∧ (j = 3 ∨ ¬ (48 ≤ c.toNat ∧ c.toNat ≤ 57)) := by
      by_cases he : i + 3 + j = s.length
      · exact .inl he
      · obtain ⟨c, hc⟩ : ∃ c, s[i + 3 + j]? = some c := ⟨_, List.getElem?_eq_getElem (by omega)⟩
        refine .inr ⟨c, hc, ?_⟩
        rcases q2 hjl with h | h | ⟨c', h, h'⟩
        · exact .inl h
        · clear hat q1 q2
          omega
        · rw [hc] at h
          obtain rfl := Option.some.inj h
          exact .inr h'
    clear hat q1 q2 hN10
    subst hjl
    rcases q3 with q3 | ⟨c, hc, hc3⟩
    · (refine g0_ ?_; repeat ((first | refine n1_ fun b_ => ?_ | refine n2_ fun b_ => ?_ | refine Nat1.mk fun q_ hq_ => ?_ | refine em_ fun x_ hx_ => ?_ | refine Elem1.mk fun e_ he_ => ?_); refine g0_ ?_))
      refine head_ ?_; (refine g0_ ?_; repeat ((first | refine n1_ fun b_ => ?_ | refine n2_ fun b_ => ?_ | refine Nat1.mk fun q_ hq_ => ?_ | refine em_ fun x_ hx_ => ?_ | refine Elem1.mk fun e_ he_ => ?_); refine g0_ ?_))
      (refine g1_ ?_; repeat ((first | refine n1_ fun b_ => ?_ | refine n2_ fun b_ => ?_ | refine Nat1.mk fun q_ hq_ => ?_ | refine em_ fun x_ hx_ => ?_ | refine Elem1.mk fun e_ he_ => ?_); refine g1_ ?_))
      by_cases h0 : ds = []
      · rw [if_pos h0] at hres
        first
          | (rw [h0] at h3; exact absurd h3 (by decide))
          | (subst hres h0
             have hx := failX_ok W b s (i + 3) (i + 3) its
             have hz : ([] : List UInt8).length = 0 := rfl
             unfold xM at hx
             (refine g0_ ?_; repeat ((first | refine n1_ fun b_ => ?_ | refine n2_ fun b_ => ?_ | refine Nat1.mk fun q_ hq_ => ?_ | refine em_ fun x_ hx_ => ?_ | refine Elem1.mk fun e_ he_ => ?_); refine g0_ ?_))
             (refine g1_ ?_; repeat ((first | refine n1_ fun b_ => ?_ | refine n2_ fun b_ => ?_ | refine Nat1.mk fun q_ hq_ => ?_ | refine em_ fun x_ hx_ => ?_ | refine Elem1.mk fun e_ he_ => ?_); refine g1_ ?_))
             refine ACalls.lend (hx) (r := []) (.refl _) ?_
             rintro _ -
             (refine g0_ ?_; repeat ((first | refine n1_ fun b_ => ?_ | refine n2_ fun b_ => ?_ | refine Nat1.mk fun q_ hq_ => ?_ | refine em_ fun x_ hx_ => ?_ | refine Elem1.mk fun e_ he_ => ?_); refine g0_ ?_))
             exact ⟨[], Nat.zero_le _, rfl, by (first | exact ⟨_, .refl _⟩ | exact wkMem.rfl' | exact ⟨_, .swap _ _ _⟩ | (repeat (first | exact wkMem.nil _ | exact wkMem.rfl' | exact wk_snoc _ _ _ | exact wk_fam (by assumption) _ _ _ | exact wk_famN (by assumption) _ _ _ | (apply wkMem.cons; (case' hl => (repeat (first | exact .here _ _ _ | apply Look.there)))) | apply wkMem.skip)))⟩)
      · rw [if_neg h0] at hres
        have hL : 1 ≤ ds.length := List.length_pos_iff.2 h0
        rw [List.take_length] at hN
        rw [← hN] at hres
        (refine g0_ ?_; repeat ((first | refine n1_ fun b_ => ?_ | refine n2_ fun b_ => ?_ | refine Nat1.mk fun q_ hq_ => ?_ | refine em_ fun x_ hx_ => ?_ | refine Elem1.mk fun e_ he_ => ?_); refine g0_ ?_))
        (refine g1_ ?_; repeat ((first | refine n1_ fun b_ => ?_ | refine n2_ fun b_ => ?_ | refine Nat1.mk fun q_ hq_ => ?_ | refine em_ fun x_ hx_ => ?_ | refine Elem1.mk fun e_ he_ => ?_); refine g1_ ?_))
        cases h4 : expQ s (i + 3 + ds.length) 58 with
        | error e =>
          rw [h4] at hres
          subst hres
          have hx := wantX_bad W b s (i + 3 + ds.length) e its hs g2 58 h4
          unfold xM at hx
          refine ACalls.lend (hx) (r := []) (.refl _) ?_
          rintro _ -
          (refine g0_ ?_; repeat ((first | refine n1_ fun b_ => ?_ | refine n2_ fun b_ => ?_ | refine Nat1.mk fun q_ hq_ => ?_ | refine em_ fun x_ hx_ => ?_ | refine Elem1.mk fun e_ he_ => ?_); refine g0_ ?_))
          (refine g1_ ?_; repeat ((first | refine n1_ fun b_ => ?_ | refine n2_ fun b_ => ?_ | refine Nat1.mk fun q_ hq_ => ?_ | refine em_ fun x_ hx_ => ?_ | refine Elem1.mk fun e_ he_ => ?_); refine g1_ ?_))
          exact ⟨[], Nat.zero_le _, rfl, by (first | exact ⟨_, .refl _⟩ | exact wkMem.rfl' | exact ⟨_, .swap _ _ _⟩ | (repeat (first | exact wkMem.nil _ | exact wkMem.rfl' | exact wk_snoc _ _ _ | exact wk_fam (by assumption) _ _ _ | exact wk_famN (by assumption) _ _ _ | (apply wkMem.cons; (case' hl => (repeat (first | exact .here _ _ _ | apply Look.there)))) | apply wkMem.skip)))⟩
        | ok m1 =>
          rw [h4] at hres
          dsimp only at hres
          have hx := wantX_ok W b s (i + 3 + ds.length) m1 its hs 58 h4
          obtain ⟨-, e2, hm1⟩ := expQ_ok h4
          unfold xM at hx
          refine ACalls.lend (hx) (r := []) (.refl _) ?_
          rintro _ -
          (refine g0_ ?_; repeat ((first | refine n1_ fun b_ => ?_ | refine n2_ fun b_ => ?_ | refine Nat1.mk fun q_ hq_ => ?_ | refine em_ fun x_ hx_ => ?_ | refine Elem1.mk fun e_ he_ => ?_); refine g0_ ?_))
          (refine g1_ ?_; repeat ((first | refine n1_ fun b_ => ?_ | refine n2_ fun b_ => ?_ | refine Nat1.mk fun q_ hq_ => ?_ | refine em_ fun x_ hx_ => ?_ | refine Elem1.mk fun e_ he_ => ?_); refine g1_ ?_))
          cases hn : nameQ s m1 with
          | error e =>
            rw [hn] at hres
            subst hres
            have hx := valueX_bad W b s m1 e its hs hm1 hn
            have hcu := cutOf_ok W [] (N : Int) (by decide)
            rw [show cutL [] (N : Int) = [] by unfold cutL; rw [List.take_nil]] at hcu
            unfold xM at hx
            refine ACalls.lend (hx) (r := []) (.refl _) ?_
            rintro _ -
            (refine g0_ ?_; repeat ((first | refine n1_ fun b_ => ?_ | refine n2_ fun b_ => ?_ | refine Nat1.mk fun q_ hq_ => ?_ | refine em_ fun x_ hx_ => ?_ | refine Elem1.mk fun e_ he_ => ?_); refine g0_ ?_))
            refine (hcu).use ?_; (refine g0_ ?_; repeat ((first | refine n1_ fun b_ => ?_ | refine n2_ fun b_ => ?_ | refine Nat1.mk fun q_ hq_ => ?_ | refine em_ fun x_ hx_ => ?_ | refine Elem1.mk fun e_ he_ => ?_); refine g0_ ?_))
            (refine g1_ ?_; repeat ((first | refine n1_ fun b_ => ?_ | refine n2_ fun b_ => ?_ | refine Nat1.mk fun q_ hq_ => ?_ | refine em_ fun x_ hx_ => ?_ | refine Elem1.mk fun e_ he_ => ?_); refine g1_ ?_))
            exact ⟨[], Nat.zero_le _, rfl, by (first | exact ⟨_, .refl _⟩ | exact wkMem.rfl' | exact ⟨_, .swap _ _ _⟩ | (repeat (first | exact wkMem.nil _ | exact wkMem.rfl' | exact wk_snoc _ _ _ | exact wk_fam (by assumption) _ _ _ | exact wk_famN (by assumption) _ _ _ | (apply wkMem.cons; (case' hl => (repeat (first | exact .here _ _ _ | apply Look.there)))) | apply wkMem.skip)))⟩
          | ok y =>
            obtain ⟨n, m2⟩ := y
            rw [hn] at hres
            dsimp only at hres
            obtain ⟨a1, a2, -⟩ := nameQ_ok hm1 hn
            have hx := valueX_ok W b s n m1 m2 its hits hs hm1 hn
            have hvl := valQ_len hv n
            have hcu := cutOf_ok W (valQ its n) (N : Int) (by omega)
            have hcl := cutL_len (valQ its n) (N : Int)
            have hout : (cutL (valQ its n) (N : Int)).length ≤ 4000 * (s.length - i) := by omega
            generalize cutL (valQ its n) (N : Int) = cv at *
            generalize valQ its n = v at *
            unfold xM at hx
            refine ACalls.lend (hx) (r := []) (.refl _) ?_
            rintro _ -
            (refine g0_ ?_; repeat ((first | refine n1_ fun b_ => ?_ | refine n2_ fun b_ => ?_ | refine Nat1.mk fun q_ hq_ => ?_ | refine em_ fun x_ hx_ => ?_ | refine Elem1.mk fun e_ he_ => ?_); refine g0_ ?_))
            refine (hcu).use ?_; (refine g0_ ?_; repeat ((first | refine n1_ fun b_ => ?_ | refine n2_ fun b_ => ?_ | refine Nat1.mk fun q_ hq_ => ?_ | refine em_ fun x_ hx_ => ?_ | refine Elem1.mk fun e_ he_ => ?_); refine g0_ ?_))
            (refine g1_ ?_; repeat ((first | refine n1_ fun b_ => ?_ | refine n2_ fun b_ => ?_ | refine Nat1.mk fun q_ hq_ => ?_ | refine em_ fun x_ hx_ => ?_ | refine Elem1.mk fun e_ he_ => ?_); refine g1_ ?_))
            cases h9 : expQ s m2 125 with
            | error e =>
              rw [h9] at hres
              subst hres
              have hx := wantX_bad W b s m2 e its hs (by omega) 125 h9
              unfold xM at hx
              refine ACalls.lend (hx) (r := []) (.refl _) ?_
              rintro _ -
              (refine g0_ ?_; repeat ((first | refine n1_ fun b_ => ?_ | refine n2_ fun b_ => ?_ | refine Nat1.mk fun q_ hq_ => ?_ | refine em_ fun x_ hx_ => ?_ | refine Elem1.mk fun e_ he_ => ?_); refine g0_ ?_))
              exact ⟨_, hout, rfl, by (first | exact ⟨_, .refl _⟩ | exact wkMem.rfl' | exact ⟨_, .swap _ _ _⟩ | (repeat (first | exact wkMem.nil _ | exact wkMem.rfl' | exact wk_snoc _ _ _ | exact wk_fam (by assumption) _ _ _ | exact wk_famN (by assumption) _ _ _ | (apply wkMem.cons; (case' hl => (repeat (first | exact .here _ _ _ | apply Look.there)))) | apply wkMem.skip)))⟩
            | ok m9 =>
              rw [h9] at hres
              subst hres
              have hx := wantX_ok W b s m2 m9 its hs 125 h9
              unfold xM at hx
              refine ACalls.lend (hx) (r := []) (.refl _) ?_
              rintro _ -
              (refine g0_ ?_; repeat ((first | refine n1_ fun b_ => ?_ | refine n2_ fun b_ => ?_ | refine Nat1.mk fun q_ hq_ => ?_ | refine em_ fun x_ hx_ => ?_ | refine Elem1.mk fun e_ he_ => ?_); refine g0_ ?_))
              exact ⟨_, rfl, rfl, by (first | exact ⟨_, .refl _⟩ | exact wkMem.rfl' | exact ⟨_, .swap _ _ _⟩ | (repeat (first | exact wkMem.nil _ | exact wkMem.rfl' | exact wk_snoc _ _ _ | exact wk_fam (by assumption) _ _ _ | exact wk_famN (by assumption) _ _ _ | (apply wkMem.cons; (case' hl => (repeat (first | exact .here _ _ _ | apply Look.there)))) | apply wkMem.skip)))⟩
    · have hlt := lt_of_at hc
      by_cases h3 : ds.length = 3
      · clear hc3
        (refine g0_ ?_; repeat ((first | refine n1_ fun b_ => ?_ | refine n2_ fun b_ => ?_ | refine Nat1.mk fun q_ hq_ => ?_ | refine em_ fun x_ hx_ => ?_ | refine Elem1.mk fun e_ he_ => ?_); refine g0_ ?_))
        refine head_ ?_; (refine g0_ ?_; repeat ((first | refine n1_ fun b_ => ?_ | refine n2_ fun b_ => ?_ | refine Nat1.mk fun q_ hq_ => ?_ | refine em_ fun x_ hx_ => ?_ | refine Elem1.mk fun e_ he_ => ?_); refine g0_ ?_))
        (refine g1_ ?_; repeat ((first | refine n1_ fun b_ => ?_ | refine n2_ fun b_ => ?_ | refine Nat1.mk fun q_ hq_ => ?_ | refine em_ fun x_ hx_ => ?_ | refine Elem1.mk fun e_ he_ => ?_); refine g1_ ?_))
        by_cases h0 : ds = []
        · rw [if_pos h0] at hres
          first
            | (rw [h0] at h3; exact absurd h3 (by decide))
            | (subst hres h0
               have hx := failX_ok W b s (i + 3) (i + 3) its
               have hz : ([] : List UInt8).length = 0 := rfl
               unfold xM at hx
               (refine g0_ ?_; repeat ((first | refine n1_ fun b_ => ?_ | refine n2_ fun b_ => ?_ | refine Nat1.mk fun q_ hq_ => ?_ | refine em_ fun x_ hx_ => ?_ | refine Elem1.mk fun e_ he_ => ?_); refine g0_ ?_))
               (refine g1_ ?_; repeat ((first | refine n1_ fun b_ => ?_ | refine n2_ fun b_ => ?_ | refine Nat1.mk fun q_ hq_ => ?_ | refine em_ fun x_ hx_ => ?_ | refine Elem1.mk fun e_ he_ => ?_); refine g1_ ?_))
               refine ACalls.lend (hx) (r := []) (.refl _) ?_
               rintro _ -
               (refine g0_ ?_; repeat ((first | refine n1_ fun b_ => ?_ | refine n2_ fun b_ => ?_ | refine Nat1.mk fun q_ hq_ => ?_ | refine em_ fun x_ hx_ => ?_ | refine Elem1.mk fun e_ he_ => ?_); refine g0_ ?_))
               exact ⟨[], Nat.zero_le _, rfl, by (first | exact ⟨_, .refl _⟩ | exact wkMem.rfl' | exact ⟨_, .swap _ _ _⟩ | (repeat (first | exact wkMem.nil _ | exact wkMem.rfl' | exact wk_snoc _ _ _ | exact wk_fam (by assumption) _ _ _ | exact wk_famN (by assumption) _ _ _ | (apply wkMem.cons; (case' hl => (repeat (first | exact .here _ _ _ | apply Look.there)))) | apply wkMem.skip)))⟩)
        · rw [if_neg h0] at hres
          have hL : 1 ≤ ds.length := List.length_pos_iff.2 h0
          rw [List.take_length] at hN
          rw [← hN] at hres
          (refine g0_ ?_; repeat ((first | refine n1_ fun b_ => ?_ | refine n2_ fun b_ => ?_ | refine Nat1.mk fun q_ hq_ => ?_ | refine em_ fun x_ hx_ => ?_ | refine Elem1.mk fun e_ he_ => ?_); refine g0_ ?_))
          (refine g1_ ?_; repeat ((first | refine n1_ fun b_ => ?_ | refine n2_ fun b_ => ?_ | refine Nat1.mk fun q_ hq_ => ?_ | refine em_ fun x_ hx_ => ?_ | refine Elem1.mk fun e_ he_ => ?_); refine g1_ ?_))
          cases h4 : expQ s (i + 3 + ds.length) 58 with
          | error e =>
            rw [h4] at hres
            subst hres
            have hx := wantX_bad W b s (i + 3 + ds.length) e its hs g2 58 h4
            unfold xM at hx
            refine ACalls.lend (hx) (r := []) (.refl _) ?_
            rintro _ -
            (refine g0_ ?_; repeat ((first | refine n1_ fun b_ => ?_ | refine n2_ fun b_ => ?_ | refine Nat1.mk fun q_ hq_ => ?_ | refine em_ fun x_ hx_ => ?_ | refine Elem1.mk fun e_ he_ => ?_); refine g0_ ?_))
            (refine g1_ ?_; repeat ((first | refine n1_ fun b_ => ?_ | refine n2_ fun b_ => ?_ | refine Nat1.mk fun q_ hq_ => ?_ | refine em_ fun x_ hx_ => ?_ | refine Elem1.mk fun e_ he_ => ?_); refine g1_ ?_))
            exact ⟨[], Nat.zero_le _, rfl, by (first | exact ⟨_, .refl _⟩ | exact wkMem.rfl' | exact ⟨_, .swap _ _ _⟩ | (repeat (first | exact wkMem.nil _ | exact wkMem.rfl' | exact wk_snoc _ _ _ | exact wk_fam (by assumption) _ _ _ | exact wk_famN (by assumption) _ _ _ | (apply wkMem.cons; (case' hl => (repeat (first | exact .here _ _ _ | apply Look.there)))) | apply wkMem.skip)))⟩
          | ok m1 =>
            rw [h4] at hres
            dsimp only at hres
            have hx := wantX_ok W b s (i + 3 + ds.length) m1 its hs 58 h4
            obtain ⟨-, e2, hm1⟩ := expQ_ok h4
            unfold xM at hx
            refine ACalls.lend (hx) (r := []) (.refl _) ?_
            rintro _ -
            (refine g0_ ?_; repeat ((first | refine n1_ fun b_ => ?_ | refine n2_ fun b_ => ?_ | refine Nat1.mk fun q_ hq_ => ?_ | refine em_ fun x_ hx_ => ?_ | refine Elem1.mk fun e_ he_ => ?_); refine g0_ ?_))
            (refine g1_ ?_; repeat ((first | refine n1_ fun b_ => ?_ | refine n2_ fun b_ => ?_ | refine Nat1.mk fun q_ hq_ => ?_ | refine em_ fun x_ hx_ => ?_ | refine Elem1.mk fun e_ he_ => ?_); refine g1_ ?_))
            cases hn : nameQ s m1 with
            | error e =>
              rw [hn] at hres
              subst hres
              have hx := valueX_bad W b s m1 e its hs hm1 hn
              have hcu := cutOf_ok W [] (N : Int) (by decide)
              rw [show cutL [] (N : Int) = [] by unfold cutL; rw [List.take_nil]] at hcu
              unfold xM at hx
              refine ACalls.lend (hx) (r := []) (.refl _) ?_
              rintro _ -
              (refine g0_ ?_; repeat ((first | refine n1_ fun b_ => ?_ | refine n2_ fun b_ => ?_ | refine Nat1.mk fun q_ hq_ => ?_ | refine em_ fun x_ hx_ => ?_ | refine Elem1.mk fun e_ he_ => ?_); refine g0_ ?_))
              refine (hcu).use ?_; (refine g0_ ?_; repeat ((first | refine n1_ fun b_ => ?_ | refine n2_ fun b_ => ?_ | refine Nat1.mk fun q_ hq_ => ?_ | refine em_ fun x_ hx_ => ?_ | refine Elem1.mk fun e_ he_ => ?_); refine g0_ ?_))
              (refine g1_ ?_; repeat ((first | refine n1_ fun b_ => ?_ | refine n2_ fun b_ => ?_ | refine Nat1.mk fun q_ hq_ => ?_ | refine em_ fun x_ hx_ => ?_ | refine Elem1.mk fun e_ he_ => ?_); refine g1_ ?_))
              exact ⟨[], Nat.zero_le _, rfl, by (first | exact ⟨_, .refl _⟩ | exact wkMem.rfl' | exact ⟨_, .swap _ _ _⟩ | (repeat (first | exact wkMem.nil _ | exact wkMem.rfl' | exact wk_snoc _ _ _ | exact wk_fam (by assumption) _ _ _ | exact wk_famN (by assumption) _ _ _ | (apply wkMem.cons; (case' hl => (repeat (first | exact .here _ _ _ | apply Look.there)))) | apply wkMem.skip)))⟩
            | ok y =>
              obtain ⟨n, m2⟩ := y
              rw [hn] at hres
              dsimp only at hres
              obtain ⟨a1, a2, -⟩ := nameQ_ok hm1 hn
              have hx := valueX_ok W b s n m1 m2 its hits hs hm1 hn
              have hvl := valQ_len hv n
              have hcu := cutOf_ok W (valQ its n) (N : Int) (by omega)
              have hcl := cutL_len (valQ its n) (N : Int)
              have hout : (cutL (valQ its n) (N : Int)).length ≤ 4000 * (s.length - i) := by omega
              generalize cutL (valQ its n) (N : Int) = cv at *
              generalize valQ its n = v at *
              unfold xM at hx
              refine ACalls.lend (hx) (r := []) (.refl _) ?_
              rintro _ -
              (refine g0_ ?_; repeat ((first | refine n1_ fun b_ => ?_ | refine n2_ fun b_ => ?_ | refine Nat1.mk fun q_ hq_ => ?_ | refine em_ fun x_ hx_ => ?_ | refine Elem1.mk fun e_ he_ => ?_); refine g0_ ?_))
              refine (hcu).use ?_; (refine g0_ ?_; repeat ((first | refine n1_ fun b_ => ?_ | refine n2_ fun b_ => ?_ | refine Nat1.mk fun q_ hq_ => ?_ | refine em_ fun x_ hx_ => ?_ | refine Elem1.mk fun e_ he_ => ?_); refine g0_ ?_))
              (refine g1_ ?_; repeat ((first | refine n1_ fun b_ => ?_ | refine n2_ fun b_ => ?_ | refine Nat1.mk fun q_ hq_ => ?_ | refine em_ fun x_ hx_ => ?_ | refine Elem1.mk fun e_ he_ => ?_); refine g1_ ?_))
              cases h9 : expQ s m2 125 with
              | error e =>
                rw [h9] at hres
                subst hres
                have hx := wantX_bad W b s m2 e its hs (by omega) 125 h9
                unfold xM at hx
                refine ACalls.lend (hx) (r := []) (.refl _) ?_
                rintro _ -
                (refine g0_ ?_; repeat ((first | refine n1_ fun b_ => ?_ | refine n2_ fun b_ => ?_ | refine Nat1.mk fun q_ hq_ => ?_ | refine em_ fun x_ hx_ => ?_ | refine Elem1.mk fun e_ he_ => ?_); refine g0_ ?_))
                exact ⟨_, hout, rfl, by (first | exact ⟨_, .refl _⟩ | exact wkMem.rfl' | exact ⟨_, .swap _ _ _⟩ | (repeat (first | exact wkMem.nil _ | exact wkMem.rfl' | exact wk_snoc _ _ _ | exact wk_fam (by assumption) _ _ _ | exact wk_famN (by assumption) _ _ _ | (apply wkMem.cons; (case' hl => (repeat (first | exact .here _ _ _ | apply Look.there)))) | apply wkMem.skip)))⟩
              | ok m9 =>
                rw [h9] at hres
                subst hres
                have hx := wantX_ok W b s m2 m9 its hs 125 h9
                unfold xM at hx
                refine ACalls.lend (hx) (r := []) (.refl _) ?_
                rintro _ -
                (refine g0_ ?_; repeat ((first | refine n1_ fun b_ => ?_ | refine n2_ fun b_ => ?_ | refine Nat1.mk fun q_ hq_ => ?_ | refine em_ fun x_ hx_ => ?_ | refine Elem1.mk fun e_ he_ => ?_); refine g0_ ?_))
                exact ⟨_, rfl, rfl, by (first | exact ⟨_, .refl _⟩ | exact wkMem.rfl' | exact ⟨_, .swap _ _ _⟩ | (repeat (first | exact wkMem.nil _ | exact wkMem.rfl' | exact wk_snoc _ _ _ | exact wk_fam (by assumption) _ _ _ | exact wk_famN (by assumption) _ _ _ | (apply wkMem.cons; (case' hl => (repeat (first | exact .here _ _ _ | apply Look.there)))) | apply wkMem.skip)))⟩
      · replace hc3 : ¬ (48 ≤ c.toNat ∧ c.toNat ≤ 57) := hc3.resolve_left h3
        (refine g0_ ?_; repeat ((first | refine n1_ fun b_ => ?_ | refine n2_ fun b_ => ?_ | refine Nat1.mk fun q_ hq_ => ?_ | refine em_ fun x_ hx_ => ?_ | refine Elem1.mk fun e_ he_ => ?_); refine g0_ ?_))
        refine head_ ?_; (refine g0_ ?_; repeat ((first | refine n1_ fun b_ => ?_ | refine n2_ fun b_ => ?_ | refine Nat1.mk fun q_ hq_ => ?_ | refine em_ fun x_ hx_ => ?_ | refine Elem1.mk fun e_ he_ => ?_); refine g0_ ?_))
        (refine g1_ ?_; repeat ((first | refine n1_ fun b_ => ?_ | refine n2_ fun b_ => ?_ | refine Nat1.mk fun q_ hq_ => ?_ | refine em_ fun x_ hx_ => ?_ | refine Elem1.mk fun e_ he_ => ?_); refine g1_ ?_))
        (repeat ((rw [hc] at he_; obtain rfl := Option.some.inj he_; clear he_); (refine g1_ ?_; repeat ((first | refine n1_ fun b_ => ?_ | refine n2_ fun b_ => ?_ | refine Nat1.mk fun q_ hq_ => ?_ | refine em_ fun x_ hx_ => ?_ | refine Elem1.mk fun e_ he_ => ?_); refine g1_ ?_))))
        refine brec ?_; intro c_ hq; (try rw [hq]); cases c_ <;> replace hq := nm_ hq
        · clear hq
          (refine g0_ ?_; repeat ((first | refine n1_ fun b_ => ?_ | refine n2_ fun b_ => ?_ | refine Nat1.mk fun q_ hq_ => ?_ | refine em_ fun x_ hx_ => ?_ | refine Elem1.mk fun e_ he_ => ?_); refine g0_ ?_))
          by_cases h0 : ds = []
          · rw [if_pos h0] at hres
            first
              | (rw [h0] at h3; exact absurd h3 (by decide))
              | (subst hres h0
                 have hx := failX_ok W b s (i + 3) (i + 3) its
                 have hz : ([] : List UInt8).length = 0 := rfl
                 unfold xM at hx
                 (refine g0_ ?_; repeat ((first | refine n1_ fun b_ => ?_ | refine n2_ fun b_ => ?_ | refine Nat1.mk fun q_ hq_ => ?_ | refine em_ fun x_ hx_ => ?_ | refine Elem1.mk fun e_ he_ => ?_); refine g0_ ?_))
                 (refine g1_ ?_; repeat ((first | refine n1_ fun b_ => ?_ | refine n2_ fun b_ => ?_ | refine Nat1.mk fun q_ hq_ => ?_ | refine em_ fun x_ hx_ => ?_ | refine Elem1.mk fun e_ he_ => ?_); refine g1_ ?_))
                 refine ACalls.lend (hx) (r := []) (.refl _) ?_
                 rintro _ -
                 (refine g0_ ?_; repeat ((first | refine n1_ fun b_ => ?_ | refine n2_ fun b_ => ?_ | refine Nat1.mk fun q_ hq_ => ?_ | refine em_ fun x_ hx_ => ?_ | refine Elem1.mk fun e_ he_ => ?_); refine g0_ ?_))
                 exact ⟨[], Nat.zero_le _, rfl, by (first | exact ⟨_, .refl _⟩ | exact wkMem.rfl' | exact ⟨_, .swap _ _ _⟩ | (repeat (first | exact wkMem.nil _ | exact wkMem.rfl' | exact wk_snoc _ _ _ | exact wk_fam (by assumption) _ _ _ | exact wk_famN (by assumption) _ _ _ | (apply wkMem.cons; (case' hl => (repeat (first | exact .here _ _ _ | apply Look.there)))) | apply wkMem.skip)))⟩)
          · rw [if_neg h0] at hres
            have hL : 1 ≤ ds.length := List.length_pos_iff.2 h0
            rw [List.take_length] at hN
            rw [← hN] at hres
            (refine g0_ ?_; repeat ((first | refine n1_ fun b_ => ?_ | refine n2_ fun b_ => ?_ | refine Nat1.mk fun q_ hq_ => ?_ | refine em_ fun x_ hx_ => ?_ | refine Elem1.mk fun e_ he_ => ?_); refine g0_ ?_))
            (refine g1_ ?_; repeat ((first | refine n1_ fun b_ => ?_ | refine n2_ fun b_ => ?_ | refine Nat1.mk fun q_ hq_ => ?_ | refine em_ fun x_ hx_ => ?_ | refine Elem1.mk fun e_ he_ => ?_); refine g1_ ?_))
            cases h4 : expQ s (i + 3 + ds.length) 58 with
            | error e =>
              rw [h4] at hres
              subst hres
              have hx := wantX_bad W b s (i + 3 + ds.length) e its hs g2 58 h4
              unfold xM at hx
              refine ACalls.lend (hx) (r := []) (.refl _) ?_
              rintro _ -
              (refine g0_ ?_; repeat ((first | refine n1_ fun b_ => ?_ | refine n2_ fun b_ => ?_ | refine Nat1.mk fun q_ hq_ => ?_ | refine em_ fun x_ hx_ => ?_ | refine Elem1.mk fun e_ he_ => ?_); refine g0_ ?_))
              (refine g1_ ?_; repeat ((first | refine n1_ fun b_ => ?_ | refine n2_ fun b_ => ?_ | refine Nat1.mk fun q_ hq_ => ?_ | refine em_ fun x_ hx_ => ?_ | refine Elem1.mk fun e_ he_ => ?_); refine g1_ ?_))
              exact ⟨[], Nat.zero_le _, rfl, by (first | exact ⟨_, .refl _⟩ | exact wkMem.rfl' | exact ⟨_, .swap _ _ _⟩ | (repeat (first | exact wkMem.nil _ | exact wkMem.rfl' | exact wk_snoc _ _ _ | exact wk_fam (by assumption) _ _ _ | exact wk_famN (by assumption) _ _ _ | (apply wkMem.cons; (case' hl => (repeat (first | exact .here _ _ _ | apply Look.there)))) | apply wkMem.skip)))⟩
            | ok m1 =>
              rw [h4] at hres
              dsimp only at hres
              have hx := wantX_ok W b s (i + 3 + ds.length) m1 its hs 58 h4
              obtain ⟨-, e2, hm1⟩ := expQ_ok h4
              unfold xM at hx
              refine ACalls.lend (hx) (r := []) (.refl _) ?_
              rintro _ -
              (refine g0_ ?_; repeat ((first | refine n1_ fun b_ => ?_ | refine n2_ fun b_ => ?_ | refine Nat1.mk fun q_ hq_ => ?_ | refine em_ fun x_ hx_ => ?_ | refine Elem1.mk fun e_ he_ => ?_); refine g0_ ?_))
              (refine g1_ ?_; repeat ((first | refine n1_ fun b_ => ?_ | refine n2_ fun b_ => ?_ | refine Nat1.mk fun q_ hq_ => ?_ | refine em_ fun x_ hx_ => ?_ | refine Elem1.mk fun e_ he_ => ?_); refine g1_ ?_))
              cases hn : nameQ s m1 with
              | error e =>
                rw [hn] at hres
                subst hres
                have hx := valueX_bad W b s m1 e its hs hm1 hn
                have hcu := cutOf_ok W [] (N : Int) (by decide)
                rw [show cutL [] (N : Int) = [] by unfold cutL; rw [List.take_nil]] at hcu
                unfold xM at hx
                refine ACalls.lend (hx) (r := []) (.refl _) ?_
                rintro _ -
                (refine g0_ ?_; repeat ((first | refine n1_ fun b_ => ?_ | refine n2_ fun b_ => ?_ | refine Nat1.mk fun q_ hq_ => ?_ | refine em_ fun x_ hx_ => ?_ | refine Elem1.mk fun e_ he_ => ?_); refine g0_ ?_))
                refine (hcu).use ?_; (refine g0_ ?_; repeat ((first | refine n1_ fun b_ => ?_ | refine n2_ fun b_ => ?_ | refine Nat1.mk fun q_ hq_ => ?_ | refine em_ fun x_ hx_ => ?_ | refine Elem1.mk fun e_ he_ => ?_); refine g0_ ?_))
                (refine g1_ ?_; repeat ((first | refine n1_ fun b_ => ?_ | refine n2_ fun b_ => ?_ | refine Nat1.mk fun q_ hq_ => ?_ | refine em_ fun x_ hx_ => ?_ | refine Elem1.mk fun e_ he_ => ?_); refine g1_ ?_))
                exact ⟨[], Nat.zero_le _, rfl, by (first | exact ⟨_, .refl _⟩ | exact wkMem.rfl' | exact ⟨_, .swap _ _ _⟩ | (repeat (first | exact wkMem.nil _ | exact wkMem.rfl' | exact wk_snoc _ _ _ | exact wk_fam (by assumption) _ _ _ | exact wk_famN (by assumption) _ _ _ | (apply wkMem.cons; (case' hl => (repeat (first | exact .here _ _ _ | apply Look.there)))) | apply wkMem.skip)))⟩
              | ok y =>
                obtain ⟨n, m2⟩ := y
                rw [hn] at hres
                dsimp only at hres
                obtain ⟨a1, a2, -⟩ := nameQ_ok hm1 hn
                have hx := valueX_ok W b s n m1 m2 its hits hs hm1 hn
                have hvl := valQ_len hv n
                have hcu := cutOf_ok W (valQ its n) (N : Int) (by omega)
                have hcl := cutL_len (valQ its n) (N : Int)
                have hout : (cutL (valQ its n) (N : Int)).length ≤ 4000 * (s.length - i) := by omega
                generalize cutL (valQ its n) (N : Int) = cv at *
                generalize valQ its n = v at *
                unfold xM at hx
                refine ACalls.lend (hx) (r := []) (.refl _) ?_
                rintro _ -
                (refine g0_ ?_; repeat ((first | refine n1_ fun b_ => ?_ | refine n2_ fun b_ => ?_ | refine Nat1.mk fun q_ hq_ => ?_ | refine em_ fun x_ hx_ => ?_ | refine Elem1.mk fun e_ he_ => ?_); refine g0_ ?_))
                refine (hcu).use ?_; (refine g0_ ?_; repeat ((first | refine n1_ fun b_ => ?_ | refine n2_ fun b_ => ?_ | refine Nat1.mk fun q_ hq_ => ?_ | refine em_ fun x_ hx_ => ?_ | refine Elem1.mk fun e_ he_ => ?_); refine g0_ ?_))
                (refine g1_ ?_; repeat ((first | refine n1_ fun b_ => ?_ | refine n2_ fun b_ => ?_ | refine Nat1.mk fun q_ hq_ => ?_ | refine em_ fun x_ hx_ => ?_ | refine Elem1.mk fun e_ he_ => ?_); refine g1_ ?_))
                cases h9 : expQ s m2 125 with
                | error e =>
                  rw [h9] at hres
                  subst hres
                  have hx := wantX_bad W b s m2 e its hs (by omega) 125 h9
                  unfold xM at hx
                  refine ACalls.lend (hx) (r := []) (.refl _) ?_
                  rintro _ -
                  (refine g0_ ?_; repeat ((first | refine n1_ fun b_ => ?_ | refine n2_ fun b_ => ?_ | refine Nat1.mk fun q_ hq_ => ?_ | refine em_ fun x_ hx_ => ?_ | refine Elem1.mk fun e_ he_ => ?_); refine g0_ ?_))
                  exact ⟨_, hout, rfl, by (first | exact ⟨_, .refl _⟩ | exact wkMem.rfl' | exact ⟨_, .swap _ _ _⟩ | (repeat (first | exact wkMem.nil _ | exact wkMem.rfl' | exact wk_snoc _ _ _ | exact wk_fam (by assumption) _ _ _ | exact wk_famN (by assumption) _ _ _ | (apply wkMem.cons; (case' hl => (repeat (first | exact .here _ _ _ | apply Look.there)))) | apply wkMem.skip)))⟩
                | ok m9 =>
                  rw [h9] at hres
                  subst hres
                  have hx := wantX_ok W b s m2 m9 its hs 125 h9
                  unfold xM at hx
                  refine ACalls.lend (hx) (r := []) (.refl _) ?_
                  rintro _ -
                  (refine g0_ ?_; repeat ((first | refine n1_ fun b_ => ?_ | refine n2_ fun b_ => ?_ | refine Nat1.mk fun q_ hq_ => ?_ | refine em_ fun x_ hx_ => ?_ | refine Elem1.mk fun e_ he_ => ?_); refine g0_ ?_))
                  exact ⟨_, rfl, rfl, by (first | exact ⟨_, .refl _⟩ | exact wkMem.rfl' | exact ⟨_, .swap _ _ _⟩ | (repeat (first | exact wkMem.nil _ | exact wkMem.rfl' | exact wk_snoc _ _ _ | exact wk_fam (by assumption) _ _ _ | exact wk_famN (by assumption) _ _ _ | (apply wkMem.cons; (case' hl => (repeat (first | exact .here _ _ _ | apply Look.there)))) | apply wkMem.skip)))⟩
        · (refine g0_ ?_; repeat ((first | refine n1_ fun b_ => ?_ | refine n2_ fun b_ => ?_ | refine Nat1.mk fun q_ hq_ => ?_ | refine em_ fun x_ hx_ => ?_ | refine Elem1.mk fun e_ he_ => ?_); refine g0_ ?_))
          (repeat ((rw [hc] at he_; obtain rfl := Option.some.inj he_; clear he_); (refine g0_ ?_; repeat ((first | refine n1_ fun b_ => ?_ | refine n2_ fun b_ => ?_ | refine Nat1.mk fun q_ hq_ => ?_ | refine em_ fun x_ hx_ => ?_ | refine Elem1.mk fun e_ he_ => ?_); refine g0_ ?_))))
          refine brec ?_; intro c_ hq2; (try rw [hq2]); cases c_ <;> replace hq2 := nm_ hq2
          · clear hq hq2
            (refine g0_ ?_; repeat ((first | refine n1_ fun b_ => ?_ | refine n2_ fun b_ => ?_ | refine Nat1.mk fun q_ hq_ => ?_ | refine em_ fun x_ hx_ => ?_ | refine Elem1.mk fun e_ he_ => ?_); refine g0_ ?_))
            by_cases h0 : ds = []
            · rw [if_pos h0] at hres
              first
                | (rw [h0] at h3; exact absurd h3 (by decide))
                | (subst hres h0
                   have hx := failX_ok W b s (i + 3) (i + 3) its
                   have hz : ([] : List UInt8).length = 0 := rfl
                   unfold xM at hx
                   (refine g0_ ?_; repeat ((first | refine n1_ fun b_ => ?_ | refine n2_ fun b_ => ?_ | refine Nat1.mk fun q_ hq_ => ?_ | refine em_ fun x_ hx_ => ?_ | refine Elem1.mk fun e_ he_ => ?_); refine g0_ ?_))
                   (refine g1_ ?_; repeat ((first | refine n1_ fun b_ => ?_ | refine n2_ fun b_ => ?_ | refine Nat1.mk fun q_ hq_ => ?_ | refine em_ fun x_ hx_ => ?_ | refine Elem1.mk fun e_ he_ => ?_); refine g1_ ?_))
                   refine ACalls.lend (hx) (r := []) (.refl _) ?_
                   rintro _ -
                   (refine g0_ ?_; repeat ((first | refine n1_ fun b_ => ?_ | refine n2_ fun b_ => ?_ | refine Nat1.mk fun q_ hq_ => ?_ | refine em_ fun x_ hx_ => ?_ | refine Elem1.mk fun e_ he_ => ?_); refine g0_ ?_))
                   exact ⟨[], Nat.zero_le _, rfl, by (first | exact ⟨_, .refl _⟩ | exact wkMem.rfl' | exact ⟨_, .swap _ _ _⟩ | (repeat (first | exact wkMem.nil _ | exact wkMem.rfl' | exact wk_snoc _ _ _ | exact wk_fam (by assumption) _ _ _ | exact wk_famN (by assumption) _ _ _ | (apply wkMem.cons; (case' hl => (repeat (first | exact .here _ _ _ | apply Look.there)))) | apply wkMem.skip)))⟩)
            · rw [if_neg h0] at hres
              have hL : 1 ≤ ds.length := List.length_pos_iff.2 h0
              rw [List.take_length] at hN
              rw [← hN] at hres
              (refine g0_ ?_; repeat ((first | refine n1_ fun b_ => ?_ | refine n2_ fun b_ => ?_ | refine Nat1.mk fun q_ hq_ => ?_ | refine em_ fun x_ hx_ => ?_ | refine Elem1.mk fun e_ he_ => ?_); refine g0_ ?_))
              (refine g1_ ?_; repeat ((first | refine n1_ fun b_ => ?_ | refine n2_ fun b_ => ?_ | refine Nat1.mk fun q_ hq_ => ?_ | refine em_ fun x_ hx_ => ?_ | refine Elem1.mk fun e_ he_ => ?_); refine g1_ ?_))
              cases h4 : expQ s (i + 3 + ds.length) 58 with
              | error e =>
                rw [h4] at hres
                subst hres
                have hx := wantX_bad W b s (i + 3 + ds.length) e its hs g2 58 h4
                unfold xM at hx
                refine ACalls.lend (hx) (r := []) (.refl _) ?_
                rintro _ -
                (refine g0_ ?_; repeat ((first | refine n1_ fun b_ => ?_ | refine n2_ fun b_ => ?_ | refine Nat1.mk fun q_ hq_ => ?_ | refine em_ fun x_ hx_ => ?_ | refine Elem1.mk fun e_ he_ => ?_); refine g0_ ?_))
                (refine g1_ ?_; repeat ((first | refine n1_ fun b_ => ?_ | refine n2_ fun b_ => ?_ | refine Nat1.mk fun q_ hq_ => ?_ | refine em_ fun x_ hx_ => ?_ | refine Elem1.mk fun e_ he_ => ?_); refine g1_ ?_))
                exact ⟨[], Nat.zero_le _, rfl, by (first | exact ⟨_, .refl _⟩ | exact wkMem.rfl' | exact ⟨_, .swap _ _ _⟩ | (repeat (first | exact wkMem.nil _ | exact wkMem.rfl' | exact wk_snoc _ _ _ | exact wk_fam (by assumption) _ _ _ | exact wk_famN (by assumption) _ _ _ | (apply wkMem.cons; (case' hl => (repeat (first | exact .here _ _ _ | apply Look.there)))) | apply wkMem.skip)))⟩
              | ok m1 =>
                rw [h4] at hres
                dsimp only at hres
                have hx := wantX_ok W b s (i + 3 + ds.length) m1 its hs 58 h4
                obtain ⟨-, e2, hm1⟩ := expQ_ok h4
                unfold xM at hx
                refine ACalls.lend (hx) (r := []) (.refl _) ?_
                rintro _ -
                (refine g0_ ?_; repeat ((first | refine n1_ fun b_ => ?_ | refine n2_ fun b_ => ?_ | refine Nat1.mk fun q_ hq_ => ?_ | refine em_ fun x_ hx_ => ?_ | refine Elem1.mk fun e_ he_ => ?_); refine g0_ ?_))
                (refine g1_ ?_; repeat ((first | refine n1_ fun b_ => ?_ | refine n2_ fun b_ => ?_ | refine Nat1.mk fun q_ hq_ => ?_ | refine em_ fun x_ hx_ => ?_ | refine Elem1.mk fun e_ he_ => ?_); refine g1_ ?_))
                cases hn : nameQ s m1 with
                | error e =>
                  rw [hn] at hres
                  subst hres
                  have hx := valueX_bad W b s m1 e its hs hm1 hn
                  have hcu := cutOf_ok W [] (N : Int) (by decide)
                  rw [show cutL [] (N : Int) = [] by unfold cutL; rw [List.take_nil]] at hcu
                  unfold xM at hx
                  refine ACalls.lend (hx) (r := []) (.refl _) ?_
                  rintro _ -
                  (refine g0_ ?_; repeat ((first | refine n1_ fun b_ => ?_ | refine n2_ fun b_ => ?_ | refine Nat1.mk fun q_ hq_ => ?_ | refine em_ fun x_ hx_ => ?_ | refine Elem1.mk fun e_ he_ => ?_); refine g0_ ?_))
                  refine (hcu).use ?_; (refine g0_ ?_; repeat ((first | refine n1_ fun b_ => ?_ | refine n2_ fun b_ => ?_ | refine Nat1.mk fun q_ hq_ => ?_ | refine em_ fun x_ hx_ => ?_ | refine Elem1.mk fun e_ he_ => ?_); refine g0_ ?_))
                  (refine g1_ ?_; repeat ((first | refine n1_ fun b_ => ?_ | refine n2_ fun b_ => ?_ | refine Nat1.mk fun q_ hq_ => ?_ | refine em_ fun x_ hx_ => ?_ | refine Elem1.mk fun e_ he_ => ?_); refine g1_ ?_))
                  exact ⟨[], Nat.zero_le _, rfl, by (first | exact ⟨_, .refl _⟩ | exact wkMem.rfl' | exact ⟨_, .swap _ _ _⟩ | (repeat (first | exact wkMem.nil _ | exact wkMem.rfl' | exact wk_snoc _ _ _ | exact wk_fam (by assumption) _ _ _ | exact wk_famN (by assumption) _ _ _ | (apply wkMem.cons; (case' hl => (repeat (first | exact .here _ _ _ | apply Look.there)))) | apply wkMem.skip)))⟩
                | ok y =>
                  obtain ⟨n, m2⟩ := y
                  rw [hn] at hres
                  dsimp only at hres
                  obtain ⟨a1, a2, -⟩ := nameQ_ok hm1 hn
                  have hx := valueX_ok W b s n m1 m2 its hits hs hm1 hn
                  have hvl := valQ_len hv n
                  have hcu := cutOf_ok W (valQ its n) (N : Int) (by omega)
                  have hcl := cutL_len (valQ its n) (N : Int)
                  have hout : (cutL (valQ its n) (N : Int)).length ≤ 4000 * (s.length - i) := by omega
                  generalize cutL (valQ its n) (N : Int) = cv at *
                  generalize valQ its n = v at *
                  unfold xM at hx
                  refine ACalls.lend (hx) (r := []) (.refl _) ?_
                  rintro _ -
                  (refine g0_ ?_; repeat ((first | refine n1_ fun b_ => ?_ | refine n2_ fun b_ => ?_ | refine Nat1.mk fun q_ hq_ => ?_ | refine em_ fun x_ hx_ => ?_ | refine Elem1.mk fun e_ he_ => ?_); refine g0_ ?_))
                  refine (hcu).use ?_; (refine g0_ ?_; repeat ((first | refine n1_ fun b_ => ?_ | refine n2_ fun b_ => ?_ | refine Nat1.mk fun q_ hq_ => ?_ | refine em_ fun x_ hx_ => ?_ | refine Elem1.mk fun e_ he_ => ?_); refine g0_ ?_))
                  (refine g1_ ?_; repeat ((first | refine n1_ fun b_ => ?_ | refine n2_ fun b_ => ?_ | refine Nat1.mk fun q_ hq_ => ?_ | refine em_ fun x_ hx_ => ?_ | refine Elem1.mk fun e_ he_ => ?_); refine g1_ ?_))
                  cases h9 : expQ s m2 125 with
                  | error e =>
                    rw [h9] at hres
                    subst hres
                    have hx := wantX_bad W b s m2 e its hs (by omega) 125 h9
                    unfold xM at hx
                    refine ACalls.lend (hx) (r := []) (.refl _) ?_
                    rintro _ -
                    (refine g0_ ?_; repeat ((first | refine n1_ fun b_ => ?_ | refine n2_ fun b_ => ?_ | refine Nat1.mk fun q_ hq_ => ?_ | refine em_ fun x_ hx_ => ?_ | refine Elem1.mk fun e_ he_ => ?_); refine g0_ ?_))
                    exact ⟨_, hout, rfl, by (first | exact ⟨_, .refl _⟩ | exact wkMem.rfl' | exact ⟨_, .swap _ _ _⟩ | (repeat (first | exact wkMem.nil _ | exact wkMem.rfl' | exact wk_snoc _ _ _ | exact wk_fam (by assumption) _ _ _ | exact wk_famN (by assumption) _ _ _ | (apply wkMem.cons; (case' hl => (repeat (first | exact .here _ _ _ | apply Look.there)))) | apply wkMem.skip)))⟩
                  | ok m9 =>
                    rw [h9] at hres
                    subst hres
                    have hx := wantX_ok W b s m2 m9 its hs 125 h9
                    unfold xM at hx
                    refine ACalls.lend (hx) (r := []) (.refl _) ?_
                    rintro _ -
                    (refine g0_ ?_; repeat ((first | refine n1_ fun b_ => ?_ | refine n2_ fun b_ => ?_ | refine Nat1.mk fun q_ hq_ => ?_ | refine em_ fun x_ hx_ => ?_ | refine Elem1.mk fun e_ he_ => ?_); refine g0_ ?_))
                    exact ⟨_, rfl, rfl, by (first | exact ⟨_, .refl _⟩ | exact wkMem.rfl' | exact ⟨_, .swap _ _ _⟩ | (repeat (first | exact wkMem.nil _ | exact wkMem.rfl' | exact wk_snoc _ _ _ | exact wk_fam (by assumption) _ _ _ | exact wk_famN (by assumption) _ _ _ | (apply wkMem.cons; (case' hl => (repeat (first | exact .here _ _ _ | apply Look.there)))) | apply wkMem.skip)))⟩
          · exfalso
            omega
  · obtain ⟨c, hc, hc2, hcd⟩ := q1 (by omega)
    have hN' : N * 10 + (c.toNat - 48) = (ds.take (j + 1)).foldl stQ 0 := by
      rw [take_snoc_of hc2, List.foldl_append, ← hN]
      rfl
    have hN2 : N * 10 + (c.toNat - 48) < 10 ^ (j + 1) := by rw [Nat.pow_succ]; omega
    clear hat q1 q2 hN
    have hlt := lt_of_at hc
    (refine g0_ ?_; repeat ((first | refine n1_ fun b_ => ?_ | refine n2_ fun b_ => ?_ | refine Nat1.mk fun q_ hq_ => ?_ | refine em_ fun x_ hx_ => ?_ | refine Elem1.mk fun e_ he_ => ?_); refine g0_ ?_))
    refine head_ ?_; (refine g0_ ?_; repeat ((first | refine n1_ fun b_ => ?_ | refine n2_ fun b_ => ?_ | refine Nat1.mk fun q_ hq_ => ?_ | refine em_ fun x_ hx_ => ?_ | refine Elem1.mk fun e_ he_ => ?_); refine g0_ ?_))
    (refine g1_ ?_; repeat ((first | refine n1_ fun b_ => ?_ | refine n2_ fun b_ => ?_ | refine Nat1.mk fun q_ hq_ => ?_ | refine em_ fun x_ hx_ => ?_ | refine Elem1.mk fun e_ he_ => ?_); refine g1_ ?_))
    (repeat ((rw [hc] at he_; obtain rfl := Option.some.inj he_; clear he_); (refine g1_ ?_; repeat ((first | refine n1_ fun b_ => ?_ | refine n2_ fun b_ => ?_ | refine Nat1.mk fun q_ hq_ => ?_ | refine em_ fun x_ hx_ => ?_ | refine Elem1.mk fun e_ he_ => ?_); refine g1_ ?_))))
    refine head_ ?_; (refine g0_ ?_; repeat ((first | refine n1_ fun b_ => ?_ | refine n2_ fun b_ => ?_ | refine Nat1.mk fun q_ hq_ => ?_ | refine em_ fun x_ hx_ => ?_ | refine Elem1.mk fun e_ he_ => ?_); refine g0_ ?_))
    (refine g1_ ?_; repeat ((first | refine n1_ fun b_ => ?_ | refine n2_ fun b_ => ?_ | refine Nat1.mk fun q_ hq_ => ?_ | refine em_ fun x_ hx_ => ?_ | refine Elem1.mk fun e_ he_ => ?_); refine g1_ ?_))
    (repeat ((rw [hc] at he_; obtain rfl := Option.some.inj he_; clear he_); (refine g1_ ?_; repeat ((first | refine n1_ fun b_ => ?_ | refine n2_ fun b_ => ?_ | refine Nat1.mk fun q_ hq_ => ?_ | refine em_ fun x_ hx_ => ?_ | refine Elem1.mk fun e_ he_ => ?_); refine g1_ ?_))))
    refine nx_ (j + 1, N * 10 + (c.toNat - 48)) ?_ ?_
    · exact ⟨by omega, hN', hN2⟩
    · ((try dsimp only); (try simp only [List.length_drop, List.length_take, List.length_append, List.length_cons, List.length_nil, List.length_map] at *); omega)
end Go.Eng.YtkenlcaifhffoaaDoor
end

/- Formats: Expand of any text (b_ x_ q_ e_). -/
section
namespace Go.Eng
open Go
variable {P : Program} {W : World}
theorem Rescue.permF {f : FuncId} {caps : List PV} {σ τ : Mem} {pv : PV} {k : Mem → Prop} (h : Rescue P W f caps τ pv k) (hp : σ.Perm τ) : Rescue P W f caps σ pv k := by
  intro K w vs v hl hr hm hpre hv
  refine (h K w vs v hl hr (hm.perm hp) (hpre.perm hp) hv).mono ?_
  rintro e u' w' ⟨h1, h2, σ', K', h3, h4, h5⟩
  exact ⟨h1, h2, σ', K', h3, h4, h5.perm hp.symm (.refl _)⟩
def ifaceF : TypeDesc → Bool
  | .interface _ => true
  | _ => false
theorem opLaw_asF {x : Operand} {s u : TypeId} {env : Env} {σ : Mem} {k : PV → Mem → Prop} {t : TypeId} {p : PV} {d : TypeDesc} (hx : ev env x = .ifc t p) (hu : P.underlying u = some d) (hni : ifaceF d = false) (hc : cellsB (zeroV P u) = true)
    (hk : k (bif Nat.beq t u then .tup [p, .bool true] else .tup [zeroV P u, .bool false]) σ) : OpLaw P W (.typeAssert x s u true) env σ k := by
  refine ⟨fun o' K w a next Q ho hm hp he hn => ?_⟩
  have h1 := he x (by simp [Op.operands])
  rw [hx] at h1
  cases h2 : a.eval x <;> rw [h2] at h1 <;> cases h1
  rename_i v hv
  obtain ⟨dst, op, type, pos, after, guard⟩ := o'
  dsimp only at ho
  subst ho
  obtain ⟨i, z, hi, hz, hzv⟩ := zeroV_rel hc
  have hrun : ∃ pv r, (Instr.typeAssert (a.eval x) s u true).run P w = .ok r w ∧ VRel K w pv r ∧ k pv σ := by
    refine ⟨_, if t = u then .tuple #[v, .bool true] else .tuple #[z, .bool false], ?_, ?_, hk⟩
    · rw [h2]
      unfold Instr.typeAssert
      rw [Sem.run_bind, run_underlying hu, Result.andThen_ok]
      cases d <;> first | cases hni | skip
      all_goals
        by_cases htu : t = u
        · simp [htu]
        · simp [htu, run_zeroValue hi hz]
    · by_cases htu : t = u
      · subst htu
        simp only [Nat.beq_refl, cond_true, if_true]
        have := VRel.tup (K := K) (w := w) [p, .bool true] [v, .bool true] rfl (fun i hi => by
          match i, hi with
          | 0, _ => exact hv
          | 1, _ => exact .bool _)
        simpa using this
      · have hb : Nat.beq t u = false := by
          cases h : Nat.beq t u with
          | true => exact absurd (Nat.eq_of_beq_eq_true h) htu
          | false => rfl
        rw [hb, if_neg htu, cond_false, hzv]
        have := VRel.tup (K := K) (w := w) [ofV z, .bool false] [z, .bool false] rfl (fun i hi => by
          match i, hi with
          | 0, _ => exact ofV_rel z
          | 1, _ => exact .bool _)
        simpa using this
  exact wp_of_does (s := Instr.typeAssert (a.eval x) s u true) rfl (Does.of_pure hm hrun) hn
end Go.Eng
namespace Go.Eng.YtkenlcaifhffoaaDoor
open Go Go.Eng Go.Proofs Go.RowKit
variable (W : World)
set_option linter.unusedSimpArgs false
set_option maxRecDepth 100000
set_option linter.unusedVariables false
set_option maxHeartbeats 4000000
theorem neq_heldF {t d : TypeId} {p : PV} {xo yo : Operand} (ht : Tryd.prog.underlying t = some (.interface (Tryd.prog.methodsAt t))) : EqLaw Tryd.prog .neq t xo yo (.ifc d p) (.lit .nilIface) true := by
  refine ⟨fun K w u v h1 h2 => ?_⟩
  cases h1; cases h2
  have e0 : ∀ x, (eqGuard .neq t xo yo (.iface d x) .nilIface).run Tryd.prog w = .ok () w := fun x => by simp [eqGuard]
  rw [Sem.run_bind, e0, Result.andThen_ok, run_neq_held_nil w t d _ ht]
/-- What is deferred: where reading stopped, and that it did. -/
theorem rescueF (bA bB bC : Nat) (x0 : List UInt8) (a0 c0 : Int) (e : Nat) (ρ : Mem) :
    Rescue Tryd.prog W 56 [.bref bA 0, .bref bB 0, .bref bC 0] ([⟨bC, .row 1 [.int .i64 c0] 0⟩, ⟨bB, .row 1 [.int .i64 a0] 0⟩, ⟨bA, .row 1 [.str x0] 0⟩] ++ ρ) (stopF e)
      (fun σ' => ∃ ρ', σ' = ([⟨bC, .row 1 [.int .i64 1] 0⟩, ⟨bB, .row 1 [.int .i64 e] 0⟩, ⟨bA, .row 1 [.str []] 0⟩] ++ ρ')) := by
  refine rescue_of (DL_ok (by decide)) Tryd.func56 rfl rfl rfl (by decide) (by decide) (by decide) ?_
  unfold stopF
  skip
  (refine g0_ ?_; repeat ((first | refine n1_ fun b_ => ?_ | refine n2_ fun b_ => ?_ | refine Nat1.mk fun q_ hq_ => ?_ | refine em_ fun x_ hx_ => ?_ | refine Elem1.mk fun e_ he_ => ?_); refine g0_ ?_))
  refine ⟨_, neq_heldF (by kernel_rfl), ?_⟩
  (refine g0_ ?_; repeat ((first | refine n1_ fun b_ => ?_ | refine n2_ fun b_ => ?_ | refine Nat1.mk fun q_ hq_ => ?_ | refine em_ fun x_ hx_ => ?_ | refine Elem1.mk fun e_ he_ => ?_); refine g0_ ?_))
  (refine g1_ ?_; repeat ((first | refine n1_ fun b_ => ?_ | refine n2_ fun b_ => ?_ | refine Nat1.mk fun q_ hq_ => ?_ | refine em_ fun x_ hx_ => ?_ | refine Elem1.mk fun e_ he_ => ?_); refine g1_ ?_))
  refine opLaw_asF rfl Tryd.underlying99 rfl (by decide +kernel) ?_
  (refine g0_ ?_; repeat ((first | refine n1_ fun b_ => ?_ | refine n2_ fun b_ => ?_ | refine Nat1.mk fun q_ hq_ => ?_ | refine em_ fun x_ hx_ => ?_ | refine Elem1.mk fun e_ he_ => ?_); refine g0_ ?_))
  (refine g1_ ?_; repeat ((first | refine n1_ fun b_ => ?_ | refine n2_ fun b_ => ?_ | refine Nat1.mk fun q_ hq_ => ?_ | refine em_ fun x_ hx_ => ?_ | refine Elem1.mk fun e_ he_ => ?_); refine g1_ ?_))
  refine Draws10.chain ⟨5, [.new, .new, .turn, .skip, .skip], [(2, [.again, .again, .keep, .turn, .skip]), (3, [.keep, .keep, .keep, .keep, .turn]), (4, [.keep, .keep, .keep, .keep, .keep])], by decide +kernel, ?_⟩; (refine g0_ ?_; repeat ((first | refine n1_ fun b_ => ?_ | refine n2_ fun b_ => ?_ | refine Nat1.mk fun q_ hq_ => ?_ | refine em_ fun x_ hx_ => ?_ | refine Elem1.mk fun e_ he_ => ?_); refine g0_ ?_))
  exact ⟨_ :: ρ, rfl⟩
theorem expand_long (s : List UInt8) (its : Its) (h : 4000 < s.length ∨ 20 < its.length) (hs2 : s.length ≤ 9223372036854775807) (hi2 : its.length ≤ 9223372036854775807) : Pure Tryd.prog W 21 [.str s, .sl 2 (its.map itV)] (.tup [.str [], .int .i64 0, .int .i64 2]) := by
  have hlm : (its.map itV).length = its.length := List.length_map _
  refine Pure.of (acalls_of_end Tryd.func21 rfl (by decide) rfl ?_)
  refine WpE.seq (DD_ok (by decide)) (.inl rfl) (by decide) ?_
  (refine g0_ ?_; repeat ((first | refine n1_ fun b_ => ?_ | refine n2_ fun b_ => ?_ | refine Nat1.mk fun q_ hq_ => ?_ | refine em_ fun x_ hx_ => ?_ | refine Elem1.mk fun e_ he_ => ?_); refine g0_ ?_))
  rename_i bA bB
  refine WpE.seq (DD_ok (by decide)) (.inl rfl) (by decide) ?_
  (refine g0_ ?_; repeat ((first | refine n1_ fun b_ => ?_ | refine n2_ fun b_ => ?_ | refine Nat1.mk fun q_ hq_ => ?_ | refine em_ fun x_ hx_ => ?_ | refine Elem1.mk fun e_ he_ => ?_); refine g0_ ?_))
  by_cases h1 : 4000 < s.length
  · (refine g1_ ?_; repeat ((first | refine n1_ fun b_ => ?_ | refine n2_ fun b_ => ?_ | refine Nat1.mk fun q_ hq_ => ?_ | refine em_ fun x_ hx_ => ?_ | refine Elem1.mk fun e_ he_ => ?_); refine g1_ ?_))
    exact .refl _
  · have h2 : 20 < its.length := by omega
    (refine g1_ ?_; repeat ((first | refine n1_ fun b_ => ?_ | refine n2_ fun b_ => ?_ | refine Nat1.mk fun q_ hq_ => ?_ | refine em_ fun x_ hx_ => ?_ | refine Elem1.mk fun e_ he_ => ?_); refine g1_ ?_))
    exact .refl _
theorem expand_val (s : List UInt8) (its : Its) (hs : s.length ≤ 4000) (hi : its.length ≤ 20) (hv2 : ∀ x ∈ its, x.2.length ≤ 9223372036854775807) (h : ∃ x ∈ its, 4000 < x.2.length) : Pure Tryd.prog W 21 [.str s, .sl 2 (its.map itV)] (.tup [.str [], .int .i64 0, .int .i64 2]) := by
  have hlm : (its.map itV).length = its.length := List.length_map _
  refine Pure.of (acalls_of_end Tryd.func21 rfl (by decide) rfl ?_)
  skip
  refine WpE.seq (DD_ok (by decide)) (.inl rfl) (by decide) ?_
  (refine g0_ ?_; repeat ((first | refine n1_ fun b_ => ?_ | refine n2_ fun b_ => ?_ | refine Nat1.mk fun q_ hq_ => ?_ | refine em_ fun x_ hx_ => ?_ | refine Elem1.mk fun e_ he_ => ?_); refine g0_ ?_))
  rename_i bA bB
  refine WpE.seq (DD_ok (by decide)) (.inl rfl) (by decide) ?_
  (refine g0_ ?_; repeat ((first | refine n1_ fun b_ => ?_ | refine n2_ fun b_ => ?_ | refine Nat1.mk fun q_ hq_ => ?_ | refine em_ fun x_ hx_ => ?_ | refine Elem1.mk fun e_ he_ => ?_); refine g0_ ?_))
  (refine g1_ ?_; repeat ((first | refine n1_ fun b_ => ?_ | refine n2_ fun b_ => ?_ | refine Nat1.mk fun q_ hq_ => ?_ | refine em_ fun x_ hx_ => ?_ | refine Elem1.mk fun e_ he_ => ?_); refine g1_ ?_))
  refine WpE.seq (DD_ok (by decide)) (.inl rfl) (by decide) ?_
  (refine g0_ ?_; repeat ((first | refine n1_ fun b_ => ?_ | refine n2_ fun b_ => ?_ | refine Nat1.mk fun q_ hq_ => ?_ | refine em_ fun x_ hx_ => ?_ | refine Elem1.mk fun e_ he_ => ?_); refine g0_ ?_))
  obtain ⟨bC, rfl⟩ : ∃ z, z = b_ := ⟨_, rfl⟩
  refine' loopI (α := Nat) (fun i => [(20, .int .i64 i)]) [(0, _), (1, _), (4, _), (5, _), (6, _), (18, _), (19, _)] (fun i => [⟨bC, .row 1 [.int .i64 0] 0⟩, ⟨bB, .row 1 [.int .i64 0] 0⟩, ⟨bA, .row 1 [.str []] 0⟩]) (fun i => i ≤ its.length ∧ ∃ x ∈ its.drop i, 4000 < x.2.length) (fun i => its.length - i) 0 ?_ ?_
  · exact ⟨Nat.zero_le _, h⟩
  rintro i ⟨hil, x, hx, hxl⟩
  by_cases hie : i = its.length
  · subst hie
    rw [List.drop_length] at hx
    cases hx
  · obtain ⟨y, hy⟩ : ∃ y, its[i]? = some y := ⟨_, List.getElem?_eq_getElem (show i < its.length by omega)⟩
    rw [drop_cons_of hy] at hx
    have hyl := hv2 y (List.mem_of_getElem? hy)
    obtain ⟨y1, y2⟩ := y
    dsimp only at hyl
    by_cases hl : 4000 < y2.length
    · clear hx
      (refine g0_ ?_; repeat ((first | refine n1_ fun b_ => ?_ | refine n2_ fun b_ => ?_ | refine Nat1.mk fun q_ hq_ => ?_ | refine em_ fun x_ hx_ => ?_ | refine Elem1.mk fun e_ he_ => ?_); refine g0_ ?_))
      (refine g1_ ?_; repeat ((first | refine n1_ fun b_ => ?_ | refine n2_ fun b_ => ?_ | refine Nat1.mk fun q_ hq_ => ?_ | refine em_ fun x_ hx_ => ?_ | refine Elem1.mk fun e_ he_ => ?_); refine g1_ ?_))
      exact .refl _
    · have hx : x ∈ its.drop (i + 1) := by
        rcases List.mem_cons.1 hx with rfl | h
        · exact absurd hxl hl
        · exact h
      (refine g0_ ?_; repeat ((first | refine n1_ fun b_ => ?_ | refine n2_ fun b_ => ?_ | refine Nat1.mk fun q_ hq_ => ?_ | refine em_ fun x_ hx_ => ?_ | refine Elem1.mk fun e_ he_ => ?_); refine g0_ ?_))
      (refine g1_ ?_; repeat ((first | refine n1_ fun b_ => ?_ | refine n2_ fun b_ => ?_ | refine Nat1.mk fun q_ hq_ => ?_ | refine em_ fun x_ hx_ => ?_ | refine Elem1.mk fun e_ he_ => ?_); refine g1_ ?_))
      refine nx_ (i + 1) ?_ ?_
      · exact ⟨by omega, x, hx, hxl⟩
      · ((try dsimp only); (try simp only [List.length_drop, List.length_take, List.length_append, List.length_cons, List.length_nil, List.length_map] at *); omega)
theorem expand_bad (hT : Tabs W) (hE : ErrJ W) (s : List UInt8) (its : Its) (hs0 : s.length ≤ 4000) (hi : its.length ≤ 20) (hv : ∀ x ∈ its, x.2.length ≤ 4000) (e : Nat) (h : sayQ s its = .error e) : Pure Tryd.prog W 21 [.str s, .sl 2 (its.map itV)] (.tup [.str [], .int .i64 e, .int .i64 1]) := by
  have hg := fun b => untilTop W hT hE b s its hs0 (by omega) hv
  rw [h] at hg
  have hg := fun b => (hg b).bad
  unfold fQ at hg
  clear h
  have hlm : (its.map itV).length = its.length := List.length_map _
  refine Pure.of (acalls_of_endX Tryd.func21 rfl (by decide) rfl ?_)
  skip
  refine WpEX.seq (DD_ok (by decide)) (.inl rfl) (by decide) ?_
  (refine g0_ ?_; repeat ((first | refine n1_ fun b_ => ?_ | refine n2_ fun b_ => ?_ | refine Nat1.mk fun q_ hq_ => ?_ | refine em_ fun x_ hx_ => ?_ | refine Elem1.mk fun e_ he_ => ?_); refine g0_ ?_))
  rename_i bA bB
  refine WpEX.seq (DD_ok (by decide)) (.inl rfl) (by decide) ?_
  (refine g0_ ?_; repeat ((first | refine n1_ fun b_ => ?_ | refine n2_ fun b_ => ?_ | refine Nat1.mk fun q_ hq_ => ?_ | refine em_ fun x_ hx_ => ?_ | refine Elem1.mk fun e_ he_ => ?_); refine g0_ ?_))
  (refine g1_ ?_; repeat ((first | refine n1_ fun b_ => ?_ | refine n2_ fun b_ => ?_ | refine Nat1.mk fun q_ hq_ => ?_ | refine em_ fun x_ hx_ => ?_ | refine Elem1.mk fun e_ he_ => ?_); refine g1_ ?_))
  refine WpEX.seq (DD_ok (by decide)) (.inl rfl) (by decide) ?_
  (refine g0_ ?_; repeat ((first | refine n1_ fun b_ => ?_ | refine n2_ fun b_ => ?_ | refine Nat1.mk fun q_ hq_ => ?_ | refine em_ fun x_ hx_ => ?_ | refine Elem1.mk fun e_ he_ => ?_); refine g0_ ?_))
  obtain ⟨bC, rfl⟩ : ∃ z, z = b_ := ⟨_, rfl⟩
  refine' loopI (α := Nat) (fun i => [(20, .int .i64 i)]) [(0, _), (1, _), (4, _), (5, _), (6, _), (18, _), (19, _)] (fun i => [⟨bC, .row 1 [.int .i64 0] 0⟩, ⟨bB, .row 1 [.int .i64 0] 0⟩, ⟨bA, .row 1 [.str []] 0⟩]) (fun i => i ≤ its.length) (fun i => its.length - i) 0 ?_ ?_
  · exact Nat.zero_le _
  rintro i hil
  by_cases hie : i = its.length
  case neg =>
    obtain ⟨y, hy⟩ : ∃ y, its[i]? = some y := ⟨_, List.getElem?_eq_getElem (show i < its.length by omega)⟩
    have hyl := hv y (List.mem_of_getElem? hy)
    obtain ⟨y1, y2⟩ := y
    dsimp only at hyl
    (refine g0_ ?_; repeat ((first | refine n1_ fun b_ => ?_ | refine n2_ fun b_ => ?_ | refine Nat1.mk fun q_ hq_ => ?_ | refine em_ fun x_ hx_ => ?_ | refine Elem1.mk fun e_ he_ => ?_); refine g0_ ?_))
    (refine g1_ ?_; repeat ((first | refine n1_ fun b_ => ?_ | refine n2_ fun b_ => ?_ | refine Nat1.mk fun q_ hq_ => ?_ | refine em_ fun x_ hx_ => ?_ | refine Elem1.mk fun e_ he_ => ?_); refine g1_ ?_))
    refine nx_ (i + 1) ?_ ?_
    · show i + 1 ≤ its.length
      omega
    · ((try dsimp only); (try simp only [List.length_drop, List.length_take, List.length_append, List.length_cons, List.length_nil, List.length_map] at *); omega)
  subst hie
  (refine g0_ ?_; repeat ((first | refine n1_ fun b_ => ?_ | refine n2_ fun b_ => ?_ | refine Nat1.mk fun q_ hq_ => ?_ | refine em_ fun x_ hx_ => ?_ | refine Elem1.mk fun e_ he_ => ?_); refine g0_ ?_))
  (refine g1_ ?_; repeat ((first | refine n1_ fun b_ => ?_ | refine n2_ fun b_ => ?_ | refine Nat1.mk fun q_ hq_ => ?_ | refine em_ fun x_ hx_ => ?_ | refine Elem1.mk fun e_ he_ => ?_); refine g1_ ?_))
  refine ⟨fun K a w hs => ?_⟩
  have e2 : VRel K w (.bref bA 0) (a.tmps.getD 4 undef) := hs.env 4
  have e3 : VRel K w (.bref bB 0) (a.tmps.getD 5 undef) := hs.env 5
  have e4 : VRel K w (.bref bC 0) (a.tmps.getD 6 undef) := hs.env 6
  have hsz : a.tmps.size = 40 := hs.sz
  generalize hv2 : a.tmps.getD 4 undef = v2 at e2
  generalize hv3 : a.tmps.getD 5 undef = v3 at e3
  generalize hv4 : a.tmps.getD 6 undef = v4 at e4
  cases e2
  cases e3
  cases e4
  refine wp_seq (wp_defer2 (by rw [hsz]; decide) ?_)
  have hd : Idle Tryd.prog { target := .fn (.func 56) #[.pointer (some ⟨bA, 0, none⟩), .pointer (some ⟨bB, 0, none⟩), .pointer (some ⟨bC, 0, none⟩)], args := #[] } :=
    ⟨_, _, _, _, rfl, fun w => by simp [go_sem], fun w => idleF ⟨bA, 0, none⟩ ⟨bB, 0, none⟩ ⟨bC, 0, none⟩ w⟩
  have hs' := (hs.put (dst := some 29) (pv := .dead) (v := .func (.func 56) #[] (#[Operand.tmp 4, Operand.tmp 5, Operand.tmp 6].map a.eval)) rfl (.dead _) hs.mem (Ext.refl _ _ _)).defer { target := .fn (.func 56) (#[Operand.tmp 4, Operand.tmp 5, Operand.tmp 6].map a.eval), args := #[] }
  have e5 : #[Operand.tmp 4, Operand.tmp 5, Operand.tmp 6].map a.eval = #[.pointer (some ⟨bA, 0, none⟩), .pointer (some ⟨bB, 0, none⟩), .pointer (some ⟨bC, 0, none⟩)] := by
    simp [Act.eval, hv2, hv3, hv4]
  rw [e5] at hs' ⊢
  refine WpEX.run (WpEX.of_x (g := 56) (capv := [.pointer (some ⟨bA, 0, none⟩), .pointer (some ⟨bB, 0, none⟩), .pointer (some ⟨bC, 0, none⟩)]) (caps := [.bref bA 0, .bref bB 0, .bref bC 0]) hd rfl (fun K w i hi => by
    match i, hi with
    | 0, _ => exact .bref _ _
    | 1, _ => exact .bref _ _
    | 2, _ => exact .bref _ _) (fun w => by simp [go_sem]) ?_) K _ w hs'
  skip
  refine WpX.seq (WpX.of_vc (DD_ok (by decide)) (by decide) ?_)
  (refine g0_ ?_; repeat ((first | refine n1_ fun b_ => ?_ | refine n2_ fun b_ => ?_ | refine Nat1.mk fun q_ hq_ => ?_ | refine em_ fun x_ hx_ => ?_ | refine Elem1.mk fun e_ he_ => ?_); refine g0_ ?_))
  refine WpX.seq (WpX.panicAt 1 _ rfl rfl (by decide) ?_)
  (refine g0_ ?_; repeat ((first | refine n1_ fun b_ => ?_ | refine n2_ fun b_ => ?_ | refine Nat1.mk fun q_ hq_ => ?_ | refine em_ fun x_ hx_ => ?_ | refine Elem1.mk fun e_ he_ => ?_); refine g0_ ?_))
  refine ((hg _).dies (ρ := [_, _, _]) (fun _ _ h => h) (.refl _)).mono (fun _ _ h => h) ?_
  rintro v σ' ⟨rfl, σ1, rfl⟩
  refine ⟨_, (rescueF W _ _ _ _ 0 0 e σ1).permF List.perm_append_comm, ?_⟩
  rintro σ2 ⟨ρ', rfl⟩
  (refine g0_ ?_; repeat ((first | refine n1_ fun b_ => ?_ | refine n2_ fun b_ => ?_ | refine Nat1.mk fun q_ hq_ => ?_ | refine em_ fun x_ hx_ => ?_ | refine Elem1.mk fun e_ he_ => ?_); refine g0_ ?_))
  exact .refl _
theorem expand_good (hT : Tabs W) (hE : ErrJ W) (s : List UInt8) (its : Its) (hs0 : s.length ≤ 4000) (hi : its.length ≤ 20) (hv : ∀ x ∈ its, x.2.length ≤ 4000) (x : List UInt8) (m : Nat) (h : sayQ s its = .ok (x, m)) : Pure Tryd.prog W 21 [.str s, .sl 2 (its.map itV)] (if 4000 < x.length then (.tup [.str [], .int .i64 0, .int .i64 10]) else (.tup [.str x, .int .i64 0, .int .i64 0])) := by
  have hg := fun b => untilTop W hT hE b s its hs0 (by omega) hv
  rw [h] at hg
  have hg := fun b => (hg b).ok
  have hsm := sayQ_small (s := s) hv
  rw [h] at hsm
  obtain ⟨h1, h2, h3⟩ := hsm
  have hxl : x.length ≤ 16000000 := by omega
  unfold fQ at hg
  clear h h1 h2 h3
  have hlm : (its.map itV).length = its.length := List.length_map _
  refine Pure.of (acalls_of_end Tryd.func21 rfl (by decide) rfl ?_)
  skip
  refine WpE.seq (DD_ok (by decide)) (.inl rfl) (by decide) ?_
  (refine g0_ ?_; repeat ((first | refine n1_ fun b_ => ?_ | refine n2_ fun b_ => ?_ | refine Nat1.mk fun q_ hq_ => ?_ | refine em_ fun x_ hx_ => ?_ | refine Elem1.mk fun e_ he_ => ?_); refine g0_ ?_))
  rename_i bA bB
  refine WpE.seq (DD_ok (by decide)) (.inl rfl) (by decide) ?_
  (refine g0_ ?_; repeat ((first | refine n1_ fun b_ => ?_ | refine n2_ fun b_ => ?_ | refine Nat1.mk fun q_ hq_ => ?_ | refine em_ fun x_ hx_ => ?_ | refine Elem1.mk fun e_ he_ => ?_); refine g0_ ?_))
  (refine g1_ ?_; repeat ((first | refine n1_ fun b_ => ?_ | refine n2_ fun b_ => ?_ | refine Nat1.mk fun q_ hq_ => ?_ | refine em_ fun x_ hx_ => ?_ | refine Elem1.mk fun e_ he_ => ?_); refine g1_ ?_))
  refine WpE.seq (DD_ok (by decide)) (.inl rfl) (by decide) ?_
  (refine g0_ ?_; repeat ((first | refine n1_ fun b_ => ?_ | refine n2_ fun b_ => ?_ | refine Nat1.mk fun q_ hq_ => ?_ | refine em_ fun x_ hx_ => ?_ | refine Elem1.mk fun e_ he_ => ?_); refine g0_ ?_))
  obtain ⟨bC, rfl⟩ : ∃ z, z = b_ := ⟨_, rfl⟩
  refine' loopI (α := Nat) (fun i => [(20, .int .i64 i)]) [(0, _), (1, _), (4, _), (5, _), (6, _), (18, _), (19, _)] (fun i => [⟨bC, .row 1 [.int .i64 0] 0⟩, ⟨bB, .row 1 [.int .i64 0] 0⟩, ⟨bA, .row 1 [.str []] 0⟩]) (fun i => i ≤ its.length) (fun i => its.length - i) 0 ?_ ?_
  · exact Nat.zero_le _
  rintro i hil
  by_cases hie : i = its.length
  case neg =>
    obtain ⟨y, hy⟩ : ∃ y, its[i]? = some y := ⟨_, List.getElem?_eq_getElem (show i < its.length by omega)⟩
    have hyl := hv y (List.mem_of_getElem? hy)
    obtain ⟨y1, y2⟩ := y
    dsimp only at hyl
    (refine g0_ ?_; repeat ((first | refine n1_ fun b_ => ?_ | refine n2_ fun b_ => ?_ | refine Nat1.mk fun q_ hq_ => ?_ | refine em_ fun x_ hx_ => ?_ | refine Elem1.mk fun e_ he_ => ?_); refine g0_ ?_))
    (refine g1_ ?_; repeat ((first | refine n1_ fun b_ => ?_ | refine n2_ fun b_ => ?_ | refine Nat1.mk fun q_ hq_ => ?_ | refine em_ fun x_ hx_ => ?_ | refine Elem1.mk fun e_ he_ => ?_); refine g1_ ?_))
    refine nx_ (i + 1) ?_ ?_
    · show i + 1 ≤ its.length
      omega
    · ((try dsimp only); (try simp only [List.length_drop, List.length_take, List.length_append, List.length_cons, List.length_nil, List.length_map] at *); omega)
  subst hie
  (refine g0_ ?_; repeat ((first | refine n1_ fun b_ => ?_ | refine n2_ fun b_ => ?_ | refine Nat1.mk fun q_ hq_ => ?_ | refine em_ fun x_ hx_ => ?_ | refine Elem1.mk fun e_ he_ => ?_); refine g0_ ?_))
  (refine g1_ ?_; repeat ((first | refine n1_ fun b_ => ?_ | refine n2_ fun b_ => ?_ | refine Nat1.mk fun q_ hq_ => ?_ | refine em_ fun x_ hx_ => ?_ | refine Elem1.mk fun e_ he_ => ?_); refine g1_ ?_))
  refine ⟨fun K a w hs => ?_⟩
  have e2 : VRel K w (.bref bA 0) (a.tmps.getD 4 undef) := hs.env 4
  have e3 : VRel K w (.bref bB 0) (a.tmps.getD 5 undef) := hs.env 5
  have e4 : VRel K w (.bref bC 0) (a.tmps.getD 6 undef) := hs.env 6
  have hsz : a.tmps.size = 40 := hs.sz
  generalize hv2 : a.tmps.getD 4 undef = v2 at e2
  generalize hv3 : a.tmps.getD 5 undef = v3 at e3
  generalize hv4 : a.tmps.getD 6 undef = v4 at e4
  cases e2
  cases e3
  cases e4
  refine wp_seq (wp_defer2 (by rw [hsz]; decide) ?_)
  have hd : Idle Tryd.prog { target := .fn (.func 56) #[.pointer (some ⟨bA, 0, none⟩), .pointer (some ⟨bB, 0, none⟩), .pointer (some ⟨bC, 0, none⟩)], args := #[] } :=
    ⟨_, _, _, _, rfl, fun w => by simp [go_sem], fun w => idleF ⟨bA, 0, none⟩ ⟨bB, 0, none⟩ ⟨bC, 0, none⟩ w⟩
  have hs' := (hs.put (dst := some 29) (pv := .dead) (v := .func (.func 56) #[] (#[Operand.tmp 4, Operand.tmp 5, Operand.tmp 6].map a.eval)) rfl (.dead _) hs.mem (Ext.refl _ _ _)).defer { target := .fn (.func 56) (#[Operand.tmp 4, Operand.tmp 5, Operand.tmp 6].map a.eval), args := #[] }
  have e5 : #[Operand.tmp 4, Operand.tmp 5, Operand.tmp 6].map a.eval = #[.pointer (some ⟨bA, 0, none⟩), .pointer (some ⟨bB, 0, none⟩), .pointer (some ⟨bC, 0, none⟩)] := by
    simp [Act.eval, hv2, hv3, hv4]
  rw [e5] at hs' ⊢
  refine WpE.run (WpE.last (DD_ok (by decide)) (.inr ⟨_, rfl, hd⟩) (by decide) ?_) K _ w hs'
  (refine g0_ ?_; repeat ((first | refine n1_ fun b_ => ?_ | refine n2_ fun b_ => ?_ | refine Nat1.mk fun q_ hq_ => ?_ | refine em_ fun x_ hx_ => ?_ | refine Elem1.mk fun e_ he_ => ?_); refine g0_ ?_))
  refine ACalls.lend (hg _) (r := [_, _, _]) (.refl _) ?_
  rintro _ -
  (refine g0_ ?_; repeat ((first | refine n1_ fun b_ => ?_ | refine n2_ fun b_ => ?_ | refine Nat1.mk fun q_ hq_ => ?_ | refine em_ fun x_ hx_ => ?_ | refine Elem1.mk fun e_ he_ => ?_); refine g0_ ?_))
  by_cases hx : 4000 < x.length
  · rw [if_pos hx]
    (refine g1_ ?_; repeat ((first | refine n1_ fun b_ => ?_ | refine n2_ fun b_ => ?_ | refine Nat1.mk fun q_ hq_ => ?_ | refine em_ fun x_ hx_ => ?_ | refine Elem1.mk fun e_ he_ => ?_); refine g1_ ?_))
    exact .refl _
  · rw [if_neg hx]
    (refine g1_ ?_; repeat ((first | refine n1_ fun b_ => ?_ | refine n2_ fun b_ => ?_ | refine Nat1.mk fun q_ hq_ => ?_ | refine em_ fun x_ hx_ => ?_ | refine Elem1.mk fun e_ he_ => ?_); refine g1_ ?_))
    exact .refl _
/-- What Expand gives. -/
def expandR (s : List UInt8) (its : Its) : List UInt8 × Int × Int :=
  if (4000 < s.length ∨ 20 < its.length) ∨ ∃ x ∈ its, 4000 < x.2.length then ([], 0, 2) else match sayQ s its with
    | .error e => ([], e, 1)
    | .ok (x, _) => if 4000 < x.length then ([], 0, 10) else (x, 0, 0)
theorem expand_ok (hT : Tabs W) (hE : ErrJ W) (s : List UInt8) (its : Its) (hs2 : s.length ≤ 9223372036854775807) (hi2 : its.length ≤ 9223372036854775807) (hv2 : ∀ x ∈ its, x.2.length ≤ 9223372036854775807) : Pure Tryd.prog W 21 [.str s, .sl 2 (its.map itV)] (.tup [.str (expandR s its).1, .int .i64 (expandR s its).2.1, .int .i64 (expandR s its).2.2]) := by
  unfold expandR
  by_cases h1 : 4000 < s.length ∨ 20 < its.length
  · rw [if_pos (.inl h1)]
    exact expand_long W s its h1 hs2 hi2
  by_cases h2 : ∃ x ∈ its, 4000 < x.2.length
  · rw [if_pos (.inr h2)]
    exact expand_val W s its (by omega) (by omega) hv2 h2
  rw [if_neg (fun h => h.elim h1 h2)]
  have hv : ∀ x ∈ its, x.2.length ≤ 4000 := fun x hx => Nat.le_of_not_lt fun h => h2 ⟨x, hx, h⟩
  cases h : sayQ s its with
  | error e => exact expand_bad W hT hE s its (by omega) (by omega) hv e h
  | ok y =>
    obtain ⟨x, m⟩ := y
    have := expand_good W hT hE s its (by omega) (by omega) hv x m h
    dsimp only
    by_cases hx : 4000 < x.length
    · rw [if_pos hx] at this ⊢
      exact this
    · rw [if_neg hx] at this ⊢
      exact this
end Go.Eng.YtkenlcaifhffoaaDoor
end

/- Formats: the law FormatExpand (b_ x_ q_ e_). -/
section
namespace Go.Eng.YtkenlcaifhffoaaDoor
open Go Go.Eng Go.Proofs Go.RowKit
variable (W : World)
set_option linter.unusedSimpArgs false
set_option maxRecDepth 100000
set_option linter.unusedVariables false
set_option maxHeartbeats 4000000
theorem ditem_ok (b : Nat) (s : List UInt8) (its : Its) (hs : s.length ≤ 4000) (hits : its.length ≤ 1000) (hv : ∀ x ∈ its, x.2.length ≤ 4000) (deep : Int) (u : List UInt8 → Nat → Except Nat (List UInt8 × Nat))
    (hu : ∀ e i, i ≤ s.length → DocQ W 23 [.bref b 0, .str e, .int .i64 deep] b s its i i (u e i)) (hsm : ∀ e i, i ≤ s.length → SmallQ s i i (u e i)) (i : Nat) (hi : i + 2 ≤ s.length) :
    DocQ W 62 [.bref b 0, .int .i64 deep] b s its (i + 2) i (itemQ s its u i) := by
  unfold itemQ
  by_cases h1 : s[i + 2]? = some 63
  · rw [if_pos h1]
    exact ditem_ask W b s its hs hits hv deep u hu hsm i h1 _ rfl
  rw [if_neg h1]
  by_cases h2 : s[i + 2]? = some 61
  · rw [if_pos h2]
    exact ditem_cut W b s its hs hits hv deep i h2 _ rfl
  · rw [if_neg h2]
    exact ditem_plain W b s its hs hits hv deep i hi h1 h2 _ rfl
theorem dit_ok (b : Nat) (s : List UInt8) (its : Its) (hs : s.length ≤ 4000) (hits : its.length ≤ 1000) (hv : ∀ x ∈ its, x.2.length ≤ 4000) : ∀ (n i : Nat), n ≤ 7 → i + 2 ≤ s.length → DocQ W 62 [.bref b 0, .int .i64 (8 - (n : Int))] b s its (i + 2) i (itQ s its (n + 1) i)
  | 0, i, _, hi => by
    rw [itQ]
    exact ditem_ok W b s its hs hits hv _ _ (fun e j hj => dtext_ok W b s its hs e _ (by omega) (itQ s its 0) (.inl ⟨by omega, fun _ => rfl⟩) (itQ_small hv 0) j hj _ rfl) (fun e j hj => untilQ_small (itQ_small hv 0) _ j [] j (Nat.le_refl _) hj (Nat.zero_le _)) i hi
  | n + 1, i, hn, hi => by
    rw [itQ]
    have he : (8 : Int) - ((n + 1 : Nat) : Int) + 1 = 8 - (n : Int) := by omega
    refine ditem_ok W b s its hs hits hv _ _ (fun e j hj => dtext_ok W b s its hs e _ (by omega) (itQ s its (n + 1)) (.inr ⟨by omega, fun k hk => ?_⟩) (itQ_small hv (n + 1)) j hj _ rfl) (fun e j hj => untilQ_small (itQ_small hv (n + 1)) _ j [] j (Nat.le_refl _) hj (Nat.zero_le _)) i hi
    rw [he]
    exact dit_ok b s its hs hits hv n k (by omega) hk
theorem dtop_ok (b : Nat) (s : List UInt8) (its : Its) (hs : s.length ≤ 4000) (hits : its.length ≤ 1000) (hv : ∀ x ∈ its, x.2.length ≤ 4000) : DocQ W 23 [.bref b 0, .str [], .int .i64 0] b s its 0 0 (sayQ s its) :=
  dtext_ok W b s its hs [] 0 (by decide) (itQ s its 8) (.inr ⟨by decide, fun k hk => dit_ok W b s its hs hits hv 7 k (Nat.le_refl _) hk⟩) (itQ_small hv 8) 0 (Nat.zero_le _) _ rfl
/-- Too long, or too many. -/
def manyB (s : List UInt8) (its : Its) (j : Nat) : Bool := (decide ((4000 : Int) < (s.length : Int)) || decide ((20 : Int) < (its.length : Int))) || (its.take j).any fun x => decide ((4000 : Int) < (x.2.length : Int))
theorem manyB_all (s : List UInt8) (its : Its) : manyB s its its.length = decide ((4000 < s.length ∨ 20 < its.length) ∨ ∃ x ∈ its, 4000 < x.2.length) := by
  rw [manyB, List.take_length, Bool.eq_iff_iff]
  simp only [Bool.or_eq_true, decide_eq_true_eq, List.any_eq_true]
  refine or_congr (or_congr (by omega) (by omega)) (exists_congr fun x => and_congr_right fun _ => by omega)
theorem manyB_zero (s : List UInt8) (its : Its) : manyB s its 0 = (decide ((4000 : Int) < (s.length : Int)) || decide ((20 : Int) < (its.length : Int))) := by
  rw [manyB, List.take_zero, List.any_nil, Bool.or_false]
theorem manyB_next {s : List UInt8} {its : Its} {j : Nat} {x : List UInt8 × List UInt8} (h : its[j]? = some x) : manyB s its (j + 1) = (manyB s its j || decide ((4000 : Int) < (x.2.length : Int))) := by
  rw [manyB, manyB, take_snoc_of h, List.any_append]
  simp [Bool.or_assoc]
structure Hide2 (p : Prop) : Prop where
  out : p
theorem formatExpandL_ok (hT : Tabs W) (hE : ErrJ W) (s : List UInt8) (hs2 : s.length ≤ 140737488355328) (its : Its) (hi2 : its.length ≤ 140737488355328) (hv2 : ∀ x ∈ its, x.2.length ≤ 140737488355328) : Pure Tryd.prog W 5 [.str s, .sl 2 (its.map itV)] (.bool true) := by
  have hex := expand_ok W hT hE s its (by omega) (by omega) (fun x hx => by have := hv2 x hx; omega)
  unfold expandR at hex
  by_cases hmany : (4000 < s.length ∨ 20 < its.length) ∨ ∃ x ∈ its, 4000 < x.2.length
  · rw [if_pos hmany] at hex
    replace hmany := Hide2.mk hmany
    have hlm : (its.map itV).length = its.length := List.length_map _
    have hf := formatted_ok W hT
    refine Pure.of (acalls_of_vc (drawOk W) Tryd.func5 rfl (by decide) (by decide) rfl ?_)
    (refine g0_ ?_; repeat ((first | refine n1_ fun b_ => ?_ | refine n2_ fun b_ => ?_ | refine Nat1.mk fun q_ hq_ => ?_ | refine em_ fun x_ hx_ => ?_ | refine Elem1.mk fun e_ he_ => ?_); refine g0_ ?_))
    refine (hex).use ?_; (refine g0_ ?_; repeat ((first | refine n1_ fun b_ => ?_ | refine n2_ fun b_ => ?_ | refine Nat1.mk fun q_ hq_ => ?_ | refine em_ fun x_ hx_ => ?_ | refine Elem1.mk fun e_ he_ => ?_); refine g0_ ?_))
    (refine g1_ ?_; repeat ((first | refine n1_ fun b_ => ?_ | refine n2_ fun b_ => ?_ | refine Nat1.mk fun q_ hq_ => ?_ | refine em_ fun x_ hx_ => ?_ | refine Elem1.mk fun e_ he_ => ?_); refine g1_ ?_))
    refine' loopI (α := Nat × Bool) (fun (j, m) => [(30, .int .i64 j), (8, .bool m)]) [(0, _), (1, _), (5, _), (6, _), (7, _), (28, _), (29, _)] (fun (j, m) => []) (fun (j, m) => j ≤ its.length ∧ manyB s its j = m) (fun (j, m) => its.length - j) (0, decide ((4000 : Int) < (s.length : Int)) || decide ((20 : Int) < ((its.map itV).length : Int))) ?_ ?_
    · exact ⟨Nat.zero_le _, by rw [hlm]; exact manyB_zero s its⟩
    rintro ⟨j, m⟩ ⟨hj, hm⟩
    by_cases hjl : j = its.length
    case neg =>
      obtain ⟨x, hx⟩ : ∃ x, its[j]? = some x := ⟨_, List.getElem?_eq_getElem (show j < its.length by omega)⟩
      have hxl := hv2 x (List.mem_of_getElem? hx)
      have hn := manyB_next (s := s) hx
      rw [hm] at hn
      obtain ⟨x1, x2⟩ := x
      dsimp only at hn hxl
      cases m
      · rw [Bool.false_or] at hn
        clear hm
        replace hn := Hide2.mk hn
        (refine g0_ ?_; repeat ((first | refine n1_ fun b_ => ?_ | refine n2_ fun b_ => ?_ | refine Nat1.mk fun q_ hq_ => ?_ | refine em_ fun x_ hx_ => ?_ | refine Elem1.mk fun e_ he_ => ?_); refine g0_ ?_))
        (refine g1_ ?_; repeat ((first | refine n1_ fun b_ => ?_ | refine n2_ fun b_ => ?_ | refine Nat1.mk fun q_ hq_ => ?_ | refine em_ fun x_ hx_ => ?_ | refine Elem1.mk fun e_ he_ => ?_); refine g1_ ?_))
        refine nx_ (j + 1, decide ((4000 : Int) < (x2.length : Int))) ?_ ?_
        · exact ⟨by omega, hn.out⟩
        · ((try dsimp only); (try simp only [List.length_drop, List.length_take, List.length_append, List.length_cons, List.length_nil, List.length_map] at *); omega)
      · rw [Bool.true_or] at hn
        clear hm
        replace hn := Hide2.mk hn
        (refine g0_ ?_; repeat ((first | refine n1_ fun b_ => ?_ | refine n2_ fun b_ => ?_ | refine Nat1.mk fun q_ hq_ => ?_ | refine em_ fun x_ hx_ => ?_ | refine Elem1.mk fun e_ he_ => ?_); refine g0_ ?_))
        (refine g1_ ?_; repeat ((first | refine n1_ fun b_ => ?_ | refine n2_ fun b_ => ?_ | refine Nat1.mk fun q_ hq_ => ?_ | refine em_ fun x_ hx_ => ?_ | refine Elem1.mk fun e_ he_ => ?_); refine g1_ ?_))
        refine nx_ (j + 1, true) ?_ ?_
        · exact ⟨by omega, hn.out⟩
        · ((try dsimp only); (try simp only [List.length_drop, List.length_take, List.length_append, List.length_cons, List.length_nil, List.length_map] at *); omega)
    subst hjl
    rw [manyB_all] at hm
    rw [decide_eq_true hmany.out] at hm
    subst hm
    (refine g0_ ?_; repeat ((first | refine n1_ fun b_ => ?_ | refine n2_ fun b_ => ?_ | refine Nat1.mk fun q_ hq_ => ?_ | refine em_ fun x_ hx_ => ?_ | refine Elem1.mk fun e_ he_ => ?_); refine g0_ ?_))
    (refine g1_ ?_; repeat ((first | refine n1_ fun b_ => ?_ | refine n2_ fun b_ => ?_ | refine Nat1.mk fun q_ hq_ => ?_ | refine em_ fun x_ hx_ => ?_ | refine Elem1.mk fun e_ he_ => ?_); refine g1_ ?_))
    refine (hf).use ?_; (refine g0_ ?_; repeat ((first | refine n1_ fun b_ => ?_ | refine n2_ fun b_ => ?_ | refine Nat1.mk fun q_ hq_ => ?_ | refine em_ fun x_ hx_ => ?_ | refine Elem1.mk fun e_ he_ => ?_); refine g0_ ?_))
    (refine g1_ ?_; repeat ((first | refine n1_ fun b_ => ?_ | refine n2_ fun b_ => ?_ | refine Nat1.mk fun q_ hq_ => ?_ | refine em_ fun x_ hx_ => ?_ | refine Elem1.mk fun e_ he_ => ?_); refine g1_ ?_))
    refine (hf).use ?_; (refine g0_ ?_; repeat ((first | refine n1_ fun b_ => ?_ | refine n2_ fun b_ => ?_ | refine Nat1.mk fun q_ hq_ => ?_ | refine em_ fun x_ hx_ => ?_ | refine Elem1.mk fun e_ he_ => ?_); refine g0_ ?_))
    (refine g1_ ?_; repeat ((first | refine n1_ fun b_ => ?_ | refine n2_ fun b_ => ?_ | refine Nat1.mk fun q_ hq_ => ?_ | refine em_ fun x_ hx_ => ?_ | refine Elem1.mk fun e_ he_ => ?_); refine g1_ ?_))
    first | exact .refl _ | exact .of_eq (by simp)
  · rw [if_neg hmany] at hex
    have hs : s.length ≤ 4000 := Nat.le_of_not_lt fun h => hmany (.inl (.inl h))
    have hi : its.length ≤ 20 := Nat.le_of_not_lt fun h => hmany (.inl (.inr h))
    have hv : ∀ x ∈ its, x.2.length ≤ 4000 := fun x hx => Nat.le_of_not_lt fun h => hmany (.inr ⟨x, hx, h⟩)
    have hd := fun b => dtop_ok W b s its hs (by omega) hv
    have hsm := sayQ_small (s := s) hv
    replace hmany := Hide2.mk hmany
    cases hq : sayQ s its with
    | error e =>
      rw [hq] at hex hd
      dsimp only at hex
      unfold DocQ xM docM docR at hd
      have hlm : (its.map itV).length = its.length := List.length_map _
      have hf := formatted_ok W hT
      refine Pure.of (acalls_of_vc (drawOk W) Tryd.func5 rfl (by decide) (by decide) rfl ?_)
      (refine g0_ ?_; repeat ((first | refine n1_ fun b_ => ?_ | refine n2_ fun b_ => ?_ | refine Nat1.mk fun q_ hq_ => ?_ | refine em_ fun x_ hx_ => ?_ | refine Elem1.mk fun e_ he_ => ?_); refine g0_ ?_))
      refine (hex).use ?_; (refine g0_ ?_; repeat ((first | refine n1_ fun b_ => ?_ | refine n2_ fun b_ => ?_ | refine Nat1.mk fun q_ hq_ => ?_ | refine em_ fun x_ hx_ => ?_ | refine Elem1.mk fun e_ he_ => ?_); refine g0_ ?_))
      (refine g1_ ?_; repeat ((first | refine n1_ fun b_ => ?_ | refine n2_ fun b_ => ?_ | refine Nat1.mk fun q_ hq_ => ?_ | refine em_ fun x_ hx_ => ?_ | refine Elem1.mk fun e_ he_ => ?_); refine g1_ ?_))
      refine' loopI (α := Nat × Bool) (fun (j, m) => [(30, .int .i64 j), (8, .bool m)]) [(0, _), (1, _), (5, _), (6, _), (7, _), (28, _), (29, _)] (fun (j, m) => []) (fun (j, m) => j ≤ its.length ∧ manyB s its j = m) (fun (j, m) => its.length - j) (0, decide ((4000 : Int) < (s.length : Int)) || decide ((20 : Int) < ((its.map itV).length : Int))) ?_ ?_
      · exact ⟨Nat.zero_le _, by rw [hlm]; exact manyB_zero s its⟩
      rintro ⟨j, m⟩ ⟨hj, hm⟩
      by_cases hjl : j = its.length
      case neg =>
        obtain ⟨x, hx⟩ : ∃ x, its[j]? = some x := ⟨_, List.getElem?_eq_getElem (show j < its.length by omega)⟩
        have hxl := hv2 x (List.mem_of_getElem? hx)
        have hn := manyB_next (s := s) hx
        rw [hm] at hn
        obtain ⟨x1, x2⟩ := x
        dsimp only at hn hxl
        cases m
        · rw [Bool.false_or] at hn
          clear hm
          replace hn := Hide2.mk hn
          (refine g0_ ?_; repeat ((first | refine n1_ fun b_ => ?_ | refine n2_ fun b_ => ?_ | refine Nat1.mk fun q_ hq_ => ?_ | refine em_ fun x_ hx_ => ?_ | refine Elem1.mk fun e_ he_ => ?_); refine g0_ ?_))
          (refine g1_ ?_; repeat ((first | refine n1_ fun b_ => ?_ | refine n2_ fun b_ => ?_ | refine Nat1.mk fun q_ hq_ => ?_ | refine em_ fun x_ hx_ => ?_ | refine Elem1.mk fun e_ he_ => ?_); refine g1_ ?_))
          refine nx_ (j + 1, decide ((4000 : Int) < (x2.length : Int))) ?_ ?_
          · exact ⟨by omega, hn.out⟩
          · ((try dsimp only); (try simp only [List.length_drop, List.length_take, List.length_append, List.length_cons, List.length_nil, List.length_map] at *); omega)
        · rw [Bool.true_or] at hn
          clear hm
          replace hn := Hide2.mk hn
          (refine g0_ ?_; repeat ((first | refine n1_ fun b_ => ?_ | refine n2_ fun b_ => ?_ | refine Nat1.mk fun q_ hq_ => ?_ | refine em_ fun x_ hx_ => ?_ | refine Elem1.mk fun e_ he_ => ?_); refine g0_ ?_))
          (refine g1_ ?_; repeat ((first | refine n1_ fun b_ => ?_ | refine n2_ fun b_ => ?_ | refine Nat1.mk fun q_ hq_ => ?_ | refine em_ fun x_ hx_ => ?_ | refine Elem1.mk fun e_ he_ => ?_); refine g1_ ?_))
          refine nx_ (j + 1, true) ?_ ?_
          · exact ⟨by omega, hn.out⟩
          · ((try dsimp only); (try simp only [List.length_drop, List.length_take, List.length_append, List.length_cons, List.length_nil, List.length_map] at *); omega)
      subst hjl
      rw [manyB_all] at hm
      rw [decide_eq_false hmany.out] at hm
      subst hm
      (refine g0_ ?_; repeat ((first | refine n1_ fun b_ => ?_ | refine n2_ fun b_ => ?_ | refine Nat1.mk fun q_ hq_ => ?_ | refine em_ fun x_ hx_ => ?_ | refine Elem1.mk fun e_ he_ => ?_); refine g0_ ?_))
      (refine g1_ ?_; repeat ((first | refine n1_ fun b_ => ?_ | refine n2_ fun b_ => ?_ | refine Nat1.mk fun q_ hq_ => ?_ | refine em_ fun x_ hx_ => ?_ | refine Elem1.mk fun e_ he_ => ?_); refine g1_ ?_))
      refine (hf).use ?_; (refine g0_ ?_; repeat ((first | refine n1_ fun b_ => ?_ | refine n2_ fun b_ => ?_ | refine Nat1.mk fun q_ hq_ => ?_ | refine em_ fun x_ hx_ => ?_ | refine Elem1.mk fun e_ he_ => ?_); refine g0_ ?_))
      (refine g1_ ?_; repeat ((first | refine n1_ fun b_ => ?_ | refine n2_ fun b_ => ?_ | refine Nat1.mk fun q_ hq_ => ?_ | refine em_ fun x_ hx_ => ?_ | refine Elem1.mk fun e_ he_ => ?_); refine g1_ ?_))
      refine ACalls.lend (hd _) (r := []) (.refl _) ?_
      rintro o ho
      (refine g0_ ?_; repeat ((first | refine n1_ fun b_ => ?_ | refine n2_ fun b_ => ?_ | refine Nat1.mk fun q_ hq_ => ?_ | refine em_ fun x_ hx_ => ?_ | refine Elem1.mk fun e_ he_ => ?_); refine g0_ ?_))
      (refine g1_ ?_; repeat ((first | refine n1_ fun b_ => ?_ | refine n2_ fun b_ => ?_ | refine Nat1.mk fun q_ hq_ => ?_ | refine em_ fun x_ hx_ => ?_ | refine Elem1.mk fun e_ he_ => ?_); refine g1_ ?_))
      first | exact .refl _ | exact .of_eq (by simp)
    | ok y =>
      obtain ⟨x, m0⟩ := y
      rw [hq] at hex hd hsm
      dsimp only at hex
      obtain ⟨-, k1, k2⟩ := hsm
      unfold DocQ xM docM docR at hd
      by_cases hx : 4000 < x.length
      · rw [if_pos hx] at hex
        have hlm : (its.map itV).length = its.length := List.length_map _
        have hf := formatted_ok W hT
        refine Pure.of (acalls_of_vc (drawOk W) Tryd.func5 rfl (by decide) (by decide) rfl ?_)
        (refine g0_ ?_; repeat ((first | refine n1_ fun b_ => ?_ | refine n2_ fun b_ => ?_ | refine Nat1.mk fun q_ hq_ => ?_ | refine em_ fun x_ hx_ => ?_ | refine Elem1.mk fun e_ he_ => ?_); refine g0_ ?_))
        refine (hex).use ?_; (refine g0_ ?_; repeat ((first | refine n1_ fun b_ => ?_ | refine n2_ fun b_ => ?_ | refine Nat1.mk fun q_ hq_ => ?_ | refine em_ fun x_ hx_ => ?_ | refine Elem1.mk fun e_ he_ => ?_); refine g0_ ?_))
        (refine g1_ ?_; repeat ((first | refine n1_ fun b_ => ?_ | refine n2_ fun b_ => ?_ | refine Nat1.mk fun q_ hq_ => ?_ | refine em_ fun x_ hx_ => ?_ | refine Elem1.mk fun e_ he_ => ?_); refine g1_ ?_))
        refine' loopI (α := Nat × Bool) (fun (j, m) => [(30, .int .i64 j), (8, .bool m)]) [(0, _), (1, _), (5, _), (6, _), (7, _), (28, _), (29, _)] (fun (j, m) => []) (fun (j, m) => j ≤ its.length ∧ manyB s its j = m) (fun (j, m) => its.length - j) (0, decide ((4000 : Int) < (s.length : Int)) || decide ((20 : Int) < ((its.map itV).length : Int))) ?_ ?_
        · exact ⟨Nat.zero_le _, by rw [hlm]; exact manyB_zero s its⟩
        rintro ⟨j, m⟩ ⟨hj, hm⟩
        by_cases hjl : j = its.length
        case neg =>
          obtain ⟨x, hx⟩ : ∃ x, its[j]? = some x := ⟨_, List.getElem?_eq_getElem (show j < its.length by omega)⟩
          have hxl := hv2 x (List.mem_of_getElem? hx)
          have hn := manyB_next (s := s) hx
          rw [hm] at hn
          obtain ⟨x1, x2⟩ := x
          dsimp only at hn hxl
          cases m
          · rw [Bool.false_or] at hn
            clear hm
            replace hn := Hide2.mk hn
            (refine g0_ ?_; repeat ((first | refine n1_ fun b_ => ?_ | refine n2_ fun b_ => ?_ | refine Nat1.mk fun q_ hq_ => ?_ | refine em_ fun x_ hx_ => ?_ | refine Elem1.mk fun e_ he_ => ?_); refine g0_ ?_))
            (refine g1_ ?_; repeat ((first | refine n1_ fun b_ => ?_ | refine n2_ fun b_ => ?_ | refine Nat1.mk fun q_ hq_ => ?_ | refine em_ fun x_ hx_ => ?_ | refine Elem1.mk fun e_ he_ => ?_); refine g1_ ?_))
            refine nx_ (j + 1, decide ((4000 : Int) < (x2.length : Int))) ?_ ?_
            · exact ⟨by omega, hn.out⟩
            · ((try dsimp only); (try simp only [List.length_drop, List.length_take, List.length_append, List.length_cons, List.length_nil, List.length_map] at *); omega)
          · rw [Bool.true_or] at hn
            clear hm
            replace hn := Hide2.mk hn
            (refine g0_ ?_; repeat ((first | refine n1_ fun b_ => ?_ | refine n2_ fun b_ => ?_ | refine Nat1.mk fun q_ hq_ => ?_ | refine em_ fun x_ hx_ => ?_ | refine Elem1.mk fun e_ he_ => ?_); refine g0_ ?_))
            (refine g1_ ?_; repeat ((first | refine n1_ fun b_ => ?_ | refine n2_ fun b_ => ?_ | refine Nat1.mk fun q_ hq_ => ?_ | refine em_ fun x_ hx_ => ?_ | refine Elem1.mk fun e_ he_ => ?_); refine g1_ ?_))
            refine nx_ (j + 1, true) ?_ ?_
            · exact ⟨by omega, hn.out⟩
            · ((try dsimp only); (try simp only [List.length_drop, List.length_take, List.length_append, List.length_cons, List.length_nil, List.length_map] at *); omega)
        subst hjl
        rw [manyB_all] at hm
        rw [decide_eq_false hmany.out] at hm
        subst hm
        (refine g0_ ?_; repeat ((first | refine n1_ fun b_ => ?_ | refine n2_ fun b_ => ?_ | refine Nat1.mk fun q_ hq_ => ?_ | refine em_ fun x_ hx_ => ?_ | refine Elem1.mk fun e_ he_ => ?_); refine g0_ ?_))
        (refine g1_ ?_; repeat ((first | refine n1_ fun b_ => ?_ | refine n2_ fun b_ => ?_ | refine Nat1.mk fun q_ hq_ => ?_ | refine em_ fun x_ hx_ => ?_ | refine Elem1.mk fun e_ he_ => ?_); refine g1_ ?_))
        refine (hf).use ?_; (refine g0_ ?_; repeat ((first | refine n1_ fun b_ => ?_ | refine n2_ fun b_ => ?_ | refine Nat1.mk fun q_ hq_ => ?_ | refine em_ fun x_ hx_ => ?_ | refine Elem1.mk fun e_ he_ => ?_); refine g0_ ?_))
        (refine g1_ ?_; repeat ((first | refine n1_ fun b_ => ?_ | refine n2_ fun b_ => ?_ | refine Nat1.mk fun q_ hq_ => ?_ | refine em_ fun x_ hx_ => ?_ | refine Elem1.mk fun e_ he_ => ?_); refine g1_ ?_))
        refine ACalls.lend (hd _) (r := []) (.refl _) ?_
        rintro o ho
        obtain rfl : o = x := ho
        (refine g0_ ?_; repeat ((first | refine n1_ fun b_ => ?_ | refine n2_ fun b_ => ?_ | refine Nat1.mk fun q_ hq_ => ?_ | refine em_ fun x_ hx_ => ?_ | refine Elem1.mk fun e_ he_ => ?_); refine g0_ ?_))
        (refine g1_ ?_; repeat ((first | refine n1_ fun b_ => ?_ | refine n2_ fun b_ => ?_ | refine Nat1.mk fun q_ hq_ => ?_ | refine em_ fun x_ hx_ => ?_ | refine Elem1.mk fun e_ he_ => ?_); refine g1_ ?_))
        first | exact .refl _ | exact .of_eq (by simp)
      · rw [if_neg hx] at hex
        have hlm : (its.map itV).length = its.length := List.length_map _
        have hf := formatted_ok W hT
        refine Pure.of (acalls_of_vc (drawOk W) Tryd.func5 rfl (by decide) (by decide) rfl ?_)
        (refine g0_ ?_; repeat ((first | refine n1_ fun b_ => ?_ | refine n2_ fun b_ => ?_ | refine Nat1.mk fun q_ hq_ => ?_ | refine em_ fun x_ hx_ => ?_ | refine Elem1.mk fun e_ he_ => ?_); refine g0_ ?_))
        refine (hex).use ?_; (refine g0_ ?_; repeat ((first | refine n1_ fun b_ => ?_ | refine n2_ fun b_ => ?_ | refine Nat1.mk fun q_ hq_ => ?_ | refine em_ fun x_ hx_ => ?_ | refine Elem1.mk fun e_ he_ => ?_); refine g0_ ?_))
        (refine g1_ ?_; repeat ((first | refine n1_ fun b_ => ?_ | refine n2_ fun b_ => ?_ | refine Nat1.mk fun q_ hq_ => ?_ | refine em_ fun x_ hx_ => ?_ | refine Elem1.mk fun e_ he_ => ?_); refine g1_ ?_))
        refine' loopI (α := Nat × Bool) (fun (j, m) => [(30, .int .i64 j), (8, .bool m)]) [(0, _), (1, _), (5, _), (6, _), (7, _), (28, _), (29, _)] (fun (j, m) => []) (fun (j, m) => j ≤ its.length ∧ manyB s its j = m) (fun (j, m) => its.length - j) (0, decide ((4000 : Int) < (s.length : Int)) || decide ((20 : Int) < ((its.map itV).length : Int))) ?_ ?_
        · exact ⟨Nat.zero_le _, by rw [hlm]; exact manyB_zero s its⟩
        rintro ⟨j, m⟩ ⟨hj, hm⟩
        by_cases hjl : j = its.length
        case neg =>
          obtain ⟨x, hx⟩ : ∃ x, its[j]? = some x := ⟨_, List.getElem?_eq_getElem (show j < its.length by omega)⟩
          have hxl := hv2 x (List.mem_of_getElem? hx)
          have hn := manyB_next (s := s) hx
          rw [hm] at hn
          obtain ⟨x1, x2⟩ := x
          dsimp only at hn hxl
          cases m
          · rw [Bool.false_or] at hn
            clear hm
            replace hn := Hide2.mk hn
            (refine g0_ ?_; repeat ((first | refine n1_ fun b_ => ?_ | refine n2_ fun b_ => ?_ | refine Nat1.mk fun q_ hq_ => ?_ | refine em_ fun x_ hx_ => ?_ | refine Elem1.mk fun e_ he_ => ?_); refine g0_ ?_))
            (refine g1_ ?_; repeat ((first | refine n1_ fun b_ => ?_ | refine n2_ fun b_ => ?_ | refine Nat1.mk fun q_ hq_ => ?_ | refine em_ fun x_ hx_ => ?_ | refine Elem1.mk fun e_ he_ => ?_); refine g1_ ?_))
            refine nx_ (j + 1, decide ((4000 : Int) < (x2.length : Int))) ?_ ?_
            · exact ⟨by omega, hn.out⟩
            · ((try dsimp only); (try simp only [List.length_drop, List.length_take, List.length_append, List.length_cons, List.length_nil, List.length_map] at *); omega)
          · rw [Bool.true_or] at hn
            clear hm
            replace hn := Hide2.mk hn
            (refine g0_ ?_; repeat ((first | refine n1_ fun b_ => ?_ | refine n2_ fun b_ => ?_ | refine Nat1.mk fun q_ hq_ => ?_ | refine em_ fun x_ hx_ => ?_ | refine Elem1.mk fun e_ he_ => ?_); refine g0_ ?_))
            (refine g1_ ?_; repeat ((first | refine n1_ fun b_ => ?_ | refine n2_ fun b_ => ?_ | refine Nat1.mk fun q_ hq_ => ?_ | refine em_ fun x_ hx_ => ?_ | refine Elem1.mk fun e_ he_ => ?_); refine g1_ ?_))
            refine nx_ (j + 1, true) ?_ ?_
            · exact ⟨by omega, hn.out⟩
            · ((try dsimp only); (try simp only [List.length_drop, List.length_take, List.length_append, List.length_cons, List.length_nil, List.length_map] at *); omega)
        subst hjl
        rw [manyB_all] at hm
        rw [decide_eq_false hmany.out] at hm
        subst hm
        (refine g0_ ?_; repeat ((first | refine n1_ fun b_ => ?_ | refine n2_ fun b_ => ?_ | refine Nat1.mk fun q_ hq_ => ?_ | refine em_ fun x_ hx_ => ?_ | refine Elem1.mk fun e_ he_ => ?_); refine g0_ ?_))
        (refine g1_ ?_; repeat ((first | refine n1_ fun b_ => ?_ | refine n2_ fun b_ => ?_ | refine Nat1.mk fun q_ hq_ => ?_ | refine em_ fun x_ hx_ => ?_ | refine Elem1.mk fun e_ he_ => ?_); refine g1_ ?_))
        refine (hf).use ?_; (refine g0_ ?_; repeat ((first | refine n1_ fun b_ => ?_ | refine n2_ fun b_ => ?_ | refine Nat1.mk fun q_ hq_ => ?_ | refine em_ fun x_ hx_ => ?_ | refine Elem1.mk fun e_ he_ => ?_); refine g0_ ?_))
        (refine g1_ ?_; repeat ((first | refine n1_ fun b_ => ?_ | refine n2_ fun b_ => ?_ | refine Nat1.mk fun q_ hq_ => ?_ | refine em_ fun x_ hx_ => ?_ | refine Elem1.mk fun e_ he_ => ?_); refine g1_ ?_))
        refine ACalls.lend (hd _) (r := []) (.refl _) ?_
        rintro o ho
        obtain rfl : o = x := ho
        (refine g0_ ?_; repeat ((first | refine n1_ fun b_ => ?_ | refine n2_ fun b_ => ?_ | refine Nat1.mk fun q_ hq_ => ?_ | refine em_ fun x_ hx_ => ?_ | refine Elem1.mk fun e_ he_ => ?_); refine g0_ ?_))
        (refine g1_ ?_; repeat ((first | refine n1_ fun b_ => ?_ | refine n2_ fun b_ => ?_ | refine Nat1.mk fun q_ hq_ => ?_ | refine em_ fun x_ hx_ => ?_ | refine Elem1.mk fun e_ he_ => ?_); refine g1_ ?_))
        first | exact .refl _ | exact .of_eq (by simp)
theorem formatExpand_ok (h : Tabs W ∧ ErrJ W) (s : List UInt8) (hs2 : s.length ≤ 140737488355328) (its : Its) (hi : its.length ≤ 140737488355328 ∧ ∀ x ∈ its, x.2.length ≤ 140737488355328) : Pure Tryd.prog W 5 [.str s, .sl 2 (its.map itV)] (.bool true) :=
  formatExpandL_ok W h.1 h.2 s hs2 its hi.1 hi.2
end Go.Eng.YtkenlcaifhffoaaDoor
end
