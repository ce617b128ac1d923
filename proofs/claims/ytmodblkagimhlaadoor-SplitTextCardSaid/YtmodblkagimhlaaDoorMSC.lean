/- Texts put together: Spl9, Spl10. -/
import Derived.Test.YtmodblkagimhlaaDoorMSB
import Derived.Test.YtmodblkagimhlaaDoorMSA
import Derived.Test.YtmodblkagimhlaaDoorME10
import Derived.Test.YtmodblkagimhlaaDoorMH1
/- Splits: a text of a split is read: next, number (b_ x_ q_ e_). -/
section
namespace Go.Eng
open Go
/-- What a call is lent comes back changed, what it made besides is written no more. -/
theorem ACalls.lendK {P : Program} {W : World} {f : FuncId} {args : List PV} {σ τ τ1 ρ : Mem} {r : PV} {k : PV → Mem → Prop} (h : ACalls P W f args τ fun v σ' => ∃ ρ', σ'.Perm (τ1 ++ ρ') ∧ Frz ρ' v r) (hp : σ.Perm (τ ++ ρ)) (hk : k r (ρ ++ τ1)) : ACalls P W f args σ k := by
  refine ACalls.frz ((h.frame ρ).perm hp) ?_
  rintro v σ' ⟨σ1, ⟨ρ', hp', hf⟩, rfl⟩
  refine ⟨ρ ++ τ1, ρ', r, (hp'.append_right ρ).trans ?_, hf, hk⟩
  rw [List.append_assoc, List.append_assoc]
  exact (List.perm_append_comm.append_left _).trans (by rw [← List.append_assoc, ← List.append_assoc]; exact List.perm_append_comm.append_right _)
end Go.Eng
namespace Go.Eng.YtmodblkagimhlaaDoor
open Go Go.Eng Go.Proofs Go.RowKit
variable (W : World)
set_option linter.unusedSimpArgs false
set_option maxRecDepth 100000
set_option linter.unusedVariables false
set_option maxHeartbeats 4000000
def rdM (b : Nat) (s : List UInt8) (at_ : Nat) : Blk := ⟨b, .row 2 [.agg [.str s, .int .i64 at_]] 0⟩
def nextN (s : List UInt8) (i : Nat) : Nat := ((s[i]?).map UInt8.toNat).getD 0
theorem nextN_le (s : List UInt8) (i : Nat) : nextN s i < 256 := by
  unfold nextN
  cases s[i]? with
  | none => decide
  | some c => exact c.toNat_lt
theorem nextB_ok (b : Nat) (s : List UInt8) (i : Nat) (hi : i ≤ s.length) (hs : s.length ≤ 4000) : ACalls Tryd.prog W 106 [.bref b 0] [rdM b s i] (Gives (fun _ : Unit => .int .u8 (nextN s i)) (fun _ => [rdM b s i]) (fun _ => True)) := by
  unfold rdM
  by_cases h : i = s.length
  · have e : nextN s i = 0 := by rw [nextN, h, List.getElem?_eq_none (Nat.le_refl _)]; rfl
    rw [e]
    refine acalls_of_vc (drawOk W) Tryd.func106 rfl (by decide) (by decide) rfl ?_
    (refine g0_ ?_; repeat ((first | refine n1_ fun b_ => ?_ | refine n2_ fun b_ => ?_ | refine Nat1.mk fun q_ hq_ => ?_ | refine em_ fun x_ hx_ => ?_ | refine Elem1.mk fun e_ he_ => ?_); refine g0_ ?_))
    refine head_ ?_; (refine g0_ ?_; repeat ((first | refine n1_ fun b_ => ?_ | refine n2_ fun b_ => ?_ | refine Nat1.mk fun q_ hq_ => ?_ | refine em_ fun x_ hx_ => ?_ | refine Elem1.mk fun e_ he_ => ?_); refine g0_ ?_))
    (refine g1_ ?_; repeat ((first | refine n1_ fun b_ => ?_ | refine n2_ fun b_ => ?_ | refine Nat1.mk fun q_ hq_ => ?_ | refine em_ fun x_ hx_ => ?_ | refine Elem1.mk fun e_ he_ => ?_); refine g1_ ?_))
    exact ⟨(), trivial, rfl, by (first | exact ⟨_, .refl _⟩ | exact wkMem.rfl' | exact ⟨_, .swap _ _ _⟩ | (repeat (first | exact wkMem.nil _ | exact wkMem.rfl' | exact wk_snoc _ _ _ | exact wk_fam (by assumption) _ _ _ | exact wk_famN (by assumption) _ _ _ | (apply wkMem.cons; (case' hl => (repeat (first | exact .here _ _ _ | apply Look.there)))) | apply wkMem.skip)))⟩
  · have hlt : i < s.length := by omega
    obtain ⟨c, hc⟩ : ∃ c, s[i]? = some c := ⟨s[i], List.getElem?_eq_getElem hlt⟩
    have e : nextN s i = c.toNat := by rw [nextN, hc]; rfl
    rw [e]
    refine acalls_of_vc (drawOk W) Tryd.func106 rfl (by decide) (by decide) rfl ?_
    (refine g0_ ?_; repeat ((first | refine n1_ fun b_ => ?_ | refine n2_ fun b_ => ?_ | refine Nat1.mk fun q_ hq_ => ?_ | refine em_ fun x_ hx_ => ?_ | refine Elem1.mk fun e_ he_ => ?_); refine g0_ ?_))
    refine head_ ?_; (refine g0_ ?_; repeat ((first | refine n1_ fun b_ => ?_ | refine n2_ fun b_ => ?_ | refine Nat1.mk fun q_ hq_ => ?_ | refine em_ fun x_ hx_ => ?_ | refine Elem1.mk fun e_ he_ => ?_); refine g0_ ?_))
    (refine g1_ ?_; repeat ((first | refine n1_ fun b_ => ?_ | refine n2_ fun b_ => ?_ | refine Nat1.mk fun q_ hq_ => ?_ | refine em_ fun x_ hx_ => ?_ | refine Elem1.mk fun e_ he_ => ?_); refine g1_ ?_))
    refine head_ ?_; (refine g0_ ?_; repeat ((first | refine n1_ fun b_ => ?_ | refine n2_ fun b_ => ?_ | refine Nat1.mk fun q_ hq_ => ?_ | refine em_ fun x_ hx_ => ?_ | refine Elem1.mk fun e_ he_ => ?_); refine g0_ ?_))
    rw [hc] at he_
    obtain rfl := Option.some.inj he_
    exact ⟨(), trivial, rfl, by (first | exact ⟨_, .refl _⟩ | exact wkMem.rfl' | exact ⟨_, .swap _ _ _⟩ | (repeat (first | exact wkMem.nil _ | exact wkMem.rfl' | exact wk_snoc _ _ _ | exact wk_fam (by assumption) _ _ _ | exact wk_famN (by assumption) _ _ _ | (apply wkMem.cons; (case' hl => (repeat (first | exact .here _ _ _ | apply Look.there)))) | apply wkMem.skip)))⟩
theorem number1_ok (b : Nat) (s : List UInt8) (i d : Nat) (hs : s.length ≤ 4000) (hd : nextN s i = 48 + d) (hd1 : 1 ≤ d ∧ d ≤ 9) (he : nextN s (i + 1) < 48 ∨ 57 < nextN s (i + 1)) (hi : i < s.length) :
    ACalls Tryd.prog W 107 [.bref b 0] [rdM b s i] (Gives (fun _ : Unit => .int .i64 d) (fun _ => [rdM b s (i + 1)]) (fun _ => True)) := by
  have hn := fun j (hj : j ≤ s.length) => nextB_ok W b s j hj hs
  simp only [rdM] at hn ⊢
  refine acalls_of_vc (drawOk W) Tryd.func107 rfl (by decide) (by decide) rfl ?_
  (refine g0_ ?_; repeat ((first | refine n1_ fun b_ => ?_ | refine n2_ fun b_ => ?_ | refine Nat1.mk fun q_ hq_ => ?_ | refine em_ fun x_ hx_ => ?_ | refine Elem1.mk fun e_ he_ => ?_); refine g0_ ?_))
  refine ACalls.lendL (hn i (by omega)) (r := []) (.refl _) ?_
  rintro _ -
  (refine g0_ ?_; repeat ((first | refine n1_ fun b_ => ?_ | refine n2_ fun b_ => ?_ | refine Nat1.mk fun q_ hq_ => ?_ | refine em_ fun x_ hx_ => ?_ | refine Elem1.mk fun e_ he_ => ?_); refine g0_ ?_))
  refine' loopI (α := Nat × Nat) (fun (j, n) => [(5, .int .u8 (nextN s (i + j))), (4, .int .i64 n)]) [(0, _), (3, _)] (fun (j, n) => [⟨b, .row 2 [.agg [.str s, .int .i64 ((i + j : Nat) : Int)]] 0⟩]) (fun (j, n) => j ≤ 1 ∧ n = j * d) (fun (j, n) => 1 - j) (0, 0) ?_ ?_
  · exact ⟨Nat.zero_le _, by simp⟩
  rintro ⟨j, n⟩ ⟨hj, hn2⟩
  by_cases h0 : j = 0
  · subst h0
    simp only [Nat.zero_mul] at hn2
    subst hn2
    simp only [Nat.add_zero] at *
    (refine g0_ ?_; repeat ((first | refine n1_ fun b_ => ?_ | refine n2_ fun b_ => ?_ | refine Nat1.mk fun q_ hq_ => ?_ | refine em_ fun x_ hx_ => ?_ | refine Elem1.mk fun e_ he_ => ?_); refine g0_ ?_))
    (refine g1_ ?_; repeat ((first | refine n1_ fun b_ => ?_ | refine n2_ fun b_ => ?_ | refine Nat1.mk fun q_ hq_ => ?_ | refine em_ fun x_ hx_ => ?_ | refine Elem1.mk fun e_ he_ => ?_); refine g1_ ?_))
    have hx := nextN_le s (i + 1)
    refine ACalls.lendL (hn (i + 1) (by omega)) (r := []) (.refl _) ?_
    rintro _ -
    (refine g0_ ?_; repeat ((first | refine n1_ fun b_ => ?_ | refine n2_ fun b_ => ?_ | refine Nat1.mk fun q_ hq_ => ?_ | refine em_ fun x_ hx_ => ?_ | refine Elem1.mk fun e_ he_ => ?_); refine g0_ ?_))
    refine nx_ (1, d) ?_ ?_
    · exact ⟨by omega, by simp⟩
    · ((try dsimp only); (try simp only [List.length_drop, List.length_take, List.length_append, List.length_cons, List.length_nil, List.length_map] at *); omega)
  · obtain rfl : j = 1 := by omega
    simp only [Nat.one_mul] at hn2
    subst hn2
    obtain ⟨c, hc⟩ : ∃ c, s[i]? = some c := ⟨s[i], List.getElem?_eq_getElem hi⟩
    have hcv : c.toNat = 48 + n := by rw [nextN, hc] at hd; exact hd
    have hx := nextN_le s (i + 1)
    (refine g0_ ?_; repeat ((first | refine n1_ fun b_ => ?_ | refine n2_ fun b_ => ?_ | refine Nat1.mk fun q_ hq_ => ?_ | refine em_ fun x_ hx_ => ?_ | refine Elem1.mk fun e_ he_ => ?_); refine g0_ ?_))
    (refine g1_ ?_; repeat ((first | refine n1_ fun b_ => ?_ | refine n2_ fun b_ => ?_ | refine Nat1.mk fun q_ hq_ => ?_ | refine em_ fun x_ hx_ => ?_ | refine Elem1.mk fun e_ he_ => ?_); refine g1_ ?_))
    rw [hc] at he_
    obtain rfl := Option.some.inj he_
    (refine g1_ ?_; repeat ((first | refine n1_ fun b_ => ?_ | refine n2_ fun b_ => ?_ | refine Nat1.mk fun q_ hq_ => ?_ | refine em_ fun x_ hx_ => ?_ | refine Elem1.mk fun e_ he_ => ?_); refine g1_ ?_))
    exact ⟨(), trivial, rfl, by (first | exact ⟨_, .refl _⟩ | exact wkMem.rfl' | exact ⟨_, .swap _ _ _⟩ | (repeat (first | exact wkMem.nil _ | exact wkMem.rfl' | exact wk_snoc _ _ _ | exact wk_fam (by assumption) _ _ _ | exact wk_famN (by assumption) _ _ _ | (apply wkMem.cons; (case' hl => (repeat (first | exact .here _ _ _ | apply Look.there)))) | apply wkMem.skip)))⟩
theorem indexB_ok (c : Nat) : Pure Tryd.prog W 99 [.str [123, 91], .int .u8 c] (.int .i64 (Lib.indexByte [123, 91] (UInt8.ofNat c))) :=
  Pure.of_below Tryd.func99 rfl (by decide) rfl rfl fun w _ hw => (Tryd.strings_IndexByte ⟨#[123, 91]⟩ c w).mono fun _ _ h => ⟨h.1, h.2 ▸ RowKit.Below.refl _ _⟩
/-- What the reader gives: a split, and where it stands. -/
def SpOut (b : Nat) (s : List UInt8) (m : Nat) (k : Spl) : PV → Mem → Prop := fun v σ' => ∃ ρ', σ'.Perm ([rdM b s m] ++ ρ') ∧ Frz ρ' v (encSpl k)
theorem leafS_ok (b : Nat) (s : List UInt8) (i d : Nat) (deep : Int) (hs : s.length ≤ 4000) (hd : nextN s i = 48 + d) (hd1 : 1 ≤ d ∧ d ≤ 9) (he : nextN s (i + 1) < 48 ∨ 57 < nextN s (i + 1)) (hst : nextN s (i + 1) ≠ 42) (hi : i < s.length) :
    ACalls Tryd.prog W 51 [.bref b 0, .int .i64 deep] [rdM b s i] (SpOut b s (i + 1) (leafT d)) := by
  have hn := fun j (hj : j ≤ s.length) => nextB_ok W b s j hj hs
  have hnum := number1_ok W b s i d hs hd hd1 he hi
  have hix := indexB_ok W (nextN s i)
  rw [hd, show Lib.indexByte [123, 91] (UInt8.ofNat (48 + d)) = -1 from by
    obtain ⟨h1, h2⟩ := hd1
    have : ∀ d < 10, Lib.indexByte [123, 91] (UInt8.ofNat (48 + d)) = -1 := by decide +kernel
    exact this d (by omega)] at hix
  unfold SpOut
  simp only [rdM] at hn hnum ⊢
  refine acalls_of_vc (drawOk W) Tryd.func51 rfl (by decide) (by decide) rfl ?_
  (refine g0_ ?_; repeat ((first | refine n1_ fun b_ => ?_ | refine n2_ fun b_ => ?_ | refine Nat1.mk fun q_ hq_ => ?_ | refine em_ fun x_ hx_ => ?_ | refine Elem1.mk fun e_ he_ => ?_); refine g0_ ?_))
  refine ACalls.lend1 (hn i (by omega)) (by repeat (first | exact .here _ _ _ | apply Look.there)) ?_
  rintro _ -
  rw [hd]
  (refine g0_ ?_; repeat ((first | refine n1_ fun b_ => ?_ | refine n2_ fun b_ => ?_ | refine Nat1.mk fun q_ hq_ => ?_ | refine em_ fun x_ hx_ => ?_ | refine Elem1.mk fun e_ he_ => ?_); refine g0_ ?_))
  refine (hix).use ?_; (refine g0_ ?_; repeat ((first | refine n1_ fun b_ => ?_ | refine n2_ fun b_ => ?_ | refine Nat1.mk fun q_ hq_ => ?_ | refine em_ fun x_ hx_ => ?_ | refine Elem1.mk fun e_ he_ => ?_); refine g0_ ?_))
  refine head_ ?_; (refine g0_ ?_; repeat ((first | refine n1_ fun b_ => ?_ | refine n2_ fun b_ => ?_ | refine Nat1.mk fun q_ hq_ => ?_ | refine em_ fun x_ hx_ => ?_ | refine Elem1.mk fun e_ he_ => ?_); refine g0_ ?_))
  (refine g1_ ?_; repeat ((first | refine n1_ fun b_ => ?_ | refine n2_ fun b_ => ?_ | refine Nat1.mk fun q_ hq_ => ?_ | refine em_ fun x_ hx_ => ?_ | refine Elem1.mk fun e_ he_ => ?_); refine g1_ ?_))
  refine ACalls.lend1 (hnum) (by repeat (first | exact .here _ _ _ | apply Look.there)) ?_
  rintro _ -
  (refine g0_ ?_; repeat ((first | refine n1_ fun b_ => ?_ | refine n2_ fun b_ => ?_ | refine Nat1.mk fun q_ hq_ => ?_ | refine em_ fun x_ hx_ => ?_ | refine Elem1.mk fun e_ he_ => ?_); refine g0_ ?_))
  refine ACalls.lend1 (hn (i + 1) (by omega)) (by repeat (first | exact .here _ _ _ | apply Look.there)) ?_
  rintro _ -
  (refine g0_ ?_; repeat ((first | refine n1_ fun b_ => ?_ | refine n2_ fun b_ => ?_ | refine Nat1.mk fun q_ hq_ => ?_ | refine em_ fun x_ hx_ => ?_ | refine Elem1.mk fun e_ he_ => ?_); refine g0_ ?_))
  (refine g1_ ?_; repeat ((first | refine n1_ fun b_ => ?_ | refine n2_ fun b_ => ?_ | refine Nat1.mk fun q_ hq_ => ?_ | refine em_ fun x_ hx_ => ?_ | refine Elem1.mk fun e_ he_ => ?_); refine g1_ ?_))
  exact ⟨[_, _], .swap _ _ _, frz_leaf _ d⟩
theorem br3_ok (b : Nat) (s : List UInt8) (i m1 m2 d : Nat) (k1 k2 : Spl) (hs : s.length ≤ 4000) (hi : i + 1 ≤ s.length) (h0 : nextN s i = 91)
    (h1 : ACalls Tryd.prog W 51 [.bref b 0, .int .i64 3] [rdM b s (i + 1)] (SpOut b s m1 k1)) (hm1 : m1 + 1 ≤ s.length) (hc1 : nextN s m1 = 44)
    (h2 : ACalls Tryd.prog W 51 [.bref b 0, .int .i64 3] [rdM b s (m1 + 1)] (SpOut b s m2 k2)) (hm2 : m2 + 1 ≤ s.length) (hc2 : nextN s m2 = 93)
    (hst : nextN s (m2 + 1) = 42) (hd : nextN s (m2 + 2) = 48 + d) (hd1 : 2 ≤ d ∧ d ≤ 9) (he : nextN s (m2 + 3) < 48 ∨ 57 < nextN s (m2 + 3)) (hm3 : m2 + 2 < s.length) :
    ACalls Tryd.prog W 51 [.bref b 0, .int .i64 2] [rdM b s i] (SpOut b s (m2 + 3) (.mk 2 0 d [k1, k2])) := by
  have hn := fun j (hj : j ≤ s.length) => nextB_ok W b s j hj hs
  have hnum := number1_ok W b s (m2 + 2) d hs hd (by omega) he hm3
  have hix := indexB_ok W (nextN s i)
  rw [h0, show Lib.indexByte [123, 91] (UInt8.ofNat 91) = 1 from by decide] at hix
  obtain ⟨w1, p1, z1, ks1⟩ := k1
  obtain ⟨w2, p2, z2, ks2⟩ := k2
  unfold SpOut at *
  rw [encSpl_mk] at h1 h2
  simp only [rdM] at hn hnum h1 h2 ⊢
  refine acalls_of_vc (DM_ok (by decide)) Tryd.func51 rfl (by decide) (by decide) rfl ?_
  (refine g0_ ?_; repeat ((first | refine n1_ fun b_ => ?_ | refine n2_ fun b_ => ?_ | refine Nat1.mk fun q_ hq_ => ?_ | refine em_ fun x_ hx_ => ?_ | refine Elem1.mk fun e_ he_ => ?_); refine g0_ ?_))
  refine ACalls.lend1 (hn i (by omega)) (by repeat (first | exact .here _ _ _ | apply Look.there)) ?_
  rintro _ -
  rw [h0]
  (refine g0_ ?_; repeat ((first | refine n1_ fun b_ => ?_ | refine n2_ fun b_ => ?_ | refine Nat1.mk fun q_ hq_ => ?_ | refine em_ fun x_ hx_ => ?_ | refine Elem1.mk fun e_ he_ => ?_); refine g0_ ?_))
  refine (hix).use ?_; (refine g0_ ?_; repeat ((first | refine n1_ fun b_ => ?_ | refine n2_ fun b_ => ?_ | refine Nat1.mk fun q_ hq_ => ?_ | refine em_ fun x_ hx_ => ?_ | refine Elem1.mk fun e_ he_ => ?_); refine g0_ ?_))
  refine headT_ (head_ ?_); (refine g0_ ?_; repeat ((first | refine n1_ fun b_ => ?_ | refine n2_ fun b_ => ?_ | refine Nat1.mk fun q_ hq_ => ?_ | refine em_ fun x_ hx_ => ?_ | refine Elem1.mk fun e_ he_ => ?_); refine g0_ ?_))
  (refine g1_ ?_; repeat ((first | refine n1_ fun b_ => ?_ | refine n2_ fun b_ => ?_ | refine Nat1.mk fun q_ hq_ => ?_ | refine em_ fun x_ hx_ => ?_ | refine Elem1.mk fun e_ he_ => ?_); refine g1_ ?_))
  refine .run ⟨2, ?_⟩
  (refine g0_ ?_; repeat ((first | refine n1_ fun b_ => ?_ | refine n2_ fun b_ => ?_ | refine Nat1.mk fun q_ hq_ => ?_ | refine em_ fun x_ hx_ => ?_ | refine Elem1.mk fun e_ he_ => ?_); refine g0_ ?_))
  refine Draws11.tree ⟨10, [.new, .new, .new, .new, .new, .turn, .skip, .skip, .skip, .skip], (.one 5 [.again, .again, .keep, .keep, .keep, .keep, .new, .turn, .skip, .skip] (.one 7 [.keep, .keep, .keep, .keep, .keep, .keep, .keep, .keep, .new, .turn] (.one 9 [.keep, .keep, .keep, .keep, .keep, .keep, .keep, .keep, .keep, .keep] .fin))), by decide +kernel, ?_⟩; (refine g0_ ?_; repeat ((first | refine n1_ fun b_ => ?_ | refine n2_ fun b_ => ?_ | refine Nat1.mk fun q_ hq_ => ?_ | refine em_ fun x_ hx_ => ?_ | refine Elem1.mk fun e_ he_ => ?_); refine g0_ ?_))
  refine ACalls.lendK h1 (List.Perm.refl _) ?_
  (refine g0_ ?_; repeat ((first | refine n1_ fun b_ => ?_ | refine n2_ fun b_ => ?_ | refine Nat1.mk fun q_ hq_ => ?_ | refine em_ fun x_ hx_ => ?_ | refine Elem1.mk fun e_ he_ => ?_); refine g0_ ?_))
  refine ACalls.lend1 (hn m1 (by omega)) (by repeat (first | exact .here _ _ _ | apply Look.there)) ?_
  rintro _ -
  rw [hc1]
  (refine g0_ ?_; repeat ((first | refine n1_ fun b_ => ?_ | refine n2_ fun b_ => ?_ | refine Nat1.mk fun q_ hq_ => ?_ | refine em_ fun x_ hx_ => ?_ | refine Elem1.mk fun e_ he_ => ?_); refine g0_ ?_))
  refine Draws11.tree ⟨10, [.new, .new, .new, .new, .new, .turn, .skip, .skip, .skip, .skip], (.one 5 [.again, .again, .keep, .keep, .keep, .keep, .new, .turn, .skip, .skip] (.one 7 [.keep, .keep, .keep, .keep, .keep, .keep, .keep, .keep, .new, .turn] (.one 9 [.keep, .keep, .keep, .keep, .keep, .keep, .keep, .keep, .keep, .keep] .fin))), by decide +kernel, ?_⟩; (refine g0_ ?_; repeat ((first | refine n1_ fun b_ => ?_ | refine n2_ fun b_ => ?_ | refine Nat1.mk fun q_ hq_ => ?_ | refine em_ fun x_ hx_ => ?_ | refine Elem1.mk fun e_ he_ => ?_); refine g0_ ?_))
  refine ACalls.lendK h2 (List.Perm.refl _) ?_
  (refine g0_ ?_; repeat ((first | refine n1_ fun b_ => ?_ | refine n2_ fun b_ => ?_ | refine Nat1.mk fun q_ hq_ => ?_ | refine em_ fun x_ hx_ => ?_ | refine Elem1.mk fun e_ he_ => ?_); refine g0_ ?_))
  refine ACalls.lend1 (hn m2 (by omega)) (by repeat (first | exact .here _ _ _ | apply Look.there)) ?_
  rintro _ -
  rw [hc2]
  (refine g0_ ?_; repeat ((first | refine n1_ fun b_ => ?_ | refine n2_ fun b_ => ?_ | refine Nat1.mk fun q_ hq_ => ?_ | refine em_ fun x_ hx_ => ?_ | refine Elem1.mk fun e_ he_ => ?_); refine g0_ ?_))
  refine ACalls.lend1 (hn (m2 + 1) (by omega)) (by repeat (first | exact .here _ _ _ | apply Look.there)) ?_
  rintro _ -
  rw [hst]
  (refine g0_ ?_; repeat ((first | refine n1_ fun b_ => ?_ | refine n2_ fun b_ => ?_ | refine Nat1.mk fun q_ hq_ => ?_ | refine em_ fun x_ hx_ => ?_ | refine Elem1.mk fun e_ he_ => ?_); refine g0_ ?_))
  refine ACalls.lend1 (hnum) (by repeat (first | exact .here _ _ _ | apply Look.there)) ?_
  rintro _ -
  (refine g0_ ?_; repeat ((first | refine n1_ fun b_ => ?_ | refine n2_ fun b_ => ?_ | refine Nat1.mk fun q_ hq_ => ?_ | refine em_ fun x_ hx_ => ?_ | refine Elem1.mk fun e_ he_ => ?_); refine g0_ ?_))
  (refine g1_ ?_; repeat ((first | refine n1_ fun b_ => ?_ | refine n2_ fun b_ => ?_ | refine Nat1.mk fun q_ hq_ => ?_ | refine em_ fun x_ hx_ => ?_ | refine Elem1.mk fun e_ he_ => ?_); refine g1_ ?_))
  refine ⟨[_, _, _], List.perm_middle (l₁ := [_, _]), ?_⟩
  simp only [encSpl_mk, List.map_cons, List.map_nil]
  refine .agg _ _ rfl fun j hj => ?_
  match j, hj with
  | 0, _ => exact .refl _
  | 1, _ => exact .refl _
  | 2, _ => exact .refl _
  | 3, _ => exact frz_row (l := [_, _]) (by repeat (first | exact .here _ _ _ | apply Look.there)) _ rfl
theorem br0_ok (b : Nat) (s : List UInt8) (i m1 m2 : Nat) (k1 k2 : Spl) (hs : s.length ≤ 4000) (hi : i + 1 ≤ s.length) (h0 : nextN s i = 123)
    (h1 : ACalls Tryd.prog W 51 [.bref b 0, .int .i64 2] [rdM b s (i + 1)] (SpOut b s m1 k1)) (hm1 : m1 + 1 ≤ s.length) (hc1 : nextN s m1 = 44)
    (h2 : ACalls Tryd.prog W 51 [.bref b 0, .int .i64 2] [rdM b s (m1 + 1)] (SpOut b s m2 k2)) (hm2 : m2 + 1 ≤ s.length) (hc2 : nextN s m2 = 125)
    (hst : nextN s (m2 + 1) ≠ 42) :
    ACalls Tryd.prog W 51 [.bref b 0, .int .i64 1] [rdM b s i] (SpOut b s (m2 + 1) (.mk 1 0 1 [k1, k2])) := by
  have hn := fun j (hj : j ≤ s.length) => nextB_ok W b s j hj hs
  have hix := indexB_ok W (nextN s i)
  rw [h0, show Lib.indexByte [123, 91] (UInt8.ofNat 123) = 0 from by decide] at hix
  obtain ⟨w1, p1, z1, ks1⟩ := k1
  obtain ⟨w2, p2, z2, ks2⟩ := k2
  unfold SpOut at *
  rw [encSpl_mk] at h1 h2
  simp only [rdM] at hn h1 h2 ⊢
  refine acalls_of_vc (DM_ok (by decide)) Tryd.func51 rfl (by decide) (by decide) rfl ?_
  (refine g0_ ?_; repeat ((first | refine n1_ fun b_ => ?_ | refine n2_ fun b_ => ?_ | refine Nat1.mk fun q_ hq_ => ?_ | refine em_ fun x_ hx_ => ?_ | refine Elem1.mk fun e_ he_ => ?_); refine g0_ ?_))
  refine ACalls.lend1 (hn i (by omega)) (by repeat (first | exact .here _ _ _ | apply Look.there)) ?_
  rintro _ -
  rw [h0]
  (refine g0_ ?_; repeat ((first | refine n1_ fun b_ => ?_ | refine n2_ fun b_ => ?_ | refine Nat1.mk fun q_ hq_ => ?_ | refine em_ fun x_ hx_ => ?_ | refine Elem1.mk fun e_ he_ => ?_); refine g0_ ?_))
  refine (hix).use ?_; (refine g0_ ?_; repeat ((first | refine n1_ fun b_ => ?_ | refine n2_ fun b_ => ?_ | refine Nat1.mk fun q_ hq_ => ?_ | refine em_ fun x_ hx_ => ?_ | refine Elem1.mk fun e_ he_ => ?_); refine g0_ ?_))
  refine headT_ (head_ ?_); (refine g0_ ?_; repeat ((first | refine n1_ fun b_ => ?_ | refine n2_ fun b_ => ?_ | refine Nat1.mk fun q_ hq_ => ?_ | refine em_ fun x_ hx_ => ?_ | refine Elem1.mk fun e_ he_ => ?_); refine g0_ ?_))
  (refine g1_ ?_; repeat ((first | refine n1_ fun b_ => ?_ | refine n2_ fun b_ => ?_ | refine Nat1.mk fun q_ hq_ => ?_ | refine em_ fun x_ hx_ => ?_ | refine Elem1.mk fun e_ he_ => ?_); refine g1_ ?_))
  refine .run ⟨2, ?_⟩
  (refine g0_ ?_; repeat ((first | refine n1_ fun b_ => ?_ | refine n2_ fun b_ => ?_ | refine Nat1.mk fun q_ hq_ => ?_ | refine em_ fun x_ hx_ => ?_ | refine Elem1.mk fun e_ he_ => ?_); refine g0_ ?_))
  refine Draws11.tree ⟨10, [.new, .new, .new, .new, .new, .turn, .skip, .skip, .skip, .skip], (.one 5 [.again, .again, .keep, .keep, .keep, .keep, .new, .turn, .skip, .skip] (.one 7 [.keep, .keep, .keep, .keep, .keep, .keep, .keep, .keep, .new, .turn] (.one 9 [.keep, .keep, .keep, .keep, .keep, .keep, .keep, .keep, .keep, .keep] .fin))), by decide +kernel, ?_⟩; (refine g0_ ?_; repeat ((first | refine n1_ fun b_ => ?_ | refine n2_ fun b_ => ?_ | refine Nat1.mk fun q_ hq_ => ?_ | refine em_ fun x_ hx_ => ?_ | refine Elem1.mk fun e_ he_ => ?_); refine g0_ ?_))
  refine ACalls.lendK h1 (List.Perm.refl _) ?_
  (refine g0_ ?_; repeat ((first | refine n1_ fun b_ => ?_ | refine n2_ fun b_ => ?_ | refine Nat1.mk fun q_ hq_ => ?_ | refine em_ fun x_ hx_ => ?_ | refine Elem1.mk fun e_ he_ => ?_); refine g0_ ?_))
  refine ACalls.lend1 (hn m1 (by omega)) (by repeat (first | exact .here _ _ _ | apply Look.there)) ?_
  rintro _ -
  rw [hc1]
  (refine g0_ ?_; repeat ((first | refine n1_ fun b_ => ?_ | refine n2_ fun b_ => ?_ | refine Nat1.mk fun q_ hq_ => ?_ | refine em_ fun x_ hx_ => ?_ | refine Elem1.mk fun e_ he_ => ?_); refine g0_ ?_))
  refine Draws11.tree ⟨10, [.new, .new, .new, .new, .new, .turn, .skip, .skip, .skip, .skip], (.one 5 [.again, .again, .keep, .keep, .keep, .keep, .new, .turn, .skip, .skip] (.one 7 [.keep, .keep, .keep, .keep, .keep, .keep, .keep, .keep, .new, .turn] (.one 9 [.keep, .keep, .keep, .keep, .keep, .keep, .keep, .keep, .keep, .keep] .fin))), by decide +kernel, ?_⟩; (refine g0_ ?_; repeat ((first | refine n1_ fun b_ => ?_ | refine n2_ fun b_ => ?_ | refine Nat1.mk fun q_ hq_ => ?_ | refine em_ fun x_ hx_ => ?_ | refine Elem1.mk fun e_ he_ => ?_); refine g0_ ?_))
  refine ACalls.lendK h2 (List.Perm.refl _) ?_
  (refine g0_ ?_; repeat ((first | refine n1_ fun b_ => ?_ | refine n2_ fun b_ => ?_ | refine Nat1.mk fun q_ hq_ => ?_ | refine em_ fun x_ hx_ => ?_ | refine Elem1.mk fun e_ he_ => ?_); refine g0_ ?_))
  refine ACalls.lend1 (hn m2 (by omega)) (by repeat (first | exact .here _ _ _ | apply Look.there)) ?_
  rintro _ -
  rw [hc2]
  (refine g0_ ?_; repeat ((first | refine n1_ fun b_ => ?_ | refine n2_ fun b_ => ?_ | refine Nat1.mk fun q_ hq_ => ?_ | refine em_ fun x_ hx_ => ?_ | refine Elem1.mk fun e_ he_ => ?_); refine g0_ ?_))
  refine ACalls.lend1 (hn (m2 + 1) (by omega)) (by repeat (first | exact .here _ _ _ | apply Look.there)) ?_
  rintro _ -
  (refine g0_ ?_; repeat ((first | refine n1_ fun b_ => ?_ | refine n2_ fun b_ => ?_ | refine Nat1.mk fun q_ hq_ => ?_ | refine em_ fun x_ hx_ => ?_ | refine Elem1.mk fun e_ he_ => ?_); refine g0_ ?_))
  (refine g1_ ?_; repeat ((first | refine n1_ fun b_ => ?_ | refine n2_ fun b_ => ?_ | refine Nat1.mk fun q_ hq_ => ?_ | refine em_ fun x_ hx_ => ?_ | refine Elem1.mk fun e_ he_ => ?_); refine g1_ ?_))
  refine ⟨[_, _, _], .swap _ _ _, ?_⟩
  simp only [encSpl_mk, List.map_cons, List.map_nil]
  refine .agg _ _ rfl fun j hj => ?_
  match j, hj with
  | 0, _ => exact .refl _
  | 1, _ => exact .refl _
  | 2, _ => exact .refl _
  | 3, _ => exact frz_row (l := [_, _]) (by repeat (first | exact .here _ _ _ | apply Look.there)) _ rfl
end Go.Eng.YtmodblkagimhlaaDoor
end

/- Splits: the text of parted, read (b_ x_ q_ e_). -/
section
namespace Go.Eng.YtmodblkagimhlaaDoor
open Go Go.Eng Go.Proofs Go.RowKit
variable (W : World)
set_option linter.unusedSimpArgs false
set_option maxRecDepth 100000
set_option linter.unusedVariables false
set_option maxHeartbeats 4000000
def s0 : List UInt8 := [123, 49, 44, 91, 50, 44, 51, 93, 42, 50, 125]
def tree0 : Spl := .mk 1 0 1 [leafT 1, .mk 2 0 2 [leafT 2, leafT 3]]
def leafP (p : Int) : PV := .agg [.int .i64 0, .int .i64 p, .int .i64 1, .sl 4 []]
def tree0V : PV := .agg [.int .i64 1, .int .i64 0, .int .i64 1, .sl 4 [.agg [.int .i64 0, .int .i64 1, .int .i64 1, .sl 4 []], .agg [.int .i64 2, .int .i64 0, .int .i64 2, .sl 4 [.agg [.int .i64 0, .int .i64 2, .int .i64 1, .sl 4 []], .agg [.int .i64 0, .int .i64 3, .int .i64 1, .sl 4 []]]]]]
theorem tree0_ok : tree0.ok := by
  simp [tree0, leafT, Spl.ok, Spls.ok, i64ok]
theorem split0_ok (b : Nat) : ACalls Tryd.prog W 51 [.bref b 0, .int .i64 1] [rdM b s0 0] (SpOut b s0 11 tree0) :=
  br0_ok W b s0 0 2 10 (leafT 1) (.mk 2 0 2 [leafT 2, leafT 3]) (by decide) (by decide) (by decide)
    (leafS_ok W b s0 1 1 2 (by decide) (by decide) (by decide) (by decide) (by decide) (by decide)) (by decide) (by decide)
    (br3_ok W b s0 3 5 7 2 (leafT 2) (leafT 3) (by decide) (by decide) (by decide)
      (leafS_ok W b s0 4 2 3 (by decide) (by decide) (by decide) (by decide) (by decide) (by decide)) (by decide) (by decide)
      (leafS_ok W b s0 6 3 3 (by decide) (by decide) (by decide) (by decide) (by decide) (by decide)) (by decide) (by decide)
      (by decide) (by decide) (by decide) (by decide) (by decide)) (by decide) (by decide) (by decide)
theorem idle0 (p q r : Addr) (w : World) : CallsD Tryd.prog 50 #[.pointer (some p), .pointer (some q), .pointer (some r)] .returning w fun e u' w' => (∃ v, e = .returned v) ∧ u' = .returning ∧ w' = w := by
  refine callsD_of_wpS Tryd.func50 rfl fun c₀ cs hu => ?_
  apply wpS_seq
  apply wpS_region
  simp [wpOpsS, go_sem, recoverD, hu, Exit.thenS]
  apply wpS_seq
  apply wpS_region
  simp [wpOpsS, go_sem, Exit.thenS]
  refine wpS_cond (t := false) (by simp [Act.eval, Array.replicate]) ?_
  simp only [Bool.false_eq_true, if_false]
  refine wpS_of_wp (wp_skip ?_)
  have hres : Tryd.f50.results = #[] := rfl
  cases c₀
  simp_all [bodyPostS, results, Exit.thenS]
theorem parse0_ok : Pure Tryd.prog W 11 [.str s0] (.tup [encSpl tree0, .int .i64 0, .int .i64 0]) := by
  have hck := checkS_ok W tree0 tree0_ok
  rw [show (visS tree0 0 (0, [])).1 = 0 by decide +kernel, show encSpl tree0 = tree0V from by simp only [tree0, tree0V, leafT, encSpl_mk, List.map_cons, List.map_nil]] at hck
  refine Pure.of (acalls_of_end Tryd.func11 rfl (by decide) rfl ?_)
  refine WpE.seq (DD_ok (by decide)) (.inl rfl) (by decide) ?_
  (refine g0_ ?_; repeat ((first | refine n1_ fun b_ => ?_ | refine n2_ fun b_ => ?_ | refine Nat1.mk fun q_ hq_ => ?_ | refine em_ fun x_ hx_ => ?_ | refine Elem1.mk fun e_ he_ => ?_); refine g0_ ?_))
  rename_i bA bB
  refine WpE.seq (DD_ok (by decide)) (.inl rfl) (by decide) ?_
  (refine g0_ ?_; repeat ((first | refine n1_ fun b_ => ?_ | refine n2_ fun b_ => ?_ | refine Nat1.mk fun q_ hq_ => ?_ | refine em_ fun x_ hx_ => ?_ | refine Elem1.mk fun e_ he_ => ?_); refine g0_ ?_))
  refine ⟨fun K a w hs => ?_⟩
  have e2 : VRel K w (.bref bA 0) (a.tmps.getD 2 undef) := hs.env 2
  have e3 : VRel K w (.bref bB 0) (a.tmps.getD 3 undef) := hs.env 3
  have e4 : VRel K w (.bref b_ 0) (a.tmps.getD 4 undef) := hs.env 4
  have hsz : a.tmps.size = 37 := hs.sz
  generalize hv2 : a.tmps.getD 2 undef = v2 at e2
  generalize hv3 : a.tmps.getD 3 undef = v3 at e3
  generalize hv4 : a.tmps.getD 4 undef = v4 at e4
  cases e2
  cases e3
  cases e4
  refine wp_seq (wp_defer2 (by rw [hsz]; decide) ?_)
  have hd : Idle Tryd.prog { target := .fn (.func 50) #[.pointer (some ⟨bA, 0, none⟩), .pointer (some ⟨bB, 0, none⟩), .pointer (some ⟨b_, 0, none⟩)], args := #[] } :=
    ⟨_, _, _, _, rfl, fun w => by simp [go_sem], fun w => idle0 ⟨bA, 0, none⟩ ⟨bB, 0, none⟩ ⟨b_, 0, none⟩ w⟩
  have hs' := (hs.put (dst := some 11) (pv := .dead) (v := .func (.func 50) #[] (#[Operand.tmp 2, Operand.tmp 3, Operand.tmp 4].map a.eval)) rfl (.dead _) hs.mem (Ext.refl _ _ _)).defer { target := .fn (.func 50) (#[Operand.tmp 2, Operand.tmp 3, Operand.tmp 4].map a.eval), args := #[] }
  have e5 : #[Operand.tmp 2, Operand.tmp 3, Operand.tmp 4].map a.eval = #[.pointer (some ⟨bA, 0, none⟩), .pointer (some ⟨bB, 0, none⟩), .pointer (some ⟨b_, 0, none⟩)] := by
    simp [Act.eval, hv2, hv3, hv4]
  rw [e5] at hs' ⊢
  refine WpE.run (WpE.last (DD_ok (by decide)) (.inr ⟨_, rfl, hd⟩) (by decide) ?_) K _ w hs'
  (refine g0_ ?_; repeat ((first | refine n1_ fun b_ => ?_ | refine n2_ fun b_ => ?_ | refine Nat1.mk fun q_ hq_ => ?_ | refine em_ fun x_ hx_ => ?_ | refine Elem1.mk fun e_ he_ => ?_); refine g0_ ?_))
  refine ACalls.lendK (split0_ok W b_) (List.Perm.refl _) ?_
  rw [show encSpl tree0 = tree0V from by simp only [tree0, tree0V, leafT, encSpl_mk, List.map_cons, List.map_nil]]
  simp only [rdM]
  (refine g0_ ?_; repeat ((first | refine n1_ fun b_ => ?_ | refine n2_ fun b_ => ?_ | refine Nat1.mk fun q_ hq_ => ?_ | refine em_ fun x_ hx_ => ?_ | refine Elem1.mk fun e_ he_ => ?_); refine g0_ ?_))
  refine (hck).use ?_; (refine g0_ ?_; repeat ((first | refine n1_ fun b_ => ?_ | refine n2_ fun b_ => ?_ | refine Nat1.mk fun q_ hq_ => ?_ | refine em_ fun x_ hx_ => ?_ | refine Elem1.mk fun e_ he_ => ?_); refine g0_ ?_))
  (refine g1_ ?_; repeat ((first | refine n1_ fun b_ => ?_ | refine n2_ fun b_ => ?_ | refine Nat1.mk fun q_ hq_ => ?_ | refine em_ fun x_ hx_ => ?_ | refine Elem1.mk fun e_ he_ => ?_); refine g1_ ?_))
  exact .refl _
end Go.Eng.YtmodblkagimhlaaDoor
end
