/- Texts put together: Fmt1, Fmt2, Fmt3. -/
import Derived.Test.YtkenlcaifhffoaaDoorMT1
import Derived.Lib.IndexAny
import Derived.Test.YtkenlcaifhffoaaDoorME10
import Derived.Test.YtkenlcaifhffoaaDoorMSA
import Derived.Test.YtkenlcaifhffoaaDoorMRA
/- Formats: the reader of a format: a name, a byte that is expected, what stands as it is (b_ x_ q_ e_). -/
section
namespace Go.Eng.YtkenlcaifhffoaaDoor
open Go Go.Eng Go.Proofs Go.RowKit
variable (W : World)
set_option linter.unusedSimpArgs false
set_option maxRecDepth 100000
set_option linter.unusedVariables false
set_option maxHeartbeats 4000000
def itA : PV := .agg [.str [97], .str [120, 121]]
def itB : PV := .agg [.str [98], .str [48]]
/-- The reader: its text, where it stands, two items. -/
def fR (b : Nat) (s : List UInt8) (i : Nat) : Blk := ⟨b, .row 3 [.agg [.str s, .int .i64 i, .sl 2 [.agg [.str [97], .str [120, 121]], .agg [.str [98], .str [48]]]]] 0⟩
theorem contains1F_ok (s : List UInt8) (c : UInt8) : Pure Tryd.prog W 88 [.str s, .str [c]] (.bool (s.contains c)) := by
  rw [Lib.contains_iff_indexByte]
  exact Pure.of_below Tryd.func88 rfl (by decide) rfl rfl fun w _ _ => (Tryd.strings_Contains_one ⟨s.toArray⟩ c w).mono fun _ _ h => ⟨h.1, h.2 ▸ RowKit.Below.refl _ _⟩
theorem letterF_ok (c : Nat) (l : Bool) (h : l = decide ((97 ≤ c ∧ c ≤ 122) ∨ c = 95)) : Pure Tryd.prog W 129 [.int .u8 c] (.bool l) := by
  refine Pure.of (acalls_of_vc (drawOk W) Tryd.func129 rfl (by decide) (by decide) rfl ?_)
  (refine g0_ ?_; repeat ((first | refine n1_ fun b_ => ?_ | refine n2_ fun b_ => ?_ | refine Nat1.mk fun q_ hq_ => ?_ | refine em_ fun x_ hx_ => ?_ | refine Elem1.mk fun e_ he_ => ?_); refine g0_ ?_))
  rw [show (decide (97 ≤ (c : Int)) && decide ((c : Int) ≤ 122) || decide ((c : Int) = 95)) = l from by
    rw [h, Bool.eq_iff_iff]
    simp only [Bool.or_eq_true, Bool.and_eq_true, decide_eq_true_eq]
    omega]
  exact .refl _
theorem valueA_ok (b : Nat) (s : List UInt8) (i : Nat) : ACalls Tryd.prog W 113 [.bref b 0, .str [97]] [fR b s i] (Gives (fun _ : Unit => .str [120, 121]) (fun _ => [fR b s i]) (fun _ => True)) := by
  unfold fR
  refine acalls_of_vc (drawOk W) Tryd.func113 rfl (by decide) (by decide) rfl ?_
  (refine g0_ ?_; repeat ((first | refine n1_ fun b_ => ?_ | refine n2_ fun b_ => ?_ | refine Nat1.mk fun q_ hq_ => ?_ | refine em_ fun x_ hx_ => ?_ | refine Elem1.mk fun e_ he_ => ?_); refine g0_ ?_))
  refine' loopI (α := Nat) (fun j => [(12, .int .i64 j)]) [(1, _), (10, _), (11, _)] (fun j => [⟨b, .row 3 [.agg [.str s, .int .i64 i, .sl 2 [.agg [.str [97], .str [120, 121]], .agg [.str [98], .str [48]]]]] 0⟩]) (fun j => j = 0) (fun j => 1 - j) 0 ?_ ?_
  · rfl
  rintro j rfl
  (refine g0_ ?_; repeat ((first | refine n1_ fun b_ => ?_ | refine n2_ fun b_ => ?_ | refine Nat1.mk fun q_ hq_ => ?_ | refine em_ fun x_ hx_ => ?_ | refine Elem1.mk fun e_ he_ => ?_); refine g0_ ?_))
  (refine g1_ ?_; repeat ((first | refine n1_ fun b_ => ?_ | refine n2_ fun b_ => ?_ | refine Nat1.mk fun q_ hq_ => ?_ | refine em_ fun x_ hx_ => ?_ | refine Elem1.mk fun e_ he_ => ?_); refine g1_ ?_))
  exact ⟨(), trivial, rfl, by (first | exact ⟨_, .refl _⟩ | exact wkMem.rfl' | exact ⟨_, .swap _ _ _⟩ | (repeat (first | exact wkMem.nil _ | exact wkMem.rfl' | exact wk_snoc _ _ _ | exact wk_fam (by assumption) _ _ _ | exact wk_famN (by assumption) _ _ _ | (apply wkMem.cons; (case' hl => (repeat (first | exact .here _ _ _ | apply Look.there)))) | apply wkMem.skip)))⟩
theorem valueB_ok (b : Nat) (s : List UInt8) (i : Nat) : ACalls Tryd.prog W 113 [.bref b 0, .str [98]] [fR b s i] (Gives (fun _ : Unit => .str [48]) (fun _ => [fR b s i]) (fun _ => True)) := by
  unfold fR
  refine acalls_of_vc (drawOk W) Tryd.func113 rfl (by decide) (by decide) rfl ?_
  (refine g0_ ?_; repeat ((first | refine n1_ fun b_ => ?_ | refine n2_ fun b_ => ?_ | refine Nat1.mk fun q_ hq_ => ?_ | refine em_ fun x_ hx_ => ?_ | refine Elem1.mk fun e_ he_ => ?_); refine g0_ ?_))
  refine' loopI (α := Nat) (fun j => [(12, .int .i64 j)]) [(1, _), (10, _), (11, _)] (fun j => [⟨b, .row 3 [.agg [.str s, .int .i64 i, .sl 2 [.agg [.str [97], .str [120, 121]], .agg [.str [98], .str [48]]]]] 0⟩]) (fun j => j ≤ 1) (fun j => 1 - j) 0 ?_ ?_
  · exact Nat.zero_le _
  rintro j hj
  rcases (by omega : j = 0 ∨ j = 1) with rfl | rfl
  · (refine g0_ ?_; repeat ((first | refine n1_ fun b_ => ?_ | refine n2_ fun b_ => ?_ | refine Nat1.mk fun q_ hq_ => ?_ | refine em_ fun x_ hx_ => ?_ | refine Elem1.mk fun e_ he_ => ?_); refine g0_ ?_))
    (refine g1_ ?_; repeat ((first | refine n1_ fun b_ => ?_ | refine n2_ fun b_ => ?_ | refine Nat1.mk fun q_ hq_ => ?_ | refine em_ fun x_ hx_ => ?_ | refine Elem1.mk fun e_ he_ => ?_); refine g1_ ?_))
    refine nx_ (1) ?_ ?_
    · exact Nat.le_refl _
    · ((try dsimp only); (try simp only [List.length_drop, List.length_take, List.length_append, List.length_cons, List.length_nil, List.length_map] at *); omega)
  · (refine g0_ ?_; repeat ((first | refine n1_ fun b_ => ?_ | refine n2_ fun b_ => ?_ | refine Nat1.mk fun q_ hq_ => ?_ | refine em_ fun x_ hx_ => ?_ | refine Elem1.mk fun e_ he_ => ?_); refine g0_ ?_))
    (refine g1_ ?_; repeat ((first | refine n1_ fun b_ => ?_ | refine n2_ fun b_ => ?_ | refine Nat1.mk fun q_ hq_ => ?_ | refine em_ fun x_ hx_ => ?_ | refine Elem1.mk fun e_ he_ => ?_); refine g1_ ?_))
    exact ⟨(), trivial, rfl, by (first | exact ⟨_, .refl _⟩ | exact wkMem.rfl' | exact ⟨_, .swap _ _ _⟩ | (repeat (first | exact wkMem.nil _ | exact wkMem.rfl' | exact wk_snoc _ _ _ | exact wk_fam (by assumption) _ _ _ | exact wk_famN (by assumption) _ _ _ | (apply wkMem.cons; (case' hl => (repeat (first | exact .here _ _ _ | apply Look.there)))) | apply wkMem.skip)))⟩
theorem expectF_ok (b : Nat) (s : List UInt8) (i : Nat) (c : UInt8) (hs : s.length ≤ 4000) (h : s[i]? = some c) (c' : Nat) (hc : c.toNat = c') : ACalls Tryd.prog W 115 [.bref b 0, .int .u8 c'] [fR b s i] (Gives (fun _ : Unit => .tup []) (fun _ => [fR b s (i + 1)]) (fun _ => True)) := by
  have hi : i < s.length := lt_of_at h
  subst hc
  unfold fR
  refine acalls_of_vc (drawOk W) Tryd.func115 rfl (by decide) (by decide) rfl ?_
  (refine g0_ ?_; repeat ((first | refine n1_ fun b_ => ?_ | refine n2_ fun b_ => ?_ | refine Nat1.mk fun q_ hq_ => ?_ | refine em_ fun x_ hx_ => ?_ | refine Elem1.mk fun e_ he_ => ?_); refine g0_ ?_))
  refine head_ ?_; (refine g0_ ?_; repeat ((first | refine n1_ fun b_ => ?_ | refine n2_ fun b_ => ?_ | refine Nat1.mk fun q_ hq_ => ?_ | refine em_ fun x_ hx_ => ?_ | refine Elem1.mk fun e_ he_ => ?_); refine g0_ ?_))
  (refine g1_ ?_; repeat ((first | refine n1_ fun b_ => ?_ | refine n2_ fun b_ => ?_ | refine Nat1.mk fun q_ hq_ => ?_ | refine em_ fun x_ hx_ => ?_ | refine Elem1.mk fun e_ he_ => ?_); refine g1_ ?_))
  rw [h] at he_
  obtain rfl := Option.some.inj he_
  (refine g1_ ?_; repeat ((first | refine n1_ fun b_ => ?_ | refine n2_ fun b_ => ?_ | refine Nat1.mk fun q_ hq_ => ?_ | refine em_ fun x_ hx_ => ?_ | refine Elem1.mk fun e_ he_ => ?_); refine g1_ ?_))
  exact ⟨(), trivial, rfl, by (first | exact ⟨_, .refl _⟩ | exact wkMem.rfl' | exact ⟨_, .swap _ _ _⟩ | (repeat (first | exact wkMem.nil _ | exact wkMem.rfl' | exact wk_snoc _ _ _ | exact wk_fam (by assumption) _ _ _ | exact wk_famN (by assumption) _ _ _ | (apply wkMem.cons; (case' hl => (repeat (first | exact .here _ _ _ | apply Look.there)))) | apply wkMem.skip)))⟩
theorem nameF_ok (b : Nat) (s : List UInt8) (i : Nat) (c d : UInt8) (hs : s.length ≤ 4000) (h : s[i]? = some c) (h2 : s[i + 1]? = some d) (hc : 97 ≤ c.toNat ∧ c.toNat ≤ 122) (hd : ¬ ((97 ≤ d.toNat ∧ d.toNat ≤ 122) ∨ d.toNat = 95)) :
    ACalls Tryd.prog W 114 [.bref b 0] [fR b s i] (Gives (fun _ : Unit => .str [c]) (fun _ => [fR b s (i + 1)]) (fun _ => True)) := by
  have hi : i + 1 < s.length := lt_of_at h2
  have hl1 := letterF_ok W c.toNat true (by rw [decide_eq_true (Or.inl hc)])
  have hl2 := letterF_ok W d.toNat false (by rw [decide_eq_false hd])
  have hsl : (s.take (i + 1)).drop i = [c] := by rw [take_snoc_of h, List.drop_append, List.length_take, Nat.min_eq_left (by omega), Nat.sub_self]; simp
  clear hc hd
  unfold fR
  refine acalls_of_vc (drawOk W) Tryd.func114 rfl (by decide) (by decide) rfl ?_
  (refine g0_ ?_; repeat ((first | refine n1_ fun b_ => ?_ | refine n2_ fun b_ => ?_ | refine Nat1.mk fun q_ hq_ => ?_ | refine em_ fun x_ hx_ => ?_ | refine Elem1.mk fun e_ he_ => ?_); refine g0_ ?_))
  refine' loopI (α := Nat) (fun j => []) [(0, _), (3, _)] (fun j => [⟨b, .row 3 [.agg [.str s, .int .i64 ((i + j : Nat) : Int), .sl 2 [.agg [.str [97], .str [120, 121]], .agg [.str [98], .str [48]]]]] 0⟩]) (fun j => j ≤ 1) (fun j => 1 - j) 0 ?_ ?_
  · exact Nat.zero_le _
  rintro j hj
  rcases (by omega : j = 0 ∨ j = 1) with rfl | rfl
  · (refine g0_ ?_; repeat ((first | refine n1_ fun b_ => ?_ | refine n2_ fun b_ => ?_ | refine Nat1.mk fun q_ hq_ => ?_ | refine em_ fun x_ hx_ => ?_ | refine Elem1.mk fun e_ he_ => ?_); refine g0_ ?_))
    refine head_ ?_; (refine g0_ ?_; repeat ((first | refine n1_ fun b_ => ?_ | refine n2_ fun b_ => ?_ | refine Nat1.mk fun q_ hq_ => ?_ | refine em_ fun x_ hx_ => ?_ | refine Elem1.mk fun e_ he_ => ?_); refine g0_ ?_))
    (refine g1_ ?_; repeat ((first | refine n1_ fun b_ => ?_ | refine n2_ fun b_ => ?_ | refine Nat1.mk fun q_ hq_ => ?_ | refine em_ fun x_ hx_ => ?_ | refine Elem1.mk fun e_ he_ => ?_); refine g1_ ?_))
    rw [Nat.add_zero, h] at he_
    obtain rfl := Option.some.inj he_
    refine ⟨_, (hl1).quiet, ?_⟩; (refine g0_ ?_; repeat ((first | refine n1_ fun b_ => ?_ | refine n2_ fun b_ => ?_ | refine Nat1.mk fun q_ hq_ => ?_ | refine em_ fun x_ hx_ => ?_ | refine Elem1.mk fun e_ he_ => ?_); refine g0_ ?_))
    (refine g1_ ?_; repeat ((first | refine n1_ fun b_ => ?_ | refine n2_ fun b_ => ?_ | refine Nat1.mk fun q_ hq_ => ?_ | refine em_ fun x_ hx_ => ?_ | refine Elem1.mk fun e_ he_ => ?_); refine g1_ ?_))
    refine nx_ (1) ?_ ?_
    · exact Nat.le_refl _
    · ((try dsimp only); (try simp only [List.length_drop, List.length_take, List.length_append, List.length_cons, List.length_nil, List.length_map] at *); omega)
  · (refine g0_ ?_; repeat ((first | refine n1_ fun b_ => ?_ | refine n2_ fun b_ => ?_ | refine Nat1.mk fun q_ hq_ => ?_ | refine em_ fun x_ hx_ => ?_ | refine Elem1.mk fun e_ he_ => ?_); refine g0_ ?_))
    refine head_ ?_; (refine g0_ ?_; repeat ((first | refine n1_ fun b_ => ?_ | refine n2_ fun b_ => ?_ | refine Nat1.mk fun q_ hq_ => ?_ | refine em_ fun x_ hx_ => ?_ | refine Elem1.mk fun e_ he_ => ?_); refine g0_ ?_))
    (refine g1_ ?_; repeat ((first | refine n1_ fun b_ => ?_ | refine n2_ fun b_ => ?_ | refine Nat1.mk fun q_ hq_ => ?_ | refine em_ fun x_ hx_ => ?_ | refine Elem1.mk fun e_ he_ => ?_); refine g1_ ?_))
    rw [h2] at he_
    obtain rfl := Option.some.inj he_
    refine ⟨_, (hl2).quiet, ?_⟩; (refine g0_ ?_; repeat ((first | refine n1_ fun b_ => ?_ | refine n2_ fun b_ => ?_ | refine Nat1.mk fun q_ hq_ => ?_ | refine em_ fun x_ hx_ => ?_ | refine Elem1.mk fun e_ he_ => ?_); refine g0_ ?_))
    (refine g1_ ?_; repeat ((first | refine n1_ fun b_ => ?_ | refine n2_ fun b_ => ?_ | refine Nat1.mk fun q_ hq_ => ?_ | refine em_ fun x_ hx_ => ?_ | refine Elem1.mk fun e_ he_ => ?_); refine g1_ ?_))
    refine head_ ?_; (refine g0_ ?_; repeat ((first | refine n1_ fun b_ => ?_ | refine n2_ fun b_ => ?_ | refine Nat1.mk fun q_ hq_ => ?_ | refine em_ fun x_ hx_ => ?_ | refine Elem1.mk fun e_ he_ => ?_); refine g0_ ?_))
    rw [hsl]
    (refine g0_ ?_; repeat ((first | refine n1_ fun b_ => ?_ | refine n2_ fun b_ => ?_ | refine Nat1.mk fun q_ hq_ => ?_ | refine em_ fun x_ hx_ => ?_ | refine Elem1.mk fun e_ he_ => ?_); refine g0_ ?_))
    exact ⟨(), trivial, rfl, by (first | exact ⟨_, .refl _⟩ | exact wkMem.rfl' | exact ⟨_, .swap _ _ _⟩ | (repeat (first | exact wkMem.nil _ | exact wkMem.rfl' | exact wk_snoc _ _ _ | exact wk_fam (by assumption) _ _ _ | exact wk_famN (by assumption) _ _ _ | (apply wkMem.cons; (case' hl => (repeat (first | exact .here _ _ _ | apply Look.there)))) | apply wkMem.skip)))⟩
end Go.Eng.YtkenlcaifhffoaaDoor
end

/- Formats: what stands as it is, an item (b_ x_ q_ e_). -/
section
namespace Go.Eng
open Go
/-- A call that is lent the last blocks. -/
theorem ACalls.lendR {P : Program} {W : World} {α : Type} {V : α → PV} {M : α → Mem} {R : α → Prop} {f : FuncId} {args : List PV} {σ τ r : Mem} {k : PV → Mem → Prop} (h : ACalls P W f args τ (Gives V M R)) (hp : σ.Perm (r ++ τ)) (hk : ∀ x, R x → k (V x) (r ++ M x)) : ACalls P W f args σ k :=
  ACalls.weak (ACalls.lend h (hp.trans List.perm_append_comm) fun x hx => ⟨r ++ M x, hk x hx, [], by rw [List.append_nil]; exact List.perm_append_comm⟩)
end Go.Eng
namespace Go.Eng.YtkenlcaifhffoaaDoor
open Go Go.Eng Go.Proofs Go.RowKit
variable (W : World)
set_option linter.unusedSimpArgs false
set_option maxRecDepth 100000
set_option linter.unusedVariables false
set_option maxHeartbeats 4000000
theorem slice1F {s : List UInt8} {k : Nat} {c : UInt8} (h : s[k]? = some c) : (s.take (k + 1)).drop k = [c] := by
  have hi := lt_of_at h
  rw [take_snoc_of h, List.drop_append, List.length_take, Nat.min_eq_left (by omega), Nat.sub_self]; simp
theorem hp_no {s r : List UInt8} {k : Nat} {c d : UInt8} (h : s[k]? = some c) (hc : c ≠ d) : Lib.hasPrefix (s.drop k) (d :: r) = false := by
  rw [drop_cons_of h]
  simp [Lib.hasPrefix, List.isPrefixOf, Ne.symm hc]
theorem untilP_ok (b : Nat) (s : List UInt8) (hs : s.length ≤ 4000) (i : Nat) (w ends : List UInt8) (e : UInt8) (deep : Int) (hw : ∀ (j : Nat) c, w[j]? = some c → s[i + j]? = some c ∧ ends.contains c = false ∧ c ≠ 35) (he : s[i + w.length]? = some e) (hee : ends.contains e = true) :
    ACalls Tryd.prog W 57 [.bref b 0, .str ends, .int .i64 deep] [fR b s i] (Gives (fun _ : Unit => .str w) (fun _ => [fR b s (i + w.length)]) (fun _ => True)) := by
  have hel := lt_of_at he
  have hce := contains1F_ok W ends e
  rw [hee] at hce
  have hsl := slice1F he
  unfold fR
  refine acalls_of_vc (drawOk W) Tryd.func57 rfl (by decide) (by decide) rfl ?_
  (refine g0_ ?_; repeat ((first | refine n1_ fun b_ => ?_ | refine n2_ fun b_ => ?_ | refine Nat1.mk fun q_ hq_ => ?_ | refine em_ fun x_ hx_ => ?_ | refine Elem1.mk fun e_ he_ => ?_); refine g0_ ?_))
  refine' loopI (α := Nat × Nat) (fun (j, c) => []) [(0, _), (1, _), (2, _), (7, _)] (fun (j, c) => ⟨b, .row 3 [.agg [.str s, .int .i64 ((i + j : Nat) : Int), .sl 2 [.agg [.str [97], .str [120, 121]], .agg [.str [98], .str [48]]]]] 0⟩ :: bldS b_ c (w.take j)) (fun (j, c) => j ≤ w.length) (fun (j, c) => w.length - j) (0, 0) ?_ ?_
  · exact Nat.zero_le _
  rintro ⟨j, c⟩ hj
  by_cases hjl : j = w.length
  · subst hjl
    (refine g0_ ?_; repeat ((first | refine n1_ fun b_ => ?_ | refine n2_ fun b_ => ?_ | refine Nat1.mk fun q_ hq_ => ?_ | refine em_ fun x_ hx_ => ?_ | refine Elem1.mk fun e_ he_ => ?_); refine g0_ ?_))
    refine head_ ?_; (refine g0_ ?_; repeat ((first | refine n1_ fun b_ => ?_ | refine n2_ fun b_ => ?_ | refine Nat1.mk fun q_ hq_ => ?_ | refine em_ fun x_ hx_ => ?_ | refine Elem1.mk fun e_ he_ => ?_); refine g0_ ?_))
    (refine g1_ ?_; repeat ((first | refine n1_ fun b_ => ?_ | refine n2_ fun b_ => ?_ | refine Nat1.mk fun q_ hq_ => ?_ | refine em_ fun x_ hx_ => ?_ | refine Elem1.mk fun e_ he_ => ?_); refine g1_ ?_))
    rw [hsl]
    refine ⟨_, (hce).quiet, ?_⟩; (refine g0_ ?_; repeat ((first | refine n1_ fun b_ => ?_ | refine n2_ fun b_ => ?_ | refine Nat1.mk fun q_ hq_ => ?_ | refine em_ fun x_ hx_ => ?_ | refine Elem1.mk fun e_ he_ => ?_); refine g0_ ?_))
    (refine g1_ ?_; repeat ((first | refine n1_ fun b_ => ?_ | refine n2_ fun b_ => ?_ | refine Nat1.mk fun q_ hq_ => ?_ | refine em_ fun x_ hx_ => ?_ | refine Elem1.mk fun e_ he_ => ?_); refine g1_ ?_))
    refine ACalls.lendR (string_ok W b_ c (w.take w.length) (by rw [List.take_length]; omega)) (r := [_]) (.refl _) ?_
    rintro _ -
    rw [List.take_length]
    (refine g0_ ?_; repeat ((first | refine n1_ fun b_ => ?_ | refine n2_ fun b_ => ?_ | refine Nat1.mk fun q_ hq_ => ?_ | refine em_ fun x_ hx_ => ?_ | refine Elem1.mk fun e_ he_ => ?_); refine g0_ ?_))
    exact ⟨(), trivial, rfl, by (first | exact ⟨_, .refl _⟩ | exact wkMem.rfl' | exact ⟨_, .swap _ _ _⟩ | (repeat (first | exact wkMem.nil _ | exact wkMem.rfl' | exact wk_snoc _ _ _ | exact wk_fam (by assumption) _ _ _ | exact wk_famN (by assumption) _ _ _ | (apply wkMem.cons; (case' hl => (repeat (first | exact .here _ _ _ | apply Look.there)))) | apply wkMem.skip)))⟩
  · obtain ⟨x, hx⟩ : ∃ x, w[j]? = some x := ⟨w[j]'(by omega), List.getElem?_eq_getElem _⟩
    obtain ⟨h1, h2, h3⟩ := hw j x hx
    have hxl := lt_of_at h1
    have hcx := contains1F_ok W ends x
    rw [h2] at hcx
    have hsx := slice1F h1
    have hp1 := hasPrefix_ok W (s.drop (i + j)) [35, 123]
    rw [hp_no h1 h3] at hp1
    have hp2 := hasPrefix_ok W (s.drop (i + j)) [35, 35]
    rw [hp_no h1 h3] at hp2
    have hlt : (w.take j).length ≤ 4000 := by rw [List.length_take]; omega
    have hnx : w.take (j + 1) = w.take j ++ [x] := take_snoc_of hx
    (refine g0_ ?_; repeat ((first | refine n1_ fun b_ => ?_ | refine n2_ fun b_ => ?_ | refine Nat1.mk fun q_ hq_ => ?_ | refine em_ fun x_ hx_ => ?_ | refine Elem1.mk fun e_ he_ => ?_); refine g0_ ?_))
    refine head_ ?_; (refine g0_ ?_; repeat ((first | refine n1_ fun b_ => ?_ | refine n2_ fun b_ => ?_ | refine Nat1.mk fun q_ hq_ => ?_ | refine em_ fun x_ hx_ => ?_ | refine Elem1.mk fun e_ he_ => ?_); refine g0_ ?_))
    (refine g1_ ?_; repeat ((first | refine n1_ fun b_ => ?_ | refine n2_ fun b_ => ?_ | refine Nat1.mk fun q_ hq_ => ?_ | refine em_ fun x_ hx_ => ?_ | refine Elem1.mk fun e_ he_ => ?_); refine g1_ ?_))
    rw [hsx]
    refine ⟨_, (hcx).quiet, ?_⟩; (refine g0_ ?_; repeat ((first | refine n1_ fun b_ => ?_ | refine n2_ fun b_ => ?_ | refine Nat1.mk fun q_ hq_ => ?_ | refine em_ fun x_ hx_ => ?_ | refine Elem1.mk fun e_ he_ => ?_); refine g0_ ?_))
    (refine g1_ ?_; repeat ((first | refine n1_ fun b_ => ?_ | refine n2_ fun b_ => ?_ | refine Nat1.mk fun q_ hq_ => ?_ | refine em_ fun x_ hx_ => ?_ | refine Elem1.mk fun e_ he_ => ?_); refine g1_ ?_))
    refine head_ ?_; (refine g0_ ?_; repeat ((first | refine n1_ fun b_ => ?_ | refine n2_ fun b_ => ?_ | refine Nat1.mk fun q_ hq_ => ?_ | refine em_ fun x_ hx_ => ?_ | refine Elem1.mk fun e_ he_ => ?_); refine g0_ ?_))
    refine ⟨_, (hp1).quiet, ?_⟩; (refine g0_ ?_; repeat ((first | refine n1_ fun b_ => ?_ | refine n2_ fun b_ => ?_ | refine Nat1.mk fun q_ hq_ => ?_ | refine em_ fun x_ hx_ => ?_ | refine Elem1.mk fun e_ he_ => ?_); refine g0_ ?_))
    (refine g1_ ?_; repeat ((first | refine n1_ fun b_ => ?_ | refine n2_ fun b_ => ?_ | refine Nat1.mk fun q_ hq_ => ?_ | refine em_ fun x_ hx_ => ?_ | refine Elem1.mk fun e_ he_ => ?_); refine g1_ ?_))
    refine head_ ?_; (refine g0_ ?_; repeat ((first | refine n1_ fun b_ => ?_ | refine n2_ fun b_ => ?_ | refine Nat1.mk fun q_ hq_ => ?_ | refine em_ fun x_ hx_ => ?_ | refine Elem1.mk fun e_ he_ => ?_); refine g0_ ?_))
    refine ⟨_, (hp2).quiet, ?_⟩; (refine g0_ ?_; repeat ((first | refine n1_ fun b_ => ?_ | refine n2_ fun b_ => ?_ | refine Nat1.mk fun q_ hq_ => ?_ | refine em_ fun x_ hx_ => ?_ | refine Elem1.mk fun e_ he_ => ?_); refine g0_ ?_))
    (refine g1_ ?_; repeat ((first | refine n1_ fun b_ => ?_ | refine n2_ fun b_ => ?_ | refine Nat1.mk fun q_ hq_ => ?_ | refine em_ fun x_ hx_ => ?_ | refine Elem1.mk fun e_ he_ => ?_); refine g1_ ?_))
    refine Draws.head ⟨9, by decide +kernel, ?_⟩; (refine g0_ ?_; repeat ((first | refine n1_ fun b_ => ?_ | refine n2_ fun b_ => ?_ | refine Nat1.mk fun q_ hq_ => ?_ | refine em_ fun x_ hx_ => ?_ | refine Elem1.mk fun e_ he_ => ?_); refine g0_ ?_))
    rw [h1] at he_
    obtain rfl := Option.some.inj he_
    refine ACalls.lendR (writeByte_ok W b_ c (w.take j) x (by omega)) (r := [_]) (.refl _) ?_
    rintro c' -
    (refine g0_ ?_; repeat ((first | refine n1_ fun b_ => ?_ | refine n2_ fun b_ => ?_ | refine Nat1.mk fun q_ hq_ => ?_ | refine em_ fun x_ hx_ => ?_ | refine Elem1.mk fun e_ he_ => ?_); refine g0_ ?_))
    rw [← hnx]
    refine nx_ (j + 1, c') ?_ ?_
    · show j + 1 ≤ w.length
      omega
    · ((try dsimp only); (try simp only [List.length_drop, List.length_take, List.length_append, List.length_cons, List.length_nil, List.length_map] at *); omega)
end Go.Eng.YtkenlcaifhffoaaDoor
end

/- Formats: the items of one text (b_ x_ q_ e_). -/
section
namespace Go.Eng.YtkenlcaifhffoaaDoor
open Go Go.Eng Go.Proofs Go.RowKit
variable (W : World)
set_option linter.unusedSimpArgs false
set_option maxRecDepth 100000
set_option linter.unusedVariables false
set_option maxHeartbeats 4000000
def S0f : List UInt8 := [35, 35, 91, 35, 123, 97, 125, 93, 32, 35, 123, 63, 98, 44, 121, 101, 115, 44, 110, 111, 125, 35, 123, 61, 49, 58, 97, 125]
theorem hp_yes {s : List UInt8} {k : Nat} {c : UInt8} (h : s[k]? = some c) : Lib.hasPrefix (s.drop k) [c] = true := by
  rw [drop_cons_of h]
  simp [Lib.hasPrefix, List.isPrefixOf]
theorem hp_yes2 {s : List UInt8} {k : Nat} {c d : UInt8} (h : s[k]? = some c) (h2 : s[k + 1]? = some d) : Lib.hasPrefix (s.drop k) [c, d] = true := by
  rw [drop_cons_of h, drop_cons_of h2]
  simp [Lib.hasPrefix, List.isPrefixOf]
theorem hp_no2 {s : List UInt8} {k : Nat} {c d e : UInt8} (h : s[k]? = some c) (h2 : s[k + 1]? = some d) (hn : d ≠ e) : Lib.hasPrefix (s.drop k) [c, e] = false := by
  rw [drop_cons_of h, drop_cons_of h2]
  simp [Lib.hasPrefix, List.isPrefixOf, Ne.symm hn]
theorem itemA_ok (b : Nat) (s : List UInt8) (hS : s = S0f) : ACalls Tryd.prog W 90 [.bref b 0, .int .i64 1] [fR b s 3] (Gives (fun _ : Unit => .str [120, 121]) (fun _ => [fR b s 7]) (fun _ => True)) := by
  have hl : s.length = 28 := by rw [hS]; rfl
  have a5 : s[5]? = some 97 := by rw [hS]; rfl
  have a6 : s[6]? = some 125 := by rw [hS]; rfl
  clear hS
  have hp1 := hasPrefix_ok W (s.drop 5) [63]
  rw [hp_no a5 (by decide)] at hp1
  have hp2 := hasPrefix_ok W (s.drop 5) [61]
  rw [hp_no a5 (by decide)] at hp2
  have hnm := nameF_ok W b s 5 97 125 (by omega) a5 a6 (by decide) (by decide)
  have hva := valueA_ok W b s 6
  have hex := expectF_ok W b s 6 125 (by omega) a6 125 rfl
  clear a5 a6
  unfold fR at *
  refine acalls_of_vc (drawOk W) Tryd.func90 rfl (by decide) (by decide) rfl ?_
  (refine g0_ ?_; repeat ((first | refine n1_ fun b_ => ?_ | refine n2_ fun b_ => ?_ | refine Nat1.mk fun q_ hq_ => ?_ | refine em_ fun x_ hx_ => ?_ | refine Elem1.mk fun e_ he_ => ?_); refine g0_ ?_))
  (refine g1_ ?_; repeat ((first | refine n1_ fun b_ => ?_ | refine n2_ fun b_ => ?_ | refine Nat1.mk fun q_ hq_ => ?_ | refine em_ fun x_ hx_ => ?_ | refine Elem1.mk fun e_ he_ => ?_); refine g1_ ?_))
  refine head_ ?_; (refine g0_ ?_; repeat ((first | refine n1_ fun b_ => ?_ | refine n2_ fun b_ => ?_ | refine Nat1.mk fun q_ hq_ => ?_ | refine em_ fun x_ hx_ => ?_ | refine Elem1.mk fun e_ he_ => ?_); refine g0_ ?_))
  refine ⟨_, (hp1).quiet, ?_⟩; (refine g0_ ?_; repeat ((first | refine n1_ fun b_ => ?_ | refine n2_ fun b_ => ?_ | refine Nat1.mk fun q_ hq_ => ?_ | refine em_ fun x_ hx_ => ?_ | refine Elem1.mk fun e_ he_ => ?_); refine g0_ ?_))
  (refine g1_ ?_; repeat ((first | refine n1_ fun b_ => ?_ | refine n2_ fun b_ => ?_ | refine Nat1.mk fun q_ hq_ => ?_ | refine em_ fun x_ hx_ => ?_ | refine Elem1.mk fun e_ he_ => ?_); refine g1_ ?_))
  refine head_ ?_; (refine g0_ ?_; repeat ((first | refine n1_ fun b_ => ?_ | refine n2_ fun b_ => ?_ | refine Nat1.mk fun q_ hq_ => ?_ | refine em_ fun x_ hx_ => ?_ | refine Elem1.mk fun e_ he_ => ?_); refine g0_ ?_))
  refine ⟨_, (hp2).quiet, ?_⟩; (refine g0_ ?_; repeat ((first | refine n1_ fun b_ => ?_ | refine n2_ fun b_ => ?_ | refine Nat1.mk fun q_ hq_ => ?_ | refine em_ fun x_ hx_ => ?_ | refine Elem1.mk fun e_ he_ => ?_); refine g0_ ?_))
  (refine g1_ ?_; repeat ((first | refine n1_ fun b_ => ?_ | refine n2_ fun b_ => ?_ | refine Nat1.mk fun q_ hq_ => ?_ | refine em_ fun x_ hx_ => ?_ | refine Elem1.mk fun e_ he_ => ?_); refine g1_ ?_))
  refine ACalls.lend hnm (r := []) (.refl _) ?_
  rintro _ -
  (refine g0_ ?_; repeat ((first | refine n1_ fun b_ => ?_ | refine n2_ fun b_ => ?_ | refine Nat1.mk fun q_ hq_ => ?_ | refine em_ fun x_ hx_ => ?_ | refine Elem1.mk fun e_ he_ => ?_); refine g0_ ?_))
  refine ACalls.lend hva (r := []) (.refl _) ?_
  rintro _ -
  (refine g0_ ?_; repeat ((first | refine n1_ fun b_ => ?_ | refine n2_ fun b_ => ?_ | refine Nat1.mk fun q_ hq_ => ?_ | refine em_ fun x_ hx_ => ?_ | refine Elem1.mk fun e_ he_ => ?_); refine g0_ ?_))
  refine ACalls.lend hex (r := []) (.refl _) ?_
  rintro _ -
  (refine g0_ ?_; repeat ((first | refine n1_ fun b_ => ?_ | refine n2_ fun b_ => ?_ | refine Nat1.mk fun q_ hq_ => ?_ | refine em_ fun x_ hx_ => ?_ | refine Elem1.mk fun e_ he_ => ?_); refine g0_ ?_))
  exact ⟨(), trivial, rfl, by (first | exact ⟨_, .refl _⟩ | exact wkMem.rfl' | exact ⟨_, .swap _ _ _⟩ | (repeat (first | exact wkMem.nil _ | exact wkMem.rfl' | exact wk_snoc _ _ _ | exact wk_fam (by assumption) _ _ _ | exact wk_famN (by assumption) _ _ _ | (apply wkMem.cons; (case' hl => (repeat (first | exact .here _ _ _ | apply Look.there)))) | apply wkMem.skip)))⟩
theorem itemB_ok (b : Nat) (s : List UInt8) (hS : s = S0f) : ACalls Tryd.prog W 90 [.bref b 0, .int .i64 1] [fR b s 9] (Gives (fun _ : Unit => .str [110, 111]) (fun _ => [fR b s 21]) (fun _ => True)) := by
  have hl : s.length = 28 := by rw [hS]; rfl
  have a11 : s[11]? = some 63 := by rw [hS]; rfl
  have a12 : s[12]? = some 98 := by rw [hS]; rfl
  have a13 : s[13]? = some 44 := by rw [hS]; rfl
  have a17 : s[17]? = some 44 := by rw [hS]; rfl
  have a20 : s[20]? = some 125 := by rw [hS]; rfl
  have hu1 := untilP_ok W b s (by omega) 14 [121, 101, 115] [44, 125] 44 1 (fun j c h => by
    subst hS
    match j, h with
    | 0, h => obtain rfl := Option.some.inj h; decide
    | 1, h => obtain rfl := Option.some.inj h; decide
    | 2, h => obtain rfl := Option.some.inj h; decide
    | j + 3, h => simp at h) a17 (by decide)
  have hu2 := untilP_ok W b s (by omega) 18 [110, 111] [125] 125 1 (fun j c h => by
    subst hS
    match j, h with
    | 0, h => obtain rfl := Option.some.inj h; decide
    | 1, h => obtain rfl := Option.some.inj h; decide
    | j + 2, h => simp at h) a20 (by decide)
  clear hS
  have hp1 := hasPrefix_ok W (s.drop 11) [63]
  rw [hp_yes a11] at hp1
  have hnm := nameF_ok W b s 12 98 44 (by omega) a12 a13 (by decide) (by decide)
  have hva := valueB_ok W b s 13
  have hex1 := expectF_ok W b s 13 44 (by omega) a13 44 rfl
  have hex2 := expectF_ok W b s 17 44 (by omega) a17 44 rfl
  have hex3 := expectF_ok W b s 20 125 (by omega) a20 125 rfl
  clear a11 a12 a13 a17 a20
  unfold fR at *
  refine acalls_of_vc (drawOk W) Tryd.func90 rfl (by decide) (by decide) rfl ?_
  (refine g0_ ?_; repeat ((first | refine n1_ fun b_ => ?_ | refine n2_ fun b_ => ?_ | refine Nat1.mk fun q_ hq_ => ?_ | refine em_ fun x_ hx_ => ?_ | refine Elem1.mk fun e_ he_ => ?_); refine g0_ ?_))
  (refine g1_ ?_; repeat ((first | refine n1_ fun b_ => ?_ | refine n2_ fun b_ => ?_ | refine Nat1.mk fun q_ hq_ => ?_ | refine em_ fun x_ hx_ => ?_ | refine Elem1.mk fun e_ he_ => ?_); refine g1_ ?_))
  refine head_ ?_; (refine g0_ ?_; repeat ((first | refine n1_ fun b_ => ?_ | refine n2_ fun b_ => ?_ | refine Nat1.mk fun q_ hq_ => ?_ | refine em_ fun x_ hx_ => ?_ | refine Elem1.mk fun e_ he_ => ?_); refine g0_ ?_))
  refine ⟨_, (hp1).quiet, ?_⟩; (refine g0_ ?_; repeat ((first | refine n1_ fun b_ => ?_ | refine n2_ fun b_ => ?_ | refine Nat1.mk fun q_ hq_ => ?_ | refine em_ fun x_ hx_ => ?_ | refine Elem1.mk fun e_ he_ => ?_); refine g0_ ?_))
  (refine g1_ ?_; repeat ((first | refine n1_ fun b_ => ?_ | refine n2_ fun b_ => ?_ | refine Nat1.mk fun q_ hq_ => ?_ | refine em_ fun x_ hx_ => ?_ | refine Elem1.mk fun e_ he_ => ?_); refine g1_ ?_))
  refine ACalls.lend hnm (r := []) (.refl _) ?_
  rintro _ -
  (refine g0_ ?_; repeat ((first | refine n1_ fun b_ => ?_ | refine n2_ fun b_ => ?_ | refine Nat1.mk fun q_ hq_ => ?_ | refine em_ fun x_ hx_ => ?_ | refine Elem1.mk fun e_ he_ => ?_); refine g0_ ?_))
  refine ACalls.lend hva (r := []) (.refl _) ?_
  rintro _ -
  (refine g0_ ?_; repeat ((first | refine n1_ fun b_ => ?_ | refine n2_ fun b_ => ?_ | refine Nat1.mk fun q_ hq_ => ?_ | refine em_ fun x_ hx_ => ?_ | refine Elem1.mk fun e_ he_ => ?_); refine g0_ ?_))
  refine ACalls.lend hex1 (r := []) (.refl _) ?_
  rintro _ -
  (refine g0_ ?_; repeat ((first | refine n1_ fun b_ => ?_ | refine n2_ fun b_ => ?_ | refine Nat1.mk fun q_ hq_ => ?_ | refine em_ fun x_ hx_ => ?_ | refine Elem1.mk fun e_ he_ => ?_); refine g0_ ?_))
  refine ACalls.lend hu1 (r := []) (.refl _) ?_
  rintro _ -
  (refine g0_ ?_; repeat ((first | refine n1_ fun b_ => ?_ | refine n2_ fun b_ => ?_ | refine Nat1.mk fun q_ hq_ => ?_ | refine em_ fun x_ hx_ => ?_ | refine Elem1.mk fun e_ he_ => ?_); refine g0_ ?_))
  refine ACalls.lend hex2 (r := []) (.refl _) ?_
  rintro _ -
  (refine g0_ ?_; repeat ((first | refine n1_ fun b_ => ?_ | refine n2_ fun b_ => ?_ | refine Nat1.mk fun q_ hq_ => ?_ | refine em_ fun x_ hx_ => ?_ | refine Elem1.mk fun e_ he_ => ?_); refine g0_ ?_))
  refine ACalls.lend hu2 (r := []) (.refl _) ?_
  rintro _ -
  (refine g0_ ?_; repeat ((first | refine n1_ fun b_ => ?_ | refine n2_ fun b_ => ?_ | refine Nat1.mk fun q_ hq_ => ?_ | refine em_ fun x_ hx_ => ?_ | refine Elem1.mk fun e_ he_ => ?_); refine g0_ ?_))
  (refine g1_ ?_; repeat ((first | refine n1_ fun b_ => ?_ | refine n2_ fun b_ => ?_ | refine Nat1.mk fun q_ hq_ => ?_ | refine em_ fun x_ hx_ => ?_ | refine Elem1.mk fun e_ he_ => ?_); refine g1_ ?_))
  refine ACalls.lend hex3 (r := []) (.refl _) ?_
  rintro _ -
  (refine g0_ ?_; repeat ((first | refine n1_ fun b_ => ?_ | refine n2_ fun b_ => ?_ | refine Nat1.mk fun q_ hq_ => ?_ | refine em_ fun x_ hx_ => ?_ | refine Elem1.mk fun e_ he_ => ?_); refine g0_ ?_))
  exact ⟨(), trivial, rfl, by (first | exact ⟨_, .refl _⟩ | exact wkMem.rfl' | exact ⟨_, .swap _ _ _⟩ | (repeat (first | exact wkMem.nil _ | exact wkMem.rfl' | exact wk_snoc _ _ _ | exact wk_fam (by assumption) _ _ _ | exact wk_famN (by assumption) _ _ _ | (apply wkMem.cons; (case' hl => (repeat (first | exact .here _ _ _ | apply Look.there)))) | apply wkMem.skip)))⟩
theorem atoi1F_ok : Pure Tryd.prog W 116 [.str [49]] (.tup [.int .i64 1, .lit .nilIface]) := by
  refine Pure.of_any Tryd.func116 rfl (by decide) rfl fun w _ hw => ?_
  refine (Tryd.strconv_Atoi ⟨#[49]⟩ 1 (by decide) (by decide +kernel) w).mono ?_
  rintro e w' ⟨he, t, rfl⟩
  refine ⟨_, he, fun K => .tup [_, _] [.int .i64 1, .nilIface] rfl fun i hi => ?_, Lib.bytesWorld_below _ _ _⟩
  match i, hi with
  | 0, _ => exact .int _ _
  | 1, _ => exact .lit _
theorem neq_nilF {t : TypeId} {xo : Operand} {c : Value} (ht : Tryd.prog.underlying t = some (.interface (Tryd.prog.methodsAt t))) : EqLaw Tryd.prog .neq t xo (.const c) (.lit .nilIface) (.lit .nilIface) false := by
  refine ⟨fun K w u v h1 h2 => ?_⟩
  cases h1; cases h2
  have e0 : (eqGuard .neq t xo (.const c) .nilIface .nilIface).run Tryd.prog w = .ok () w := by simp [eqGuard]
  rw [Sem.run_bind, e0, Result.andThen_ok, run_neq_nil_nil w t ht]
theorem cut_xy : cutL [120, 121] 1 = [120] := by rw [cutL, runes_F 2 _ (by decide)]; decide +kernel
theorem itemC_ok (hT : Tabs W) (b : Nat) (s : List UInt8) (hS : s = S0f) : ACalls Tryd.prog W 90 [.bref b 0, .int .i64 1] [fR b s 21] (Gives (fun _ : Unit => .str [120]) (fun _ => [fR b s 28]) (fun _ => True)) := by
  have hl : s.length = 28 := by rw [hS]; rfl
  have a23 : s[23]? = some 61 := by rw [hS]; rfl
  have a24 : s[24]? = some 49 := by rw [hS]; rfl
  have a25 : s[25]? = some 58 := by rw [hS]; rfl
  have a26 : s[26]? = some 97 := by rw [hS]; rfl
  have a27 : s[27]? = some 125 := by rw [hS]; rfl
  clear hS
  have hp1 := hasPrefix_ok W (s.drop 23) [63]
  rw [hp_no a23 (by decide)] at hp1
  have hp2 := hasPrefix_ok W (s.drop 23) [61]
  rw [hp_yes a23] at hp2
  have hat := atoi1F_ok W
  have hsl := slice1F a24
  have hnm := nameF_ok W b s 26 97 125 (by omega) a26 a27 (by decide) (by decide)
  have hva := valueA_ok W b s 27
  have hex1 := expectF_ok W b s 25 58 (by omega) a25 58 rfl
  have hex3 := expectF_ok W b s 27 125 (by omega) a27 125 rfl
  have hcu := cut_ok W hT [120, 121] 1 (by decide)
  rw [cut_xy] at hcu
  clear a23 a26 a27
  unfold fR at *
  refine acalls_of_vc (drawOk W) Tryd.func90 rfl (by decide) (by decide) rfl ?_
  (refine g0_ ?_; repeat ((first | refine n1_ fun b_ => ?_ | refine n2_ fun b_ => ?_ | refine Nat1.mk fun q_ hq_ => ?_ | refine em_ fun x_ hx_ => ?_ | refine Elem1.mk fun e_ he_ => ?_); refine g0_ ?_))
  (refine g1_ ?_; repeat ((first | refine n1_ fun b_ => ?_ | refine n2_ fun b_ => ?_ | refine Nat1.mk fun q_ hq_ => ?_ | refine em_ fun x_ hx_ => ?_ | refine Elem1.mk fun e_ he_ => ?_); refine g1_ ?_))
  refine head_ ?_; (refine g0_ ?_; repeat ((first | refine n1_ fun b_ => ?_ | refine n2_ fun b_ => ?_ | refine Nat1.mk fun q_ hq_ => ?_ | refine em_ fun x_ hx_ => ?_ | refine Elem1.mk fun e_ he_ => ?_); refine g0_ ?_))
  refine ⟨_, (hp1).quiet, ?_⟩; (refine g0_ ?_; repeat ((first | refine n1_ fun b_ => ?_ | refine n2_ fun b_ => ?_ | refine Nat1.mk fun q_ hq_ => ?_ | refine em_ fun x_ hx_ => ?_ | refine Elem1.mk fun e_ he_ => ?_); refine g0_ ?_))
  (refine g1_ ?_; repeat ((first | refine n1_ fun b_ => ?_ | refine n2_ fun b_ => ?_ | refine Nat1.mk fun q_ hq_ => ?_ | refine em_ fun x_ hx_ => ?_ | refine Elem1.mk fun e_ he_ => ?_); refine g1_ ?_))
  refine head_ ?_; (refine g0_ ?_; repeat ((first | refine n1_ fun b_ => ?_ | refine n2_ fun b_ => ?_ | refine Nat1.mk fun q_ hq_ => ?_ | refine em_ fun x_ hx_ => ?_ | refine Elem1.mk fun e_ he_ => ?_); refine g0_ ?_))
  refine ⟨_, (hp2).quiet, ?_⟩; (refine g0_ ?_; repeat ((first | refine n1_ fun b_ => ?_ | refine n2_ fun b_ => ?_ | refine Nat1.mk fun q_ hq_ => ?_ | refine em_ fun x_ hx_ => ?_ | refine Elem1.mk fun e_ he_ => ?_); refine g0_ ?_))
  (refine g1_ ?_; repeat ((first | refine n1_ fun b_ => ?_ | refine n2_ fun b_ => ?_ | refine Nat1.mk fun q_ hq_ => ?_ | refine em_ fun x_ hx_ => ?_ | refine Elem1.mk fun e_ he_ => ?_); refine g1_ ?_))
  refine' loopI (α := Nat) (fun j => []) [(0, _), (9, _)] (fun j => [⟨b, .row 3 [.agg [.str s, .int .i64 ((24 + j : Nat) : Int), .sl 2 [.agg [.str [97], .str [120, 121]], .agg [.str [98], .str [48]]]]] 0⟩]) (fun j => j ≤ 1) (fun j => 1 - j) 0 ?_ ?_
  · exact Nat.zero_le _
  rintro j hj
  rcases (by omega : j = 0 ∨ j = 1) with rfl | rfl
  · (refine g0_ ?_; repeat ((first | refine n1_ fun b_ => ?_ | refine n2_ fun b_ => ?_ | refine Nat1.mk fun q_ hq_ => ?_ | refine em_ fun x_ hx_ => ?_ | refine Elem1.mk fun e_ he_ => ?_); refine g0_ ?_))
    refine head_ ?_; (refine g0_ ?_; repeat ((first | refine n1_ fun b_ => ?_ | refine n2_ fun b_ => ?_ | refine Nat1.mk fun q_ hq_ => ?_ | refine em_ fun x_ hx_ => ?_ | refine Elem1.mk fun e_ he_ => ?_); refine g0_ ?_))
    (refine g1_ ?_; repeat ((first | refine n1_ fun b_ => ?_ | refine n2_ fun b_ => ?_ | refine Nat1.mk fun q_ hq_ => ?_ | refine em_ fun x_ hx_ => ?_ | refine Elem1.mk fun e_ he_ => ?_); refine g1_ ?_))
    (repeat ((rw [show s[24 + 0]? = some 49 from a24] at he_; obtain rfl := Option.some.inj he_; clear he_); (refine g1_ ?_; repeat ((first | refine n1_ fun b_ => ?_ | refine n2_ fun b_ => ?_ | refine Nat1.mk fun q_ hq_ => ?_ | refine em_ fun x_ hx_ => ?_ | refine Elem1.mk fun e_ he_ => ?_); refine g1_ ?_))))
    refine nx_ (1) ?_ ?_
    · exact Nat.le_refl _
    · ((try dsimp only); (try simp only [List.length_drop, List.length_take, List.length_append, List.length_cons, List.length_nil, List.length_map] at *); omega)
  · (refine g0_ ?_; repeat ((first | refine n1_ fun b_ => ?_ | refine n2_ fun b_ => ?_ | refine Nat1.mk fun q_ hq_ => ?_ | refine em_ fun x_ hx_ => ?_ | refine Elem1.mk fun e_ he_ => ?_); refine g0_ ?_))
    refine head_ ?_; (refine g0_ ?_; repeat ((first | refine n1_ fun b_ => ?_ | refine n2_ fun b_ => ?_ | refine Nat1.mk fun q_ hq_ => ?_ | refine em_ fun x_ hx_ => ?_ | refine Elem1.mk fun e_ he_ => ?_); refine g0_ ?_))
    (refine g1_ ?_; repeat ((first | refine n1_ fun b_ => ?_ | refine n2_ fun b_ => ?_ | refine Nat1.mk fun q_ hq_ => ?_ | refine em_ fun x_ hx_ => ?_ | refine Elem1.mk fun e_ he_ => ?_); refine g1_ ?_))
    (repeat ((rw [show s[24 + 1]? = some 58 from a25] at he_; obtain rfl := Option.some.inj he_; clear he_); (refine g1_ ?_; repeat ((first | refine n1_ fun b_ => ?_ | refine n2_ fun b_ => ?_ | refine Nat1.mk fun q_ hq_ => ?_ | refine em_ fun x_ hx_ => ?_ | refine Elem1.mk fun e_ he_ => ?_); refine g1_ ?_))))
    refine head_ ?_; (refine g0_ ?_; repeat ((first | refine n1_ fun b_ => ?_ | refine n2_ fun b_ => ?_ | refine Nat1.mk fun q_ hq_ => ?_ | refine em_ fun x_ hx_ => ?_ | refine Elem1.mk fun e_ he_ => ?_); refine g0_ ?_))
    rw [show (s.take (24 + 1)).drop (21 + 2 + 1) = [49] from hsl]
    refine ⟨_, (hat).quiet, ?_⟩; (refine g0_ ?_; repeat ((first | refine n1_ fun b_ => ?_ | refine n2_ fun b_ => ?_ | refine Nat1.mk fun q_ hq_ => ?_ | refine em_ fun x_ hx_ => ?_ | refine Elem1.mk fun e_ he_ => ?_); refine g0_ ?_))
    refine ⟨_, neq_nilF (by kernel_rfl), ?_⟩
    (refine g1_ ?_; repeat ((first | refine n1_ fun b_ => ?_ | refine n2_ fun b_ => ?_ | refine Nat1.mk fun q_ hq_ => ?_ | refine em_ fun x_ hx_ => ?_ | refine Elem1.mk fun e_ he_ => ?_); refine g1_ ?_))
    refine ACalls.lend hex1 (r := []) (.refl _) ?_
    rintro _ -
    (refine g0_ ?_; repeat ((first | refine n1_ fun b_ => ?_ | refine n2_ fun b_ => ?_ | refine Nat1.mk fun q_ hq_ => ?_ | refine em_ fun x_ hx_ => ?_ | refine Elem1.mk fun e_ he_ => ?_); refine g0_ ?_))
    refine ACalls.lend hnm (r := []) (.refl _) ?_
    rintro _ -
    (refine g0_ ?_; repeat ((first | refine n1_ fun b_ => ?_ | refine n2_ fun b_ => ?_ | refine Nat1.mk fun q_ hq_ => ?_ | refine em_ fun x_ hx_ => ?_ | refine Elem1.mk fun e_ he_ => ?_); refine g0_ ?_))
    refine ACalls.lend hva (r := []) (.refl _) ?_
    rintro _ -
    (refine g0_ ?_; repeat ((first | refine n1_ fun b_ => ?_ | refine n2_ fun b_ => ?_ | refine Nat1.mk fun q_ hq_ => ?_ | refine em_ fun x_ hx_ => ?_ | refine Elem1.mk fun e_ he_ => ?_); refine g0_ ?_))
    refine (hcu).use ?_; (refine g0_ ?_; repeat ((first | refine n1_ fun b_ => ?_ | refine n2_ fun b_ => ?_ | refine Nat1.mk fun q_ hq_ => ?_ | refine em_ fun x_ hx_ => ?_ | refine Elem1.mk fun e_ he_ => ?_); refine g0_ ?_))
    refine ACalls.lend hex3 (r := []) (.refl _) ?_
    rintro _ -
    (refine g0_ ?_; repeat ((first | refine n1_ fun b_ => ?_ | refine n2_ fun b_ => ?_ | refine Nat1.mk fun q_ hq_ => ?_ | refine em_ fun x_ hx_ => ?_ | refine Elem1.mk fun e_ he_ => ?_); refine g0_ ?_))
    exact ⟨(), trivial, rfl, by (first | exact ⟨_, .refl _⟩ | exact wkMem.rfl' | exact ⟨_, .swap _ _ _⟩ | (repeat (first | exact wkMem.nil _ | exact wkMem.rfl' | exact wk_snoc _ _ _ | exact wk_fam (by assumption) _ _ _ | exact wk_famN (by assumption) _ _ _ | (apply wkMem.cons; (case' hl => (repeat (first | exact .here _ _ _ | apply Look.there)))) | apply wkMem.skip)))⟩
end Go.Eng.YtkenlcaifhffoaaDoor
end
