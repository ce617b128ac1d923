/- Texts put together: Style, StyleEq, IsStyle, Style2, StyleMap. -/
import Derived.Test.YtgpkedepboenpaaDoorME3
/- Styles: package style's Check, bits, Apply. -/
section
namespace Go.Eng.YtgpkedepboenpaaDoor
open Go Go.Eng Go.Proofs
variable (W : World)
set_option linter.unusedSimpArgs false
set_option maxRecDepth 100000
set_option linter.unusedVariables false
set_option maxHeartbeats 4000000
structure Style where
  fore : Int
  back : Int
  bits : Int
  deriving DecidableEq
def encStyle (s : Style) : PV := .agg [.int .i64 s.fore, .int .i64 s.back, .int .i64 s.bits]
def Style.ok (s : Style) : Prop := i64ok s.fore ∧ i64ok s.back ∧ i64ok s.bits
def Style.none : Style := ⟨0, 0, 0⟩
def checkStyle (s : Style) : Bool := decide (0 ≤ s.fore) && decide (s.fore ≤ 256) && decide (0 ≤ s.back) && decide (s.back ≤ 256) && decide (0 ≤ s.bits) && decide (s.bits < 128)
theorem styleCheck_ok (s : Style) : Pure Tryd.prog W 82 [encStyle s] (.bool (checkStyle s)) := by
  refine Pure.of (acalls_of_vc (drawOk W) Tryd.func82 rfl (by decide) (by decide) rfl ?_)
  refine wh ?_; repeat' (first | (refine brec ?_; intro c_ h_; (try rw [h_]); cases c_ <;> (first | replace h_ := of_decide_eq_true h_ | replace h_ := Decidable.not_not.1 (of_decide_eq_false h_) | replace h_ := of_decide_eq_false h_ | (replace h_ := Bool.eq_false_iff.1 h_; simp only [true_and, and_true, Bool.true_and, Bool.and_true, Bool.not_true, Bool.not_false, Bool.and_eq_true, Bool.not_eq_true, Bool.not_eq_false, Bool.or_eq_true, Bool.not_eq_true', Bool.not_eq_false', decide_eq_true_eq, decide_eq_false_iff_not, Decidable.not_not, ne_eq, beq_iff_eq] at h_) | simp only [true_and, and_true, Bool.true_and, Bool.and_true, Bool.not_true, Bool.not_false, Bool.and_eq_true, Bool.not_eq_true, Bool.not_eq_false, Bool.or_eq_true, Bool.not_eq_true', Bool.not_eq_false', decide_eq_true_eq, decide_eq_false_iff_not, Decidable.not_not, ne_eq, beq_iff_eq] at h_ | skip) <;> refine wh ?_) | ((first | refine CondC.part ?_ | (refine GuardC.part ?_; refine wh ?_; fail_if_success refine brec ?_) | (apply GuardC.sp; (case' h1 => (refine wh ?_; (repeat ((refine need.mk ?_ ?_; focus (first | with_reducible exact fun h => h | with_reducible exact not_of_false | exact fun _ => rfl | (intro h_; simp [h_]; done) | (intro h_; simp_all; done))); refine wh ?_)); exact trivial)); (case' h2 => (intro hg_; (refine wh ?_; repeat ((first | (apply RowAt.mk; (case' hl => (repeat (first | exact .here _ _ _ | apply Look.there | exact Look.fam (by assumption) _)))) | refine Fits.ok (by omega) (by omega) ?_ | (refine need.mk ?_ ?_; focus (first | (first | omega | exact wkMem.skip wkMem.rfl' | rfl | (simp; done) | (simp [cellsB, PV.flat, cellB]; done) | (simp <;> omega) | (simp only [true_and, and_true, Bool.true_and, Bool.and_true, Bool.not_true, Bool.not_false, Bool.and_eq_true, Bool.not_eq_true, Bool.not_eq_false, Bool.or_eq_true, Bool.not_eq_true', Bool.not_eq_false', decide_eq_true_eq, decide_eq_false_iff_not, Decidable.not_not, ne_eq, beq_iff_eq]; omega) | (rw [Bool.eq_false_iff]; simp only [true_and, and_true, Bool.true_and, Bool.and_true, Bool.not_true, Bool.not_false, Bool.and_eq_true, Bool.not_eq_true, Bool.not_eq_false, Bool.or_eq_true, Bool.not_eq_true', Bool.not_eq_false', decide_eq_true_eq, decide_eq_false_iff_not, Decidable.not_not, ne_eq, beq_iff_eq]; omega)) | (simp at hg_; omega) | (intros; simp_all; done) | (intros; simp_all; omega))) | (refine New1.mk fun b_ hb_ => ?_; clear hb_) | (refine New2.mk fun b_ hb_ => ?_; clear hb_) | (refine Nat1.mk fun q_ hq_ => ?_; (first | (obtain rfl := Int.ofNat.inj hq_; clear hq_) | skip)) | refine at_known (by assumption) ?_ | (refine Elem1.mk fun e_ he_ => ?_; (first | (obtain ⟨x_, hx_, rfl⟩ := getMap he_; clear he_) | (obtain rfl := Option.some.inj he_; clear he_) | skip)) | (refine Lst1.mk fun s_ hs_ => ?_; (try simp only [List.take_length, List.drop_zero, ← List.map_take, ← List.map_drop] at hs_); subst hs_)); refine wh ?_)); refine And.intro ?_ rfl; exact Eq.refl _))) | refine GuardC.part ?_ | (refine needO.mk ?_ ?_; focus (refine wh ?_; (repeat ((refine need.mk ?_ ?_; focus (first | with_reducible exact fun h => h | with_reducible exact not_of_false | exact fun _ => rfl | (intro h_; simp [h_]; done) | (intro h_; simp_all; done))); refine wh ?_)); exact trivial)) | with_reducible refine need.mk (fun h => h) ?_ | with_reducible refine need.mk not_of_false ?_ | (apply RowAt.mk; (case' hl => (repeat (first | exact .here _ _ _ | apply Look.there | exact Look.fam (by assumption) _)))) | refine Fits.ok (by omega) (by omega) ?_ | (refine need.mk ?_ ?_; focus (first | omega | exact wkMem.skip wkMem.rfl' | rfl | (simp; done) | (simp [cellsB, PV.flat, cellB]; done) | (simp <;> omega) | (simp only [true_and, and_true, Bool.true_and, Bool.and_true, Bool.not_true, Bool.not_false, Bool.and_eq_true, Bool.not_eq_true, Bool.not_eq_false, Bool.or_eq_true, Bool.not_eq_true', Bool.not_eq_false', decide_eq_true_eq, decide_eq_false_iff_not, Decidable.not_not, ne_eq, beq_iff_eq]; omega) | (rw [Bool.eq_false_iff]; simp only [true_and, and_true, Bool.true_and, Bool.and_true, Bool.not_true, Bool.not_false, Bool.and_eq_true, Bool.not_eq_true, Bool.not_eq_false, Bool.or_eq_true, Bool.not_eq_true', Bool.not_eq_false', decide_eq_true_eq, decide_eq_false_iff_not, Decidable.not_not, ne_eq, beq_iff_eq]; omega))) | (refine New1.mk fun b_ hb_ => ?_; clear hb_) | (refine New2.mk fun b_ hb_ => ?_; clear hb_) | (refine Nat1.mk fun q_ hq_ => ?_; (first | (obtain rfl := Int.ofNat.inj hq_; clear hq_) | skip)) | refine at_known (by assumption) ?_ | (refine Elem1.mk fun e_ he_ => ?_; (first | (obtain ⟨x_, hx_, rfl⟩ := getMap he_; clear he_) | (obtain rfl := Option.some.inj he_; clear he_) | skip)) | (refine Lst1.mk fun s_ hs_ => ?_; (try simp only [List.take_length, List.drop_zero, ← List.map_take, ← List.map_drop] at hs_); subst hs_)); refine wh ?_) | (((refine Frz.of_eq ?_; (conv => lhs; whnf)); simp [checkStyle, *]); done))
/-- The bits that a number sets, and clears. -/
def bitsF (n : Int) : Int × Int :=
  if n = 1 then (1, 0) else if n = 2 then (2, 0) else if n = 3 then (4, 0) else if n = 4 then (8, 0) else if n = 5 then (16, 0) else if n = 7 then (32, 0) else if n = 9 then (64, 0)
  else if n = 22 then (0, 3) else if n = 23 then (0, 4) else if n = 24 then (0, 8) else if n = 25 then (0, 16) else if n = 27 then (0, 32) else if n = 29 then (0, 64) else (0, 0)
theorem bits_ok (n : Int) : Pure Tryd.prog W 146 [.int .i64 n] (.tup [.int .i64 (bitsF n).1, .int .i64 (bitsF n).2]) := by
  refine Pure.of (acalls_of_vc (drawOk W) Tryd.func146 rfl (by decide) (by decide) rfl ?_)
  refine wh ?_; repeat' (first | (refine brec ?_; intro c_ h_; (try rw [h_]); cases c_ <;> (first | replace h_ := of_decide_eq_true h_ | replace h_ := Decidable.not_not.1 (of_decide_eq_false h_) | replace h_ := of_decide_eq_false h_ | (replace h_ := Bool.eq_false_iff.1 h_; simp only [true_and, and_true, Bool.true_and, Bool.and_true, Bool.not_true, Bool.not_false, Bool.and_eq_true, Bool.not_eq_true, Bool.not_eq_false, Bool.or_eq_true, Bool.not_eq_true', Bool.not_eq_false', decide_eq_true_eq, decide_eq_false_iff_not, Decidable.not_not, ne_eq, beq_iff_eq] at h_) | simp only [true_and, and_true, Bool.true_and, Bool.and_true, Bool.not_true, Bool.not_false, Bool.and_eq_true, Bool.not_eq_true, Bool.not_eq_false, Bool.or_eq_true, Bool.not_eq_true', Bool.not_eq_false', decide_eq_true_eq, decide_eq_false_iff_not, Decidable.not_not, ne_eq, beq_iff_eq] at h_ | skip) <;> refine wh ?_) | ((first | refine CondC.part ?_ | (refine GuardC.part ?_; refine wh ?_; fail_if_success refine brec ?_) | (apply GuardC.sp; (case' h1 => (refine wh ?_; (repeat ((refine need.mk ?_ ?_; focus (first | with_reducible exact fun h => h | with_reducible exact not_of_false | exact fun _ => rfl | (intro h_; simp [h_]; done) | (intro h_; simp_all; done))); refine wh ?_)); exact trivial)); (case' h2 => (intro hg_; (refine wh ?_; repeat ((first | (apply RowAt.mk; (case' hl => (repeat (first | exact .here _ _ _ | apply Look.there | exact Look.fam (by assumption) _)))) | refine Fits.ok (by omega) (by omega) ?_ | (refine need.mk ?_ ?_; focus (first | (first | omega | exact wkMem.skip wkMem.rfl' | rfl | (simp; done) | (simp [cellsB, PV.flat, cellB]; done) | (simp <;> omega) | (simp only [true_and, and_true, Bool.true_and, Bool.and_true, Bool.not_true, Bool.not_false, Bool.and_eq_true, Bool.not_eq_true, Bool.not_eq_false, Bool.or_eq_true, Bool.not_eq_true', Bool.not_eq_false', decide_eq_true_eq, decide_eq_false_iff_not, Decidable.not_not, ne_eq, beq_iff_eq]; omega) | (rw [Bool.eq_false_iff]; simp only [true_and, and_true, Bool.true_and, Bool.and_true, Bool.not_true, Bool.not_false, Bool.and_eq_true, Bool.not_eq_true, Bool.not_eq_false, Bool.or_eq_true, Bool.not_eq_true', Bool.not_eq_false', decide_eq_true_eq, decide_eq_false_iff_not, Decidable.not_not, ne_eq, beq_iff_eq]; omega)) | (simp at hg_; omega) | (intros; simp_all; done) | (intros; simp_all; omega))) | (refine New1.mk fun b_ hb_ => ?_; clear hb_) | (refine New2.mk fun b_ hb_ => ?_; clear hb_) | (refine Nat1.mk fun q_ hq_ => ?_; (first | (obtain rfl := Int.ofNat.inj hq_; clear hq_) | skip)) | refine at_known (by assumption) ?_ | (refine Elem1.mk fun e_ he_ => ?_; (first | (obtain ⟨x_, hx_, rfl⟩ := getMap he_; clear he_) | (obtain rfl := Option.some.inj he_; clear he_) | skip)) | (refine Lst1.mk fun s_ hs_ => ?_; (try simp only [List.take_length, List.drop_zero, ← List.map_take, ← List.map_drop] at hs_); subst hs_)); refine wh ?_)); refine And.intro ?_ rfl; exact Eq.refl _))) | refine GuardC.part ?_ | (refine needO.mk ?_ ?_; focus (refine wh ?_; (repeat ((refine need.mk ?_ ?_; focus (first | with_reducible exact fun h => h | with_reducible exact not_of_false | exact fun _ => rfl | (intro h_; simp [h_]; done) | (intro h_; simp_all; done))); refine wh ?_)); exact trivial)) | with_reducible refine need.mk (fun h => h) ?_ | with_reducible refine need.mk not_of_false ?_ | (apply RowAt.mk; (case' hl => (repeat (first | exact .here _ _ _ | apply Look.there | exact Look.fam (by assumption) _)))) | refine Fits.ok (by omega) (by omega) ?_ | (refine need.mk ?_ ?_; focus (first | omega | exact wkMem.skip wkMem.rfl' | rfl | (simp; done) | (simp [cellsB, PV.flat, cellB]; done) | (simp <;> omega) | (simp only [true_and, and_true, Bool.true_and, Bool.and_true, Bool.not_true, Bool.not_false, Bool.and_eq_true, Bool.not_eq_true, Bool.not_eq_false, Bool.or_eq_true, Bool.not_eq_true', Bool.not_eq_false', decide_eq_true_eq, decide_eq_false_iff_not, Decidable.not_not, ne_eq, beq_iff_eq]; omega) | (rw [Bool.eq_false_iff]; simp only [true_and, and_true, Bool.true_and, Bool.and_true, Bool.not_true, Bool.not_false, Bool.and_eq_true, Bool.not_eq_true, Bool.not_eq_false, Bool.or_eq_true, Bool.not_eq_true', Bool.not_eq_false', decide_eq_true_eq, decide_eq_false_iff_not, Decidable.not_not, ne_eq, beq_iff_eq]; omega))) | (refine New1.mk fun b_ hb_ => ?_; clear hb_) | (refine New2.mk fun b_ hb_ => ?_; clear hb_) | (refine Nat1.mk fun q_ hq_ => ?_; (first | (obtain rfl := Int.ofNat.inj hq_; clear hq_) | skip)) | refine at_known (by assumption) ?_ | (refine Elem1.mk fun e_ he_ => ?_; (first | (obtain ⟨x_, hx_, rfl⟩ := getMap he_; clear he_) | (obtain rfl := Option.some.inj he_; clear he_) | skip)) | (refine Lst1.mk fun s_ hs_ => ?_; (try simp only [List.take_length, List.drop_zero, ← List.map_take, ← List.map_drop] at hs_); subst hs_)); refine wh ?_) | (((refine Frz.of_eq ?_; (conv => lhs; whnf)); simp [bitsF, *]); done))
def Style.mask (s : Style) (n : Int) : Style := { s with bits := bitop .or .i64 (bitop .andNot .i64 s.bits (bitsF n).2) (bitsF n).1 }
/-- One number. -/
def Style.num (s : Style) (n : Int) : Style :=
  if n ≤ 0 then .none
  else if 30 ≤ n ∧ n ≤ 37 then { s with fore := n - 29 }
  else if n = 39 then { s with fore := 0 }
  else if 40 ≤ n ∧ n ≤ 47 then { s with back := n - 39 }
  else if n = 49 then { s with back := 0 }
  else if 90 ≤ n ∧ n ≤ 97 then { s with fore := n - 81 }
  else if 100 ≤ n ∧ n ≤ 107 then { s with back := n - 91 }
  else s
def Style.colour (s : Style) (n c : Int) : Style := if c < 0 ∨ 256 ≤ c then s else if n = 38 then { s with fore := c + 1 } else { s with back := c + 1 }
/-- Numbers, one after the other. -/
def applyL : Style → List Int → Style
  | s, [] => s
  | s, [n] => (s.mask n).num n
  | s, [n, m] => applyL ((s.mask n).num n) [m]
  | s, n :: m :: c :: r => if (n = 38 ∨ n = 48) ∧ m = 5 then applyL ((s.mask n).colour n c) r else applyL ((s.mask n).num n) (m :: c :: r)
def applyTo (s : Style) (l : List Int) : Style := if l = [] then .none else applyL s l
theorem applyL_cons (s : Style) (n : Int) (r : List Int) (h : ¬ ((n = 38 ∨ n = 48) ∧ 2 ≤ r.length ∧ r[0]? = some 5)) : applyL s (n :: r) = applyL ((s.mask n).num n) r := by
  match r, h with
  | [], _ => rfl
  | [m], _ => rfl
  | m :: c :: r, h =>
    rw [applyL, if_neg]
    simpa using h
theorem num_3848 (s : Style) (n : Int) (h : n = 38 ∨ n = 48) : s.num n = s := by
  rcases h with rfl | rfl <;> simp [Style.num]
end Go.Eng.YtgpkedepboenpaaDoor
end

/- Styles compared. -/
section
namespace Go.Eng.YtgpkedepboenpaaDoor
open Go Go.Eng Go.Proofs
variable (W : World)
set_option linter.unusedSimpArgs false
set_option maxRecDepth 100000
set_option linter.unusedVariables false
set_option maxHeartbeats 4000000
instance (n : Int) : Decidable (i64ok n) := inferInstanceAs (Decidable (_ ∧ _))
instance (s : Style) : Decidable s.ok := inferInstanceAs (Decidable (_ ∧ _ ∧ _))
theorem wf_of_ok {n : Int} (h : i64ok n) : (Lit.int .i64 n).wf = true := by
  simp [Lit.wf, IntKind.min, IntKind.max, IntKind.signed, IntKind.bits]; exact h
theorem cells_style : Tryd.prog.cellsOf 26 = 3 := by kernel_rfl
theorem cells_int : Tryd.prog.cellsOf 3 = 1 := by kernel_rfl
def litsStyle (s : Style) : List Lit := [.int .i64 s.fore, .int .i64 s.back, .int .i64 s.bits]
theorem lits_style (s : Style) (h : s.ok) : Tryd.prog.keyLits 3 26 [.int .i64 s.fore, .int .i64 s.back, .int .i64 s.bits] = some (litsStyle s) := by
  have h1 := wf_of_ok h.1
  have h2 := wf_of_ok h.2.1
  have h3 := wf_of_ok h.2.2
  have hk : ∀ n : Int, (Lit.int .i64 n).wf = true → Tryd.prog.keyLits 2 3 [.int .i64 n] = some [.int .i64 n] := fun n hn => by simp [Program.keyLits, Tryd.underlying3, hn]
  conv => lhs; unfold Program.keyLits
  rw [Tryd.underlying26]
  dsimp only
  rw [if_pos ⟨by rw [cells_style]; rfl, by simp⟩]
  simp only [List.mapM_cons, List.mapM_nil]
  rw [cells_int]
  simp only [List.drop_zero, List.drop_succ_cons, List.take_succ_cons, List.take_zero, hk _ h1, hk _ h2, hk _ h3]
  rfl
theorem eq_style (a b : Style) (ha : a.ok) (hb : b.ok) (xo yo : Operand) : EqLaw Tryd.prog .eql 26 xo yo (encStyle a) (encStyle b) (decide (a = b)) :=
  eqLaw_agg 3 (by kernel_rfl) (by decide) (by kernel_rfl) Tryd.underlying26 rfl rfl (by rw [cells_style]; rfl) (by rw [cells_style]; rfl) (lits_style a ha) (lits_style b hb) (by
    obtain ⟨a1, a2, a3⟩ := a
    obtain ⟨b1, b2, b3⟩ := b
    simp [litsStyle])
theorem neq_style (a b : Style) (ha : a.ok) (hb : b.ok) (xo yo : Operand) : EqLaw Tryd.prog .neq 26 xo yo (encStyle a) (encStyle b) (!decide (a = b)) :=
  neqLaw_agg 3 (by kernel_rfl) (by decide) (by kernel_rfl) Tryd.underlying26 rfl rfl (by rw [cells_style]; rfl) (by rw [cells_style]; rfl) (lits_style a ha) (lits_style b hb) (by
    obtain ⟨a1, a2, a3⟩ := a
    obtain ⟨b1, b2, b3⟩ := b
    simp [litsStyle])
end Go.Eng.YtgpkedepboenpaaDoor
end

/- The document's IsStyle. -/
section
namespace Go.Eng.YtgpkedepboenpaaDoor
open Go Go.Eng Go.Proofs
variable (W : World)
set_option linter.unusedSimpArgs false
set_option maxRecDepth 100000
set_option linter.unusedVariables false
set_option maxHeartbeats 4000000
theorem isStyle_ok (s : Style) : Pure Tryd.prog W 151 [encStyle s] (.bool (checkStyle s)) := by
  refine Pure.of (acalls_of_vc (drawOk W) Tryd.func151 rfl (by decide) (by decide) rfl ?_)
  (refine g0_ ?_; repeat ((first | refine n1_ fun b_ => ?_ | refine n2_ fun b_ => ?_ | refine n3_ fun b_ pre_ => ?_ | refine Nat1.mk fun q_ hq_ => ?_ | refine em_ fun x_ hx_ => ?_ | refine Elem1.mk fun e_ he_ => ?_); refine g0_ ?_))
  (refine Frz.of_eq ?_; (conv => lhs; whnf))
  congr 1
  rw [Bool.eq_iff_iff]
  simp only [checkStyle, Bool.and_eq_true, decide_eq_true_eq]
  split <;> split <;> split <;> omega
end Go.Eng.YtgpkedepboenpaaDoor
end

/- Styles: package style's Apply. -/
section
namespace Go.Eng.YtgpkedepboenpaaDoor
open Go Go.Eng Go.Proofs
variable (W : World)
set_option linter.unusedSimpArgs false
set_option maxRecDepth 100000
set_option linter.unusedVariables false
set_option maxHeartbeats 4000000
theorem apply_ok (s : Style) (l : List Int) (hl : l.length ≤ 9223372036854775800) : Pure Tryd.prog W 95 [encStyle s, .sl 1 (l.map (PV.int .i64))] (encStyle (applyTo s l)) := by
  refine Pure.of (acalls_of_vc (drawOk W) Tryd.func95 rfl (by decide) (by decide) rfl ?_)
  (refine g0_ ?_; repeat ((first | refine n1_ fun b_ => ?_ | refine n2_ fun b_ => ?_ | refine n3_ fun b_ pre_ => ?_ | refine Nat1.mk fun q_ hq_ => ?_ | refine em_ fun x_ hx_ => ?_ | refine Elem1.mk fun e_ he_ => ?_); refine g0_ ?_))
  refine brec ?_; intro c_ h0; (try rw [h0]); cases c_ <;> replace h0 := nm_ h0
  · simp only [List.length_map] at h0
    (refine g0_ ?_; repeat ((first | refine n1_ fun b_ => ?_ | refine n2_ fun b_ => ?_ | refine n3_ fun b_ pre_ => ?_ | refine Nat1.mk fun q_ hq_ => ?_ | refine em_ fun x_ hx_ => ?_ | refine Elem1.mk fun e_ he_ => ?_); refine g0_ ?_))
    rename_i b1
    refine' loopI (α := Nat × Style) (fun (k, st) => [(5, .int .i64 k)]) [(1, _), (2, _), (4, _)] (fun (k, st) => [⟨b1, .row 3 [encStyle st] 0⟩, ⟨b_, .row 3 [encStyle .none] 0⟩]) (fun (k, st) => k ≤ l.length ∧ applyL st (l.drop k) = applyL s l) (fun (k, st) => l.length - k) (0, s) ?_ ?_
    · exact ⟨Nat.zero_le _, by simp⟩
    rintro ⟨k, st⟩ ⟨hk, hw⟩
    (refine g0_ ?_; repeat ((first | refine n1_ fun b_ => ?_ | refine n2_ fun b_ => ?_ | refine n3_ fun b_ pre_ => ?_ | refine Nat1.mk fun q_ hq_ => ?_ | refine em_ fun x_ hx_ => ?_ | refine Elem1.mk fun e_ he_ => ?_); refine g0_ ?_))
    refine brec ?_; intro c_ hc; (try rw [hc]); cases c_ <;> replace hc := nm_ hc
    · simp only [List.length_map] at hc
      rw [List.drop_of_length_le (by omega), applyL] at hw
      (refine g0_ ?_; repeat ((first | refine n1_ fun b_ => ?_ | refine n2_ fun b_ => ?_ | refine n3_ fun b_ pre_ => ?_ | refine Nat1.mk fun q_ hq_ => ?_ | refine em_ fun x_ hx_ => ?_ | refine Elem1.mk fun e_ he_ => ?_); refine g0_ ?_))
      rw [show applyTo s l = st by rw [applyTo, if_neg (by intro h; simp [h] at h0), hw]]
      exact .refl _
    · simp only [List.length_map] at hc
      obtain ⟨n, hn⟩ : ∃ n, l[k]? = some n := ⟨l[k], List.getElem?_eq_getElem _⟩
      have hlen : (l.drop (k + 1)).length = l.length - (k + 1) := List.length_drop ..
      rw [drop_cons_of hn] at hw
      (refine g0_ ?_; repeat ((first | refine n1_ fun b_ => ?_ | refine n2_ fun b_ => ?_ | refine n3_ fun b_ pre_ => ?_ | refine Nat1.mk fun q_ hq_ => ?_ | refine em_ fun x_ hx_ => ?_ | refine Elem1.mk fun e_ he_ => ?_); refine g0_ ?_))
      refine (bits_ok W _).use ?_; (refine g0_ ?_; repeat ((first | refine n1_ fun b_ => ?_ | refine n2_ fun b_ => ?_ | refine n3_ fun b_ pre_ => ?_ | refine Nat1.mk fun q_ hq_ => ?_ | refine em_ fun x_ hx_ => ?_ | refine Elem1.mk fun e_ he_ => ?_); refine g0_ ?_))
      refine brec ?_; intro c_ h1; (try rw [h1]); cases c_ <;> replace h1 := nm_ h1
      · (refine g0_ ?_; repeat ((first | refine n1_ fun b_ => ?_ | refine n2_ fun b_ => ?_ | refine n3_ fun b_ pre_ => ?_ | refine Nat1.mk fun q_ hq_ => ?_ | refine em_ fun x_ hx_ => ?_ | refine Elem1.mk fun e_ he_ => ?_); refine g0_ ?_))
        refine brec ?_; intro c_ h2; (try rw [h2]); cases c_ <;> replace h2 := nm_ h2
        · (refine g0_ ?_; repeat ((first | refine n1_ fun b_ => ?_ | refine n2_ fun b_ => ?_ | refine n3_ fun b_ pre_ => ?_ | refine Nat1.mk fun q_ hq_ => ?_ | refine em_ fun x_ hx_ => ?_ | refine Elem1.mk fun e_ he_ => ?_); refine g0_ ?_))
          refine brec ?_; intro c_ h4; (try rw [h4]); cases c_ <;> replace h4 := nm_ h4
          · (refine g0_ ?_; repeat ((first | refine n1_ fun b_ => ?_ | refine n2_ fun b_ => ?_ | refine n3_ fun b_ pre_ => ?_ | refine Nat1.mk fun q_ hq_ => ?_ | refine em_ fun x_ hx_ => ?_ | refine Elem1.mk fun e_ he_ => ?_); refine g0_ ?_))
            refine brec ?_; intro c_ h5; (try rw [h5]); cases c_ <;> replace h5 := nm_ h5
            · (refine g0_ ?_; repeat ((first | refine n1_ fun b_ => ?_ | refine n2_ fun b_ => ?_ | refine n3_ fun b_ pre_ => ?_ | refine Nat1.mk fun q_ hq_ => ?_ | refine em_ fun x_ hx_ => ?_ | refine Elem1.mk fun e_ he_ => ?_); refine g0_ ?_))
              refine brec ?_; intro c_ h7; (try rw [h7]); cases c_ <;> replace h7 := nm_ h7
              · (refine g0_ ?_; repeat ((first | refine n1_ fun b_ => ?_ | refine n2_ fun b_ => ?_ | refine n3_ fun b_ pre_ => ?_ | refine Nat1.mk fun q_ hq_ => ?_ | refine em_ fun x_ hx_ => ?_ | refine Elem1.mk fun e_ he_ => ?_); refine g0_ ?_))
                refine brec ?_; intro c_ h8; (try rw [h8]); cases c_ <;> replace h8 := nm_ h8
                · (refine g0_ ?_; repeat ((first | refine n1_ fun b_ => ?_ | refine n2_ fun b_ => ?_ | refine n3_ fun b_ pre_ => ?_ | refine Nat1.mk fun q_ hq_ => ?_ | refine em_ fun x_ hx_ => ?_ | refine Elem1.mk fun e_ he_ => ?_); refine g0_ ?_))
                  refine brec ?_; intro c_ h10; (try rw [h10]); cases c_ <;> replace h10 := nm_ h10
                  · (refine g0_ ?_; repeat ((first | refine n1_ fun b_ => ?_ | refine n2_ fun b_ => ?_ | refine n3_ fun b_ pre_ => ?_ | refine Nat1.mk fun q_ hq_ => ?_ | refine em_ fun x_ hx_ => ?_ | refine Elem1.mk fun e_ he_ => ?_); refine g0_ ?_))
                    have hnum : (st.mask n).num n = st.mask n := by simp [Style.num, *]
                    refine brec ?_; intro c_ h12; (try rw [h12]); cases c_ <;> replace h12 := nm_ h12
                    · simp only [List.length_map] at h12
                      rw [applyL_cons _ _ _ (by omega), hnum] at hw
                      (refine g0_ ?_; repeat ((first | refine n1_ fun b_ => ?_ | refine n2_ fun b_ => ?_ | refine n3_ fun b_ pre_ => ?_ | refine Nat1.mk fun q_ hq_ => ?_ | refine em_ fun x_ hx_ => ?_ | refine Elem1.mk fun e_ he_ => ?_); refine g0_ ?_))
                      refine nx_ (k + 1, st.mask n) ?_ ?_
                      · exact ⟨by omega, hw⟩
                      · ((try dsimp only); (try simp only [List.length_drop, List.length_take, List.length_append, List.length_cons, List.length_nil, List.length_map] at *); omega)
                    · simp only [List.length_map] at h12
                      have h38 := h12.1
                      have hlt := h12.2
                      obtain ⟨m, hm⟩ : ∃ m, l[k + 1]? = some m := ⟨l[k + 1]'(by omega), List.getElem?_eq_getElem _⟩
                      obtain ⟨c, hc2⟩ : ∃ c, l[k + 2]? = some c := ⟨l[k + 2]'(by omega), List.getElem?_eq_getElem _⟩
                      rw [drop_cons_of hm, drop_cons_of hc2] at hw
                      (refine g0_ ?_; repeat ((first | refine n1_ fun b_ => ?_ | refine n2_ fun b_ => ?_ | refine n3_ fun b_ pre_ => ?_ | refine Nat1.mk fun q_ hq_ => ?_ | refine em_ fun x_ hx_ => ?_ | refine Elem1.mk fun e_ he_ => ?_); refine g0_ ?_))
                      refine brec ?_; intro c_ h13; (try rw [h13]); cases c_ <;> replace h13 := nm_ h13
                      · rw [applyL_cons _ _ _ (by simp [h13]), hnum, ← drop_cons_of hc2, ← drop_cons_of hm] at hw
                        (refine g0_ ?_; repeat ((first | refine n1_ fun b_ => ?_ | refine n2_ fun b_ => ?_ | refine n3_ fun b_ pre_ => ?_ | refine Nat1.mk fun q_ hq_ => ?_ | refine em_ fun x_ hx_ => ?_ | refine Elem1.mk fun e_ he_ => ?_); refine g0_ ?_))
                        refine nx_ (k + 1, st.mask n) ?_ ?_
                        · exact ⟨by omega, hw⟩
                        · ((try dsimp only); (try simp only [List.length_drop, List.length_take, List.length_append, List.length_cons, List.length_nil, List.length_map] at *); omega)
                      · subst h13
                        rw [applyL, if_pos ⟨h38, rfl⟩] at hw
                        (refine g0_ ?_; repeat ((first | refine n1_ fun b_ => ?_ | refine n2_ fun b_ => ?_ | refine n3_ fun b_ pre_ => ?_ | refine Nat1.mk fun q_ hq_ => ?_ | refine em_ fun x_ hx_ => ?_ | refine Elem1.mk fun e_ he_ => ?_); refine g0_ ?_))
                        refine brec ?_; intro c_ h14; (try rw [h14]); cases c_ <;> replace h14 := nm_ h14
                        · rw [Style.colour, if_neg (by omega)] at hw
                          (refine g0_ ?_; repeat ((first | refine n1_ fun b_ => ?_ | refine n2_ fun b_ => ?_ | refine n3_ fun b_ pre_ => ?_ | refine Nat1.mk fun q_ hq_ => ?_ | refine em_ fun x_ hx_ => ?_ | refine Elem1.mk fun e_ he_ => ?_); refine g0_ ?_))
                          refine brec ?_; intro c_ h15; (try rw [h15]); cases c_ <;> replace h15 := nm_ h15
                          · rw [if_neg h15] at hw
                            (refine g0_ ?_; repeat ((first | refine n1_ fun b_ => ?_ | refine n2_ fun b_ => ?_ | refine n3_ fun b_ pre_ => ?_ | refine Nat1.mk fun q_ hq_ => ?_ | refine em_ fun x_ hx_ => ?_ | refine Elem1.mk fun e_ he_ => ?_); refine g0_ ?_))
                            refine nx_ (k + 3, { (st.mask n) with back := c + 1 }) ?_ ?_
                            · exact ⟨by omega, hw⟩
                            · ((try dsimp only); (try simp only [List.length_drop, List.length_take, List.length_append, List.length_cons, List.length_nil, List.length_map] at *); omega)
                          · rw [if_pos h15] at hw
                            (refine g0_ ?_; repeat ((first | refine n1_ fun b_ => ?_ | refine n2_ fun b_ => ?_ | refine n3_ fun b_ pre_ => ?_ | refine Nat1.mk fun q_ hq_ => ?_ | refine em_ fun x_ hx_ => ?_ | refine Elem1.mk fun e_ he_ => ?_); refine g0_ ?_))
                            refine nx_ (k + 3, { (st.mask n) with fore := c + 1 }) ?_ ?_
                            · exact ⟨by omega, hw⟩
                            · ((try dsimp only); (try simp only [List.length_drop, List.length_take, List.length_append, List.length_cons, List.length_nil, List.length_map] at *); omega)
                        · rw [Style.colour, if_pos (by omega)] at hw
                          (refine g0_ ?_; repeat ((first | refine n1_ fun b_ => ?_ | refine n2_ fun b_ => ?_ | refine n3_ fun b_ pre_ => ?_ | refine Nat1.mk fun q_ hq_ => ?_ | refine em_ fun x_ hx_ => ?_ | refine Elem1.mk fun e_ he_ => ?_); refine g0_ ?_))
                          refine nx_ (k + 3, st.mask n) ?_ ?_
                          · exact ⟨by omega, hw⟩
                          · ((try dsimp only); (try simp only [List.length_drop, List.length_take, List.length_append, List.length_cons, List.length_nil, List.length_map] at *); omega)
                  · rw [applyL_cons _ _ _ (by omega)] at hw
                    (refine g0_ ?_; repeat ((first | refine n1_ fun b_ => ?_ | refine n2_ fun b_ => ?_ | refine n3_ fun b_ pre_ => ?_ | refine Nat1.mk fun q_ hq_ => ?_ | refine em_ fun x_ hx_ => ?_ | refine Elem1.mk fun e_ he_ => ?_); refine g0_ ?_))
                    refine nx_ (k + 1, { (st.mask n) with back := n - 91 }) ?_ ?_
                    · exact ⟨by omega, by rw [← hw]; congr 1; simp [Style.num, *]; try omega⟩
                    · ((try dsimp only); (try simp only [List.length_drop, List.length_take, List.length_append, List.length_cons, List.length_nil, List.length_map] at *); omega)
                · rw [applyL_cons _ _ _ (by omega)] at hw
                  (refine g0_ ?_; repeat ((first | refine n1_ fun b_ => ?_ | refine n2_ fun b_ => ?_ | refine n3_ fun b_ pre_ => ?_ | refine Nat1.mk fun q_ hq_ => ?_ | refine em_ fun x_ hx_ => ?_ | refine Elem1.mk fun e_ he_ => ?_); refine g0_ ?_))
                  refine nx_ (k + 1, { (st.mask n) with fore := n - 81 }) ?_ ?_
                  · exact ⟨by omega, by rw [← hw]; congr 1; simp [Style.num, *]; try omega⟩
                  · ((try dsimp only); (try simp only [List.length_drop, List.length_take, List.length_append, List.length_cons, List.length_nil, List.length_map] at *); omega)
              · rw [applyL_cons _ _ _ (by omega)] at hw
                (refine g0_ ?_; repeat ((first | refine n1_ fun b_ => ?_ | refine n2_ fun b_ => ?_ | refine n3_ fun b_ pre_ => ?_ | refine Nat1.mk fun q_ hq_ => ?_ | refine em_ fun x_ hx_ => ?_ | refine Elem1.mk fun e_ he_ => ?_); refine g0_ ?_))
                refine nx_ (k + 1, { (st.mask n) with back := 0 }) ?_ ?_
                · exact ⟨by omega, by rw [← hw]; congr 1; simp [Style.num, *]; try omega⟩
                · ((try dsimp only); (try simp only [List.length_drop, List.length_take, List.length_append, List.length_cons, List.length_nil, List.length_map] at *); omega)
            · rw [applyL_cons _ _ _ (by omega)] at hw
              (refine g0_ ?_; repeat ((first | refine n1_ fun b_ => ?_ | refine n2_ fun b_ => ?_ | refine n3_ fun b_ pre_ => ?_ | refine Nat1.mk fun q_ hq_ => ?_ | refine em_ fun x_ hx_ => ?_ | refine Elem1.mk fun e_ he_ => ?_); refine g0_ ?_))
              refine nx_ (k + 1, { (st.mask n) with back := n - 39 }) ?_ ?_
              · exact ⟨by omega, by rw [← hw]; congr 1; simp [Style.num, *]; try omega⟩
              · ((try dsimp only); (try simp only [List.length_drop, List.length_take, List.length_append, List.length_cons, List.length_nil, List.length_map] at *); omega)
          · rw [applyL_cons _ _ _ (by omega)] at hw
            (refine g0_ ?_; repeat ((first | refine n1_ fun b_ => ?_ | refine n2_ fun b_ => ?_ | refine n3_ fun b_ pre_ => ?_ | refine Nat1.mk fun q_ hq_ => ?_ | refine em_ fun x_ hx_ => ?_ | refine Elem1.mk fun e_ he_ => ?_); refine g0_ ?_))
            refine nx_ (k + 1, { (st.mask n) with fore := 0 }) ?_ ?_
            · exact ⟨by omega, by rw [← hw]; congr 1; simp [Style.num, *]; try omega⟩
            · ((try dsimp only); (try simp only [List.length_drop, List.length_take, List.length_append, List.length_cons, List.length_nil, List.length_map] at *); omega)
        · rw [applyL_cons _ _ _ (by omega)] at hw
          (refine g0_ ?_; repeat ((first | refine n1_ fun b_ => ?_ | refine n2_ fun b_ => ?_ | refine n3_ fun b_ pre_ => ?_ | refine Nat1.mk fun q_ hq_ => ?_ | refine em_ fun x_ hx_ => ?_ | refine Elem1.mk fun e_ he_ => ?_); refine g0_ ?_))
          refine nx_ (k + 1, { (st.mask n) with fore := n - 29 }) ?_ ?_
          · exact ⟨by omega, by rw [← hw]; congr 1; simp [Style.num, *]; try omega⟩
          · ((try dsimp only); (try simp only [List.length_drop, List.length_take, List.length_append, List.length_cons, List.length_nil, List.length_map] at *); omega)
      · rw [applyL_cons _ _ _ (by omega)] at hw
        (refine g0_ ?_; repeat ((first | refine n1_ fun b_ => ?_ | refine n2_ fun b_ => ?_ | refine n3_ fun b_ pre_ => ?_ | refine Nat1.mk fun q_ hq_ => ?_ | refine em_ fun x_ hx_ => ?_ | refine Elem1.mk fun e_ he_ => ?_); refine g0_ ?_))
        refine nx_ (k + 1, .none) ?_ ?_
        · exact ⟨by omega, by rw [← hw]; congr 1; simp [Style.num, h1]⟩
        · ((try dsimp only); (try simp only [List.length_drop, List.length_take, List.length_append, List.length_cons, List.length_nil, List.length_map] at *); omega)
  · simp only [List.length_map] at h0
    have : l = [] := List.eq_nil_of_length_eq_zero (by omega)
    subst this
    (refine g0_ ?_; repeat ((first | refine n1_ fun b_ => ?_ | refine n2_ fun b_ => ?_ | refine n3_ fun b_ pre_ => ?_ | refine Nat1.mk fun q_ hq_ => ?_ | refine em_ fun x_ hx_ => ?_ | refine Elem1.mk fun e_ he_ => ?_); refine g0_ ?_))
    exact .refl _
end Go.Eng.YtgpkedepboenpaaDoor
end

/- The document's ApplyTo; StyleApply. -/
section
namespace Go.Eng.YtgpkedepboenpaaDoor
open Go Go.Eng Go.Proofs
variable (W : World)
set_option linter.unusedSimpArgs false
set_option maxRecDepth 100000
set_option linter.unusedVariables false
set_option maxHeartbeats 4000000
theorem wrap_range (n : Int) : i64ok (IntKind.i64.wrap n) := by
  rw [IntKind.wrap_i64]; unfold i64ok; omega
theorem bitop_ok (op : BinOp) (a b : Int) : i64ok (bitop op .i64 a b) := wrap_range _
theorem wrap_toNat {x : Int} (h : i64ok x) : IntKind.i64.wrap ((BitVec.ofInt 64 x).toNat : Int) = x := by
  rw [IntKind.wrap_i64, BitVec.toNat_ofInt]
  unfold i64ok at h
  omega
theorem or_zero {x : Int} (h : i64ok x) : bitop .or .i64 x 0 = x := by
  have e : bitop .or .i64 x 0 = IntKind.i64.wrap ((BitVec.ofInt 64 x ||| BitVec.ofInt 64 0).toNat : Int) := rfl
  rw [e, show BitVec.ofInt 64 0 = 0#64 by rfl, BitVec.or_zero, wrap_toNat h]
theorem andNot_zero {x : Int} (h : i64ok x) : bitop .andNot .i64 x 0 = x := by
  have e : bitop .andNot .i64 x 0 = IntKind.i64.wrap ((BitVec.ofInt 64 x &&& ~~~BitVec.ofInt 64 0).toNat : Int) := rfl
  rw [e, show ~~~BitVec.ofInt 64 0 = BitVec.allOnes 64 by decide, BitVec.and_allOnes, wrap_toNat h]
def setEs : List (PV × PV) := [(1, 1), (2, 2), (3, 4), (4, 8), (5, 16), (7, 32), (9, 64)].map fun p : Int × Int => (PV.int .i64 p.1, PV.int .i64 p.2)
def offEs : List (PV × PV) := [(22, 3), (23, 4), (24, 8), (25, 16), (27, 32), (29, 64)].map fun p : Int × Int => (PV.int .i64 p.1, PV.int .i64 p.2)
theorem get_set (n : Int) : (getI setEs n).getD (.int .i64 0) = .int .i64 (bitsF n).1 := by
  simp only [setEs, List.map_cons, List.map_nil, getI, bitsF]
  rcases Decidable.em (n = 1) with rfl | h1
  · rfl
  rcases Decidable.em (n = 2) with rfl | h2
  · rfl
  rcases Decidable.em (n = 3) with rfl | h3
  · rfl
  rcases Decidable.em (n = 4) with rfl | h4
  · rfl
  rcases Decidable.em (n = 5) with rfl | h5
  · rfl
  rcases Decidable.em (n = 7) with rfl | h7
  · rfl
  rcases Decidable.em (n = 9) with rfl | h9
  · rfl
  rcases Decidable.em (n = 22) with rfl | h22
  · rfl
  rcases Decidable.em (n = 23) with rfl | h23
  · rfl
  rcases Decidable.em (n = 24) with rfl | h24
  · rfl
  rcases Decidable.em (n = 25) with rfl | h25
  · rfl
  rcases Decidable.em (n = 27) with rfl | h27
  · rfl
  rcases Decidable.em (n = 29) with rfl | h29
  · rfl
  simp [h1, h2, h3, h4, h5, h7, h9, h22, h23, h24, h25, h27, h29]
theorem get_off (n : Int) : (getI offEs n).getD (.int .i64 0) = .int .i64 (bitsF n).2 := by
  simp only [offEs, List.map_cons, List.map_nil, getI, bitsF]
  rcases Decidable.em (n = 1) with rfl | h1
  · rfl
  rcases Decidable.em (n = 2) with rfl | h2
  · rfl
  rcases Decidable.em (n = 3) with rfl | h3
  · rfl
  rcases Decidable.em (n = 4) with rfl | h4
  · rfl
  rcases Decidable.em (n = 5) with rfl | h5
  · rfl
  rcases Decidable.em (n = 7) with rfl | h7
  · rfl
  rcases Decidable.em (n = 9) with rfl | h9
  · rfl
  rcases Decidable.em (n = 22) with rfl | h22
  · rfl
  rcases Decidable.em (n = 23) with rfl | h23
  · rfl
  rcases Decidable.em (n = 24) with rfl | h24
  · rfl
  rcases Decidable.em (n = 25) with rfl | h25
  · rfl
  rcases Decidable.em (n = 27) with rfl | h27
  · rfl
  rcases Decidable.em (n = 29) with rfl | h29
  · rfl
  simp [h1, h2, h3, h4, h5, h7, h9, h22, h23, h24, h25, h27, h29]
theorem look_set {b : Nat} {n : Int} {σ r : Mem} (hl : Look σ b (.mpc setEs) r) : LookLaw Tryd.prog 103 (.mp b) (.int .i64 n) false σ (.int .i64 (bitsF n).1) :=
  look_int (kt := 3) (et := 3) (i0 := (Tryd.prog.info? 3).getD default) (z := .int .i64 0) hl (show Tryd.prog.underlying 103 = _ by kernel_rfl) (show Tryd.prog.underlying 3 = _ by kernel_rfl) (by kernel_rfl) (by kernel_rfl) (by decide) (get_set n)
theorem look_off {b : Nat} {n : Int} {σ r : Mem} (hl : Look σ b (.mpc offEs) r) : LookLaw Tryd.prog 103 (.mp b) (.int .i64 n) false σ (.int .i64 (bitsF n).2) :=
  look_int (kt := 3) (et := 3) (i0 := (Tryd.prog.info? 3).getD default) (z := .int .i64 0) hl (show Tryd.prog.underlying 103 = _ by kernel_rfl) (show Tryd.prog.underlying 3 = _ by kernel_rfl) (by kernel_rfl) (by kernel_rfl) (by decide) (get_off n)
theorem bits_cases (n : Int) : 0 ≤ (bitsF n).1 ∧ 0 ≤ (bitsF n).2 ∧ (0 < (bitsF n).1 → (bitsF n).2 = 0 ∧ 1 ≤ n ∧ n ≤ 9) ∧ (0 < (bitsF n).2 → (bitsF n).1 = 0 ∧ 22 ≤ n ∧ n ≤ 29) := by
  rcases Decidable.em (n = 1) with rfl | h1
  · decide
  rcases Decidable.em (n = 2) with rfl | h2
  · decide
  rcases Decidable.em (n = 3) with rfl | h3
  · decide
  rcases Decidable.em (n = 4) with rfl | h4
  · decide
  rcases Decidable.em (n = 5) with rfl | h5
  · decide
  rcases Decidable.em (n = 7) with rfl | h7
  · decide
  rcases Decidable.em (n = 9) with rfl | h9
  · decide
  rcases Decidable.em (n = 22) with rfl | h22
  · decide
  rcases Decidable.em (n = 23) with rfl | h23
  · decide
  rcases Decidable.em (n = 24) with rfl | h24
  · decide
  rcases Decidable.em (n = 25) with rfl | h25
  · decide
  rcases Decidable.em (n = 27) with rfl | h27
  · decide
  rcases Decidable.em (n = 29) with rfl | h29
  · decide
  simp [bitsF, h1, h2, h3, h4, h5, h7, h9, h22, h23, h24, h25, h27, h29]
theorem mask_set {s : Style} (h : s.ok) {n : Int} (hn : 0 < (bitsF n).1) : (s.mask n).num n = { s with bits := bitop .or .i64 s.bits (bitsF n).1 } := by
  obtain ⟨h0, h1, h2, h3⟩ := (bits_cases n).2.2.1 hn |> fun h => (⟨(bits_cases n).1, h⟩ : _ ∧ _)
  rw [Style.mask, h1, andNot_zero h.2.2, Style.num, if_neg (by omega), if_neg (by omega), if_neg (by omega), if_neg (by omega), if_neg (by omega), if_neg (by omega), if_neg (by omega)]
theorem mask_off {s : Style} (h : s.ok) {n : Int} (hn : 0 < (bitsF n).2) : (s.mask n).num n = { s with bits := bitop .andNot .i64 s.bits (bitsF n).2 } := by
  obtain ⟨h0, h1, h2, h3⟩ := (bits_cases n).2.2.2 hn |> fun h => (⟨(bits_cases n).1, h⟩ : _ ∧ _)
  rw [Style.mask, h1, or_zero (bitop_ok _ _ _), Style.num, if_neg (by omega), if_neg (by omega), if_neg (by omega), if_neg (by omega), if_neg (by omega), if_neg (by omega), if_neg (by omega)]
theorem mask_same {s : Style} (h : s.ok) {n : Int} (h1 : ¬ 0 < (bitsF n).1) (h2 : ¬ 0 < (bitsF n).2) : s.mask n = s := by
  have := bits_cases n
  rw [Style.mask, show (bitsF n).1 = 0 by omega, show (bitsF n).2 = 0 by omega, andNot_zero h.2.2, or_zero h.2.2]
theorem bits_3848 {n : Int} (h : n = 38 ∨ n = 48) : ¬ 0 < (bitsF n).1 ∧ ¬ 0 < (bitsF n).2 := by
  rcases h with rfl | rfl <;> decide
theorem ApplyTo_ok (s : Style) (hs : s.ok) (l : List Int) (hi : ∀ n ∈ l, i64ok n) (hl : l.length ≤ 9223372036854775800) : Pure Tryd.prog W 56 [encStyle s, .sl 1 (l.map (PV.int .i64))] (encStyle (applyTo s l)) := by
  refine Pure.of (acalls_of_vc (drawOk W) Tryd.func56 rfl (by decide) (by decide) rfl ?_)
  (refine g0_ ?_; repeat ((first | refine n1_ fun b_ => ?_ | refine n2_ fun b_ => ?_ | refine n3_ fun b_ pre_ => ?_ | refine Nat1.mk fun q_ hq_ => ?_ | refine em_ fun x_ hx_ => ?_ | refine Elem1.mk fun e_ he_ => ?_); refine g0_ ?_))
  refine brec ?_; intro c_ h0; (try rw [h0]); cases c_ <;> replace h0 := nm_ h0
  · simp only [List.length_map] at h0
    (refine g0_ ?_; repeat ((first | refine n1_ fun b_ => ?_ | refine n2_ fun b_ => ?_ | refine n3_ fun b_ pre_ => ?_ | refine Nat1.mk fun q_ hq_ => ?_ | refine em_ fun x_ hx_ => ?_ | refine Elem1.mk fun e_ he_ => ?_); refine g0_ ?_))
    rename_i b1 b2 b3 b4
    refine' loopI (α := (List Int) × Style) (fun (r, st) => [(1, .sl 1 (r.map (PV.int .i64)))]) [(2, _), (4, _), (5, _), (6, _), (7, _)] (fun (r, st) => [⟨b1, .row 3 [encStyle st] 0⟩, ⟨b3, .row 3 [encStyle .none] 0⟩, ⟨b4, .mpc setEs⟩, ⟨b_, .mpc offEs⟩, ⟨b2, .row 3 [encStyle .none] 0⟩]) (fun (r, st) => st.ok ∧ (∀ x ∈ r, i64ok x) ∧ r.length ≤ l.length ∧ applyL st r = applyL s l) (fun (r, st) => r.length) (l, s) ?_ ?_
    · exact ⟨hs, hi, Nat.le_refl _, rfl⟩
    rintro ⟨r, st⟩ ⟨hok, hin, hrl, hw⟩
    rcases r with _ | ⟨n, r⟩
    · rw [applyL] at hw
      (refine g0_ ?_; repeat ((first | refine n1_ fun b_ => ?_ | refine n2_ fun b_ => ?_ | refine n3_ fun b_ pre_ => ?_ | refine Nat1.mk fun q_ hq_ => ?_ | refine em_ fun x_ hx_ => ?_ | refine Elem1.mk fun e_ he_ => ?_); refine g0_ ?_))
      rw [show applyTo s l = st by rw [applyTo, if_neg (by intro h; simp [h] at h0), hw]]
      exact .refl _
    · have hn0 : (n :: r)[0]? = some n := rfl
      obtain ⟨hnl, hnu⟩ := hin n (List.mem_cons_self ..)
      replace hin : ∀ x ∈ r, i64ok x := fun x hx => hin x (List.mem_cons_of_mem _ hx)
      rcases r with _ | ⟨m, _ | ⟨c, r⟩⟩
      · rw [applyL_cons _ _ _ (by simp)] at hw
        (refine g0_ ?_; repeat ((first | refine n1_ fun b_ => ?_ | refine n2_ fun b_ => ?_ | refine n3_ fun b_ pre_ => ?_ | refine Nat1.mk fun q_ hq_ => ?_ | refine em_ fun x_ hx_ => ?_ | refine Elem1.mk fun e_ he_ => ?_); refine g0_ ?_))
        refine brec ?_; intro c_ hx; (try rw [hx]); cases c_ <;> replace hx := nm_ hx
        · (refine g0_ ?_; repeat ((first | refine n1_ fun b_ => ?_ | refine n2_ fun b_ => ?_ | refine n3_ fun b_ pre_ => ?_ | refine Nat1.mk fun q_ hq_ => ?_ | refine em_ fun x_ hx_ => ?_ | refine Elem1.mk fun e_ he_ => ?_); refine g0_ ?_))
          refine brec ?_; intro c_ hq0; (try rw [hq0]); cases c_ <;> replace hq0 := nm_ hq0
          · (refine g0_ ?_; repeat ((first | refine n1_ fun b_ => ?_ | refine n2_ fun b_ => ?_ | refine n3_ fun b_ pre_ => ?_ | refine Nat1.mk fun q_ hq_ => ?_ | refine em_ fun x_ hx_ => ?_ | refine Elem1.mk fun e_ he_ => ?_); refine g0_ ?_))
            refine ⟨_, look_set (by repeat (first | exact .here _ _ _ | apply Look.there)), ?_⟩
            (refine g0_ ?_; repeat ((first | refine n1_ fun b_ => ?_ | refine n2_ fun b_ => ?_ | refine n3_ fun b_ pre_ => ?_ | refine Nat1.mk fun q_ hq_ => ?_ | refine em_ fun x_ hx_ => ?_ | refine Elem1.mk fun e_ he_ => ?_); refine g0_ ?_))
            refine brec ?_; intro c_ hb1; (try rw [hb1]); cases c_ <;> replace hb1 := nm_ hb1
            · (refine g0_ ?_; repeat ((first | refine n1_ fun b_ => ?_ | refine n2_ fun b_ => ?_ | refine n3_ fun b_ pre_ => ?_ | refine Nat1.mk fun q_ hq_ => ?_ | refine em_ fun x_ hx_ => ?_ | refine Elem1.mk fun e_ he_ => ?_); refine g0_ ?_))
              refine ⟨_, look_off (by repeat (first | exact .here _ _ _ | apply Look.there)), ?_⟩
              (refine g0_ ?_; repeat ((first | refine n1_ fun b_ => ?_ | refine n2_ fun b_ => ?_ | refine n3_ fun b_ pre_ => ?_ | refine Nat1.mk fun q_ hq_ => ?_ | refine em_ fun x_ hx_ => ?_ | refine Elem1.mk fun e_ he_ => ?_); refine g0_ ?_))
              refine brec ?_; intro c_ hb2; (try rw [hb2]); cases c_ <;> replace hb2 := nm_ hb2
              · rw [mask_same hok hb1 hb2] at hw
                have hq : n.tdiv 10 = n / 10 := Int.tdiv_eq_ediv_of_nonneg (by omega)
                have hr : n.tmod 10 = n % 10 := Int.tmod_eq_emod_of_nonneg (by omega)
                (refine g0_ ?_; repeat ((first | refine n1_ fun b_ => ?_ | refine n2_ fun b_ => ?_ | refine n3_ fun b_ pre_ => ?_ | refine Nat1.mk fun q_ hq_ => ?_ | refine em_ fun x_ hx_ => ?_ | refine Elem1.mk fun e_ he_ => ?_); refine g0_ ?_))
                refine brec ?_; intro c_ hc1; (try rw [hc1]); cases c_ <;> replace hc1 := nm_ hc1
                · (refine g0_ ?_; repeat ((first | refine n1_ fun b_ => ?_ | refine n2_ fun b_ => ?_ | refine n3_ fun b_ pre_ => ?_ | refine Nat1.mk fun q_ hq_ => ?_ | refine em_ fun x_ hx_ => ?_ | refine Elem1.mk fun e_ he_ => ?_); refine g0_ ?_))
                  refine brec ?_; intro c_ hc2; (try rw [hc2]); cases c_ <;> replace hc2 := nm_ hc2
                  · (refine g0_ ?_; repeat ((first | refine n1_ fun b_ => ?_ | refine n2_ fun b_ => ?_ | refine n3_ fun b_ pre_ => ?_ | refine Nat1.mk fun q_ hq_ => ?_ | refine em_ fun x_ hx_ => ?_ | refine Elem1.mk fun e_ he_ => ?_); refine g0_ ?_))
                    refine brec ?_; intro c_ hc3; (try rw [hc3]); cases c_ <;> replace hc3 := nm_ hc3
                    · (refine g0_ ?_; repeat ((first | refine n1_ fun b_ => ?_ | refine n2_ fun b_ => ?_ | refine n3_ fun b_ pre_ => ?_ | refine Nat1.mk fun q_ hq_ => ?_ | refine em_ fun x_ hx_ => ?_ | refine Elem1.mk fun e_ he_ => ?_); refine g0_ ?_))
                      refine brec ?_; intro c_ hc4; (try rw [hc4]); cases c_ <;> replace hc4 := nm_ hc4
                      · (refine g0_ ?_; repeat ((first | refine n1_ fun b_ => ?_ | refine n2_ fun b_ => ?_ | refine n3_ fun b_ pre_ => ?_ | refine Nat1.mk fun q_ hq_ => ?_ | refine em_ fun x_ hx_ => ?_ | refine Elem1.mk fun e_ he_ => ?_); refine g0_ ?_))
                        refine brec ?_; intro c_ hc5; (try rw [hc5]); cases c_ <;> replace hc5 := nm_ hc5
                        · (refine g0_ ?_; repeat ((first | refine n1_ fun b_ => ?_ | refine n2_ fun b_ => ?_ | refine n3_ fun b_ pre_ => ?_ | refine Nat1.mk fun q_ hq_ => ?_ | refine em_ fun x_ hx_ => ?_ | refine Elem1.mk fun e_ he_ => ?_); refine g0_ ?_))
                          refine brec ?_; intro c_ hc6; (try rw [hc6]); cases c_ <;> replace hc6 := nm_ hc6
                          · (refine g0_ ?_; repeat ((first | refine n1_ fun b_ => ?_ | refine n2_ fun b_ => ?_ | refine n3_ fun b_ pre_ => ?_ | refine Nat1.mk fun q_ hq_ => ?_ | refine em_ fun x_ hx_ => ?_ | refine Elem1.mk fun e_ he_ => ?_); refine g0_ ?_))
                            refine nx_ ([], st) ?_ ?_
                            · exact ⟨by unfold Style.ok i64ok at *; (try dsimp only); omega, hin, by simp at hrl ⊢; try omega, by
                                rw [← hw]; congr 1; unfold Style.num
                                (repeat' split) <;> first | rfl | (exfalso; omega) | (congr 1; omega)⟩
                            · simp; try omega
                          · (refine g0_ ?_; repeat ((first | refine n1_ fun b_ => ?_ | refine n2_ fun b_ => ?_ | refine n3_ fun b_ pre_ => ?_ | refine Nat1.mk fun q_ hq_ => ?_ | refine em_ fun x_ hx_ => ?_ | refine Elem1.mk fun e_ he_ => ?_); refine g0_ ?_))
                            refine nx_ ([], { st with back := 0 }) ?_ ?_
                            · exact ⟨by unfold Style.ok i64ok at *; (try dsimp only); omega, hin, by simp at hrl ⊢; try omega, by
                                rw [← hw]; congr 1; unfold Style.num
                                (repeat' split) <;> first | rfl | (exfalso; omega) | (congr 1; omega)⟩
                            · simp; try omega
                        · (refine g0_ ?_; repeat ((first | refine n1_ fun b_ => ?_ | refine n2_ fun b_ => ?_ | refine n3_ fun b_ pre_ => ?_ | refine Nat1.mk fun q_ hq_ => ?_ | refine em_ fun x_ hx_ => ?_ | refine Elem1.mk fun e_ he_ => ?_); refine g0_ ?_))
                          refine nx_ ([], { st with fore := 0 }) ?_ ?_
                          · exact ⟨by unfold Style.ok i64ok at *; (try dsimp only); omega, hin, by simp at hrl ⊢; try omega, by
                              rw [← hw]; congr 1; unfold Style.num
                              (repeat' split) <;> first | rfl | (exfalso; omega) | (congr 1; omega)⟩
                          · simp; try omega
                      · (refine g0_ ?_; repeat ((first | refine n1_ fun b_ => ?_ | refine n2_ fun b_ => ?_ | refine n3_ fun b_ pre_ => ?_ | refine Nat1.mk fun q_ hq_ => ?_ | refine em_ fun x_ hx_ => ?_ | refine Elem1.mk fun e_ he_ => ?_); refine g0_ ?_))
                        (refine g0_ ?_; repeat ((first | refine n1_ fun b_ => ?_ | refine n2_ fun b_ => ?_ | refine n3_ fun b_ pre_ => ?_ | refine Nat1.mk fun q_ hq_ => ?_ | refine em_ fun x_ hx_ => ?_ | refine Elem1.mk fun e_ he_ => ?_); refine g0_ ?_))
                        refine nx_ ([], { st with back := n.tmod 10 + 9 }) ?_ ?_
                        · exact ⟨by unfold Style.ok i64ok at *; (try dsimp only); omega, hin, by simp at hrl ⊢; try omega, by
                            rw [← hw]; congr 1; unfold Style.num
                            (repeat' split) <;> first | rfl | (exfalso; omega) | (congr 1; omega)⟩
                        · simp; try omega
                    · (refine g0_ ?_; repeat ((first | refine n1_ fun b_ => ?_ | refine n2_ fun b_ => ?_ | refine n3_ fun b_ pre_ => ?_ | refine Nat1.mk fun q_ hq_ => ?_ | refine em_ fun x_ hx_ => ?_ | refine Elem1.mk fun e_ he_ => ?_); refine g0_ ?_))
                      (refine g0_ ?_; repeat ((first | refine n1_ fun b_ => ?_ | refine n2_ fun b_ => ?_ | refine n3_ fun b_ pre_ => ?_ | refine Nat1.mk fun q_ hq_ => ?_ | refine em_ fun x_ hx_ => ?_ | refine Elem1.mk fun e_ he_ => ?_); refine g0_ ?_))
                      refine nx_ ([], { st with fore := n.tmod 10 + 9 }) ?_ ?_
                      · exact ⟨by unfold Style.ok i64ok at *; (try dsimp only); omega, hin, by simp at hrl ⊢; try omega, by
                          rw [← hw]; congr 1; unfold Style.num
                          (repeat' split) <;> first | rfl | (exfalso; omega) | (congr 1; omega)⟩
                      · simp; try omega
                  · (refine g0_ ?_; repeat ((first | refine n1_ fun b_ => ?_ | refine n2_ fun b_ => ?_ | refine n3_ fun b_ pre_ => ?_ | refine Nat1.mk fun q_ hq_ => ?_ | refine em_ fun x_ hx_ => ?_ | refine Elem1.mk fun e_ he_ => ?_); refine g0_ ?_))
                    (refine g0_ ?_; repeat ((first | refine n1_ fun b_ => ?_ | refine n2_ fun b_ => ?_ | refine n3_ fun b_ pre_ => ?_ | refine Nat1.mk fun q_ hq_ => ?_ | refine em_ fun x_ hx_ => ?_ | refine Elem1.mk fun e_ he_ => ?_); refine g0_ ?_))
                    refine nx_ ([], { st with back := n.tmod 10 + 1 }) ?_ ?_
                    · exact ⟨by unfold Style.ok i64ok at *; (try dsimp only); omega, hin, by simp at hrl ⊢; try omega, by
                        rw [← hw]; congr 1; unfold Style.num
                        (repeat' split) <;> first | rfl | (exfalso; omega) | (congr 1; omega)⟩
                    · simp; try omega
                · (refine g0_ ?_; repeat ((first | refine n1_ fun b_ => ?_ | refine n2_ fun b_ => ?_ | refine n3_ fun b_ pre_ => ?_ | refine Nat1.mk fun q_ hq_ => ?_ | refine em_ fun x_ hx_ => ?_ | refine Elem1.mk fun e_ he_ => ?_); refine g0_ ?_))
                  (refine g0_ ?_; repeat ((first | refine n1_ fun b_ => ?_ | refine n2_ fun b_ => ?_ | refine n3_ fun b_ pre_ => ?_ | refine Nat1.mk fun q_ hq_ => ?_ | refine em_ fun x_ hx_ => ?_ | refine Elem1.mk fun e_ he_ => ?_); refine g0_ ?_))
                  refine nx_ ([], { st with fore := n.tmod 10 + 1 }) ?_ ?_
                  · exact ⟨by unfold Style.ok i64ok at *; (try dsimp only); omega, hin, by simp at hrl ⊢; try omega, by
                      rw [← hw]; congr 1; unfold Style.num
                      (repeat' split) <;> first | rfl | (exfalso; omega) | (congr 1; omega)⟩
                  · simp; try omega
              · rw [mask_off hok hb2] at hw
                (refine g0_ ?_; repeat ((first | refine n1_ fun b_ => ?_ | refine n2_ fun b_ => ?_ | refine n3_ fun b_ pre_ => ?_ | refine Nat1.mk fun q_ hq_ => ?_ | refine em_ fun x_ hx_ => ?_ | refine Elem1.mk fun e_ he_ => ?_); refine g0_ ?_))
                refine ⟨_, look_off (by repeat (first | exact .here _ _ _ | apply Look.there)), ?_⟩
                (refine g0_ ?_; repeat ((first | refine n1_ fun b_ => ?_ | refine n2_ fun b_ => ?_ | refine n3_ fun b_ pre_ => ?_ | refine Nat1.mk fun q_ hq_ => ?_ | refine em_ fun x_ hx_ => ?_ | refine Elem1.mk fun e_ he_ => ?_); refine g0_ ?_))
                refine nx_ ([], { st with bits := bitop .andNot .i64 st.bits (bitsF n).2 }) ?_ ?_
                · exact ⟨⟨hok.1, hok.2.1, bitop_ok .andNot st.bits (bitsF n).2⟩, hin, by simp at hrl ⊢; try omega, hw⟩
                · simp; try omega
            · rw [mask_set hok hb1] at hw
              (refine g0_ ?_; repeat ((first | refine n1_ fun b_ => ?_ | refine n2_ fun b_ => ?_ | refine n3_ fun b_ pre_ => ?_ | refine Nat1.mk fun q_ hq_ => ?_ | refine em_ fun x_ hx_ => ?_ | refine Elem1.mk fun e_ he_ => ?_); refine g0_ ?_))
              refine ⟨_, look_set (by repeat (first | exact .here _ _ _ | apply Look.there)), ?_⟩
              (refine g0_ ?_; repeat ((first | refine n1_ fun b_ => ?_ | refine n2_ fun b_ => ?_ | refine n3_ fun b_ pre_ => ?_ | refine Nat1.mk fun q_ hq_ => ?_ | refine em_ fun x_ hx_ => ?_ | refine Elem1.mk fun e_ he_ => ?_); refine g0_ ?_))
              refine nx_ ([], { st with bits := bitop .or .i64 st.bits (bitsF n).1 }) ?_ ?_
              · exact ⟨⟨hok.1, hok.2.1, bitop_ok .or st.bits (bitsF n).1⟩, hin, by simp at hrl ⊢; try omega, hw⟩
              · simp; try omega
          · (refine g0_ ?_; repeat ((first | refine n1_ fun b_ => ?_ | refine n2_ fun b_ => ?_ | refine n3_ fun b_ pre_ => ?_ | refine Nat1.mk fun q_ hq_ => ?_ | refine em_ fun x_ hx_ => ?_ | refine Elem1.mk fun e_ he_ => ?_); refine g0_ ?_))
            refine nx_ ([], .none) ?_ ?_
            · exact ⟨by decide, hin, by simp at hrl ⊢; try omega, by rw [← hw]; congr 1; simp [Style.num, hq0]⟩
            · simp; try omega
        · simp at hx
      · rw [applyL_cons _ _ _ (by simp)] at hw
        (refine g0_ ?_; repeat ((first | refine n1_ fun b_ => ?_ | refine n2_ fun b_ => ?_ | refine n3_ fun b_ pre_ => ?_ | refine Nat1.mk fun q_ hq_ => ?_ | refine em_ fun x_ hx_ => ?_ | refine Elem1.mk fun e_ he_ => ?_); refine g0_ ?_))
        refine brec ?_; intro c_ hx; (try rw [hx]); cases c_ <;> replace hx := nm_ hx
        · (refine g0_ ?_; repeat ((first | refine n1_ fun b_ => ?_ | refine n2_ fun b_ => ?_ | refine n3_ fun b_ pre_ => ?_ | refine Nat1.mk fun q_ hq_ => ?_ | refine em_ fun x_ hx_ => ?_ | refine Elem1.mk fun e_ he_ => ?_); refine g0_ ?_))
          refine brec ?_; intro c_ hq0; (try rw [hq0]); cases c_ <;> replace hq0 := nm_ hq0
          · (refine g0_ ?_; repeat ((first | refine n1_ fun b_ => ?_ | refine n2_ fun b_ => ?_ | refine n3_ fun b_ pre_ => ?_ | refine Nat1.mk fun q_ hq_ => ?_ | refine em_ fun x_ hx_ => ?_ | refine Elem1.mk fun e_ he_ => ?_); refine g0_ ?_))
            refine ⟨_, look_set (by repeat (first | exact .here _ _ _ | apply Look.there)), ?_⟩
            (refine g0_ ?_; repeat ((first | refine n1_ fun b_ => ?_ | refine n2_ fun b_ => ?_ | refine n3_ fun b_ pre_ => ?_ | refine Nat1.mk fun q_ hq_ => ?_ | refine em_ fun x_ hx_ => ?_ | refine Elem1.mk fun e_ he_ => ?_); refine g0_ ?_))
            refine brec ?_; intro c_ hb1; (try rw [hb1]); cases c_ <;> replace hb1 := nm_ hb1
            · (refine g0_ ?_; repeat ((first | refine n1_ fun b_ => ?_ | refine n2_ fun b_ => ?_ | refine n3_ fun b_ pre_ => ?_ | refine Nat1.mk fun q_ hq_ => ?_ | refine em_ fun x_ hx_ => ?_ | refine Elem1.mk fun e_ he_ => ?_); refine g0_ ?_))
              refine ⟨_, look_off (by repeat (first | exact .here _ _ _ | apply Look.there)), ?_⟩
              (refine g0_ ?_; repeat ((first | refine n1_ fun b_ => ?_ | refine n2_ fun b_ => ?_ | refine n3_ fun b_ pre_ => ?_ | refine Nat1.mk fun q_ hq_ => ?_ | refine em_ fun x_ hx_ => ?_ | refine Elem1.mk fun e_ he_ => ?_); refine g0_ ?_))
              refine brec ?_; intro c_ hb2; (try rw [hb2]); cases c_ <;> replace hb2 := nm_ hb2
              · rw [mask_same hok hb1 hb2] at hw
                have hq : n.tdiv 10 = n / 10 := Int.tdiv_eq_ediv_of_nonneg (by omega)
                have hr : n.tmod 10 = n % 10 := Int.tmod_eq_emod_of_nonneg (by omega)
                (refine g0_ ?_; repeat ((first | refine n1_ fun b_ => ?_ | refine n2_ fun b_ => ?_ | refine n3_ fun b_ pre_ => ?_ | refine Nat1.mk fun q_ hq_ => ?_ | refine em_ fun x_ hx_ => ?_ | refine Elem1.mk fun e_ he_ => ?_); refine g0_ ?_))
                refine brec ?_; intro c_ hc1; (try rw [hc1]); cases c_ <;> replace hc1 := nm_ hc1
                · (refine g0_ ?_; repeat ((first | refine n1_ fun b_ => ?_ | refine n2_ fun b_ => ?_ | refine n3_ fun b_ pre_ => ?_ | refine Nat1.mk fun q_ hq_ => ?_ | refine em_ fun x_ hx_ => ?_ | refine Elem1.mk fun e_ he_ => ?_); refine g0_ ?_))
                  refine brec ?_; intro c_ hc2; (try rw [hc2]); cases c_ <;> replace hc2 := nm_ hc2
                  · (refine g0_ ?_; repeat ((first | refine n1_ fun b_ => ?_ | refine n2_ fun b_ => ?_ | refine n3_ fun b_ pre_ => ?_ | refine Nat1.mk fun q_ hq_ => ?_ | refine em_ fun x_ hx_ => ?_ | refine Elem1.mk fun e_ he_ => ?_); refine g0_ ?_))
                    refine brec ?_; intro c_ hc3; (try rw [hc3]); cases c_ <;> replace hc3 := nm_ hc3
                    · (refine g0_ ?_; repeat ((first | refine n1_ fun b_ => ?_ | refine n2_ fun b_ => ?_ | refine n3_ fun b_ pre_ => ?_ | refine Nat1.mk fun q_ hq_ => ?_ | refine em_ fun x_ hx_ => ?_ | refine Elem1.mk fun e_ he_ => ?_); refine g0_ ?_))
                      refine brec ?_; intro c_ hc4; (try rw [hc4]); cases c_ <;> replace hc4 := nm_ hc4
                      · (refine g0_ ?_; repeat ((first | refine n1_ fun b_ => ?_ | refine n2_ fun b_ => ?_ | refine n3_ fun b_ pre_ => ?_ | refine Nat1.mk fun q_ hq_ => ?_ | refine em_ fun x_ hx_ => ?_ | refine Elem1.mk fun e_ he_ => ?_); refine g0_ ?_))
                        refine brec ?_; intro c_ hc5; (try rw [hc5]); cases c_ <;> replace hc5 := nm_ hc5
                        · (refine g0_ ?_; repeat ((first | refine n1_ fun b_ => ?_ | refine n2_ fun b_ => ?_ | refine n3_ fun b_ pre_ => ?_ | refine Nat1.mk fun q_ hq_ => ?_ | refine em_ fun x_ hx_ => ?_ | refine Elem1.mk fun e_ he_ => ?_); refine g0_ ?_))
                          refine brec ?_; intro c_ hc6; (try rw [hc6]); cases c_ <;> replace hc6 := nm_ hc6
                          · (refine g0_ ?_; repeat ((first | refine n1_ fun b_ => ?_ | refine n2_ fun b_ => ?_ | refine n3_ fun b_ pre_ => ?_ | refine Nat1.mk fun q_ hq_ => ?_ | refine em_ fun x_ hx_ => ?_ | refine Elem1.mk fun e_ he_ => ?_); refine g0_ ?_))
                            refine nx_ ([m], st) ?_ ?_
                            · exact ⟨by unfold Style.ok i64ok at *; (try dsimp only); omega, hin, by simp at hrl ⊢; try omega, by
                                rw [← hw]; congr 1; unfold Style.num
                                (repeat' split) <;> first | rfl | (exfalso; omega) | (congr 1; omega)⟩
                            · simp; try omega
                          · (refine g0_ ?_; repeat ((first | refine n1_ fun b_ => ?_ | refine n2_ fun b_ => ?_ | refine n3_ fun b_ pre_ => ?_ | refine Nat1.mk fun q_ hq_ => ?_ | refine em_ fun x_ hx_ => ?_ | refine Elem1.mk fun e_ he_ => ?_); refine g0_ ?_))
                            refine nx_ ([m], { st with back := 0 }) ?_ ?_
                            · exact ⟨by unfold Style.ok i64ok at *; (try dsimp only); omega, hin, by simp at hrl ⊢; try omega, by
                                rw [← hw]; congr 1; unfold Style.num
                                (repeat' split) <;> first | rfl | (exfalso; omega) | (congr 1; omega)⟩
                            · simp; try omega
                        · (refine g0_ ?_; repeat ((first | refine n1_ fun b_ => ?_ | refine n2_ fun b_ => ?_ | refine n3_ fun b_ pre_ => ?_ | refine Nat1.mk fun q_ hq_ => ?_ | refine em_ fun x_ hx_ => ?_ | refine Elem1.mk fun e_ he_ => ?_); refine g0_ ?_))
                          refine nx_ ([m], { st with fore := 0 }) ?_ ?_
                          · exact ⟨by unfold Style.ok i64ok at *; (try dsimp only); omega, hin, by simp at hrl ⊢; try omega, by
                              rw [← hw]; congr 1; unfold Style.num
                              (repeat' split) <;> first | rfl | (exfalso; omega) | (congr 1; omega)⟩
                          · simp; try omega
                      · (refine g0_ ?_; repeat ((first | refine n1_ fun b_ => ?_ | refine n2_ fun b_ => ?_ | refine n3_ fun b_ pre_ => ?_ | refine Nat1.mk fun q_ hq_ => ?_ | refine em_ fun x_ hx_ => ?_ | refine Elem1.mk fun e_ he_ => ?_); refine g0_ ?_))
                        (refine g0_ ?_; repeat ((first | refine n1_ fun b_ => ?_ | refine n2_ fun b_ => ?_ | refine n3_ fun b_ pre_ => ?_ | refine Nat1.mk fun q_ hq_ => ?_ | refine em_ fun x_ hx_ => ?_ | refine Elem1.mk fun e_ he_ => ?_); refine g0_ ?_))
                        refine nx_ ([m], { st with back := n.tmod 10 + 9 }) ?_ ?_
                        · exact ⟨by unfold Style.ok i64ok at *; (try dsimp only); omega, hin, by simp at hrl ⊢; try omega, by
                            rw [← hw]; congr 1; unfold Style.num
                            (repeat' split) <;> first | rfl | (exfalso; omega) | (congr 1; omega)⟩
                        · simp; try omega
                    · (refine g0_ ?_; repeat ((first | refine n1_ fun b_ => ?_ | refine n2_ fun b_ => ?_ | refine n3_ fun b_ pre_ => ?_ | refine Nat1.mk fun q_ hq_ => ?_ | refine em_ fun x_ hx_ => ?_ | refine Elem1.mk fun e_ he_ => ?_); refine g0_ ?_))
                      (refine g0_ ?_; repeat ((first | refine n1_ fun b_ => ?_ | refine n2_ fun b_ => ?_ | refine n3_ fun b_ pre_ => ?_ | refine Nat1.mk fun q_ hq_ => ?_ | refine em_ fun x_ hx_ => ?_ | refine Elem1.mk fun e_ he_ => ?_); refine g0_ ?_))
                      refine nx_ ([m], { st with fore := n.tmod 10 + 9 }) ?_ ?_
                      · exact ⟨by unfold Style.ok i64ok at *; (try dsimp only); omega, hin, by simp at hrl ⊢; try omega, by
                          rw [← hw]; congr 1; unfold Style.num
                          (repeat' split) <;> first | rfl | (exfalso; omega) | (congr 1; omega)⟩
                      · simp; try omega
                  · (refine g0_ ?_; repeat ((first | refine n1_ fun b_ => ?_ | refine n2_ fun b_ => ?_ | refine n3_ fun b_ pre_ => ?_ | refine Nat1.mk fun q_ hq_ => ?_ | refine em_ fun x_ hx_ => ?_ | refine Elem1.mk fun e_ he_ => ?_); refine g0_ ?_))
                    (refine g0_ ?_; repeat ((first | refine n1_ fun b_ => ?_ | refine n2_ fun b_ => ?_ | refine n3_ fun b_ pre_ => ?_ | refine Nat1.mk fun q_ hq_ => ?_ | refine em_ fun x_ hx_ => ?_ | refine Elem1.mk fun e_ he_ => ?_); refine g0_ ?_))
                    refine nx_ ([m], { st with back := n.tmod 10 + 1 }) ?_ ?_
                    · exact ⟨by unfold Style.ok i64ok at *; (try dsimp only); omega, hin, by simp at hrl ⊢; try omega, by
                        rw [← hw]; congr 1; unfold Style.num
                        (repeat' split) <;> first | rfl | (exfalso; omega) | (congr 1; omega)⟩
                    · simp; try omega
                · (refine g0_ ?_; repeat ((first | refine n1_ fun b_ => ?_ | refine n2_ fun b_ => ?_ | refine n3_ fun b_ pre_ => ?_ | refine Nat1.mk fun q_ hq_ => ?_ | refine em_ fun x_ hx_ => ?_ | refine Elem1.mk fun e_ he_ => ?_); refine g0_ ?_))
                  (refine g0_ ?_; repeat ((first | refine n1_ fun b_ => ?_ | refine n2_ fun b_ => ?_ | refine n3_ fun b_ pre_ => ?_ | refine Nat1.mk fun q_ hq_ => ?_ | refine em_ fun x_ hx_ => ?_ | refine Elem1.mk fun e_ he_ => ?_); refine g0_ ?_))
                  refine nx_ ([m], { st with fore := n.tmod 10 + 1 }) ?_ ?_
                  · exact ⟨by unfold Style.ok i64ok at *; (try dsimp only); omega, hin, by simp at hrl ⊢; try omega, by
                      rw [← hw]; congr 1; unfold Style.num
                      (repeat' split) <;> first | rfl | (exfalso; omega) | (congr 1; omega)⟩
                  · simp; try omega
              · rw [mask_off hok hb2] at hw
                (refine g0_ ?_; repeat ((first | refine n1_ fun b_ => ?_ | refine n2_ fun b_ => ?_ | refine n3_ fun b_ pre_ => ?_ | refine Nat1.mk fun q_ hq_ => ?_ | refine em_ fun x_ hx_ => ?_ | refine Elem1.mk fun e_ he_ => ?_); refine g0_ ?_))
                refine ⟨_, look_off (by repeat (first | exact .here _ _ _ | apply Look.there)), ?_⟩
                (refine g0_ ?_; repeat ((first | refine n1_ fun b_ => ?_ | refine n2_ fun b_ => ?_ | refine n3_ fun b_ pre_ => ?_ | refine Nat1.mk fun q_ hq_ => ?_ | refine em_ fun x_ hx_ => ?_ | refine Elem1.mk fun e_ he_ => ?_); refine g0_ ?_))
                refine nx_ ([m], { st with bits := bitop .andNot .i64 st.bits (bitsF n).2 }) ?_ ?_
                · exact ⟨⟨hok.1, hok.2.1, bitop_ok .andNot st.bits (bitsF n).2⟩, hin, by simp at hrl ⊢; try omega, hw⟩
                · simp; try omega
            · rw [mask_set hok hb1] at hw
              (refine g0_ ?_; repeat ((first | refine n1_ fun b_ => ?_ | refine n2_ fun b_ => ?_ | refine n3_ fun b_ pre_ => ?_ | refine Nat1.mk fun q_ hq_ => ?_ | refine em_ fun x_ hx_ => ?_ | refine Elem1.mk fun e_ he_ => ?_); refine g0_ ?_))
              refine ⟨_, look_set (by repeat (first | exact .here _ _ _ | apply Look.there)), ?_⟩
              (refine g0_ ?_; repeat ((first | refine n1_ fun b_ => ?_ | refine n2_ fun b_ => ?_ | refine n3_ fun b_ pre_ => ?_ | refine Nat1.mk fun q_ hq_ => ?_ | refine em_ fun x_ hx_ => ?_ | refine Elem1.mk fun e_ he_ => ?_); refine g0_ ?_))
              refine nx_ ([m], { st with bits := bitop .or .i64 st.bits (bitsF n).1 }) ?_ ?_
              · exact ⟨⟨hok.1, hok.2.1, bitop_ok .or st.bits (bitsF n).1⟩, hin, by simp at hrl ⊢; try omega, hw⟩
              · simp; try omega
          · (refine g0_ ?_; repeat ((first | refine n1_ fun b_ => ?_ | refine n2_ fun b_ => ?_ | refine n3_ fun b_ pre_ => ?_ | refine Nat1.mk fun q_ hq_ => ?_ | refine em_ fun x_ hx_ => ?_ | refine Elem1.mk fun e_ he_ => ?_); refine g0_ ?_))
            refine nx_ ([m], .none) ?_ ?_
            · exact ⟨by decide, hin, by simp at hrl ⊢; try omega, by rw [← hw]; congr 1; simp [Style.num, hq0]⟩
            · simp; try omega
        · simp at hx
      · have hn1 : (n :: m :: c :: r)[1]? = some m := rfl
        have hn2 : (n :: m :: c :: r)[2]? = some c := rfl
        (refine g0_ ?_; repeat ((first | refine n1_ fun b_ => ?_ | refine n2_ fun b_ => ?_ | refine n3_ fun b_ pre_ => ?_ | refine Nat1.mk fun q_ hq_ => ?_ | refine em_ fun x_ hx_ => ?_ | refine Elem1.mk fun e_ he_ => ?_); refine g0_ ?_))
        refine brec ?_; intro c_ hlt; (try rw [hlt]); cases c_ <;> replace hlt := nm_ hlt
        · simp at hlt; omega
        (refine g0_ ?_; repeat ((first | refine n1_ fun b_ => ?_ | refine n2_ fun b_ => ?_ | refine n3_ fun b_ pre_ => ?_ | refine Nat1.mk fun q_ hq_ => ?_ | refine em_ fun x_ hx_ => ?_ | refine Elem1.mk fun e_ he_ => ?_); refine g0_ ?_))
        refine brec ?_; intro c_ hx; (try rw [hx]); cases c_ <;> replace hx := nm_ hx
        · have hx' : ¬ ((n = 38 ∨ n = 48) ∧ m = 5) := by
            simp at hx
            omega
          rw [applyL, if_neg hx'] at hw
          (refine g0_ ?_; repeat ((first | refine n1_ fun b_ => ?_ | refine n2_ fun b_ => ?_ | refine n3_ fun b_ pre_ => ?_ | refine Nat1.mk fun q_ hq_ => ?_ | refine em_ fun x_ hx_ => ?_ | refine Elem1.mk fun e_ he_ => ?_); refine g0_ ?_))
          refine brec ?_; intro c_ hq0; (try rw [hq0]); cases c_ <;> replace hq0 := nm_ hq0
          · (refine g0_ ?_; repeat ((first | refine n1_ fun b_ => ?_ | refine n2_ fun b_ => ?_ | refine n3_ fun b_ pre_ => ?_ | refine Nat1.mk fun q_ hq_ => ?_ | refine em_ fun x_ hx_ => ?_ | refine Elem1.mk fun e_ he_ => ?_); refine g0_ ?_))
            refine ⟨_, look_set (by repeat (first | exact .here _ _ _ | apply Look.there)), ?_⟩
            (refine g0_ ?_; repeat ((first | refine n1_ fun b_ => ?_ | refine n2_ fun b_ => ?_ | refine n3_ fun b_ pre_ => ?_ | refine Nat1.mk fun q_ hq_ => ?_ | refine em_ fun x_ hx_ => ?_ | refine Elem1.mk fun e_ he_ => ?_); refine g0_ ?_))
            refine brec ?_; intro c_ hb1; (try rw [hb1]); cases c_ <;> replace hb1 := nm_ hb1
            · (refine g0_ ?_; repeat ((first | refine n1_ fun b_ => ?_ | refine n2_ fun b_ => ?_ | refine n3_ fun b_ pre_ => ?_ | refine Nat1.mk fun q_ hq_ => ?_ | refine em_ fun x_ hx_ => ?_ | refine Elem1.mk fun e_ he_ => ?_); refine g0_ ?_))
              refine ⟨_, look_off (by repeat (first | exact .here _ _ _ | apply Look.there)), ?_⟩
              (refine g0_ ?_; repeat ((first | refine n1_ fun b_ => ?_ | refine n2_ fun b_ => ?_ | refine n3_ fun b_ pre_ => ?_ | refine Nat1.mk fun q_ hq_ => ?_ | refine em_ fun x_ hx_ => ?_ | refine Elem1.mk fun e_ he_ => ?_); refine g0_ ?_))
              refine brec ?_; intro c_ hb2; (try rw [hb2]); cases c_ <;> replace hb2 := nm_ hb2
              · rw [mask_same hok hb1 hb2] at hw
                have hq : n.tdiv 10 = n / 10 := Int.tdiv_eq_ediv_of_nonneg (by omega)
                have hr : n.tmod 10 = n % 10 := Int.tmod_eq_emod_of_nonneg (by omega)
                (refine g0_ ?_; repeat ((first | refine n1_ fun b_ => ?_ | refine n2_ fun b_ => ?_ | refine n3_ fun b_ pre_ => ?_ | refine Nat1.mk fun q_ hq_ => ?_ | refine em_ fun x_ hx_ => ?_ | refine Elem1.mk fun e_ he_ => ?_); refine g0_ ?_))
                refine brec ?_; intro c_ hc1; (try rw [hc1]); cases c_ <;> replace hc1 := nm_ hc1
                · (refine g0_ ?_; repeat ((first | refine n1_ fun b_ => ?_ | refine n2_ fun b_ => ?_ | refine n3_ fun b_ pre_ => ?_ | refine Nat1.mk fun q_ hq_ => ?_ | refine em_ fun x_ hx_ => ?_ | refine Elem1.mk fun e_ he_ => ?_); refine g0_ ?_))
                  refine brec ?_; intro c_ hc2; (try rw [hc2]); cases c_ <;> replace hc2 := nm_ hc2
                  · (refine g0_ ?_; repeat ((first | refine n1_ fun b_ => ?_ | refine n2_ fun b_ => ?_ | refine n3_ fun b_ pre_ => ?_ | refine Nat1.mk fun q_ hq_ => ?_ | refine em_ fun x_ hx_ => ?_ | refine Elem1.mk fun e_ he_ => ?_); refine g0_ ?_))
                    refine brec ?_; intro c_ hc3; (try rw [hc3]); cases c_ <;> replace hc3 := nm_ hc3
                    · (refine g0_ ?_; repeat ((first | refine n1_ fun b_ => ?_ | refine n2_ fun b_ => ?_ | refine n3_ fun b_ pre_ => ?_ | refine Nat1.mk fun q_ hq_ => ?_ | refine em_ fun x_ hx_ => ?_ | refine Elem1.mk fun e_ he_ => ?_); refine g0_ ?_))
                      refine brec ?_; intro c_ hc4; (try rw [hc4]); cases c_ <;> replace hc4 := nm_ hc4
                      · (refine g0_ ?_; repeat ((first | refine n1_ fun b_ => ?_ | refine n2_ fun b_ => ?_ | refine n3_ fun b_ pre_ => ?_ | refine Nat1.mk fun q_ hq_ => ?_ | refine em_ fun x_ hx_ => ?_ | refine Elem1.mk fun e_ he_ => ?_); refine g0_ ?_))
                        refine brec ?_; intro c_ hc5; (try rw [hc5]); cases c_ <;> replace hc5 := nm_ hc5
                        · (refine g0_ ?_; repeat ((first | refine n1_ fun b_ => ?_ | refine n2_ fun b_ => ?_ | refine n3_ fun b_ pre_ => ?_ | refine Nat1.mk fun q_ hq_ => ?_ | refine em_ fun x_ hx_ => ?_ | refine Elem1.mk fun e_ he_ => ?_); refine g0_ ?_))
                          refine brec ?_; intro c_ hc6; (try rw [hc6]); cases c_ <;> replace hc6 := nm_ hc6
                          · (refine g0_ ?_; repeat ((first | refine n1_ fun b_ => ?_ | refine n2_ fun b_ => ?_ | refine n3_ fun b_ pre_ => ?_ | refine Nat1.mk fun q_ hq_ => ?_ | refine em_ fun x_ hx_ => ?_ | refine Elem1.mk fun e_ he_ => ?_); refine g0_ ?_))
                            refine nx_ ((m :: c :: r), st) ?_ ?_
                            · exact ⟨by unfold Style.ok i64ok at *; (try dsimp only); omega, hin, by simp at hrl ⊢; try omega, by
                                rw [← hw]; congr 1; unfold Style.num
                                (repeat' split) <;> first | rfl | (exfalso; omega) | (congr 1; omega)⟩
                            · simp; try omega
                          · (refine g0_ ?_; repeat ((first | refine n1_ fun b_ => ?_ | refine n2_ fun b_ => ?_ | refine n3_ fun b_ pre_ => ?_ | refine Nat1.mk fun q_ hq_ => ?_ | refine em_ fun x_ hx_ => ?_ | refine Elem1.mk fun e_ he_ => ?_); refine g0_ ?_))
                            refine nx_ ((m :: c :: r), { st with back := 0 }) ?_ ?_
                            · exact ⟨by unfold Style.ok i64ok at *; (try dsimp only); omega, hin, by simp at hrl ⊢; try omega, by
                                rw [← hw]; congr 1; unfold Style.num
                                (repeat' split) <;> first | rfl | (exfalso; omega) | (congr 1; omega)⟩
                            · simp; try omega
                        · (refine g0_ ?_; repeat ((first | refine n1_ fun b_ => ?_ | refine n2_ fun b_ => ?_ | refine n3_ fun b_ pre_ => ?_ | refine Nat1.mk fun q_ hq_ => ?_ | refine em_ fun x_ hx_ => ?_ | refine Elem1.mk fun e_ he_ => ?_); refine g0_ ?_))
                          refine nx_ ((m :: c :: r), { st with fore := 0 }) ?_ ?_
                          · exact ⟨by unfold Style.ok i64ok at *; (try dsimp only); omega, hin, by simp at hrl ⊢; try omega, by
                              rw [← hw]; congr 1; unfold Style.num
                              (repeat' split) <;> first | rfl | (exfalso; omega) | (congr 1; omega)⟩
                          · simp; try omega
                      · (refine g0_ ?_; repeat ((first | refine n1_ fun b_ => ?_ | refine n2_ fun b_ => ?_ | refine n3_ fun b_ pre_ => ?_ | refine Nat1.mk fun q_ hq_ => ?_ | refine em_ fun x_ hx_ => ?_ | refine Elem1.mk fun e_ he_ => ?_); refine g0_ ?_))
                        (refine g0_ ?_; repeat ((first | refine n1_ fun b_ => ?_ | refine n2_ fun b_ => ?_ | refine n3_ fun b_ pre_ => ?_ | refine Nat1.mk fun q_ hq_ => ?_ | refine em_ fun x_ hx_ => ?_ | refine Elem1.mk fun e_ he_ => ?_); refine g0_ ?_))
                        refine nx_ ((m :: c :: r), { st with back := n.tmod 10 + 9 }) ?_ ?_
                        · exact ⟨by unfold Style.ok i64ok at *; (try dsimp only); omega, hin, by simp at hrl ⊢; try omega, by
                            rw [← hw]; congr 1; unfold Style.num
                            (repeat' split) <;> first | rfl | (exfalso; omega) | (congr 1; omega)⟩
                        · simp; try omega
                    · (refine g0_ ?_; repeat ((first | refine n1_ fun b_ => ?_ | refine n2_ fun b_ => ?_ | refine n3_ fun b_ pre_ => ?_ | refine Nat1.mk fun q_ hq_ => ?_ | refine em_ fun x_ hx_ => ?_ | refine Elem1.mk fun e_ he_ => ?_); refine g0_ ?_))
                      (refine g0_ ?_; repeat ((first | refine n1_ fun b_ => ?_ | refine n2_ fun b_ => ?_ | refine n3_ fun b_ pre_ => ?_ | refine Nat1.mk fun q_ hq_ => ?_ | refine em_ fun x_ hx_ => ?_ | refine Elem1.mk fun e_ he_ => ?_); refine g0_ ?_))
                      refine nx_ ((m :: c :: r), { st with fore := n.tmod 10 + 9 }) ?_ ?_
                      · exact ⟨by unfold Style.ok i64ok at *; (try dsimp only); omega, hin, by simp at hrl ⊢; try omega, by
                          rw [← hw]; congr 1; unfold Style.num
                          (repeat' split) <;> first | rfl | (exfalso; omega) | (congr 1; omega)⟩
                      · simp; try omega
                  · (refine g0_ ?_; repeat ((first | refine n1_ fun b_ => ?_ | refine n2_ fun b_ => ?_ | refine n3_ fun b_ pre_ => ?_ | refine Nat1.mk fun q_ hq_ => ?_ | refine em_ fun x_ hx_ => ?_ | refine Elem1.mk fun e_ he_ => ?_); refine g0_ ?_))
                    (refine g0_ ?_; repeat ((first | refine n1_ fun b_ => ?_ | refine n2_ fun b_ => ?_ | refine n3_ fun b_ pre_ => ?_ | refine Nat1.mk fun q_ hq_ => ?_ | refine em_ fun x_ hx_ => ?_ | refine Elem1.mk fun e_ he_ => ?_); refine g0_ ?_))
                    refine nx_ ((m :: c :: r), { st with back := n.tmod 10 + 1 }) ?_ ?_
                    · exact ⟨by unfold Style.ok i64ok at *; (try dsimp only); omega, hin, by simp at hrl ⊢; try omega, by
                        rw [← hw]; congr 1; unfold Style.num
                        (repeat' split) <;> first | rfl | (exfalso; omega) | (congr 1; omega)⟩
                    · simp; try omega
                · (refine g0_ ?_; repeat ((first | refine n1_ fun b_ => ?_ | refine n2_ fun b_ => ?_ | refine n3_ fun b_ pre_ => ?_ | refine Nat1.mk fun q_ hq_ => ?_ | refine em_ fun x_ hx_ => ?_ | refine Elem1.mk fun e_ he_ => ?_); refine g0_ ?_))
                  (refine g0_ ?_; repeat ((first | refine n1_ fun b_ => ?_ | refine n2_ fun b_ => ?_ | refine n3_ fun b_ pre_ => ?_ | refine Nat1.mk fun q_ hq_ => ?_ | refine em_ fun x_ hx_ => ?_ | refine Elem1.mk fun e_ he_ => ?_); refine g0_ ?_))
                  refine nx_ ((m :: c :: r), { st with fore := n.tmod 10 + 1 }) ?_ ?_
                  · exact ⟨by unfold Style.ok i64ok at *; (try dsimp only); omega, hin, by simp at hrl ⊢; try omega, by
                      rw [← hw]; congr 1; unfold Style.num
                      (repeat' split) <;> first | rfl | (exfalso; omega) | (congr 1; omega)⟩
                  · simp; try omega
              · rw [mask_off hok hb2] at hw
                (refine g0_ ?_; repeat ((first | refine n1_ fun b_ => ?_ | refine n2_ fun b_ => ?_ | refine n3_ fun b_ pre_ => ?_ | refine Nat1.mk fun q_ hq_ => ?_ | refine em_ fun x_ hx_ => ?_ | refine Elem1.mk fun e_ he_ => ?_); refine g0_ ?_))
                refine ⟨_, look_off (by repeat (first | exact .here _ _ _ | apply Look.there)), ?_⟩
                (refine g0_ ?_; repeat ((first | refine n1_ fun b_ => ?_ | refine n2_ fun b_ => ?_ | refine n3_ fun b_ pre_ => ?_ | refine Nat1.mk fun q_ hq_ => ?_ | refine em_ fun x_ hx_ => ?_ | refine Elem1.mk fun e_ he_ => ?_); refine g0_ ?_))
                refine nx_ ((m :: c :: r), { st with bits := bitop .andNot .i64 st.bits (bitsF n).2 }) ?_ ?_
                · exact ⟨⟨hok.1, hok.2.1, bitop_ok .andNot st.bits (bitsF n).2⟩, hin, by simp at hrl ⊢; try omega, hw⟩
                · simp; try omega
            · rw [mask_set hok hb1] at hw
              (refine g0_ ?_; repeat ((first | refine n1_ fun b_ => ?_ | refine n2_ fun b_ => ?_ | refine n3_ fun b_ pre_ => ?_ | refine Nat1.mk fun q_ hq_ => ?_ | refine em_ fun x_ hx_ => ?_ | refine Elem1.mk fun e_ he_ => ?_); refine g0_ ?_))
              refine ⟨_, look_set (by repeat (first | exact .here _ _ _ | apply Look.there)), ?_⟩
              (refine g0_ ?_; repeat ((first | refine n1_ fun b_ => ?_ | refine n2_ fun b_ => ?_ | refine n3_ fun b_ pre_ => ?_ | refine Nat1.mk fun q_ hq_ => ?_ | refine em_ fun x_ hx_ => ?_ | refine Elem1.mk fun e_ he_ => ?_); refine g0_ ?_))
              refine nx_ ((m :: c :: r), { st with bits := bitop .or .i64 st.bits (bitsF n).1 }) ?_ ?_
              · exact ⟨⟨hok.1, hok.2.1, bitop_ok .or st.bits (bitsF n).1⟩, hin, by simp at hrl ⊢; try omega, hw⟩
              · simp; try omega
          · (refine g0_ ?_; repeat ((first | refine n1_ fun b_ => ?_ | refine n2_ fun b_ => ?_ | refine n3_ fun b_ pre_ => ?_ | refine Nat1.mk fun q_ hq_ => ?_ | refine em_ fun x_ hx_ => ?_ | refine Elem1.mk fun e_ he_ => ?_); refine g0_ ?_))
            refine nx_ ((m :: c :: r), .none) ?_ ?_
            · exact ⟨by decide, hin, by simp at hrl ⊢; try omega, by rw [← hw]; congr 1; simp [Style.num, hq0]⟩
            · simp; try omega
        · have hx' : (n = 38 ∨ n = 48) ∧ m = 5 := by
            simp at hx
            omega
          have hcb := hin c (by simp)
          unfold i64ok at hcb
          replace hin : ∀ x ∈ r, i64ok x := fun x hx => hin x (by simp [hx])
          rw [applyL, if_pos hx', mask_same hok (bits_3848 hx'.1).1 (bits_3848 hx'.1).2] at hw
          (refine g0_ ?_; repeat ((first | refine n1_ fun b_ => ?_ | refine n2_ fun b_ => ?_ | refine n3_ fun b_ pre_ => ?_ | refine Nat1.mk fun q_ hq_ => ?_ | refine em_ fun x_ hx_ => ?_ | refine Elem1.mk fun e_ he_ => ?_); refine g0_ ?_))
          refine brec ?_; intro c_ hc0; (try rw [hc0]); cases c_ <;> replace hc0 := nm_ hc0
          · rw [Style.colour, if_pos (by omega)] at hw
            (refine g0_ ?_; repeat ((first | refine n1_ fun b_ => ?_ | refine n2_ fun b_ => ?_ | refine n3_ fun b_ pre_ => ?_ | refine Nat1.mk fun q_ hq_ => ?_ | refine em_ fun x_ hx_ => ?_ | refine Elem1.mk fun e_ he_ => ?_); refine g0_ ?_))
            refine nx_ (r, st) ?_ ?_
            · exact ⟨hok, hin, by simp at hrl ⊢; omega, hw⟩
            · simp; try omega
          · rw [Style.colour, if_neg (by omega)] at hw
            (refine g0_ ?_; repeat ((first | refine n1_ fun b_ => ?_ | refine n2_ fun b_ => ?_ | refine n3_ fun b_ pre_ => ?_ | refine Nat1.mk fun q_ hq_ => ?_ | refine em_ fun x_ hx_ => ?_ | refine Elem1.mk fun e_ he_ => ?_); refine g0_ ?_))
            refine brec ?_; intro c_ hn38; (try rw [hn38]); cases c_ <;> replace hn38 := nm_ hn38
            · rw [if_neg hn38] at hw
              (refine g0_ ?_; repeat ((first | refine n1_ fun b_ => ?_ | refine n2_ fun b_ => ?_ | refine n3_ fun b_ pre_ => ?_ | refine Nat1.mk fun q_ hq_ => ?_ | refine em_ fun x_ hx_ => ?_ | refine Elem1.mk fun e_ he_ => ?_); refine g0_ ?_))
              refine nx_ (r, { st with back := c + 1 }) ?_ ?_
              · exact ⟨by unfold Style.ok i64ok at *; (try dsimp only); omega, hin, by simp at hrl ⊢; omega, hw⟩
              · simp; try omega
            · rw [if_pos hn38] at hw
              (refine g0_ ?_; repeat ((first | refine n1_ fun b_ => ?_ | refine n2_ fun b_ => ?_ | refine n3_ fun b_ pre_ => ?_ | refine Nat1.mk fun q_ hq_ => ?_ | refine em_ fun x_ hx_ => ?_ | refine Elem1.mk fun e_ he_ => ?_); refine g0_ ?_))
              refine nx_ (r, { st with fore := c + 1 }) ?_ ?_
              · exact ⟨by unfold Style.ok i64ok at *; (try dsimp only); omega, hin, by simp at hrl ⊢; omega, hw⟩
              · simp; try omega
  · have : l = [] := List.eq_nil_of_length_eq_zero (by simp only [List.length_map] at h0; omega)
    subst this
    (refine g0_ ?_; repeat ((first | refine n1_ fun b_ => ?_ | refine n2_ fun b_ => ?_ | refine n3_ fun b_ pre_ => ?_ | refine Nat1.mk fun q_ hq_ => ?_ | refine em_ fun x_ hx_ => ?_ | refine Elem1.mk fun e_ he_ => ?_); refine g0_ ?_))
    exact .refl _
end Go.Eng.YtgpkedepboenpaaDoor
end
