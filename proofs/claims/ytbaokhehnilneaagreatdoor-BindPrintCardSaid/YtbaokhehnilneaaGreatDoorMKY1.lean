/- Texts put together: KeyL, Key1, Key2. -/
import Derived.Test.YtbaokhehnilneaaGreatDoorMRB
import Derived.Test.YtbaokhehnilneaaGreatDoorMQ1
import Derived.Test.YtbaokhehnilneaaGreatDoorMT1
import Derived.Test.YtbaokhehnilneaaGreatDoorMQ4
import Derived.Lib.TrimByte
/- Keys: what is struck, and what bytes tell (plain). -/
section
namespace Go.Eng.YtbaokhehnilneaaGreatDoor
open Go Go.Eng Go.Proofs
set_option linter.unusedSimpArgs false
set_option maxRecDepth 100000
set_option linter.unusedVariables false
/-- A key. -/
structure Key where
  kind : Int
  r : Int
  n : Int
  held : Int
  deriving DecidableEq
def encKey (k : Key) : PV := .agg [.int .i64 k.kind, .int .i32 k.r, .int .i64 k.n, .int .i64 k.held]
def keyZ : Key := ⟨0, 0, 0, 0⟩
def keyEsc : Key := ⟨5, 0, 0, 0⟩
/-- The letter behind what is told of a kind. -/
def letterK (kind : Int) : Nat := if kind = 6 then 65 else if kind = 7 then 66 else if kind = 8 then 67 else if kind = 9 then 68 else if kind = 10 then 72 else if kind = 11 then 70 else 0
def fnumK : List Int := [0, 11, 12, 13, 14, 15, 17, 18, 19, 20, 21, 23, 24]
def numberK (k : Key) : Int := if k.kind = 14 then 3 else if k.kind = 12 then 5 else if k.kind = 13 then 6 else if k.kind = 15 then fnumK.getD k.n.toNat 0 else 0
/-- The kind of a letter. -/
def arrowK (c : Nat) : Int := if c = 65 then 6 else if c = 66 then 7 else if c = 67 then 8 else if c = 68 then 9 else if c = 72 then 10 else if c = 70 then 11 else 0
/-- What a number ahead of ~ tells: kind and function. -/
def tildeK (n : Int) : Option (Int × Int) := if n = 5 then some (12, 0) else if n = 6 then some (13, 0) else if n = 3 then some (14, 0) else
  if n = 11 then some (15, 1) else if n = 12 then some (15, 2) else if n = 13 then some (15, 3) else if n = 14 then some (15, 4) else if n = 15 then some (15, 5) else if n = 17 then some (15, 6)
  else if n = 18 then some (15, 7) else if n = 19 then some (15, 8) else if n = 20 then some (15, 9) else if n = 21 then some (15, 10) else if n = 23 then some (15, 11) else if n = 24 then some (15, 12) else none
def okN (w : List UInt8) : Bool := isOk (Lib.atoiAll w)
def toldT (s w0 : List UInt8) (two : Bool) (last : UInt8) (held : Int) : Key × Bool :=
  if last.toNat = 90 ∧ s = [] then (⟨3, 0, 0, 1⟩, true)
  else if arrowK last.toNat ≠ 0 ∧ (s = [] ∨ (two = true ∧ Lib.trimLeftB w0 48 = [49])) then (⟨arrowK last.toNat, 0, 0, held⟩, true)
  else if last.toNat ≠ 126 then (keyZ, false)
  else if okN w0 = false then (keyZ, false)
  else match tildeK (cntV w0) with
    | some (k, n) => (⟨k, 0, n, held⟩, true)
    | none => (keyZ, false)
def toldK (s : List UInt8) (last : UInt8) : Key × Bool :=
  match splt 59 s with
  | [w0] => toldT s w0 false last 0
  | [w0, w1] => if okN w1 = true ∧ 1 ≤ cntV w1 ∧ cntV w1 ≤ 8 then toldT s w0 true last (cntV w1 - 1) else (keyZ, false)
  | _ => (keyZ, false)
/-- The plain key of a byte. -/
def plainK (c : UInt8) : Key :=
  if c.toNat = 9 then ⟨3, 0, 0, 0⟩ else if c.toNat = 13 then ⟨2, 0, 0, 0⟩ else if c.toNat = 127 ∨ c.toNat = 8 then ⟨4, 0, 0, 0⟩ else if c.toNat = 0 then ⟨1, 32, 0, 0⟩
  else if c.toNat ≤ 26 then ⟨1, c.toNat + 96, 0, 4⟩ else ⟨1, 63, 0, 0⟩
def isDg (c : UInt8) : Bool := (decide (48 ≤ c.toNat) && decide (c.toNat ≤ 57)) || decide (c.toNat = 59)
/-- Up to where numbers go. -/
def runK (b : List UInt8) : Nat := if b.getD 1 0 = 91 then 2 + (((b.drop 2).take 10).takeWhile isDg).length else 2
def seqK (b : List UInt8) (last : Bool) : Key × Nat :=
  if runK b = b.length ∧ last = false then (keyZ, 0)
  else if runK b < b.length ∧ (toldK ((b.take (runK b)).drop 2) (b.getD (runK b) 0)).2 = true ∧ (b.getD 1 0 = 91 ∨ letterK (toldK ((b.take (runK b)).drop 2) (b.getD (runK b) 0)).1.kind ≠ 0) then
    ((toldK ((b.take (runK b)).drop 2) (b.getD (runK b) 0)).1, runK b + 1)
  else (keyEsc, 1)
/-- The first key, where no ESC stands ahead. -/
def first0 (b : List UInt8) (last : Bool) : Key × Nat :=
  if (b.getD 0 0).toNat < 32 ∨ (b.getD 0 0).toNat = 127 then (plainK (b.getD 0 0), 1)
  else if fullL b = false ∧ last = false then (keyZ, 0)
  else (⟨1, if widthL (dec b).1 = 0 then 63 else (dec b).1, 0, 0⟩, (dec b).2)
def firstK (b : List UInt8) (last : Bool) : Key × Nat :=
  if (b.getD 0 0).toNat ≠ 27 then first0 b last
  else if b.length = 1 then (if last then (keyEsc, 1) else (keyZ, 0))
  else if (b.getD 1 0).toNat = 91 ∨ (b.getD 1 0).toNat = 79 then seqK b last
  else if (b.getD 1 0).toNat = 27 ∨ (b.getD 1 0).toNat = 9 then (keyEsc, 1)
  else if (first0 (b.drop 1) last).2 = 0 then ((first0 (b.drop 1) last).1, 0)
  else ({ (first0 (b.drop 1) last).1 with held := bitop .or .i64 (first0 (b.drop 1) last).1.held 2 }, (first0 (b.drop 1) last).2 + 1)
def readK (last : Bool) : Nat → List UInt8 → List Key × List UInt8
  | 0, b => ([], b)
  | n + 1, b =>
    if b = [] ∨ (firstK b last).2 = 0 then ([], b)
    else ((firstK b last).1 :: (readK last n (b.drop (firstK b last).2)).1, (readK last n (b.drop (firstK b last).2)).2)
/-! ### How many bytes a key takes -/
end Go.Eng.YtbaokhehnilneaaGreatDoor
end

/- Keys: what bytes tell (b_ x_ q_ e_). -/
section
namespace Go.Eng.YtbaokhehnilneaaGreatDoor
open Go Go.Eng Go.Proofs
variable (W : World)
set_option linter.unusedSimpArgs false
set_option maxRecDepth 100000
set_option linter.unusedVariables false
set_option maxHeartbeats 4000000
theorem letter_ok (kind : Int) : Pure Tryz.prog W 42 [.int .i64 kind] (.int .u8 (letterK kind)) := by
  unfold letterK
  refine Pure.of (acalls_of_vc (drawOk W) Tryz.func42 rfl (by decide) (by decide) rfl ?_)
  refine wh ?_; repeat' (first | (refine brec ?_; intro c_ h_; (try rw [h_]); cases c_ <;> (first | replace h_ := of_decide_eq_true h_ | replace h_ := Decidable.not_not.1 (of_decide_eq_false h_) | replace h_ := of_decide_eq_false h_ | (replace h_ := Bool.eq_false_iff.1 h_; simp only [true_and, and_true, Bool.true_and, Bool.and_true, Bool.not_true, Bool.not_false, Bool.and_eq_true, Bool.not_eq_true, Bool.not_eq_false, Bool.or_eq_true, Bool.not_eq_true', Bool.not_eq_false', decide_eq_true_eq, decide_eq_false_iff_not, Decidable.not_not, ne_eq, beq_iff_eq] at h_) | simp only [true_and, and_true, Bool.true_and, Bool.and_true, Bool.not_true, Bool.not_false, Bool.and_eq_true, Bool.not_eq_true, Bool.not_eq_false, Bool.or_eq_true, Bool.not_eq_true', Bool.not_eq_false', decide_eq_true_eq, decide_eq_false_iff_not, Decidable.not_not, ne_eq, beq_iff_eq] at h_ | skip) <;> refine wh ?_) | ((first | refine CondC.part ?_ | (refine GuardC.part ?_; refine wh ?_; fail_if_success refine brec ?_) | (apply GuardC.sp; (case' h1 => (refine wh ?_; (repeat ((refine need.mk ?_ ?_; focus (first | with_reducible exact fun h => h | with_reducible exact not_of_false | exact fun _ => rfl | (intro h_; simp [h_]; done) | (intro h_; simp_all; done))); refine wh ?_)); exact trivial)); (case' h2 => (intro hg_; (refine wh ?_; repeat ((first | (apply RowAt.mk; (case' hl => (repeat (first | exact .here _ _ _ | apply Look.there | exact Look.fam (by assumption) _)))) | refine Fits.ok (by omega) (by omega) ?_ | (refine need.mk ?_ ?_; focus (first | (first | omega | exact wkMem.skip wkMem.rfl' | rfl | (simp; done) | (simp [cellsB, PV.flat, cellB]; done) | (simp <;> omega) | (simp only [true_and, and_true, Bool.true_and, Bool.and_true, Bool.not_true, Bool.not_false, Bool.and_eq_true, Bool.not_eq_true, Bool.not_eq_false, Bool.or_eq_true, Bool.not_eq_true', Bool.not_eq_false', decide_eq_true_eq, decide_eq_false_iff_not, Decidable.not_not, ne_eq, beq_iff_eq]; omega) | (rw [Bool.eq_false_iff]; simp only [true_and, and_true, Bool.true_and, Bool.and_true, Bool.not_true, Bool.not_false, Bool.and_eq_true, Bool.not_eq_true, Bool.not_eq_false, Bool.or_eq_true, Bool.not_eq_true', Bool.not_eq_false', decide_eq_true_eq, decide_eq_false_iff_not, Decidable.not_not, ne_eq, beq_iff_eq]; omega)) | (simp at hg_; omega) | (intros; simp_all; done) | (intros; simp_all; omega))) | (refine New1.mk fun b_ hb_ => ?_; clear hb_) | (refine New2.mk fun b_ hb_ => ?_; clear hb_) | (refine Nat1.mk fun q_ hq_ => ?_; (first | (obtain rfl := Int.ofNat.inj hq_; clear hq_) | skip)) | refine at_known (by assumption) ?_ | (refine Elem1.mk fun e_ he_ => ?_; (first | (obtain ⟨x_, hx_, rfl⟩ := getMap he_; clear he_) | (obtain rfl := Option.some.inj he_; clear he_) | skip)) | (refine Lst1.mk fun s_ hs_ => ?_; (try simp only [List.take_length, List.drop_zero, ← List.map_take, ← List.map_drop] at hs_); subst hs_)); refine wh ?_)); refine And.intro ?_ rfl; exact Eq.refl _))) | refine GuardC.part ?_ | (refine needO.mk ?_ ?_; focus (refine wh ?_; (repeat ((refine need.mk ?_ ?_; focus (first | with_reducible exact fun h => h | with_reducible exact not_of_false | exact fun _ => rfl | (intro h_; simp [h_]; done) | (intro h_; simp_all; done))); refine wh ?_)); exact trivial)) | with_reducible refine need.mk (fun h => h) ?_ | with_reducible refine need.mk not_of_false ?_ | (apply RowAt.mk; (case' hl => (repeat (first | exact .here _ _ _ | apply Look.there | exact Look.fam (by assumption) _)))) | refine Fits.ok (by omega) (by omega) ?_ | (refine need.mk ?_ ?_; focus (first | omega | exact wkMem.skip wkMem.rfl' | rfl | (simp; done) | (simp [cellsB, PV.flat, cellB]; done) | (simp <;> omega) | (simp only [true_and, and_true, Bool.true_and, Bool.and_true, Bool.not_true, Bool.not_false, Bool.and_eq_true, Bool.not_eq_true, Bool.not_eq_false, Bool.or_eq_true, Bool.not_eq_true', Bool.not_eq_false', decide_eq_true_eq, decide_eq_false_iff_not, Decidable.not_not, ne_eq, beq_iff_eq]; omega) | (rw [Bool.eq_false_iff]; simp only [true_and, and_true, Bool.true_and, Bool.and_true, Bool.not_true, Bool.not_false, Bool.and_eq_true, Bool.not_eq_true, Bool.not_eq_false, Bool.or_eq_true, Bool.not_eq_true', Bool.not_eq_false', decide_eq_true_eq, decide_eq_false_iff_not, Decidable.not_not, ne_eq, beq_iff_eq]; omega))) | (refine New1.mk fun b_ hb_ => ?_; clear hb_) | (refine New2.mk fun b_ hb_ => ?_; clear hb_) | (refine Nat1.mk fun q_ hq_ => ?_; (first | (obtain rfl := Int.ofNat.inj hq_; clear hq_) | skip)) | refine at_known (by assumption) ?_ | (refine Elem1.mk fun e_ he_ => ?_; (first | (obtain ⟨x_, hx_, rfl⟩ := getMap he_; clear he_) | (obtain rfl := Option.some.inj he_; clear he_) | skip)) | (refine Lst1.mk fun s_ hs_ => ?_; (try simp only [List.take_length, List.drop_zero, ← List.map_take, ← List.map_drop] at hs_); subst hs_)); refine wh ?_) | (((refine Frz.of_eq ?_; (conv => lhs; whnf)); simp [*]; try rfl); done))
theorem number_ok (k : Key) (h : k.kind = 15 → 0 ≤ k.n ∧ k.n ≤ 12) : Pure Tryz.prog W 43 [encKey k] (.int .i64 (numberK k)) := by
  obtain ⟨kind, r, n, held⟩ := k
  dsimp only at h
  by_cases h15 : kind = 15
  · have hb := h h15
    subst h15
    rcases (by omega : n = 0 ∨ n = 1 ∨ n = 2 ∨ n = 3 ∨ n = 4 ∨ n = 5 ∨ n = 6 ∨ n = 7 ∨ n = 8 ∨ n = 9 ∨ n = 10 ∨ n = 11 ∨ n = 12) with rfl | rfl | rfl | rfl | rfl | rfl | rfl | rfl | rfl | rfl | rfl | rfl | rfl
    all_goals
      refine Pure.of (acalls_of_vc (drawOk W) Tryz.func43 rfl (by decide) (by decide) rfl ?_)
      (refine g0_ ?_; repeat ((first | refine n1_ fun b_ => ?_ | refine n2_ fun b_ => ?_ | refine Nat1.mk fun q_ hq_ => ?_ | refine em_ fun x_ hx_ => ?_ | refine Elem1.mk fun e_ he_ => ?_); refine g0_ ?_))
      refine .inl ?_
      (refine g0_ ?_; repeat ((first | refine n1_ fun b_ => ?_ | refine n2_ fun b_ => ?_ | refine Nat1.mk fun q_ hq_ => ?_ | refine em_ fun x_ hx_ => ?_ | refine Elem1.mk fun e_ he_ => ?_); refine g0_ ?_))
      exact .refl _
  · unfold numberK encKey
    dsimp only
    refine Pure.of (acalls_of_vc (drawOk W) Tryz.func43 rfl (by decide) (by decide) rfl ?_)
    refine wh ?_; repeat' (first | (refine brec ?_; intro c_ h_; (try rw [h_]); cases c_ <;> (first | replace h_ := of_decide_eq_true h_ | replace h_ := Decidable.not_not.1 (of_decide_eq_false h_) | replace h_ := of_decide_eq_false h_ | (replace h_ := Bool.eq_false_iff.1 h_; simp only [true_and, and_true, Bool.true_and, Bool.and_true, Bool.not_true, Bool.not_false, Bool.and_eq_true, Bool.not_eq_true, Bool.not_eq_false, Bool.or_eq_true, Bool.not_eq_true', Bool.not_eq_false', decide_eq_true_eq, decide_eq_false_iff_not, Decidable.not_not, ne_eq, beq_iff_eq] at h_) | simp only [true_and, and_true, Bool.true_and, Bool.and_true, Bool.not_true, Bool.not_false, Bool.and_eq_true, Bool.not_eq_true, Bool.not_eq_false, Bool.or_eq_true, Bool.not_eq_true', Bool.not_eq_false', decide_eq_true_eq, decide_eq_false_iff_not, Decidable.not_not, ne_eq, beq_iff_eq] at h_ | skip) <;> refine wh ?_) | ((first | refine CondC.part ?_ | (refine GuardC.part ?_; refine wh ?_; fail_if_success refine brec ?_) | (apply GuardC.sp; (case' h1 => (refine wh ?_; (repeat ((refine need.mk ?_ ?_; focus (first | with_reducible exact fun h => h | with_reducible exact not_of_false | exact fun _ => rfl | (intro h_; simp [h_]; done) | (intro h_; simp_all; done))); refine wh ?_)); exact trivial)); (case' h2 => (intro hg_; (refine wh ?_; repeat ((first | (apply RowAt.mk; (case' hl => (repeat (first | exact .here _ _ _ | apply Look.there | exact Look.fam (by assumption) _)))) | refine Fits.ok (by omega) (by omega) ?_ | (refine need.mk ?_ ?_; focus (first | (first | omega | exact wkMem.skip wkMem.rfl' | rfl | (simp; done) | (simp [cellsB, PV.flat, cellB]; done) | (simp <;> omega) | (simp only [true_and, and_true, Bool.true_and, Bool.and_true, Bool.not_true, Bool.not_false, Bool.and_eq_true, Bool.not_eq_true, Bool.not_eq_false, Bool.or_eq_true, Bool.not_eq_true', Bool.not_eq_false', decide_eq_true_eq, decide_eq_false_iff_not, Decidable.not_not, ne_eq, beq_iff_eq]; omega) | (rw [Bool.eq_false_iff]; simp only [true_and, and_true, Bool.true_and, Bool.and_true, Bool.not_true, Bool.not_false, Bool.and_eq_true, Bool.not_eq_true, Bool.not_eq_false, Bool.or_eq_true, Bool.not_eq_true', Bool.not_eq_false', decide_eq_true_eq, decide_eq_false_iff_not, Decidable.not_not, ne_eq, beq_iff_eq]; omega)) | (simp at hg_; omega) | (intros; simp_all; done) | (intros; simp_all; omega))) | (refine New1.mk fun b_ hb_ => ?_; clear hb_) | (refine New2.mk fun b_ hb_ => ?_; clear hb_) | (refine Nat1.mk fun q_ hq_ => ?_; (first | (obtain rfl := Int.ofNat.inj hq_; clear hq_) | skip)) | refine at_known (by assumption) ?_ | (refine Elem1.mk fun e_ he_ => ?_; (first | (obtain ⟨x_, hx_, rfl⟩ := getMap he_; clear he_) | (obtain rfl := Option.some.inj he_; clear he_) | skip)) | (refine Lst1.mk fun s_ hs_ => ?_; (try simp only [List.take_length, List.drop_zero, ← List.map_take, ← List.map_drop] at hs_); subst hs_)); refine wh ?_)); refine And.intro ?_ rfl; exact Eq.refl _))) | refine GuardC.part ?_ | (refine needO.mk ?_ ?_; focus (refine wh ?_; (repeat ((refine need.mk ?_ ?_; focus (first | with_reducible exact fun h => h | with_reducible exact not_of_false | exact fun _ => rfl | (intro h_; simp [h_]; done) | (intro h_; simp_all; done))); refine wh ?_)); exact trivial)) | with_reducible refine need.mk (fun h => h) ?_ | with_reducible refine need.mk not_of_false ?_ | (apply RowAt.mk; (case' hl => (repeat (first | exact .here _ _ _ | apply Look.there | exact Look.fam (by assumption) _)))) | refine Fits.ok (by omega) (by omega) ?_ | (refine need.mk ?_ ?_; focus (first | omega | exact wkMem.skip wkMem.rfl' | rfl | (simp; done) | (simp [cellsB, PV.flat, cellB]; done) | (simp <;> omega) | (simp only [true_and, and_true, Bool.true_and, Bool.and_true, Bool.not_true, Bool.not_false, Bool.and_eq_true, Bool.not_eq_true, Bool.not_eq_false, Bool.or_eq_true, Bool.not_eq_true', Bool.not_eq_false', decide_eq_true_eq, decide_eq_false_iff_not, Decidable.not_not, ne_eq, beq_iff_eq]; omega) | (rw [Bool.eq_false_iff]; simp only [true_and, and_true, Bool.true_and, Bool.and_true, Bool.not_true, Bool.not_false, Bool.and_eq_true, Bool.not_eq_true, Bool.not_eq_false, Bool.or_eq_true, Bool.not_eq_true', Bool.not_eq_false', decide_eq_true_eq, decide_eq_false_iff_not, Decidable.not_not, ne_eq, beq_iff_eq]; omega))) | (refine New1.mk fun b_ hb_ => ?_; clear hb_) | (refine New2.mk fun b_ hb_ => ?_; clear hb_) | (refine Nat1.mk fun q_ hq_ => ?_; (first | (obtain rfl := Int.ofNat.inj hq_; clear hq_) | skip)) | refine at_known (by assumption) ?_ | (refine Elem1.mk fun e_ he_ => ?_; (first | (obtain ⟨x_, hx_, rfl⟩ := getMap he_; clear he_) | (obtain rfl := Option.some.inj he_; clear he_) | skip)) | (refine Lst1.mk fun s_ hs_ => ?_; (try simp only [List.take_length, List.drop_zero, ← List.map_take, ← List.map_drop] at hs_); subst hs_)); refine wh ?_) | ((first | exact absurd h_ h15 | ((refine Frz.of_eq ?_; (conv => lhs; whnf)); simp [*])); done))
end Go.Eng.YtbaokhehnilneaaGreatDoor
end

/- Keys: told by numbers and a last byte (b_ x_ q_ e_). -/
section
namespace Go.Eng.YtbaokhehnilneaaGreatDoor
open Go Go.Eng Go.Proofs
variable (W : World)
set_option linter.unusedSimpArgs false
set_option maxRecDepth 100000
set_option linter.unusedVariables false
set_option maxHeartbeats 8000000
end Go.Eng.YtbaokhehnilneaaGreatDoor
end
