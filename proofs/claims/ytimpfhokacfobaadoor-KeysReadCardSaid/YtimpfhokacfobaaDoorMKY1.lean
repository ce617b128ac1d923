/- Texts put together: KeyL, Key1, Key2. -/
import Derived.Test.YtimpfhokacfobaaDoorMRB
import Derived.Test.YtimpfhokacfobaaDoorMQ1
import Derived.Test.YtimpfhokacfobaaDoorMT1
import Derived.Test.YtimpfhokacfobaaDoorMQ4
/- Keys: what is struck, and what bytes tell (plain). -/
section
namespace Go.Eng.YtimpfhokacfobaaDoor
open Go Go.Eng Go.Proofs
set_option linter.unusedSimpArgs false
set_option maxRecDepth 100000
set_option linter.unusedVariables false
/-- A key. -/
structure Key where
  kind : Int
  r : Int
  n : Int
  held : Int
  deriving DecidableEq
def encKey (k : Key) : PV := .agg [.int .i64 k.kind, .int .i32 k.r, .int .i64 k.n, .int .i64 k.held]
def keyZ : Key := ⟨0, 0, 0, 0⟩
def keyEsc : Key := ⟨5, 0, 0, 0⟩
/-- The letter behind what is told of a kind. -/
def letterK (kind : Int) : Nat := if kind = 6 then 65 else if kind = 7 then 66 else if kind = 8 then 67 else if kind = 9 then 68 else if kind = 10 then 72 else if kind = 11 then 70 else 0
def fnumK : List Int := [0, 11, 12, 13, 14, 15, 17, 18, 19, 20, 21, 23, 24]
def numberK (k : Key) : Int := if k.kind = 14 then 3 else if k.kind = 12 then 5 else if k.kind = 13 then 6 else if k.kind = 15 then fnumK.getD k.n.toNat 0 else 0
/-- The kind of a letter. -/
def arrowK (c : Nat) : Int := if c = 65 then 6 else if c = 66 then 7 else if c = 67 then 8 else if c = 68 then 9 else if c = 72 then 10 else if c = 70 then 11 else 0
theorem arrow_letter : ∀ j : Nat, 6 ≤ j → j ≤ 11 → arrowK (letterK j) = j ∧ letterK j ≠ 0 := by
  intro j h1 h2
  match j, h1, h2 with
  | 6, _, _ => decide
  | 7, _, _ => decide
  | 8, _, _ => decide
  | 9, _, _ => decide
  | 10, _, _ => decide
  | 11, _, _ => decide
theorem arrow_none {c : Nat} (h : ∀ j : Nat, 6 ≤ j → j ≤ 11 → letterK j ≠ c) : arrowK c = 0 := by
  have h6 := h 6 (by decide) (by decide)
  have h7 := h 7 (by decide) (by decide)
  have h8 := h 8 (by decide) (by decide)
  have h9 := h 9 (by decide) (by decide)
  have h10 := h 10 (by decide) (by decide)
  have h11 := h 11 (by decide) (by decide)
  have e6 : letterK (6 : Nat) = 65 := by decide
  have e7 : letterK (7 : Nat) = 66 := by decide
  have e8 : letterK (8 : Nat) = 67 := by decide
  have e9 : letterK (9 : Nat) = 68 := by decide
  have e10 : letterK (10 : Nat) = 72 := by decide
  have e11 : letterK (11 : Nat) = 70 := by decide
  unfold arrowK
  rw [if_neg (by omega), if_neg (by omega), if_neg (by omega), if_neg (by omega), if_neg (by omega), if_neg (by omega)]
/-- What a number ahead of ~ tells: kind and function. -/
def tildeK (n : Int) : Option (Int × Int) := if n = 5 then some (12, 0) else if n = 6 then some (13, 0) else if n = 3 then some (14, 0) else
  if n = 11 then some (15, 1) else if n = 12 then some (15, 2) else if n = 13 then some (15, 3) else if n = 14 then some (15, 4) else if n = 15 then some (15, 5) else if n = 17 then some (15, 6)
  else if n = 18 then some (15, 7) else if n = 19 then some (15, 8) else if n = 20 then some (15, 9) else if n = 21 then some (15, 10) else if n = 23 then some (15, 11) else if n = 24 then some (15, 12) else none
def okN (w : List UInt8) : Bool := isOk (Lib.atoiAll w)
def toldT (s w0 : List UInt8) (two : Bool) (last : UInt8) (held : Int) : Key × Bool :=
  if last.toNat = 90 ∧ s = [] then (⟨3, 0, 0, 1⟩, true)
  else if arrowK last.toNat ≠ 0 ∧ (s = [] ∨ (two = true ∧ Lib.trimLeftB w0 48 = [49])) then (⟨arrowK last.toNat, 0, 0, held⟩, true)
  else if last.toNat ≠ 126 then (keyZ, false)
  else if okN w0 = false then (keyZ, false)
  else match tildeK (cntV w0) with
    | some (k, n) => (⟨k, 0, n, held⟩, true)
    | none => (keyZ, false)
def toldK (s : List UInt8) (last : UInt8) : Key × Bool :=
  match splt 59 s with
  | [w0] => toldT s w0 false last 0
  | [w0, w1] => if okN w1 = true ∧ 1 ≤ cntV w1 ∧ cntV w1 ≤ 8 then toldT s w0 true last (cntV w1 - 1) else (keyZ, false)
  | _ => (keyZ, false)
/-- The plain key of a byte. -/
def plainK (c : UInt8) : Key :=
  if c.toNat = 9 then ⟨3, 0, 0, 0⟩ else if c.toNat = 13 then ⟨2, 0, 0, 0⟩ else if c.toNat = 127 ∨ c.toNat = 8 then ⟨4, 0, 0, 0⟩ else if c.toNat = 0 then ⟨1, 32, 0, 0⟩
  else if c.toNat ≤ 26 then ⟨1, c.toNat + 96, 0, 4⟩ else ⟨1, 63, 0, 0⟩
def isDg (c : UInt8) : Bool := (decide (48 ≤ c.toNat) && decide (c.toNat ≤ 57)) || decide (c.toNat = 59)
/-- Up to where numbers go. -/
def runK (b : List UInt8) : Nat := if b.getD 1 0 = 91 then 2 + (((b.drop 2).take 10).takeWhile isDg).length else 2
def seqK (b : List UInt8) (last : Bool) : Key × Nat :=
  if runK b = b.length ∧ last = false then (keyZ, 0)
  else if runK b < b.length ∧ (toldK ((b.take (runK b)).drop 2) (b.getD (runK b) 0)).2 = true ∧ (b.getD 1 0 = 91 ∨ letterK (toldK ((b.take (runK b)).drop 2) (b.getD (runK b) 0)).1.kind ≠ 0) then
    ((toldK ((b.take (runK b)).drop 2) (b.getD (runK b) 0)).1, runK b + 1)
  else (keyEsc, 1)
/-- The first key, where no ESC stands ahead. -/
def first0 (b : List UInt8) (last : Bool) : Key × Nat :=
  if (b.getD 0 0).toNat < 32 ∨ (b.getD 0 0).toNat = 127 then (plainK (b.getD 0 0), 1)
  else if fullL b = false ∧ last = false then (keyZ, 0)
  else (⟨1, if widthL (dec b).1 = 0 then 63 else (dec b).1, 0, 0⟩, (dec b).2)
def firstK (b : List UInt8) (last : Bool) : Key × Nat :=
  if (b.getD 0 0).toNat ≠ 27 then first0 b last
  else if b.length = 1 then (if last then (keyEsc, 1) else (keyZ, 0))
  else if (b.getD 1 0).toNat = 91 ∨ (b.getD 1 0).toNat = 79 then seqK b last
  else if (b.getD 1 0).toNat = 27 ∨ (b.getD 1 0).toNat = 9 then (keyEsc, 1)
  else if (first0 (b.drop 1) last).2 = 0 then ((first0 (b.drop 1) last).1, 0)
  else ({ (first0 (b.drop 1) last).1 with held := bitop .or .i64 (first0 (b.drop 1) last).1.held 2 }, (first0 (b.drop 1) last).2 + 1)
def readK (last : Bool) : Nat → List UInt8 → List Key × List UInt8
  | 0, b => ([], b)
  | n + 1, b =>
    if b = [] ∨ (firstK b last).2 = 0 then ([], b)
    else ((firstK b last).1 :: (readK last n (b.drop (firstK b last).2)).1, (readK last n (b.drop (firstK b last).2)).2)
/-! ### How many bytes a key takes -/
theorem run_le (b : List UInt8) (h : 2 ≤ b.length) : 2 ≤ runK b ∧ runK b ≤ b.length ∧ runK b ≤ 12 := by
  unfold runK
  split
  · have h1 : (((b.drop 2).take 10).takeWhile isDg).length ≤ ((b.drop 2).take 10).length := (List.takeWhile_prefix _).length_le
    rw [List.length_take, List.length_drop] at h1
    omega
  · omega
theorem first0_le {b : List UInt8} (hb : b ≠ []) (last : Bool) : (first0 b last).2 ≤ b.length ∧ (last = true → 1 ≤ (first0 b last).2) := by
  have h1 := dec_le b
  have h2 := dec_pos b hb
  have h3 : 1 ≤ b.length := List.length_pos_iff.2 hb
  unfold first0
  split
  · exact ⟨h3, fun _ => Nat.le_refl 1⟩
  · split
    · rename_i h
      exact ⟨Nat.zero_le _, fun hl => by rw [hl] at h; exact absurd h.2 (by decide)⟩
    · exact ⟨h1, fun _ => h2⟩
theorem first_le {b : List UInt8} (hb : b ≠ []) (last : Bool) : (firstK b last).2 ≤ b.length ∧ (last = true → 1 ≤ (firstK b last).2) := by
  have h0 := first0_le hb last
  have h3 : 1 ≤ b.length := List.length_pos_iff.2 hb
  unfold firstK
  split
  · exact h0
  · split
    · split
      · exact ⟨h3, fun _ => Nat.le_refl 1⟩
      · rename_i h
        exact ⟨Nat.zero_le _, fun hl => absurd hl h⟩
    · have h1 := run_le b (by omega)
      split
      · unfold seqK
        split
        · rename_i h
          exact ⟨Nat.zero_le _, fun hl => by rw [hl] at h; exact absurd h.2 (by decide)⟩
        · split
          · rename_i h
            exact ⟨h.1, fun _ => Nat.le_add_left _ _⟩
          · exact ⟨h3, fun _ => Nat.le_refl 1⟩
      · split
        · exact ⟨h3, fun _ => Nat.le_refl 1⟩
        · have h2 := first0_le (b := b.drop 1) (fun e => by have := congrArg List.length e; simp at this; omega) last
          rw [List.length_drop] at h2
          split
          · rename_i h
            exact ⟨Nat.zero_le _, fun hl => by have := h2.2 hl; omega⟩
          · exact ⟨by dsimp only; omega, fun _ => by dsimp only; omega⟩
end Go.Eng.YtimpfhokacfobaaDoor
end

/- Keys: what bytes tell (b_ x_ q_ e_). -/
section
namespace Go.Eng.YtimpfhokacfobaaDoor
open Go Go.Eng Go.Proofs
variable (W : World)
set_option linter.unusedSimpArgs false
set_option maxRecDepth 100000
set_option linter.unusedVariables false
set_option maxHeartbeats 4000000
theorem letter_ok (kind : Int) : Pure Tryd.prog W 54 [.int .i64 kind] (.int .u8 (letterK kind)) := by
  unfold letterK
  refine Pure.of (acalls_of_vc (drawOk W) Tryd.func54 rfl (by decide) (by decide) rfl ?_)
  refine wh ?_; repeat' (first | (refine brec ?_; intro c_ h_; (try rw [h_]); cases c_ <;> (first | replace h_ := of_decide_eq_true h_ | replace h_ := Decidable.not_not.1 (of_decide_eq_false h_) | replace h_ := of_decide_eq_false h_ | (replace h_ := Bool.eq_false_iff.1 h_; simp only [true_and, and_true, Bool.true_and, Bool.and_true, Bool.not_true, Bool.not_false, Bool.and_eq_true, Bool.not_eq_true, Bool.not_eq_false, Bool.or_eq_true, Bool.not_eq_true', Bool.not_eq_false', decide_eq_true_eq, decide_eq_false_iff_not, Decidable.not_not, ne_eq, beq_iff_eq] at h_) | simp only [true_and, and_true, Bool.true_and, Bool.and_true, Bool.not_true, Bool.not_false, Bool.and_eq_true, Bool.not_eq_true, Bool.not_eq_false, Bool.or_eq_true, Bool.not_eq_true', Bool.not_eq_false', decide_eq_true_eq, decide_eq_false_iff_not, Decidable.not_not, ne_eq, beq_iff_eq] at h_ | skip) <;> refine wh ?_) | ((first | refine CondC.part ?_ | (refine GuardC.part ?_; refine wh ?_; fail_if_success refine brec ?_) | (apply GuardC.sp; (case' h1 => (refine wh ?_; (repeat ((refine need.mk ?_ ?_; focus (first | with_reducible exact fun h => h | with_reducible exact not_of_false | exact fun _ => rfl | (intro h_; simp [h_]; done) | (intro h_; simp_all; done))); refine wh ?_)); exact trivial)); (case' h2 => (intro hg_; (refine wh ?_; repeat ((first | (apply RowAt.mk; (case' hl => (repeat (first | exact .here _ _ _ | apply Look.there | exact Look.fam (by assumption) _)))) | refine Fits.ok (by omega) (by omega) ?_ | (refine need.mk ?_ ?_; focus (first | (first | omega | exact wkMem.skip wkMem.rfl' | rfl | (simp; done) | (simp [cellsB, PV.flat, cellB]; done) | (simp <;> omega) | (simp only [true_and, and_true, Bool.true_and, Bool.and_true, Bool.not_true, Bool.not_false, Bool.and_eq_true, Bool.not_eq_true, Bool.not_eq_false, Bool.or_eq_true, Bool.not_eq_true', Bool.not_eq_false', decide_eq_true_eq, decide_eq_false_iff_not, Decidable.not_not, ne_eq, beq_iff_eq]; omega) | (rw [Bool.eq_false_iff]; simp only [true_and, and_true, Bool.true_and, Bool.and_true, Bool.not_true, Bool.not_false, Bool.and_eq_true, Bool.not_eq_true, Bool.not_eq_false, Bool.or_eq_true, Bool.not_eq_true', Bool.not_eq_false', decide_eq_true_eq, decide_eq_false_iff_not, Decidable.not_not, ne_eq, beq_iff_eq]; omega)) | (simp at hg_; omega) | (intros; simp_all; done) | (intros; simp_all; omega))) | (refine New1.mk fun b_ hb_ => ?_; clear hb_) | (refine New2.mk fun b_ hb_ => ?_; clear hb_) | (refine Nat1.mk fun q_ hq_ => ?_; (first | (obtain rfl := Int.ofNat.inj hq_; clear hq_) | skip)) | refine at_known (by assumption) ?_ | (refine Elem1.mk fun e_ he_ => ?_; (first | (obtain ⟨x_, hx_, rfl⟩ := getMap he_; clear he_) | (obtain rfl := Option.some.inj he_; clear he_) | skip)) | (refine Lst1.mk fun s_ hs_ => ?_; (try simp only [List.take_length, List.drop_zero, ← List.map_take, ← List.map_drop] at hs_); subst hs_)); refine wh ?_)); refine And.intro ?_ rfl; exact Eq.refl _))) | refine GuardC.part ?_ | (refine needO.mk ?_ ?_; focus (refine wh ?_; (repeat ((refine need.mk ?_ ?_; focus (first | with_reducible exact fun h => h | with_reducible exact not_of_false | exact fun _ => rfl | (intro h_; simp [h_]; done) | (intro h_; simp_all; done))); refine wh ?_)); exact trivial)) | with_reducible refine need.mk (fun h => h) ?_ | with_reducible refine need.mk not_of_false ?_ | (apply RowAt.mk; (case' hl => (repeat (first | exact .here _ _ _ | apply Look.there | exact Look.fam (by assumption) _)))) | refine Fits.ok (by omega) (by omega) ?_ | (refine need.mk ?_ ?_; focus (first | omega | exact wkMem.skip wkMem.rfl' | rfl | (simp; done) | (simp [cellsB, PV.flat, cellB]; done) | (simp <;> omega) | (simp only [true_and, and_true, Bool.true_and, Bool.and_true, Bool.not_true, Bool.not_false, Bool.and_eq_true, Bool.not_eq_true, Bool.not_eq_false, Bool.or_eq_true, Bool.not_eq_true', Bool.not_eq_false', decide_eq_true_eq, decide_eq_false_iff_not, Decidable.not_not, ne_eq, beq_iff_eq]; omega) | (rw [Bool.eq_false_iff]; simp only [true_and, and_true, Bool.true_and, Bool.and_true, Bool.not_true, Bool.not_false, Bool.and_eq_true, Bool.not_eq_true, Bool.not_eq_false, Bool.or_eq_true, Bool.not_eq_true', Bool.not_eq_false', decide_eq_true_eq, decide_eq_false_iff_not, Decidable.not_not, ne_eq, beq_iff_eq]; omega))) | (refine New1.mk fun b_ hb_ => ?_; clear hb_) | (refine New2.mk fun b_ hb_ => ?_; clear hb_) | (refine Nat1.mk fun q_ hq_ => ?_; (first | (obtain rfl := Int.ofNat.inj hq_; clear hq_) | skip)) | refine at_known (by assumption) ?_ | (refine Elem1.mk fun e_ he_ => ?_; (first | (obtain ⟨x_, hx_, rfl⟩ := getMap he_; clear he_) | (obtain rfl := Option.some.inj he_; clear he_) | skip)) | (refine Lst1.mk fun s_ hs_ => ?_; (try simp only [List.take_length, List.drop_zero, ← List.map_take, ← List.map_drop] at hs_); subst hs_)); refine wh ?_) | (((refine Frz.of_eq ?_; (conv => lhs; whnf)); simp [*]; try rfl); done))
theorem number_ok (k : Key) (h : k.kind = 15 → 0 ≤ k.n ∧ k.n ≤ 12) : Pure Tryd.prog W 55 [encKey k] (.int .i64 (numberK k)) := by
  obtain ⟨kind, r, n, held⟩ := k
  dsimp only at h
  by_cases h15 : kind = 15
  · have hb := h h15
    subst h15
    rcases (by omega : n = 0 ∨ n = 1 ∨ n = 2 ∨ n = 3 ∨ n = 4 ∨ n = 5 ∨ n = 6 ∨ n = 7 ∨ n = 8 ∨ n = 9 ∨ n = 10 ∨ n = 11 ∨ n = 12) with rfl | rfl | rfl | rfl | rfl | rfl | rfl | rfl | rfl | rfl | rfl | rfl | rfl
    all_goals
      refine Pure.of (acalls_of_vc (drawOk W) Tryd.func55 rfl (by decide) (by decide) rfl ?_)
      (refine g0_ ?_; repeat ((first | refine n1_ fun b_ => ?_ | refine n2_ fun b_ => ?_ | refine Nat1.mk fun q_ hq_ => ?_ | refine em_ fun x_ hx_ => ?_ | refine Elem1.mk fun e_ he_ => ?_); refine g0_ ?_))
      refine .inl ?_
      (refine g0_ ?_; repeat ((first | refine n1_ fun b_ => ?_ | refine n2_ fun b_ => ?_ | refine Nat1.mk fun q_ hq_ => ?_ | refine em_ fun x_ hx_ => ?_ | refine Elem1.mk fun e_ he_ => ?_); refine g0_ ?_))
      exact .refl _
  · unfold numberK encKey
    dsimp only
    refine Pure.of (acalls_of_vc (drawOk W) Tryd.func55 rfl (by decide) (by decide) rfl ?_)
    refine wh ?_; repeat' (first | (refine brec ?_; intro c_ h_; (try rw [h_]); cases c_ <;> (first | replace h_ := of_decide_eq_true h_ | replace h_ := Decidable.not_not.1 (of_decide_eq_false h_) | replace h_ := of_decide_eq_false h_ | (replace h_ := Bool.eq_false_iff.1 h_; simp only [true_and, and_true, Bool.true_and, Bool.and_true, Bool.not_true, Bool.not_false, Bool.and_eq_true, Bool.not_eq_true, Bool.not_eq_false, Bool.or_eq_true, Bool.not_eq_true', Bool.not_eq_false', decide_eq_true_eq, decide_eq_false_iff_not, Decidable.not_not, ne_eq, beq_iff_eq] at h_) | simp only [true_and, and_true, Bool.true_and, Bool.and_true, Bool.not_true, Bool.not_false, Bool.and_eq_true, Bool.not_eq_true, Bool.not_eq_false, Bool.or_eq_true, Bool.not_eq_true', Bool.not_eq_false', decide_eq_true_eq, decide_eq_false_iff_not, Decidable.not_not, ne_eq, beq_iff_eq] at h_ | skip) <;> refine wh ?_) | ((first | refine CondC.part ?_ | (refine GuardC.part ?_; refine wh ?_; fail_if_success refine brec ?_) | (apply GuardC.sp; (case' h1 => (refine wh ?_; (repeat ((refine need.mk ?_ ?_; focus (first | with_reducible exact fun h => h | with_reducible exact not_of_false | exact fun _ => rfl | (intro h_; simp [h_]; done) | (intro h_; simp_all; done))); refine wh ?_)); exact trivial)); (case' h2 => (intro hg_; (refine wh ?_; repeat ((first | (apply RowAt.mk; (case' hl => (repeat (first | exact .here _ _ _ | apply Look.there | exact Look.fam (by assumption) _)))) | refine Fits.ok (by omega) (by omega) ?_ | (refine need.mk ?_ ?_; focus (first | (first | omega | exact wkMem.skip wkMem.rfl' | rfl | (simp; done) | (simp [cellsB, PV.flat, cellB]; done) | (simp <;> omega) | (simp only [true_and, and_true, Bool.true_and, Bool.and_true, Bool.not_true, Bool.not_false, Bool.and_eq_true, Bool.not_eq_true, Bool.not_eq_false, Bool.or_eq_true, Bool.not_eq_true', Bool.not_eq_false', decide_eq_true_eq, decide_eq_false_iff_not, Decidable.not_not, ne_eq, beq_iff_eq]; omega) | (rw [Bool.eq_false_iff]; simp only [true_and, and_true, Bool.true_and, Bool.and_true, Bool.not_true, Bool.not_false, Bool.and_eq_true, Bool.not_eq_true, Bool.not_eq_false, Bool.or_eq_true, Bool.not_eq_true', Bool.not_eq_false', decide_eq_true_eq, decide_eq_false_iff_not, Decidable.not_not, ne_eq, beq_iff_eq]; omega)) | (simp at hg_; omega) | (intros; simp_all; done) | (intros; simp_all; omega))) | (refine New1.mk fun b_ hb_ => ?_; clear hb_) | (refine New2.mk fun b_ hb_ => ?_; clear hb_) | (refine Nat1.mk fun q_ hq_ => ?_; (first | (obtain rfl := Int.ofNat.inj hq_; clear hq_) | skip)) | refine at_known (by assumption) ?_ | (refine Elem1.mk fun e_ he_ => ?_; (first | (obtain ⟨x_, hx_, rfl⟩ := getMap he_; clear he_) | (obtain rfl := Option.some.inj he_; clear he_) | skip)) | (refine Lst1.mk fun s_ hs_ => ?_; (try simp only [List.take_length, List.drop_zero, ← List.map_take, ← List.map_drop] at hs_); subst hs_)); refine wh ?_)); refine And.intro ?_ rfl; exact Eq.refl _))) | refine GuardC.part ?_ | (refine needO.mk ?_ ?_; focus (refine wh ?_; (repeat ((refine need.mk ?_ ?_; focus (first | with_reducible exact fun h => h | with_reducible exact not_of_false | exact fun _ => rfl | (intro h_; simp [h_]; done) | (intro h_; simp_all; done))); refine wh ?_)); exact trivial)) | with_reducible refine need.mk (fun h => h) ?_ | with_reducible refine need.mk not_of_false ?_ | (apply RowAt.mk; (case' hl => (repeat (first | exact .here _ _ _ | apply Look.there | exact Look.fam (by assumption) _)))) | refine Fits.ok (by omega) (by omega) ?_ | (refine need.mk ?_ ?_; focus (first | omega | exact wkMem.skip wkMem.rfl' | rfl | (simp; done) | (simp [cellsB, PV.flat, cellB]; done) | (simp <;> omega) | (simp only [true_and, and_true, Bool.true_and, Bool.and_true, Bool.not_true, Bool.not_false, Bool.and_eq_true, Bool.not_eq_true, Bool.not_eq_false, Bool.or_eq_true, Bool.not_eq_true', Bool.not_eq_false', decide_eq_true_eq, decide_eq_false_iff_not, Decidable.not_not, ne_eq, beq_iff_eq]; omega) | (rw [Bool.eq_false_iff]; simp only [true_and, and_true, Bool.true_and, Bool.and_true, Bool.not_true, Bool.not_false, Bool.and_eq_true, Bool.not_eq_true, Bool.not_eq_false, Bool.or_eq_true, Bool.not_eq_true', Bool.not_eq_false', decide_eq_true_eq, decide_eq_false_iff_not, Decidable.not_not, ne_eq, beq_iff_eq]; omega))) | (refine New1.mk fun b_ hb_ => ?_; clear hb_) | (refine New2.mk fun b_ hb_ => ?_; clear hb_) | (refine Nat1.mk fun q_ hq_ => ?_; (first | (obtain rfl := Int.ofNat.inj hq_; clear hq_) | skip)) | refine at_known (by assumption) ?_ | (refine Elem1.mk fun e_ he_ => ?_; (first | (obtain ⟨x_, hx_, rfl⟩ := getMap he_; clear he_) | (obtain rfl := Option.some.inj he_; clear he_) | skip)) | (refine Lst1.mk fun s_ hs_ => ?_; (try simp only [List.take_length, List.drop_zero, ← List.map_take, ← List.map_drop] at hs_); subst hs_)); refine wh ?_) | ((first | exact absurd h_ h15 | ((refine Frz.of_eq ?_; (conv => lhs; whnf)); simp [*])); done))
theorem trimLeft_ok (s : List UInt8) : Pure Tryd.prog W 76 [.str s, .str [48]] (.str (Lib.trimLeftB s 48)) :=
  Pure.of_below Tryd.func76 rfl (by decide) rfl rfl fun w _ hw => (Tryd.strings_TrimLeft_one ⟨s.toArray⟩ 48 (by decide) w).mono fun _ _ h => ⟨h.1, h.2 ▸ RowKit.Below.refl _ _⟩
theorem plain_okK (c : UInt8) : Pure Tryd.prog W 48 [.int .u8 c.toNat] (encKey (plainK c)) := by
  have hc := c.toNat_lt
  unfold plainK
  by_cases h1 : c.toNat = 9
  · rw [if_pos h1]
    refine Pure.of (acalls_of_vc (drawOk W) Tryd.func48 rfl (by decide) (by decide) rfl ?_)
    (refine g0_ ?_; repeat ((first | refine n1_ fun b_ => ?_ | refine n2_ fun b_ => ?_ | refine Nat1.mk fun q_ hq_ => ?_ | refine em_ fun x_ hx_ => ?_ | refine Elem1.mk fun e_ he_ => ?_); refine g0_ ?_))
    (refine g1_ ?_; repeat ((first | refine n1_ fun b_ => ?_ | refine n2_ fun b_ => ?_ | refine Nat1.mk fun q_ hq_ => ?_ | refine em_ fun x_ hx_ => ?_ | refine Elem1.mk fun e_ he_ => ?_); refine g1_ ?_))
    exact .refl _
  · rw [if_neg h1]
    by_cases h2 : c.toNat = 13
    · rw [if_pos h2]
      refine Pure.of (acalls_of_vc (drawOk W) Tryd.func48 rfl (by decide) (by decide) rfl ?_)
      (refine g0_ ?_; repeat ((first | refine n1_ fun b_ => ?_ | refine n2_ fun b_ => ?_ | refine Nat1.mk fun q_ hq_ => ?_ | refine em_ fun x_ hx_ => ?_ | refine Elem1.mk fun e_ he_ => ?_); refine g0_ ?_))
      (refine g1_ ?_; repeat ((first | refine n1_ fun b_ => ?_ | refine n2_ fun b_ => ?_ | refine Nat1.mk fun q_ hq_ => ?_ | refine em_ fun x_ hx_ => ?_ | refine Elem1.mk fun e_ he_ => ?_); refine g1_ ?_))
      exact .refl _
    · rw [if_neg h2]
      by_cases h3 : c.toNat = 127
      · rw [if_pos (.inl h3)]
        refine Pure.of (acalls_of_vc (drawOk W) Tryd.func48 rfl (by decide) (by decide) rfl ?_)
        (refine g0_ ?_; repeat ((first | refine n1_ fun b_ => ?_ | refine n2_ fun b_ => ?_ | refine Nat1.mk fun q_ hq_ => ?_ | refine em_ fun x_ hx_ => ?_ | refine Elem1.mk fun e_ he_ => ?_); refine g0_ ?_))
        (refine g1_ ?_; repeat ((first | refine n1_ fun b_ => ?_ | refine n2_ fun b_ => ?_ | refine Nat1.mk fun q_ hq_ => ?_ | refine em_ fun x_ hx_ => ?_ | refine Elem1.mk fun e_ he_ => ?_); refine g1_ ?_))
        exact .refl _
      · by_cases h4 : c.toNat = 8
        · rw [if_pos (.inr h4)]
          refine Pure.of (acalls_of_vc (drawOk W) Tryd.func48 rfl (by decide) (by decide) rfl ?_)
          (refine g0_ ?_; repeat ((first | refine n1_ fun b_ => ?_ | refine n2_ fun b_ => ?_ | refine Nat1.mk fun q_ hq_ => ?_ | refine em_ fun x_ hx_ => ?_ | refine Elem1.mk fun e_ he_ => ?_); refine g0_ ?_))
          (refine g1_ ?_; repeat ((first | refine n1_ fun b_ => ?_ | refine n2_ fun b_ => ?_ | refine Nat1.mk fun q_ hq_ => ?_ | refine em_ fun x_ hx_ => ?_ | refine Elem1.mk fun e_ he_ => ?_); refine g1_ ?_))
          exact .refl _
        · rw [if_neg (by omega)]
          by_cases h5 : c.toNat = 0
          · rw [if_pos h5]
            refine Pure.of (acalls_of_vc (drawOk W) Tryd.func48 rfl (by decide) (by decide) rfl ?_)
            (refine g0_ ?_; repeat ((first | refine n1_ fun b_ => ?_ | refine n2_ fun b_ => ?_ | refine Nat1.mk fun q_ hq_ => ?_ | refine em_ fun x_ hx_ => ?_ | refine Elem1.mk fun e_ he_ => ?_); refine g0_ ?_))
            (refine g1_ ?_; repeat ((first | refine n1_ fun b_ => ?_ | refine n2_ fun b_ => ?_ | refine Nat1.mk fun q_ hq_ => ?_ | refine em_ fun x_ hx_ => ?_ | refine Elem1.mk fun e_ he_ => ?_); refine g1_ ?_))
            exact .refl _
          · rw [if_neg h5]
            by_cases h6 : c.toNat ≤ 26
            · rw [if_pos h6]
              refine Pure.of (acalls_of_vc (drawOk W) Tryd.func48 rfl (by decide) (by decide) rfl ?_)
              (refine g0_ ?_; repeat ((first | refine n1_ fun b_ => ?_ | refine n2_ fun b_ => ?_ | refine Nat1.mk fun q_ hq_ => ?_ | refine em_ fun x_ hx_ => ?_ | refine Elem1.mk fun e_ he_ => ?_); refine g0_ ?_))
              (refine g1_ ?_; repeat ((first | refine n1_ fun b_ => ?_ | refine n2_ fun b_ => ?_ | refine Nat1.mk fun q_ hq_ => ?_ | refine em_ fun x_ hx_ => ?_ | refine Elem1.mk fun e_ he_ => ?_); refine g1_ ?_))
              rw [show (97 : Int) + c.toNat - 1 = c.toNat + 96 by omega]
              exact .refl _
            · rw [if_neg h6]
              refine Pure.of (acalls_of_vc (drawOk W) Tryd.func48 rfl (by decide) (by decide) rfl ?_)
              (refine g0_ ?_; repeat ((first | refine n1_ fun b_ => ?_ | refine n2_ fun b_ => ?_ | refine Nat1.mk fun q_ hq_ => ?_ | refine em_ fun x_ hx_ => ?_ | refine Elem1.mk fun e_ he_ => ?_); refine g0_ ?_))
              (refine g1_ ?_; repeat ((first | refine n1_ fun b_ => ?_ | refine n2_ fun b_ => ?_ | refine Nat1.mk fun q_ hq_ => ?_ | refine em_ fun x_ hx_ => ?_ | refine Elem1.mk fun e_ he_ => ?_); refine g1_ ?_))
              exact .refl _
end Go.Eng.YtimpfhokacfobaaDoor
end

/- Keys: told by numbers and a last byte (b_ x_ q_ e_). -/
section
namespace Go.Eng.YtimpfhokacfobaaDoor
open Go Go.Eng Go.Proofs
variable (W : World)
set_option linter.unusedSimpArgs false
set_option maxRecDepth 100000
set_option linter.unusedVariables false
set_option maxHeartbeats 8000000
theorem tilde_kind {n : Int} : ∀ j : Nat, 12 ≤ j → j ≤ 14 → numberK ⟨j, 0, 0, 0⟩ = n → tildeK n = some ((j : Int), 0) ∧ n ≠ 0
  | 12, _, _, h => by subst h; decide
  | 13, _, _, h => by subst h; decide
  | 14, _, _, h => by subst h; decide
theorem tilde_fun {n : Int} : ∀ f : Nat, 1 ≤ f → f ≤ 12 → numberK ⟨15, 0, f, 0⟩ = n → tildeK n = some (15, (f : Int))
  | 1, _, _, h => by subst h; decide
  | 2, _, _, h => by subst h; decide
  | 3, _, _, h => by subst h; decide
  | 4, _, _, h => by subst h; decide
  | 5, _, _, h => by subst h; decide
  | 6, _, _, h => by subst h; decide
  | 7, _, _, h => by subst h; decide
  | 8, _, _, h => by subst h; decide
  | 9, _, _, h => by subst h; decide
  | 10, _, _, h => by subst h; decide
  | 11, _, _, h => by subst h; decide
  | 12, _, _, h => by subst h; decide
theorem tilde_none {n : Int} (h1 : ∀ j : Nat, 12 ≤ j → j < 15 → numberK ⟨j, 0, 0, 0⟩ ≠ n) (h2 : ∀ f : Nat, 1 ≤ f → f < 13 → numberK ⟨15, 0, f, 0⟩ ≠ n) : tildeK n = none := by
  have a12 := h1 12 (by decide) (by decide)
  have a13 := h1 13 (by decide) (by decide)
  have a14 := h1 14 (by decide) (by decide)
  have b1 := h2 1 (by decide) (by decide)
  have b2 := h2 2 (by decide) (by decide)
  have b3 := h2 3 (by decide) (by decide)
  have b4 := h2 4 (by decide) (by decide)
  have b5 := h2 5 (by decide) (by decide)
  have b6 := h2 6 (by decide) (by decide)
  have b7 := h2 7 (by decide) (by decide)
  have b8 := h2 8 (by decide) (by decide)
  have b9 := h2 9 (by decide) (by decide)
  have b10 := h2 10 (by decide) (by decide)
  have b11 := h2 11 (by decide) (by decide)
  have b12 := h2 12 (by decide) (by decide)
  have e12 : numberK ⟨(12 : Nat), 0, 0, 0⟩ = 5 := by decide
  have e13 : numberK ⟨(13 : Nat), 0, 0, 0⟩ = 6 := by decide
  have e14 : numberK ⟨(14 : Nat), 0, 0, 0⟩ = 3 := by decide
  have f1 : numberK ⟨15, 0, (1 : Nat), 0⟩ = 11 := by decide
  have f2 : numberK ⟨15, 0, (2 : Nat), 0⟩ = 12 := by decide
  have f3 : numberK ⟨15, 0, (3 : Nat), 0⟩ = 13 := by decide
  have f4 : numberK ⟨15, 0, (4 : Nat), 0⟩ = 14 := by decide
  have f5 : numberK ⟨15, 0, (5 : Nat), 0⟩ = 15 := by decide
  have f6 : numberK ⟨15, 0, (6 : Nat), 0⟩ = 17 := by decide
  have f7 : numberK ⟨15, 0, (7 : Nat), 0⟩ = 18 := by decide
  have f8 : numberK ⟨15, 0, (8 : Nat), 0⟩ = 19 := by decide
  have f9 : numberK ⟨15, 0, (9 : Nat), 0⟩ = 20 := by decide
  have f10 : numberK ⟨15, 0, (10 : Nat), 0⟩ = 21 := by decide
  have f11 : numberK ⟨15, 0, (11 : Nat), 0⟩ = 23 := by decide
  have f12 : numberK ⟨15, 0, (12 : Nat), 0⟩ = 24 := by decide
  rw [e12] at a12
  rw [e13] at a13
  rw [e14] at a14
  rw [f1] at b1
  rw [f2] at b2
  rw [f3] at b3
  rw [f4] at b4
  rw [f5] at b5
  rw [f6] at b6
  rw [f7] at b7
  rw [f8] at b8
  rw [f9] at b9
  rw [f10] at b10
  rw [f11] at b11
  rw [f12] at b12
  unfold tildeK
  rw [if_neg (Ne.symm a12), if_neg (Ne.symm a13), if_neg (Ne.symm a14), if_neg (Ne.symm b1), if_neg (Ne.symm b2), if_neg (Ne.symm b3), if_neg (Ne.symm b4), if_neg (Ne.symm b5), if_neg (Ne.symm b6), if_neg (Ne.symm b7), if_neg (Ne.symm b8), if_neg (Ne.symm b9), if_neg (Ne.symm b10), if_neg (Ne.symm b11), if_neg (Ne.symm b12)]
theorem frz_kb {σ : Mem} {b : Bool} : Frz σ (.tup [.agg [.int .i64 0, .int .i32 0, .int .i64 0, .int .i64 0], .bool b]) (.tup [encKey keyZ, .bool b]) := .refl _
theorem told_ok (hM : MaxJ W) (hE : ErrJ W) (s : List UInt8) (hs : s.length ≤ 4096) (last : UInt8) : Pure Tryd.prog W 66 [.str s, .int .u8 last.toNat] (.tup [encKey (toldK s last).1, .bool (toldK s last).2]) := by
  have hsp := split_ok W hM s 59 (by omega)
  have hlen := splt_len 59 s
  have hne := splt_ne 59 s
  have hlt := letter_ok W
  have hnil : s = [] → splt 59 s = [[]] := fun h => by subst h; rfl
  unfold toldK
  generalize splt 59 s = w at *
  obtain ⟨w0, ws, rfl⟩ : ∃ a l, w = a :: l := List.exists_cons_of_ne_nil hne
  have hl0 := hlen w0 (by simp)
  have ha0 := atoi_ok W hE w0 (by omega)
  rw [show errP (isOk (Lib.atoiAll w0)) = errP (okN w0) from rfl] at ha0
  have htr := trimLeft_ok W w0
  rcases ws with _ | ⟨w1, _ | ⟨w2, ws⟩⟩
  · dsimp only
    unfold toldT
    by_cases hsn : s = []
    · subst hsn
      by_cases hz : last.toNat = 90
      · rw [if_pos ⟨hz, rfl⟩]
        refine Pure.of (acalls_of_vc (drawOk W) Tryd.func66 rfl (by decide) (by decide) rfl ?_)
        (refine g0_ ?_; repeat ((first | refine n1_ fun b_ => ?_ | refine n2_ fun b_ => ?_ | refine Nat1.mk fun q_ hq_ => ?_ | refine em_ fun x_ hx_ => ?_ | refine Elem1.mk fun e_ he_ => ?_); refine g0_ ?_))
        refine (hsp).use ?_; (refine g0_ ?_; repeat ((first | refine n1_ fun b_ => ?_ | refine n2_ fun b_ => ?_ | refine Nat1.mk fun q_ hq_ => ?_ | refine em_ fun x_ hx_ => ?_ | refine Elem1.mk fun e_ he_ => ?_); refine g0_ ?_))
        (refine g1_ ?_; repeat ((first | refine n1_ fun b_ => ?_ | refine n2_ fun b_ => ?_ | refine Nat1.mk fun q_ hq_ => ?_ | refine em_ fun x_ hx_ => ?_ | refine Elem1.mk fun e_ he_ => ?_); refine g1_ ?_))
        exact .refl _
      · rw [if_neg fun h => hz h.1]
        have hC : (([] : List UInt8) = [] ∨ (false = true ∧ Lib.trimLeftB w0 48 = [49])) ↔ True := by simp
        refine Pure.of (acalls_of_vc (drawOk W) Tryd.func66 rfl (by decide) (by decide) rfl ?_)
        (refine g0_ ?_; repeat ((first | refine n1_ fun b_ => ?_ | refine n2_ fun b_ => ?_ | refine Nat1.mk fun q_ hq_ => ?_ | refine em_ fun x_ hx_ => ?_ | refine Elem1.mk fun e_ he_ => ?_); refine g0_ ?_))
        refine (hsp).use ?_; (refine g0_ ?_; repeat ((first | refine n1_ fun b_ => ?_ | refine n2_ fun b_ => ?_ | refine Nat1.mk fun q_ hq_ => ?_ | refine em_ fun x_ hx_ => ?_ | refine Elem1.mk fun e_ he_ => ?_); refine g0_ ?_))
        (refine g1_ ?_; repeat ((first | refine n1_ fun b_ => ?_ | refine n2_ fun b_ => ?_ | refine Nat1.mk fun q_ hq_ => ?_ | refine em_ fun x_ hx_ => ?_ | refine Elem1.mk fun e_ he_ => ?_); refine g1_ ?_))
        have hC' := hC
        generalize hCd : True = C at hC
        clear hnil hC' hne hlen
        obtain ⟨bz, rfl⟩ : ∃ z, z = b_ := ⟨_, rfl⟩
        refine' loopI (α := Nat) (fun j => [(10, .int .i64 j)]) [(0, _), (1, _), (4, _), (6, _), (7, _)] (fun j => [⟨bz, .row 4 [.agg [.int .i64 0, .int .i32 0, .int .i64 0, .int .i64 0]] 0⟩]) (fun j => (6 ≤ j ∧ j ≤ 12) ∧ ∀ i : Nat, 6 ≤ i → i < j → ¬ (letterK i = last.toNat ∧ C)) (fun j => 12 - j) 6 ?_ ?_
        · exact ⟨by decide, fun i h1 h2 => by omega⟩
        rintro j ⟨hj, hno⟩
        (refine g0_ ?_; repeat ((first | refine n1_ fun b_ => ?_ | refine n2_ fun b_ => ?_ | refine Nat1.mk fun q_ hq_ => ?_ | refine em_ fun x_ hx_ => ?_ | refine Elem1.mk fun e_ he_ => ?_); refine g0_ ?_))
        refine brec ?_; intro c_ hjt; (try rw [hjt]); cases c_ <;> replace hjt := nm_ hjt
        · have : j = 12 := by omega
          subst this
          have hna : ¬ (arrowK last.toNat ≠ 0 ∧ C) := fun h => h.1 (arrow_none fun i h1 h2 => fun h3 => hno i h1 (by omega) ⟨h3, h.2⟩)
          rw [if_neg fun h => hna ⟨h.1, hC.1 h.2⟩]
          (refine g0_ ?_; repeat ((first | refine n1_ fun b_ => ?_ | refine n2_ fun b_ => ?_ | refine Nat1.mk fun q_ hq_ => ?_ | refine em_ fun x_ hx_ => ?_ | refine Elem1.mk fun e_ he_ => ?_); refine g0_ ?_))
          refine brec ?_; intro c_ h126; (try rw [h126]); cases c_ <;> replace h126 := nm_ h126
          · rw [if_neg (by omega)]
            cases hk0 : okN w0 with
            | false =>
              rw [hk0] at ha0
              unfold errP at ha0
              rw [if_neg (by decide)] at ha0
              rw [if_pos rfl]
              (refine g0_ ?_; repeat ((first | refine n1_ fun b_ => ?_ | refine n2_ fun b_ => ?_ | refine Nat1.mk fun q_ hq_ => ?_ | refine em_ fun x_ hx_ => ?_ | refine Elem1.mk fun e_ he_ => ?_); refine g0_ ?_))
              refine (ha0).use ?_; (refine g0_ ?_; repeat ((first | refine n1_ fun b_ => ?_ | refine n2_ fun b_ => ?_ | refine Nat1.mk fun q_ hq_ => ?_ | refine em_ fun x_ hx_ => ?_ | refine Elem1.mk fun e_ he_ => ?_); refine g0_ ?_))
              refine ⟨_, neq_held (by kernel_rfl), ?_⟩
              (refine g1_ ?_; repeat ((first | refine n1_ fun b_ => ?_ | refine n2_ fun b_ => ?_ | refine Nat1.mk fun q_ hq_ => ?_ | refine em_ fun x_ hx_ => ?_ | refine Elem1.mk fun e_ he_ => ?_); refine g1_ ?_))
              exact .refl _
            | true =>
              rw [hk0] at ha0
              unfold errP at ha0
              rw [if_pos rfl] at ha0
              rw [if_neg (by decide)]
              have hbd0 := cntV_i64 w0
              unfold i64ok at hbd0
              generalize cntV w0 = v0 at *
              (refine g0_ ?_; repeat ((first | refine n1_ fun b_ => ?_ | refine n2_ fun b_ => ?_ | refine Nat1.mk fun q_ hq_ => ?_ | refine em_ fun x_ hx_ => ?_ | refine Elem1.mk fun e_ he_ => ?_); refine g0_ ?_))
              refine (ha0).use ?_; (refine g0_ ?_; repeat ((first | refine n1_ fun b_ => ?_ | refine n2_ fun b_ => ?_ | refine Nat1.mk fun q_ hq_ => ?_ | refine em_ fun x_ hx_ => ?_ | refine Elem1.mk fun e_ he_ => ?_); refine g0_ ?_))
              refine ⟨_, neq_nil0 (by kernel_rfl), ?_⟩
              (refine g1_ ?_; repeat ((first | refine n1_ fun b_ => ?_ | refine n2_ fun b_ => ?_ | refine Nat1.mk fun q_ hq_ => ?_ | refine em_ fun x_ hx_ => ?_ | refine Elem1.mk fun e_ he_ => ?_); refine g1_ ?_))
              refine' loopI (α := Nat) (fun j => [(13, .int .i64 j)]) [(4, _), (7, _), (11, _)] (fun j => [⟨bz, .row 4 [.agg [.int .i64 0, .int .i32 0, .int .i64 0, .int .i64 0]] 0⟩]) (fun j => (12 ≤ j ∧ j ≤ 15) ∧ ∀ i : Nat, 12 ≤ i → i < j → numberK ⟨i, 0, 0, 0⟩ ≠ v0) (fun j => 15 - j) 12 ?_ ?_
              · exact ⟨by decide, fun i h1 h2 => by omega⟩
              rintro j ⟨hj, hno⟩
              (refine g0_ ?_; repeat ((first | refine n1_ fun b_ => ?_ | refine n2_ fun b_ => ?_ | refine Nat1.mk fun q_ hq_ => ?_ | refine em_ fun x_ hx_ => ?_ | refine Elem1.mk fun e_ he_ => ?_); refine g0_ ?_))
              refine brec ?_; intro c_ hjt; (try rw [hjt]); cases c_ <;> replace hjt := nm_ hjt
              · have : j = 15 := by omega
                subst this
                (refine g0_ ?_; repeat ((first | refine n1_ fun b_ => ?_ | refine n2_ fun b_ => ?_ | refine Nat1.mk fun q_ hq_ => ?_ | refine em_ fun x_ hx_ => ?_ | refine Elem1.mk fun e_ he_ => ?_); refine g0_ ?_))
                refine' loopI (α := Nat) (fun f => [(14, .int .i64 f)]) [(4, _), (7, _), (11, _)] (fun f => [⟨bz, .row 4 [.agg [.int .i64 0, .int .i32 0, .int .i64 0, .int .i64 0]] 0⟩]) (fun f => (1 ≤ f ∧ f ≤ 13) ∧ ∀ i : Nat, 1 ≤ i → i < f → numberK ⟨15, 0, i, 0⟩ ≠ v0) (fun f => 13 - f) 1 ?_ ?_
                · exact ⟨by decide, fun i h1 h2 => by omega⟩
                rintro f ⟨hf, hnf⟩
                (refine g0_ ?_; repeat ((first | refine n1_ fun b_ => ?_ | refine n2_ fun b_ => ?_ | refine Nat1.mk fun q_ hq_ => ?_ | refine em_ fun x_ hx_ => ?_ | refine Elem1.mk fun e_ he_ => ?_); refine g0_ ?_))
                refine brec ?_; intro c_ hft; (try rw [hft]); cases c_ <;> replace hft := nm_ hft
                · have : f = 13 := by omega
                  subst this
                  rw [tilde_none hno hnf]
                  (refine g0_ ?_; repeat ((first | refine n1_ fun b_ => ?_ | refine n2_ fun b_ => ?_ | refine Nat1.mk fun q_ hq_ => ?_ | refine em_ fun x_ hx_ => ?_ | refine Elem1.mk fun e_ he_ => ?_); refine g0_ ?_))
                  exact .refl _
                · have hnu := number_ok W ⟨15, 0, f, 0⟩ (fun _ => by dsimp only; omega)
                  by_cases hq : numberK ⟨15, 0, f, 0⟩ = v0
                  · rw [tilde_fun f (by omega) (by omega) hq]
                    (refine g0_ ?_; repeat ((first | refine n1_ fun b_ => ?_ | refine n2_ fun b_ => ?_ | refine Nat1.mk fun q_ hq_ => ?_ | refine em_ fun x_ hx_ => ?_ | refine Elem1.mk fun e_ he_ => ?_); refine g0_ ?_))
                    refine (hnu).use ?_; (refine g0_ ?_; repeat ((first | refine n1_ fun b_ => ?_ | refine n2_ fun b_ => ?_ | refine Nat1.mk fun q_ hq_ => ?_ | refine em_ fun x_ hx_ => ?_ | refine Elem1.mk fun e_ he_ => ?_); refine g0_ ?_))
                    (refine g1_ ?_; repeat ((first | refine n1_ fun b_ => ?_ | refine n2_ fun b_ => ?_ | refine Nat1.mk fun q_ hq_ => ?_ | refine em_ fun x_ hx_ => ?_ | refine Elem1.mk fun e_ he_ => ?_); refine g1_ ?_))
                    exact .refl _
                  · (refine g0_ ?_; repeat ((first | refine n1_ fun b_ => ?_ | refine n2_ fun b_ => ?_ | refine Nat1.mk fun q_ hq_ => ?_ | refine em_ fun x_ hx_ => ?_ | refine Elem1.mk fun e_ he_ => ?_); refine g0_ ?_))
                    refine (hnu).use ?_; (refine g0_ ?_; repeat ((first | refine n1_ fun b_ => ?_ | refine n2_ fun b_ => ?_ | refine Nat1.mk fun q_ hq_ => ?_ | refine em_ fun x_ hx_ => ?_ | refine Elem1.mk fun e_ he_ => ?_); refine g0_ ?_))
                    (refine g1_ ?_; repeat ((first | refine n1_ fun b_ => ?_ | refine n2_ fun b_ => ?_ | refine Nat1.mk fun q_ hq_ => ?_ | refine em_ fun x_ hx_ => ?_ | refine Elem1.mk fun e_ he_ => ?_); refine g1_ ?_))
                    refine nx_ (f + 1) ?_ ?_
                    · exact ⟨by omega, fun i h1 h2 => by
                        rcases Nat.lt_or_ge i f with h3 | h3
                        · exact hnf i h1 h3
                        · obtain rfl : i = f := by omega
                          exact hq⟩
                    · ((try dsimp only); (try simp only [List.length_drop, List.length_take, List.length_append, List.length_cons, List.length_nil, List.length_map] at *); omega)
              · have hnu := number_ok W ⟨j, 0, 0, 0⟩ (fun h => by dsimp only at h; omega)
                by_cases hq : numberK ⟨j, 0, 0, 0⟩ = v0
                · obtain ⟨t1, t2⟩ := tilde_kind j (by omega) (by omega) hq
                  rw [t1]
                  (refine g0_ ?_; repeat ((first | refine n1_ fun b_ => ?_ | refine n2_ fun b_ => ?_ | refine Nat1.mk fun q_ hq_ => ?_ | refine em_ fun x_ hx_ => ?_ | refine Elem1.mk fun e_ he_ => ?_); refine g0_ ?_))
                  refine (hnu).use ?_; (refine g0_ ?_; repeat ((first | refine n1_ fun b_ => ?_ | refine n2_ fun b_ => ?_ | refine Nat1.mk fun q_ hq_ => ?_ | refine em_ fun x_ hx_ => ?_ | refine Elem1.mk fun e_ he_ => ?_); refine g0_ ?_))
                  (refine g1_ ?_; repeat ((first | refine n1_ fun b_ => ?_ | refine n2_ fun b_ => ?_ | refine Nat1.mk fun q_ hq_ => ?_ | refine em_ fun x_ hx_ => ?_ | refine Elem1.mk fun e_ he_ => ?_); refine g1_ ?_))
                  exact .refl _
                · (refine g0_ ?_; repeat ((first | refine n1_ fun b_ => ?_ | refine n2_ fun b_ => ?_ | refine Nat1.mk fun q_ hq_ => ?_ | refine em_ fun x_ hx_ => ?_ | refine Elem1.mk fun e_ he_ => ?_); refine g0_ ?_))
                  refine (hnu).use ?_; (refine g0_ ?_; repeat ((first | refine n1_ fun b_ => ?_ | refine n2_ fun b_ => ?_ | refine Nat1.mk fun q_ hq_ => ?_ | refine em_ fun x_ hx_ => ?_ | refine Elem1.mk fun e_ he_ => ?_); refine g0_ ?_))
                  (refine g1_ ?_; repeat ((first | refine n1_ fun b_ => ?_ | refine n2_ fun b_ => ?_ | refine Nat1.mk fun q_ hq_ => ?_ | refine em_ fun x_ hx_ => ?_ | refine Elem1.mk fun e_ he_ => ?_); refine g1_ ?_))
                  refine nx_ (j + 1) ?_ ?_
                  · exact ⟨by omega, fun i h1 h2 => by
                      rcases Nat.lt_or_ge i j with h3 | h3
                      · exact hno i h1 h3
                      · obtain rfl : i = j := by omega
                        exact hq⟩
                  · ((try dsimp only); (try simp only [List.length_drop, List.length_take, List.length_append, List.length_cons, List.length_nil, List.length_map] at *); omega)
          · rw [if_pos (by omega)]
            (refine g0_ ?_; repeat ((first | refine n1_ fun b_ => ?_ | refine n2_ fun b_ => ?_ | refine Nat1.mk fun q_ hq_ => ?_ | refine em_ fun x_ hx_ => ?_ | refine Elem1.mk fun e_ he_ => ?_); refine g0_ ?_))
            exact .refl _
        have hl := hlt j
        by_cases hq : letterK j = last.toNat ∧ C
        · obtain ⟨a1, a2⟩ := arrow_letter j (by omega) (by omega)
          rw [hq.1] at a1 a2
          have hq0 := hq.1
          rw [if_pos ⟨by omega, .inl rfl⟩, a1]
          clear a1 a2 hq hno hC hCd
          (refine g0_ ?_; repeat ((first | refine n1_ fun b_ => ?_ | refine n2_ fun b_ => ?_ | refine Nat1.mk fun q_ hq_ => ?_ | refine em_ fun x_ hx_ => ?_ | refine Elem1.mk fun e_ he_ => ?_); refine g0_ ?_))
          refine (hl).use ?_; (refine g0_ ?_; repeat ((first | refine n1_ fun b_ => ?_ | refine n2_ fun b_ => ?_ | refine Nat1.mk fun q_ hq_ => ?_ | refine em_ fun x_ hx_ => ?_ | refine Elem1.mk fun e_ he_ => ?_); refine g0_ ?_))
          (refine g1_ ?_; repeat ((first | refine n1_ fun b_ => ?_ | refine n2_ fun b_ => ?_ | refine Nat1.mk fun q_ hq_ => ?_ | refine em_ fun x_ hx_ => ?_ | refine Elem1.mk fun e_ he_ => ?_); refine g1_ ?_))
          exact .refl _
        · have hq1 : letterK j ≠ last.toNat := fun h => hq ⟨h, hCd ▸ trivial⟩
          (refine g0_ ?_; repeat ((first | refine n1_ fun b_ => ?_ | refine n2_ fun b_ => ?_ | refine Nat1.mk fun q_ hq_ => ?_ | refine em_ fun x_ hx_ => ?_ | refine Elem1.mk fun e_ he_ => ?_); refine g0_ ?_))
          refine (hl).use ?_; (refine g0_ ?_; repeat ((first | refine n1_ fun b_ => ?_ | refine n2_ fun b_ => ?_ | refine Nat1.mk fun q_ hq_ => ?_ | refine em_ fun x_ hx_ => ?_ | refine Elem1.mk fun e_ he_ => ?_); refine g0_ ?_))
          (refine g1_ ?_; repeat ((first | refine n1_ fun b_ => ?_ | refine n2_ fun b_ => ?_ | refine Nat1.mk fun q_ hq_ => ?_ | refine em_ fun x_ hx_ => ?_ | refine Elem1.mk fun e_ he_ => ?_); refine g1_ ?_))
          refine nx_ (j + 1) ?_ ?_
          · exact ⟨by omega, fun i h1 h2 => by
              rcases Nat.lt_or_ge i j with h3 | h3
              · exact hno i h1 h3
              · obtain rfl : i = j := by omega
                exact hq⟩
          · ((try dsimp only); (try simp only [List.length_drop, List.length_take, List.length_append, List.length_cons, List.length_nil, List.length_map] at *); omega)
    · rw [if_neg fun h => hsn h.2]
      have hC : (s = [] ∨ (false = true ∧ Lib.trimLeftB w0 48 = [49])) ↔ False := by simp [hsn]
      refine Pure.of (acalls_of_vc (drawOk W) Tryd.func66 rfl (by decide) (by decide) rfl ?_)
      (refine g0_ ?_; repeat ((first | refine n1_ fun b_ => ?_ | refine n2_ fun b_ => ?_ | refine Nat1.mk fun q_ hq_ => ?_ | refine em_ fun x_ hx_ => ?_ | refine Elem1.mk fun e_ he_ => ?_); refine g0_ ?_))
      refine (hsp).use ?_; (refine g0_ ?_; repeat ((first | refine n1_ fun b_ => ?_ | refine n2_ fun b_ => ?_ | refine Nat1.mk fun q_ hq_ => ?_ | refine em_ fun x_ hx_ => ?_ | refine Elem1.mk fun e_ he_ => ?_); refine g0_ ?_))
      (refine g1_ ?_; repeat ((first | refine n1_ fun b_ => ?_ | refine n2_ fun b_ => ?_ | refine Nat1.mk fun q_ hq_ => ?_ | refine em_ fun x_ hx_ => ?_ | refine Elem1.mk fun e_ he_ => ?_); refine g1_ ?_))
      have hC' := hC
      generalize hCd : False = C at hC
      clear hnil hC' hne hlen
      obtain ⟨bz, rfl⟩ : ∃ z, z = b_ := ⟨_, rfl⟩
      refine' loopI (α := Nat) (fun j => [(10, .int .i64 j)]) [(0, _), (1, _), (4, _), (6, _), (7, _)] (fun j => [⟨bz, .row 4 [.agg [.int .i64 0, .int .i32 0, .int .i64 0, .int .i64 0]] 0⟩]) (fun j => (6 ≤ j ∧ j ≤ 12) ∧ ∀ i : Nat, 6 ≤ i → i < j → ¬ (letterK i = last.toNat ∧ C)) (fun j => 12 - j) 6 ?_ ?_
      · exact ⟨by decide, fun i h1 h2 => by omega⟩
      rintro j ⟨hj, hno⟩
      (refine g0_ ?_; repeat ((first | refine n1_ fun b_ => ?_ | refine n2_ fun b_ => ?_ | refine Nat1.mk fun q_ hq_ => ?_ | refine em_ fun x_ hx_ => ?_ | refine Elem1.mk fun e_ he_ => ?_); refine g0_ ?_))
      refine brec ?_; intro c_ hjt; (try rw [hjt]); cases c_ <;> replace hjt := nm_ hjt
      · have : j = 12 := by omega
        subst this
        have hna : ¬ (arrowK last.toNat ≠ 0 ∧ C) := fun h => h.1 (arrow_none fun i h1 h2 => fun h3 => hno i h1 (by omega) ⟨h3, h.2⟩)
        rw [if_neg fun h => hna ⟨h.1, hC.1 h.2⟩]
        (refine g0_ ?_; repeat ((first | refine n1_ fun b_ => ?_ | refine n2_ fun b_ => ?_ | refine Nat1.mk fun q_ hq_ => ?_ | refine em_ fun x_ hx_ => ?_ | refine Elem1.mk fun e_ he_ => ?_); refine g0_ ?_))
        refine brec ?_; intro c_ h126; (try rw [h126]); cases c_ <;> replace h126 := nm_ h126
        · rw [if_neg (by omega)]
          cases hk0 : okN w0 with
          | false =>
            rw [hk0] at ha0
            unfold errP at ha0
            rw [if_neg (by decide)] at ha0
            rw [if_pos rfl]
            (refine g0_ ?_; repeat ((first | refine n1_ fun b_ => ?_ | refine n2_ fun b_ => ?_ | refine Nat1.mk fun q_ hq_ => ?_ | refine em_ fun x_ hx_ => ?_ | refine Elem1.mk fun e_ he_ => ?_); refine g0_ ?_))
            refine (ha0).use ?_; (refine g0_ ?_; repeat ((first | refine n1_ fun b_ => ?_ | refine n2_ fun b_ => ?_ | refine Nat1.mk fun q_ hq_ => ?_ | refine em_ fun x_ hx_ => ?_ | refine Elem1.mk fun e_ he_ => ?_); refine g0_ ?_))
            refine ⟨_, neq_held (by kernel_rfl), ?_⟩
            (refine g1_ ?_; repeat ((first | refine n1_ fun b_ => ?_ | refine n2_ fun b_ => ?_ | refine Nat1.mk fun q_ hq_ => ?_ | refine em_ fun x_ hx_ => ?_ | refine Elem1.mk fun e_ he_ => ?_); refine g1_ ?_))
            exact .refl _
          | true =>
            rw [hk0] at ha0
            unfold errP at ha0
            rw [if_pos rfl] at ha0
            rw [if_neg (by decide)]
            have hbd0 := cntV_i64 w0
            unfold i64ok at hbd0
            generalize cntV w0 = v0 at *
            (refine g0_ ?_; repeat ((first | refine n1_ fun b_ => ?_ | refine n2_ fun b_ => ?_ | refine Nat1.mk fun q_ hq_ => ?_ | refine em_ fun x_ hx_ => ?_ | refine Elem1.mk fun e_ he_ => ?_); refine g0_ ?_))
            refine (ha0).use ?_; (refine g0_ ?_; repeat ((first | refine n1_ fun b_ => ?_ | refine n2_ fun b_ => ?_ | refine Nat1.mk fun q_ hq_ => ?_ | refine em_ fun x_ hx_ => ?_ | refine Elem1.mk fun e_ he_ => ?_); refine g0_ ?_))
            refine ⟨_, neq_nil0 (by kernel_rfl), ?_⟩
            (refine g1_ ?_; repeat ((first | refine n1_ fun b_ => ?_ | refine n2_ fun b_ => ?_ | refine Nat1.mk fun q_ hq_ => ?_ | refine em_ fun x_ hx_ => ?_ | refine Elem1.mk fun e_ he_ => ?_); refine g1_ ?_))
            refine' loopI (α := Nat) (fun j => [(13, .int .i64 j)]) [(4, _), (7, _), (11, _)] (fun j => [⟨bz, .row 4 [.agg [.int .i64 0, .int .i32 0, .int .i64 0, .int .i64 0]] 0⟩]) (fun j => (12 ≤ j ∧ j ≤ 15) ∧ ∀ i : Nat, 12 ≤ i → i < j → numberK ⟨i, 0, 0, 0⟩ ≠ v0) (fun j => 15 - j) 12 ?_ ?_
            · exact ⟨by decide, fun i h1 h2 => by omega⟩
            rintro j ⟨hj, hno⟩
            (refine g0_ ?_; repeat ((first | refine n1_ fun b_ => ?_ | refine n2_ fun b_ => ?_ | refine Nat1.mk fun q_ hq_ => ?_ | refine em_ fun x_ hx_ => ?_ | refine Elem1.mk fun e_ he_ => ?_); refine g0_ ?_))
            refine brec ?_; intro c_ hjt; (try rw [hjt]); cases c_ <;> replace hjt := nm_ hjt
            · have : j = 15 := by omega
              subst this
              (refine g0_ ?_; repeat ((first | refine n1_ fun b_ => ?_ | refine n2_ fun b_ => ?_ | refine Nat1.mk fun q_ hq_ => ?_ | refine em_ fun x_ hx_ => ?_ | refine Elem1.mk fun e_ he_ => ?_); refine g0_ ?_))
              refine' loopI (α := Nat) (fun f => [(14, .int .i64 f)]) [(4, _), (7, _), (11, _)] (fun f => [⟨bz, .row 4 [.agg [.int .i64 0, .int .i32 0, .int .i64 0, .int .i64 0]] 0⟩]) (fun f => (1 ≤ f ∧ f ≤ 13) ∧ ∀ i : Nat, 1 ≤ i → i < f → numberK ⟨15, 0, i, 0⟩ ≠ v0) (fun f => 13 - f) 1 ?_ ?_
              · exact ⟨by decide, fun i h1 h2 => by omega⟩
              rintro f ⟨hf, hnf⟩
              (refine g0_ ?_; repeat ((first | refine n1_ fun b_ => ?_ | refine n2_ fun b_ => ?_ | refine Nat1.mk fun q_ hq_ => ?_ | refine em_ fun x_ hx_ => ?_ | refine Elem1.mk fun e_ he_ => ?_); refine g0_ ?_))
              refine brec ?_; intro c_ hft; (try rw [hft]); cases c_ <;> replace hft := nm_ hft
              · have : f = 13 := by omega
                subst this
                rw [tilde_none hno hnf]
                (refine g0_ ?_; repeat ((first | refine n1_ fun b_ => ?_ | refine n2_ fun b_ => ?_ | refine Nat1.mk fun q_ hq_ => ?_ | refine em_ fun x_ hx_ => ?_ | refine Elem1.mk fun e_ he_ => ?_); refine g0_ ?_))
                exact .refl _
              · have hnu := number_ok W ⟨15, 0, f, 0⟩ (fun _ => by dsimp only; omega)
                by_cases hq : numberK ⟨15, 0, f, 0⟩ = v0
                · rw [tilde_fun f (by omega) (by omega) hq]
                  (refine g0_ ?_; repeat ((first | refine n1_ fun b_ => ?_ | refine n2_ fun b_ => ?_ | refine Nat1.mk fun q_ hq_ => ?_ | refine em_ fun x_ hx_ => ?_ | refine Elem1.mk fun e_ he_ => ?_); refine g0_ ?_))
                  refine (hnu).use ?_; (refine g0_ ?_; repeat ((first | refine n1_ fun b_ => ?_ | refine n2_ fun b_ => ?_ | refine Nat1.mk fun q_ hq_ => ?_ | refine em_ fun x_ hx_ => ?_ | refine Elem1.mk fun e_ he_ => ?_); refine g0_ ?_))
                  (refine g1_ ?_; repeat ((first | refine n1_ fun b_ => ?_ | refine n2_ fun b_ => ?_ | refine Nat1.mk fun q_ hq_ => ?_ | refine em_ fun x_ hx_ => ?_ | refine Elem1.mk fun e_ he_ => ?_); refine g1_ ?_))
                  exact .refl _
                · (refine g0_ ?_; repeat ((first | refine n1_ fun b_ => ?_ | refine n2_ fun b_ => ?_ | refine Nat1.mk fun q_ hq_ => ?_ | refine em_ fun x_ hx_ => ?_ | refine Elem1.mk fun e_ he_ => ?_); refine g0_ ?_))
                  refine (hnu).use ?_; (refine g0_ ?_; repeat ((first | refine n1_ fun b_ => ?_ | refine n2_ fun b_ => ?_ | refine Nat1.mk fun q_ hq_ => ?_ | refine em_ fun x_ hx_ => ?_ | refine Elem1.mk fun e_ he_ => ?_); refine g0_ ?_))
                  (refine g1_ ?_; repeat ((first | refine n1_ fun b_ => ?_ | refine n2_ fun b_ => ?_ | refine Nat1.mk fun q_ hq_ => ?_ | refine em_ fun x_ hx_ => ?_ | refine Elem1.mk fun e_ he_ => ?_); refine g1_ ?_))
                  refine nx_ (f + 1) ?_ ?_
                  · exact ⟨by omega, fun i h1 h2 => by
                      rcases Nat.lt_or_ge i f with h3 | h3
                      · exact hnf i h1 h3
                      · obtain rfl : i = f := by omega
                        exact hq⟩
                  · ((try dsimp only); (try simp only [List.length_drop, List.length_take, List.length_append, List.length_cons, List.length_nil, List.length_map] at *); omega)
            · have hnu := number_ok W ⟨j, 0, 0, 0⟩ (fun h => by dsimp only at h; omega)
              by_cases hq : numberK ⟨j, 0, 0, 0⟩ = v0
              · obtain ⟨t1, t2⟩ := tilde_kind j (by omega) (by omega) hq
                rw [t1]
                (refine g0_ ?_; repeat ((first | refine n1_ fun b_ => ?_ | refine n2_ fun b_ => ?_ | refine Nat1.mk fun q_ hq_ => ?_ | refine em_ fun x_ hx_ => ?_ | refine Elem1.mk fun e_ he_ => ?_); refine g0_ ?_))
                refine (hnu).use ?_; (refine g0_ ?_; repeat ((first | refine n1_ fun b_ => ?_ | refine n2_ fun b_ => ?_ | refine Nat1.mk fun q_ hq_ => ?_ | refine em_ fun x_ hx_ => ?_ | refine Elem1.mk fun e_ he_ => ?_); refine g0_ ?_))
                (refine g1_ ?_; repeat ((first | refine n1_ fun b_ => ?_ | refine n2_ fun b_ => ?_ | refine Nat1.mk fun q_ hq_ => ?_ | refine em_ fun x_ hx_ => ?_ | refine Elem1.mk fun e_ he_ => ?_); refine g1_ ?_))
                exact .refl _
              · (refine g0_ ?_; repeat ((first | refine n1_ fun b_ => ?_ | refine n2_ fun b_ => ?_ | refine Nat1.mk fun q_ hq_ => ?_ | refine em_ fun x_ hx_ => ?_ | refine Elem1.mk fun e_ he_ => ?_); refine g0_ ?_))
                refine (hnu).use ?_; (refine g0_ ?_; repeat ((first | refine n1_ fun b_ => ?_ | refine n2_ fun b_ => ?_ | refine Nat1.mk fun q_ hq_ => ?_ | refine em_ fun x_ hx_ => ?_ | refine Elem1.mk fun e_ he_ => ?_); refine g0_ ?_))
                (refine g1_ ?_; repeat ((first | refine n1_ fun b_ => ?_ | refine n2_ fun b_ => ?_ | refine Nat1.mk fun q_ hq_ => ?_ | refine em_ fun x_ hx_ => ?_ | refine Elem1.mk fun e_ he_ => ?_); refine g1_ ?_))
                refine nx_ (j + 1) ?_ ?_
                · exact ⟨by omega, fun i h1 h2 => by
                    rcases Nat.lt_or_ge i j with h3 | h3
                    · exact hno i h1 h3
                    · obtain rfl : i = j := by omega
                      exact hq⟩
                · ((try dsimp only); (try simp only [List.length_drop, List.length_take, List.length_append, List.length_cons, List.length_nil, List.length_map] at *); omega)
        · rw [if_pos (by omega)]
          (refine g0_ ?_; repeat ((first | refine n1_ fun b_ => ?_ | refine n2_ fun b_ => ?_ | refine Nat1.mk fun q_ hq_ => ?_ | refine em_ fun x_ hx_ => ?_ | refine Elem1.mk fun e_ he_ => ?_); refine g0_ ?_))
          exact .refl _
      have hl := hlt j
      by_cases hq : letterK j = last.toNat ∧ C
      · exact absurd hq.2 (hCd ▸ fun h => h)
      · by_cases hq1 : letterK j = last.toNat
        · (refine g0_ ?_; repeat ((first | refine n1_ fun b_ => ?_ | refine n2_ fun b_ => ?_ | refine Nat1.mk fun q_ hq_ => ?_ | refine em_ fun x_ hx_ => ?_ | refine Elem1.mk fun e_ he_ => ?_); refine g0_ ?_))
          refine (hl).use ?_; (refine g0_ ?_; repeat ((first | refine n1_ fun b_ => ?_ | refine n2_ fun b_ => ?_ | refine Nat1.mk fun q_ hq_ => ?_ | refine em_ fun x_ hx_ => ?_ | refine Elem1.mk fun e_ he_ => ?_); refine g0_ ?_))
          (refine g1_ ?_; repeat ((first | refine n1_ fun b_ => ?_ | refine n2_ fun b_ => ?_ | refine Nat1.mk fun q_ hq_ => ?_ | refine em_ fun x_ hx_ => ?_ | refine Elem1.mk fun e_ he_ => ?_); refine g1_ ?_))
          refine nx_ (j + 1) ?_ ?_
          · exact ⟨by omega, fun i h1 h2 => by
              rcases Nat.lt_or_ge i j with h3 | h3
              · exact hno i h1 h3
              · obtain rfl : i = j := by omega
                exact hq⟩
          · ((try dsimp only); (try simp only [List.length_drop, List.length_take, List.length_append, List.length_cons, List.length_nil, List.length_map] at *); omega)
        · (refine g0_ ?_; repeat ((first | refine n1_ fun b_ => ?_ | refine n2_ fun b_ => ?_ | refine Nat1.mk fun q_ hq_ => ?_ | refine em_ fun x_ hx_ => ?_ | refine Elem1.mk fun e_ he_ => ?_); refine g0_ ?_))
          refine (hl).use ?_; (refine g0_ ?_; repeat ((first | refine n1_ fun b_ => ?_ | refine n2_ fun b_ => ?_ | refine Nat1.mk fun q_ hq_ => ?_ | refine em_ fun x_ hx_ => ?_ | refine Elem1.mk fun e_ he_ => ?_); refine g0_ ?_))
          (refine g1_ ?_; repeat ((first | refine n1_ fun b_ => ?_ | refine n2_ fun b_ => ?_ | refine Nat1.mk fun q_ hq_ => ?_ | refine em_ fun x_ hx_ => ?_ | refine Elem1.mk fun e_ he_ => ?_); refine g1_ ?_))
          refine nx_ (j + 1) ?_ ?_
          · exact ⟨by omega, fun i h1 h2 => by
              rcases Nat.lt_or_ge i j with h3 | h3
              · exact hno i h1 h3
              · obtain rfl : i = j := by omega
                exact hq⟩
          · ((try dsimp only); (try simp only [List.length_drop, List.length_take, List.length_append, List.length_cons, List.length_nil, List.length_map] at *); omega)
  · have hl1 := hlen w1 (by simp)
    have ha1 := atoi_ok W hE w1 (by omega)
    have hs0 : s ≠ [] := fun h => by have := hnil h; simp at this
    rw [show errP (isOk (Lib.atoiAll w1)) = errP (okN w1) from rfl] at ha1
    dsimp only
    cases hb : okN w1 with
    | false =>
      rw [hb] at ha1
      unfold errP at ha1
      rw [if_neg (by decide)] at ha1
      rw [if_neg (by simp)]
      refine Pure.of (acalls_of_vc (drawOk W) Tryd.func66 rfl (by decide) (by decide) rfl ?_)
      (refine g0_ ?_; repeat ((first | refine n1_ fun b_ => ?_ | refine n2_ fun b_ => ?_ | refine Nat1.mk fun q_ hq_ => ?_ | refine em_ fun x_ hx_ => ?_ | refine Elem1.mk fun e_ he_ => ?_); refine g0_ ?_))
      refine (hsp).use ?_; (refine g0_ ?_; repeat ((first | refine n1_ fun b_ => ?_ | refine n2_ fun b_ => ?_ | refine Nat1.mk fun q_ hq_ => ?_ | refine em_ fun x_ hx_ => ?_ | refine Elem1.mk fun e_ he_ => ?_); refine g0_ ?_))
      (refine g1_ ?_; repeat ((first | refine n1_ fun b_ => ?_ | refine n2_ fun b_ => ?_ | refine Nat1.mk fun q_ hq_ => ?_ | refine em_ fun x_ hx_ => ?_ | refine Elem1.mk fun e_ he_ => ?_); refine g1_ ?_))
      refine (ha1).use ?_; (refine g0_ ?_; repeat ((first | refine n1_ fun b_ => ?_ | refine n2_ fun b_ => ?_ | refine Nat1.mk fun q_ hq_ => ?_ | refine em_ fun x_ hx_ => ?_ | refine Elem1.mk fun e_ he_ => ?_); refine g0_ ?_))
      refine ⟨_, neq_held (by kernel_rfl), ?_⟩
      (refine g1_ ?_; repeat ((first | refine n1_ fun b_ => ?_ | refine n2_ fun b_ => ?_ | refine Nat1.mk fun q_ hq_ => ?_ | refine em_ fun x_ hx_ => ?_ | refine Elem1.mk fun e_ he_ => ?_); refine g1_ ?_))
      exact .refl _
    | true =>
      rw [hb] at ha1
      unfold errP at ha1
      rw [if_pos rfl] at ha1
      have hbd := cntV_i64 w1
      unfold i64ok at hbd
      generalize cntV w1 = v1 at *
      by_cases hv : 1 ≤ v1 ∧ v1 ≤ 8
      · rw [if_pos ⟨rfl, hv⟩]
        unfold toldT
        rw [if_neg fun h => hs0 h.2]
        have hC : (s = [] ∨ (true = true ∧ Lib.trimLeftB w0 48 = [49])) ↔ Lib.trimLeftB w0 48 = [49] := by simp [hs0]
        refine Pure.of (acalls_of_vc (drawOk W) Tryd.func66 rfl (by decide) (by decide) rfl ?_)
        (refine g0_ ?_; repeat ((first | refine n1_ fun b_ => ?_ | refine n2_ fun b_ => ?_ | refine Nat1.mk fun q_ hq_ => ?_ | refine em_ fun x_ hx_ => ?_ | refine Elem1.mk fun e_ he_ => ?_); refine g0_ ?_))
        refine (hsp).use ?_; (refine g0_ ?_; repeat ((first | refine n1_ fun b_ => ?_ | refine n2_ fun b_ => ?_ | refine Nat1.mk fun q_ hq_ => ?_ | refine em_ fun x_ hx_ => ?_ | refine Elem1.mk fun e_ he_ => ?_); refine g0_ ?_))
        (refine g1_ ?_; repeat ((first | refine n1_ fun b_ => ?_ | refine n2_ fun b_ => ?_ | refine Nat1.mk fun q_ hq_ => ?_ | refine em_ fun x_ hx_ => ?_ | refine Elem1.mk fun e_ he_ => ?_); refine g1_ ?_))
        refine (ha1).use ?_; (refine g0_ ?_; repeat ((first | refine n1_ fun b_ => ?_ | refine n2_ fun b_ => ?_ | refine Nat1.mk fun q_ hq_ => ?_ | refine em_ fun x_ hx_ => ?_ | refine Elem1.mk fun e_ he_ => ?_); refine g0_ ?_))
        refine ⟨_, neq_nil0 (by kernel_rfl), ?_⟩
        (refine g1_ ?_; repeat ((first | refine n1_ fun b_ => ?_ | refine n2_ fun b_ => ?_ | refine Nat1.mk fun q_ hq_ => ?_ | refine em_ fun x_ hx_ => ?_ | refine Elem1.mk fun e_ he_ => ?_); refine g1_ ?_))
        obtain ⟨C, hCd, hC⟩ : ∃ C : Prop, (Lib.trimLeftB w0 48 = [49]) = C ∧ ((s = [] ∨ (true = true ∧ Lib.trimLeftB w0 48 = [49])) ↔ C) := ⟨_, rfl, hC⟩
        clear hnil hne hlen
        obtain ⟨bz, rfl⟩ : ∃ z, z = b_ := ⟨_, rfl⟩
        refine' loopI (α := Nat) (fun j => [(10, .int .i64 j)]) [(0, _), (1, _), (4, _), (6, _), (7, _)] (fun j => [⟨bz, .row 4 [.agg [.int .i64 0, .int .i32 0, .int .i64 0, .int .i64 0]] 0⟩]) (fun j => (6 ≤ j ∧ j ≤ 12) ∧ ∀ i : Nat, 6 ≤ i → i < j → ¬ (letterK i = last.toNat ∧ C)) (fun j => 12 - j) 6 ?_ ?_
        · exact ⟨by decide, fun i h1 h2 => by omega⟩
        rintro j ⟨hj, hno⟩
        (refine g0_ ?_; repeat ((first | refine n1_ fun b_ => ?_ | refine n2_ fun b_ => ?_ | refine Nat1.mk fun q_ hq_ => ?_ | refine em_ fun x_ hx_ => ?_ | refine Elem1.mk fun e_ he_ => ?_); refine g0_ ?_))
        refine brec ?_; intro c_ hjt; (try rw [hjt]); cases c_ <;> replace hjt := nm_ hjt
        · have : j = 12 := by omega
          subst this
          have hna : ¬ (arrowK last.toNat ≠ 0 ∧ C) := fun h => h.1 (arrow_none fun i h1 h2 => fun h3 => hno i h1 (by omega) ⟨h3, h.2⟩)
          rw [if_neg fun h => hna ⟨h.1, hC.1 h.2⟩]
          (refine g0_ ?_; repeat ((first | refine n1_ fun b_ => ?_ | refine n2_ fun b_ => ?_ | refine Nat1.mk fun q_ hq_ => ?_ | refine em_ fun x_ hx_ => ?_ | refine Elem1.mk fun e_ he_ => ?_); refine g0_ ?_))
          refine brec ?_; intro c_ h126; (try rw [h126]); cases c_ <;> replace h126 := nm_ h126
          · rw [if_neg (by omega)]
            cases hk0 : okN w0 with
            | false =>
              rw [hk0] at ha0
              unfold errP at ha0
              rw [if_neg (by decide)] at ha0
              rw [if_pos rfl]
              (refine g0_ ?_; repeat ((first | refine n1_ fun b_ => ?_ | refine n2_ fun b_ => ?_ | refine Nat1.mk fun q_ hq_ => ?_ | refine em_ fun x_ hx_ => ?_ | refine Elem1.mk fun e_ he_ => ?_); refine g0_ ?_))
              refine (ha0).use ?_; (refine g0_ ?_; repeat ((first | refine n1_ fun b_ => ?_ | refine n2_ fun b_ => ?_ | refine Nat1.mk fun q_ hq_ => ?_ | refine em_ fun x_ hx_ => ?_ | refine Elem1.mk fun e_ he_ => ?_); refine g0_ ?_))
              refine ⟨_, neq_held (by kernel_rfl), ?_⟩
              (refine g1_ ?_; repeat ((first | refine n1_ fun b_ => ?_ | refine n2_ fun b_ => ?_ | refine Nat1.mk fun q_ hq_ => ?_ | refine em_ fun x_ hx_ => ?_ | refine Elem1.mk fun e_ he_ => ?_); refine g1_ ?_))
              exact .refl _
            | true =>
              rw [hk0] at ha0
              unfold errP at ha0
              rw [if_pos rfl] at ha0
              rw [if_neg (by decide)]
              have hbd0 := cntV_i64 w0
              unfold i64ok at hbd0
              generalize cntV w0 = v0 at *
              (refine g0_ ?_; repeat ((first | refine n1_ fun b_ => ?_ | refine n2_ fun b_ => ?_ | refine Nat1.mk fun q_ hq_ => ?_ | refine em_ fun x_ hx_ => ?_ | refine Elem1.mk fun e_ he_ => ?_); refine g0_ ?_))
              refine (ha0).use ?_; (refine g0_ ?_; repeat ((first | refine n1_ fun b_ => ?_ | refine n2_ fun b_ => ?_ | refine Nat1.mk fun q_ hq_ => ?_ | refine em_ fun x_ hx_ => ?_ | refine Elem1.mk fun e_ he_ => ?_); refine g0_ ?_))
              refine ⟨_, neq_nil0 (by kernel_rfl), ?_⟩
              (refine g1_ ?_; repeat ((first | refine n1_ fun b_ => ?_ | refine n2_ fun b_ => ?_ | refine Nat1.mk fun q_ hq_ => ?_ | refine em_ fun x_ hx_ => ?_ | refine Elem1.mk fun e_ he_ => ?_); refine g1_ ?_))
              refine' loopI (α := Nat) (fun j => [(13, .int .i64 j)]) [(4, _), (7, _), (11, _)] (fun j => [⟨bz, .row 4 [.agg [.int .i64 0, .int .i32 0, .int .i64 0, .int .i64 0]] 0⟩]) (fun j => (12 ≤ j ∧ j ≤ 15) ∧ ∀ i : Nat, 12 ≤ i → i < j → numberK ⟨i, 0, 0, 0⟩ ≠ v0) (fun j => 15 - j) 12 ?_ ?_
              · exact ⟨by decide, fun i h1 h2 => by omega⟩
              rintro j ⟨hj, hno⟩
              (refine g0_ ?_; repeat ((first | refine n1_ fun b_ => ?_ | refine n2_ fun b_ => ?_ | refine Nat1.mk fun q_ hq_ => ?_ | refine em_ fun x_ hx_ => ?_ | refine Elem1.mk fun e_ he_ => ?_); refine g0_ ?_))
              refine brec ?_; intro c_ hjt; (try rw [hjt]); cases c_ <;> replace hjt := nm_ hjt
              · have : j = 15 := by omega
                subst this
                (refine g0_ ?_; repeat ((first | refine n1_ fun b_ => ?_ | refine n2_ fun b_ => ?_ | refine Nat1.mk fun q_ hq_ => ?_ | refine em_ fun x_ hx_ => ?_ | refine Elem1.mk fun e_ he_ => ?_); refine g0_ ?_))
                refine' loopI (α := Nat) (fun f => [(14, .int .i64 f)]) [(4, _), (7, _), (11, _)] (fun f => [⟨bz, .row 4 [.agg [.int .i64 0, .int .i32 0, .int .i64 0, .int .i64 0]] 0⟩]) (fun f => (1 ≤ f ∧ f ≤ 13) ∧ ∀ i : Nat, 1 ≤ i → i < f → numberK ⟨15, 0, i, 0⟩ ≠ v0) (fun f => 13 - f) 1 ?_ ?_
                · exact ⟨by decide, fun i h1 h2 => by omega⟩
                rintro f ⟨hf, hnf⟩
                (refine g0_ ?_; repeat ((first | refine n1_ fun b_ => ?_ | refine n2_ fun b_ => ?_ | refine Nat1.mk fun q_ hq_ => ?_ | refine em_ fun x_ hx_ => ?_ | refine Elem1.mk fun e_ he_ => ?_); refine g0_ ?_))
                refine brec ?_; intro c_ hft; (try rw [hft]); cases c_ <;> replace hft := nm_ hft
                · have : f = 13 := by omega
                  subst this
                  rw [tilde_none hno hnf]
                  (refine g0_ ?_; repeat ((first | refine n1_ fun b_ => ?_ | refine n2_ fun b_ => ?_ | refine Nat1.mk fun q_ hq_ => ?_ | refine em_ fun x_ hx_ => ?_ | refine Elem1.mk fun e_ he_ => ?_); refine g0_ ?_))
                  exact .refl _
                · have hnu := number_ok W ⟨15, 0, f, 0⟩ (fun _ => by dsimp only; omega)
                  by_cases hq : numberK ⟨15, 0, f, 0⟩ = v0
                  · rw [tilde_fun f (by omega) (by omega) hq]
                    (refine g0_ ?_; repeat ((first | refine n1_ fun b_ => ?_ | refine n2_ fun b_ => ?_ | refine Nat1.mk fun q_ hq_ => ?_ | refine em_ fun x_ hx_ => ?_ | refine Elem1.mk fun e_ he_ => ?_); refine g0_ ?_))
                    refine (hnu).use ?_; (refine g0_ ?_; repeat ((first | refine n1_ fun b_ => ?_ | refine n2_ fun b_ => ?_ | refine Nat1.mk fun q_ hq_ => ?_ | refine em_ fun x_ hx_ => ?_ | refine Elem1.mk fun e_ he_ => ?_); refine g0_ ?_))
                    (refine g1_ ?_; repeat ((first | refine n1_ fun b_ => ?_ | refine n2_ fun b_ => ?_ | refine Nat1.mk fun q_ hq_ => ?_ | refine em_ fun x_ hx_ => ?_ | refine Elem1.mk fun e_ he_ => ?_); refine g1_ ?_))
                    exact .refl _
                  · (refine g0_ ?_; repeat ((first | refine n1_ fun b_ => ?_ | refine n2_ fun b_ => ?_ | refine Nat1.mk fun q_ hq_ => ?_ | refine em_ fun x_ hx_ => ?_ | refine Elem1.mk fun e_ he_ => ?_); refine g0_ ?_))
                    refine (hnu).use ?_; (refine g0_ ?_; repeat ((first | refine n1_ fun b_ => ?_ | refine n2_ fun b_ => ?_ | refine Nat1.mk fun q_ hq_ => ?_ | refine em_ fun x_ hx_ => ?_ | refine Elem1.mk fun e_ he_ => ?_); refine g0_ ?_))
                    (refine g1_ ?_; repeat ((first | refine n1_ fun b_ => ?_ | refine n2_ fun b_ => ?_ | refine Nat1.mk fun q_ hq_ => ?_ | refine em_ fun x_ hx_ => ?_ | refine Elem1.mk fun e_ he_ => ?_); refine g1_ ?_))
                    refine nx_ (f + 1) ?_ ?_
                    · exact ⟨by omega, fun i h1 h2 => by
                        rcases Nat.lt_or_ge i f with h3 | h3
                        · exact hnf i h1 h3
                        · obtain rfl : i = f := by omega
                          exact hq⟩
                    · ((try dsimp only); (try simp only [List.length_drop, List.length_take, List.length_append, List.length_cons, List.length_nil, List.length_map] at *); omega)
              · have hnu := number_ok W ⟨j, 0, 0, 0⟩ (fun h => by dsimp only at h; omega)
                by_cases hq : numberK ⟨j, 0, 0, 0⟩ = v0
                · obtain ⟨t1, t2⟩ := tilde_kind j (by omega) (by omega) hq
                  rw [t1]
                  (refine g0_ ?_; repeat ((first | refine n1_ fun b_ => ?_ | refine n2_ fun b_ => ?_ | refine Nat1.mk fun q_ hq_ => ?_ | refine em_ fun x_ hx_ => ?_ | refine Elem1.mk fun e_ he_ => ?_); refine g0_ ?_))
                  refine (hnu).use ?_; (refine g0_ ?_; repeat ((first | refine n1_ fun b_ => ?_ | refine n2_ fun b_ => ?_ | refine Nat1.mk fun q_ hq_ => ?_ | refine em_ fun x_ hx_ => ?_ | refine Elem1.mk fun e_ he_ => ?_); refine g0_ ?_))
                  (refine g1_ ?_; repeat ((first | refine n1_ fun b_ => ?_ | refine n2_ fun b_ => ?_ | refine Nat1.mk fun q_ hq_ => ?_ | refine em_ fun x_ hx_ => ?_ | refine Elem1.mk fun e_ he_ => ?_); refine g1_ ?_))
                  exact .refl _
                · (refine g0_ ?_; repeat ((first | refine n1_ fun b_ => ?_ | refine n2_ fun b_ => ?_ | refine Nat1.mk fun q_ hq_ => ?_ | refine em_ fun x_ hx_ => ?_ | refine Elem1.mk fun e_ he_ => ?_); refine g0_ ?_))
                  refine (hnu).use ?_; (refine g0_ ?_; repeat ((first | refine n1_ fun b_ => ?_ | refine n2_ fun b_ => ?_ | refine Nat1.mk fun q_ hq_ => ?_ | refine em_ fun x_ hx_ => ?_ | refine Elem1.mk fun e_ he_ => ?_); refine g0_ ?_))
                  (refine g1_ ?_; repeat ((first | refine n1_ fun b_ => ?_ | refine n2_ fun b_ => ?_ | refine Nat1.mk fun q_ hq_ => ?_ | refine em_ fun x_ hx_ => ?_ | refine Elem1.mk fun e_ he_ => ?_); refine g1_ ?_))
                  refine nx_ (j + 1) ?_ ?_
                  · exact ⟨by omega, fun i h1 h2 => by
                      rcases Nat.lt_or_ge i j with h3 | h3
                      · exact hno i h1 h3
                      · obtain rfl : i = j := by omega
                        exact hq⟩
                  · ((try dsimp only); (try simp only [List.length_drop, List.length_take, List.length_append, List.length_cons, List.length_nil, List.length_map] at *); omega)
          · rw [if_pos (by omega)]
            (refine g0_ ?_; repeat ((first | refine n1_ fun b_ => ?_ | refine n2_ fun b_ => ?_ | refine Nat1.mk fun q_ hq_ => ?_ | refine em_ fun x_ hx_ => ?_ | refine Elem1.mk fun e_ he_ => ?_); refine g0_ ?_))
            exact .refl _
        have hl := hlt j
        by_cases hq : letterK j = last.toNat ∧ C
        · obtain ⟨a1, a2⟩ := arrow_letter j (by omega) (by omega)
          have hq0 := hq.1
          have hq2 : Lib.trimLeftB w0 48 = [49] := hCd ▸ hq.2
          rw [hq.1] at a1 a2
          rw [if_pos ⟨by omega, .inr ⟨rfl, hq2⟩⟩, a1]
          rw [hq2] at htr
          clear a1 a2 hq hno hC hCd hq2
          (refine g0_ ?_; repeat ((first | refine n1_ fun b_ => ?_ | refine n2_ fun b_ => ?_ | refine Nat1.mk fun q_ hq_ => ?_ | refine em_ fun x_ hx_ => ?_ | refine Elem1.mk fun e_ he_ => ?_); refine g0_ ?_))
          refine (hl).use ?_; (refine g0_ ?_; repeat ((first | refine n1_ fun b_ => ?_ | refine n2_ fun b_ => ?_ | refine Nat1.mk fun q_ hq_ => ?_ | refine em_ fun x_ hx_ => ?_ | refine Elem1.mk fun e_ he_ => ?_); refine g0_ ?_))
          (refine g1_ ?_; repeat ((first | refine n1_ fun b_ => ?_ | refine n2_ fun b_ => ?_ | refine Nat1.mk fun q_ hq_ => ?_ | refine em_ fun x_ hx_ => ?_ | refine Elem1.mk fun e_ he_ => ?_); refine g1_ ?_))
          refine (htr).use ?_; (refine g0_ ?_; repeat ((first | refine n1_ fun b_ => ?_ | refine n2_ fun b_ => ?_ | refine Nat1.mk fun q_ hq_ => ?_ | refine em_ fun x_ hx_ => ?_ | refine Elem1.mk fun e_ he_ => ?_); refine g0_ ?_))
          (refine g1_ ?_; repeat ((first | refine n1_ fun b_ => ?_ | refine n2_ fun b_ => ?_ | refine Nat1.mk fun q_ hq_ => ?_ | refine em_ fun x_ hx_ => ?_ | refine Elem1.mk fun e_ he_ => ?_); refine g1_ ?_))
          exact .refl _
        · by_cases hq1 : letterK j = last.toNat
          · have hq2 : Lib.trimLeftB w0 48 ≠ [49] := fun h => hq ⟨hq1, hCd ▸ h⟩
            (refine g0_ ?_; repeat ((first | refine n1_ fun b_ => ?_ | refine n2_ fun b_ => ?_ | refine Nat1.mk fun q_ hq_ => ?_ | refine em_ fun x_ hx_ => ?_ | refine Elem1.mk fun e_ he_ => ?_); refine g0_ ?_))
            refine (hl).use ?_; (refine g0_ ?_; repeat ((first | refine n1_ fun b_ => ?_ | refine n2_ fun b_ => ?_ | refine Nat1.mk fun q_ hq_ => ?_ | refine em_ fun x_ hx_ => ?_ | refine Elem1.mk fun e_ he_ => ?_); refine g0_ ?_))
            (refine g1_ ?_; repeat ((first | refine n1_ fun b_ => ?_ | refine n2_ fun b_ => ?_ | refine Nat1.mk fun q_ hq_ => ?_ | refine em_ fun x_ hx_ => ?_ | refine Elem1.mk fun e_ he_ => ?_); refine g1_ ?_))
            refine (htr).use ?_; (refine g0_ ?_; repeat ((first | refine n1_ fun b_ => ?_ | refine n2_ fun b_ => ?_ | refine Nat1.mk fun q_ hq_ => ?_ | refine em_ fun x_ hx_ => ?_ | refine Elem1.mk fun e_ he_ => ?_); refine g0_ ?_))
            (refine g1_ ?_; repeat ((first | refine n1_ fun b_ => ?_ | refine n2_ fun b_ => ?_ | refine Nat1.mk fun q_ hq_ => ?_ | refine em_ fun x_ hx_ => ?_ | refine Elem1.mk fun e_ he_ => ?_); refine g1_ ?_))
            refine nx_ (j + 1) ?_ ?_
            · exact ⟨by omega, fun i h1 h2 => by
                rcases Nat.lt_or_ge i j with h3 | h3
                · exact hno i h1 h3
                · obtain rfl : i = j := by omega
                  exact hq⟩
            · ((try dsimp only); (try simp only [List.length_drop, List.length_take, List.length_append, List.length_cons, List.length_nil, List.length_map] at *); omega)
          · have hdf : decide (((letterK (j : Int) : Nat) : Int) = (last.toNat : Int)) = false := decide_eq_false (by omega)
            (refine g0_ ?_; repeat ((first | refine n1_ fun b_ => ?_ | refine n2_ fun b_ => ?_ | refine Nat1.mk fun q_ hq_ => ?_ | refine em_ fun x_ hx_ => ?_ | refine Elem1.mk fun e_ he_ => ?_); refine g0_ ?_))
            refine (hl).use ?_; (refine g0_ ?_; repeat ((first | refine n1_ fun b_ => ?_ | refine n2_ fun b_ => ?_ | refine Nat1.mk fun q_ hq_ => ?_ | refine em_ fun x_ hx_ => ?_ | refine Elem1.mk fun e_ he_ => ?_); refine g0_ ?_))
            rw [hdf]
            (refine g0_ ?_; repeat ((first | refine n1_ fun b_ => ?_ | refine n2_ fun b_ => ?_ | refine Nat1.mk fun q_ hq_ => ?_ | refine em_ fun x_ hx_ => ?_ | refine Elem1.mk fun e_ he_ => ?_); refine g0_ ?_))
            refine nx_ (j + 1) ?_ ?_
            · exact ⟨by omega, fun i h1 h2 => by
                rcases Nat.lt_or_ge i j with h3 | h3
                · exact hno i h1 h3
                · obtain rfl : i = j := by omega
                  exact hq⟩
            · ((try dsimp only); (try simp only [List.length_drop, List.length_take, List.length_append, List.length_cons, List.length_nil, List.length_map] at *); omega)
      · rw [if_neg fun h => hv h.2]
        refine Pure.of (acalls_of_vc (drawOk W) Tryd.func66 rfl (by decide) (by decide) rfl ?_)
        (refine g0_ ?_; repeat ((first | refine n1_ fun b_ => ?_ | refine n2_ fun b_ => ?_ | refine Nat1.mk fun q_ hq_ => ?_ | refine em_ fun x_ hx_ => ?_ | refine Elem1.mk fun e_ he_ => ?_); refine g0_ ?_))
        refine (hsp).use ?_; (refine g0_ ?_; repeat ((first | refine n1_ fun b_ => ?_ | refine n2_ fun b_ => ?_ | refine Nat1.mk fun q_ hq_ => ?_ | refine em_ fun x_ hx_ => ?_ | refine Elem1.mk fun e_ he_ => ?_); refine g0_ ?_))
        (refine g1_ ?_; repeat ((first | refine n1_ fun b_ => ?_ | refine n2_ fun b_ => ?_ | refine Nat1.mk fun q_ hq_ => ?_ | refine em_ fun x_ hx_ => ?_ | refine Elem1.mk fun e_ he_ => ?_); refine g1_ ?_))
        refine (ha1).use ?_; (refine g0_ ?_; repeat ((first | refine n1_ fun b_ => ?_ | refine n2_ fun b_ => ?_ | refine Nat1.mk fun q_ hq_ => ?_ | refine em_ fun x_ hx_ => ?_ | refine Elem1.mk fun e_ he_ => ?_); refine g0_ ?_))
        refine ⟨_, neq_nil0 (by kernel_rfl), ?_⟩
        (refine g1_ ?_; repeat ((first | refine n1_ fun b_ => ?_ | refine n2_ fun b_ => ?_ | refine Nat1.mk fun q_ hq_ => ?_ | refine em_ fun x_ hx_ => ?_ | refine Elem1.mk fun e_ he_ => ?_); refine g1_ ?_))
        exact .refl _
  · have hl3 : (List.map PV.str (w0 :: w1 :: w2 :: ws)).length = ws.length + 3 := by simp
    dsimp only
    refine Pure.of (acalls_of_vc (drawOk W) Tryd.func66 rfl (by decide) (by decide) rfl ?_)
    (refine g0_ ?_; repeat ((first | refine n1_ fun b_ => ?_ | refine n2_ fun b_ => ?_ | refine Nat1.mk fun q_ hq_ => ?_ | refine em_ fun x_ hx_ => ?_ | refine Elem1.mk fun e_ he_ => ?_); refine g0_ ?_))
    refine (hsp).use ?_; (refine g0_ ?_; repeat ((first | refine n1_ fun b_ => ?_ | refine n2_ fun b_ => ?_ | refine Nat1.mk fun q_ hq_ => ?_ | refine em_ fun x_ hx_ => ?_ | refine Elem1.mk fun e_ he_ => ?_); refine g0_ ?_))
    (refine g1_ ?_; repeat ((first | refine n1_ fun b_ => ?_ | refine n2_ fun b_ => ?_ | refine Nat1.mk fun q_ hq_ => ?_ | refine em_ fun x_ hx_ => ?_ | refine Elem1.mk fun e_ he_ => ?_); refine g1_ ?_))
    exact .refl _
end Go.Eng.YtimpfhokacfobaaDoor
end
