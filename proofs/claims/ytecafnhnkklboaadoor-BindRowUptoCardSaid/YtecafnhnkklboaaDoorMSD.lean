/- Texts put together: Spl11, Spl12, Spl13, Spl14, Spl15. -/
import Derived.Test.YtecafnhnkklboaaDoorMSB
import Derived.Test.YtecafnhnkklboaaDoorMSC
/- Splits: least cells (b_ x_ q_ e_). -/
section
namespace Go.Eng.YtecafnhnkklboaaDoor
open Go Go.Eng Go.Proofs
variable (W : World)
set_option linter.unusedSimpArgs false
set_option maxRecDepth 100000
set_option linter.unusedVariables false
set_option maxHeartbeats 4000000
/-- One part more. -/
def stepW (w : Int) (acc : Int × Int) (i : Nat) (ab : Int × Int) : Int × Int :=
  if w = 1 then (if 0 < i then acc.1 + ab.1 + 1 else acc.1 + ab.1, max acc.2 ab.2) else (max acc.1 ab.1, if 0 < i then acc.2 + ab.2 + 1 else acc.2 + ab.2)
mutual
def leastT : Spl → Int × Int
  | .mk w p s ks => if w = 0 then (1, 1) else leastTs w ks 0 (0, 0)
def leastTs (w : Int) : List Spl → Nat → Int × Int → Int × Int
  | [], _, acc => acc
  | k :: ks, i, acc => leastTs w ks (i + 1) (stepW w acc i (leastT k))
end
theorem leastT_mk (w p s : Int) (ks : List Spl) : leastT (.mk w p s ks) = if w = 0 then (1, 1) else leastTs w ks 0 (0, 0) := by rw [leastT]
/-- So many cells at most, for so many panes. -/
def accB (i m : Nat) (acc : Int × Int) : Prop := (i = 0 ∧ acc = (0, 0)) ∨ (0 < i ∧ 1 ≤ acc.1 ∧ 1 ≤ acc.2 ∧ acc.1 ≤ 2 * m - 1 ∧ acc.2 ≤ 2 * m - 1)
theorem accB_step {w : Int} {i m n : Nat} {acc ab : Int × Int} (h : accB i m acc) (h1 : 1 ≤ ab.1 ∧ 1 ≤ ab.2 ∧ ab.1 ≤ 2 * n - 1 ∧ ab.2 ≤ 2 * n - 1) : accB (i + 1) (m + n) (stepW w acc i ab) := by
  refine .inr ⟨Nat.succ_pos _, ?_⟩
  unfold stepW
  rcases h with ⟨hi, ha⟩ | ⟨hi, h2, h3, h4, h5⟩
  · subst hi ha
    split <;> simp only [Nat.lt_irrefl, if_false] <;> push_cast <;> omega
  · split <;> simp only [hi, if_true] <;> push_cast <;> omega
theorem leastTs_B {w : Int} : ∀ (l : List Spl) (i m : Nat) (acc : Int × Int), (∀ k ∈ l, 1 ≤ (leastT k).1 ∧ 1 ≤ (leastT k).2 ∧ (leastT k).1 ≤ 2 * ((panesT k).length : Int) - 1 ∧ (leastT k).2 ≤ 2 * ((panesT k).length : Int) - 1) → accB i m acc → accB (i + l.length) (m + (l.flatMap panesT).length) (leastTs w l i acc)
  | [], i, m, acc, _, h => by rw [leastTs]; exact h
  | k :: l, i, m, acc, hk, h => by
    have := leastTs_B (w := w) l (i + 1) (m + (panesT k).length) (stepW w acc i (leastT k)) (fun x hx => hk x (List.mem_cons_of_mem _ hx)) (accB_step (w := w) h (hk k (by simp)))
    rw [leastTs, List.flatMap_cons, List.length_append, List.length_cons]
    rw [show i + (l.length + 1) = i + 1 + l.length by omega, ← Nat.add_assoc]
    exact this
theorem least_B (t : Spl) : ∀ way, t.right way → 1 ≤ (leastT t).1 ∧ 1 ≤ (leastT t).2 ∧ (leastT t).1 ≤ 2 * ((panesT t).length : Int) - 1 ∧ (leastT t).2 ≤ 2 * ((panesT t).length : Int) - 1 := by
  induction t using spl_induct with
  | h w p s ks ih =>
    intro way hr
    rw [right_mk] at hr
    rw [leastT_mk, panesT_mk]
    rcases hr.2 with ⟨h0, hk, -⟩ | ⟨hw, -, hk2, -, hkr⟩
    · simp [h0]
    · have hw0 : ¬ w = 0 := by omega
      rw [if_neg hw0, if_neg hw0]
      have := leastTs_B (w := w) ks 0 0 (0, 0) (fun k hk => ih k hk w (hkr k hk)) (.inl ⟨rfl, rfl⟩)
      rw [Nat.zero_add, Nat.zero_add] at this
      rcases this with ⟨h1, -⟩ | ⟨-, h1⟩
      · omega
      · exact h1
end Go.Eng.YtecafnhnkklboaaDoor
end

/- Splits: shares of cells (b_ x_ q_ e_). -/
section
namespace Go.Eng.YtecafnhnkklboaaDoor
open Go Go.Eng Go.Proofs
variable (W : World)
set_option linter.unusedSimpArgs false
set_option maxRecDepth 100000
set_option linter.unusedVariables false
set_option maxHeartbeats 4000000
def needK (w : Int) (k : Spl) : Int := if w = 2 then (leastT k).2 else (leastT k).1
def sumL (l : List Int) : Int := l.foldr (· + ·) 0
theorem sumL_app (a b : List Int) : sumL (a ++ b) = sumL a + sumL b := by
  induction a with
  | nil => simp [sumL]
  | cons x a ih => simp only [sumL, List.cons_append, List.foldr_cons] at *; omega
theorem sumL_bd {a b : Int} : ∀ {l : List Int}, (∀ x ∈ l, a ≤ x ∧ x ≤ b) → a * l.length ≤ sumL l ∧ sumL l ≤ b * l.length
  | [], _ => by simp [sumL]
  | x :: l, h => by
    have h1 := h x (by simp)
    have h2 := sumL_bd (l := l) fun y hy => h y (List.mem_cons_of_mem _ hy)
    simp only [sumL, List.foldr_cons, List.length_cons] at *
    push_cast
    rw [Int.mul_add, Int.mul_add]; omega
def restS (w : Int) (ks : List Spl) (all : Int) : Int := all - (ks.length - 1) - sumL (ks.map (needK w))
def sizesS (ks : List Spl) : Int := sumL (ks.map Spl.size)
def sharesGo (w rest sum : Int) : List Spl → Int → Int → List Int
  | [], _, _ => []
  | k :: ks, at_, done => (needK w k + (rest * (at_ + k.size)).tdiv sum - done) :: sharesGo w rest sum ks (at_ + k.size) ((rest * (at_ + k.size)).tdiv sum)
def sharesT (w : Int) (ks : List Spl) (all : Int) : List Int := sharesGo w (restS w ks all) (sizesS ks) ks 0 0
theorem need_bd {w : Int} {k : Spl} {way : Int} (h : k.right way) (hn : (panesT k).length ≤ 12) : 1 ≤ needK w k ∧ needK w k ≤ 23 := by
  have := least_B k way h
  unfold needK
  split <;> omega
theorem size_bd {k : Spl} {way : Int} (h : k.right way) : 1 ≤ k.size ∧ k.size ≤ 9999 := by
  obtain ⟨w, p, s, ks⟩ := k
  rw [right_mk] at h
  exact h.1
theorem mul_bd {a b A B : Int} (h1 : -A ≤ a ∧ a ≤ A) (h2 : 0 ≤ b ∧ b ≤ B) : -(A * B) ≤ a * b ∧ a * b ≤ A * B := by
  have hA : 0 ≤ A := by omega
  have x1 : a * b ≤ A * b := Int.mul_le_mul_of_nonneg_right h1.2 h2.1
  have x2 : A * b ≤ A * B := Int.mul_le_mul_of_nonneg_left h2.2 hA
  have x3 : -A * b ≤ a * b := Int.mul_le_mul_of_nonneg_right h1.1 h2.1
  rw [Int.neg_mul] at x3
  omega
theorem tdiv_bd {x s X : Int} (h : -X ≤ x ∧ x ≤ X) : -X ≤ x.tdiv s ∧ x.tdiv s ≤ X := by
  have := Int.natAbs_tdiv_le_natAbs x s
  omega
end Go.Eng.YtecafnhnkklboaaDoor
end

/- Splits: how one is laid out (plain). -/
section
namespace Go.Eng.YtecafnhnkklboaaDoor
open Go Go.Eng Go.Proofs
set_option linter.unusedSimpArgs false
set_option maxRecDepth 100000
set_option linter.unusedVariables false
/-- A pane's place. -/
structure Plc where
  p : Int
  x : Int
  y : Int
  w : Int
  h : Int
  deriving DecidableEq
def encPlc (a : Plc) : PV := .agg [.int .i64 a.p, .int .i64 a.x, .int .i64 a.y, .int .i64 a.w, .int .i64 a.h]
mutual
def layT : Spl → Int → Int → Int → Int → List Plc
  | .mk w p s ks, x, y, wd, hg => if w = 0 then [⟨p, x, y, wd, hg⟩] else layTs w wd hg ks (sharesT w ks (if w = 2 then hg else wd)) x y
def layTs (w wd hg : Int) : List Spl → List Int → Int → Int → List Plc
  | [], _, _, _ => []
  | k :: ks, ns, x, y => if w = 1 then layT k x y (ns.headD 0) hg ++ layTs w wd hg ks ns.tail (x + (ns.headD 0 + 1)) y else layT k x y wd (ns.headD 0) ++ layTs w wd hg ks ns.tail x (y + (ns.headD 0 + 1))
end
theorem layT_mk (w p s : Int) (ks : List Spl) (x y wd hg : Int) : layT (.mk w p s ks) x y wd hg = if w = 0 then [⟨p, x, y, wd, hg⟩] else layTs w wd hg ks (sharesT w ks (if w = 2 then hg else wd)) x y := by rw [layT]
/-- Shares that are enough. -/
def enough (w : Int) : List Spl → List Int → Prop
  | [], ns => ns = []
  | k :: ks, ns => ∃ n r, ns = n :: r ∧ needK w k ≤ n ∧ enough w ks r
theorem go_enough {w rest sum : Int} (hr : 0 ≤ rest) (hs : 0 < sum) : ∀ (ks : List Spl) (at_ : Int), 0 ≤ at_ → (∀ k ∈ ks, 0 ≤ k.size) →
    enough w ks (sharesGo w rest sum ks at_ ((rest * at_).tdiv sum)) ∧ sumL (sharesGo w rest sum ks at_ ((rest * at_).tdiv sum)) = sumL (ks.map (needK w)) + (rest * (at_ + sumL (ks.map Spl.size))).tdiv sum - (rest * at_).tdiv sum
  | [], at_, _, _ => by simp [sharesGo, enough, sumL]
  | k :: ks, at_, ha, hk => by
    have hk0 := hk k (by simp)
    obtain ⟨h1, h2⟩ := go_enough hr hs ks (at_ + k.size) (by omega) (fun x hx => hk x (List.mem_cons_of_mem _ hx))
    have m1 : rest * at_ ≤ rest * (at_ + k.size) := Int.mul_le_mul_of_nonneg_left (by omega) hr
    have m0 : 0 ≤ rest * at_ := Int.mul_nonneg hr ha
    have m2 : (rest * at_).tdiv sum ≤ (rest * (at_ + k.size)).tdiv sum := by
      rw [Int.tdiv_eq_ediv_of_nonneg m0, Int.tdiv_eq_ediv_of_nonneg (by omega)]
      exact Int.ediv_le_ediv hs m1
    rw [sharesGo]
    refine ⟨⟨_, _, rfl, by omega, h1⟩, ?_⟩
    simp only [sumL, List.foldr_cons, List.map_cons] at *
    rw [h2, show at_ + (k.size + List.foldr (· + ·) 0 (ks.map Spl.size)) = at_ + k.size + List.foldr (· + ·) 0 (ks.map Spl.size) by omega]
    omega
theorem enough_len {w : Int} : ∀ {ks : List Spl} {ns : List Int}, enough w ks ns → ns.length = ks.length
  | [], ns, h => by rw [h]; rfl
  | k :: ks, ns, ⟨n, r, e, _, h⟩ => by rw [e, List.length_cons, List.length_cons, enough_len h]
theorem sizes_nonneg : ∀ l : List Spl, (∀ k ∈ l, 1 ≤ k.size) → 0 ≤ sumL (l.map Spl.size)
  | [], _ => by simp [sumL]
  | k :: l, h => by
    have h1 := h k (by simp)
    have h2 := sizes_nonneg l fun x hx => h x (List.mem_cons_of_mem _ hx)
    simp only [sumL, List.map_cons, List.foldr_cons] at *
    omega
theorem shares_enough {w : Int} {ks : List Spl} {all : Int} (hr : 0 ≤ restS w ks all) (hne : ks ≠ []) (hk : ∀ k ∈ ks, 1 ≤ k.size) : enough w ks (sharesT w ks all) ∧ sumL (sharesT w ks all) = all - (ks.length - 1) := by
  have hsz : 0 < sizesS ks := by
    unfold sizesS
    match ks, hne with
    | k :: l, _ =>
      have h1 := hk k (by simp)
      have h2 := sizes_nonneg l fun x hx => hk x (List.mem_cons_of_mem k hx)
      simp only [sumL, List.map_cons, List.foldr_cons] at *
      omega
  obtain ⟨h1, h2⟩ := go_enough (w := w) hr hsz ks 0 (Int.le_refl _) (fun k hx => by have := hk k hx; omega)
  rw [Int.mul_zero, Int.zero_tdiv] at h1 h2
  refine ⟨h1, ?_⟩
  rw [sharesT, h2, Int.zero_add]
  show sumL _ + (restS w ks all * sizesS ks).tdiv (sizesS ks) - 0 = _
  rw [Int.mul_tdiv_cancel _ (by omega), restS]
  omega
/-- What is least along and across. -/
def alongT (w : Int) (a : Int × Int) : Int := if w = 2 then a.2 else a.1
def acrossT (w : Int) (a : Int × Int) : Int := if w = 2 then a.1 else a.2
theorem needK_eq (w : Int) (k : Spl) : needK w k = alongT w (leastT k) := rfl
theorem step_along {w : Int} (hw : w = 1 ∨ w = 2) (acc : Int × Int) (i : Nat) (ab : Int × Int) : alongT w (stepW w acc i ab) = alongT w acc + alongT w ab + (if 0 < i then 1 else 0) ∧ acrossT w acc ≤ acrossT w (stepW w acc i ab) ∧ acrossT w ab ≤ acrossT w (stepW w acc i ab) := by
  unfold stepW alongT acrossT
  rcases hw with rfl | rfl
  · simp only [if_true, show ¬ (1 : Int) = 2 by decide, if_false]
    by_cases h : 0 < i <;> simp [h] <;> omega
  · simp only [if_true, show ¬ (2 : Int) = 1 by decide, if_false]
    by_cases h : 0 < i <;> simp [h] <;> omega
theorem leastTs_sum {w : Int} (hw : w = 1 ∨ w = 2) : ∀ (l : List Spl) (i : Nat) (acc : Int × Int), 0 < i → alongT w (leastTs w l i acc) = alongT w acc + sumL (l.map (needK w)) + l.length ∧ acrossT w acc ≤ acrossT w (leastTs w l i acc) ∧ ∀ k ∈ l, acrossT w (leastT k) ≤ acrossT w (leastTs w l i acc)
  | [], i, acc, hi => by rw [leastTs]; simp [sumL]
  | k :: l, i, acc, hi => by
    obtain ⟨s1, s2, s3⟩ := step_along hw acc i (leastT k)
    obtain ⟨h1, h2, h3⟩ := leastTs_sum hw l (i + 1) (stepW w acc i (leastT k)) (Nat.succ_pos _)
    rw [if_pos hi] at s1
    rw [leastTs]
    refine ⟨?_, by omega, fun x hx => ?_⟩
    · simp only [sumL, List.map_cons, List.foldr_cons, List.length_cons, needK_eq] at *
      push_cast
      omega
    · rcases List.mem_cons.1 hx with rfl | hx
      · omega
      · exact h3 x hx
theorem least_sum {w p s : Int} {ks : List Spl} (hw : w = 1 ∨ w = 2) (hne : ks ≠ []) : alongT w (leastT (.mk w p s ks)) = sumL (ks.map (needK w)) + (ks.length - 1) ∧ ∀ k ∈ ks, acrossT w (leastT k) ≤ acrossT w (leastT (.mk w p s ks)) := by
  rw [leastT_mk, if_neg (by omega)]
  match ks, hne with
  | k :: l, _ =>
    obtain ⟨s1, s2, s3⟩ := step_along hw (0, 0) 0 (leastT k)
    obtain ⟨h1, h2, h3⟩ := leastTs_sum hw l 1 (stepW w (0, 0) 0 (leastT k)) (by decide)
    rw [if_neg (by decide)] at s1
    have z : alongT w (0, 0) = 0 := by unfold alongT; split <;> rfl
    rw [leastTs, Nat.zero_add]
    refine ⟨?_, fun x hx => ?_⟩
    · simp only [sumL, List.map_cons, List.foldr_cons, List.length_cons, needK_eq] at *
      push_cast
      omega
    · rcases List.mem_cons.1 hx with rfl | hx
      · omega
      · exact h3 x hx
end Go.Eng.YtecafnhnkklboaaDoor
end

/- Splits: lay, Lay (b_ x_ q_ e_). -/
section
namespace Go.Eng.YtecafnhnkklboaaDoor
open Go Go.Eng Go.Proofs
variable (W : World)
set_option linter.unusedSimpArgs false
set_option maxRecDepth 100000
set_option linter.unusedVariables false
set_option maxHeartbeats 4000000
def plcsV (l : List Plc) : List PV := l.map encPlc
theorem plcs_all (l : List Plc) : (plcsV l).all cellsB = true := by simp [plcsV, encPlc, cellsB, PV.flat, cellB]
theorem layT_len (t : Spl) : ∀ way, t.right way → ∀ x y wd hg, (layT t x y wd hg).length = (panesT t).length := by
  induction t using spl_induct with
  | h w p s ks ih =>
    intro way hr x y wd hg
    rw [right_mk] at hr
    rw [layT_mk, panesT_mk]
    by_cases h0 : w = 0
    · rw [if_pos h0, if_pos h0]; rfl
    · rw [if_neg h0, if_neg h0]
      have hkr : ∀ k ∈ ks, k.right w := by
        rcases hr.2 with ⟨h1, -⟩ | ⟨-, -, -, -, h⟩
        · exact absurd h1 h0
        · exact h
      have key : ∀ (l : List Spl), (∀ k ∈ l, k ∈ ks) → ∀ ns x y, (layTs w wd hg l ns x y).length = (l.flatMap panesT).length := by
        intro l
        induction l with
        | nil => intro _ ns x y; rfl
        | cons k l ihl =>
          intro hm ns x y
          have h1 := fun x y wd hg => ih k (hm k (by simp)) w (hkr k (hm k (by simp))) x y wd hg
          have h2 := fun ns x y => ihl (fun z hz => hm z (List.mem_cons_of_mem _ hz)) ns x y
          rw [layTs, List.flatMap_cons, List.length_append]
          split <;> rw [List.length_append, h1, h2]
      exact key ks (fun _ h => h) _ _ _
theorem enough_sum {w : Int} : ∀ {ks : List Spl} {ns : List Int}, enough w ks ns → (∀ k ∈ ks, 1 ≤ needK w k) → (ks.length : Int) ≤ sumL ns
  | [], ns, h, _ => by rw [h]; simp [sumL]
  | k :: ks, ns, ⟨n, r, e, h1, h⟩, hk => by
    have h2 := enough_sum h fun x hx => hk x (List.mem_cons_of_mem _ hx)
    have h3 := hk k (by simp)
    rw [e, List.length_cons]
    simp only [sumL, List.foldr_cons] at *
    push_cast
    omega
end Go.Eng.YtecafnhnkklboaaDoor
end

/- Splits: Lay; places compared; parted (b_ x_ q_ e_). -/
section
namespace Go.Eng.YtecafnhnkklboaaDoor
open Go Go.Eng Go.Proofs
variable (W : World)
set_option linter.unusedSimpArgs false
set_option maxRecDepth 100000
set_option linter.unusedVariables false
set_option maxHeartbeats 4000000
def laysR (t : Spl) (w h : Int) : List Plc × Int :=
  if (visS t 0 (0, [])).1 ≠ 0 then ([], (visS t 0 (0, [])).1) else if w < (leastT t).1 ∨ h < (leastT t).2 ∨ 120 < w ∨ 60 < h then ([], 3) else (layT t 0 0 w h, 0)
def Plc.ok (a : Plc) : Prop := i64ok a.p ∧ i64ok a.x ∧ i64ok a.y ∧ i64ok a.w ∧ i64ok a.h
theorem wf_plc {n : Int} (h : i64ok n) : (Lit.int .i64 n).wf = true := by
  simp [Lit.wf, IntKind.min, IntKind.max, IntKind.signed, IntKind.bits]; exact h
theorem cells_plcI : Tryd.prog.cellsOf 3 = 1 := by kernel_rfl
def litsPlc (a : Plc) : List Lit := [.int .i64 a.p, .int .i64 a.x, .int .i64 a.y, .int .i64 a.w, .int .i64 a.h]
def plcs0 : List Plc := [⟨1, 0, 0, 3, 5⟩, ⟨2, 4, 0, 7, 2⟩, ⟨3, 4, 3, 7, 2⟩]
theorem plcs0_ok : ∀ c ∈ plcs0, c.ok := by
  intro c hc
  simp only [plcs0, List.mem_cons, List.not_mem_nil, or_false] at hc
  rcases hc with rfl | rfl | rfl <;> (unfold Plc.ok i64ok; decide)
end Go.Eng.YtecafnhnkklboaaDoor
end
