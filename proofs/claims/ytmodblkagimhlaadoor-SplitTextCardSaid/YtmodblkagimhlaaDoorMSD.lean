/- Texts put together: Spl11, Spl12, Spl13, Spl14, Spl15. -/
import Derived.Test.YtmodblkagimhlaaDoorMSB
import Derived.Test.YtmodblkagimhlaaDoorMSC
/- Splits: least cells (b_ x_ q_ e_). -/
section
namespace Go.Eng.YtmodblkagimhlaaDoor
open Go Go.Eng Go.Proofs
variable (W : World)
set_option linter.unusedSimpArgs false
set_option maxRecDepth 100000
set_option linter.unusedVariables false
set_option maxHeartbeats 4000000
/-- One part more. -/
def stepW (w : Int) (acc : Int × Int) (i : Nat) (ab : Int × Int) : Int × Int :=
  if w = 1 then (if 0 < i then acc.1 + ab.1 + 1 else acc.1 + ab.1, max acc.2 ab.2) else (max acc.1 ab.1, if 0 < i then acc.2 + ab.2 + 1 else acc.2 + ab.2)
mutual
def leastT : Spl → Int × Int
  | .mk w p s ks => if w = 0 then (1, 1) else leastTs w ks 0 (0, 0)
def leastTs (w : Int) : List Spl → Nat → Int × Int → Int × Int
  | [], _, acc => acc
  | k :: ks, i, acc => leastTs w ks (i + 1) (stepW w acc i (leastT k))
end
theorem leastT_mk (w p s : Int) (ks : List Spl) : leastT (.mk w p s ks) = if w = 0 then (1, 1) else leastTs w ks 0 (0, 0) := by rw [leastT]
/-- So many cells at most, for so many panes. -/
def accB (i m : Nat) (acc : Int × Int) : Prop := (i = 0 ∧ acc = (0, 0)) ∨ (0 < i ∧ 1 ≤ acc.1 ∧ 1 ≤ acc.2 ∧ acc.1 ≤ 2 * m - 1 ∧ acc.2 ≤ 2 * m - 1)
theorem accB_step {w : Int} {i m n : Nat} {acc ab : Int × Int} (h : accB i m acc) (h1 : 1 ≤ ab.1 ∧ 1 ≤ ab.2 ∧ ab.1 ≤ 2 * n - 1 ∧ ab.2 ≤ 2 * n - 1) : accB (i + 1) (m + n) (stepW w acc i ab) := by
  refine .inr ⟨Nat.succ_pos _, ?_⟩
  unfold stepW
  rcases h with ⟨hi, ha⟩ | ⟨hi, h2, h3, h4, h5⟩
  · subst hi ha
    split <;> simp only [Nat.lt_irrefl, if_false] <;> push_cast <;> omega
  · split <;> simp only [hi, if_true] <;> push_cast <;> omega
theorem leastTs_B {w : Int} : ∀ (l : List Spl) (i m : Nat) (acc : Int × Int), (∀ k ∈ l, 1 ≤ (leastT k).1 ∧ 1 ≤ (leastT k).2 ∧ (leastT k).1 ≤ 2 * ((panesT k).length : Int) - 1 ∧ (leastT k).2 ≤ 2 * ((panesT k).length : Int) - 1) → accB i m acc → accB (i + l.length) (m + (l.flatMap panesT).length) (leastTs w l i acc)
  | [], i, m, acc, _, h => by rw [leastTs]; exact h
  | k :: l, i, m, acc, hk, h => by
    have := leastTs_B (w := w) l (i + 1) (m + (panesT k).length) (stepW w acc i (leastT k)) (fun x hx => hk x (List.mem_cons_of_mem _ hx)) (accB_step (w := w) h (hk k (by simp)))
    rw [leastTs, List.flatMap_cons, List.length_append, List.length_cons]
    rw [show i + (l.length + 1) = i + 1 + l.length by omega, ← Nat.add_assoc]
    exact this
theorem least_B (t : Spl) : ∀ way, t.right way → 1 ≤ (leastT t).1 ∧ 1 ≤ (leastT t).2 ∧ (leastT t).1 ≤ 2 * ((panesT t).length : Int) - 1 ∧ (leastT t).2 ≤ 2 * ((panesT t).length : Int) - 1 := by
  induction t using spl_induct with
  | h w p s ks ih =>
    intro way hr
    rw [right_mk] at hr
    rw [leastT_mk, panesT_mk]
    rcases hr.2 with ⟨h0, hk, -⟩ | ⟨hw, -, hk2, -, hkr⟩
    · simp [h0]
    · have hw0 : ¬ w = 0 := by omega
      rw [if_neg hw0, if_neg hw0]
      have := leastTs_B (w := w) ks 0 0 (0, 0) (fun k hk => ih k hk w (hkr k hk)) (.inl ⟨rfl, rfl⟩)
      rw [Nat.zero_add, Nat.zero_add] at this
      rcases this with ⟨h1, -⟩ | ⟨-, h1⟩
      · omega
      · exact h1
theorem least_ok (t : Spl) : ∀ way, t.right way → (panesT t).length ≤ 12 → Pure Tryd.prog W 108 [encSpl t] (.tup [.int .i64 (leastT t).1, .int .i64 (leastT t).2]) := by
  induction t using spl_induct with
  | h w p s ks ih =>
    intro way hr hn
    have hkl : (ks.map encSpl).length = ks.length := List.length_map _
    rw [right_mk] at hr
    rw [panesT_mk] at hn
    rw [leastT_mk, encSpl_mk]
    rcases hr.2 with ⟨h0, hk, -⟩ | ⟨hw, -, hk2, -, hkr⟩
    · subst h0 hk
      refine Pure.of (acalls_of_vc (drawOk W) Tryd.func108 rfl (by decide) (by decide) rfl ?_)
      (refine g0_ ?_; repeat ((first | refine n1_ fun b_ => ?_ | refine n2_ fun b_ => ?_ | refine Nat1.mk fun q_ hq_ => ?_ | refine em_ fun x_ hx_ => ?_ | refine Elem1.mk fun e_ he_ => ?_); refine g0_ ?_))
      exact .refl _
    · have hw0 : ¬ w = 0 := by omega
      rw [if_neg hw0] at hn ⊢
      have hkp := kids_panes hkr
      generalize hR : leastTs w ks 0 (0, 0) = R
      refine Pure.of (acalls_of_vc (drawOk W) Tryd.func108 rfl (by decide) (by decide) rfl ?_)
      (refine g0_ ?_; repeat ((first | refine n1_ fun b_ => ?_ | refine n2_ fun b_ => ?_ | refine Nat1.mk fun q_ hq_ => ?_ | refine em_ fun x_ hx_ => ?_ | refine Elem1.mk fun e_ he_ => ?_); refine g0_ ?_))
      revert b_
      intro bX
      (refine g1_ ?_; repeat ((first | refine n1_ fun b_ => ?_ | refine n2_ fun b_ => ?_ | refine Nat1.mk fun q_ hq_ => ?_ | refine em_ fun x_ hx_ => ?_ | refine Elem1.mk fun e_ he_ => ?_); refine g1_ ?_))
      refine' loopI (α := Nat × (Int × Int)) (fun (i, acc) => [(14, .int .i64 i), (2, .int .i64 acc.1), (3, .int .i64 acc.2)]) [(1, _), (12, _), (13, _)] (fun (i, acc) => [⟨bX, .row 4 [.agg [.int .i64 w, .int .i64 p, .int .i64 s, .sl 4 (ks.map encSpl)]] 0⟩]) (fun (i, acc) => i ≤ ks.length ∧ leastTs w (ks.drop i) i acc = R ∧ accB i ((ks.take i).flatMap panesT).length acc) (fun (i, acc) => ks.length - i) (0, (0, 0)) ?_ ?_
      · exact ⟨Nat.zero_le _, hR, .inl ⟨rfl, rfl⟩⟩
      rintro ⟨i, acc⟩ ⟨hi, hl, hB⟩
      have htk : ((ks.take i).flatMap panesT).length ≤ 12 := by
        have e : ks.flatMap panesT = (ks.take i).flatMap panesT ++ (ks.drop i).flatMap panesT := by rw [← List.flatMap_append, List.take_append_drop]
        have := congrArg List.length e
        rw [List.length_append] at this
        omega
      have hbd : -100 ≤ acc.1 ∧ acc.1 ≤ 100 ∧ -100 ≤ acc.2 ∧ acc.2 ≤ 100 := by
        rcases hB with ⟨-, rfl⟩ | ⟨-, hB⟩
        · decide
        · omega
      (refine g0_ ?_; repeat ((first | refine n1_ fun b_ => ?_ | refine n2_ fun b_ => ?_ | refine Nat1.mk fun q_ hq_ => ?_ | refine em_ fun x_ hx_ => ?_ | refine Elem1.mk fun e_ he_ => ?_); refine g0_ ?_))
      refine brec ?_; intro c_ hlt; (try rw [hlt]); cases c_ <;> replace hlt := nm_ hlt
      · have : i = ks.length := by omega
        subst this
        rw [List.drop_length, leastTs] at hl
        subst hl
        (refine g0_ ?_; repeat ((first | refine n1_ fun b_ => ?_ | refine n2_ fun b_ => ?_ | refine Nat1.mk fun q_ hq_ => ?_ | refine em_ fun x_ hx_ => ?_ | refine Elem1.mk fun e_ he_ => ?_); refine g0_ ?_))
        exact .refl _
      · have hil : i < ks.length := by omega
        (refine g0_ ?_; repeat ((first | refine n1_ fun b_ => ?_ | refine n2_ fun b_ => ?_ | refine Nat1.mk fun q_ hq_ => ?_ | refine em_ fun x_ hx_ => ?_ | refine Elem1.mk fun e_ he_ => ?_); refine g0_ ?_))
        have hm := List.mem_of_getElem? hx_
        have hkp2 := kid_panes hm
        have hcl := ih x_ hm w (hkr _ hm) (by omega)
        have hkb := least_B x_ w (hkr _ hm)
        have hnx : leastTs w (ks.drop (i + 1)) (i + 1) (stepW w acc i (leastT x_)) = R := by
          rw [← hl, List.drop_eq_getElem_cons hil, (List.getElem?_eq_some_iff.1 hx_).2, leastTs]
        have hB2 := accB_step (w := w) hB hkb
        have htk2 : ((ks.take (i + 1)).flatMap panesT).length = ((ks.take i).flatMap panesT).length + (panesT x_).length := by
          rw [take_snoc_of hx_, List.flatMap_append, List.length_append]; simp
        rw [← htk2] at hB2
        generalize leastT x_ = ab at *
        unfold stepW at hnx hB2
        obtain ⟨w2, p2, s2, ks2⟩ := x_
        rw [encSpl_mk] at hcl ⊢
        (refine g0_ ?_; repeat ((first | refine n1_ fun b_ => ?_ | refine n2_ fun b_ => ?_ | refine Nat1.mk fun q_ hq_ => ?_ | refine em_ fun x_ hx_ => ?_ | refine Elem1.mk fun e_ he_ => ?_); refine g0_ ?_))
        refine (hcl).use ?_; (refine g0_ ?_; repeat ((first | refine n1_ fun b_ => ?_ | refine n2_ fun b_ => ?_ | refine Nat1.mk fun q_ hq_ => ?_ | refine em_ fun x_ hx_ => ?_ | refine Elem1.mk fun e_ he_ => ?_); refine g0_ ?_))
        by_cases h1 : w = 1
        · rw [if_pos h1] at hnx hB2
          by_cases h2 : 0 < i
          · rw [if_pos h2] at hnx hB2
            (refine g1_ ?_; repeat ((first | refine n1_ fun b_ => ?_ | refine n2_ fun b_ => ?_ | refine Nat1.mk fun q_ hq_ => ?_ | refine em_ fun x_ hx_ => ?_ | refine Elem1.mk fun e_ he_ => ?_); refine g1_ ?_))
            refine nx_ (i + 1, (acc.1 + ab.1 + 1, max acc.2 ab.2)) ?_ ?_
            · exact ⟨hil, hnx, hB2⟩
            · ((try dsimp only); (try simp only [List.length_drop, List.length_take, List.length_append, List.length_cons, List.length_nil, List.length_map] at *); omega)
          · rw [if_neg h2] at hnx hB2
            (refine g1_ ?_; repeat ((first | refine n1_ fun b_ => ?_ | refine n2_ fun b_ => ?_ | refine Nat1.mk fun q_ hq_ => ?_ | refine em_ fun x_ hx_ => ?_ | refine Elem1.mk fun e_ he_ => ?_); refine g1_ ?_))
            refine nx_ (i + 1, (acc.1 + ab.1, max acc.2 ab.2)) ?_ ?_
            · exact ⟨hil, hnx, hB2⟩
            · ((try dsimp only); (try simp only [List.length_drop, List.length_take, List.length_append, List.length_cons, List.length_nil, List.length_map] at *); omega)
        · rw [if_neg h1] at hnx hB2
          by_cases h2 : 0 < i
          · rw [if_pos h2] at hnx hB2
            (refine g1_ ?_; repeat ((first | refine n1_ fun b_ => ?_ | refine n2_ fun b_ => ?_ | refine Nat1.mk fun q_ hq_ => ?_ | refine em_ fun x_ hx_ => ?_ | refine Elem1.mk fun e_ he_ => ?_); refine g1_ ?_))
            refine nx_ (i + 1, (max acc.1 ab.1, acc.2 + ab.2 + 1)) ?_ ?_
            · exact ⟨hil, hnx, hB2⟩
            · ((try dsimp only); (try simp only [List.length_drop, List.length_take, List.length_append, List.length_cons, List.length_nil, List.length_map] at *); omega)
          · rw [if_neg h2] at hnx hB2
            (refine g1_ ?_; repeat ((first | refine n1_ fun b_ => ?_ | refine n2_ fun b_ => ?_ | refine Nat1.mk fun q_ hq_ => ?_ | refine em_ fun x_ hx_ => ?_ | refine Elem1.mk fun e_ he_ => ?_); refine g1_ ?_))
            refine nx_ (i + 1, (max acc.1 ab.1, acc.2 + ab.2)) ?_ ?_
            · exact ⟨hil, hnx, hB2⟩
            · ((try dsimp only); (try simp only [List.length_drop, List.length_take, List.length_append, List.length_cons, List.length_nil, List.length_map] at *); omega)
end Go.Eng.YtmodblkagimhlaaDoor
end

/- Splits: shares of cells (b_ x_ q_ e_). -/
section
namespace Go.Eng.YtmodblkagimhlaaDoor
open Go Go.Eng Go.Proofs
variable (W : World)
set_option linter.unusedSimpArgs false
set_option maxRecDepth 100000
set_option linter.unusedVariables false
set_option maxHeartbeats 4000000
def needK (w : Int) (k : Spl) : Int := if w = 2 then (leastT k).2 else (leastT k).1
def sumL (l : List Int) : Int := l.foldr (· + ·) 0
theorem sumL_app (a b : List Int) : sumL (a ++ b) = sumL a + sumL b := by
  induction a with
  | nil => simp [sumL]
  | cons x a ih => simp only [sumL, List.cons_append, List.foldr_cons] at *; omega
theorem sumL_bd {a b : Int} : ∀ {l : List Int}, (∀ x ∈ l, a ≤ x ∧ x ≤ b) → a * l.length ≤ sumL l ∧ sumL l ≤ b * l.length
  | [], _ => by simp [sumL]
  | x :: l, h => by
    have h1 := h x (by simp)
    have h2 := sumL_bd (l := l) fun y hy => h y (List.mem_cons_of_mem _ hy)
    simp only [sumL, List.foldr_cons, List.length_cons] at *
    push_cast
    rw [Int.mul_add, Int.mul_add]; omega
def restS (w : Int) (ks : List Spl) (all : Int) : Int := all - (ks.length - 1) - sumL (ks.map (needK w))
def sizesS (ks : List Spl) : Int := sumL (ks.map Spl.size)
def sharesGo (w rest sum : Int) : List Spl → Int → Int → List Int
  | [], _, _ => []
  | k :: ks, at_, done => (needK w k + (rest * (at_ + k.size)).tdiv sum - done) :: sharesGo w rest sum ks (at_ + k.size) ((rest * (at_ + k.size)).tdiv sum)
def sharesT (w : Int) (ks : List Spl) (all : Int) : List Int := sharesGo w (restS w ks all) (sizesS ks) ks 0 0
theorem need_bd {w : Int} {k : Spl} {way : Int} (h : k.right way) (hn : (panesT k).length ≤ 12) : 1 ≤ needK w k ∧ needK w k ≤ 23 := by
  have := least_B k way h
  unfold needK
  split <;> omega
theorem size_bd {k : Spl} {way : Int} (h : k.right way) : 1 ≤ k.size ∧ k.size ≤ 9999 := by
  obtain ⟨w, p, s, ks⟩ := k
  rw [right_mk] at h
  exact h.1
theorem mul_bd {a b A B : Int} (h1 : -A ≤ a ∧ a ≤ A) (h2 : 0 ≤ b ∧ b ≤ B) : -(A * B) ≤ a * b ∧ a * b ≤ A * B := by
  have hA : 0 ≤ A := by omega
  have x1 : a * b ≤ A * b := Int.mul_le_mul_of_nonneg_right h1.2 h2.1
  have x2 : A * b ≤ A * B := Int.mul_le_mul_of_nonneg_left h2.2 hA
  have x3 : -A * b ≤ a * b := Int.mul_le_mul_of_nonneg_right h1.1 h2.1
  rw [Int.neg_mul] at x3
  omega
theorem tdiv_bd {x s X : Int} (h : -X ≤ x ∧ x ≤ X) : -X ≤ x.tdiv s ∧ x.tdiv s ≤ X := by
  have := Int.natAbs_tdiv_le_natAbs x s
  omega
theorem shares_ok (w p s : Int) (ks : List Spl) (all : Int) (hw : w = 1 ∨ w = 2) (hk2 : 2 ≤ ks.length) (hkr : ∀ k ∈ ks, k.right w) (hn : (ks.flatMap panesT).length ≤ 12) (ha : -1000 ≤ all ∧ all ≤ 1000) :
    Pure Tryd.prog W 147 [encSpl (.mk w p s ks), .int .i64 all] (.sl 1 (panesV (sharesT w ks all))) := by
  have hkl : (ks.map encSpl).length = ks.length := List.length_map _
  have hkp := kids_panes hkr
  rw [encSpl_mk]
  refine Pure.of (acalls_of_vc (drawOk W) Tryd.func147 rfl (by decide) (by decide) rfl ?_)
  (refine g0_ ?_; repeat ((first | refine n1_ fun b_ => ?_ | refine n2_ fun b_ => ?_ | refine Nat1.mk fun q_ hq_ => ?_ | refine em_ fun x_ hx_ => ?_ | refine Elem1.mk fun e_ he_ => ?_); refine g0_ ?_))
  refine head_ ?_; (refine g0_ ?_; repeat ((first | refine n1_ fun b_ => ?_ | refine n2_ fun b_ => ?_ | refine Nat1.mk fun q_ hq_ => ?_ | refine em_ fun x_ hx_ => ?_ | refine Elem1.mk fun e_ he_ => ?_); refine g0_ ?_))
  revert b_
  intro bX
  generalize hr0 : all - (((ks.map encSpl).length : Int) - 1) = r0
  rw [hkl] at hr0
  refine' loopI (α := Nat × Nat × (List Int) × Int × Int) (fun (i, b', l, sm, rs) => [(27, .int .i64 i), (5, accV b' 1 (panesV l)), (7, .int .i64 sm), (8, .int .i64 rs)]) [(2, _), (6, _), (25, _), (26, _)] (fun (i, b', l, sm, rs) => ⟨bX, .row 4 [.agg [.int .i64 w, .int .i64 p, .int .i64 s, .sl 4 (ks.map encSpl)]] 0⟩ :: accM b' 1 (panesV l)) (fun (i, b', l, sm, rs) => i ≤ ks.length ∧ l = (ks.take i).map (needK w) ∧ sm = sumL ((ks.take i).map Spl.size) ∧ rs = all - (ks.length - 1) - sumL ((ks.take i).map (needK w))) (fun (i, b', l, sm, rs) => ks.length - i) (0, 0, [], 0, r0) ?_ ?_
  · exact ⟨Nat.zero_le _, rfl, rfl, by simp [sumL, hr0]⟩
  rintro ⟨i, b', l, sm, rs⟩ ⟨hi, hl, hsm, hrs⟩
  have hb1 := sumL_bd (a := 1) (b := 23) (l := (ks.take i).map (needK w)) (fun x hx => by
    obtain ⟨k, hk, rfl⟩ := List.mem_map.1 hx
    have hk := List.mem_of_mem_take hk
    exact need_bd (hkr k hk) (Nat.le_trans (kid_panes hk) hn))
  have hb2 := sumL_bd (a := 1) (b := 9999) (l := (ks.take i).map Spl.size) (fun x hx => by
    obtain ⟨k, hk, rfl⟩ := List.mem_map.1 hx
    exact size_bd (hkr k (List.mem_of_mem_take hk)))
  rw [← hsm] at hb2
  simp only [List.length_map, List.length_take] at hb1 hb2
  rcases l with _ | ⟨l0, l⟩
  · (refine g0_ ?_; repeat ((first | refine n1_ fun b_ => ?_ | refine n2_ fun b_ => ?_ | refine Nat1.mk fun q_ hq_ => ?_ | refine em_ fun x_ hx_ => ?_ | refine Elem1.mk fun e_ he_ => ?_); refine g0_ ?_))
    refine brec ?_; intro c_ hlt; (try rw [hlt]); cases c_ <;> replace hlt := nm_ hlt
    · have : i = ks.length := by omega
      subst this
      rw [List.take_length] at hl hsm hrs hb1
      exact absurd (congrArg List.length hl) (by simp; omega)
    · have hil : i < ks.length := by omega
      have hll := congrArg List.length hl
      simp only [List.length_cons, List.length_nil, List.length_map, List.length_take] at hll
      (refine g0_ ?_; repeat ((first | refine n1_ fun b_ => ?_ | refine n2_ fun b_ => ?_ | refine Nat1.mk fun q_ hq_ => ?_ | refine em_ fun x_ hx_ => ?_ | refine Elem1.mk fun e_ he_ => ?_); refine g0_ ?_))
      have hm := List.mem_of_getElem? hx_
      have hkp2 := kid_panes hm
      have hcl := least_ok W x_ w (hkr _ hm) (by omega)
      have hnb := need_bd (w := w) (hkr _ hm) (by omega)
      have hsb := size_bd (hkr _ hm)
      have e1 : (ks.take (i + 1)).map (needK w) = [] ++ [needK w x_] := by rw [take_snoc_of hx_, List.map_append, ← hl]; rfl
      have e2 : sumL ((ks.take (i + 1)).map Spl.size) = sm + x_.size := by rw [take_snoc_of hx_, List.map_append, sumL_app, ← hsm]; simp [sumL]
      have e3 : all - (ks.length - 1) - sumL ((ks.take (i + 1)).map (needK w)) = rs - needK w x_ := by
        have e0 : sumL ([] ++ [needK w x_]) = sumL ((ks.take i).map (needK w)) + needK w x_ := by rw [sumL_app, ← hl]; simp [sumL]
        rw [e1, e0, hrs]; omega
      unfold needK at e1 e3 hnb
      generalize leastT x_ = ab at *
      obtain ⟨w2, p2, s2, ks2⟩ := x_
      simp only [Spl.size] at hsb e2
      rw [encSpl_mk] at hcl ⊢
      (refine g0_ ?_; repeat ((first | refine n1_ fun b_ => ?_ | refine n2_ fun b_ => ?_ | refine Nat1.mk fun q_ hq_ => ?_ | refine em_ fun x_ hx_ => ?_ | refine Elem1.mk fun e_ he_ => ?_); refine g0_ ?_))
      refine (hcl).use ?_; (refine g0_ ?_; repeat ((first | refine n1_ fun b_ => ?_ | refine n2_ fun b_ => ?_ | refine Nat1.mk fun q_ hq_ => ?_ | refine em_ fun x_ hx_ => ?_ | refine Elem1.mk fun e_ he_ => ?_); refine g0_ ?_))
      by_cases h2 : w = 2
      · rw [if_pos h2] at e1 e3 hnb
        (refine g1_ ?_; repeat ((first | refine n1_ fun b_ => ?_ | refine n2_ fun b_ => ?_ | refine Nat1.mk fun q_ hq_ => ?_ | refine em_ fun x_ hx_ => ?_ | refine Elem1.mk fun e_ he_ => ?_); refine g1_ ?_))
        refine .inl ?_
        (refine g0_ ?_; repeat ((first | refine n1_ fun b_ => ?_ | refine n2_ fun b_ => ?_ | refine Nat1.mk fun q_ hq_ => ?_ | refine em_ fun x_ hx_ => ?_ | refine Elem1.mk fun e_ he_ => ?_); refine g0_ ?_))
        try rw [show (List.map (PV.int .i64) l).length + 1 + [PV.int .i64 (ab.2)].length = (List.map (PV.int .i64) (l ++ [ab.2])).length + 1 from by simp]
        try rw [show (PV.int .i64 l0 :: List.map (PV.int .i64) l) ++ [PV.int .i64 (ab.2)] = panesV (l0 :: l ++ [ab.2]) from by simp [panesV]]
        refine nx_ (i + 1, b_, [] ++ [ab.2], sm + s2, rs - ab.2) ?_ ?_
        · exact ⟨hil, e1.symm, e2.symm, e3.symm⟩
        · ((try dsimp only); (try simp only [List.length_drop, List.length_take, List.length_append, List.length_cons, List.length_nil, List.length_map] at *); omega)
      · rw [if_neg h2] at e1 e3 hnb
        (refine g1_ ?_; repeat ((first | refine n1_ fun b_ => ?_ | refine n2_ fun b_ => ?_ | refine Nat1.mk fun q_ hq_ => ?_ | refine em_ fun x_ hx_ => ?_ | refine Elem1.mk fun e_ he_ => ?_); refine g1_ ?_))
        refine .inl ?_
        (refine g0_ ?_; repeat ((first | refine n1_ fun b_ => ?_ | refine n2_ fun b_ => ?_ | refine Nat1.mk fun q_ hq_ => ?_ | refine em_ fun x_ hx_ => ?_ | refine Elem1.mk fun e_ he_ => ?_); refine g0_ ?_))
        try rw [show (List.map (PV.int .i64) l).length + 1 + [PV.int .i64 (ab.1)].length = (List.map (PV.int .i64) (l ++ [ab.1])).length + 1 from by simp]
        try rw [show (PV.int .i64 l0 :: List.map (PV.int .i64) l) ++ [PV.int .i64 (ab.1)] = panesV (l0 :: l ++ [ab.1]) from by simp [panesV]]
        refine nx_ (i + 1, b_, [] ++ [ab.1], sm + s2, rs - ab.1) ?_ ?_
        · exact ⟨hil, e1.symm, e2.symm, e3.symm⟩
        · ((try dsimp only); (try simp only [List.length_drop, List.length_take, List.length_append, List.length_cons, List.length_nil, List.length_map] at *); omega)
  · (refine g0_ ?_; repeat ((first | refine n1_ fun b_ => ?_ | refine n2_ fun b_ => ?_ | refine Nat1.mk fun q_ hq_ => ?_ | refine em_ fun x_ hx_ => ?_ | refine Elem1.mk fun e_ he_ => ?_); refine g0_ ?_))
    refine brec ?_; intro c_ hlt; (try rw [hlt]); cases c_ <;> replace hlt := nm_ hlt
    · have : i = ks.length := by omega
      subst this
      rw [List.take_length] at hl hsm hrs hb1
      (refine g0_ ?_; repeat ((first | refine n1_ fun b_ => ?_ | refine n2_ fun b_ => ?_ | refine Nat1.mk fun q_ hq_ => ?_ | refine em_ fun x_ hx_ => ?_ | refine Elem1.mk fun e_ he_ => ?_); refine g0_ ?_))
      have hll := congrArg List.length hl
      rw [List.length_map] at hll
      rw [Nat.min_self] at hb1 hb2
      have hrs2 : -2000 ≤ rs ∧ rs ≤ 2000 := by omega
      have hsm1 : 1 ≤ sm := by omega
      have hlm2 : (List.map (PV.int .i64) (l0 :: l)).length = ks.length := by rw [List.length_map]; exact hll
      have hlm : (List.map (PV.int .i64) l).length + 1 = ks.length := by rw [List.length_map]; exact hll
      have hR : sharesT w ks all = sharesGo w rs sm ks 0 0 := by rw [sharesT, restS, sizesS, ← hrs, ← hsm]
      rw [hR]
      generalize hRR : sharesGo w rs sm ks 0 0 = R
      refine' loopI (α := Nat × Nat × (List Int) × Int × Int) (fun (j, b2, o, at_, dn) => [(55, .int .i64 j), (6, accV b2 1 (panesV o)), (13, .int .i64 at_), (14, .int .i64 dn)]) [(5, _), (7, _), (8, _), (53, _), (54, _)] (fun (j, b2, o, at_, dn) => ⟨bX, .row 4 [.agg [.int .i64 w, .int .i64 p, .int .i64 s, .sl 4 (ks.map encSpl)]] 0⟩ :: ⟨b', .row 1 (List.map (PV.int .i64) (l0 :: l)) 0⟩ :: accM b2 1 (panesV o)) (fun (j, b2, o, at_, dn) => j ≤ ks.length ∧ o ++ sharesGo w rs sm (ks.drop j) at_ dn = R ∧ (0 ≤ at_ ∧ at_ ≤ 9999 * j) ∧ o.length = j ∧ -300000000 ≤ dn ∧ dn ≤ 300000000) (fun (j, b2, o, at_, dn) => ks.length - j) (0, 0, [], 0, 0) ?_ ?_
      · exact ⟨Nat.zero_le _, hRR, by omega, rfl, by omega⟩
      rintro ⟨j, b2, o, at_, dn⟩ ⟨hj, ho, hat, hoj, hdn⟩
      rcases o with _ | ⟨o0, o⟩
      · have hom : (List.map (PV.int .i64) ([] : List Int)).length = j := by rw [List.length_map]; exact hoj
        simp only [List.length_cons, List.length_nil, List.map_cons, List.map_nil] at hoj hom
        (refine g0_ ?_; repeat ((first | refine n1_ fun b_ => ?_ | refine n2_ fun b_ => ?_ | refine Nat1.mk fun q_ hq_ => ?_ | refine em_ fun x_ hx_ => ?_ | refine Elem1.mk fun e_ he_ => ?_); refine g0_ ?_))
        refine brec ?_; intro c_ hlt; (try rw [hlt]); cases c_ <;> replace hlt := nm_ hlt
        · have : j = ks.length := by omega
          subst this
          rw [List.drop_length, sharesGo, List.append_nil] at ho
          subst ho
          (refine g0_ ?_; repeat ((first | refine n1_ fun b_ => ?_ | refine n2_ fun b_ => ?_ | refine Nat1.mk fun q_ hq_ => ?_ | refine em_ fun x_ hx_ => ?_ | refine Elem1.mk fun e_ he_ => ?_); refine g0_ ?_))
          exact .nils 1
        · have hjl : j < ks.length := by omega
          obtain ⟨n0, hn0⟩ : ∃ n0, (l0 :: l)[j]? = some n0 := ⟨(l0 :: l)[j]'(by rw [hll]; exact hjl), List.getElem?_eq_getElem _⟩
          (refine g0_ ?_; repeat ((first | refine n1_ fun b_ => ?_ | refine n2_ fun b_ => ?_ | refine Nat1.mk fun q_ hq_ => ?_ | refine em_ fun x_ hx_ => ?_ | refine Elem1.mk fun e_ he_ => ?_); refine g0_ ?_))
          have hm := List.mem_of_getElem? hx_
          have hsb := size_bd (hkr _ hm)
          have hnk : n0 = needK w x_ := by
            rw [hl, List.getElem?_map, hx_] at hn0
            exact (Option.some.inj hn0).symm
          have hnx : sharesGo w rs sm (ks.drop j) at_ dn = (needK w x_ + (rs * (at_ + x_.size)).tdiv sm - dn) :: sharesGo w rs sm (ks.drop (j + 1)) (at_ + x_.size) ((rs * (at_ + x_.size)).tdiv sm) := by
            rw [List.drop_eq_getElem_cons hjl, (List.getElem?_eq_some_iff.1 hx_).2, sharesGo]
          rw [hnx] at ho
          obtain ⟨w2, p2, s2, ks2⟩ := x_
          simp only [Spl.size] at hsb ho
          rw [← hnk] at ho
          have hnb : 1 ≤ n0 ∧ n0 ≤ 23 := by rw [hnk]; exact need_bd (hkr _ hm) (Nat.le_trans (kid_panes hm) hn)
          have hp := mul_bd (b := at_ + s2) (B := 130000) hrs2 (by omega)
          have hq := tdiv_bd (s := sm) hp
          rw [encSpl_mk]
          (refine g0_ ?_; repeat ((first | refine n1_ fun b_ => ?_ | refine n2_ fun b_ => ?_ | refine Nat1.mk fun q_ hq_ => ?_ | refine em_ fun x_ hx_ => ?_ | refine Elem1.mk fun e_ he_ => ?_); refine g0_ ?_))
          rw [Nat.zero_add, hn0] at hx_
          obtain rfl := Option.some.inj hx_
          (refine g0_ ?_; repeat ((first | refine n1_ fun b_ => ?_ | refine n2_ fun b_ => ?_ | refine Nat1.mk fun q_ hq_ => ?_ | refine em_ fun x_ hx_ => ?_ | refine Elem1.mk fun e_ he_ => ?_); refine g0_ ?_))
          refine .inl ?_
          (refine g0_ ?_; repeat ((first | refine n1_ fun b_ => ?_ | refine n2_ fun b_ => ?_ | refine Nat1.mk fun q_ hq_ => ?_ | refine em_ fun x_ hx_ => ?_ | refine Elem1.mk fun e_ he_ => ?_); refine g0_ ?_))
          try rw [show ∀ v : PV, (List.map (PV.int .i64) o).length + 1 + [v].length = (List.map (PV.int .i64) (o ++ [n0 + (rs * (at_ + s2)).tdiv sm - dn])).length + 1 from fun v => by simp]
          try rw [show (PV.int .i64 o0 :: List.map (PV.int .i64) o) ++ [PV.int .i64 (n0 + (rs * (at_ + s2)).tdiv sm - dn)] = panesV (o0 :: o ++ [n0 + (rs * (at_ + s2)).tdiv sm - dn]) from by simp [panesV]]
          refine nx_ (j + 1, b_, [] ++ [n0 + (rs * (at_ + s2)).tdiv sm - dn], at_ + s2, (rs * (at_ + s2)).tdiv sm) ?_ ?_
          · exact ⟨hjl, by rw [List.append_assoc]; exact ho, ⟨by omega, by push_cast; omega⟩, by rw [List.length_append]; simp; omega, by omega⟩
          · ((try dsimp only); (try simp only [List.length_drop, List.length_take, List.length_append, List.length_cons, List.length_nil, List.length_map] at *); omega)
      · have hom : (List.map (PV.int .i64) ((o0 :: o) : List Int)).length = j := by rw [List.length_map]; exact hoj
        simp only [List.length_cons, List.length_nil, List.map_cons, List.map_nil] at hoj hom
        (refine g0_ ?_; repeat ((first | refine n1_ fun b_ => ?_ | refine n2_ fun b_ => ?_ | refine Nat1.mk fun q_ hq_ => ?_ | refine em_ fun x_ hx_ => ?_ | refine Elem1.mk fun e_ he_ => ?_); refine g0_ ?_))
        refine brec ?_; intro c_ hlt; (try rw [hlt]); cases c_ <;> replace hlt := nm_ hlt
        · have : j = ks.length := by omega
          subst this
          rw [List.drop_length, sharesGo, List.append_nil] at ho
          subst ho
          (refine g0_ ?_; repeat ((first | refine n1_ fun b_ => ?_ | refine n2_ fun b_ => ?_ | refine Nat1.mk fun q_ hq_ => ?_ | refine em_ fun x_ hx_ => ?_ | refine Elem1.mk fun e_ he_ => ?_); refine g0_ ?_))
          exact frz_row (l := panesV (o0 :: o)) (.there _ _ _ _ _ (.there _ _ _ _ _ (.here _ _ _))) _ rfl
        · have hjl : j < ks.length := by omega
          obtain ⟨n0, hn0⟩ : ∃ n0, (l0 :: l)[j]? = some n0 := ⟨(l0 :: l)[j]'(by rw [hll]; exact hjl), List.getElem?_eq_getElem _⟩
          (refine g0_ ?_; repeat ((first | refine n1_ fun b_ => ?_ | refine n2_ fun b_ => ?_ | refine Nat1.mk fun q_ hq_ => ?_ | refine em_ fun x_ hx_ => ?_ | refine Elem1.mk fun e_ he_ => ?_); refine g0_ ?_))
          have hm := List.mem_of_getElem? hx_
          have hsb := size_bd (hkr _ hm)
          have hnk : n0 = needK w x_ := by
            rw [hl, List.getElem?_map, hx_] at hn0
            exact (Option.some.inj hn0).symm
          have hnx : sharesGo w rs sm (ks.drop j) at_ dn = (needK w x_ + (rs * (at_ + x_.size)).tdiv sm - dn) :: sharesGo w rs sm (ks.drop (j + 1)) (at_ + x_.size) ((rs * (at_ + x_.size)).tdiv sm) := by
            rw [List.drop_eq_getElem_cons hjl, (List.getElem?_eq_some_iff.1 hx_).2, sharesGo]
          rw [hnx] at ho
          obtain ⟨w2, p2, s2, ks2⟩ := x_
          simp only [Spl.size] at hsb ho
          rw [← hnk] at ho
          have hnb : 1 ≤ n0 ∧ n0 ≤ 23 := by rw [hnk]; exact need_bd (hkr _ hm) (Nat.le_trans (kid_panes hm) hn)
          have hp := mul_bd (b := at_ + s2) (B := 130000) hrs2 (by omega)
          have hq := tdiv_bd (s := sm) hp
          rw [encSpl_mk]
          (refine g0_ ?_; repeat ((first | refine n1_ fun b_ => ?_ | refine n2_ fun b_ => ?_ | refine Nat1.mk fun q_ hq_ => ?_ | refine em_ fun x_ hx_ => ?_ | refine Elem1.mk fun e_ he_ => ?_); refine g0_ ?_))
          rw [Nat.zero_add, hn0] at hx_
          obtain rfl := Option.some.inj hx_
          (refine g0_ ?_; repeat ((first | refine n1_ fun b_ => ?_ | refine n2_ fun b_ => ?_ | refine Nat1.mk fun q_ hq_ => ?_ | refine em_ fun x_ hx_ => ?_ | refine Elem1.mk fun e_ he_ => ?_); refine g0_ ?_))
          refine .inl ?_
          (refine g0_ ?_; repeat ((first | refine n1_ fun b_ => ?_ | refine n2_ fun b_ => ?_ | refine Nat1.mk fun q_ hq_ => ?_ | refine em_ fun x_ hx_ => ?_ | refine Elem1.mk fun e_ he_ => ?_); refine g0_ ?_))
          try rw [show ∀ v : PV, (List.map (PV.int .i64) o).length + 1 + [v].length = (List.map (PV.int .i64) (o ++ [n0 + (rs * (at_ + s2)).tdiv sm - dn])).length + 1 from fun v => by simp]
          try rw [show (PV.int .i64 o0 :: List.map (PV.int .i64) o) ++ [PV.int .i64 (n0 + (rs * (at_ + s2)).tdiv sm - dn)] = panesV (o0 :: o ++ [n0 + (rs * (at_ + s2)).tdiv sm - dn]) from by simp [panesV]]
          refine nx_ (j + 1, b_, (o0 :: o) ++ [n0 + (rs * (at_ + s2)).tdiv sm - dn], at_ + s2, (rs * (at_ + s2)).tdiv sm) ?_ ?_
          · exact ⟨hjl, by rw [List.append_assoc]; exact ho, ⟨by omega, by push_cast; omega⟩, by rw [List.length_append]; simp; omega, by omega⟩
          · ((try dsimp only); (try simp only [List.length_drop, List.length_take, List.length_append, List.length_cons, List.length_nil, List.length_map] at *); omega)
    · have hil : i < ks.length := by omega
      have hll := congrArg List.length hl
      simp only [List.length_cons, List.length_nil, List.length_map, List.length_take] at hll
      (refine g0_ ?_; repeat ((first | refine n1_ fun b_ => ?_ | refine n2_ fun b_ => ?_ | refine Nat1.mk fun q_ hq_ => ?_ | refine em_ fun x_ hx_ => ?_ | refine Elem1.mk fun e_ he_ => ?_); refine g0_ ?_))
      have hm := List.mem_of_getElem? hx_
      have hkp2 := kid_panes hm
      have hcl := least_ok W x_ w (hkr _ hm) (by omega)
      have hnb := need_bd (w := w) (hkr _ hm) (by omega)
      have hsb := size_bd (hkr _ hm)
      have e1 : (ks.take (i + 1)).map (needK w) = (l0 :: l) ++ [needK w x_] := by rw [take_snoc_of hx_, List.map_append, ← hl]; rfl
      have e2 : sumL ((ks.take (i + 1)).map Spl.size) = sm + x_.size := by rw [take_snoc_of hx_, List.map_append, sumL_app, ← hsm]; simp [sumL]
      have e3 : all - (ks.length - 1) - sumL ((ks.take (i + 1)).map (needK w)) = rs - needK w x_ := by
        have e0 : sumL ((l0 :: l) ++ [needK w x_]) = sumL ((ks.take i).map (needK w)) + needK w x_ := by rw [sumL_app, ← hl]; simp [sumL]
        rw [e1, e0, hrs]; omega
      unfold needK at e1 e3 hnb
      generalize leastT x_ = ab at *
      obtain ⟨w2, p2, s2, ks2⟩ := x_
      simp only [Spl.size] at hsb e2
      rw [encSpl_mk] at hcl ⊢
      (refine g0_ ?_; repeat ((first | refine n1_ fun b_ => ?_ | refine n2_ fun b_ => ?_ | refine Nat1.mk fun q_ hq_ => ?_ | refine em_ fun x_ hx_ => ?_ | refine Elem1.mk fun e_ he_ => ?_); refine g0_ ?_))
      refine (hcl).use ?_; (refine g0_ ?_; repeat ((first | refine n1_ fun b_ => ?_ | refine n2_ fun b_ => ?_ | refine Nat1.mk fun q_ hq_ => ?_ | refine em_ fun x_ hx_ => ?_ | refine Elem1.mk fun e_ he_ => ?_); refine g0_ ?_))
      by_cases h2 : w = 2
      · rw [if_pos h2] at e1 e3 hnb
        (refine g1_ ?_; repeat ((first | refine n1_ fun b_ => ?_ | refine n2_ fun b_ => ?_ | refine Nat1.mk fun q_ hq_ => ?_ | refine em_ fun x_ hx_ => ?_ | refine Elem1.mk fun e_ he_ => ?_); refine g1_ ?_))
        refine .inl ?_
        (refine g0_ ?_; repeat ((first | refine n1_ fun b_ => ?_ | refine n2_ fun b_ => ?_ | refine Nat1.mk fun q_ hq_ => ?_ | refine em_ fun x_ hx_ => ?_ | refine Elem1.mk fun e_ he_ => ?_); refine g0_ ?_))
        try rw [show (List.map (PV.int .i64) l).length + 1 + [PV.int .i64 (ab.2)].length = (List.map (PV.int .i64) (l ++ [ab.2])).length + 1 from by simp]
        try rw [show (PV.int .i64 l0 :: List.map (PV.int .i64) l) ++ [PV.int .i64 (ab.2)] = panesV (l0 :: l ++ [ab.2]) from by simp [panesV]]
        refine nx_ (i + 1, b_, (l0 :: l) ++ [ab.2], sm + s2, rs - ab.2) ?_ ?_
        · exact ⟨hil, e1.symm, e2.symm, e3.symm⟩
        · ((try dsimp only); (try simp only [List.length_drop, List.length_take, List.length_append, List.length_cons, List.length_nil, List.length_map] at *); omega)
      · rw [if_neg h2] at e1 e3 hnb
        (refine g1_ ?_; repeat ((first | refine n1_ fun b_ => ?_ | refine n2_ fun b_ => ?_ | refine Nat1.mk fun q_ hq_ => ?_ | refine em_ fun x_ hx_ => ?_ | refine Elem1.mk fun e_ he_ => ?_); refine g1_ ?_))
        refine .inl ?_
        (refine g0_ ?_; repeat ((first | refine n1_ fun b_ => ?_ | refine n2_ fun b_ => ?_ | refine Nat1.mk fun q_ hq_ => ?_ | refine em_ fun x_ hx_ => ?_ | refine Elem1.mk fun e_ he_ => ?_); refine g0_ ?_))
        try rw [show (List.map (PV.int .i64) l).length + 1 + [PV.int .i64 (ab.1)].length = (List.map (PV.int .i64) (l ++ [ab.1])).length + 1 from by simp]
        try rw [show (PV.int .i64 l0 :: List.map (PV.int .i64) l) ++ [PV.int .i64 (ab.1)] = panesV (l0 :: l ++ [ab.1]) from by simp [panesV]]
        refine nx_ (i + 1, b_, (l0 :: l) ++ [ab.1], sm + s2, rs - ab.1) ?_ ?_
        · exact ⟨hil, e1.symm, e2.symm, e3.symm⟩
        · ((try dsimp only); (try simp only [List.length_drop, List.length_take, List.length_append, List.length_cons, List.length_nil, List.length_map] at *); omega)
end Go.Eng.YtmodblkagimhlaaDoor
end

/- Splits: how one is laid out (plain). -/
section
namespace Go.Eng.YtmodblkagimhlaaDoor
open Go Go.Eng Go.Proofs
set_option linter.unusedSimpArgs false
set_option maxRecDepth 100000
set_option linter.unusedVariables false
/-- A pane's place. -/
structure Plc where
  p : Int
  x : Int
  y : Int
  w : Int
  h : Int
  deriving DecidableEq
def encPlc (a : Plc) : PV := .agg [.int .i64 a.p, .int .i64 a.x, .int .i64 a.y, .int .i64 a.w, .int .i64 a.h]
mutual
def layT : Spl → Int → Int → Int → Int → List Plc
  | .mk w p s ks, x, y, wd, hg => if w = 0 then [⟨p, x, y, wd, hg⟩] else layTs w wd hg ks (sharesT w ks (if w = 2 then hg else wd)) x y
def layTs (w wd hg : Int) : List Spl → List Int → Int → Int → List Plc
  | [], _, _, _ => []
  | k :: ks, ns, x, y => if w = 1 then layT k x y (ns.headD 0) hg ++ layTs w wd hg ks ns.tail (x + (ns.headD 0 + 1)) y else layT k x y wd (ns.headD 0) ++ layTs w wd hg ks ns.tail x (y + (ns.headD 0 + 1))
end
theorem layT_mk (w p s : Int) (ks : List Spl) (x y wd hg : Int) : layT (.mk w p s ks) x y wd hg = if w = 0 then [⟨p, x, y, wd, hg⟩] else layTs w wd hg ks (sharesT w ks (if w = 2 then hg else wd)) x y := by rw [layT]
/-- Shares that are enough. -/
def enough (w : Int) : List Spl → List Int → Prop
  | [], ns => ns = []
  | k :: ks, ns => ∃ n r, ns = n :: r ∧ needK w k ≤ n ∧ enough w ks r
theorem go_enough {w rest sum : Int} (hr : 0 ≤ rest) (hs : 0 < sum) : ∀ (ks : List Spl) (at_ : Int), 0 ≤ at_ → (∀ k ∈ ks, 0 ≤ k.size) →
    enough w ks (sharesGo w rest sum ks at_ ((rest * at_).tdiv sum)) ∧ sumL (sharesGo w rest sum ks at_ ((rest * at_).tdiv sum)) = sumL (ks.map (needK w)) + (rest * (at_ + sumL (ks.map Spl.size))).tdiv sum - (rest * at_).tdiv sum
  | [], at_, _, _ => by simp [sharesGo, enough, sumL]
  | k :: ks, at_, ha, hk => by
    have hk0 := hk k (by simp)
    obtain ⟨h1, h2⟩ := go_enough hr hs ks (at_ + k.size) (by omega) (fun x hx => hk x (List.mem_cons_of_mem _ hx))
    have m1 : rest * at_ ≤ rest * (at_ + k.size) := Int.mul_le_mul_of_nonneg_left (by omega) hr
    have m0 : 0 ≤ rest * at_ := Int.mul_nonneg hr ha
    have m2 : (rest * at_).tdiv sum ≤ (rest * (at_ + k.size)).tdiv sum := by
      rw [Int.tdiv_eq_ediv_of_nonneg m0, Int.tdiv_eq_ediv_of_nonneg (by omega)]
      exact Int.ediv_le_ediv hs m1
    rw [sharesGo]
    refine ⟨⟨_, _, rfl, by omega, h1⟩, ?_⟩
    simp only [sumL, List.foldr_cons, List.map_cons] at *
    rw [h2, show at_ + (k.size + List.foldr (· + ·) 0 (ks.map Spl.size)) = at_ + k.size + List.foldr (· + ·) 0 (ks.map Spl.size) by omega]
    omega
theorem enough_len {w : Int} : ∀ {ks : List Spl} {ns : List Int}, enough w ks ns → ns.length = ks.length
  | [], ns, h => by rw [h]; rfl
  | k :: ks, ns, ⟨n, r, e, _, h⟩ => by rw [e, List.length_cons, List.length_cons, enough_len h]
theorem sizes_nonneg : ∀ l : List Spl, (∀ k ∈ l, 1 ≤ k.size) → 0 ≤ sumL (l.map Spl.size)
  | [], _ => by simp [sumL]
  | k :: l, h => by
    have h1 := h k (by simp)
    have h2 := sizes_nonneg l fun x hx => h x (List.mem_cons_of_mem _ hx)
    simp only [sumL, List.map_cons, List.foldr_cons] at *
    omega
theorem shares_enough {w : Int} {ks : List Spl} {all : Int} (hr : 0 ≤ restS w ks all) (hne : ks ≠ []) (hk : ∀ k ∈ ks, 1 ≤ k.size) : enough w ks (sharesT w ks all) ∧ sumL (sharesT w ks all) = all - (ks.length - 1) := by
  have hsz : 0 < sizesS ks := by
    unfold sizesS
    match ks, hne with
    | k :: l, _ =>
      have h1 := hk k (by simp)
      have h2 := sizes_nonneg l fun x hx => hk x (List.mem_cons_of_mem k hx)
      simp only [sumL, List.map_cons, List.foldr_cons] at *
      omega
  obtain ⟨h1, h2⟩ := go_enough (w := w) hr hsz ks 0 (Int.le_refl _) (fun k hx => by have := hk k hx; omega)
  rw [Int.mul_zero, Int.zero_tdiv] at h1 h2
  refine ⟨h1, ?_⟩
  rw [sharesT, h2, Int.zero_add]
  show sumL _ + (restS w ks all * sizesS ks).tdiv (sizesS ks) - 0 = _
  rw [Int.mul_tdiv_cancel _ (by omega), restS]
  omega
/-- What is least along and across. -/
def alongT (w : Int) (a : Int × Int) : Int := if w = 2 then a.2 else a.1
def acrossT (w : Int) (a : Int × Int) : Int := if w = 2 then a.1 else a.2
theorem needK_eq (w : Int) (k : Spl) : needK w k = alongT w (leastT k) := rfl
theorem step_along {w : Int} (hw : w = 1 ∨ w = 2) (acc : Int × Int) (i : Nat) (ab : Int × Int) : alongT w (stepW w acc i ab) = alongT w acc + alongT w ab + (if 0 < i then 1 else 0) ∧ acrossT w acc ≤ acrossT w (stepW w acc i ab) ∧ acrossT w ab ≤ acrossT w (stepW w acc i ab) := by
  unfold stepW alongT acrossT
  rcases hw with rfl | rfl
  · simp only [if_true, show ¬ (1 : Int) = 2 by decide, if_false]
    by_cases h : 0 < i <;> simp [h] <;> omega
  · simp only [if_true, show ¬ (2 : Int) = 1 by decide, if_false]
    by_cases h : 0 < i <;> simp [h] <;> omega
theorem leastTs_sum {w : Int} (hw : w = 1 ∨ w = 2) : ∀ (l : List Spl) (i : Nat) (acc : Int × Int), 0 < i → alongT w (leastTs w l i acc) = alongT w acc + sumL (l.map (needK w)) + l.length ∧ acrossT w acc ≤ acrossT w (leastTs w l i acc) ∧ ∀ k ∈ l, acrossT w (leastT k) ≤ acrossT w (leastTs w l i acc)
  | [], i, acc, hi => by rw [leastTs]; simp [sumL]
  | k :: l, i, acc, hi => by
    obtain ⟨s1, s2, s3⟩ := step_along hw acc i (leastT k)
    obtain ⟨h1, h2, h3⟩ := leastTs_sum hw l (i + 1) (stepW w acc i (leastT k)) (Nat.succ_pos _)
    rw [if_pos hi] at s1
    rw [leastTs]
    refine ⟨?_, by omega, fun x hx => ?_⟩
    · simp only [sumL, List.map_cons, List.foldr_cons, List.length_cons, needK_eq] at *
      push_cast
      omega
    · rcases List.mem_cons.1 hx with rfl | hx
      · omega
      · exact h3 x hx
theorem least_sum {w p s : Int} {ks : List Spl} (hw : w = 1 ∨ w = 2) (hne : ks ≠ []) : alongT w (leastT (.mk w p s ks)) = sumL (ks.map (needK w)) + (ks.length - 1) ∧ ∀ k ∈ ks, acrossT w (leastT k) ≤ acrossT w (leastT (.mk w p s ks)) := by
  rw [leastT_mk, if_neg (by omega)]
  match ks, hne with
  | k :: l, _ =>
    obtain ⟨s1, s2, s3⟩ := step_along hw (0, 0) 0 (leastT k)
    obtain ⟨h1, h2, h3⟩ := leastTs_sum hw l 1 (stepW w (0, 0) 0 (leastT k)) (by decide)
    rw [if_neg (by decide)] at s1
    have z : alongT w (0, 0) = 0 := by unfold alongT; split <;> rfl
    rw [leastTs, Nat.zero_add]
    refine ⟨?_, fun x hx => ?_⟩
    · simp only [sumL, List.map_cons, List.foldr_cons, List.length_cons, needK_eq] at *
      push_cast
      omega
    · rcases List.mem_cons.1 hx with rfl | hx
      · omega
      · exact h3 x hx
end Go.Eng.YtmodblkagimhlaaDoor
end

/- Splits: lay, Lay (b_ x_ q_ e_). -/
section
namespace Go.Eng.YtmodblkagimhlaaDoor
open Go Go.Eng Go.Proofs
variable (W : World)
set_option linter.unusedSimpArgs false
set_option maxRecDepth 100000
set_option linter.unusedVariables false
set_option maxHeartbeats 4000000
def plcsV (l : List Plc) : List PV := l.map encPlc
theorem plcs_all (l : List Plc) : (plcsV l).all cellsB = true := by simp [plcsV, encPlc, cellsB, PV.flat, cellB]
theorem layT_len (t : Spl) : ∀ way, t.right way → ∀ x y wd hg, (layT t x y wd hg).length = (panesT t).length := by
  induction t using spl_induct with
  | h w p s ks ih =>
    intro way hr x y wd hg
    rw [right_mk] at hr
    rw [layT_mk, panesT_mk]
    by_cases h0 : w = 0
    · rw [if_pos h0, if_pos h0]; rfl
    · rw [if_neg h0, if_neg h0]
      have hkr : ∀ k ∈ ks, k.right w := by
        rcases hr.2 with ⟨h1, -⟩ | ⟨-, -, -, -, h⟩
        · exact absurd h1 h0
        · exact h
      have key : ∀ (l : List Spl), (∀ k ∈ l, k ∈ ks) → ∀ ns x y, (layTs w wd hg l ns x y).length = (l.flatMap panesT).length := by
        intro l
        induction l with
        | nil => intro _ ns x y; rfl
        | cons k l ihl =>
          intro hm ns x y
          have h1 := fun x y wd hg => ih k (hm k (by simp)) w (hkr k (hm k (by simp))) x y wd hg
          have h2 := fun ns x y => ihl (fun z hz => hm z (List.mem_cons_of_mem _ hz)) ns x y
          rw [layTs, List.flatMap_cons, List.length_append]
          split <;> rw [List.length_append, h1, h2]
      exact key ks (fun _ h => h) _ _ _
theorem enough_sum {w : Int} : ∀ {ks : List Spl} {ns : List Int}, enough w ks ns → (∀ k ∈ ks, 1 ≤ needK w k) → (ks.length : Int) ≤ sumL ns
  | [], ns, h, _ => by rw [h]; simp [sumL]
  | k :: ks, ns, ⟨n, r, e, h1, h⟩, hk => by
    have h2 := enough_sum h fun x hx => hk x (List.mem_cons_of_mem _ hx)
    have h3 := hk k (by simp)
    rw [e, List.length_cons]
    simp only [sumL, List.foldr_cons] at *
    push_cast
    omega
theorem layS_ok (t : Spl) : ∀ way, t.right way → (panesT t).length ≤ 12 → ∀ x y wd hg : Int, (leastT t).1 ≤ wd → (leastT t).2 ≤ hg → 0 ≤ x → 0 ≤ y → x + wd ≤ 300 → y + hg ≤ 300 →
    Pure Tryd.prog W 109 [encSpl t, .agg [.int .i64 x, .int .i64 y, .int .i64 wd, .int .i64 hg]] (.sl 5 (plcsV (layT t x y wd hg))) := by
  induction t using spl_induct with
  | h w p s ks ih =>
    intro way hr hn x y wd hg hlw hlh hx hy hxw hyh
    have hkl : (ks.map encSpl).length = ks.length := List.length_map _
    have hr0 := hr
    rw [right_mk] at hr
    have hll := layT_len (.mk w p s ks) way hr0 x y wd hg
    have hlb := least_B (.mk w p s ks) way hr0
    rw [panesT_mk] at hn hll
    rw [layT_mk] at hll ⊢
    rcases hr.2 with ⟨h0, hk, -⟩ | ⟨hw, -, hk2, -, hkr⟩
    · subst h0 hk
      rw [encSpl_mk]
      refine Pure.of (acalls_of_vc (drawOk W) Tryd.func109 rfl (by decide) (by decide) rfl ?_)
      (refine g0_ ?_; repeat ((first | refine n1_ fun b_ => ?_ | refine n2_ fun b_ => ?_ | refine Nat1.mk fun q_ hq_ => ?_ | refine em_ fun x_ hx_ => ?_ | refine Elem1.mk fun e_ he_ => ?_); refine g0_ ?_))
      refine .inl ?_
      (refine g0_ ?_; repeat ((first | refine n1_ fun b_ => ?_ | refine n2_ fun b_ => ?_ | refine Nat1.mk fun q_ hq_ => ?_ | refine em_ fun x_ hx_ => ?_ | refine Elem1.mk fun e_ he_ => ?_); refine g0_ ?_))
      exact .refl _
    · have hw0 : ¬ w = 0 := by omega
      rw [if_neg hw0] at hn ⊢
      rw [if_neg hw0, if_neg hw0] at hll
      have hkp := kids_panes hkr
      have hne : ks ≠ [] := by rintro rfl; simp at hk2
      obtain ⟨hs1, hs2⟩ := least_sum (p := p) (s := s) hw hne
      generalize hall : (if w = 2 then hg else wd) = all at *
      have hal : alongT w (leastT (.mk w p s ks)) ≤ all := by unfold alongT; rw [← hall]; split <;> assumption
      have hab : all ≤ 300 ∧ 1 ≤ all := by rw [← hall]; split <;> omega
      have hrest : 0 ≤ restS w ks all := by unfold restS; omega
      obtain ⟨he1, he2⟩ := shares_enough hrest hne fun k hk => (size_bd (hkr k hk)).1
      have hsh := shares_ok W w p s ks all hw hk2 hkr hn (by omega)
      have hnl := enough_len he1
      rw [encSpl_mk] at hsh ⊢
      generalize hns : sharesT w ks all = ns at *
      generalize hR : layTs w wd hg ks ns x y = R at *
      rcases hw with rfl | rfl
      · rw [if_neg (by decide)] at hall
        subst hall
        refine Pure.of (acalls_of_vc (drawOk W) Tryd.func109 rfl (by decide) (by decide) rfl ?_)
        (refine g0_ ?_; repeat ((first | refine n1_ fun b_ => ?_ | refine n2_ fun b_ => ?_ | refine Nat1.mk fun q_ hq_ => ?_ | refine em_ fun x_ hx_ => ?_ | refine Elem1.mk fun e_ he_ => ?_); refine g0_ ?_))
        rename_i bT
        revert b_
        intro bR
        (refine g1_ ?_; repeat ((first | refine n1_ fun b_ => ?_ | refine n2_ fun b_ => ?_ | refine Nat1.mk fun q_ hq_ => ?_ | refine em_ fun x_ hx_ => ?_ | refine Elem1.mk fun e_ he_ => ?_); refine g1_ ?_))
        refine (hsh).use ?_; (refine g0_ ?_; repeat ((first | refine n1_ fun b_ => ?_ | refine n2_ fun b_ => ?_ | refine Nat1.mk fun q_ hq_ => ?_ | refine em_ fun x_ hx_ => ?_ | refine Elem1.mk fun e_ he_ => ?_); refine g0_ ?_))
        refine' loopI (α := Nat × Nat × (List Plc) × Int) (fun (i, b', o, x') => [(29, .int .i64 i), (5, accV b' 5 (plcsV o))]) [(2, _), (3, _), (27, _), (28, _)] (fun (i, b', o, x') => ⟨bT, .row 4 [.agg [.int .i64 1, .int .i64 p, .int .i64 s, .sl 4 (ks.map encSpl)]] 0⟩ :: ⟨bR, .row 4 [.agg [.int .i64 x', .int .i64 y, .int .i64 wd, .int .i64 hg]] 0⟩ :: accM b' 5 (plcsV o)) (fun (i, b', o, x') => i ≤ ks.length ∧ o ++ layTs 1 wd hg (ks.drop i) (ns.drop i) x' y = R ∧ enough 1 (ks.drop i) (ns.drop i) ∧ 0 ≤ x' ∧ x' + sumL (ns.drop i) + ((ks.length : Int) - i) ≤ x + wd + 1) (fun (i, b', o, x') => ks.length - i) (0, 0, [], x) ?_ ?_
        · exact ⟨Nat.zero_le _, hR, he1, hx, by simp only [List.drop_zero]; omega⟩
        rintro ⟨i, b', o, x'⟩ ⟨hi, ho, hen, hx0, hxs⟩
        rcases o with _ | ⟨o0, o⟩
        · have hol := congrArg List.length ho
          simp only [List.length_append, List.length_cons, List.length_nil] at hol
          (refine g0_ ?_; repeat ((first | refine n1_ fun b_ => ?_ | refine n2_ fun b_ => ?_ | refine Nat1.mk fun q_ hq_ => ?_ | refine em_ fun x_ hx_ => ?_ | refine Elem1.mk fun e_ he_ => ?_); refine g0_ ?_))
          refine brec ?_; intro c_ hlt; (try rw [hlt]); cases c_ <;> replace hlt := nm_ hlt
          · have : i = ks.length := by rw [panesV_len, hnl] at hlt; omega
            subst this
            rw [List.drop_length, layTs, List.append_nil] at ho
            subst ho
            (refine g0_ ?_; repeat ((first | refine n1_ fun b_ => ?_ | refine n2_ fun b_ => ?_ | refine Nat1.mk fun q_ hq_ => ?_ | refine em_ fun x_ hx_ => ?_ | refine Elem1.mk fun e_ he_ => ?_); refine g0_ ?_))
            exact .nils 5
          · have hil : i < ks.length := by rw [panesV_len, hnl] at hlt; omega
            obtain ⟨kd, hkD⟩ : ∃ k, ks[i]? = some k := ⟨ks[i], List.getElem?_eq_getElem hil⟩
            have hm := List.mem_of_getElem? hkD
            have hkp2 := kid_panes hm
            have hkb := least_B kd _ (hkr _ hm)
            have hdk : ks.drop i = kd :: ks.drop (i + 1) := by rw [List.drop_eq_getElem_cons hil, (List.getElem?_eq_some_iff.1 hkD).2]
            rw [hdk] at ho hen
            obtain ⟨n, r, hdn, hnb, hen2⟩ := hen
            have hni : ns[i]? = some n := by
              have := congrArg List.head? hdn
              rwa [List.head?_drop] at this
            have hdr : ns.drop (i + 1) = r := by
              have := congrArg List.tail hdn
              rwa [List.tail_drop] at this
            have hes := enough_sum hen2 fun k hk => (need_bd (hkr k (List.mem_of_mem_drop hk)) (Nat.le_trans (kid_panes (List.mem_of_mem_drop hk)) hn)).1
            rw [List.length_drop] at hes
            rw [hdn] at ho hxs
            simp only [sumL, List.foldr_cons] at hxs hes
            have hn0 : 1 ≤ n := by exact Int.le_trans (need_bd (hkr _ hm) (Nat.le_trans hkp2 hn)).1 hnb
            have hn3 : n ≤ 310 := by omega
            have hx3 : x' ≤ 310 := by omega
            have hcl := ih kd hm 1 (hkr _ hm) (by omega) x' y n hg hnb (Int.le_trans (hs2 kd hm) hlh) (by omega) (by omega) (by omega) (by omega)
            have hln := layT_len kd 1 (hkr _ hm) x' y n hg
            rw [layTs, if_pos rfl, List.headD_cons, List.tail_cons] at ho
            obtain ⟨w2, p2, s2, ks2⟩ := kd
            rw [encSpl_mk] at hcl
            generalize hq : layT (.mk w2 p2 s2 ks2) x' y n hg = q at *
            have hq1 := right_panes _ _ (hkr _ hm)
            rw [← hln] at hq1
            obtain ⟨q0, q, rfl⟩ : ∃ a l, q = a :: l := List.exists_cons_of_length_pos (by omega)
            rw [show plcsV (q0 :: q) = encPlc q0 :: plcsV q from rfl] at hcl
            simp only [List.length_cons] at hln hq1
            have hql : (plcsV q).length = q.length := List.length_map _
            (refine g0_ ?_; repeat ((first | refine n1_ fun b_ => ?_ | refine n2_ fun b_ => ?_ | refine Nat1.mk fun q_ hq_ => ?_ | refine em_ fun x_ hx_ => ?_ | refine Elem1.mk fun e_ he_ => ?_); refine g0_ ?_))
            (refine g1_ ?_; repeat ((first | refine n1_ fun b_ => ?_ | refine n2_ fun b_ => ?_ | refine Nat1.mk fun q_ hq_ => ?_ | refine em_ fun x_ hx_ => ?_ | refine Elem1.mk fun e_ he_ => ?_); refine g1_ ?_))
            refine Draws.free ⟨8, by decide +kernel, ?_⟩; (refine g0_ ?_; repeat ((first | refine n1_ fun b_ => ?_ | refine n2_ fun b_ => ?_ | refine Nat1.mk fun q_ hq_ => ?_ | refine em_ fun x_ hx_ => ?_ | refine Elem1.mk fun e_ he_ => ?_); refine g0_ ?_))
            (try rw [encSpl_mk])
            (refine g0_ ?_; repeat ((first | refine n1_ fun b_ => ?_ | refine n2_ fun b_ => ?_ | refine Nat1.mk fun q_ hq_ => ?_ | refine em_ fun x_ hx_ => ?_ | refine Elem1.mk fun e_ he_ => ?_); refine g0_ ?_))
            (try rw [encSpls_eq])
            refine ⟨_, (hcl).quiet, ?_⟩; (refine g0_ ?_; repeat ((first | refine n1_ fun b_ => ?_ | refine n2_ fun b_ => ?_ | refine Nat1.mk fun q_ hq_ => ?_ | refine em_ fun x_ hx_ => ?_ | refine Elem1.mk fun e_ he_ => ?_); refine g0_ ?_))
            refine need.mk (plcs_all (q0 :: q)) ?_
            (refine g0_ ?_; repeat ((first | refine n1_ fun b_ => ?_ | refine n2_ fun b_ => ?_ | refine Nat1.mk fun q_ hq_ => ?_ | refine em_ fun x_ hx_ => ?_ | refine Elem1.mk fun e_ he_ => ?_); refine g0_ ?_))
            try rw [show (List.map encPlc o).length + 1 + (encPlc q0 :: plcsV q).length = (List.map encPlc (o ++ q0 :: q)).length + 1 from by simp [plcsV]; omega]
            try rw [show (encPlc o0 :: List.map encPlc o) ++ (encPlc q0 :: plcsV q) = plcsV (o0 :: o ++ q0 :: q) from by simp [plcsV]]
            refine nx_ (i + 1, b_, [] ++ q0 :: q, x' + (n + 1)) ?_ ?_
            · exact ⟨hil, by rw [hdr, List.append_assoc]; exact ho, by rw [hdr]; exact hen2, by omega, by rw [hdr]; simp only [sumL]; push_cast; omega⟩
            · ((try dsimp only); (try simp only [List.length_drop, List.length_take, List.length_append, List.length_cons, List.length_nil, List.length_map] at *); omega)
        · have hol := congrArg List.length ho
          simp only [List.length_append, List.length_cons, List.length_nil] at hol
          (refine g0_ ?_; repeat ((first | refine n1_ fun b_ => ?_ | refine n2_ fun b_ => ?_ | refine Nat1.mk fun q_ hq_ => ?_ | refine em_ fun x_ hx_ => ?_ | refine Elem1.mk fun e_ he_ => ?_); refine g0_ ?_))
          refine brec ?_; intro c_ hlt; (try rw [hlt]); cases c_ <;> replace hlt := nm_ hlt
          · have : i = ks.length := by rw [panesV_len, hnl] at hlt; omega
            subst this
            rw [List.drop_length, layTs, List.append_nil] at ho
            subst ho
            (refine g0_ ?_; repeat ((first | refine n1_ fun b_ => ?_ | refine n2_ fun b_ => ?_ | refine Nat1.mk fun q_ hq_ => ?_ | refine em_ fun x_ hx_ => ?_ | refine Elem1.mk fun e_ he_ => ?_); refine g0_ ?_))
            exact frz_row (l := plcsV (o0 :: o)) (.there _ _ _ _ _ (.there _ _ _ _ _ (.here _ _ _))) _ rfl
          · have hil : i < ks.length := by rw [panesV_len, hnl] at hlt; omega
            obtain ⟨kd, hkD⟩ : ∃ k, ks[i]? = some k := ⟨ks[i], List.getElem?_eq_getElem hil⟩
            have hm := List.mem_of_getElem? hkD
            have hkp2 := kid_panes hm
            have hkb := least_B kd _ (hkr _ hm)
            have hdk : ks.drop i = kd :: ks.drop (i + 1) := by rw [List.drop_eq_getElem_cons hil, (List.getElem?_eq_some_iff.1 hkD).2]
            rw [hdk] at ho hen
            obtain ⟨n, r, hdn, hnb, hen2⟩ := hen
            have hni : ns[i]? = some n := by
              have := congrArg List.head? hdn
              rwa [List.head?_drop] at this
            have hdr : ns.drop (i + 1) = r := by
              have := congrArg List.tail hdn
              rwa [List.tail_drop] at this
            have hes := enough_sum hen2 fun k hk => (need_bd (hkr k (List.mem_of_mem_drop hk)) (Nat.le_trans (kid_panes (List.mem_of_mem_drop hk)) hn)).1
            rw [List.length_drop] at hes
            rw [hdn] at ho hxs
            simp only [sumL, List.foldr_cons] at hxs hes
            have hn0 : 1 ≤ n := by exact Int.le_trans (need_bd (hkr _ hm) (Nat.le_trans hkp2 hn)).1 hnb
            have hn3 : n ≤ 310 := by omega
            have hx3 : x' ≤ 310 := by omega
            have hcl := ih kd hm 1 (hkr _ hm) (by omega) x' y n hg hnb (Int.le_trans (hs2 kd hm) hlh) (by omega) (by omega) (by omega) (by omega)
            have hln := layT_len kd 1 (hkr _ hm) x' y n hg
            rw [layTs, if_pos rfl, List.headD_cons, List.tail_cons] at ho
            obtain ⟨w2, p2, s2, ks2⟩ := kd
            rw [encSpl_mk] at hcl
            generalize hq : layT (.mk w2 p2 s2 ks2) x' y n hg = q at *
            have hq1 := right_panes _ _ (hkr _ hm)
            rw [← hln] at hq1
            obtain ⟨q0, q, rfl⟩ : ∃ a l, q = a :: l := List.exists_cons_of_length_pos (by omega)
            rw [show plcsV (q0 :: q) = encPlc q0 :: plcsV q from rfl] at hcl
            simp only [List.length_cons] at hln hq1
            have hql : (plcsV q).length = q.length := List.length_map _
            (refine g0_ ?_; repeat ((first | refine n1_ fun b_ => ?_ | refine n2_ fun b_ => ?_ | refine Nat1.mk fun q_ hq_ => ?_ | refine em_ fun x_ hx_ => ?_ | refine Elem1.mk fun e_ he_ => ?_); refine g0_ ?_))
            (refine g1_ ?_; repeat ((first | refine n1_ fun b_ => ?_ | refine n2_ fun b_ => ?_ | refine Nat1.mk fun q_ hq_ => ?_ | refine em_ fun x_ hx_ => ?_ | refine Elem1.mk fun e_ he_ => ?_); refine g1_ ?_))
            refine Draws.free ⟨8, by decide +kernel, ?_⟩; (refine g0_ ?_; repeat ((first | refine n1_ fun b_ => ?_ | refine n2_ fun b_ => ?_ | refine Nat1.mk fun q_ hq_ => ?_ | refine em_ fun x_ hx_ => ?_ | refine Elem1.mk fun e_ he_ => ?_); refine g0_ ?_))
            (try rw [encSpl_mk])
            (refine g0_ ?_; repeat ((first | refine n1_ fun b_ => ?_ | refine n2_ fun b_ => ?_ | refine Nat1.mk fun q_ hq_ => ?_ | refine em_ fun x_ hx_ => ?_ | refine Elem1.mk fun e_ he_ => ?_); refine g0_ ?_))
            (try rw [encSpls_eq])
            refine ⟨_, (hcl).quiet, ?_⟩; (refine g0_ ?_; repeat ((first | refine n1_ fun b_ => ?_ | refine n2_ fun b_ => ?_ | refine Nat1.mk fun q_ hq_ => ?_ | refine em_ fun x_ hx_ => ?_ | refine Elem1.mk fun e_ he_ => ?_); refine g0_ ?_))
            refine need.mk (plcs_all (q0 :: q)) ?_
            (refine g0_ ?_; repeat ((first | refine n1_ fun b_ => ?_ | refine n2_ fun b_ => ?_ | refine Nat1.mk fun q_ hq_ => ?_ | refine em_ fun x_ hx_ => ?_ | refine Elem1.mk fun e_ he_ => ?_); refine g0_ ?_))
            try rw [show (List.map encPlc o).length + 1 + (encPlc q0 :: plcsV q).length = (List.map encPlc (o ++ q0 :: q)).length + 1 from by simp [plcsV]; omega]
            try rw [show (encPlc o0 :: List.map encPlc o) ++ (encPlc q0 :: plcsV q) = plcsV (o0 :: o ++ q0 :: q) from by simp [plcsV]]
            refine nx_ (i + 1, b_, (o0 :: o) ++ q0 :: q, x' + (n + 1)) ?_ ?_
            · exact ⟨hil, by rw [hdr, List.append_assoc]; exact ho, by rw [hdr]; exact hen2, by omega, by rw [hdr]; simp only [sumL]; push_cast; omega⟩
            · ((try dsimp only); (try simp only [List.length_drop, List.length_take, List.length_append, List.length_cons, List.length_nil, List.length_map] at *); omega)
      · rw [if_pos rfl] at hall
        subst hall
        refine Pure.of (acalls_of_vc (drawOk W) Tryd.func109 rfl (by decide) (by decide) rfl ?_)
        (refine g0_ ?_; repeat ((first | refine n1_ fun b_ => ?_ | refine n2_ fun b_ => ?_ | refine Nat1.mk fun q_ hq_ => ?_ | refine em_ fun x_ hx_ => ?_ | refine Elem1.mk fun e_ he_ => ?_); refine g0_ ?_))
        rename_i bT
        revert b_
        intro bR
        (refine g1_ ?_; repeat ((first | refine n1_ fun b_ => ?_ | refine n2_ fun b_ => ?_ | refine Nat1.mk fun q_ hq_ => ?_ | refine em_ fun x_ hx_ => ?_ | refine Elem1.mk fun e_ he_ => ?_); refine g1_ ?_))
        refine (hsh).use ?_; (refine g0_ ?_; repeat ((first | refine n1_ fun b_ => ?_ | refine n2_ fun b_ => ?_ | refine Nat1.mk fun q_ hq_ => ?_ | refine em_ fun x_ hx_ => ?_ | refine Elem1.mk fun e_ he_ => ?_); refine g0_ ?_))
        refine' loopI (α := Nat × Nat × (List Plc) × Int) (fun (i, b', o, y') => [(29, .int .i64 i), (5, accV b' 5 (plcsV o))]) [(2, _), (3, _), (27, _), (28, _)] (fun (i, b', o, y') => ⟨bT, .row 4 [.agg [.int .i64 2, .int .i64 p, .int .i64 s, .sl 4 (ks.map encSpl)]] 0⟩ :: ⟨bR, .row 4 [.agg [.int .i64 x, .int .i64 y', .int .i64 wd, .int .i64 hg]] 0⟩ :: accM b' 5 (plcsV o)) (fun (i, b', o, y') => i ≤ ks.length ∧ o ++ layTs 2 wd hg (ks.drop i) (ns.drop i) x y' = R ∧ enough 2 (ks.drop i) (ns.drop i) ∧ 0 ≤ y' ∧ y' + sumL (ns.drop i) + ((ks.length : Int) - i) ≤ y + hg + 1) (fun (i, b', o, y') => ks.length - i) (0, 0, [], y) ?_ ?_
        · exact ⟨Nat.zero_le _, hR, he1, hy, by simp only [List.drop_zero]; omega⟩
        rintro ⟨i, b', o, y'⟩ ⟨hi, ho, hen, hx0, hxs⟩
        rcases o with _ | ⟨o0, o⟩
        · have hol := congrArg List.length ho
          simp only [List.length_append, List.length_cons, List.length_nil] at hol
          (refine g0_ ?_; repeat ((first | refine n1_ fun b_ => ?_ | refine n2_ fun b_ => ?_ | refine Nat1.mk fun q_ hq_ => ?_ | refine em_ fun x_ hx_ => ?_ | refine Elem1.mk fun e_ he_ => ?_); refine g0_ ?_))
          refine brec ?_; intro c_ hlt; (try rw [hlt]); cases c_ <;> replace hlt := nm_ hlt
          · have : i = ks.length := by rw [panesV_len, hnl] at hlt; omega
            subst this
            rw [List.drop_length, layTs, List.append_nil] at ho
            subst ho
            (refine g0_ ?_; repeat ((first | refine n1_ fun b_ => ?_ | refine n2_ fun b_ => ?_ | refine Nat1.mk fun q_ hq_ => ?_ | refine em_ fun x_ hx_ => ?_ | refine Elem1.mk fun e_ he_ => ?_); refine g0_ ?_))
            exact .nils 5
          · have hil : i < ks.length := by rw [panesV_len, hnl] at hlt; omega
            obtain ⟨kd, hkD⟩ : ∃ k, ks[i]? = some k := ⟨ks[i], List.getElem?_eq_getElem hil⟩
            have hm := List.mem_of_getElem? hkD
            have hkp2 := kid_panes hm
            have hkb := least_B kd _ (hkr _ hm)
            have hdk : ks.drop i = kd :: ks.drop (i + 1) := by rw [List.drop_eq_getElem_cons hil, (List.getElem?_eq_some_iff.1 hkD).2]
            rw [hdk] at ho hen
            obtain ⟨n, r, hdn, hnb, hen2⟩ := hen
            have hni : ns[i]? = some n := by
              have := congrArg List.head? hdn
              rwa [List.head?_drop] at this
            have hdr : ns.drop (i + 1) = r := by
              have := congrArg List.tail hdn
              rwa [List.tail_drop] at this
            have hes := enough_sum hen2 fun k hk => (need_bd (hkr k (List.mem_of_mem_drop hk)) (Nat.le_trans (kid_panes (List.mem_of_mem_drop hk)) hn)).1
            rw [List.length_drop] at hes
            rw [hdn] at ho hxs
            simp only [sumL, List.foldr_cons] at hxs hes
            have hn0 : 1 ≤ n := by exact Int.le_trans (need_bd (hkr _ hm) (Nat.le_trans hkp2 hn)).1 hnb
            have hn3 : n ≤ 310 := by omega
            have hx3 : y' ≤ 310 := by omega
            have hcl := ih kd hm 2 (hkr _ hm) (by omega) x y' wd n (Int.le_trans (hs2 kd hm) hlw) hnb (by omega) (by omega) (by omega) (by omega)
            have hln := layT_len kd 2 (hkr _ hm) x y' wd n
            rw [layTs, if_neg (by decide), List.headD_cons, List.tail_cons] at ho
            obtain ⟨w2, p2, s2, ks2⟩ := kd
            rw [encSpl_mk] at hcl
            generalize hq : layT (.mk w2 p2 s2 ks2) x y' wd n = q at *
            have hq1 := right_panes _ _ (hkr _ hm)
            rw [← hln] at hq1
            obtain ⟨q0, q, rfl⟩ : ∃ a l, q = a :: l := List.exists_cons_of_length_pos (by omega)
            rw [show plcsV (q0 :: q) = encPlc q0 :: plcsV q from rfl] at hcl
            simp only [List.length_cons] at hln hq1
            have hql : (plcsV q).length = q.length := List.length_map _
            (refine g0_ ?_; repeat ((first | refine n1_ fun b_ => ?_ | refine n2_ fun b_ => ?_ | refine Nat1.mk fun q_ hq_ => ?_ | refine em_ fun x_ hx_ => ?_ | refine Elem1.mk fun e_ he_ => ?_); refine g0_ ?_))
            (refine g1_ ?_; repeat ((first | refine n1_ fun b_ => ?_ | refine n2_ fun b_ => ?_ | refine Nat1.mk fun q_ hq_ => ?_ | refine em_ fun x_ hx_ => ?_ | refine Elem1.mk fun e_ he_ => ?_); refine g1_ ?_))
            refine Draws.free ⟨8, by decide +kernel, ?_⟩; (refine g0_ ?_; repeat ((first | refine n1_ fun b_ => ?_ | refine n2_ fun b_ => ?_ | refine Nat1.mk fun q_ hq_ => ?_ | refine em_ fun x_ hx_ => ?_ | refine Elem1.mk fun e_ he_ => ?_); refine g0_ ?_))
            (try rw [encSpl_mk])
            (refine g0_ ?_; repeat ((first | refine n1_ fun b_ => ?_ | refine n2_ fun b_ => ?_ | refine Nat1.mk fun q_ hq_ => ?_ | refine em_ fun x_ hx_ => ?_ | refine Elem1.mk fun e_ he_ => ?_); refine g0_ ?_))
            (try rw [encSpls_eq])
            refine ⟨_, (hcl).quiet, ?_⟩; (refine g0_ ?_; repeat ((first | refine n1_ fun b_ => ?_ | refine n2_ fun b_ => ?_ | refine Nat1.mk fun q_ hq_ => ?_ | refine em_ fun x_ hx_ => ?_ | refine Elem1.mk fun e_ he_ => ?_); refine g0_ ?_))
            refine need.mk (plcs_all (q0 :: q)) ?_
            (refine g0_ ?_; repeat ((first | refine n1_ fun b_ => ?_ | refine n2_ fun b_ => ?_ | refine Nat1.mk fun q_ hq_ => ?_ | refine em_ fun x_ hx_ => ?_ | refine Elem1.mk fun e_ he_ => ?_); refine g0_ ?_))
            try rw [show (List.map encPlc o).length + 1 + (encPlc q0 :: plcsV q).length = (List.map encPlc (o ++ q0 :: q)).length + 1 from by simp [plcsV]; omega]
            try rw [show (encPlc o0 :: List.map encPlc o) ++ (encPlc q0 :: plcsV q) = plcsV (o0 :: o ++ q0 :: q) from by simp [plcsV]]
            refine nx_ (i + 1, b_, [] ++ q0 :: q, y' + (n + 1)) ?_ ?_
            · exact ⟨hil, by rw [hdr, List.append_assoc]; exact ho, by rw [hdr]; exact hen2, by omega, by rw [hdr]; simp only [sumL]; push_cast; omega⟩
            · ((try dsimp only); (try simp only [List.length_drop, List.length_take, List.length_append, List.length_cons, List.length_nil, List.length_map] at *); omega)
        · have hol := congrArg List.length ho
          simp only [List.length_append, List.length_cons, List.length_nil] at hol
          (refine g0_ ?_; repeat ((first | refine n1_ fun b_ => ?_ | refine n2_ fun b_ => ?_ | refine Nat1.mk fun q_ hq_ => ?_ | refine em_ fun x_ hx_ => ?_ | refine Elem1.mk fun e_ he_ => ?_); refine g0_ ?_))
          refine brec ?_; intro c_ hlt; (try rw [hlt]); cases c_ <;> replace hlt := nm_ hlt
          · have : i = ks.length := by rw [panesV_len, hnl] at hlt; omega
            subst this
            rw [List.drop_length, layTs, List.append_nil] at ho
            subst ho
            (refine g0_ ?_; repeat ((first | refine n1_ fun b_ => ?_ | refine n2_ fun b_ => ?_ | refine Nat1.mk fun q_ hq_ => ?_ | refine em_ fun x_ hx_ => ?_ | refine Elem1.mk fun e_ he_ => ?_); refine g0_ ?_))
            exact frz_row (l := plcsV (o0 :: o)) (.there _ _ _ _ _ (.there _ _ _ _ _ (.here _ _ _))) _ rfl
          · have hil : i < ks.length := by rw [panesV_len, hnl] at hlt; omega
            obtain ⟨kd, hkD⟩ : ∃ k, ks[i]? = some k := ⟨ks[i], List.getElem?_eq_getElem hil⟩
            have hm := List.mem_of_getElem? hkD
            have hkp2 := kid_panes hm
            have hkb := least_B kd _ (hkr _ hm)
            have hdk : ks.drop i = kd :: ks.drop (i + 1) := by rw [List.drop_eq_getElem_cons hil, (List.getElem?_eq_some_iff.1 hkD).2]
            rw [hdk] at ho hen
            obtain ⟨n, r, hdn, hnb, hen2⟩ := hen
            have hni : ns[i]? = some n := by
              have := congrArg List.head? hdn
              rwa [List.head?_drop] at this
            have hdr : ns.drop (i + 1) = r := by
              have := congrArg List.tail hdn
              rwa [List.tail_drop] at this
            have hes := enough_sum hen2 fun k hk => (need_bd (hkr k (List.mem_of_mem_drop hk)) (Nat.le_trans (kid_panes (List.mem_of_mem_drop hk)) hn)).1
            rw [List.length_drop] at hes
            rw [hdn] at ho hxs
            simp only [sumL, List.foldr_cons] at hxs hes
            have hn0 : 1 ≤ n := by exact Int.le_trans (need_bd (hkr _ hm) (Nat.le_trans hkp2 hn)).1 hnb
            have hn3 : n ≤ 310 := by omega
            have hx3 : y' ≤ 310 := by omega
            have hcl := ih kd hm 2 (hkr _ hm) (by omega) x y' wd n (Int.le_trans (hs2 kd hm) hlw) hnb (by omega) (by omega) (by omega) (by omega)
            have hln := layT_len kd 2 (hkr _ hm) x y' wd n
            rw [layTs, if_neg (by decide), List.headD_cons, List.tail_cons] at ho
            obtain ⟨w2, p2, s2, ks2⟩ := kd
            rw [encSpl_mk] at hcl
            generalize hq : layT (.mk w2 p2 s2 ks2) x y' wd n = q at *
            have hq1 := right_panes _ _ (hkr _ hm)
            rw [← hln] at hq1
            obtain ⟨q0, q, rfl⟩ : ∃ a l, q = a :: l := List.exists_cons_of_length_pos (by omega)
            rw [show plcsV (q0 :: q) = encPlc q0 :: plcsV q from rfl] at hcl
            simp only [List.length_cons] at hln hq1
            have hql : (plcsV q).length = q.length := List.length_map _
            (refine g0_ ?_; repeat ((first | refine n1_ fun b_ => ?_ | refine n2_ fun b_ => ?_ | refine Nat1.mk fun q_ hq_ => ?_ | refine em_ fun x_ hx_ => ?_ | refine Elem1.mk fun e_ he_ => ?_); refine g0_ ?_))
            (refine g1_ ?_; repeat ((first | refine n1_ fun b_ => ?_ | refine n2_ fun b_ => ?_ | refine Nat1.mk fun q_ hq_ => ?_ | refine em_ fun x_ hx_ => ?_ | refine Elem1.mk fun e_ he_ => ?_); refine g1_ ?_))
            refine Draws.free ⟨8, by decide +kernel, ?_⟩; (refine g0_ ?_; repeat ((first | refine n1_ fun b_ => ?_ | refine n2_ fun b_ => ?_ | refine Nat1.mk fun q_ hq_ => ?_ | refine em_ fun x_ hx_ => ?_ | refine Elem1.mk fun e_ he_ => ?_); refine g0_ ?_))
            (try rw [encSpl_mk])
            (refine g0_ ?_; repeat ((first | refine n1_ fun b_ => ?_ | refine n2_ fun b_ => ?_ | refine Nat1.mk fun q_ hq_ => ?_ | refine em_ fun x_ hx_ => ?_ | refine Elem1.mk fun e_ he_ => ?_); refine g0_ ?_))
            (try rw [encSpls_eq])
            refine ⟨_, (hcl).quiet, ?_⟩; (refine g0_ ?_; repeat ((first | refine n1_ fun b_ => ?_ | refine n2_ fun b_ => ?_ | refine Nat1.mk fun q_ hq_ => ?_ | refine em_ fun x_ hx_ => ?_ | refine Elem1.mk fun e_ he_ => ?_); refine g0_ ?_))
            refine need.mk (plcs_all (q0 :: q)) ?_
            (refine g0_ ?_; repeat ((first | refine n1_ fun b_ => ?_ | refine n2_ fun b_ => ?_ | refine Nat1.mk fun q_ hq_ => ?_ | refine em_ fun x_ hx_ => ?_ | refine Elem1.mk fun e_ he_ => ?_); refine g0_ ?_))
            try rw [show (List.map encPlc o).length + 1 + (encPlc q0 :: plcsV q).length = (List.map encPlc (o ++ q0 :: q)).length + 1 from by simp [plcsV]; omega]
            try rw [show (encPlc o0 :: List.map encPlc o) ++ (encPlc q0 :: plcsV q) = plcsV (o0 :: o ++ q0 :: q) from by simp [plcsV]]
            refine nx_ (i + 1, b_, (o0 :: o) ++ q0 :: q, y' + (n + 1)) ?_ ?_
            · exact ⟨hil, by rw [hdr, List.append_assoc]; exact ho, by rw [hdr]; exact hen2, by omega, by rw [hdr]; simp only [sumL]; push_cast; omega⟩
            · ((try dsimp only); (try simp only [List.length_drop, List.length_take, List.length_append, List.length_cons, List.length_nil, List.length_map] at *); omega)
end Go.Eng.YtmodblkagimhlaaDoor
end

/- Splits: Lay; places compared; parted (b_ x_ q_ e_). -/
section
namespace Go.Eng.YtmodblkagimhlaaDoor
open Go Go.Eng Go.Proofs
variable (W : World)
set_option linter.unusedSimpArgs false
set_option maxRecDepth 100000
set_option linter.unusedVariables false
set_option maxHeartbeats 4000000
def laysR (t : Spl) (w h : Int) : List Plc × Int :=
  if (visS t 0 (0, [])).1 ≠ 0 then ([], (visS t 0 (0, [])).1) else if w < (leastT t).1 ∨ h < (leastT t).2 ∨ 120 < w ∨ 60 < h then ([], 3) else (layT t 0 0 w h, 0)
theorem laysP_ok (t : Spl) (ht : t.ok) (w h : Int) : Pure Tryd.prog W 52 [encSpl t, .int .i64 w, .int .i64 h] (.tup [.sl 5 (plcsV (laysR t w h).1), .int .i64 (laysR t w h).2]) := by
  have hc := checkS_ok W t ht
  have hr := @vis_right t
  have hls := fun h0 => least_ok W t 0 (hr h0).1 (hr h0).2.2.1
  have hly := fun h0 => layS_ok W t 0 (hr h0).1 (hr h0).2.2.1 0 0 w h
  unfold laysR
  generalize visS t 0 (0, []) = st at *
  generalize leastT t = ab at *
  generalize layT t 0 0 w h = L at *
  obtain ⟨w', p, s, ks⟩ := t
  rw [encSpl_mk] at hc ⊢
  rw [encSpl_mk] at hls hly
  by_cases h0 : st.1 = 0
  · rw [if_neg (by simpa using h0)]
    have hls := hls h0
    by_cases h1 : w < ab.1 ∨ h < ab.2 ∨ 120 < w ∨ 60 < h
    · rw [if_pos h1]
      refine Pure.of (acalls_of_vc (drawOk W) Tryd.func52 rfl (by decide) (by decide) rfl ?_)
      (refine g0_ ?_; repeat ((first | refine n1_ fun b_ => ?_ | refine n2_ fun b_ => ?_ | refine Nat1.mk fun q_ hq_ => ?_ | refine em_ fun x_ hx_ => ?_ | refine Elem1.mk fun e_ he_ => ?_); refine g0_ ?_))
      refine (hc).use ?_; (refine g0_ ?_; repeat ((first | refine n1_ fun b_ => ?_ | refine n2_ fun b_ => ?_ | refine Nat1.mk fun q_ hq_ => ?_ | refine em_ fun x_ hx_ => ?_ | refine Elem1.mk fun e_ he_ => ?_); refine g0_ ?_))
      (refine g1_ ?_; repeat ((first | refine n1_ fun b_ => ?_ | refine n2_ fun b_ => ?_ | refine Nat1.mk fun q_ hq_ => ?_ | refine em_ fun x_ hx_ => ?_ | refine Elem1.mk fun e_ he_ => ?_); refine g1_ ?_))
      refine (hls).use ?_; (refine g0_ ?_; repeat ((first | refine n1_ fun b_ => ?_ | refine n2_ fun b_ => ?_ | refine Nat1.mk fun q_ hq_ => ?_ | refine em_ fun x_ hx_ => ?_ | refine Elem1.mk fun e_ he_ => ?_); refine g0_ ?_))
      (refine g1_ ?_; repeat ((first | refine n1_ fun b_ => ?_ | refine n2_ fun b_ => ?_ | refine Nat1.mk fun q_ hq_ => ?_ | refine em_ fun x_ hx_ => ?_ | refine Elem1.mk fun e_ he_ => ?_); refine g1_ ?_))
      exact frz_t2 (.nils 5)
    · rw [if_neg h1]
      have hly := hly h0 (by omega) (by omega) (by omega) (by omega) (by omega) (by omega)
      refine Pure.of (acalls_of_vc (drawOk W) Tryd.func52 rfl (by decide) (by decide) rfl ?_)
      (refine g0_ ?_; repeat ((first | refine n1_ fun b_ => ?_ | refine n2_ fun b_ => ?_ | refine Nat1.mk fun q_ hq_ => ?_ | refine em_ fun x_ hx_ => ?_ | refine Elem1.mk fun e_ he_ => ?_); refine g0_ ?_))
      refine (hc).use ?_; (refine g0_ ?_; repeat ((first | refine n1_ fun b_ => ?_ | refine n2_ fun b_ => ?_ | refine Nat1.mk fun q_ hq_ => ?_ | refine em_ fun x_ hx_ => ?_ | refine Elem1.mk fun e_ he_ => ?_); refine g0_ ?_))
      (refine g1_ ?_; repeat ((first | refine n1_ fun b_ => ?_ | refine n2_ fun b_ => ?_ | refine Nat1.mk fun q_ hq_ => ?_ | refine em_ fun x_ hx_ => ?_ | refine Elem1.mk fun e_ he_ => ?_); refine g1_ ?_))
      refine (hls).use ?_; (refine g0_ ?_; repeat ((first | refine n1_ fun b_ => ?_ | refine n2_ fun b_ => ?_ | refine Nat1.mk fun q_ hq_ => ?_ | refine em_ fun x_ hx_ => ?_ | refine Elem1.mk fun e_ he_ => ?_); refine g0_ ?_))
      (refine g1_ ?_; repeat ((first | refine n1_ fun b_ => ?_ | refine n2_ fun b_ => ?_ | refine Nat1.mk fun q_ hq_ => ?_ | refine em_ fun x_ hx_ => ?_ | refine Elem1.mk fun e_ he_ => ?_); refine g1_ ?_))
      refine (hly).use ?_; (refine g0_ ?_; repeat ((first | refine n1_ fun b_ => ?_ | refine n2_ fun b_ => ?_ | refine Nat1.mk fun q_ hq_ => ?_ | refine em_ fun x_ hx_ => ?_ | refine Elem1.mk fun e_ he_ => ?_); refine g0_ ?_))
      exact .refl _
  · rw [if_pos h0]
    refine Pure.of (acalls_of_vc (drawOk W) Tryd.func52 rfl (by decide) (by decide) rfl ?_)
    (refine g0_ ?_; repeat ((first | refine n1_ fun b_ => ?_ | refine n2_ fun b_ => ?_ | refine Nat1.mk fun q_ hq_ => ?_ | refine em_ fun x_ hx_ => ?_ | refine Elem1.mk fun e_ he_ => ?_); refine g0_ ?_))
    refine (hc).use ?_; (refine g0_ ?_; repeat ((first | refine n1_ fun b_ => ?_ | refine n2_ fun b_ => ?_ | refine Nat1.mk fun q_ hq_ => ?_ | refine em_ fun x_ hx_ => ?_ | refine Elem1.mk fun e_ he_ => ?_); refine g0_ ?_))
    (refine g1_ ?_; repeat ((first | refine n1_ fun b_ => ?_ | refine n2_ fun b_ => ?_ | refine Nat1.mk fun q_ hq_ => ?_ | refine em_ fun x_ hx_ => ?_ | refine Elem1.mk fun e_ he_ => ?_); refine g1_ ?_))
    exact frz_t2 (.nils 5)
def Plc.ok (a : Plc) : Prop := i64ok a.p ∧ i64ok a.x ∧ i64ok a.y ∧ i64ok a.w ∧ i64ok a.h
theorem wf_plc {n : Int} (h : i64ok n) : (Lit.int .i64 n).wf = true := by
  simp [Lit.wf, IntKind.min, IntKind.max, IntKind.signed, IntKind.bits]; exact h
theorem cells_plcI : Tryd.prog.cellsOf 3 = 1 := by kernel_rfl
theorem cells_plcR : Tryd.prog.cellsOf 104 = 4 := by kernel_rfl
theorem cells_plc : Tryd.prog.cellsOf 106 = 5 := by kernel_rfl
def litsPlc (a : Plc) : List Lit := [.int .i64 a.p, .int .i64 a.x, .int .i64 a.y, .int .i64 a.w, .int .i64 a.h]
theorem lits_plc (a : Plc) (h : a.ok) : Tryd.prog.keyLits 4 106 [.int .i64 a.p, .int .i64 a.x, .int .i64 a.y, .int .i64 a.w, .int .i64 a.h] = some (litsPlc a) := by
  obtain ⟨h0, h1, h2, h3, h4⟩ := h
  have hk : ∀ d (n : Int), (Lit.int .i64 n).wf = true → Tryd.prog.keyLits (d + 1) 3 [.int .i64 n] = some [.int .i64 n] := fun d n hn => by simp [Program.keyLits, Tryd.underlying3, hn]
  have hrect : Tryd.prog.keyLits 3 104 [.int .i64 a.x, .int .i64 a.y, .int .i64 a.w, .int .i64 a.h] = some [.int .i64 a.x, .int .i64 a.y, .int .i64 a.w, .int .i64 a.h] := by
    conv => lhs; unfold Program.keyLits
    rw [Tryd.underlying104]
    dsimp only
    rw [if_pos ⟨by rw [cells_plcR]; rfl, by simp⟩]
    simp only [List.mapM_cons, List.mapM_nil]
    rw [cells_plcI]
    simp only [List.drop_zero, List.drop_succ_cons, List.take_succ_cons, List.take_zero, hk _ _ (wf_plc h1), hk _ _ (wf_plc h2), hk _ _ (wf_plc h3), hk _ _ (wf_plc h4)]
    rfl
  conv => lhs; unfold Program.keyLits
  rw [Tryd.underlying106]
  dsimp only
  rw [if_pos ⟨by rw [cells_plc]; rfl, by simp⟩]
  simp only [List.mapM_cons, List.mapM_nil]
  rw [cells_plcI, cells_plcR]
  simp only [List.drop_zero, List.drop_succ_cons, List.take_succ_cons, List.take_zero, hk _ _ (wf_plc h0), hrect]
  rfl
theorem neq_plc (a b : Plc) (ha : a.ok) (hb : b.ok) (xo yo : Operand) : EqLaw Tryd.prog .neq 106 xo yo (encPlc a) (encPlc b) (!decide (a = b)) :=
  neqLaw_agg 4 (by kernel_rfl) (by decide) (by kernel_rfl) Tryd.underlying106 rfl rfl (by rw [cells_plc]; rfl) (by rw [cells_plc]; rfl) (lits_plc a ha) (lits_plc b hb) (by
    obtain ⟨a0, a1, a2, a3, a4⟩ := a
    obtain ⟨b0, b1, b2, b3, b4⟩ := b
    simp [litsPlc])
theorem equal_plcs (a b : List Plc) (ha : (a.length : Int) ≤ 9223372036854775807) (hoa : ∀ c ∈ a, c.ok) (hob : ∀ c ∈ b, c.ok) :
    Pure Tryd.prog W 53 [.sl 5 (plcsV a), .sl 5 (plcsV b)] (.bool (decide (a = b))) := by
  unfold plcsV
  refine Pure.of (acalls_of_vc (drawOk W) Tryd.func53 rfl (by decide) (by decide) rfl ?_)
  (refine g0_ ?_; repeat ((first | refine n1_ fun b_ => ?_ | refine n2_ fun b_ => ?_ | refine Nat1.mk fun q_ hq_ => ?_ | refine em_ fun x_ hx_ => ?_ | refine Elem1.mk fun e_ he_ => ?_); refine g0_ ?_))
  refine brec ?_; intro c_ hc; (try rw [hc]); cases c_ <;> replace hc := nm_ hc
  · have hlen : a.length = b.length := by simp at hc; omega
    (refine g0_ ?_; repeat ((first | refine n1_ fun b_ => ?_ | refine n2_ fun b_ => ?_ | refine Nat1.mk fun q_ hq_ => ?_ | refine em_ fun x_ hx_ => ?_ | refine Elem1.mk fun e_ he_ => ?_); refine g0_ ?_))
    refine' loopI (α := Nat) (fun i => [(13, .int .i64 i)]) [(0, _), (1, _), (12, _)] (fun i => []) (fun i => i ≤ a.length ∧ a.take i = b.take i) (fun i => a.length - i) 0 ?_ ?_
    · exact ⟨Nat.zero_le _, by simp⟩
    rintro i ⟨hi, hw⟩
    (refine g0_ ?_; repeat ((first | refine n1_ fun b_ => ?_ | refine n2_ fun b_ => ?_ | refine Nat1.mk fun q_ hq_ => ?_ | refine em_ fun x_ hx_ => ?_ | refine Elem1.mk fun e_ he_ => ?_); refine g0_ ?_))
    refine brec ?_; intro c_ h1; (try rw [h1]); cases c_ <;> replace h1 := nm_ h1
    · (refine g0_ ?_; repeat ((first | refine n1_ fun b_ => ?_ | refine n2_ fun b_ => ?_ | refine Nat1.mk fun q_ hq_ => ?_ | refine em_ fun x_ hx_ => ?_ | refine Elem1.mk fun e_ he_ => ?_); refine g0_ ?_))
      have : i = a.length := by simp at h1; omega
      subst this
      rw [List.take_length, hlen, List.take_length] at hw
      rw [hw]
      simp
      exact .refl _
    · have hlt : i < a.length := by simp at h1; omega
      (refine g0_ ?_; repeat ((first | refine n1_ fun b_ => ?_ | refine n2_ fun b_ => ?_ | refine Nat1.mk fun q_ hq_ => ?_ | refine em_ fun x_ hx_ => ?_ | refine Elem1.mk fun e_ he_ => ?_); refine g0_ ?_))
      refine head_ ?_; (refine g0_ ?_; repeat ((first | refine n1_ fun b_ => ?_ | refine n2_ fun b_ => ?_ | refine Nat1.mk fun q_ hq_ => ?_ | refine em_ fun x_ hx_ => ?_ | refine Elem1.mk fun e_ he_ => ?_); refine g0_ ?_))
      rename_i x hx
      have m1 := hoa _ (List.mem_of_getElem? hx)
      have m2 := hob _ (List.mem_of_getElem? hx_)
      refine ⟨_, neq_plc x x_ m1 m2 _ _, ?_⟩
      (refine g0_ ?_; repeat ((first | refine n1_ fun b_ => ?_ | refine n2_ fun b_ => ?_ | refine Nat1.mk fun q_ hq_ => ?_ | refine em_ fun x_ hx_ => ?_ | refine Elem1.mk fun e_ he_ => ?_); refine g0_ ?_))
      refine brec ?_; intro c_ h2; (try rw [h2]); cases c_ <;> replace h2 := nm_ h2
      · (refine g0_ ?_; repeat ((first | refine n1_ fun b_ => ?_ | refine n2_ fun b_ => ?_ | refine Nat1.mk fun q_ hq_ => ?_ | refine em_ fun x_ hx_ => ?_ | refine Elem1.mk fun e_ he_ => ?_); refine g0_ ?_))
        refine nx_ (i + 1) ?_ ?_
        · exact ⟨hlt, by rw [take_snoc_of hx, take_snoc_of hx_, hw]; simp_all⟩
        · omega
      · (refine g0_ ?_; repeat ((first | refine n1_ fun b_ => ?_ | refine n2_ fun b_ => ?_ | refine Nat1.mk fun q_ hq_ => ?_ | refine em_ fun x_ hx_ => ?_ | refine Elem1.mk fun e_ he_ => ?_); refine g0_ ?_))
        have : a ≠ b := by rintro rfl; simp_all
        simp [this]
        exact .refl _
  · have hne : a ≠ b := by
      rintro rfl
      exact hc rfl
    (refine g0_ ?_; repeat ((first | refine n1_ fun b_ => ?_ | refine n2_ fun b_ => ?_ | refine Nat1.mk fun q_ hq_ => ?_ | refine em_ fun x_ hx_ => ?_ | refine Elem1.mk fun e_ he_ => ?_); refine g0_ ?_))
    simp [hne]
    exact .refl _
def plcs0 : List Plc := [⟨1, 0, 0, 3, 5⟩, ⟨2, 4, 0, 7, 2⟩, ⟨3, 4, 3, 7, 2⟩]
theorem plcs0_ok : ∀ c ∈ plcs0, c.ok := by
  intro c hc
  simp only [plcs0, List.mem_cons, List.not_mem_nil, or_false] at hc
  rcases hc with rfl | rfl | rfl <;> (unfold Plc.ok i64ok; decide)
theorem parted_ok : Pure Tryd.prog W 12 [] (.bool true) := by
  have h1 := parse0_ok W
  have h2 := laysP_ok W tree0 tree0_ok 11 5
  rw [show laysR tree0 11 5 = (plcs0, 0) by decide +kernel] at h2
  have h3 := equal_plcs W plcs0 plcs0 (by decide) plcs0_ok plcs0_ok
  rw [decide_eq_true rfl] at h3
  rw [show encSpl tree0 = tree0V from by simp only [tree0, tree0V, leafT, encSpl_mk, List.map_cons, List.map_nil]] at h1 h2
  refine Pure.of (acalls_of_vc (drawOk W) Tryd.func12 rfl (by decide) (by decide) rfl ?_)
  (refine g0_ ?_; repeat ((first | refine n1_ fun b_ => ?_ | refine n2_ fun b_ => ?_ | refine Nat1.mk fun q_ hq_ => ?_ | refine em_ fun x_ hx_ => ?_ | refine Elem1.mk fun e_ he_ => ?_); refine g0_ ?_))
  refine (h1).use ?_; (refine g0_ ?_; repeat ((first | refine n1_ fun b_ => ?_ | refine n2_ fun b_ => ?_ | refine Nat1.mk fun q_ hq_ => ?_ | refine em_ fun x_ hx_ => ?_ | refine Elem1.mk fun e_ he_ => ?_); refine g0_ ?_))
  (refine g0_ ?_; repeat ((first | refine n1_ fun b_ => ?_ | refine n2_ fun b_ => ?_ | refine Nat1.mk fun q_ hq_ => ?_ | refine em_ fun x_ hx_ => ?_ | refine Elem1.mk fun e_ he_ => ?_); refine g0_ ?_))
  refine (h2).use ?_; (refine g0_ ?_; repeat ((first | refine n1_ fun b_ => ?_ | refine n2_ fun b_ => ?_ | refine Nat1.mk fun q_ hq_ => ?_ | refine em_ fun x_ hx_ => ?_ | refine Elem1.mk fun e_ he_ => ?_); refine g0_ ?_))
  (refine g1_ ?_; repeat ((first | refine n1_ fun b_ => ?_ | refine n2_ fun b_ => ?_ | refine Nat1.mk fun q_ hq_ => ?_ | refine em_ fun x_ hx_ => ?_ | refine Elem1.mk fun e_ he_ => ?_); refine g1_ ?_))
  refine .inl ?_
  (refine g0_ ?_; repeat ((first | refine n1_ fun b_ => ?_ | refine n2_ fun b_ => ?_ | refine Nat1.mk fun q_ hq_ => ?_ | refine em_ fun x_ hx_ => ?_ | refine Elem1.mk fun e_ he_ => ?_); refine g0_ ?_))
  refine (h3).use ?_; (refine g0_ ?_; repeat ((first | refine n1_ fun b_ => ?_ | refine n2_ fun b_ => ?_ | refine Nat1.mk fun q_ hq_ => ?_ | refine em_ fun x_ hx_ => ?_ | refine Elem1.mk fun e_ he_ => ?_); refine g0_ ?_))
  exact .refl _
end Go.Eng.YtmodblkagimhlaaDoor
end
