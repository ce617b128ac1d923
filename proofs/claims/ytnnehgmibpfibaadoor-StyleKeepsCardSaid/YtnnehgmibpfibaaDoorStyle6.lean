/- Whatever numbers are applied to a style, it is one: a plain law; StyleKeeps. -/
import Derived.Test.YtnnehgmibpfibaaDoorStyle5
namespace Go.Eng.YtnnehgmibpfibaaDoor
open Go Go.Eng Go.Proofs
variable (W : World)
set_option linter.unusedSimpArgs false
set_option maxRecDepth 100000
set_option linter.unusedVariables false
set_option maxHeartbeats 4000000
def Style.is (s : Style) : Prop := 0 ≤ s.fore ∧ s.fore ≤ 256 ∧ 0 ≤ s.back ∧ s.back ≤ 256 ∧ 0 ≤ s.bits ∧ s.bits < 128
theorem check_is (s : Style) : checkStyle s = true ↔ s.is := by
  simp only [checkStyle, Style.is, Bool.and_eq_true, decide_eq_true_eq, and_assoc]
def pairs : List (Int × Int) := [(1, 0), (2, 0), (4, 0), (8, 0), (16, 0), (32, 0), (64, 0), (0, 3), (0, 4), (0, 8), (0, 16), (0, 32), (0, 64), (0, 0)]
theorem bitsF_mem (n : Int) : bitsF n ∈ pairs := by
  unfold bitsF
  by_cases h1 : n = 1
  · rw [if_pos h1]; decide
  rw [if_neg h1]
  by_cases h2 : n = 2
  · rw [if_pos h2]; decide
  rw [if_neg h2]
  by_cases h3 : n = 3
  · rw [if_pos h3]; decide
  rw [if_neg h3]
  by_cases h4 : n = 4
  · rw [if_pos h4]; decide
  rw [if_neg h4]
  by_cases h5 : n = 5
  · rw [if_pos h5]; decide
  rw [if_neg h5]
  by_cases h7 : n = 7
  · rw [if_pos h7]; decide
  rw [if_neg h7]
  by_cases h9 : n = 9
  · rw [if_pos h9]; decide
  rw [if_neg h9]
  by_cases h22 : n = 22
  · rw [if_pos h22]; decide
  rw [if_neg h22]
  by_cases h23 : n = 23
  · rw [if_pos h23]; decide
  rw [if_neg h23]
  by_cases h24 : n = 24
  · rw [if_pos h24]; decide
  rw [if_neg h24]
  by_cases h25 : n = 25
  · rw [if_pos h25]; decide
  rw [if_neg h25]
  by_cases h27 : n = 27
  · rw [if_pos h27]; decide
  rw [if_neg h27]
  by_cases h29 : n = 29
  · rw [if_pos h29]; decide
  rw [if_neg h29]
  decide
theorem mask_all : ∀ b ∈ List.range 128, ∀ p ∈ pairs, 0 ≤ bitop .or .i64 (bitop .andNot .i64 (b : Nat) p.2) p.1 ∧ bitop .or .i64 (bitop .andNot .i64 (b : Nat) p.2) p.1 < 128 := by decide +kernel
theorem mask_is {s : Style} (h : s.is) (n : Int) : (s.mask n).is := by
  obtain ⟨h1, h2, h3, h4, h5, h6⟩ := h
  obtain ⟨b, hb⟩ : ∃ b : Nat, s.bits = b := ⟨s.bits.toNat, by omega⟩
  have := mask_all b (List.mem_range.2 (by omega)) _ (bitsF_mem n)
  rw [← hb] at this
  exact ⟨h1, h2, h3, h4, this.1, this.2⟩
theorem num_is {s : Style} (h : s.is) (n : Int) : (s.num n).is := by
  obtain ⟨h1, h2, h3, h4, h5, h6⟩ := h
  unfold Style.num
  repeat' split
  all_goals refine ⟨?_, ?_, ?_, ?_, ?_, ?_⟩ <;> first | omega | (simp only [Style.none]; omega) | (dsimp only; omega)
theorem colour_is {s : Style} (h : s.is) (n c : Int) : (s.colour n c).is := by
  obtain ⟨h1, h2, h3, h4, h5, h6⟩ := h
  unfold Style.colour
  repeat' split
  all_goals refine ⟨?_, ?_, ?_, ?_, ?_, ?_⟩ <;> first | omega | (dsimp only; omega)
theorem applyL_is : ∀ (k : Nat) (l : List Int) (s : Style), l.length ≤ k → s.is → (applyL s l).is
  | _, [], s, _, h => by rw [applyL]; exact h
  | _, [n], s, _, h => by rw [applyL]; exact num_is (mask_is h n) n
  | 0, _ :: _, s, hk, h => by simp at hk
  | k + 1, [n, m], s, hk, h => by
    rw [applyL]
    exact applyL_is k [m] _ (by simp at hk ⊢; omega) (num_is (mask_is h n) n)
  | k + 1, n :: m :: c :: r, s, hk, h => by
    rw [applyL]
    simp only [List.length_cons] at hk
    split
    · exact applyL_is k r _ (by omega) (colour_is (mask_is h n) n c)
    · exact applyL_is k (m :: c :: r) _ (by simp only [List.length_cons]; omega) (num_is (mask_is h n) n)
theorem applyTo_is {s : Style} (h : s.is) (l : List Int) : (applyTo s l).is := by
  unfold applyTo
  split
  · exact ⟨by decide, by decide, by decide, by decide, by decide, by decide⟩
  · exact applyL_is _ l s (Nat.le_refl _) h
theorem styleKeeps_ok (hN : Nums W) (s : Style) (hs : s.ok) (l : List Int) (hi : ∀ n ∈ l, i64ok n) (hl : l.length ≤ 17592186043904) : Pure Tryd.prog W 12 [encStyle s, .sl 1 (l.map (PV.int .i64))] (.bool true) := by
  refine Pure.of (acalls_of_vc (drawOk W) Tryd.func12 rfl (by decide) (by decide) rfl ?_)
  ((conv => whnf); repeat ((first | refine CondC.part ?_ | (refine GuardC.part ?_; (conv => whnf); fail_if_success refine brec ?_) | (apply GuardC.sp; (case' h1 => ((conv => whnf); (repeat (refine need.mk (by first | with_reducible exact fun h => h | with_reducible exact not_of_false | exact fun _ => rfl | exact fun h => by simp [h]) ?_; (conv => whnf))); exact trivial)); (case' h2 => (intro hg_; ((conv => whnf); repeat ((first | refine RowAt.mk _ _ _ _ (by repeat (first | exact .here _ _ _ | apply Look.there)) ?_ | refine Fits.ok (by omega) (by omega) ?_ | refine need.mk (by first | omega | rfl | (simp; done) | (simp <;> omega)) ?_ | (refine New1.mk fun b_ hb_ => ?_; clear hb_) | (refine New2.mk fun b_ hb_ => ?_; clear hb_) | (refine Nat1.mk fun q_ hq_ => ?_; (first | (obtain rfl := Int.ofNat.inj hq_; clear hq_) | skip)) | refine at_known (by assumption) ?_ | (refine Elem1.mk fun e_ he_ => ?_; (first | (obtain ⟨x_, hx_, rfl⟩ := getMap he_; clear he_) | (obtain rfl := Option.some.inj he_; clear he_) | skip)) | (refine Lst1.mk fun s_ hs_ => ?_; (try simp only [List.take_length, List.drop_zero, ← List.map_take, ← List.map_drop] at hs_); subst hs_)); (conv => whnf))); refine And.intro ?_ rfl; exact Eq.refl _))) | refine GuardC.part ?_ | refine needO.mk (by ((conv => whnf); (repeat (refine need.mk (by first | with_reducible exact fun h => h | with_reducible exact not_of_false | exact fun _ => rfl | exact fun h => by simp [h]) ?_; (conv => whnf))); exact trivial)) ?_ | with_reducible refine need.mk (fun h => h) ?_ | with_reducible refine need.mk not_of_false ?_ | refine RowAt.mk _ _ _ _ (by repeat (first | exact .here _ _ _ | apply Look.there)) ?_ | refine Fits.ok (by omega) (by omega) ?_ | refine need.mk (by first | omega | rfl | (simp; done) | (simp <;> omega)) ?_ | (refine New1.mk fun b_ hb_ => ?_; clear hb_) | (refine New2.mk fun b_ hb_ => ?_; clear hb_) | (refine Nat1.mk fun q_ hq_ => ?_; (first | (obtain rfl := Int.ofNat.inj hq_; clear hq_) | skip)) | refine at_known (by assumption) ?_ | (refine Elem1.mk fun e_ he_ => ?_; (first | (obtain ⟨x_, hx_, rfl⟩ := getMap he_; clear he_) | (obtain rfl := Option.some.inj he_; clear he_) | skip)) | (refine Lst1.mk fun s_ hs_ => ?_; (try simp only [List.take_length, List.drop_zero, ← List.map_take, ← List.map_drop] at hs_); subst hs_)); (conv => whnf)))
  refine (looked_ok W hN).use ?_; ((conv => whnf); repeat ((first | refine CondC.part ?_ | (refine GuardC.part ?_; (conv => whnf); fail_if_success refine brec ?_) | (apply GuardC.sp; (case' h1 => ((conv => whnf); (repeat (refine need.mk (by first | with_reducible exact fun h => h | with_reducible exact not_of_false | exact fun _ => rfl | exact fun h => by simp [h]) ?_; (conv => whnf))); exact trivial)); (case' h2 => (intro hg_; ((conv => whnf); repeat ((first | refine RowAt.mk _ _ _ _ (by repeat (first | exact .here _ _ _ | apply Look.there)) ?_ | refine Fits.ok (by omega) (by omega) ?_ | refine need.mk (by first | omega | rfl | (simp; done) | (simp <;> omega)) ?_ | (refine New1.mk fun b_ hb_ => ?_; clear hb_) | (refine New2.mk fun b_ hb_ => ?_; clear hb_) | (refine Nat1.mk fun q_ hq_ => ?_; (first | (obtain rfl := Int.ofNat.inj hq_; clear hq_) | skip)) | refine at_known (by assumption) ?_ | (refine Elem1.mk fun e_ he_ => ?_; (first | (obtain ⟨x_, hx_, rfl⟩ := getMap he_; clear he_) | (obtain rfl := Option.some.inj he_; clear he_) | skip)) | (refine Lst1.mk fun s_ hs_ => ?_; (try simp only [List.take_length, List.drop_zero, ← List.map_take, ← List.map_drop] at hs_); subst hs_)); (conv => whnf))); refine And.intro ?_ rfl; exact Eq.refl _))) | refine GuardC.part ?_ | refine needO.mk (by ((conv => whnf); (repeat (refine need.mk (by first | with_reducible exact fun h => h | with_reducible exact not_of_false | exact fun _ => rfl | exact fun h => by simp [h]) ?_; (conv => whnf))); exact trivial)) ?_ | with_reducible refine need.mk (fun h => h) ?_ | with_reducible refine need.mk not_of_false ?_ | refine RowAt.mk _ _ _ _ (by repeat (first | exact .here _ _ _ | apply Look.there)) ?_ | refine Fits.ok (by omega) (by omega) ?_ | refine need.mk (by first | omega | rfl | (simp; done) | (simp <;> omega)) ?_ | (refine New1.mk fun b_ hb_ => ?_; clear hb_) | (refine New2.mk fun b_ hb_ => ?_; clear hb_) | (refine Nat1.mk fun q_ hq_ => ?_; (first | (obtain rfl := Int.ofNat.inj hq_; clear hq_) | skip)) | refine at_known (by assumption) ?_ | (refine Elem1.mk fun e_ he_ => ?_; (first | (obtain ⟨x_, hx_, rfl⟩ := getMap he_; clear he_) | (obtain rfl := Option.some.inj he_; clear he_) | skip)) | (refine Lst1.mk fun s_ hs_ => ?_; (try simp only [List.take_length, List.drop_zero, ← List.map_take, ← List.map_drop] at hs_); subst hs_)); (conv => whnf)))
  refine (styleCheck_ok W s).use ?_
  ((conv => whnf); repeat ((first | refine CondC.part ?_ | (refine GuardC.part ?_; (conv => whnf); fail_if_success refine brec ?_) | (apply GuardC.sp; (case' h1 => ((conv => whnf); (repeat (refine need.mk (by first | with_reducible exact fun h => h | with_reducible exact not_of_false | exact fun _ => rfl | exact fun h => by simp [h]) ?_; (conv => whnf))); exact trivial)); (case' h2 => (intro hg_; ((conv => whnf); repeat ((first | refine RowAt.mk _ _ _ _ (by repeat (first | exact .here _ _ _ | apply Look.there)) ?_ | refine Fits.ok (by omega) (by omega) ?_ | refine need.mk (by first | omega | rfl | (simp; done) | (simp <;> omega)) ?_ | (refine New1.mk fun b_ hb_ => ?_; clear hb_) | (refine New2.mk fun b_ hb_ => ?_; clear hb_) | (refine Nat1.mk fun q_ hq_ => ?_; (first | (obtain rfl := Int.ofNat.inj hq_; clear hq_) | skip)) | refine at_known (by assumption) ?_ | (refine Elem1.mk fun e_ he_ => ?_; (first | (obtain ⟨x_, hx_, rfl⟩ := getMap he_; clear he_) | (obtain rfl := Option.some.inj he_; clear he_) | skip)) | (refine Lst1.mk fun s_ hs_ => ?_; (try simp only [List.take_length, List.drop_zero, ← List.map_take, ← List.map_drop] at hs_); subst hs_)); (conv => whnf))); refine And.intro ?_ rfl; exact Eq.refl _))) | refine GuardC.part ?_ | refine needO.mk (by ((conv => whnf); (repeat (refine need.mk (by first | with_reducible exact fun h => h | with_reducible exact not_of_false | exact fun _ => rfl | exact fun h => by simp [h]) ?_; (conv => whnf))); exact trivial)) ?_ | with_reducible refine need.mk (fun h => h) ?_ | with_reducible refine need.mk not_of_false ?_ | refine RowAt.mk _ _ _ _ (by repeat (first | exact .here _ _ _ | apply Look.there)) ?_ | refine Fits.ok (by omega) (by omega) ?_ | refine need.mk (by first | omega | rfl | (simp; done) | (simp <;> omega)) ?_ | (refine New1.mk fun b_ hb_ => ?_; clear hb_) | (refine New2.mk fun b_ hb_ => ?_; clear hb_) | (refine Nat1.mk fun q_ hq_ => ?_; (first | (obtain rfl := Int.ofNat.inj hq_; clear hq_) | skip)) | refine at_known (by assumption) ?_ | (refine Elem1.mk fun e_ he_ => ?_; (first | (obtain ⟨x_, hx_, rfl⟩ := getMap he_; clear he_) | (obtain rfl := Option.some.inj he_; clear he_) | skip)) | (refine Lst1.mk fun s_ hs_ => ?_; (try simp only [List.take_length, List.drop_zero, ← List.map_take, ← List.map_drop] at hs_); subst hs_)); (conv => whnf)))
  refine brec ?_; intro c_ hc; (try rw [hc]); cases c_ <;> (first | replace hc := of_decide_eq_true hc | replace hc := Decidable.not_not.1 (of_decide_eq_false hc) | replace hc := of_decide_eq_false hc | (replace hc := Bool.eq_false_iff.1 hc; simp only [true_and, and_true, Bool.true_and, Bool.and_true, Bool.not_true, Bool.not_false, Bool.and_eq_true, Bool.not_eq_true, Bool.not_eq_false, Bool.or_eq_true, Bool.not_eq_true', Bool.not_eq_false', decide_eq_true_eq, decide_eq_false_iff_not, Decidable.not_not, ne_eq, beq_iff_eq] at hc) | simp only [true_and, and_true, Bool.true_and, Bool.and_true, Bool.not_true, Bool.not_false, Bool.and_eq_true, Bool.not_eq_true, Bool.not_eq_false, Bool.or_eq_true, Bool.not_eq_true', Bool.not_eq_false', decide_eq_true_eq, decide_eq_false_iff_not, Decidable.not_not, ne_eq, beq_iff_eq] at hc | skip)
  · have h2 : checkStyle (applyTo s l) = true := (check_is _).2 (applyTo_is ((check_is s).1 (by simpa using hc)) l)
    ((conv => whnf); repeat ((first | refine CondC.part ?_ | (refine GuardC.part ?_; (conv => whnf); fail_if_success refine brec ?_) | (apply GuardC.sp; (case' h1 => ((conv => whnf); (repeat (refine need.mk (by first | with_reducible exact fun h => h | with_reducible exact not_of_false | exact fun _ => rfl | exact fun h => by simp [h]) ?_; (conv => whnf))); exact trivial)); (case' h2 => (intro hg_; ((conv => whnf); repeat ((first | refine RowAt.mk _ _ _ _ (by repeat (first | exact .here _ _ _ | apply Look.there)) ?_ | refine Fits.ok (by omega) (by omega) ?_ | refine need.mk (by first | omega | rfl | (simp; done) | (simp <;> omega)) ?_ | (refine New1.mk fun b_ hb_ => ?_; clear hb_) | (refine New2.mk fun b_ hb_ => ?_; clear hb_) | (refine Nat1.mk fun q_ hq_ => ?_; (first | (obtain rfl := Int.ofNat.inj hq_; clear hq_) | skip)) | refine at_known (by assumption) ?_ | (refine Elem1.mk fun e_ he_ => ?_; (first | (obtain ⟨x_, hx_, rfl⟩ := getMap he_; clear he_) | (obtain rfl := Option.some.inj he_; clear he_) | skip)) | (refine Lst1.mk fun s_ hs_ => ?_; (try simp only [List.take_length, List.drop_zero, ← List.map_take, ← List.map_drop] at hs_); subst hs_)); (conv => whnf))); refine And.intro ?_ rfl; exact Eq.refl _))) | refine GuardC.part ?_ | refine needO.mk (by ((conv => whnf); (repeat (refine need.mk (by first | with_reducible exact fun h => h | with_reducible exact not_of_false | exact fun _ => rfl | exact fun h => by simp [h]) ?_; (conv => whnf))); exact trivial)) ?_ | with_reducible refine need.mk (fun h => h) ?_ | with_reducible refine need.mk not_of_false ?_ | refine RowAt.mk _ _ _ _ (by repeat (first | exact .here _ _ _ | apply Look.there)) ?_ | refine Fits.ok (by omega) (by omega) ?_ | refine need.mk (by first | omega | rfl | (simp; done) | (simp <;> omega)) ?_ | (refine New1.mk fun b_ hb_ => ?_; clear hb_) | (refine New2.mk fun b_ hb_ => ?_; clear hb_) | (refine Nat1.mk fun q_ hq_ => ?_; (first | (obtain rfl := Int.ofNat.inj hq_; clear hq_) | skip)) | refine at_known (by assumption) ?_ | (refine Elem1.mk fun e_ he_ => ?_; (first | (obtain ⟨x_, hx_, rfl⟩ := getMap he_; clear he_) | (obtain rfl := Option.some.inj he_; clear he_) | skip)) | (refine Lst1.mk fun s_ hs_ => ?_; (try simp only [List.take_length, List.drop_zero, ← List.map_take, ← List.map_drop] at hs_); subst hs_)); (conv => whnf)))
    refine (apply_ok W s l (by omega)).use ?_
    ((conv => whnf); repeat ((first | refine CondC.part ?_ | (refine GuardC.part ?_; (conv => whnf); fail_if_success refine brec ?_) | (apply GuardC.sp; (case' h1 => ((conv => whnf); (repeat (refine need.mk (by first | with_reducible exact fun h => h | with_reducible exact not_of_false | exact fun _ => rfl | exact fun h => by simp [h]) ?_; (conv => whnf))); exact trivial)); (case' h2 => (intro hg_; ((conv => whnf); repeat ((first | refine RowAt.mk _ _ _ _ (by repeat (first | exact .here _ _ _ | apply Look.there)) ?_ | refine Fits.ok (by omega) (by omega) ?_ | refine need.mk (by first | omega | rfl | (simp; done) | (simp <;> omega)) ?_ | (refine New1.mk fun b_ hb_ => ?_; clear hb_) | (refine New2.mk fun b_ hb_ => ?_; clear hb_) | (refine Nat1.mk fun q_ hq_ => ?_; (first | (obtain rfl := Int.ofNat.inj hq_; clear hq_) | skip)) | refine at_known (by assumption) ?_ | (refine Elem1.mk fun e_ he_ => ?_; (first | (obtain ⟨x_, hx_, rfl⟩ := getMap he_; clear he_) | (obtain rfl := Option.some.inj he_; clear he_) | skip)) | (refine Lst1.mk fun s_ hs_ => ?_; (try simp only [List.take_length, List.drop_zero, ← List.map_take, ← List.map_drop] at hs_); subst hs_)); (conv => whnf))); refine And.intro ?_ rfl; exact Eq.refl _))) | refine GuardC.part ?_ | refine needO.mk (by ((conv => whnf); (repeat (refine need.mk (by first | with_reducible exact fun h => h | with_reducible exact not_of_false | exact fun _ => rfl | exact fun h => by simp [h]) ?_; (conv => whnf))); exact trivial)) ?_ | with_reducible refine need.mk (fun h => h) ?_ | with_reducible refine need.mk not_of_false ?_ | refine RowAt.mk _ _ _ _ (by repeat (first | exact .here _ _ _ | apply Look.there)) ?_ | refine Fits.ok (by omega) (by omega) ?_ | refine need.mk (by first | omega | rfl | (simp; done) | (simp <;> omega)) ?_ | (refine New1.mk fun b_ hb_ => ?_; clear hb_) | (refine New2.mk fun b_ hb_ => ?_; clear hb_) | (refine Nat1.mk fun q_ hq_ => ?_; (first | (obtain rfl := Int.ofNat.inj hq_; clear hq_) | skip)) | refine at_known (by assumption) ?_ | (refine Elem1.mk fun e_ he_ => ?_; (first | (obtain ⟨x_, hx_, rfl⟩ := getMap he_; clear he_) | (obtain rfl := Option.some.inj he_; clear he_) | skip)) | (refine Lst1.mk fun s_ hs_ => ?_; (try simp only [List.take_length, List.drop_zero, ← List.map_take, ← List.map_drop] at hs_); subst hs_)); (conv => whnf)))
    refine (styleCheck_ok W _).use ?_
    rw [h2]
    ((conv => whnf); repeat ((first | refine CondC.part ?_ | (refine GuardC.part ?_; (conv => whnf); fail_if_success refine brec ?_) | (apply GuardC.sp; (case' h1 => ((conv => whnf); (repeat (refine need.mk (by first | with_reducible exact fun h => h | with_reducible exact not_of_false | exact fun _ => rfl | exact fun h => by simp [h]) ?_; (conv => whnf))); exact trivial)); (case' h2 => (intro hg_; ((conv => whnf); repeat ((first | refine RowAt.mk _ _ _ _ (by repeat (first | exact .here _ _ _ | apply Look.there)) ?_ | refine Fits.ok (by omega) (by omega) ?_ | refine need.mk (by first | omega | rfl | (simp; done) | (simp <;> omega)) ?_ | (refine New1.mk fun b_ hb_ => ?_; clear hb_) | (refine New2.mk fun b_ hb_ => ?_; clear hb_) | (refine Nat1.mk fun q_ hq_ => ?_; (first | (obtain rfl := Int.ofNat.inj hq_; clear hq_) | skip)) | refine at_known (by assumption) ?_ | (refine Elem1.mk fun e_ he_ => ?_; (first | (obtain ⟨x_, hx_, rfl⟩ := getMap he_; clear he_) | (obtain rfl := Option.some.inj he_; clear he_) | skip)) | (refine Lst1.mk fun s_ hs_ => ?_; (try simp only [List.take_length, List.drop_zero, ← List.map_take, ← List.map_drop] at hs_); subst hs_)); (conv => whnf))); refine And.intro ?_ rfl; exact Eq.refl _))) | refine GuardC.part ?_ | refine needO.mk (by ((conv => whnf); (repeat (refine need.mk (by first | with_reducible exact fun h => h | with_reducible exact not_of_false | exact fun _ => rfl | exact fun h => by simp [h]) ?_; (conv => whnf))); exact trivial)) ?_ | with_reducible refine need.mk (fun h => h) ?_ | with_reducible refine need.mk not_of_false ?_ | refine RowAt.mk _ _ _ _ (by repeat (first | exact .here _ _ _ | apply Look.there)) ?_ | refine Fits.ok (by omega) (by omega) ?_ | refine need.mk (by first | omega | rfl | (simp; done) | (simp <;> omega)) ?_ | (refine New1.mk fun b_ hb_ => ?_; clear hb_) | (refine New2.mk fun b_ hb_ => ?_; clear hb_) | (refine Nat1.mk fun q_ hq_ => ?_; (first | (obtain rfl := Int.ofNat.inj hq_; clear hq_) | skip)) | refine at_known (by assumption) ?_ | (refine Elem1.mk fun e_ he_ => ?_; (first | (obtain ⟨x_, hx_, rfl⟩ := getMap he_; clear he_) | (obtain rfl := Option.some.inj he_; clear he_) | skip)) | (refine Lst1.mk fun s_ hs_ => ?_; (try simp only [List.take_length, List.drop_zero, ← List.map_take, ← List.map_drop] at hs_); subst hs_)); (conv => whnf)))
    exact .refl _
  · ((conv => whnf); repeat ((first | refine CondC.part ?_ | (refine GuardC.part ?_; (conv => whnf); fail_if_success refine brec ?_) | (apply GuardC.sp; (case' h1 => ((conv => whnf); (repeat (refine need.mk (by first | with_reducible exact fun h => h | with_reducible exact not_of_false | exact fun _ => rfl | exact fun h => by simp [h]) ?_; (conv => whnf))); exact trivial)); (case' h2 => (intro hg_; ((conv => whnf); repeat ((first | refine RowAt.mk _ _ _ _ (by repeat (first | exact .here _ _ _ | apply Look.there)) ?_ | refine Fits.ok (by omega) (by omega) ?_ | refine need.mk (by first | omega | rfl | (simp; done) | (simp <;> omega)) ?_ | (refine New1.mk fun b_ hb_ => ?_; clear hb_) | (refine New2.mk fun b_ hb_ => ?_; clear hb_) | (refine Nat1.mk fun q_ hq_ => ?_; (first | (obtain rfl := Int.ofNat.inj hq_; clear hq_) | skip)) | refine at_known (by assumption) ?_ | (refine Elem1.mk fun e_ he_ => ?_; (first | (obtain ⟨x_, hx_, rfl⟩ := getMap he_; clear he_) | (obtain rfl := Option.some.inj he_; clear he_) | skip)) | (refine Lst1.mk fun s_ hs_ => ?_; (try simp only [List.take_length, List.drop_zero, ← List.map_take, ← List.map_drop] at hs_); subst hs_)); (conv => whnf))); refine And.intro ?_ rfl; exact Eq.refl _))) | refine GuardC.part ?_ | refine needO.mk (by ((conv => whnf); (repeat (refine need.mk (by first | with_reducible exact fun h => h | with_reducible exact not_of_false | exact fun _ => rfl | exact fun h => by simp [h]) ?_; (conv => whnf))); exact trivial)) ?_ | with_reducible refine need.mk (fun h => h) ?_ | with_reducible refine need.mk not_of_false ?_ | refine RowAt.mk _ _ _ _ (by repeat (first | exact .here _ _ _ | apply Look.there)) ?_ | refine Fits.ok (by omega) (by omega) ?_ | refine need.mk (by first | omega | rfl | (simp; done) | (simp <;> omega)) ?_ | (refine New1.mk fun b_ hb_ => ?_; clear hb_) | (refine New2.mk fun b_ hb_ => ?_; clear hb_) | (refine Nat1.mk fun q_ hq_ => ?_; (first | (obtain rfl := Int.ofNat.inj hq_; clear hq_) | skip)) | refine at_known (by assumption) ?_ | (refine Elem1.mk fun e_ he_ => ?_; (first | (obtain ⟨x_, hx_, rfl⟩ := getMap he_; clear he_) | (obtain rfl := Option.some.inj he_; clear he_) | skip)) | (refine Lst1.mk fun s_ hs_ => ?_; (try simp only [List.take_length, List.drop_zero, ← List.map_take, ← List.map_drop] at hs_); subst hs_)); (conv => whnf)))
    exact .refl _
end Go.Eng.YtnnehgmibpfibaaDoor
