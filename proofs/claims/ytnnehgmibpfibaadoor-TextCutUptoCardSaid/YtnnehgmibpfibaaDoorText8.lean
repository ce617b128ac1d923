/- The document's CutOf; the laws TextCut and TextParts. -/
import Derived.Test.YtnnehgmibpfibaaDoorText7
namespace Go.Eng.YtnnehgmibpfibaaDoor
open Go Go.Eng Go.Proofs
variable (W : World)
set_option maxRecDepth 100000
set_option linter.unusedVariables false
set_option maxHeartbeats 2000000
theorem runes_len : ∀ s : List UInt8, (runes s).length ≤ s.length := by
  refine runes_ind (by simp [runes_nil]) fun s h ih => ?_
  have := dec_pos s h
  have := List.length_pos_iff.2 h
  rw [runes_cons h]
  simp at ih ⊢; omega
theorem cutOf_ok (s : List UInt8) (n : Int) (hs : s.length ≤ 1048576) : Pure Tryd.prog W 37 [.str s, .int .i64 n] (.str (cutL s n)) := by
  refine Pure.of (acalls_of_vc (drawOk W) Tryd.func37 rfl (by decide) (by decide) rfl ?_)
  have hlen := runes_len s
  have hcle := cutAt_le n s 0
  ((conv => whnf); repeat ((first | refine RowAt.mk _ _ _ _ (by repeat (first | exact .here _ _ _ | apply Look.there)) ?_ | refine Fits.ok (by omega) (by omega) ?_ | refine need.mk (by first | omega | rfl | (simp; done) | (simp <;> omega)) ?_ | (refine New1.mk fun b_ hb_ => ?_; clear hb_) | (refine New2.mk fun b_ hb_ => ?_; clear hb_) | (refine Nat1.mk fun q_ hq_ => ?_; (first | (obtain rfl := Int.ofNat.inj hq_; clear hq_) | skip)) | refine at_known (by assumption) ?_ | (refine Elem1.mk fun e_ he_ => ?_; (first | (obtain ⟨x_, hx_, rfl⟩ := getMap he_; clear he_) | (obtain rfl := Option.some.inj he_; clear he_) | skip)) | (refine Lst1.mk fun s_ hs_ => ?_; (try simp only [List.take_length, List.drop_zero, ← List.map_take, ← List.map_drop] at hs_); subst hs_)); (conv => whnf)))
  refine (runesR_ok W s hs).use ?_; ((conv => whnf); repeat ((first | refine RowAt.mk _ _ _ _ (by repeat (first | exact .here _ _ _ | apply Look.there)) ?_ | refine Fits.ok (by omega) (by omega) ?_ | refine need.mk (by first | omega | rfl | (simp; done) | (simp <;> omega)) ?_ | (refine New1.mk fun b_ hb_ => ?_; clear hb_) | (refine New2.mk fun b_ hb_ => ?_; clear hb_) | (refine Nat1.mk fun q_ hq_ => ?_; (first | (obtain rfl := Int.ofNat.inj hq_; clear hq_) | skip)) | refine at_known (by assumption) ?_ | (refine Elem1.mk fun e_ he_ => ?_; (first | (obtain ⟨x_, hx_, rfl⟩ := getMap he_; clear he_) | (obtain rfl := Option.some.inj he_; clear he_) | skip)) | (refine Lst1.mk fun s_ hs_ => ?_; (try simp only [List.take_length, List.drop_zero, ← List.map_take, ← List.map_drop] at hs_); subst hs_)); (conv => whnf)))
  refine' Loops.inv (loop_use (α := Nat × Nat × Nat) (fun (i, used, e) => [(7, .int .i64 e), (8, .int .i64 used), (18, .int .i64 i)]) [(0, _), (1, _), (6, _), (16, _), (17, _)] (fun (i, used, e) => []) (fun (i, used, e) => i ≤ (runes s).length ∧ used ≤ 2 * i ∧ e + cutAt n used ((runes s).drop i) = cutAt n 0 (runes s)) (fun (i, used, e) => (runes s).length - i) (0, 0, 0) ?hu_ ?hl_ ?hm_ ?hr_ ?hb_); (case' hu_ => exact ⟨(by first | ((conv => lhs; whnf); done) | ((conv => lhs; whnf); exact rfl)), (by first | ((conv => lhs; whnf); done) | ((conv => lhs; whnf); exact rfl)), (by first | ((conv => lhs; whnf); done) | ((conv => lhs; whnf); exact rfl)), (by first | ((conv => lhs; whnf); done) | ((conv => lhs; whnf); exact rfl)), (by first | ((conv => lhs; whnf); done) | ((conv => lhs; whnf); exact rfl)), trivial⟩); (case' hl_ => exact ⟨(by first | rfl | ((conv => lhs; whnf); rfl) | (simp; done)), (by first | rfl | ((conv => lhs; whnf); rfl) | (simp; done)), (by first | rfl | ((conv => lhs; whnf); rfl) | (simp; done)), trivial⟩); (case' hm_ => exact ⟨_, by first | exact .refl _ | (simp; done)⟩)
  · exact ⟨Nat.zero_le _, Nat.le_refl _, by simp⟩
  rintro ⟨i, used, e⟩ ⟨h1, h2, h3⟩
  ((conv => whnf); repeat ((first | refine RowAt.mk _ _ _ _ (by repeat (first | exact .here _ _ _ | apply Look.there)) ?_ | refine Fits.ok (by omega) (by omega) ?_ | refine need.mk (by first | omega | rfl | (simp; done) | (simp <;> omega)) ?_ | (refine New1.mk fun b_ hb_ => ?_; clear hb_) | (refine New2.mk fun b_ hb_ => ?_; clear hb_) | (refine Nat1.mk fun q_ hq_ => ?_; (first | (obtain rfl := Int.ofNat.inj hq_; clear hq_) | skip)) | refine at_known (by assumption) ?_ | (refine Elem1.mk fun e_ he_ => ?_; (first | (obtain ⟨x_, hx_, rfl⟩ := getMap he_; clear he_) | (obtain rfl := Option.some.inj he_; clear he_) | skip)) | (refine Lst1.mk fun s_ hs_ => ?_; (try simp only [List.take_length, List.drop_zero, ← List.map_take, ← List.map_drop] at hs_); subst hs_)); (conv => whnf)))
  refine brec ?_; intro c_ h; (try rw [h]); cases c_ <;> (first | replace h := of_decide_eq_true h | replace h := Decidable.not_not.1 (of_decide_eq_false h) | replace h := of_decide_eq_false h | simp only [Bool.not_eq_true', Bool.not_eq_false', decide_eq_true_eq, decide_eq_false_iff_not, Decidable.not_not, ne_eq, beq_iff_eq] at h | skip)
  · simp only [List.length_map] at h
    rw [List.drop_of_length_le (by omega)] at h3
    have h4 : e = cutAt n 0 (runes s) := by rw [← h3]; rfl
    ((conv => whnf); repeat ((first | refine RowAt.mk _ _ _ _ (by repeat (first | exact .here _ _ _ | apply Look.there)) ?_ | refine Fits.ok (by omega) (by omega) ?_ | refine need.mk (by first | omega | rfl | (simp; done) | (simp <;> omega)) ?_ | (refine New1.mk fun b_ hb_ => ?_; clear hb_) | (refine New2.mk fun b_ hb_ => ?_; clear hb_) | (refine Nat1.mk fun q_ hq_ => ?_; (first | (obtain rfl := Int.ofNat.inj hq_; clear hq_) | skip)) | refine at_known (by assumption) ?_ | (refine Elem1.mk fun e_ he_ => ?_; (first | (obtain ⟨x_, hx_, rfl⟩ := getMap he_; clear he_) | (obtain rfl := Option.some.inj he_; clear he_) | skip)) | (refine Lst1.mk fun s_ hs_ => ?_; (try simp only [List.take_length, List.drop_zero, ← List.map_take, ← List.map_drop] at hs_); subst hs_)); (conv => whnf)))
    rw [h4]
    exact .refl _
  · simp only [List.length_map] at h
    obtain ⟨p, hp⟩ : ∃ p, (runes s)[i]? = some p := ⟨(runes s)[i], List.getElem?_eq_getElem _⟩
    have hw := widthL_le p.1
    rw [drop_cons_of hp, cutAt] at h3
    ((conv => whnf); repeat ((first | refine RowAt.mk _ _ _ _ (by repeat (first | exact .here _ _ _ | apply Look.there)) ?_ | refine Fits.ok (by omega) (by omega) ?_ | refine need.mk (by first | omega | rfl | (simp; done) | (simp <;> omega)) ?_ | (refine New1.mk fun b_ hb_ => ?_; clear hb_) | (refine New2.mk fun b_ hb_ => ?_; clear hb_) | (refine Nat1.mk fun q_ hq_ => ?_; (first | (obtain rfl := Int.ofNat.inj hq_; clear hq_) | skip)) | refine at_known (by assumption) ?_ | (refine Elem1.mk fun e_ he_ => ?_; (first | (obtain ⟨x_, hx_, rfl⟩ := getMap he_; clear he_) | (obtain rfl := Option.some.inj he_; clear he_) | skip)) | (refine Lst1.mk fun s_ hs_ => ?_; (try simp only [List.take_length, List.drop_zero, ← List.map_take, ← List.map_drop] at hs_); subst hs_)); (conv => whnf)))
    refine (widthOf_ok W _).use ?_
    rw [← width_eq]
    ((conv => whnf); repeat ((first | refine RowAt.mk _ _ _ _ (by repeat (first | exact .here _ _ _ | apply Look.there)) ?_ | refine Fits.ok (by omega) (by omega) ?_ | refine need.mk (by first | omega | rfl | (simp; done) | (simp <;> omega)) ?_ | (refine New1.mk fun b_ hb_ => ?_; clear hb_) | (refine New2.mk fun b_ hb_ => ?_; clear hb_) | (refine Nat1.mk fun q_ hq_ => ?_; (first | (obtain rfl := Int.ofNat.inj hq_; clear hq_) | skip)) | refine at_known (by assumption) ?_ | (refine Elem1.mk fun e_ he_ => ?_; (first | (obtain ⟨x_, hx_, rfl⟩ := getMap he_; clear he_) | (obtain rfl := Option.some.inj he_; clear he_) | skip)) | (refine Lst1.mk fun s_ hs_ => ?_; (try simp only [List.take_length, List.drop_zero, ← List.map_take, ← List.map_drop] at hs_); subst hs_)); (conv => whnf)))
    refine brec ?_; intro c_ hc; (try rw [hc]); cases c_ <;> (first | replace hc := of_decide_eq_true hc | replace hc := Decidable.not_not.1 (of_decide_eq_false hc) | replace hc := of_decide_eq_false hc | simp only [Bool.not_eq_true', Bool.not_eq_false', decide_eq_true_eq, decide_eq_false_iff_not, Decidable.not_not, ne_eq, beq_iff_eq] at hc | skip)
    · rw [if_neg (by omega)] at h3
      ((conv => whnf); repeat ((first | refine RowAt.mk _ _ _ _ (by repeat (first | exact .here _ _ _ | apply Look.there)) ?_ | refine Fits.ok (by omega) (by omega) ?_ | refine need.mk (by first | omega | rfl | (simp; done) | (simp <;> omega)) ?_ | (refine New1.mk fun b_ hb_ => ?_; clear hb_) | (refine New2.mk fun b_ hb_ => ?_; clear hb_) | (refine Nat1.mk fun q_ hq_ => ?_; (first | (obtain rfl := Int.ofNat.inj hq_; clear hq_) | skip)) | refine at_known (by assumption) ?_ | (refine Elem1.mk fun e_ he_ => ?_; (first | (obtain ⟨x_, hx_, rfl⟩ := getMap he_; clear he_) | (obtain rfl := Option.some.inj he_; clear he_) | skip)) | (refine Lst1.mk fun s_ hs_ => ?_; (try simp only [List.take_length, List.drop_zero, ← List.map_take, ← List.map_drop] at hs_); subst hs_)); (conv => whnf)))
      refine ⟨(i + 1, used + widthL p.1, e + p.2), ?_, ?_, ⟨(by first | rfl | ((conv => lhs; whnf); first | rfl | (congr 1; (try push_cast); omega) | (congr 1; simp; done) | (simp; done))), (by first | rfl | ((conv => lhs; whnf); first | rfl | (congr 1; (try push_cast); omega) | (congr 1; simp; done) | (simp; done))), (by first | rfl | ((conv => lhs; whnf); first | rfl | (congr 1; (try push_cast); omega) | (congr 1; simp; done) | (simp; done))), (by first | rfl | ((conv => lhs; whnf); rfl)), (by first | rfl | ((conv => lhs; whnf); rfl)), (by first | rfl | ((conv => lhs; whnf); rfl)), (by first | rfl | ((conv => lhs; whnf); rfl)), (by first | rfl | ((conv => lhs; whnf); rfl)), trivial⟩, ⟨_, by first | exact .refl _ | (simp; done)⟩⟩
      · exact ⟨by ((try dsimp only); (try simp only [List.length_drop, List.length_take, List.length_append, List.length_cons, List.length_nil, List.length_map] at *); omega), by ((try dsimp only); (try simp only [List.length_drop, List.length_take, List.length_append, List.length_cons, List.length_nil, List.length_map] at *); omega), by rw [← h3]; omega⟩
      · ((try dsimp only); (try simp only [List.length_drop, List.length_take, List.length_append, List.length_cons, List.length_nil, List.length_map] at *); omega)
    · rw [if_pos (by omega)] at h3
      ((conv => whnf); repeat ((first | refine RowAt.mk _ _ _ _ (by repeat (first | exact .here _ _ _ | apply Look.there)) ?_ | refine Fits.ok (by omega) (by omega) ?_ | refine need.mk (by first | omega | rfl | (simp; done) | (simp <;> omega)) ?_ | (refine New1.mk fun b_ hb_ => ?_; clear hb_) | (refine New2.mk fun b_ hb_ => ?_; clear hb_) | (refine Nat1.mk fun q_ hq_ => ?_; (first | (obtain rfl := Int.ofNat.inj hq_; clear hq_) | skip)) | refine at_known (by assumption) ?_ | (refine Elem1.mk fun e_ he_ => ?_; (first | (obtain ⟨x_, hx_, rfl⟩ := getMap he_; clear he_) | (obtain rfl := Option.some.inj he_; clear he_) | skip)) | (refine Lst1.mk fun s_ hs_ => ?_; (try simp only [List.take_length, List.drop_zero, ← List.map_take, ← List.map_drop] at hs_); subst hs_)); (conv => whnf)))
      rw [show e = cutAt n 0 (runes s) by omega]
      exact .refl _
/-! ### Blanks behind a text -/
theorem decodeN_blank (n n' b0 b1 b2 b3 c1 c2 c3 : Nat) (h1 : (1 < n ∧ b1 / 64 = 2) ↔ (1 < n' ∧ c1 / 64 = 2)) (h2 : (2 < n ∧ b2 / 64 = 2) ↔ (2 < n' ∧ c2 / 64 = 2)) (h3 : (3 < n ∧ b3 / 64 = 2) ↔ (3 < n' ∧ c3 / 64 = 2))
    (e1 : 1 < n → b1 = c1) (e2 : 2 < n → b2 = c2) (e3 : 3 < n → b3 = c3) : Lib.decodeN n b0 b1 b2 b3 = Lib.decodeN n' b0 c1 c2 c3 := by
  unfold Lib.decodeN
  simp only [← h1, ← h2, ← h3]
  by_cases k1 : 1 < n
  · rw [← e1 k1]
    by_cases k2 : 2 < n
    · rw [← e2 k2]
      by_cases k3 : 3 < n
      · rw [← e3 k3]
      · simp [k3]
    · simp [k2]
  · simp [k1]
theorem repeatL_32 : ∀ m, Lib.repeatL [32] m = List.replicate m (32 : UInt8)
  | 0 => rfl
  | m + 1 => by rw [Lib.repeatL, repeatL_32 m]; rfl
theorem dec_blank {s : List UInt8} (h : s ≠ []) (m : Nat) : dec (s ++ List.replicate m 32) = dec s := by
  have hp : 0 < s.length := List.length_pos_iff.2 h
  have hne : s ++ List.replicate m 32 ≠ [] := by simp [h]
  rw [dec_N h, dec_N hne]
  have hat : ∀ k, k < s.length → (s ++ List.replicate m 32).getD k 0 = s.getD k 0 := fun k hk => by
    simp only [List.getD_eq_getElem?_getD]
    rw [List.getElem?_append_left hk]
  have hno : ∀ k, ¬ k < s.length → ((s ++ List.replicate m (32 : UInt8)).getD k 0).toNat / 64 ≠ 2 := fun k hk => by
    simp only [List.getD_eq_getElem?_getD]
    rw [List.getElem?_append_right (by omega), List.getElem?_replicate]
    split <;> decide
  have hln : (s ++ List.replicate m (32 : UInt8)).length = s.length + m := by simp
  rw [hat 0 hp]
  have key : ∀ k, (k < s.length ∧ (s.getD k 0).toNat / 64 = 2) ↔ (k < (s ++ List.replicate m (32 : UInt8)).length ∧ ((s ++ List.replicate m 32).getD k 0).toNat / 64 = 2) := fun k => by
    by_cases hk : k < s.length
    · rw [hat k hk]
      constructor <;> rintro ⟨_, h2⟩ <;> exact ⟨by omega, h2⟩
    · exact ⟨fun h => absurd h.1 hk, fun h => absurd h.2 (hno k hk)⟩
  exact (decodeN_blank _ _ _ _ _ _ _ _ _ (key 1) (key 2) (key 3) (fun h => by rw [hat 1 h]) (fun h => by rw [hat 2 h]) (fun h => by rw [hat 3 h])).symm
theorem runes_blanks : ∀ m, runes (List.replicate m (32 : UInt8)) = List.replicate m (32, 1)
  | 0 => by simp [runes_nil]
  | m + 1 => by
    have e : List.replicate (m + 1) (32 : UInt8) = [32] ++ List.replicate m 32 := rfl
    have h1 : dec [32] = (32, 1) := by decide +kernel
    rw [e, runes_cons (by simp), dec_blank (by simp), h1]
    simp only [List.singleton_append, List.drop_succ_cons, List.drop_zero, runes_blanks m, List.replicate_succ]
theorem runes_blank (m : Nat) : ∀ s, runes (s ++ List.replicate m 32) = runes s ++ List.replicate m (32, 1) := by
  refine runes_ind (by simp [runes_nil, runes_blanks]) fun s h ih => ?_
  have hd := dec_le s
  rw [runes_cons (by simp [h]), dec_blank h, runes_cons h, List.drop_append_of_le_length hd, ih]; rfl
theorem wideRs_blanks : ∀ m, wideRs (List.replicate m (32, 1)) = m
  | 0 => rfl
  | m + 1 => by
    have : widthL ((32 : Nat) : Int) = 1 := by decide +kernel
    rw [List.replicate_succ, wideRs, wideRs_blanks m]
    dsimp only
    omega
theorem fitL_of (s : List UInt8) (n : Int) (m : Nat) (h0 : 0 ≤ n) (h1 : n ≤ 120) (hm : n - wideL (cutL s n) = m) : fitL s n = cutL s n ++ List.replicate m 32 := by
  rw [fitL, if_neg (by omega), hm, Int.toNat_natCast, repeatL_32]
theorem wide_fitL (s : List UInt8) (n : Int) (h0 : 0 ≤ n) (h1 : n ≤ 120) : (wideL (fitL s n) : Int) = n := by
  have := wide_cutL s n h0
  obtain ⟨m, hm⟩ : ∃ m : Nat, n - (wideL (cutL s n) : Int) = m := ⟨(n - wideL (cutL s n)).toNat, by omega⟩
  rw [fitL_of s n m h0 h1 hm, wideL, runes_blank, wideRs_append, wideRs_blanks]
  rw [wideL] at hm; omega
theorem cut_fitL (s : List UInt8) (n : Int) (h0 : 0 ≤ n) (h1 : n ≤ 120) : cutL (fitL s n) n = fitL s n := by
  have hw := wide_fitL s n h0 h1
  have h2 := cutN_all n (runes (fitL s n)) 0 (by rw [wideL] at hw; omega)
  have h3 : cutAt n 0 (runes (fitL s n)) = (fitL s n).length := by rw [cutAt_sizes, h2, List.take_length, sizes_runes]
  conv => lhs; rw [cutL, h3, List.take_length]
theorem hasPrefix_take (s : List UInt8) (k : Nat) : Lib.hasPrefix s (s.take k) = true := by
  rw [← Lib.hasPrefix_of_take]
  simp only [Bool.and_eq_true, decide_eq_true_eq, List.length_take, beq_iff_eq]
  refine ⟨by omega, ?_⟩
  by_cases h : k ≤ s.length
  · rw [Nat.min_eq_left h]
  · rw [Nat.min_eq_right (by omega), List.take_length, List.take_of_length_le (by omega)]
end Go.Eng.YtnnehgmibpfibaaDoor
