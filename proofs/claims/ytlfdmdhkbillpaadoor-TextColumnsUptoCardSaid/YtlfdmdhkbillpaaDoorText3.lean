/- Package text's texts: Cut, Fit; what the laws look at first. -/
import Derived.Test.YtlfdmdhkbillpaaDoorText2
namespace Go.Eng.YtlfdmdhkbillpaaDoor
open Go Go.Eng Go.Proofs
variable (W : World)
set_option linter.unusedSimpArgs false
set_option maxRecDepth 100000
set_option linter.unusedVariables false

/-- Where a text of runes is cut that may take n cells. -/
def cutAt (n : Int) : Nat → List (Nat × Nat) → Nat
  | _, [] => 0
  | used, p :: l => if n < used + widthL p.1 then 0 else p.2 + cutAt n (used + widthL p.1) l
def cutL (s : List UInt8) (n : Int) : List UInt8 := s.take (cutAt n 0 (runes s))
theorem cutAt_le (n : Int) : ∀ s used, cutAt n used (runes s) ≤ s.length := by
  refine runes_ind (fun used => by rw [runes_nil]; simp [cutAt]) fun s h ih used => ?_
  rw [runes_cons h, cutAt]
  have := ih (used + widthL (dec s).1)
  have := dec_le s
  simp at *
  split <;> omega
theorem cut_ok (hT : Tabs W) (s : List UInt8) (n : Int) (hs : s.length ≤ 4611686018427387903) : Pure Tryd.prog W 57 [.str s, .int .i64 n] (.str (cutL s n)) := by
  refine Pure.of (acalls_of_vc (drawOk W) Tryd.func57 rfl (by decide) (by decide) rfl ?_)
  (refine go ?_; repeat ((first | (refine New1.mk fun b_ hb_ => ?_; clear hb_) | (refine New2.mk fun b_ hb_ => ?_; clear hb_) | (refine Nat1.mk fun q_ hq_ => ?_; (first | (obtain rfl := Int.ofNat.inj hq_; clear hq_) | skip)) | (refine Elem1.mk fun e_ he_ => ?_; (first | (obtain ⟨x_, hx_, rfl⟩ := getMap he_; clear he_) | (obtain rfl := Option.some.inj he_; clear he_) | skip)) | (refine Lst1.mk fun s_ hs_ => ?_; (try simp only [List.take_length, List.drop_zero, ← List.map_take, ← List.map_drop] at hs_); subst hs_)); refine go ?_))
  refine' Loops.inv (loop_use (α := Nat × Nat) (fun (at_, used) => [(5, .int .i64 at_), (6, .int .i64 used)]) [(0, _), (1, _)] (fun (at_, used) => []) (fun (at_, used) => at_ ≤ s.length ∧ used ≤ 2 * at_ ∧ at_ + cutAt n used (runes (s.drop at_)) = cutAt n 0 (runes s)) (fun (at_, used) => s.length - at_) (0, 0) ?hu_ ?hl_ ?hm_ ?hr_ ?hb_); (case' hu_ => exact ⟨(by first | ((conv => lhs; whnf); done) | ((conv => lhs; whnf); exact rfl)), (by first | ((conv => lhs; whnf); done) | ((conv => lhs; whnf); exact rfl)), trivial⟩); (case' hl_ => exact ⟨(by first | rfl | ((conv => lhs; whnf); rfl) | (simp; done)), (by first | rfl | ((conv => lhs; whnf); rfl) | (simp; done)), trivial⟩); (case' hm_ => (first | exact ⟨_, .refl _⟩ | exact wkMem.rfl' | exact ⟨_, .swap _ _ _⟩ | (repeat (first | exact wkMem.nil _ | exact wkMem.rfl' | exact wk_snoc _ _ _ | exact wk_fam (by assumption) _ _ _ | (apply wkMem.cons; (case' hl => (repeat (first | exact .here _ _ _ | apply Look.there)))) | apply wkMem.skip))))
  · exact ⟨Nat.zero_le _, Nat.le_refl _, by simp⟩
  rintro ⟨at_, used⟩ ⟨h1, h2, h3⟩
  (refine go ?_; repeat ((first | (refine New1.mk fun b_ hb_ => ?_; clear hb_) | (refine New2.mk fun b_ hb_ => ?_; clear hb_) | (refine Nat1.mk fun q_ hq_ => ?_; (first | (obtain rfl := Int.ofNat.inj hq_; clear hq_) | skip)) | (refine Elem1.mk fun e_ he_ => ?_; (first | (obtain ⟨x_, hx_, rfl⟩ := getMap he_; clear he_) | (obtain rfl := Option.some.inj he_; clear he_) | skip)) | (refine Lst1.mk fun s_ hs_ => ?_; (try simp only [List.take_length, List.drop_zero, ← List.map_take, ← List.map_drop] at hs_); subst hs_)); refine go ?_))
  refine brec ?_; intro c_ h; (try rw [h]); cases c_ <;> (first | replace h := of_decide_eq_true h | replace h := Decidable.not_not.1 (of_decide_eq_false h) | replace h := of_decide_eq_false h | (replace h := Bool.eq_false_iff.1 h; simp only [true_and, and_true, Bool.true_and, Bool.and_true, Bool.not_true, Bool.not_false, Bool.and_eq_true, Bool.not_eq_true, Bool.not_eq_false, Bool.or_eq_true, Bool.not_eq_true', Bool.not_eq_false', decide_eq_true_eq, decide_eq_false_iff_not, Decidable.not_not, ne_eq, beq_iff_eq] at h) | simp only [true_and, and_true, Bool.true_and, Bool.and_true, Bool.not_true, Bool.not_false, Bool.and_eq_true, Bool.not_eq_true, Bool.not_eq_false, Bool.or_eq_true, Bool.not_eq_true', Bool.not_eq_false', decide_eq_true_eq, decide_eq_false_iff_not, Decidable.not_not, ne_eq, beq_iff_eq] at h | skip)
  · have h : at_ = s.length := by omega
    (refine go ?_; repeat ((first | (refine New1.mk fun b_ hb_ => ?_; clear hb_) | (refine New2.mk fun b_ hb_ => ?_; clear hb_) | (refine Nat1.mk fun q_ hq_ => ?_; (first | (obtain rfl := Int.ofNat.inj hq_; clear hq_) | skip)) | (refine Elem1.mk fun e_ he_ => ?_; (first | (obtain ⟨x_, hx_, rfl⟩ := getMap he_; clear he_) | (obtain rfl := Option.some.inj he_; clear he_) | skip)) | (refine Lst1.mk fun s_ hs_ => ?_; (try simp only [List.take_length, List.drop_zero, ← List.map_take, ← List.map_drop] at hs_); subst hs_)); refine go ?_))
    subst h
    rw [List.drop_length, runes_nil] at h3
    have : cutAt n used [] = 0 := rfl
    rw [this] at h3
    simp [cutL, ← h3]
    exact .refl _
  · have hne : s.drop at_ ≠ [] := by simp; omega
    have hd := dec_le (s.drop at_)
    have hp := dec_pos (s.drop at_) hne
    have hw := widthL_le (dec (s.drop at_)).1
    rw [List.length_drop] at hd
    rw [runes_cons hne, cutAt] at h3
    have hn2 := nextL_of hne
    (refine go ?_; repeat ((first | (refine New1.mk fun b_ hb_ => ?_; clear hb_) | (refine New2.mk fun b_ hb_ => ?_; clear hb_) | (refine Nat1.mk fun q_ hq_ => ?_; (first | (obtain rfl := Int.ofNat.inj hq_; clear hq_) | skip)) | (refine Elem1.mk fun e_ he_ => ?_; (first | (obtain ⟨x_, hx_, rfl⟩ := getMap he_; clear he_) | (obtain rfl := Option.some.inj he_; clear he_) | skip)) | (refine Lst1.mk fun s_ hs_ => ?_; (try simp only [List.take_length, List.drop_zero, ← List.map_take, ← List.map_drop] at hs_); subst hs_)); refine go ?_))
    refine (next_ok W hT _).use ?_; (refine go ?_; repeat ((first | (refine New1.mk fun b_ hb_ => ?_; clear hb_) | (refine New2.mk fun b_ hb_ => ?_; clear hb_) | (refine Nat1.mk fun q_ hq_ => ?_; (first | (obtain rfl := Int.ofNat.inj hq_; clear hq_) | skip)) | (refine Elem1.mk fun e_ he_ => ?_; (first | (obtain ⟨x_, hx_, rfl⟩ := getMap he_; clear he_) | (obtain rfl := Option.some.inj he_; clear he_) | skip)) | (refine Lst1.mk fun s_ hs_ => ?_; (try simp only [List.take_length, List.drop_zero, ← List.map_take, ← List.map_drop] at hs_); subst hs_)); refine go ?_))
    refine (width_ok W _).use ?_; (refine go ?_; repeat ((first | (refine New1.mk fun b_ hb_ => ?_; clear hb_) | (refine New2.mk fun b_ hb_ => ?_; clear hb_) | (refine Nat1.mk fun q_ hq_ => ?_; (first | (obtain rfl := Int.ofNat.inj hq_; clear hq_) | skip)) | (refine Elem1.mk fun e_ he_ => ?_; (first | (obtain ⟨x_, hx_, rfl⟩ := getMap he_; clear he_) | (obtain rfl := Option.some.inj he_; clear he_) | skip)) | (refine Lst1.mk fun s_ hs_ => ?_; (try simp only [List.take_length, List.drop_zero, ← List.map_take, ← List.map_drop] at hs_); subst hs_)); refine go ?_))
    rw [hn2]
    (refine go ?_; repeat ((first | (refine New1.mk fun b_ hb_ => ?_; clear hb_) | (refine New2.mk fun b_ hb_ => ?_; clear hb_) | (refine Nat1.mk fun q_ hq_ => ?_; (first | (obtain rfl := Int.ofNat.inj hq_; clear hq_) | skip)) | (refine Elem1.mk fun e_ he_ => ?_; (first | (obtain ⟨x_, hx_, rfl⟩ := getMap he_; clear he_) | (obtain rfl := Option.some.inj he_; clear he_) | skip)) | (refine Lst1.mk fun s_ hs_ => ?_; (try simp only [List.take_length, List.drop_zero, ← List.map_take, ← List.map_drop] at hs_); subst hs_)); refine go ?_))
    refine brec ?_; intro c_ hc; (try rw [hc]); cases c_ <;> (first | replace hc := of_decide_eq_true hc | replace hc := Decidable.not_not.1 (of_decide_eq_false hc) | replace hc := of_decide_eq_false hc | (replace hc := Bool.eq_false_iff.1 hc; simp only [true_and, and_true, Bool.true_and, Bool.and_true, Bool.not_true, Bool.not_false, Bool.and_eq_true, Bool.not_eq_true, Bool.not_eq_false, Bool.or_eq_true, Bool.not_eq_true', Bool.not_eq_false', decide_eq_true_eq, decide_eq_false_iff_not, Decidable.not_not, ne_eq, beq_iff_eq] at hc) | simp only [true_and, and_true, Bool.true_and, Bool.and_true, Bool.not_true, Bool.not_false, Bool.and_eq_true, Bool.not_eq_true, Bool.not_eq_false, Bool.or_eq_true, Bool.not_eq_true', Bool.not_eq_false', decide_eq_true_eq, decide_eq_false_iff_not, Decidable.not_not, ne_eq, beq_iff_eq] at hc | skip)
    · rw [if_neg hc] at h3
      (refine go ?_; repeat ((first | (refine New1.mk fun b_ hb_ => ?_; clear hb_) | (refine New2.mk fun b_ hb_ => ?_; clear hb_) | (refine Nat1.mk fun q_ hq_ => ?_; (first | (obtain rfl := Int.ofNat.inj hq_; clear hq_) | skip)) | (refine Elem1.mk fun e_ he_ => ?_; (first | (obtain ⟨x_, hx_, rfl⟩ := getMap he_; clear he_) | (obtain rfl := Option.some.inj he_; clear he_) | skip)) | (refine Lst1.mk fun s_ hs_ => ?_; (try simp only [List.take_length, List.drop_zero, ← List.map_take, ← List.map_drop] at hs_); subst hs_)); refine go ?_))
      refine (width_ok W _).use ?_; (refine go ?_; repeat ((first | (refine New1.mk fun b_ hb_ => ?_; clear hb_) | (refine New2.mk fun b_ hb_ => ?_; clear hb_) | (refine Nat1.mk fun q_ hq_ => ?_; (first | (obtain rfl := Int.ofNat.inj hq_; clear hq_) | skip)) | (refine Elem1.mk fun e_ he_ => ?_; (first | (obtain ⟨x_, hx_, rfl⟩ := getMap he_; clear he_) | (obtain rfl := Option.some.inj he_; clear he_) | skip)) | (refine Lst1.mk fun s_ hs_ => ?_; (try simp only [List.take_length, List.drop_zero, ← List.map_take, ← List.map_drop] at hs_); subst hs_)); refine go ?_))
      refine ⟨(at_ + (dec (s.drop at_)).2, used + widthL (dec (s.drop at_)).1), ?_, ?_, ⟨(by first | rfl | ((conv => lhs; whnf); first | rfl | (congr 1; (try push_cast); omega) | (congr 1; simp; done) | (simp; done) | (simp [*]; done))), (by first | rfl | ((conv => lhs; whnf); first | rfl | (congr 1; (try push_cast); omega) | (congr 1; simp; done) | (simp; done) | (simp [*]; done))), (by first | rfl | ((conv => lhs; whnf); rfl)), (by first | rfl | ((conv => lhs; whnf); rfl)), trivial⟩, (by (first | exact ⟨_, .refl _⟩ | exact wkMem.rfl' | exact ⟨_, .swap _ _ _⟩ | (repeat (first | exact wkMem.nil _ | exact wkMem.rfl' | exact wk_snoc _ _ _ | exact wk_fam (by assumption) _ _ _ | (apply wkMem.cons; (case' hl => (repeat (first | exact .here _ _ _ | apply Look.there)))) | apply wkMem.skip))))⟩
      · refine ⟨by ((try dsimp only); (try simp only [List.length_drop, List.length_take, List.length_append, List.length_cons, List.length_nil, List.length_map] at *); omega), by ((try dsimp only); (try simp only [List.length_drop, List.length_take, List.length_append, List.length_cons, List.length_nil, List.length_map] at *); omega), ?_⟩
        rw [← List.drop_drop]; ((try dsimp only); (try simp only [List.length_drop, List.length_take, List.length_append, List.length_cons, List.length_nil, List.length_map] at *); omega)
      · ((try dsimp only); (try simp only [List.length_drop, List.length_take, List.length_append, List.length_cons, List.length_nil, List.length_map] at *); omega)
    · rw [if_pos hc] at h3
      (refine go ?_; repeat ((first | (refine New1.mk fun b_ hb_ => ?_; clear hb_) | (refine New2.mk fun b_ hb_ => ?_; clear hb_) | (refine Nat1.mk fun q_ hq_ => ?_; (first | (obtain rfl := Int.ofNat.inj hq_; clear hq_) | skip)) | (refine Elem1.mk fun e_ he_ => ?_; (first | (obtain ⟨x_, hx_, rfl⟩ := getMap he_; clear he_) | (obtain rfl := Option.some.inj he_; clear he_) | skip)) | (refine Lst1.mk fun s_ hs_ => ?_; (try simp only [List.take_length, List.drop_zero, ← List.map_take, ← List.map_drop] at hs_); subst hs_)); refine go ?_))
      simp [cutL, ← h3]
      exact .refl _

theorem repeat_ok (s : List UInt8) (c : Nat) (hc : s.length * c ≤ 140737488355328) (hc2 : c ≤ 9223372036854775807) : Pure Tryd.prog W 78 [.str s, .int .i64 c] (.str (Lib.repeatL s c)) :=
  Pure.of_below Tryd.func78 rfl (by decide) rfl rfl fun w _ _ => Tryd.strings_Repeat ⟨s.toArray⟩ c w hc2 (by simpa [ByteArray.size] using hc)
end Go.Eng.YtlfdmdhkbillpaaDoor
