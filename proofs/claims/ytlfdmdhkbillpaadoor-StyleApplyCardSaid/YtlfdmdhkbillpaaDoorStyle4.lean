/- Package style's Write; the fact that the laws look at first. -/
import Derived.Test.YtlfdmdhkbillpaaDoorStyle3
import Derived.Lib.ItoaLen
namespace Go.Eng.YtlfdmdhkbillpaaDoor
open Go Go.Eng Go.Proofs
variable (W : World)
set_option linter.unusedSimpArgs false
set_option maxRecDepth 100000
set_option linter.unusedVariables false
set_option maxHeartbeats 4000000
def writeL (l : List Int) : List UInt8 := if l = [] then [] else [27, 91] ++ Lib.join (l.map Lib.itoa) [59] ++ [109]
theorem lens_le : ∀ (l : List Int), (∀ n ∈ l, i64ok n) → Lib.lens (l.map Lib.itoa) ≤ 21 * l.length
  | [], _ => by simp [Lib.lens]
  | n :: l, h => by
    have h0 := h n (List.mem_cons_self ..)
    have h1 := Lib.itoa_length_le n h0.1 h0.2
    have h2 := lens_le l (fun m hm => h m (List.mem_cons_of_mem _ hm))
    simp only [List.map_cons, List.length_cons]
    have : Lib.lens (Lib.itoa n :: l.map Lib.itoa) = (Lib.itoa n).length + Lib.lens (l.map Lib.itoa) := by simp [Lib.lens]
    omega
theorem join_le (l : List Int) (h : ∀ n ∈ l, i64ok n) : (Lib.join (l.map Lib.itoa) [59]).length ≤ 22 * l.length := by
  cases l with
  | nil => simp [Lib.join_nil]
  | cons n l =>
    have := lens_le (n :: l) h
    rw [List.map_cons] at this
    rw [List.map_cons, Lib.join_length]
    simp at this ⊢; omega
theorem write_ok (hN : Nums W) (l : List Int) (hl : l.length ≤ 1048576) (hi : ∀ n ∈ l, i64ok n) : Pure Tryd.prog W 59 [.sl 1 (l.map (PV.int .i64))] (.str (writeL l)) := by
  refine Pure.of (acalls_of_vc (drawOk W) Tryd.func59 rfl (by decide) (by decide) rfl ?_)
  have hj := join_le l hi
  (refine go ?_; repeat ((first | (refine New1.mk fun b_ hb_ => ?_; clear hb_) | (refine New2.mk fun b_ hb_ => ?_; clear hb_) | (refine Nat1.mk fun q_ hq_ => ?_; (first | (obtain rfl := Int.ofNat.inj hq_; clear hq_) | skip)) | (refine Elem1.mk fun e_ he_ => ?_; (first | (obtain ⟨x_, hx_, rfl⟩ := getMap he_; clear he_) | (obtain rfl := Option.some.inj he_; clear he_) | skip)) | (refine Lst1.mk fun s_ hs_ => ?_; (try simp only [List.take_length, List.drop_zero, ← List.map_take, ← List.map_drop] at hs_); subst hs_)); refine go ?_))
  refine brec ?_; intro c_ h0; (try rw [h0]); cases c_ <;> (first | replace h0 := of_decide_eq_true h0 | replace h0 := Decidable.not_not.1 (of_decide_eq_false h0) | replace h0 := of_decide_eq_false h0 | (replace h0 := Bool.eq_false_iff.1 h0; simp only [true_and, and_true, Bool.true_and, Bool.and_true, Bool.not_true, Bool.not_false, Bool.and_eq_true, Bool.not_eq_true, Bool.not_eq_false, Bool.or_eq_true, Bool.not_eq_true', Bool.not_eq_false', decide_eq_true_eq, decide_eq_false_iff_not, Decidable.not_not, ne_eq, beq_iff_eq] at h0) | simp only [true_and, and_true, Bool.true_and, Bool.and_true, Bool.not_true, Bool.not_false, Bool.and_eq_true, Bool.not_eq_true, Bool.not_eq_false, Bool.or_eq_true, Bool.not_eq_true', Bool.not_eq_false', decide_eq_true_eq, decide_eq_false_iff_not, Decidable.not_not, ne_eq, beq_iff_eq] at h0 | skip)
  · simp only [List.length_map] at h0
    (refine go ?_; repeat ((first | (refine New1.mk fun b_ hb_ => ?_; clear hb_) | (refine New2.mk fun b_ hb_ => ?_; clear hb_) | (refine Nat1.mk fun q_ hq_ => ?_; (first | (obtain rfl := Int.ofNat.inj hq_; clear hq_) | skip)) | (refine Elem1.mk fun e_ he_ => ?_; (first | (obtain ⟨x_, hx_, rfl⟩ := getMap he_; clear he_) | (obtain rfl := Option.some.inj he_; clear he_) | skip)) | (refine Lst1.mk fun s_ hs_ => ?_; (try simp only [List.take_length, List.drop_zero, ← List.map_take, ← List.map_drop] at hs_); subst hs_)); refine go ?_))
    refine' Loops.inv (loop_use (α := Nat × Nat × (List PV)) (fun (i, b, ws) => [(3, accV b 1 ws), (11, .int .i64 i)]) [(9, _), (10, _)] (fun (i, b, ws) => accM b 1 ws) (fun (i, b, ws) => i ≤ l.length ∧ ws = ((l.take i).map Lib.itoa).map PV.str) (fun (i, b, ws) => l.length - i) (0, 0, []) ?hu_ ?hl_ ?hm_ ?hr_ ?hb_); (case' hu_ => exact ⟨(by first | ((conv => lhs; whnf); done) | ((conv => lhs; whnf); exact rfl)), (by first | ((conv => lhs; whnf); done) | ((conv => lhs; whnf); exact rfl)), trivial⟩); (case' hl_ => exact ⟨(by first | rfl | ((conv => lhs; whnf); rfl) | (simp; done)), (by first | rfl | ((conv => lhs; whnf); rfl) | (simp; done)), trivial⟩); (case' hm_ => (first | exact ⟨_, .refl _⟩ | exact wkMem.rfl' | exact ⟨_, .swap _ _ _⟩ | (repeat (first | exact wkMem.nil _ | exact wkMem.rfl' | exact wk_snoc _ _ _ | exact wk_fam (by assumption) _ _ _ | (apply wkMem.cons; (case' hl => (repeat (first | exact .here _ _ _ | apply Look.there)))) | apply wkMem.skip))))
    · exact ⟨Nat.zero_le _, by simp⟩
    rintro ⟨i, b, ws⟩ ⟨hil, hw⟩
    (refine go ?_; repeat ((first | (refine New1.mk fun b_ hb_ => ?_; clear hb_) | (refine New2.mk fun b_ hb_ => ?_; clear hb_) | (refine Nat1.mk fun q_ hq_ => ?_; (first | (obtain rfl := Int.ofNat.inj hq_; clear hq_) | skip)) | (refine Elem1.mk fun e_ he_ => ?_; (first | (obtain ⟨x_, hx_, rfl⟩ := getMap he_; clear he_) | (obtain rfl := Option.some.inj he_; clear he_) | skip)) | (refine Lst1.mk fun s_ hs_ => ?_; (try simp only [List.take_length, List.drop_zero, ← List.map_take, ← List.map_drop] at hs_); subst hs_)); refine go ?_))
    refine brec ?_; intro c_ hc; (try rw [hc]); cases c_ <;> (first | replace hc := of_decide_eq_true hc | replace hc := Decidable.not_not.1 (of_decide_eq_false hc) | replace hc := of_decide_eq_false hc | (replace hc := Bool.eq_false_iff.1 hc; simp only [true_and, and_true, Bool.true_and, Bool.and_true, Bool.not_true, Bool.not_false, Bool.and_eq_true, Bool.not_eq_true, Bool.not_eq_false, Bool.or_eq_true, Bool.not_eq_true', Bool.not_eq_false', decide_eq_true_eq, decide_eq_false_iff_not, Decidable.not_not, ne_eq, beq_iff_eq] at hc) | simp only [true_and, and_true, Bool.true_and, Bool.and_true, Bool.not_true, Bool.not_false, Bool.and_eq_true, Bool.not_eq_true, Bool.not_eq_false, Bool.or_eq_true, Bool.not_eq_true', Bool.not_eq_false', decide_eq_true_eq, decide_eq_false_iff_not, Decidable.not_not, ne_eq, beq_iff_eq] at hc | skip)
    · simp only [List.length_map] at hc
      have : i = l.length := by omega
      subst this
      rw [List.take_length] at hw
      have hwl := congrArg List.length hw
      simp only [List.length_map] at hwl
      rcases ws with _ | ⟨x, ws⟩
      · simp only [List.length_nil] at hwl; omega
      (refine go ?_; repeat ((first | (refine New1.mk fun b_ hb_ => ?_; clear hb_) | (refine New2.mk fun b_ hb_ => ?_; clear hb_) | (refine Nat1.mk fun q_ hq_ => ?_; (first | (obtain rfl := Int.ofNat.inj hq_; clear hq_) | skip)) | (refine Elem1.mk fun e_ he_ => ?_; (first | (obtain ⟨x_, hx_, rfl⟩ := getMap he_; clear he_) | (obtain rfl := Option.some.inj he_; clear he_) | skip)) | (refine Lst1.mk fun s_ hs_ => ?_; (try simp only [List.take_length, List.drop_zero, ← List.map_take, ← List.map_drop] at hs_); subst hs_)); refine go ?_))
      refine (join_ok W (l.map Lib.itoa) [59] (by simp; omega) (by omega)).borrow rfl rfl (fun k hk => ?_) ?_
      · match k, hk with
        | 0, _ =>
          rw [← hw]
          exact frz_row (.here _ _ _) _ rfl
        | 1, _ => exact .refl _
      · (refine go ?_; repeat ((first | (refine New1.mk fun b_ hb_ => ?_; clear hb_) | (refine New2.mk fun b_ hb_ => ?_; clear hb_) | (refine Nat1.mk fun q_ hq_ => ?_; (first | (obtain rfl := Int.ofNat.inj hq_; clear hq_) | skip)) | (refine Elem1.mk fun e_ he_ => ?_; (first | (obtain ⟨x_, hx_, rfl⟩ := getMap he_; clear he_) | (obtain rfl := Option.some.inj he_; clear he_) | skip)) | (refine Lst1.mk fun s_ hs_ => ?_; (try simp only [List.take_length, List.drop_zero, ← List.map_take, ← List.map_drop] at hs_); subst hs_)); refine go ?_))
        rw [show writeL l = [27, 91] ++ Lib.join (l.map Lib.itoa) [59] ++ [109] by rw [writeL, if_neg]; intro h; simp [h] at h0]
        exact .refl _
    · simp only [List.length_map] at hc
      obtain ⟨n, hn⟩ : ∃ n, l[i]? = some n := ⟨l[i], List.getElem?_eq_getElem _⟩
      have hnm := List.mem_of_getElem? hn
      rcases ws with _ | ⟨x, ws⟩
      · (refine go ?_; repeat ((first | (refine New1.mk fun b_ hb_ => ?_; clear hb_) | (refine New2.mk fun b_ hb_ => ?_; clear hb_) | (refine Nat1.mk fun q_ hq_ => ?_; (first | (obtain rfl := Int.ofNat.inj hq_; clear hq_) | skip)) | (refine Elem1.mk fun e_ he_ => ?_; (first | (obtain ⟨x_, hx_, rfl⟩ := getMap he_; clear he_) | (obtain rfl := Option.some.inj he_; clear he_) | skip)) | (refine Lst1.mk fun s_ hs_ => ?_; (try simp only [List.take_length, List.drop_zero, ← List.map_take, ← List.map_drop] at hs_); subst hs_)); refine go ?_))
        refine (itoa_ok W hN n (hi n hnm)).use ?_; (refine go ?_; repeat ((first | (refine New1.mk fun b_ hb_ => ?_; clear hb_) | (refine New2.mk fun b_ hb_ => ?_; clear hb_) | (refine Nat1.mk fun q_ hq_ => ?_; (first | (obtain rfl := Int.ofNat.inj hq_; clear hq_) | skip)) | (refine Elem1.mk fun e_ he_ => ?_; (first | (obtain ⟨x_, hx_, rfl⟩ := getMap he_; clear he_) | (obtain rfl := Option.some.inj he_; clear he_) | skip)) | (refine Lst1.mk fun s_ hs_ => ?_; (try simp only [List.take_length, List.drop_zero, ← List.map_take, ← List.map_drop] at hs_); subst hs_)); refine go ?_))
        refine .inl ?_
        (refine go ?_; repeat ((first | (refine New1.mk fun b_ hb_ => ?_; clear hb_) | (refine New2.mk fun b_ hb_ => ?_; clear hb_) | (refine Nat1.mk fun q_ hq_ => ?_; (first | (obtain rfl := Int.ofNat.inj hq_; clear hq_) | skip)) | (refine Elem1.mk fun e_ he_ => ?_; (first | (obtain ⟨x_, hx_, rfl⟩ := getMap he_; clear he_) | (obtain rfl := Option.some.inj he_; clear he_) | skip)) | (refine Lst1.mk fun s_ hs_ => ?_; (try simp only [List.take_length, List.drop_zero, ← List.map_take, ← List.map_drop] at hs_); subst hs_)); refine go ?_))
        refine ⟨(i + 1, b_, [.str (Lib.itoa n)]), ?_, ?_, ⟨(by first | rfl | ((conv => lhs; whnf); first | rfl | (congr 1; (try push_cast); omega) | (congr 1; simp; done) | (simp; done) | (simp [*]; done))), (by first | rfl | ((conv => lhs; whnf); first | rfl | (congr 1; (try push_cast); omega) | (congr 1; simp; done) | (simp; done) | (simp [*]; done))), (by first | rfl | ((conv => lhs; whnf); rfl)), (by first | rfl | ((conv => lhs; whnf); rfl)), trivial⟩, (by (first | exact ⟨_, .refl _⟩ | exact wkMem.rfl' | exact ⟨_, .swap _ _ _⟩ | (repeat (first | exact wkMem.nil _ | exact wkMem.rfl' | exact wk_snoc _ _ _ | exact wk_fam (by assumption) _ _ _ | (apply wkMem.cons; (case' hl => (repeat (first | exact .here _ _ _ | apply Look.there)))) | apply wkMem.skip))))⟩
        · exact ⟨by omega, by rw [take_snoc_of hn, List.map_append, List.map_append, ← hw]; rfl⟩
        · ((try dsimp only); (try simp only [List.length_drop, List.length_take, List.length_append, List.length_cons, List.length_nil, List.length_map] at *); omega)
      · have hwl := congrArg List.length hw
        simp only [List.length_cons, List.length_map, List.length_take] at hwl
        (refine go ?_; repeat ((first | (refine New1.mk fun b_ hb_ => ?_; clear hb_) | (refine New2.mk fun b_ hb_ => ?_; clear hb_) | (refine Nat1.mk fun q_ hq_ => ?_; (first | (obtain rfl := Int.ofNat.inj hq_; clear hq_) | skip)) | (refine Elem1.mk fun e_ he_ => ?_; (first | (obtain ⟨x_, hx_, rfl⟩ := getMap he_; clear he_) | (obtain rfl := Option.some.inj he_; clear he_) | skip)) | (refine Lst1.mk fun s_ hs_ => ?_; (try simp only [List.take_length, List.drop_zero, ← List.map_take, ← List.map_drop] at hs_); subst hs_)); refine go ?_))
        refine (itoa_ok W hN n (hi n hnm)).use ?_; (refine go ?_; repeat ((first | (refine New1.mk fun b_ hb_ => ?_; clear hb_) | (refine New2.mk fun b_ hb_ => ?_; clear hb_) | (refine Nat1.mk fun q_ hq_ => ?_; (first | (obtain rfl := Int.ofNat.inj hq_; clear hq_) | skip)) | (refine Elem1.mk fun e_ he_ => ?_; (first | (obtain ⟨x_, hx_, rfl⟩ := getMap he_; clear he_) | (obtain rfl := Option.some.inj he_; clear he_) | skip)) | (refine Lst1.mk fun s_ hs_ => ?_; (try simp only [List.take_length, List.drop_zero, ← List.map_take, ← List.map_drop] at hs_); subst hs_)); refine go ?_))
        refine .inl ?_
        (refine go ?_; repeat ((first | (refine New1.mk fun b_ hb_ => ?_; clear hb_) | (refine New2.mk fun b_ hb_ => ?_; clear hb_) | (refine Nat1.mk fun q_ hq_ => ?_; (first | (obtain rfl := Int.ofNat.inj hq_; clear hq_) | skip)) | (refine Elem1.mk fun e_ he_ => ?_; (first | (obtain ⟨x_, hx_, rfl⟩ := getMap he_; clear he_) | (obtain rfl := Option.some.inj he_; clear he_) | skip)) | (refine Lst1.mk fun s_ hs_ => ?_; (try simp only [List.take_length, List.drop_zero, ← List.map_take, ← List.map_drop] at hs_); subst hs_)); refine go ?_))
        refine ⟨(i + 1, b_, x :: ws ++ [.str (Lib.itoa n)]), ?_, ?_, ⟨(by first | rfl | ((conv => lhs; whnf); first | rfl | (congr 1; (try push_cast); omega) | (congr 1; simp; done) | (simp; done) | (simp [*]; done))), (by first | rfl | ((conv => lhs; whnf); first | rfl | (congr 1; (try push_cast); omega) | (congr 1; simp; done) | (simp; done) | (simp [*]; done))), (by first | rfl | ((conv => lhs; whnf); rfl)), (by first | rfl | ((conv => lhs; whnf); rfl)), trivial⟩, (by (first | exact ⟨_, .refl _⟩ | exact wkMem.rfl' | exact ⟨_, .swap _ _ _⟩ | (repeat (first | exact wkMem.nil _ | exact wkMem.rfl' | exact wk_snoc _ _ _ | exact wk_fam (by assumption) _ _ _ | (apply wkMem.cons; (case' hl => (repeat (first | exact .here _ _ _ | apply Look.there)))) | apply wkMem.skip))))⟩
        · exact ⟨by omega, by rw [take_snoc_of hn, List.map_append, List.map_append, ← hw]; rfl⟩
        · ((try dsimp only); (try simp only [List.length_drop, List.length_take, List.length_append, List.length_cons, List.length_nil, List.length_map] at *); omega)
  · simp only [List.length_map] at h0
    have : l = [] := List.eq_nil_of_length_eq_zero (by omega)
    subst this
    (refine go ?_; repeat ((first | (refine New1.mk fun b_ hb_ => ?_; clear hb_) | (refine New2.mk fun b_ hb_ => ?_; clear hb_) | (refine Nat1.mk fun q_ hq_ => ?_; (first | (obtain rfl := Int.ofNat.inj hq_; clear hq_) | skip)) | (refine Elem1.mk fun e_ he_ => ?_; (first | (obtain ⟨x_, hx_, rfl⟩ := getMap he_; clear he_) | (obtain rfl := Option.some.inj he_; clear he_) | skip)) | (refine Lst1.mk fun s_ hs_ => ?_; (try simp only [List.take_length, List.drop_zero, ← List.map_take, ← List.map_drop] at hs_); subst hs_)); refine go ?_))
    exact .refl _
end Go.Eng.YtlfdmdhkbillpaaDoor
