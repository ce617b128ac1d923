/- Package text's texts: Wide, Cut, Fit. -/
import Derived.Test.YtlfdmdhkbillpaaDoorText
namespace Go.Eng.YtlfdmdhkbillpaaDoor
open Go Go.Eng Go.Proofs
variable (W : World)
set_option linter.unusedSimpArgs false
set_option maxRecDepth 100000
set_option linter.unusedVariables false

/-- The runes of bytes, each with how many it takes. -/
def runes (s : List UInt8) : List (Nat × Nat) := if h : s = [] then [] else dec s :: runes (s.drop (dec s).2)
termination_by s.length
decreasing_by
  have h1 := dec_pos s h
  have h2 : 0 < s.length := List.length_pos_iff.2 h
  simp; omega
theorem runes_nil : runes [] = [] := by rw [runes]; simp
theorem runes_cons {s : List UInt8} (h : s ≠ []) : runes s = dec s :: runes (s.drop (dec s).2) := by
  conv => lhs; rw [runes, dif_neg h]
theorem nextL_of {s : List UInt8} (h : s ≠ []) : nextL s = dec s := by simp [nextL, h]
/-- Something on bytes, rune by rune. -/
theorem runes_ind {Q : List UInt8 → Prop} (h0 : Q []) (h1 : ∀ s, s ≠ [] → Q (s.drop (dec s).2) → Q s) : ∀ s, Q s := by
  intro s
  induction hn : s.length using Nat.strongRecOn generalizing s with
  | _ n ih =>
    by_cases hs : s = []
    · exact hs ▸ h0
    · have h2 := dec_pos s hs
      have h3 : 0 < s.length := List.length_pos_iff.2 hs
      exact h1 s hs (ih _ (by simp; omega) _ rfl)

/-- How many cells runes take. -/
def wideRs : List (Nat × Nat) → Nat
  | [] => 0
  | p :: l => widthL p.1 + wideRs l
def wideL (s : List UInt8) : Nat := wideRs (runes s)
theorem wideL_nil : wideL [] = 0 := by rw [wideL, runes_nil]; rfl
theorem wideL_cons {s : List UInt8} (h : s ≠ []) : wideL s = widthL (dec s).1 + wideL (s.drop (dec s).2) := by rw [wideL, runes_cons h]; rfl
theorem wideL_le : ∀ s, wideL s ≤ 2 * s.length := by
  refine runes_ind (by rw [wideL_nil]; omega) fun s h ih => ?_
  have h1 := dec_pos s h
  have h2 := widthL_le (dec s).1
  have h3 : 0 < s.length := List.length_pos_iff.2 h
  rw [wideL_cons h]
  simp at ih
  omega

theorem wide_ok (hT : Tabs W) (s : List UInt8) (hs : s.length ≤ 4611686018427387903) : Pure Tryd.prog W 16 [.str s] (.int .i64 (wideL s)) := by
  refine Pure.of (acalls_of_vc (drawOk W) Tryd.func16 rfl (by decide) (by decide) rfl ?_)
  (refine go ?_; repeat ((first | (refine New1.mk fun b_ hb_ => ?_; clear hb_) | (refine New2.mk fun b_ hb_ => ?_; clear hb_) | (refine Nat1.mk fun q_ hq_ => ?_; (first | (obtain rfl := Int.ofNat.inj hq_; clear hq_) | skip)) | (refine Elem1.mk fun e_ he_ => ?_; (first | (obtain ⟨x_, hx_, rfl⟩ := getMap he_; clear he_) | (obtain rfl := Option.some.inj he_; clear he_) | skip)) | (refine Lst1.mk fun s_ hs_ => ?_; (try simp only [List.take_length, List.drop_zero, ← List.map_take, ← List.map_drop] at hs_); subst hs_)); refine go ?_))
  refine' Loops.inv (loop_use (α := (List UInt8) × Nat) (fun (r, n) => [(0, .str r), (3, .int .i64 n)]) [] (fun (r, n) => []) (fun (r, n) => n + wideL r = wideL s ∧ r.length ≤ s.length) (fun (r, n) => r.length) (s, 0) ?hu_ ?hl_ ?hm_ ?hr_ ?hb_); (case' hu_ => exact trivial); (case' hl_ => exact ⟨(by first | rfl | ((conv => lhs; whnf); rfl) | (simp; done)), (by first | rfl | ((conv => lhs; whnf); rfl) | (simp; done)), trivial⟩); (case' hm_ => (first | exact ⟨_, .refl _⟩ | exact wkMem.rfl' | exact ⟨_, .swap _ _ _⟩ | (repeat (first | exact wkMem.nil _ | exact wkMem.rfl' | exact wk_snoc _ _ _ | exact wk_fam (by assumption) _ _ _ | (apply wkMem.cons; (case' hl => (repeat (first | exact .here _ _ _ | apply Look.there)))) | apply wkMem.skip))))
  · exact ⟨Nat.zero_add _, Nat.le_refl _⟩
  rintro ⟨r, n⟩ ⟨hn, hl⟩
  have hle := wideL_le s
  (refine go ?_; repeat ((first | (refine New1.mk fun b_ hb_ => ?_; clear hb_) | (refine New2.mk fun b_ hb_ => ?_; clear hb_) | (refine Nat1.mk fun q_ hq_ => ?_; (first | (obtain rfl := Int.ofNat.inj hq_; clear hq_) | skip)) | (refine Elem1.mk fun e_ he_ => ?_; (first | (obtain ⟨x_, hx_, rfl⟩ := getMap he_; clear he_) | (obtain rfl := Option.some.inj he_; clear he_) | skip)) | (refine Lst1.mk fun s_ hs_ => ?_; (try simp only [List.take_length, List.drop_zero, ← List.map_take, ← List.map_drop] at hs_); subst hs_)); refine go ?_))
  refine brec ?_; intro c_ h; (try rw [h]); cases c_ <;> (first | replace h := of_decide_eq_true h | replace h := Decidable.not_not.1 (of_decide_eq_false h) | replace h := of_decide_eq_false h | (replace h := Bool.eq_false_iff.1 h; simp only [true_and, and_true, Bool.true_and, Bool.and_true, Bool.not_true, Bool.not_false, Bool.and_eq_true, Bool.not_eq_true, Bool.not_eq_false, Bool.or_eq_true, Bool.not_eq_true', Bool.not_eq_false', decide_eq_true_eq, decide_eq_false_iff_not, Decidable.not_not, ne_eq, beq_iff_eq] at h) | simp only [true_and, and_true, Bool.true_and, Bool.and_true, Bool.not_true, Bool.not_false, Bool.and_eq_true, Bool.not_eq_true, Bool.not_eq_false, Bool.or_eq_true, Bool.not_eq_true', Bool.not_eq_false', decide_eq_true_eq, decide_eq_false_iff_not, Decidable.not_not, ne_eq, beq_iff_eq] at h | skip)
  · subst h
    (refine go ?_; repeat ((first | (refine New1.mk fun b_ hb_ => ?_; clear hb_) | (refine New2.mk fun b_ hb_ => ?_; clear hb_) | (refine Nat1.mk fun q_ hq_ => ?_; (first | (obtain rfl := Int.ofNat.inj hq_; clear hq_) | skip)) | (refine Elem1.mk fun e_ he_ => ?_; (first | (obtain ⟨x_, hx_, rfl⟩ := getMap he_; clear he_) | (obtain rfl := Option.some.inj he_; clear he_) | skip)) | (refine Lst1.mk fun s_ hs_ => ?_; (try simp only [List.take_length, List.drop_zero, ← List.map_take, ← List.map_drop] at hs_); subst hs_)); refine go ?_))
    rw [wideL_nil] at hn
    rw [← hn]
    exact .refl _
  · have hd := dec_le r
    have hp := dec_pos r h
    have h3 : 0 < r.length := List.length_pos_iff.2 h
    have hw := wideL_cons h
    have hn2 := nextL_of h
    (refine go ?_; repeat ((first | (refine New1.mk fun b_ hb_ => ?_; clear hb_) | (refine New2.mk fun b_ hb_ => ?_; clear hb_) | (refine Nat1.mk fun q_ hq_ => ?_; (first | (obtain rfl := Int.ofNat.inj hq_; clear hq_) | skip)) | (refine Elem1.mk fun e_ he_ => ?_; (first | (obtain ⟨x_, hx_, rfl⟩ := getMap he_; clear he_) | (obtain rfl := Option.some.inj he_; clear he_) | skip)) | (refine Lst1.mk fun s_ hs_ => ?_; (try simp only [List.take_length, List.drop_zero, ← List.map_take, ← List.map_drop] at hs_); subst hs_)); refine go ?_))
    refine (next_ok W hT r).use ?_; (refine go ?_; repeat ((first | (refine New1.mk fun b_ hb_ => ?_; clear hb_) | (refine New2.mk fun b_ hb_ => ?_; clear hb_) | (refine Nat1.mk fun q_ hq_ => ?_; (first | (obtain rfl := Int.ofNat.inj hq_; clear hq_) | skip)) | (refine Elem1.mk fun e_ he_ => ?_; (first | (obtain ⟨x_, hx_, rfl⟩ := getMap he_; clear he_) | (obtain rfl := Option.some.inj he_; clear he_) | skip)) | (refine Lst1.mk fun s_ hs_ => ?_; (try simp only [List.take_length, List.drop_zero, ← List.map_take, ← List.map_drop] at hs_); subst hs_)); refine go ?_))
    refine (width_ok W _).use ?_; (refine go ?_; repeat ((first | (refine New1.mk fun b_ hb_ => ?_; clear hb_) | (refine New2.mk fun b_ hb_ => ?_; clear hb_) | (refine Nat1.mk fun q_ hq_ => ?_; (first | (obtain rfl := Int.ofNat.inj hq_; clear hq_) | skip)) | (refine Elem1.mk fun e_ he_ => ?_; (first | (obtain ⟨x_, hx_, rfl⟩ := getMap he_; clear he_) | (obtain rfl := Option.some.inj he_; clear he_) | skip)) | (refine Lst1.mk fun s_ hs_ => ?_; (try simp only [List.take_length, List.drop_zero, ← List.map_take, ← List.map_drop] at hs_); subst hs_)); refine go ?_))
    rw [hn2]
    (refine go ?_; repeat ((first | (refine New1.mk fun b_ hb_ => ?_; clear hb_) | (refine New2.mk fun b_ hb_ => ?_; clear hb_) | (refine Nat1.mk fun q_ hq_ => ?_; (first | (obtain rfl := Int.ofNat.inj hq_; clear hq_) | skip)) | (refine Elem1.mk fun e_ he_ => ?_; (first | (obtain ⟨x_, hx_, rfl⟩ := getMap he_; clear he_) | (obtain rfl := Option.some.inj he_; clear he_) | skip)) | (refine Lst1.mk fun s_ hs_ => ?_; (try simp only [List.take_length, List.drop_zero, ← List.map_take, ← List.map_drop] at hs_); subst hs_)); refine go ?_))
    refine ⟨(r.drop (dec r).2, n + widthL (dec r).1), ?_, ?_, ⟨(by first | rfl | ((conv => lhs; whnf); first | rfl | (congr 1; (try push_cast); omega) | (congr 1; simp; done) | (simp; done) | (simp [*]; done))), (by first | rfl | ((conv => lhs; whnf); first | rfl | (congr 1; (try push_cast); omega) | (congr 1; simp; done) | (simp; done) | (simp [*]; done))), trivial⟩, (by (first | exact ⟨_, .refl _⟩ | exact wkMem.rfl' | exact ⟨_, .swap _ _ _⟩ | (repeat (first | exact wkMem.nil _ | exact wkMem.rfl' | exact wk_snoc _ _ _ | exact wk_fam (by assumption) _ _ _ | (apply wkMem.cons; (case' hl => (repeat (first | exact .here _ _ _ | apply Look.there)))) | apply wkMem.skip))))⟩
    · exact ⟨by ((try dsimp only); (try simp only [List.length_drop, List.length_take, List.length_append, List.length_cons, List.length_nil, List.length_map] at *); omega), by ((try dsimp only); (try simp only [List.length_drop, List.length_take, List.length_append, List.length_cons, List.length_nil, List.length_map] at *); omega)⟩
    · ((try dsimp only); (try simp only [List.length_drop, List.length_take, List.length_append, List.length_cons, List.length_nil, List.length_map] at *); omega)
end Go.Eng.YtlfdmdhkbillpaaDoor
