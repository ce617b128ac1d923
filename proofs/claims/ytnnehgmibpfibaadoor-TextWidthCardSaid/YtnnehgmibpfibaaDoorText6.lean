/- The document's reading of texts, rune by rune. -/
import Derived.Test.YtnnehgmibpfibaaDoorWidthLaw
namespace Go.Eng.YtnnehgmibpfibaaDoor
open Go Go.Eng Go.Proofs
variable (W : World)
set_option maxRecDepth 100000
set_option linter.unusedVariables false
theorem decode_drop (s : List UInt8) (pos : Nat) (h : pos < s.length) : Utf8.decode ⟨s.toArray⟩ pos = dec (s.drop pos) := by
  have hne : s.drop pos ≠ [] := by simp; omega
  have hn : ¬ (⟨(s.drop pos).toArray⟩ : ByteArray).size = 0 := by simp [ByteArray.size]; omega
  have := Lib.decodeL_drop ⟨s.toArray⟩ pos
  rw [← this]
  simp only [dec, Lib.decodeGo, if_neg hn]
  rfl
def wideOfRs : List (Nat × Nat) → Int
  | [] => 0
  | p :: l => widthOfL p.1 + wideOfRs l
theorem wideOfRs_eq : ∀ l, wideOfRs l = wideRs l
  | [] => rfl
  | p :: l => by rw [wideOfRs, wideRs, wideOfRs_eq l, ← width_eq]; simp
theorem wideOf_ok (s : List UInt8) (hs : s.length ≤ 4611686018427387903) : Pure Tryd.prog W 33 [.str s] (.int .i64 (wideL s)) := by
  refine Pure.of (acalls_of_vc (drawOk W) Tryd.func33 rfl (by decide) (by decide) rfl ?_)
  ((conv => whnf); repeat ((first | refine ⟨_, _, _, _, (by repeat (first | exact .here _ _ _ | apply Look.there)), ?_⟩ | refine Fits.ok (by omega) (by omega) ?_ | refine And.intro (by first | omega | rfl | (simp; done) | (simp <;> omega)) ?_ | (intro q_ hq_; obtain rfl := Int.ofNat.inj hq_; clear hq_) | refine at_known (by assumption) ?_ | (intro e_ he_; obtain ⟨x_, hx_, rfl⟩ := getMap he_; clear he_) | (intro e_ he_; obtain rfl := Option.some.inj he_; clear he_) | (intro s_ hs_; (try simp only [List.take_length, List.drop_zero, ← List.map_take, ← List.map_drop] at hs_); subst hs_) | intro b_ hb_); (conv => whnf)))
  refine' Loops.inv (loop_use (α := Nat × Nat) (fun (pos, n) => [(3, .int .i64 n)]) [(7, _)] (fun (pos, n) => [⟨b_, .iter s pos⟩]) (fun (pos, n) => pos ≤ s.length ∧ n + wideL (s.drop pos) = wideL s) (fun (pos, n) => s.length - pos) (0, 0) ?hu_ ?hl_ ?hm_ ?hr_ ?hb_); (case' hu_ => exact ⟨(by first | ((conv => lhs; whnf); done) | ((conv => lhs; whnf); exact rfl)), trivial⟩); (case' hl_ => exact ⟨(by first | rfl | ((conv => lhs; whnf); rfl) | (simp; done)), trivial⟩); (case' hm_ => exact ⟨_, by first | exact .refl _ | (simp; done)⟩)
  · exact ⟨Nat.zero_le _, by simp⟩
  rintro ⟨pos, n⟩ ⟨hp, hn⟩
  have hle := wideL_le s
  ((conv => whnf); repeat ((first | refine ⟨_, _, _, _, (by repeat (first | exact .here _ _ _ | apply Look.there)), ?_⟩ | refine Fits.ok (by omega) (by omega) ?_ | refine And.intro (by first | omega | rfl | (simp; done) | (simp <;> omega)) ?_ | (intro q_ hq_; obtain rfl := Int.ofNat.inj hq_; clear hq_) | refine at_known (by assumption) ?_ | (intro e_ he_; obtain ⟨x_, hx_, rfl⟩ := getMap he_; clear he_) | (intro e_ he_; obtain rfl := Option.some.inj he_; clear he_) | (intro s_ hs_; (try simp only [List.take_length, List.drop_zero, ← List.map_take, ← List.map_drop] at hs_); subst hs_) | intro b_ hb_); (conv => whnf)))
  refine ⟨_, _, _, (by repeat (first | exact .here _ _ _ | apply Look.there)), fun h => ?_, fun h => ?_⟩
  · have hne : s.drop pos ≠ [] := by simp; omega
    have hd := dec_le (s.drop pos)
    have hp := dec_pos (s.drop pos) hne
    have hw := width_eq (dec (s.drop pos)).1
    rw [List.length_drop] at hd
    rw [wideL_cons hne, List.drop_drop] at hn
    ((conv => whnf); repeat ((first | refine ⟨_, _, _, _, (by repeat (first | exact .here _ _ _ | apply Look.there)), ?_⟩ | refine Fits.ok (by omega) (by omega) ?_ | refine And.intro (by first | omega | rfl | (simp; done) | (simp <;> omega)) ?_ | (intro q_ hq_; obtain rfl := Int.ofNat.inj hq_; clear hq_) | refine at_known (by assumption) ?_ | (intro e_ he_; obtain ⟨x_, hx_, rfl⟩ := getMap he_; clear he_) | (intro e_ he_; obtain rfl := Option.some.inj he_; clear he_) | (intro s_ hs_; (try simp only [List.take_length, List.drop_zero, ← List.map_take, ← List.map_drop] at hs_); subst hs_) | intro b_ hb_); (conv => whnf)))
    rw [decode_drop s pos h]
    refine (widthOf_ok W _).use ?_
    rw [← hw]
    ((conv => whnf); repeat ((first | refine ⟨_, _, _, _, (by repeat (first | exact .here _ _ _ | apply Look.there)), ?_⟩ | refine Fits.ok (by omega) (by omega) ?_ | refine And.intro (by first | omega | rfl | (simp; done) | (simp <;> omega)) ?_ | (intro q_ hq_; obtain rfl := Int.ofNat.inj hq_; clear hq_) | refine at_known (by assumption) ?_ | (intro e_ he_; obtain ⟨x_, hx_, rfl⟩ := getMap he_; clear he_) | (intro e_ he_; obtain rfl := Option.some.inj he_; clear he_) | (intro s_ hs_; (try simp only [List.take_length, List.drop_zero, ← List.map_take, ← List.map_drop] at hs_); subst hs_) | intro b_ hb_); (conv => whnf)))
    refine ⟨(pos + (dec (s.drop pos)).2, n + widthL (dec (s.drop pos)).1), ?_, ?_, ⟨(by first | rfl | ((conv => lhs; whnf); first | rfl | (congr 1; (try push_cast); omega) | (congr 1; simp; done) | (simp; done))), (by first | rfl | ((conv => lhs; whnf); rfl)), trivial⟩, ⟨_, by first | exact .refl _ | (simp; done)⟩⟩
    · exact ⟨by ((try dsimp only); (try simp only [List.length_drop, List.length_take, List.length_append, List.length_cons, List.length_nil, List.length_map] at *); omega), by ((try dsimp only); (try simp only [List.length_drop, List.length_take, List.length_append, List.length_cons, List.length_nil, List.length_map] at *); omega)⟩
    · ((try dsimp only); (try simp only [List.length_drop, List.length_take, List.length_append, List.length_cons, List.length_nil, List.length_map] at *); omega)
  · ((conv => whnf); repeat ((first | refine ⟨_, _, _, _, (by repeat (first | exact .here _ _ _ | apply Look.there)), ?_⟩ | refine Fits.ok (by omega) (by omega) ?_ | refine And.intro (by first | omega | rfl | (simp; done) | (simp <;> omega)) ?_ | (intro q_ hq_; obtain rfl := Int.ofNat.inj hq_; clear hq_) | refine at_known (by assumption) ?_ | (intro e_ he_; obtain ⟨x_, hx_, rfl⟩ := getMap he_; clear he_) | (intro e_ he_; obtain rfl := Option.some.inj he_; clear he_) | (intro s_ hs_; (try simp only [List.take_length, List.drop_zero, ← List.map_take, ← List.map_drop] at hs_); subst hs_) | intro b_ hb_); (conv => whnf)))
    have : s.drop pos = [] := by simp; omega
    rw [this, wideL_nil] at hn
    rw [← hn]
    exact .refl _
theorem textWidth_ok (hT : Tabs W) (r : Int) (_hr : -2147483648 ≤ r ∧ r ≤ 2147483647) (s : List UInt8) (hs : s.length ≤ 140737488355328) : Pure Tryd.prog W 4 [.int .i32 r, .str s] (.bool true) := by
  refine Pure.of (acalls_of_vc (drawOk W) Tryd.func4 rfl (by decide) (by decide) rfl ?_)
  ((conv => whnf); repeat ((first | refine ⟨_, _, _, _, (by repeat (first | exact .here _ _ _ | apply Look.there)), ?_⟩ | refine Fits.ok (by omega) (by omega) ?_ | refine And.intro (by first | omega | rfl | (simp; done) | (simp <;> omega)) ?_ | (intro q_ hq_; obtain rfl := Int.ofNat.inj hq_; clear hq_) | refine at_known (by assumption) ?_ | (intro e_ he_; obtain ⟨x_, hx_, rfl⟩ := getMap he_; clear he_) | (intro e_ he_; obtain rfl := Option.some.inj he_; clear he_) | (intro s_ hs_; (try simp only [List.take_length, List.drop_zero, ← List.map_take, ← List.map_drop] at hs_); subst hs_) | intro b_ hb_); (conv => whnf)))
  refine (written_ok W hT).use ?_; ((conv => whnf); repeat ((first | refine ⟨_, _, _, _, (by repeat (first | exact .here _ _ _ | apply Look.there)), ?_⟩ | refine Fits.ok (by omega) (by omega) ?_ | refine And.intro (by first | omega | rfl | (simp; done) | (simp <;> omega)) ?_ | (intro q_ hq_; obtain rfl := Int.ofNat.inj hq_; clear hq_) | refine at_known (by assumption) ?_ | (intro e_ he_; obtain ⟨x_, hx_, rfl⟩ := getMap he_; clear he_) | (intro e_ he_; obtain rfl := Option.some.inj he_; clear he_) | (intro s_ hs_; (try simp only [List.take_length, List.drop_zero, ← List.map_take, ← List.map_drop] at hs_); subst hs_) | intro b_ hb_); (conv => whnf)))
  refine (width_ok W r).use ?_; ((conv => whnf); repeat ((first | refine ⟨_, _, _, _, (by repeat (first | exact .here _ _ _ | apply Look.there)), ?_⟩ | refine Fits.ok (by omega) (by omega) ?_ | refine And.intro (by first | omega | rfl | (simp; done) | (simp <;> omega)) ?_ | (intro q_ hq_; obtain rfl := Int.ofNat.inj hq_; clear hq_) | refine at_known (by assumption) ?_ | (intro e_ he_; obtain ⟨x_, hx_, rfl⟩ := getMap he_; clear he_) | (intro e_ he_; obtain rfl := Option.some.inj he_; clear he_) | (intro s_ hs_; (try simp only [List.take_length, List.drop_zero, ← List.map_take, ← List.map_drop] at hs_); subst hs_) | intro b_ hb_); (conv => whnf)))
  refine (widthOf_ok W r).use ?_
  rw [← width_eq]
  ((conv => whnf); repeat ((first | refine ⟨_, _, _, _, (by repeat (first | exact .here _ _ _ | apply Look.there)), ?_⟩ | refine Fits.ok (by omega) (by omega) ?_ | refine And.intro (by first | omega | rfl | (simp; done) | (simp <;> omega)) ?_ | (intro q_ hq_; obtain rfl := Int.ofNat.inj hq_; clear hq_) | refine at_known (by assumption) ?_ | (intro e_ he_; obtain ⟨x_, hx_, rfl⟩ := getMap he_; clear he_) | (intro e_ he_; obtain rfl := Option.some.inj he_; clear he_) | (intro s_ hs_; (try simp only [List.take_length, List.drop_zero, ← List.map_take, ← List.map_drop] at hs_); subst hs_) | intro b_ hb_); (conv => whnf)))
  refine brec ?_; intro c_ h_; (try rw [h_]); cases c_; exact absurd h_ (by simp)
  ((conv => whnf); repeat ((first | refine ⟨_, _, _, _, (by repeat (first | exact .here _ _ _ | apply Look.there)), ?_⟩ | refine Fits.ok (by omega) (by omega) ?_ | refine And.intro (by first | omega | rfl | (simp; done) | (simp <;> omega)) ?_ | (intro q_ hq_; obtain rfl := Int.ofNat.inj hq_; clear hq_) | refine at_known (by assumption) ?_ | (intro e_ he_; obtain ⟨x_, hx_, rfl⟩ := getMap he_; clear he_) | (intro e_ he_; obtain rfl := Option.some.inj he_; clear he_) | (intro s_ hs_; (try simp only [List.take_length, List.drop_zero, ← List.map_take, ← List.map_drop] at hs_); subst hs_) | intro b_ hb_); (conv => whnf)))
  refine (wide_ok W hT s (by omega)).use ?_; ((conv => whnf); repeat ((first | refine ⟨_, _, _, _, (by repeat (first | exact .here _ _ _ | apply Look.there)), ?_⟩ | refine Fits.ok (by omega) (by omega) ?_ | refine And.intro (by first | omega | rfl | (simp; done) | (simp <;> omega)) ?_ | (intro q_ hq_; obtain rfl := Int.ofNat.inj hq_; clear hq_) | refine at_known (by assumption) ?_ | (intro e_ he_; obtain ⟨x_, hx_, rfl⟩ := getMap he_; clear he_) | (intro e_ he_; obtain rfl := Option.some.inj he_; clear he_) | (intro s_ hs_; (try simp only [List.take_length, List.drop_zero, ← List.map_take, ← List.map_drop] at hs_); subst hs_) | intro b_ hb_); (conv => whnf)))
  refine (wideOf_ok W s (by omega)).use ?_; ((conv => whnf); repeat ((first | refine ⟨_, _, _, _, (by repeat (first | exact .here _ _ _ | apply Look.there)), ?_⟩ | refine Fits.ok (by omega) (by omega) ?_ | refine And.intro (by first | omega | rfl | (simp; done) | (simp <;> omega)) ?_ | (intro q_ hq_; obtain rfl := Int.ofNat.inj hq_; clear hq_) | refine at_known (by assumption) ?_ | (intro e_ he_; obtain ⟨x_, hx_, rfl⟩ := getMap he_; clear he_) | (intro e_ he_; obtain rfl := Option.some.inj he_; clear he_) | (intro s_ hs_; (try simp only [List.take_length, List.drop_zero, ← List.map_take, ← List.map_drop] at hs_); subst hs_) | intro b_ hb_); (conv => whnf)))
  (refine Frz.of_eq ?_; (conv => lhs; whnf))
  simp
end Go.Eng.YtnnehgmibpfibaaDoor
