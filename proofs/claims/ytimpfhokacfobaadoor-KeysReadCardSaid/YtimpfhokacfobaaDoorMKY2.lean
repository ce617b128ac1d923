/- Texts put together: Key3, Key4. -/
import Derived.Test.YtimpfhokacfobaaDoorMKY1
import Derived.Test.YtimpfhokacfobaaDoorME9
import Derived.Test.YtimpfhokacfobaaDoorME3
/- Keys: sequences, the first key, all keys (b_ x_ q_ e_). -/
section
namespace Go.Eng.YtimpfhokacfobaaDoor
open Go Go.Eng Go.Proofs
variable (W : World)
set_option linter.unusedSimpArgs false
set_option maxRecDepth 100000
set_option linter.unusedVariables false
set_option maxHeartbeats 8000000
theorem dg_iff (c : UInt8) : isDg c = true ↔ ((48 ≤ c.toNat ∧ c.toNat ≤ 57) ∨ c.toNat = 59) := by
  unfold isDg
  simp only [Bool.or_eq_true, Bool.and_eq_true, decide_eq_true_eq]
theorem tw_len {α : Type} {p : α → Bool} : ∀ {l : List α} {n : Nat}, n ≤ l.length → (∀ k x, k < n → l[k]? = some x → p x = true) → (∀ x, l[n]? = some x → p x = false) → (l.takeWhile p).length = n
  | [], n, hn, _, _ => by simp at hn; simp [hn]
  | a :: l, 0, _, _, h => by
    rw [List.takeWhile_cons, if_neg (by rw [h a rfl]; decide)]; rfl
  | a :: l, n + 1, hn, h1, h2 => by
    rw [List.takeWhile_cons, if_pos (h1 0 a (by omega) rfl), List.length_cons, tw_len (l := l) (n := n) (by simpa using hn) (fun k x hk hx => h1 (k + 1) x (by omega) hx) (fun x hx => h2 x hx)]
theorem run_is {b : List UInt8} {i : Nat} (h2 : 2 ≤ i) (hi : i ≤ b.length) (h12 : i ≤ 12) (h91 : 2 < i → b.getD 1 0 = 91) (hd : ∀ k x, 2 ≤ k → k < i → b[k]? = some x → isDg x = true)
    (he : i = b.length ∨ i = 12 ∨ b.getD 1 0 ≠ 91 ∨ ∃ x, b[i]? = some x ∧ isDg x = false) : runK b = i := by
  unfold runK
  by_cases h9 : b.getD 1 0 = 91
  · rw [if_pos h9, tw_len (n := i - 2)]
    · omega
    · rw [List.length_take, List.length_drop]; omega
    · intro k x hk hx
      rw [List.getElem?_take, if_pos (by omega), List.getElem?_drop] at hx
      exact hd (2 + k) x (by omega) (by omega) hx
    · intro x hx
      rw [List.getElem?_take] at hx
      split at hx
      · rw [List.getElem?_drop, show 2 + (i - 2) = i by omega] at hx
        rcases he with he | he | he | ⟨y, hy, he⟩
        · rw [List.getElem?_eq_none (by omega)] at hx; cases hx
        · omega
        · exact absurd h9 he
        · rw [hy, Option.some.injEq] at hx
          subst hx
          exact he
      · cases hx
  · rw [if_neg h9]
    by_cases hi2 : i = 2
    · omega
    · exact absurd (h91 (by omega)) h9
theorem seq_ok (hM : MaxJ W) (hE : ErrJ W) (c0 c1 : UInt8) (r : List UInt8) (hr : r.length ≤ 4000) (last : Bool) (h1 : c1.toNat = 91 ∨ c1.toNat = 79) :
    Pure Tryd.prog W 52 [.str (c0 :: c1 :: r), .bool last] (.tup [encKey (seqK (c0 :: c1 :: r) last).1, .int .i64 (seqK (c0 :: c1 :: r) last).2]) := by
  have hg1 : (c0 :: c1 :: r).getD 1 0 = c1 := rfl
  have hat1 : (c0 :: c1 :: r)[1]? = some c1 := rfl
  have hlen : (c0 :: c1 :: r).length = r.length + 2 := rfl
  generalize c0 :: c1 :: r = b at *
  have hrl := run_le b (by omega)
  have hru := @run_is b
  rw [hg1] at hru
  have h91 : c1 = 91 ↔ c1.toNat = 91 := ⟨fun h => by subst h; rfl, fun h => UInt8.toNat_inj.1 h⟩
  have htd := fun s hs => told_ok W hM hE s hs
  unfold seqK
  rw [hg1]
  refine Pure.of (acalls_of_vc (DL_ok (by decide)) Tryd.func52 rfl (by decide) (by decide) rfl ?_)
  (refine g0_ ?_; repeat ((first | refine n1_ fun b_ => ?_ | refine n2_ fun b_ => ?_ | refine Nat1.mk fun q_ hq_ => ?_ | refine em_ fun x_ hx_ => ?_ | refine Elem1.mk fun e_ he_ => ?_); refine g0_ ?_))
  obtain ⟨bz, rfl⟩ : ∃ z, z = b_ := ⟨_, rfl⟩
  refine' loopI (α := Nat) (fun i => [(6, .int .i64 i)]) [(0, _), (1, _), (4, _)] (fun i => [⟨bz, .row 4 [.agg [.int .i64 0, .int .i32 0, .int .i64 0, .int .i64 0]] 0⟩]) (fun i => (2 ≤ i ∧ i ≤ b.length ∧ i ≤ 12) ∧ (2 < i → c1 = 91) ∧ ∀ k x, 2 ≤ k → k < i → b[k]? = some x → isDg x = true) (fun i => b.length - i) 2 ?_ ?_
  · exact ⟨by omega, fun h => by omega, fun k x h1 h2 => by omega⟩
  rintro i ⟨hi, h9, hd⟩
  by_cases hil : i = b.length
  · have hR := hru hi.1 hi.2.1 hi.2.2 h9 hd (.inl hil)
    clear hru h9 hd
    rw [hR]
    cases last with
    | false =>
      rw [if_pos ⟨hil, rfl⟩]
      (refine g0_ ?_; repeat ((first | refine n1_ fun b_ => ?_ | refine n2_ fun b_ => ?_ | refine Nat1.mk fun q_ hq_ => ?_ | refine em_ fun x_ hx_ => ?_ | refine Elem1.mk fun e_ he_ => ?_); refine g0_ ?_))
      (refine g1_ ?_; repeat ((first | refine n1_ fun b_ => ?_ | refine n2_ fun b_ => ?_ | refine Nat1.mk fun q_ hq_ => ?_ | refine em_ fun x_ hx_ => ?_ | refine Elem1.mk fun e_ he_ => ?_); refine g1_ ?_))
      exact .refl _
    | true =>
      rw [if_neg (fun h => by cases h.2), if_neg fun h => by omega]
      (refine g0_ ?_; repeat ((first | refine n1_ fun b_ => ?_ | refine n2_ fun b_ => ?_ | refine Nat1.mk fun q_ hq_ => ?_ | refine em_ fun x_ hx_ => ?_ | refine Elem1.mk fun e_ he_ => ?_); refine g0_ ?_))
      (refine g1_ ?_; repeat ((first | refine n1_ fun b_ => ?_ | refine n2_ fun b_ => ?_ | refine Nat1.mk fun q_ hq_ => ?_ | refine em_ fun x_ hx_ => ?_ | refine Elem1.mk fun e_ he_ => ?_); refine g1_ ?_))
      exact .refl _
  · have hxl : i < b.length := by omega
    have hx := List.getElem?_eq_getElem hxl
    generalize b[i] = x at *
    by_cases hg : isDg x = true ∧ i < 12 ∧ c1 = 91
    · have hg1 := (dg_iff x).1 hg.1
      have hg3 := h91.1 hg.2.2
      have hg2 := hg.2.1
      have hnx : ∀ k y, 2 ≤ k → k < i + 1 → b[k]? = some y → isDg y = true := fun k y a1 a2 a3 => by
        rcases Nat.lt_or_ge k i with h3 | h3
        · exact hd k y a1 h3 a3
        · obtain rfl : k = i := by omega
          rw [hx, Option.some.injEq] at a3
          subst a3
          exact hg.1
      have hg4 := hg.2.2
      clear hru h9 hd hg
      rcases hg1 with hg1 | hg1
      all_goals
        (refine g0_ ?_; repeat ((first | refine n1_ fun b_ => ?_ | refine n2_ fun b_ => ?_ | refine Nat1.mk fun q_ hq_ => ?_ | refine em_ fun x_ hx_ => ?_ | refine Elem1.mk fun e_ he_ => ?_); refine g0_ ?_))
        (refine g1_ ?_; repeat ((first | refine n1_ fun b_ => ?_ | refine n2_ fun b_ => ?_ | refine Nat1.mk fun q_ hq_ => ?_ | refine em_ fun x_ hx_ => ?_ | refine Elem1.mk fun e_ he_ => ?_); refine g1_ ?_))
        repeat ((first | (rw [hx] at he_; obtain rfl := Option.some.inj he_; clear he_) | (rw [hat1] at he_; obtain rfl := Option.some.inj he_; clear he_)); (refine g1_ ?_; repeat ((first | refine n1_ fun b_ => ?_ | refine n2_ fun b_ => ?_ | refine Nat1.mk fun q_ hq_ => ?_ | refine em_ fun x_ hx_ => ?_ | refine Elem1.mk fun e_ he_ => ?_); refine g1_ ?_)))
        refine nx_ (i + 1) ?_ ?_
        · exact ⟨by omega, fun _ => hg4, hnx⟩
        · ((try dsimp only); (try simp only [List.length_drop, List.length_take, List.length_append, List.length_cons, List.length_nil, List.length_map] at *); omega)
    · have hR := hru hi.1 hi.2.1 hi.2.2 h9 hd (by
        by_cases a1 : isDg x = true
        · by_cases a2 : i < 12
          · exact .inr (.inr (.inl fun a3 => hg ⟨a1, a2, a3⟩))
          · exact .inr (.inl (by omega))
        · exact .inr (.inr (.inr ⟨x, hx, by simpa using a1⟩)))
      have hg0 : ¬ ((48 ≤ x.toNat ∧ x.toNat ≤ 57 ∨ x.toNat = 59) ∧ i < 12 ∧ c1.toNat = 91) := fun h => hg ⟨(dg_iff x).2 h.1, h.2.1, h91.2 h.2.2⟩
      rw [hR, if_neg fun h => hil h.1, show b.getD i 0 = x by rw [List.getD_eq_getElem?_getD, hx]; rfl]
      have htl : ((b.take i).drop 2).length ≤ 4096 := by rw [List.length_drop, List.length_take]; omega
      have ht := htd _ htl x
      generalize toldK ((b.take i).drop 2) x = T at *
      obtain ⟨⟨kd, kr, kn, kh⟩, ok⟩ := T
      have hlt := letter_ok W kd
      clear hru h9 hd hg htd htl
      dsimp only at ht ⊢
      cases ok with
      | false =>
        rw [if_neg (fun h => by cases h.2.1)]
        rcases (by omega : x.toNat < 48 ∨ (57 < x.toNat ∧ x.toNat ≠ 59) ∨ ((48 ≤ x.toNat ∧ x.toNat ≤ 57) ∧ 12 ≤ i) ∨ (x.toNat = 59 ∧ 12 ≤ i) ∨ ((48 ≤ x.toNat ∧ x.toNat ≤ 57) ∧ i < 12 ∧ c1.toNat ≠ 91) ∨ (x.toNat = 59 ∧ i < 12 ∧ c1.toNat ≠ 91)) with hq | hq | hq | hq | hq | hq
        all_goals
          clear hg0
          (refine g0_ ?_; repeat ((first | refine n1_ fun b_ => ?_ | refine n2_ fun b_ => ?_ | refine Nat1.mk fun q_ hq_ => ?_ | refine em_ fun x_ hx_ => ?_ | refine Elem1.mk fun e_ he_ => ?_); refine g0_ ?_))
          (refine g1_ ?_; repeat ((first | refine n1_ fun b_ => ?_ | refine n2_ fun b_ => ?_ | refine Nat1.mk fun q_ hq_ => ?_ | refine em_ fun x_ hx_ => ?_ | refine Elem1.mk fun e_ he_ => ?_); refine g1_ ?_))
          repeat ((first | (rw [hx] at he_; obtain rfl := Option.some.inj he_; clear he_) | (rw [hat1] at he_; obtain rfl := Option.some.inj he_; clear he_)); (refine g1_ ?_; repeat ((first | refine n1_ fun b_ => ?_ | refine n2_ fun b_ => ?_ | refine Nat1.mk fun q_ hq_ => ?_ | refine em_ fun x_ hx_ => ?_ | refine Elem1.mk fun e_ he_ => ?_); refine g1_ ?_)))
          refine Draws10.chain ⟨12, [.new, .new, .new, .new, .new, .new, .new, .new, .new, .new, .turn, .skip], [(10, [.again, .again, .again, .again, .again, .again, .again, .again, .again, .again, .keep, .turn]), (11, [.keep, .keep, .keep, .keep, .keep, .keep, .keep, .keep, .keep, .again, .keep, .keep])], by decide +kernel, ?_⟩; (refine g0_ ?_; repeat ((first | refine n1_ fun b_ => ?_ | refine n2_ fun b_ => ?_ | refine Nat1.mk fun q_ hq_ => ?_ | refine em_ fun x_ hx_ => ?_ | refine Elem1.mk fun e_ he_ => ?_); refine g0_ ?_))
          repeat ((first | (rw [hx] at he_; obtain rfl := Option.some.inj he_; clear he_) | (rw [hat1] at he_; obtain rfl := Option.some.inj he_; clear he_)); (refine g1_ ?_; repeat ((first | refine n1_ fun b_ => ?_ | refine n2_ fun b_ => ?_ | refine Nat1.mk fun q_ hq_ => ?_ | refine em_ fun x_ hx_ => ?_ | refine Elem1.mk fun e_ he_ => ?_); refine g1_ ?_)))
          refine ⟨_, (ht).quiet, ?_⟩; (refine g0_ ?_; repeat ((first | refine n1_ fun b_ => ?_ | refine n2_ fun b_ => ?_ | refine Nat1.mk fun q_ hq_ => ?_ | refine em_ fun x_ hx_ => ?_ | refine Elem1.mk fun e_ he_ => ?_); refine g0_ ?_))
          repeat ((first | (rw [hx] at he_; obtain rfl := Option.some.inj he_; clear he_) | (rw [hat1] at he_; obtain rfl := Option.some.inj he_; clear he_)); (refine g1_ ?_; repeat ((first | refine n1_ fun b_ => ?_ | refine n2_ fun b_ => ?_ | refine Nat1.mk fun q_ hq_ => ?_ | refine em_ fun x_ hx_ => ?_ | refine Elem1.mk fun e_ he_ => ?_); refine g1_ ?_)))
          refine ⟨_, (ht).quiet, ?_⟩; (refine g0_ ?_; repeat ((first | refine n1_ fun b_ => ?_ | refine n2_ fun b_ => ?_ | refine Nat1.mk fun q_ hq_ => ?_ | refine em_ fun x_ hx_ => ?_ | refine Elem1.mk fun e_ he_ => ?_); refine g0_ ?_))
          repeat ((first | (rw [hx] at he_; obtain rfl := Option.some.inj he_; clear he_) | (rw [hat1] at he_; obtain rfl := Option.some.inj he_; clear he_)); (refine g1_ ?_; repeat ((first | refine n1_ fun b_ => ?_ | refine n2_ fun b_ => ?_ | refine Nat1.mk fun q_ hq_ => ?_ | refine em_ fun x_ hx_ => ?_ | refine Elem1.mk fun e_ he_ => ?_); refine g1_ ?_)))
          (refine g1_ ?_; repeat ((first | refine n1_ fun b_ => ?_ | refine n2_ fun b_ => ?_ | refine Nat1.mk fun q_ hq_ => ?_ | refine em_ fun x_ hx_ => ?_ | refine Elem1.mk fun e_ he_ => ?_); refine g1_ ?_))
          repeat ((first | (rw [hx] at he_; obtain rfl := Option.some.inj he_; clear he_) | (rw [hat1] at he_; obtain rfl := Option.some.inj he_; clear he_)); (refine g1_ ?_; repeat ((first | refine n1_ fun b_ => ?_ | refine n2_ fun b_ => ?_ | refine Nat1.mk fun q_ hq_ => ?_ | refine em_ fun x_ hx_ => ?_ | refine Elem1.mk fun e_ he_ => ?_); refine g1_ ?_)))
          exact .refl _
      | true =>
        by_cases hb1 : c1.toNat = 91
        · rw [if_pos (show i < b.length ∧ true = true ∧ (c1 = 91 ∨ letterK kd ≠ 0) from ⟨hxl, rfl, .inl (h91.2 hb1)⟩)]
          rcases (by omega : x.toNat < 48 ∨ (57 < x.toNat ∧ x.toNat ≠ 59) ∨ ((48 ≤ x.toNat ∧ x.toNat ≤ 57) ∧ 12 ≤ i) ∨ (x.toNat = 59 ∧ 12 ≤ i)) with hq | hq | hq | hq
          all_goals
            clear hg0
            (refine g0_ ?_; repeat ((first | refine n1_ fun b_ => ?_ | refine n2_ fun b_ => ?_ | refine Nat1.mk fun q_ hq_ => ?_ | refine em_ fun x_ hx_ => ?_ | refine Elem1.mk fun e_ he_ => ?_); refine g0_ ?_))
            (refine g1_ ?_; repeat ((first | refine n1_ fun b_ => ?_ | refine n2_ fun b_ => ?_ | refine Nat1.mk fun q_ hq_ => ?_ | refine em_ fun x_ hx_ => ?_ | refine Elem1.mk fun e_ he_ => ?_); refine g1_ ?_))
            repeat ((first | (rw [hx] at he_; obtain rfl := Option.some.inj he_; clear he_) | (rw [hat1] at he_; obtain rfl := Option.some.inj he_; clear he_)); (refine g1_ ?_; repeat ((first | refine n1_ fun b_ => ?_ | refine n2_ fun b_ => ?_ | refine Nat1.mk fun q_ hq_ => ?_ | refine em_ fun x_ hx_ => ?_ | refine Elem1.mk fun e_ he_ => ?_); refine g1_ ?_)))
            refine Draws10.chain ⟨12, [.new, .new, .new, .new, .new, .new, .new, .new, .new, .new, .turn, .skip], [(10, [.again, .again, .again, .again, .again, .again, .again, .again, .again, .again, .keep, .turn]), (11, [.keep, .keep, .keep, .keep, .keep, .keep, .keep, .keep, .keep, .again, .keep, .keep])], by decide +kernel, ?_⟩; (refine g0_ ?_; repeat ((first | refine n1_ fun b_ => ?_ | refine n2_ fun b_ => ?_ | refine Nat1.mk fun q_ hq_ => ?_ | refine em_ fun x_ hx_ => ?_ | refine Elem1.mk fun e_ he_ => ?_); refine g0_ ?_))
            repeat ((first | (rw [hx] at he_; obtain rfl := Option.some.inj he_; clear he_) | (rw [hat1] at he_; obtain rfl := Option.some.inj he_; clear he_)); (refine g1_ ?_; repeat ((first | refine n1_ fun b_ => ?_ | refine n2_ fun b_ => ?_ | refine Nat1.mk fun q_ hq_ => ?_ | refine em_ fun x_ hx_ => ?_ | refine Elem1.mk fun e_ he_ => ?_); refine g1_ ?_)))
            refine ⟨_, (ht).quiet, ?_⟩; (refine g0_ ?_; repeat ((first | refine n1_ fun b_ => ?_ | refine n2_ fun b_ => ?_ | refine Nat1.mk fun q_ hq_ => ?_ | refine em_ fun x_ hx_ => ?_ | refine Elem1.mk fun e_ he_ => ?_); refine g0_ ?_))
            repeat ((first | (rw [hx] at he_; obtain rfl := Option.some.inj he_; clear he_) | (rw [hat1] at he_; obtain rfl := Option.some.inj he_; clear he_)); (refine g1_ ?_; repeat ((first | refine n1_ fun b_ => ?_ | refine n2_ fun b_ => ?_ | refine Nat1.mk fun q_ hq_ => ?_ | refine em_ fun x_ hx_ => ?_ | refine Elem1.mk fun e_ he_ => ?_); refine g1_ ?_)))
            refine ⟨_, (ht).quiet, ?_⟩; (refine g0_ ?_; repeat ((first | refine n1_ fun b_ => ?_ | refine n2_ fun b_ => ?_ | refine Nat1.mk fun q_ hq_ => ?_ | refine em_ fun x_ hx_ => ?_ | refine Elem1.mk fun e_ he_ => ?_); refine g0_ ?_))
            repeat ((first | (rw [hx] at he_; obtain rfl := Option.some.inj he_; clear he_) | (rw [hat1] at he_; obtain rfl := Option.some.inj he_; clear he_)); (refine g1_ ?_; repeat ((first | refine n1_ fun b_ => ?_ | refine n2_ fun b_ => ?_ | refine Nat1.mk fun q_ hq_ => ?_ | refine em_ fun x_ hx_ => ?_ | refine Elem1.mk fun e_ he_ => ?_); refine g1_ ?_)))
            (refine g1_ ?_; repeat ((first | refine n1_ fun b_ => ?_ | refine n2_ fun b_ => ?_ | refine Nat1.mk fun q_ hq_ => ?_ | refine em_ fun x_ hx_ => ?_ | refine Elem1.mk fun e_ he_ => ?_); refine g1_ ?_))
            repeat ((first | (rw [hx] at he_; obtain rfl := Option.some.inj he_; clear he_) | (rw [hat1] at he_; obtain rfl := Option.some.inj he_; clear he_)); (refine g1_ ?_; repeat ((first | refine n1_ fun b_ => ?_ | refine n2_ fun b_ => ?_ | refine Nat1.mk fun q_ hq_ => ?_ | refine em_ fun x_ hx_ => ?_ | refine Elem1.mk fun e_ he_ => ?_); refine g1_ ?_)))
            exact .refl _
        · have hb79 : c1.toNat = 79 := by omega
          by_cases hk : letterK kd = 0
          · rw [if_neg fun h => h.2.2.elim (fun h => hb1 (h91.1 h)) fun h => h hk]
            rcases (by omega : x.toNat < 48 ∨ (57 < x.toNat ∧ x.toNat ≠ 59) ∨ ((48 ≤ x.toNat ∧ x.toNat ≤ 57) ∧ 12 ≤ i) ∨ (x.toNat = 59 ∧ 12 ≤ i) ∨ ((48 ≤ x.toNat ∧ x.toNat ≤ 57) ∧ i < 12) ∨ (x.toNat = 59 ∧ i < 12)) with hq | hq | hq | hq | hq | hq
            all_goals
              clear hg0
              (refine g0_ ?_; repeat ((first | refine n1_ fun b_ => ?_ | refine n2_ fun b_ => ?_ | refine Nat1.mk fun q_ hq_ => ?_ | refine em_ fun x_ hx_ => ?_ | refine Elem1.mk fun e_ he_ => ?_); refine g0_ ?_))
              (refine g1_ ?_; repeat ((first | refine n1_ fun b_ => ?_ | refine n2_ fun b_ => ?_ | refine Nat1.mk fun q_ hq_ => ?_ | refine em_ fun x_ hx_ => ?_ | refine Elem1.mk fun e_ he_ => ?_); refine g1_ ?_))
              repeat ((first | (rw [hx] at he_; obtain rfl := Option.some.inj he_; clear he_) | (rw [hat1] at he_; obtain rfl := Option.some.inj he_; clear he_)); (refine g1_ ?_; repeat ((first | refine n1_ fun b_ => ?_ | refine n2_ fun b_ => ?_ | refine Nat1.mk fun q_ hq_ => ?_ | refine em_ fun x_ hx_ => ?_ | refine Elem1.mk fun e_ he_ => ?_); refine g1_ ?_)))
              refine Draws10.chain ⟨12, [.new, .new, .new, .new, .new, .new, .new, .new, .new, .new, .turn, .skip], [(10, [.again, .again, .again, .again, .again, .again, .again, .again, .again, .again, .keep, .turn]), (11, [.keep, .keep, .keep, .keep, .keep, .keep, .keep, .keep, .keep, .again, .keep, .keep])], by decide +kernel, ?_⟩; (refine g0_ ?_; repeat ((first | refine n1_ fun b_ => ?_ | refine n2_ fun b_ => ?_ | refine Nat1.mk fun q_ hq_ => ?_ | refine em_ fun x_ hx_ => ?_ | refine Elem1.mk fun e_ he_ => ?_); refine g0_ ?_))
              repeat ((first | (rw [hx] at he_; obtain rfl := Option.some.inj he_; clear he_) | (rw [hat1] at he_; obtain rfl := Option.some.inj he_; clear he_)); (refine g1_ ?_; repeat ((first | refine n1_ fun b_ => ?_ | refine n2_ fun b_ => ?_ | refine Nat1.mk fun q_ hq_ => ?_ | refine em_ fun x_ hx_ => ?_ | refine Elem1.mk fun e_ he_ => ?_); refine g1_ ?_)))
              refine ⟨_, (ht).quiet, ?_⟩; (refine g0_ ?_; repeat ((first | refine n1_ fun b_ => ?_ | refine n2_ fun b_ => ?_ | refine Nat1.mk fun q_ hq_ => ?_ | refine em_ fun x_ hx_ => ?_ | refine Elem1.mk fun e_ he_ => ?_); refine g0_ ?_))
              repeat ((first | (rw [hx] at he_; obtain rfl := Option.some.inj he_; clear he_) | (rw [hat1] at he_; obtain rfl := Option.some.inj he_; clear he_)); (refine g1_ ?_; repeat ((first | refine n1_ fun b_ => ?_ | refine n2_ fun b_ => ?_ | refine Nat1.mk fun q_ hq_ => ?_ | refine em_ fun x_ hx_ => ?_ | refine Elem1.mk fun e_ he_ => ?_); refine g1_ ?_)))
              refine ⟨_, (ht).quiet, ?_⟩; (refine g0_ ?_; repeat ((first | refine n1_ fun b_ => ?_ | refine n2_ fun b_ => ?_ | refine Nat1.mk fun q_ hq_ => ?_ | refine em_ fun x_ hx_ => ?_ | refine Elem1.mk fun e_ he_ => ?_); refine g0_ ?_))
              repeat ((first | (rw [hx] at he_; obtain rfl := Option.some.inj he_; clear he_) | (rw [hat1] at he_; obtain rfl := Option.some.inj he_; clear he_)); (refine g1_ ?_; repeat ((first | refine n1_ fun b_ => ?_ | refine n2_ fun b_ => ?_ | refine Nat1.mk fun q_ hq_ => ?_ | refine em_ fun x_ hx_ => ?_ | refine Elem1.mk fun e_ he_ => ?_); refine g1_ ?_)))
              (refine g1_ ?_; repeat ((first | refine n1_ fun b_ => ?_ | refine n2_ fun b_ => ?_ | refine Nat1.mk fun q_ hq_ => ?_ | refine em_ fun x_ hx_ => ?_ | refine Elem1.mk fun e_ he_ => ?_); refine g1_ ?_))
              repeat ((first | (rw [hx] at he_; obtain rfl := Option.some.inj he_; clear he_) | (rw [hat1] at he_; obtain rfl := Option.some.inj he_; clear he_)); (refine g1_ ?_; repeat ((first | refine n1_ fun b_ => ?_ | refine n2_ fun b_ => ?_ | refine Nat1.mk fun q_ hq_ => ?_ | refine em_ fun x_ hx_ => ?_ | refine Elem1.mk fun e_ he_ => ?_); refine g1_ ?_)))
              refine (hlt).use ?_; (refine g0_ ?_; repeat ((first | refine n1_ fun b_ => ?_ | refine n2_ fun b_ => ?_ | refine Nat1.mk fun q_ hq_ => ?_ | refine em_ fun x_ hx_ => ?_ | refine Elem1.mk fun e_ he_ => ?_); refine g0_ ?_))
              (refine g1_ ?_; repeat ((first | refine n1_ fun b_ => ?_ | refine n2_ fun b_ => ?_ | refine Nat1.mk fun q_ hq_ => ?_ | refine em_ fun x_ hx_ => ?_ | refine Elem1.mk fun e_ he_ => ?_); refine g1_ ?_))
              exact .refl _
          · rw [if_pos (show i < b.length ∧ true = true ∧ (c1 = 91 ∨ letterK kd ≠ 0) from ⟨hxl, rfl, .inr hk⟩)]
            rcases (by omega : x.toNat < 48 ∨ (57 < x.toNat ∧ x.toNat ≠ 59) ∨ ((48 ≤ x.toNat ∧ x.toNat ≤ 57) ∧ 12 ≤ i) ∨ (x.toNat = 59 ∧ 12 ≤ i) ∨ ((48 ≤ x.toNat ∧ x.toNat ≤ 57) ∧ i < 12) ∨ (x.toNat = 59 ∧ i < 12)) with hq | hq | hq | hq | hq | hq
            all_goals
              clear hg0
              (refine g0_ ?_; repeat ((first | refine n1_ fun b_ => ?_ | refine n2_ fun b_ => ?_ | refine Nat1.mk fun q_ hq_ => ?_ | refine em_ fun x_ hx_ => ?_ | refine Elem1.mk fun e_ he_ => ?_); refine g0_ ?_))
              (refine g1_ ?_; repeat ((first | refine n1_ fun b_ => ?_ | refine n2_ fun b_ => ?_ | refine Nat1.mk fun q_ hq_ => ?_ | refine em_ fun x_ hx_ => ?_ | refine Elem1.mk fun e_ he_ => ?_); refine g1_ ?_))
              repeat ((first | (rw [hx] at he_; obtain rfl := Option.some.inj he_; clear he_) | (rw [hat1] at he_; obtain rfl := Option.some.inj he_; clear he_)); (refine g1_ ?_; repeat ((first | refine n1_ fun b_ => ?_ | refine n2_ fun b_ => ?_ | refine Nat1.mk fun q_ hq_ => ?_ | refine em_ fun x_ hx_ => ?_ | refine Elem1.mk fun e_ he_ => ?_); refine g1_ ?_)))
              refine Draws10.chain ⟨12, [.new, .new, .new, .new, .new, .new, .new, .new, .new, .new, .turn, .skip], [(10, [.again, .again, .again, .again, .again, .again, .again, .again, .again, .again, .keep, .turn]), (11, [.keep, .keep, .keep, .keep, .keep, .keep, .keep, .keep, .keep, .again, .keep, .keep])], by decide +kernel, ?_⟩; (refine g0_ ?_; repeat ((first | refine n1_ fun b_ => ?_ | refine n2_ fun b_ => ?_ | refine Nat1.mk fun q_ hq_ => ?_ | refine em_ fun x_ hx_ => ?_ | refine Elem1.mk fun e_ he_ => ?_); refine g0_ ?_))
              repeat ((first | (rw [hx] at he_; obtain rfl := Option.some.inj he_; clear he_) | (rw [hat1] at he_; obtain rfl := Option.some.inj he_; clear he_)); (refine g1_ ?_; repeat ((first | refine n1_ fun b_ => ?_ | refine n2_ fun b_ => ?_ | refine Nat1.mk fun q_ hq_ => ?_ | refine em_ fun x_ hx_ => ?_ | refine Elem1.mk fun e_ he_ => ?_); refine g1_ ?_)))
              refine ⟨_, (ht).quiet, ?_⟩; (refine g0_ ?_; repeat ((first | refine n1_ fun b_ => ?_ | refine n2_ fun b_ => ?_ | refine Nat1.mk fun q_ hq_ => ?_ | refine em_ fun x_ hx_ => ?_ | refine Elem1.mk fun e_ he_ => ?_); refine g0_ ?_))
              repeat ((first | (rw [hx] at he_; obtain rfl := Option.some.inj he_; clear he_) | (rw [hat1] at he_; obtain rfl := Option.some.inj he_; clear he_)); (refine g1_ ?_; repeat ((first | refine n1_ fun b_ => ?_ | refine n2_ fun b_ => ?_ | refine Nat1.mk fun q_ hq_ => ?_ | refine em_ fun x_ hx_ => ?_ | refine Elem1.mk fun e_ he_ => ?_); refine g1_ ?_)))
              refine ⟨_, (ht).quiet, ?_⟩; (refine g0_ ?_; repeat ((first | refine n1_ fun b_ => ?_ | refine n2_ fun b_ => ?_ | refine Nat1.mk fun q_ hq_ => ?_ | refine em_ fun x_ hx_ => ?_ | refine Elem1.mk fun e_ he_ => ?_); refine g0_ ?_))
              repeat ((first | (rw [hx] at he_; obtain rfl := Option.some.inj he_; clear he_) | (rw [hat1] at he_; obtain rfl := Option.some.inj he_; clear he_)); (refine g1_ ?_; repeat ((first | refine n1_ fun b_ => ?_ | refine n2_ fun b_ => ?_ | refine Nat1.mk fun q_ hq_ => ?_ | refine em_ fun x_ hx_ => ?_ | refine Elem1.mk fun e_ he_ => ?_); refine g1_ ?_)))
              (refine g1_ ?_; repeat ((first | refine n1_ fun b_ => ?_ | refine n2_ fun b_ => ?_ | refine Nat1.mk fun q_ hq_ => ?_ | refine em_ fun x_ hx_ => ?_ | refine Elem1.mk fun e_ he_ => ?_); refine g1_ ?_))
              repeat ((first | (rw [hx] at he_; obtain rfl := Option.some.inj he_; clear he_) | (rw [hat1] at he_; obtain rfl := Option.some.inj he_; clear he_)); (refine g1_ ?_; repeat ((first | refine n1_ fun b_ => ?_ | refine n2_ fun b_ => ?_ | refine Nat1.mk fun q_ hq_ => ?_ | refine em_ fun x_ hx_ => ?_ | refine Elem1.mk fun e_ he_ => ?_); refine g1_ ?_)))
              refine (hlt).use ?_; (refine g0_ ?_; repeat ((first | refine n1_ fun b_ => ?_ | refine n2_ fun b_ => ?_ | refine Nat1.mk fun q_ hq_ => ?_ | refine em_ fun x_ hx_ => ?_ | refine Elem1.mk fun e_ he_ => ?_); refine g0_ ?_))
              (refine g1_ ?_; repeat ((first | refine n1_ fun b_ => ?_ | refine n2_ fun b_ => ?_ | refine Nat1.mk fun q_ hq_ => ?_ | refine em_ fun x_ hx_ => ?_ | refine Elem1.mk fun e_ he_ => ?_); refine g1_ ?_))
              exact .refl _
end Go.Eng.YtimpfhokacfobaaDoor
end

/- Keys: the first key, all keys (b_ x_ q_ e_). -/
section
namespace Go.Eng.YtimpfhokacfobaaDoor
open Go Go.Eng Go.Proofs
variable (W : World)
set_option linter.unusedSimpArgs false
set_option maxRecDepth 100000
set_option linter.unusedVariables false
set_option maxHeartbeats 8000000
theorem first0_ok (hT : Tabs W) (c : UInt8) (r : List UInt8) (hl : r.length ≤ 4000) (last : Bool) (hc : c.toNat ≠ 27) : Pure Tryd.prog W 35 [.str (c :: r), .bool last] (.tup [encKey (first0 (c :: r) last).1, .int .i64 (first0 (c :: r) last).2]) := by
  have hlen : (c :: r).length = r.length + 1 := rfl
  have hg0 : (c :: r).getD 0 0 = c := rfl
  have hpl := plain_okK W c
  have hfu := full_ok W hT (c :: r)
  have hnx := next_ok W hT (c :: r)
  rw [show nextL (c :: r) = dec (c :: r) from rfl] at hnx
  have hd := dec_le (c :: r)
  have hw := width_ok W ((dec (c :: r)).1 : Nat)
  unfold first0
  rw [hg0]
  by_cases h1 : c.toNat < 32 ∨ c.toNat = 127
  · rw [if_pos h1]
    rcases h1 with h1 | h1
    all_goals
      refine Pure.of (acalls_of_vc (drawOk W) Tryd.func35 rfl (by decide) (by decide) rfl ?_)
      (refine g0_ ?_; repeat ((first | refine n1_ fun b_ => ?_ | refine n2_ fun b_ => ?_ | refine Nat1.mk fun q_ hq_ => ?_ | refine em_ fun x_ hx_ => ?_ | refine Elem1.mk fun e_ he_ => ?_); refine g0_ ?_))
      (refine g1_ ?_; repeat ((first | refine n1_ fun b_ => ?_ | refine n2_ fun b_ => ?_ | refine Nat1.mk fun q_ hq_ => ?_ | refine em_ fun x_ hx_ => ?_ | refine Elem1.mk fun e_ he_ => ?_); refine g1_ ?_))
      refine (hpl).use ?_; (refine g0_ ?_; repeat ((first | refine n1_ fun b_ => ?_ | refine n2_ fun b_ => ?_ | refine Nat1.mk fun q_ hq_ => ?_ | refine em_ fun x_ hx_ => ?_ | refine Elem1.mk fun e_ he_ => ?_); refine g0_ ?_))
      exact .refl _
  · rw [if_neg h1]
    generalize fullL (c :: r) = fl at *
    generalize dec (c :: r) = d at *
    obtain ⟨dr, dn⟩ := d
    dsimp only at *
    by_cases h2 : fl = false ∧ last = false
    · obtain ⟨rfl, rfl⟩ := h2
      rw [if_pos ⟨rfl, rfl⟩]
      refine Pure.of (acalls_of_vc (drawOk W) Tryd.func35 rfl (by decide) (by decide) rfl ?_)
      (refine g0_ ?_; repeat ((first | refine n1_ fun b_ => ?_ | refine n2_ fun b_ => ?_ | refine Nat1.mk fun q_ hq_ => ?_ | refine em_ fun x_ hx_ => ?_ | refine Elem1.mk fun e_ he_ => ?_); refine g0_ ?_))
      (refine g1_ ?_; repeat ((first | refine n1_ fun b_ => ?_ | refine n2_ fun b_ => ?_ | refine Nat1.mk fun q_ hq_ => ?_ | refine em_ fun x_ hx_ => ?_ | refine Elem1.mk fun e_ he_ => ?_); refine g1_ ?_))
      refine (hfu).use ?_; (refine g0_ ?_; repeat ((first | refine n1_ fun b_ => ?_ | refine n2_ fun b_ => ?_ | refine Nat1.mk fun q_ hq_ => ?_ | refine em_ fun x_ hx_ => ?_ | refine Elem1.mk fun e_ he_ => ?_); refine g0_ ?_))
      (refine g1_ ?_; repeat ((first | refine n1_ fun b_ => ?_ | refine n2_ fun b_ => ?_ | refine Nat1.mk fun q_ hq_ => ?_ | refine em_ fun x_ hx_ => ?_ | refine Elem1.mk fun e_ he_ => ?_); refine g1_ ?_))
      exact .refl _
    · rw [if_neg h2]
      have hor : fl = true ∨ (fl = false ∧ last = true) := by
        cases fl
        · cases last
          · exact absurd ⟨rfl, rfl⟩ h2
          · exact .inr ⟨rfl, rfl⟩
        · exact .inl rfl
      by_cases h3 : widthL (dr : Nat) = 0
      · rw [if_pos h3]
        rcases hor with rfl | ⟨rfl, rfl⟩
        all_goals
          clear h2
          refine Pure.of (acalls_of_vc (drawOk W) Tryd.func35 rfl (by decide) (by decide) rfl ?_)
          (refine g0_ ?_; repeat ((first | refine n1_ fun b_ => ?_ | refine n2_ fun b_ => ?_ | refine Nat1.mk fun q_ hq_ => ?_ | refine em_ fun x_ hx_ => ?_ | refine Elem1.mk fun e_ he_ => ?_); refine g0_ ?_))
          (refine g1_ ?_; repeat ((first | refine n1_ fun b_ => ?_ | refine n2_ fun b_ => ?_ | refine Nat1.mk fun q_ hq_ => ?_ | refine em_ fun x_ hx_ => ?_ | refine Elem1.mk fun e_ he_ => ?_); refine g1_ ?_))
          refine (hfu).use ?_; (refine g0_ ?_; repeat ((first | refine n1_ fun b_ => ?_ | refine n2_ fun b_ => ?_ | refine Nat1.mk fun q_ hq_ => ?_ | refine em_ fun x_ hx_ => ?_ | refine Elem1.mk fun e_ he_ => ?_); refine g0_ ?_))
          (refine g1_ ?_; repeat ((first | refine n1_ fun b_ => ?_ | refine n2_ fun b_ => ?_ | refine Nat1.mk fun q_ hq_ => ?_ | refine em_ fun x_ hx_ => ?_ | refine Elem1.mk fun e_ he_ => ?_); refine g1_ ?_))
          refine (hnx).use ?_; (refine g0_ ?_; repeat ((first | refine n1_ fun b_ => ?_ | refine n2_ fun b_ => ?_ | refine Nat1.mk fun q_ hq_ => ?_ | refine em_ fun x_ hx_ => ?_ | refine Elem1.mk fun e_ he_ => ?_); refine g0_ ?_))
          (refine g0_ ?_; repeat ((first | refine n1_ fun b_ => ?_ | refine n2_ fun b_ => ?_ | refine Nat1.mk fun q_ hq_ => ?_ | refine em_ fun x_ hx_ => ?_ | refine Elem1.mk fun e_ he_ => ?_); refine g0_ ?_))
          refine (hw).use ?_; (refine g0_ ?_; repeat ((first | refine n1_ fun b_ => ?_ | refine n2_ fun b_ => ?_ | refine Nat1.mk fun q_ hq_ => ?_ | refine em_ fun x_ hx_ => ?_ | refine Elem1.mk fun e_ he_ => ?_); refine g0_ ?_))
          (refine g1_ ?_; repeat ((first | refine n1_ fun b_ => ?_ | refine n2_ fun b_ => ?_ | refine Nat1.mk fun q_ hq_ => ?_ | refine em_ fun x_ hx_ => ?_ | refine Elem1.mk fun e_ he_ => ?_); refine g1_ ?_))
          exact .refl _
      · rw [if_neg h3]
        rcases hor with rfl | ⟨rfl, rfl⟩
        all_goals
          clear h2
          refine Pure.of (acalls_of_vc (drawOk W) Tryd.func35 rfl (by decide) (by decide) rfl ?_)
          (refine g0_ ?_; repeat ((first | refine n1_ fun b_ => ?_ | refine n2_ fun b_ => ?_ | refine Nat1.mk fun q_ hq_ => ?_ | refine em_ fun x_ hx_ => ?_ | refine Elem1.mk fun e_ he_ => ?_); refine g0_ ?_))
          (refine g1_ ?_; repeat ((first | refine n1_ fun b_ => ?_ | refine n2_ fun b_ => ?_ | refine Nat1.mk fun q_ hq_ => ?_ | refine em_ fun x_ hx_ => ?_ | refine Elem1.mk fun e_ he_ => ?_); refine g1_ ?_))
          refine (hfu).use ?_; (refine g0_ ?_; repeat ((first | refine n1_ fun b_ => ?_ | refine n2_ fun b_ => ?_ | refine Nat1.mk fun q_ hq_ => ?_ | refine em_ fun x_ hx_ => ?_ | refine Elem1.mk fun e_ he_ => ?_); refine g0_ ?_))
          (refine g1_ ?_; repeat ((first | refine n1_ fun b_ => ?_ | refine n2_ fun b_ => ?_ | refine Nat1.mk fun q_ hq_ => ?_ | refine em_ fun x_ hx_ => ?_ | refine Elem1.mk fun e_ he_ => ?_); refine g1_ ?_))
          refine (hnx).use ?_; (refine g0_ ?_; repeat ((first | refine n1_ fun b_ => ?_ | refine n2_ fun b_ => ?_ | refine Nat1.mk fun q_ hq_ => ?_ | refine em_ fun x_ hx_ => ?_ | refine Elem1.mk fun e_ he_ => ?_); refine g0_ ?_))
          (refine g0_ ?_; repeat ((first | refine n1_ fun b_ => ?_ | refine n2_ fun b_ => ?_ | refine Nat1.mk fun q_ hq_ => ?_ | refine em_ fun x_ hx_ => ?_ | refine Elem1.mk fun e_ he_ => ?_); refine g0_ ?_))
          refine (hw).use ?_; (refine g0_ ?_; repeat ((first | refine n1_ fun b_ => ?_ | refine n2_ fun b_ => ?_ | refine Nat1.mk fun q_ hq_ => ?_ | refine em_ fun x_ hx_ => ?_ | refine Elem1.mk fun e_ he_ => ?_); refine g0_ ?_))
          (refine g1_ ?_; repeat ((first | refine n1_ fun b_ => ?_ | refine n2_ fun b_ => ?_ | refine Nat1.mk fun q_ hq_ => ?_ | refine em_ fun x_ hx_ => ?_ | refine Elem1.mk fun e_ he_ => ?_); refine g1_ ?_))
          exact .refl _
theorem first_ok (hT : Tabs W) (hM : MaxJ W) (hE : ErrJ W) (c : UInt8) (r : List UInt8) (hl : r.length ≤ 4000) (last : Bool) : Pure Tryd.prog W 35 [.str (c :: r), .bool last] (.tup [encKey (firstK (c :: r) last).1, .int .i64 (firstK (c :: r) last).2]) := by
  have hg0 : (c :: r).getD 0 0 = c := rfl
  unfold firstK
  rw [hg0]
  by_cases h1 : c.toNat = 27
  · rw [if_neg (by simpa using h1)]
    rcases r with _ | ⟨d, r⟩
    · rw [if_pos (by rfl)]
      cases last
      all_goals
        refine Pure.of (acalls_of_vc (drawOk W) Tryd.func35 rfl (by decide) (by decide) rfl ?_)
        (refine g0_ ?_; repeat ((first | refine n1_ fun b_ => ?_ | refine n2_ fun b_ => ?_ | refine Nat1.mk fun q_ hq_ => ?_ | refine em_ fun x_ hx_ => ?_ | refine Elem1.mk fun e_ he_ => ?_); refine g0_ ?_))
        (refine g1_ ?_; repeat ((first | refine n1_ fun b_ => ?_ | refine n2_ fun b_ => ?_ | refine Nat1.mk fun q_ hq_ => ?_ | refine em_ fun x_ hx_ => ?_ | refine Elem1.mk fun e_ he_ => ?_); refine g1_ ?_))
        exact .refl _
    · have hlen : (c :: d :: r).length = r.length + 2 := rfl
      have hg1 : (c :: d :: r).getD 1 0 = d := rfl
      have hlr : r.length ≤ 4000 := by simp only [List.length_cons] at hl; omega
      rw [if_neg (by rw [hlen]; omega), hg1, show (c :: d :: r).drop 1 = d :: r from rfl]
      by_cases h2 : d.toNat = 91 ∨ d.toNat = 79
      · rw [if_pos h2]
        have hs := seq_ok W hM hE c d r hlr last h2
        generalize seqK (c :: d :: r) last = S at *
        obtain ⟨⟨kd, kr, kn, kh⟩, n⟩ := S
        rcases h2 with h2 | h2
        all_goals
          refine Pure.of (acalls_of_vc (drawOk W) Tryd.func35 rfl (by decide) (by decide) rfl ?_)
          (refine g0_ ?_; repeat ((first | refine n1_ fun b_ => ?_ | refine n2_ fun b_ => ?_ | refine Nat1.mk fun q_ hq_ => ?_ | refine em_ fun x_ hx_ => ?_ | refine Elem1.mk fun e_ he_ => ?_); refine g0_ ?_))
          (refine g1_ ?_; repeat ((first | refine n1_ fun b_ => ?_ | refine n2_ fun b_ => ?_ | refine Nat1.mk fun q_ hq_ => ?_ | refine em_ fun x_ hx_ => ?_ | refine Elem1.mk fun e_ he_ => ?_); refine g1_ ?_))
          refine (hs).use ?_; (refine g0_ ?_; repeat ((first | refine n1_ fun b_ => ?_ | refine n2_ fun b_ => ?_ | refine Nat1.mk fun q_ hq_ => ?_ | refine em_ fun x_ hx_ => ?_ | refine Elem1.mk fun e_ he_ => ?_); refine g0_ ?_))
          exact .refl _
      · rw [if_neg h2]
        by_cases h3 : d.toNat = 27 ∨ d.toNat = 9
        · rw [if_pos h3]
          rcases h3 with h3 | h3
          all_goals
            refine Pure.of (acalls_of_vc (drawOk W) Tryd.func35 rfl (by decide) (by decide) rfl ?_)
            (refine g0_ ?_; repeat ((first | refine n1_ fun b_ => ?_ | refine n2_ fun b_ => ?_ | refine Nat1.mk fun q_ hq_ => ?_ | refine em_ fun x_ hx_ => ?_ | refine Elem1.mk fun e_ he_ => ?_); refine g0_ ?_))
            (refine g1_ ?_; repeat ((first | refine n1_ fun b_ => ?_ | refine n2_ fun b_ => ?_ | refine Nat1.mk fun q_ hq_ => ?_ | refine em_ fun x_ hx_ => ?_ | refine Elem1.mk fun e_ he_ => ?_); refine g1_ ?_))
            exact .refl _
        · rw [if_neg h3]
          have hf := first0_ok W hT d r hlr last (by omega)
          have hfl := first0_le (b := d :: r) (by simp) last
          generalize first0 (d :: r) last = S at *
          obtain ⟨⟨kd, kr, kn, kh⟩, n⟩ := S
          dsimp only at hfl hf ⊢
          simp only [List.length_cons] at hfl
          by_cases h4 : n = 0
          · rw [if_pos h4]
            refine Pure.of (acalls_of_vc (drawOk W) Tryd.func35 rfl (by decide) (by decide) rfl ?_)
            (refine g0_ ?_; repeat ((first | refine n1_ fun b_ => ?_ | refine n2_ fun b_ => ?_ | refine Nat1.mk fun q_ hq_ => ?_ | refine em_ fun x_ hx_ => ?_ | refine Elem1.mk fun e_ he_ => ?_); refine g0_ ?_))
            (refine g1_ ?_; repeat ((first | refine n1_ fun b_ => ?_ | refine n2_ fun b_ => ?_ | refine Nat1.mk fun q_ hq_ => ?_ | refine em_ fun x_ hx_ => ?_ | refine Elem1.mk fun e_ he_ => ?_); refine g1_ ?_))
            refine (hf).use ?_; (refine g0_ ?_; repeat ((first | refine n1_ fun b_ => ?_ | refine n2_ fun b_ => ?_ | refine Nat1.mk fun q_ hq_ => ?_ | refine em_ fun x_ hx_ => ?_ | refine Elem1.mk fun e_ he_ => ?_); refine g0_ ?_))
            (refine g1_ ?_; repeat ((first | refine n1_ fun b_ => ?_ | refine n2_ fun b_ => ?_ | refine Nat1.mk fun q_ hq_ => ?_ | refine em_ fun x_ hx_ => ?_ | refine Elem1.mk fun e_ he_ => ?_); refine g1_ ?_))
            exact .refl _
          · rw [if_neg h4]
            refine Pure.of (acalls_of_vc (drawOk W) Tryd.func35 rfl (by decide) (by decide) rfl ?_)
            (refine g0_ ?_; repeat ((first | refine n1_ fun b_ => ?_ | refine n2_ fun b_ => ?_ | refine Nat1.mk fun q_ hq_ => ?_ | refine em_ fun x_ hx_ => ?_ | refine Elem1.mk fun e_ he_ => ?_); refine g0_ ?_))
            (refine g1_ ?_; repeat ((first | refine n1_ fun b_ => ?_ | refine n2_ fun b_ => ?_ | refine Nat1.mk fun q_ hq_ => ?_ | refine em_ fun x_ hx_ => ?_ | refine Elem1.mk fun e_ he_ => ?_); refine g1_ ?_))
            refine (hf).use ?_; (refine g0_ ?_; repeat ((first | refine n1_ fun b_ => ?_ | refine n2_ fun b_ => ?_ | refine Nat1.mk fun q_ hq_ => ?_ | refine em_ fun x_ hx_ => ?_ | refine Elem1.mk fun e_ he_ => ?_); refine g0_ ?_))
            (refine g1_ ?_; repeat ((first | refine n1_ fun b_ => ?_ | refine n2_ fun b_ => ?_ | refine Nat1.mk fun q_ hq_ => ?_ | refine em_ fun x_ hx_ => ?_ | refine Elem1.mk fun e_ he_ => ?_); refine g1_ ?_))
            exact .refl _
  · rw [if_pos h1]
    exact first0_ok W hT c r hl last h1
theorem readK_nil (last : Bool) : ∀ n : Nat, readK last n [] = ([], [])
  | 0 => rfl
  | n + 1 => by rw [readK, if_pos (.inl rfl)]
theorem readK_same (last : Bool) : ∀ (n m : Nat) (b : List UInt8), b.length ≤ n → b.length ≤ m → readK last n b = readK last m b
  | 0, m, b, h, _ => by
    obtain rfl : b = [] := List.length_eq_zero_iff.1 (by omega)
    rw [readK_nil, readK_nil]
  | n + 1, 0, b, _, h => by
    obtain rfl : b = [] := List.length_eq_zero_iff.1 (by omega)
    rw [readK_nil, readK_nil]
  | n + 1, m + 1, b, h1, h2 => by
    rw [readK, readK]
    by_cases h0 : b = [] ∨ (firstK b last).2 = 0
    · rw [if_pos h0, if_pos h0]
    · rw [if_neg h0, if_neg h0, readK_same last n m _ (by rw [List.length_drop]; omega) (by rw [List.length_drop]; omega)]
theorem readK_fuel (last : Bool) (n : Nat) (b : List UInt8) (h : b.length ≤ n) : readK last n b = readK last b.length b := readK_same last _ _ b h (Nat.le_refl _)
/-- All keys, and what is left. -/
def readA (last : Bool) (b : List UInt8) : List Key × List UInt8 := readK last b.length b
theorem readA_stop {last : Bool} {b : List UInt8} (h : b = [] ∨ (firstK b last).2 = 0) : readA last b = ([], b) := by
  unfold readA
  rcases b with _ | ⟨c, r⟩
  · rfl
  · rw [List.length_cons, readK, if_pos h]
theorem readA_step {last : Bool} {b : List UInt8} (hb : b ≠ []) (h : (firstK b last).2 ≠ 0) : readA last b = ((firstK b last).1 :: (readA last (b.drop (firstK b last).2)).1, (readA last (b.drop (firstK b last).2)).2) := by
  unfold readA
  rcases b with _ | ⟨c, r⟩
  · exact absurd rfl hb
  · rw [List.length_cons, readK, if_neg (by simp [h]), readK_fuel last r.length _ (by rw [List.length_drop, List.length_cons]; omega)]
theorem read_many (b : List UInt8) (last : Bool) (h : 4000 < b.length) : Pure Tryd.prog W 16 [.str b, .bool last] (.tup [.sl 4 [], .str [], .int .i64 2]) := by
  refine Pure.of (acalls_of_vc (drawOk W) Tryd.func16 rfl (by decide) (by decide) rfl ?_)
  (refine g0_ ?_; repeat ((first | refine n1_ fun b_ => ?_ | refine n2_ fun b_ => ?_ | refine Nat1.mk fun q_ hq_ => ?_ | refine em_ fun x_ hx_ => ?_ | refine Elem1.mk fun e_ he_ => ?_); refine g0_ ?_))
  (refine g1_ ?_; repeat ((first | refine n1_ fun b_ => ?_ | refine n2_ fun b_ => ?_ | refine Nat1.mk fun q_ hq_ => ?_ | refine em_ fun x_ hx_ => ?_ | refine Elem1.mk fun e_ he_ => ?_); refine g1_ ?_))
  exact .tup _ _ rfl fun j hj => by
    match j, hj with
    | 0, _ => exact .nils 4
    | 1, _ => exact .refl _
    | 2, _ => exact .refl _
theorem kread_own (hT : Tabs W) (hM : MaxJ W) (hE : ErrJ W) (B : List UInt8) (last : Bool) (hl : B.length ≤ 4000) : ACalls Tryd.prog W 16 [.str B, .bool last] []
    (Gives (fun bb : Nat => .tup [accV bb 4 ((readA last B).1.map encKey), .str (readA last B).2, .int .i64 0]) (fun bb => accM bb 4 ((readA last B).1.map encKey)) (fun _ => True)) := by
  generalize hR : readA last B = R
  refine acalls_of_vc (drawOk W) Tryd.func16 rfl (by decide) (by decide) rfl ?_
  (refine g0_ ?_; repeat ((first | refine n1_ fun b_ => ?_ | refine n2_ fun b_ => ?_ | refine Nat1.mk fun q_ hq_ => ?_ | refine em_ fun x_ hx_ => ?_ | refine Elem1.mk fun e_ he_ => ?_); refine g0_ ?_))
  (refine g1_ ?_; repeat ((first | refine n1_ fun b_ => ?_ | refine n2_ fun b_ => ?_ | refine Nat1.mk fun q_ hq_ => ?_ | refine em_ fun x_ hx_ => ?_ | refine Elem1.mk fun e_ he_ => ?_); refine g1_ ?_))
  refine' loopI (α := (List UInt8) × (List Key) × Nat) (fun (b, o, bb) => [(0, .str b), (7, accV bb 4 (o.map encKey))]) [(1, _)] (fun (b, o, bb) => accM bb 4 (o.map encKey)) (fun (b, o, bb) => o.length + b.length ≤ B.length ∧ (o ++ (readA last b).1 = R.1 ∧ (readA last b).2 = R.2)) (fun (b, o, bb) => b.length) (B, [], 0) ?_ ?_
  · exact ⟨by simp, by rw [hR]; exact ⟨rfl, rfl⟩⟩
  rintro ⟨b, o, bb⟩ ⟨hbl, hv⟩
  have hom : (List.map encKey o).length = o.length := List.length_map _
  rcases o with _ | ⟨o0, o⟩
  · by_cases hb : b = []
    · subst hb
      rw [readA_stop (.inl rfl)] at hv
      obtain ⟨hv1, hv2⟩ := hv
      rw [List.append_nil] at hv1
      (refine g0_ ?_; repeat ((first | refine n1_ fun b_ => ?_ | refine n2_ fun b_ => ?_ | refine Nat1.mk fun q_ hq_ => ?_ | refine em_ fun x_ hx_ => ?_ | refine Elem1.mk fun e_ he_ => ?_); refine g0_ ?_))
      rw [← hv1, ← hv2]
      exact ⟨bb, trivial, rfl, wkMem.rfl'⟩
    · obtain ⟨c, r, rfl⟩ := List.exists_cons_of_ne_nil hb
      simp only [List.length_cons, List.length_nil] at hbl
      have hf := first_ok W hT hM hE c r (by omega) last
      try have hom2 : (List.map encKey o).length = o.length := List.length_map _
      have hfl := first_le (b := c :: r) hb last
      have hst := @readA_stop last (c :: r)
      have hsp := @readA_step last (c :: r) hb
      generalize firstK (c :: r) last = S at *
      obtain ⟨⟨kd, kr, kn, kh⟩, n⟩ := S
      dsimp only at hf hfl hst hsp
      by_cases h0 : n = 0
      · rw [hst (.inr h0)] at hv
        obtain ⟨hv1, hv2⟩ := hv
        rw [List.append_nil] at hv1
        (refine g0_ ?_; repeat ((first | refine n1_ fun b_ => ?_ | refine n2_ fun b_ => ?_ | refine Nat1.mk fun q_ hq_ => ?_ | refine em_ fun x_ hx_ => ?_ | refine Elem1.mk fun e_ he_ => ?_); refine g0_ ?_))
        refine (hf).use ?_; (refine g0_ ?_; repeat ((first | refine n1_ fun b_ => ?_ | refine n2_ fun b_ => ?_ | refine Nat1.mk fun q_ hq_ => ?_ | refine em_ fun x_ hx_ => ?_ | refine Elem1.mk fun e_ he_ => ?_); refine g0_ ?_))
        (refine g1_ ?_; repeat ((first | refine n1_ fun b_ => ?_ | refine n2_ fun b_ => ?_ | refine Nat1.mk fun q_ hq_ => ?_ | refine em_ fun x_ hx_ => ?_ | refine Elem1.mk fun e_ he_ => ?_); refine g1_ ?_))
        rw [← hv1, ← hv2]
        exact ⟨bb, trivial, rfl, wkMem.skip wkMem.rfl'⟩
      · rw [hsp h0] at hv
        obtain ⟨hv1, hv2⟩ := hv
        dsimp only at hv1 hv2
        (refine g0_ ?_; repeat ((first | refine n1_ fun b_ => ?_ | refine n2_ fun b_ => ?_ | refine Nat1.mk fun q_ hq_ => ?_ | refine em_ fun x_ hx_ => ?_ | refine Elem1.mk fun e_ he_ => ?_); refine g0_ ?_))
        refine (hf).use ?_; (refine g0_ ?_; repeat ((first | refine n1_ fun b_ => ?_ | refine n2_ fun b_ => ?_ | refine Nat1.mk fun q_ hq_ => ?_ | refine em_ fun x_ hx_ => ?_ | refine Elem1.mk fun e_ he_ => ?_); refine g0_ ?_))
        (refine g1_ ?_; repeat ((first | refine n1_ fun b_ => ?_ | refine n2_ fun b_ => ?_ | refine Nat1.mk fun q_ hq_ => ?_ | refine em_ fun x_ hx_ => ?_ | refine Elem1.mk fun e_ he_ => ?_); refine g1_ ?_))
        refine .inl ?_
        (refine g0_ ?_; repeat ((first | refine n1_ fun b_ => ?_ | refine n2_ fun b_ => ?_ | refine Nat1.mk fun q_ hq_ => ?_ | refine em_ fun x_ hx_ => ?_ | refine Elem1.mk fun e_ he_ => ?_); refine g0_ ?_))
        try rw [show ∀ v : PV, (List.map encKey o).length + 1 + [v].length = (List.map encKey (o ++ [Key.mk kd kr kn kh])).length + 1 from fun v => by simp]
        try (rw [show ∀ v : PV, v = encKey (Key.mk kd kr kn kh) → (encKey o0 :: List.map encKey o) ++ [v] = List.map encKey (o0 :: o ++ [Key.mk kd kr kn kh]) from fun v hv => by simp [hv]]; rotate_left; rfl)
        refine nx_ ((c :: r).drop n, [] ++ [Key.mk kd kr kn kh], b_) ?_ ?_
        · exact ⟨by rw [List.length_append, List.length_drop]; simp only [List.length_cons, List.length_nil] at *; omega, by rw [List.append_assoc]; exact hv1, hv2⟩
        · ((try dsimp only); (try simp only [List.length_drop, List.length_take, List.length_append, List.length_cons, List.length_nil, List.length_map] at *); omega)
  · by_cases hb : b = []
    · subst hb
      rw [readA_stop (.inl rfl)] at hv
      obtain ⟨hv1, hv2⟩ := hv
      rw [List.append_nil] at hv1
      (refine g0_ ?_; repeat ((first | refine n1_ fun b_ => ?_ | refine n2_ fun b_ => ?_ | refine Nat1.mk fun q_ hq_ => ?_ | refine em_ fun x_ hx_ => ?_ | refine Elem1.mk fun e_ he_ => ?_); refine g0_ ?_))
      rw [← hv1, ← hv2]
      exact ⟨bb, trivial, rfl, wkMem.rfl'⟩
    · obtain ⟨c, r, rfl⟩ := List.exists_cons_of_ne_nil hb
      simp only [List.length_cons, List.length_nil] at hbl
      have hf := first_ok W hT hM hE c r (by omega) last
      try have hom2 : (List.map encKey o).length = o.length := List.length_map _
      have hfl := first_le (b := c :: r) hb last
      have hst := @readA_stop last (c :: r)
      have hsp := @readA_step last (c :: r) hb
      generalize firstK (c :: r) last = S at *
      obtain ⟨⟨kd, kr, kn, kh⟩, n⟩ := S
      dsimp only at hf hfl hst hsp
      by_cases h0 : n = 0
      · rw [hst (.inr h0)] at hv
        obtain ⟨hv1, hv2⟩ := hv
        rw [List.append_nil] at hv1
        (refine g0_ ?_; repeat ((first | refine n1_ fun b_ => ?_ | refine n2_ fun b_ => ?_ | refine Nat1.mk fun q_ hq_ => ?_ | refine em_ fun x_ hx_ => ?_ | refine Elem1.mk fun e_ he_ => ?_); refine g0_ ?_))
        refine (hf).use ?_; (refine g0_ ?_; repeat ((first | refine n1_ fun b_ => ?_ | refine n2_ fun b_ => ?_ | refine Nat1.mk fun q_ hq_ => ?_ | refine em_ fun x_ hx_ => ?_ | refine Elem1.mk fun e_ he_ => ?_); refine g0_ ?_))
        (refine g1_ ?_; repeat ((first | refine n1_ fun b_ => ?_ | refine n2_ fun b_ => ?_ | refine Nat1.mk fun q_ hq_ => ?_ | refine em_ fun x_ hx_ => ?_ | refine Elem1.mk fun e_ he_ => ?_); refine g1_ ?_))
        rw [← hv1, ← hv2]
        exact ⟨bb, trivial, rfl, wkMem.skip wkMem.rfl'⟩
      · rw [hsp h0] at hv
        obtain ⟨hv1, hv2⟩ := hv
        dsimp only at hv1 hv2
        (refine g0_ ?_; repeat ((first | refine n1_ fun b_ => ?_ | refine n2_ fun b_ => ?_ | refine Nat1.mk fun q_ hq_ => ?_ | refine em_ fun x_ hx_ => ?_ | refine Elem1.mk fun e_ he_ => ?_); refine g0_ ?_))
        refine (hf).use ?_; (refine g0_ ?_; repeat ((first | refine n1_ fun b_ => ?_ | refine n2_ fun b_ => ?_ | refine Nat1.mk fun q_ hq_ => ?_ | refine em_ fun x_ hx_ => ?_ | refine Elem1.mk fun e_ he_ => ?_); refine g0_ ?_))
        (refine g1_ ?_; repeat ((first | refine n1_ fun b_ => ?_ | refine n2_ fun b_ => ?_ | refine Nat1.mk fun q_ hq_ => ?_ | refine em_ fun x_ hx_ => ?_ | refine Elem1.mk fun e_ he_ => ?_); refine g1_ ?_))
        refine .inl ?_
        (refine g0_ ?_; repeat ((first | refine n1_ fun b_ => ?_ | refine n2_ fun b_ => ?_ | refine Nat1.mk fun q_ hq_ => ?_ | refine em_ fun x_ hx_ => ?_ | refine Elem1.mk fun e_ he_ => ?_); refine g0_ ?_))
        try rw [show ∀ v : PV, (List.map encKey o).length + 1 + [v].length = (List.map encKey (o ++ [Key.mk kd kr kn kh])).length + 1 from fun v => by simp]
        try (rw [show ∀ v : PV, v = encKey (Key.mk kd kr kn kh) → (encKey o0 :: List.map encKey o) ++ [v] = List.map encKey (o0 :: o ++ [Key.mk kd kr kn kh]) from fun v hv => by simp [hv]]; rotate_left; rfl)
        refine nx_ ((c :: r).drop n, (o0 :: o) ++ [Key.mk kd kr kn kh], b_) ?_ ?_
        · exact ⟨by rw [List.length_append, List.length_drop]; simp only [List.length_cons, List.length_nil] at *; omega, by rw [List.append_assoc]; exact hv1, hv2⟩
        · ((try dsimp only); (try simp only [List.length_drop, List.length_take, List.length_append, List.length_cons, List.length_nil, List.length_map] at *); omega)
end Go.Eng.YtimpfhokacfobaaDoor
end
