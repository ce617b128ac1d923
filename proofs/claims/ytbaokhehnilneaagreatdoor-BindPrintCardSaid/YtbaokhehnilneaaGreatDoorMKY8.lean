/- Texts put together: Key14. -/
import Derived.Test.YtbaokhehnilneaaGreatDoorMKY7
import Derived.Test.YtbaokhehnilneaaGreatDoorMT1
/- Keys: the reference's IsKey (b_ x_ q_ e_). -/
section
namespace Go.Eng.YtbaokhehnilneaaGreatDoor
open Go Go.Eng Go.Proofs Go.Maps
variable (W : World)
set_option linter.unusedSimpArgs false
set_option maxRecDepth 100000
set_option linter.unusedVariables false
set_option maxHeartbeats 8000000
/-- The keys that are told by a sequence. -/
def inSeq (k : Key) : Prop := k.r = 0 ∧ ((6 ≤ k.kind ∧ k.kind ≤ 14 ∧ k.n = 0) ∨ (k.kind = 15 ∧ 1 ≤ k.n ∧ k.n ≤ 12))
theorem seq_some (kind r n : Int) : seqOf ⟨kind, r, n, 0⟩ ≠ [] ↔ inSeq ⟨kind, r, n, 0⟩ := by
  unfold inSeq
  dsimp only
  constructor
  · intro h
    unfold seqOf at h
    cases hf : bareL.find? fun p => p.1 == (⟨kind, r, n, 0⟩ : Key) with
    | none => rw [hf] at h; exact absurd rfl h
    | some p =>
      have h1 := List.mem_of_find?_eq_some hf
      have h2 := List.find?_some hf
      simp only [beq_iff_eq] at h2
      have key : (bareL.all fun p => decide (p.1.r = 0 ∧ ((6 ≤ p.1.kind ∧ p.1.kind ≤ 14 ∧ p.1.n = 0) ∨ (p.1.kind = 15 ∧ 1 ≤ p.1.n ∧ p.1.n ≤ 12)))) = true := by decide +kernel
      have h3 := of_decide_eq_true (List.all_eq_true.1 key p h1)
      rw [h2] at h3
      exact h3
  · rintro ⟨rfl, ⟨h1, h2, rfl⟩ | ⟨rfl, h1, h2⟩⟩
    · have key : ∀ m : Nat, m < 15 → 6 ≤ m → seqOf ⟨m, 0, 0, 0⟩ ≠ [] := by decide +kernel
      obtain ⟨m, rfl⟩ : ∃ m : Nat, kind = m := ⟨kind.toNat, by omega⟩
      exact key m (by omega) (by omega)
    · have key : ∀ m : Nat, m < 13 → 1 ≤ m → seqOf ⟨15, 0, m, 0⟩ ≠ [] := by decide +kernel
      obtain ⟨m, rfl⟩ : ∃ m : Nat, n = m := ⟨n.toNat, by omega⟩
      exact key m (by omega) (by omega)
theorem isKeyR_seq (hN : Nums W) (k : Key) (hok : k.ok) (hh : 0 ≤ k.held ∧ k.held ≤ 7) (hs : inSeq ⟨k.kind, k.r, k.n, 0⟩) : Pure Tryz.prog W 11 [encKey k] (.bool true) := by
  have hq := (seq_some k.kind k.r k.n).2 hs
  have hb : (Key.mk k.kind k.r k.n 0).ok := ⟨hok.1, hok.2.1, hok.2.2.1, (by unfold i64ok; decide : i64ok 0)⟩
  obtain ⟨kind, r, n, held⟩ := k
  unfold inSeq at hs
  dsimp only at *
  have hlk : ∀ {b : Nat} {σ r_ : Mem}, Look σ b (.mpc (bareEs 21)) r_ → LookLaw Tryz.prog 54 (.mp b) (.agg [.int .i64 kind, .int .i32 r, .int .i64 n, .int .i64 0]) false σ (.str (seqOf ⟨kind, r, n, 0⟩)) := fun hl => look_bare hl _ hb
  generalize seqOf ⟨kind, r, n, 0⟩ = S at *
  unfold encKey
  dsimp only
  refine Pure.of (acalls_of_vc (DL_ok (by decide)) Tryz.func11 rfl (by decide) (by decide) rfl ?_)
  (refine g0_ ?_; repeat ((first | refine n1_ fun b_ => ?_ | refine n2_ fun b_ => ?_ | refine Nat1.mk fun q_ hq_ => ?_ | refine em_ fun x_ hx_ => ?_ | refine Elem1.mk fun e_ he_ => ?_); refine g0_ ?_))
  (refine g1_ ?_; repeat ((first | refine n1_ fun b_ => ?_ | refine n2_ fun b_ => ?_ | refine Nat1.mk fun q_ hq_ => ?_ | refine em_ fun x_ hx_ => ?_ | refine Elem1.mk fun e_ he_ => ?_); refine g1_ ?_))
  refine Draws10.chain ⟨2, [.turn, .new], [(0, [.keep, .again])], by decide +kernel, ?_⟩; (refine g0_ ?_; repeat ((first | refine n1_ fun b_ => ?_ | refine n2_ fun b_ => ?_ | refine Nat1.mk fun q_ hq_ => ?_ | refine em_ fun x_ hx_ => ?_ | refine Elem1.mk fun e_ he_ => ?_); refine g0_ ?_))
  refine ACalls.giveE (sequences_ok W hN) ?_
  rintro bm -
  (refine g0_ ?_; repeat ((first | refine n1_ fun b_ => ?_ | refine n2_ fun b_ => ?_ | refine Nat1.mk fun q_ hq_ => ?_ | refine em_ fun x_ hx_ => ?_ | refine Elem1.mk fun e_ he_ => ?_); refine g0_ ?_))
  refine ⟨_, hlk (by repeat (first | exact .here _ _ _ | apply Look.there)), ?_⟩
  (refine g1_ ?_; repeat ((first | refine n1_ fun b_ => ?_ | refine n2_ fun b_ => ?_ | refine Nat1.mk fun q_ hq_ => ?_ | refine em_ fun x_ hx_ => ?_ | refine Elem1.mk fun e_ he_ => ?_); refine g1_ ?_))
  exact .refl _
theorem containsR_ok (s : List UInt8) (r : Int) (h0 : 0 ≤ r) (h1 : r < 128) : Pure Tryz.prog W 25 [.str s, .int .i32 r] (.bool (decide (0 ≤ Lib.indexByte s r.toNat.toUInt8))) :=
  Pure.of_below Tryz.func25 rfl (by decide) rfl rfl fun w _ _ => (Tryz.strings_ContainsRune_ascii ⟨s.toArray⟩ r w h0 h1).mono fun _ _ h => ⟨h.1, h.2 ▸ RowKit.Below.refl _ _⟩
theorem him_ok (r : Int) (h0 : 97 ≤ r) (h1 : r ≤ 122) : Pure Tryz.prog W 25 [.str [104, 105, 109], .int .i32 r] (.bool (decide (r = 105 ∨ r = 109 ∨ r = 104))) := by
  have h := containsR_ok W [104, 105, 109] r (by omega) (by omega)
  obtain ⟨m, rfl⟩ : ∃ m : Nat, r = m := ⟨r.toNat, by omega⟩
  have key : ∀ m : Nat, m < 123 → 97 ≤ m → decide (0 ≤ Lib.indexByte [104, 105, 109] m.toUInt8) = decide (m = 105 ∨ m = 109 ∨ m = 104) := by decide +kernel
  rw [Int.toNat_natCast, key m (by omega) (by omega)] at h
  rw [show decide ((m : Int) = 105 ∨ (m : Int) = 109 ∨ (m : Int) = 104) = decide (m = 105 ∨ m = 109 ∨ m = 104) from decide_eq_decide.2 (by omega)]
  exact h
theorem isKeyR_rune (hN : Nums W) (r held : Int) (hh : 0 ≤ held ∧ held ≤ 7)
    (hlk : ∀ {b : Nat} {σ r_ : Mem}, Look σ b (.mpc (bareEs 21)) r_ → LookLaw Tryz.prog 54 (.mp b) (.agg [.int .i64 1, .int .i32 r, .int .i64 0, .int .i64 0]) false σ (.str []))
    (b : Bool) (hb : b = decide (isKey ⟨1, r, 0, held⟩)) : Pure Tryz.prog W 11 [.agg [.int .i64 1, .int .i32 r, .int .i64 0, .int .i64 held]] (.bool b) := by
  have hw := widthOf_ok W r
  rw [← width_eq] at hw
  have hv := validRune_ok W r
  have hw0 : widthL 0 = 0 := by decide +kernel
  have hb1 : b = decide (kindK ⟨1, r, 0, held⟩) := by
    rw [hb]
    refine decide_eq_decide.2 ⟨fun h => h.2, fun h => ⟨⟨hh, ⟨fun _ => ?_, fun _ => rfl⟩, ⟨fun e => absurd (show (1 : Int) = 15 from e) (by decide), fun e => absurd rfl e⟩⟩, h⟩⟩
    unfold kindK at h
    dsimp only at h
    rw [if_pos rfl] at h
    rintro e
    dsimp only at e
    subst e
    split at h
    · exact absurd h.2.1 (by decide)
    · have := h.2.1
      omega
  clear hb hw0
  unfold kindK at hb1
  dsimp only at hb1
  generalize hwl : widthL r = wl at *
  generalize hvl : Lib.validRune r = vl at *
  by_cases h4 : 4 ≤ held
  · have hb2 : b = decide ((held = 4 ∨ held = 6) ∧ ctrlR r) := by rw [hb1]; exact decide_eq_decide.2 (by rw [if_pos rfl, if_pos h4])
    clear hb1
    by_cases ho : held = 4 ∨ held = 6
    · by_cases hc : 97 ≤ r ∧ r ≤ 122
      · have hhm := him_ok W r hc.1 hc.2
        by_cases hd : r = 105 ∨ r = 109 ∨ r = 104
        · rw [decide_eq_true hd] at hhm
          obtain rfl : b = false := by rw [hb2]; exact decide_eq_false fun h => by have := h.2; unfold ctrlR at this; omega
          clear hb2 hd
          obtain ⟨hc1, hc2⟩ := hc
          rcases ho with rfl | rfl
          · refine Pure.of (acalls_of_vc (DL_ok (by decide)) Tryz.func11 rfl (by decide) (by decide) rfl ?_)
            (refine g0_ ?_; repeat ((first | refine n1_ fun b_ => ?_ | refine n2_ fun b_ => ?_ | refine Nat1.mk fun q_ hq_ => ?_ | refine em_ fun x_ hx_ => ?_ | refine Elem1.mk fun e_ he_ => ?_); refine g0_ ?_))
            (refine g1_ ?_; repeat ((first | refine n1_ fun b_ => ?_ | refine n2_ fun b_ => ?_ | refine Nat1.mk fun q_ hq_ => ?_ | refine em_ fun x_ hx_ => ?_ | refine Elem1.mk fun e_ he_ => ?_); refine g1_ ?_))
            refine Draws10.chain ⟨2, [.turn, .new], [(0, [.keep, .again])], by decide +kernel, ?_⟩; (refine g0_ ?_; repeat ((first | refine n1_ fun b_ => ?_ | refine n2_ fun b_ => ?_ | refine Nat1.mk fun q_ hq_ => ?_ | refine em_ fun x_ hx_ => ?_ | refine Elem1.mk fun e_ he_ => ?_); refine g0_ ?_))
            refine ACalls.giveE (sequences_ok W hN) ?_
            rintro bm -
            (refine g0_ ?_; repeat ((first | refine n1_ fun b_ => ?_ | refine n2_ fun b_ => ?_ | refine Nat1.mk fun q_ hq_ => ?_ | refine em_ fun x_ hx_ => ?_ | refine Elem1.mk fun e_ he_ => ?_); refine g0_ ?_))
            refine ⟨_, hlk (by repeat (first | exact .here _ _ _ | apply Look.there)), ?_⟩
            (refine g1_ ?_; repeat ((first | refine n1_ fun b_ => ?_ | refine n2_ fun b_ => ?_ | refine Nat1.mk fun q_ hq_ => ?_ | refine em_ fun x_ hx_ => ?_ | refine Elem1.mk fun e_ he_ => ?_); refine g1_ ?_))
            refine (hhm).use ?_; (refine g0_ ?_; repeat ((first | refine n1_ fun b_ => ?_ | refine n2_ fun b_ => ?_ | refine Nat1.mk fun q_ hq_ => ?_ | refine em_ fun x_ hx_ => ?_ | refine Elem1.mk fun e_ he_ => ?_); refine g0_ ?_))
            (refine g1_ ?_; repeat ((first | refine n1_ fun b_ => ?_ | refine n2_ fun b_ => ?_ | refine Nat1.mk fun q_ hq_ => ?_ | refine em_ fun x_ hx_ => ?_ | refine Elem1.mk fun e_ he_ => ?_); refine g1_ ?_))
            first | exact .refl _ | exact frz_bool (by simp <;> omega)
          · refine Pure.of (acalls_of_vc (DL_ok (by decide)) Tryz.func11 rfl (by decide) (by decide) rfl ?_)
            (refine g0_ ?_; repeat ((first | refine n1_ fun b_ => ?_ | refine n2_ fun b_ => ?_ | refine Nat1.mk fun q_ hq_ => ?_ | refine em_ fun x_ hx_ => ?_ | refine Elem1.mk fun e_ he_ => ?_); refine g0_ ?_))
            (refine g1_ ?_; repeat ((first | refine n1_ fun b_ => ?_ | refine n2_ fun b_ => ?_ | refine Nat1.mk fun q_ hq_ => ?_ | refine em_ fun x_ hx_ => ?_ | refine Elem1.mk fun e_ he_ => ?_); refine g1_ ?_))
            refine Draws10.chain ⟨2, [.turn, .new], [(0, [.keep, .again])], by decide +kernel, ?_⟩; (refine g0_ ?_; repeat ((first | refine n1_ fun b_ => ?_ | refine n2_ fun b_ => ?_ | refine Nat1.mk fun q_ hq_ => ?_ | refine em_ fun x_ hx_ => ?_ | refine Elem1.mk fun e_ he_ => ?_); refine g0_ ?_))
            refine ACalls.giveE (sequences_ok W hN) ?_
            rintro bm -
            (refine g0_ ?_; repeat ((first | refine n1_ fun b_ => ?_ | refine n2_ fun b_ => ?_ | refine Nat1.mk fun q_ hq_ => ?_ | refine em_ fun x_ hx_ => ?_ | refine Elem1.mk fun e_ he_ => ?_); refine g0_ ?_))
            refine ⟨_, hlk (by repeat (first | exact .here _ _ _ | apply Look.there)), ?_⟩
            (refine g1_ ?_; repeat ((first | refine n1_ fun b_ => ?_ | refine n2_ fun b_ => ?_ | refine Nat1.mk fun q_ hq_ => ?_ | refine em_ fun x_ hx_ => ?_ | refine Elem1.mk fun e_ he_ => ?_); refine g1_ ?_))
            refine (hhm).use ?_; (refine g0_ ?_; repeat ((first | refine n1_ fun b_ => ?_ | refine n2_ fun b_ => ?_ | refine Nat1.mk fun q_ hq_ => ?_ | refine em_ fun x_ hx_ => ?_ | refine Elem1.mk fun e_ he_ => ?_); refine g0_ ?_))
            (refine g1_ ?_; repeat ((first | refine n1_ fun b_ => ?_ | refine n2_ fun b_ => ?_ | refine Nat1.mk fun q_ hq_ => ?_ | refine em_ fun x_ hx_ => ?_ | refine Elem1.mk fun e_ he_ => ?_); refine g1_ ?_))
            first | exact .refl _ | exact frz_bool (by simp <;> omega)
        · rw [decide_eq_false hd] at hhm
          obtain rfl : b = true := by rw [hb2]; exact decide_eq_true ⟨ho, by unfold ctrlR; omega⟩
          clear hb2 hd
          obtain ⟨hc1, hc2⟩ := hc
          rcases ho with rfl | rfl
          · refine Pure.of (acalls_of_vc (DL_ok (by decide)) Tryz.func11 rfl (by decide) (by decide) rfl ?_)
            (refine g0_ ?_; repeat ((first | refine n1_ fun b_ => ?_ | refine n2_ fun b_ => ?_ | refine Nat1.mk fun q_ hq_ => ?_ | refine em_ fun x_ hx_ => ?_ | refine Elem1.mk fun e_ he_ => ?_); refine g0_ ?_))
            (refine g1_ ?_; repeat ((first | refine n1_ fun b_ => ?_ | refine n2_ fun b_ => ?_ | refine Nat1.mk fun q_ hq_ => ?_ | refine em_ fun x_ hx_ => ?_ | refine Elem1.mk fun e_ he_ => ?_); refine g1_ ?_))
            refine Draws10.chain ⟨2, [.turn, .new], [(0, [.keep, .again])], by decide +kernel, ?_⟩; (refine g0_ ?_; repeat ((first | refine n1_ fun b_ => ?_ | refine n2_ fun b_ => ?_ | refine Nat1.mk fun q_ hq_ => ?_ | refine em_ fun x_ hx_ => ?_ | refine Elem1.mk fun e_ he_ => ?_); refine g0_ ?_))
            refine ACalls.giveE (sequences_ok W hN) ?_
            rintro bm -
            (refine g0_ ?_; repeat ((first | refine n1_ fun b_ => ?_ | refine n2_ fun b_ => ?_ | refine Nat1.mk fun q_ hq_ => ?_ | refine em_ fun x_ hx_ => ?_ | refine Elem1.mk fun e_ he_ => ?_); refine g0_ ?_))
            refine ⟨_, hlk (by repeat (first | exact .here _ _ _ | apply Look.there)), ?_⟩
            (refine g1_ ?_; repeat ((first | refine n1_ fun b_ => ?_ | refine n2_ fun b_ => ?_ | refine Nat1.mk fun q_ hq_ => ?_ | refine em_ fun x_ hx_ => ?_ | refine Elem1.mk fun e_ he_ => ?_); refine g1_ ?_))
            refine (hhm).use ?_; (refine g0_ ?_; repeat ((first | refine n1_ fun b_ => ?_ | refine n2_ fun b_ => ?_ | refine Nat1.mk fun q_ hq_ => ?_ | refine em_ fun x_ hx_ => ?_ | refine Elem1.mk fun e_ he_ => ?_); refine g0_ ?_))
            (refine g1_ ?_; repeat ((first | refine n1_ fun b_ => ?_ | refine n2_ fun b_ => ?_ | refine Nat1.mk fun q_ hq_ => ?_ | refine em_ fun x_ hx_ => ?_ | refine Elem1.mk fun e_ he_ => ?_); refine g1_ ?_))
            first | exact .refl _ | exact frz_bool (by simp <;> omega)
          · refine Pure.of (acalls_of_vc (DL_ok (by decide)) Tryz.func11 rfl (by decide) (by decide) rfl ?_)
            (refine g0_ ?_; repeat ((first | refine n1_ fun b_ => ?_ | refine n2_ fun b_ => ?_ | refine Nat1.mk fun q_ hq_ => ?_ | refine em_ fun x_ hx_ => ?_ | refine Elem1.mk fun e_ he_ => ?_); refine g0_ ?_))
            (refine g1_ ?_; repeat ((first | refine n1_ fun b_ => ?_ | refine n2_ fun b_ => ?_ | refine Nat1.mk fun q_ hq_ => ?_ | refine em_ fun x_ hx_ => ?_ | refine Elem1.mk fun e_ he_ => ?_); refine g1_ ?_))
            refine Draws10.chain ⟨2, [.turn, .new], [(0, [.keep, .again])], by decide +kernel, ?_⟩; (refine g0_ ?_; repeat ((first | refine n1_ fun b_ => ?_ | refine n2_ fun b_ => ?_ | refine Nat1.mk fun q_ hq_ => ?_ | refine em_ fun x_ hx_ => ?_ | refine Elem1.mk fun e_ he_ => ?_); refine g0_ ?_))
            refine ACalls.giveE (sequences_ok W hN) ?_
            rintro bm -
            (refine g0_ ?_; repeat ((first | refine n1_ fun b_ => ?_ | refine n2_ fun b_ => ?_ | refine Nat1.mk fun q_ hq_ => ?_ | refine em_ fun x_ hx_ => ?_ | refine Elem1.mk fun e_ he_ => ?_); refine g0_ ?_))
            refine ⟨_, hlk (by repeat (first | exact .here _ _ _ | apply Look.there)), ?_⟩
            (refine g1_ ?_; repeat ((first | refine n1_ fun b_ => ?_ | refine n2_ fun b_ => ?_ | refine Nat1.mk fun q_ hq_ => ?_ | refine em_ fun x_ hx_ => ?_ | refine Elem1.mk fun e_ he_ => ?_); refine g1_ ?_))
            refine (hhm).use ?_; (refine g0_ ?_; repeat ((first | refine n1_ fun b_ => ?_ | refine n2_ fun b_ => ?_ | refine Nat1.mk fun q_ hq_ => ?_ | refine em_ fun x_ hx_ => ?_ | refine Elem1.mk fun e_ he_ => ?_); refine g0_ ?_))
            (refine g1_ ?_; repeat ((first | refine n1_ fun b_ => ?_ | refine n2_ fun b_ => ?_ | refine Nat1.mk fun q_ hq_ => ?_ | refine em_ fun x_ hx_ => ?_ | refine Elem1.mk fun e_ he_ => ?_); refine g1_ ?_))
            first | exact .refl _ | exact frz_bool (by simp <;> omega)
      · obtain rfl : b = false := by rw [hb2]; exact decide_eq_false fun h => by have := h.2; unfold ctrlR at this; omega
        clear hb2
        rcases (by omega : r < 97 ∨ 122 < r) with hc | hc
        all_goals
          rcases ho with rfl | rfl
          · refine Pure.of (acalls_of_vc (DL_ok (by decide)) Tryz.func11 rfl (by decide) (by decide) rfl ?_)
            (refine g0_ ?_; repeat ((first | refine n1_ fun b_ => ?_ | refine n2_ fun b_ => ?_ | refine Nat1.mk fun q_ hq_ => ?_ | refine em_ fun x_ hx_ => ?_ | refine Elem1.mk fun e_ he_ => ?_); refine g0_ ?_))
            (refine g1_ ?_; repeat ((first | refine n1_ fun b_ => ?_ | refine n2_ fun b_ => ?_ | refine Nat1.mk fun q_ hq_ => ?_ | refine em_ fun x_ hx_ => ?_ | refine Elem1.mk fun e_ he_ => ?_); refine g1_ ?_))
            refine Draws10.chain ⟨2, [.turn, .new], [(0, [.keep, .again])], by decide +kernel, ?_⟩; (refine g0_ ?_; repeat ((first | refine n1_ fun b_ => ?_ | refine n2_ fun b_ => ?_ | refine Nat1.mk fun q_ hq_ => ?_ | refine em_ fun x_ hx_ => ?_ | refine Elem1.mk fun e_ he_ => ?_); refine g0_ ?_))
            refine ACalls.giveE (sequences_ok W hN) ?_
            rintro bm -
            (refine g0_ ?_; repeat ((first | refine n1_ fun b_ => ?_ | refine n2_ fun b_ => ?_ | refine Nat1.mk fun q_ hq_ => ?_ | refine em_ fun x_ hx_ => ?_ | refine Elem1.mk fun e_ he_ => ?_); refine g0_ ?_))
            refine ⟨_, hlk (by repeat (first | exact .here _ _ _ | apply Look.there)), ?_⟩
            (refine g1_ ?_; repeat ((first | refine n1_ fun b_ => ?_ | refine n2_ fun b_ => ?_ | refine Nat1.mk fun q_ hq_ => ?_ | refine em_ fun x_ hx_ => ?_ | refine Elem1.mk fun e_ he_ => ?_); refine g1_ ?_))
            first | exact .refl _ | exact frz_bool (by simp <;> omega)
          · refine Pure.of (acalls_of_vc (DL_ok (by decide)) Tryz.func11 rfl (by decide) (by decide) rfl ?_)
            (refine g0_ ?_; repeat ((first | refine n1_ fun b_ => ?_ | refine n2_ fun b_ => ?_ | refine Nat1.mk fun q_ hq_ => ?_ | refine em_ fun x_ hx_ => ?_ | refine Elem1.mk fun e_ he_ => ?_); refine g0_ ?_))
            (refine g1_ ?_; repeat ((first | refine n1_ fun b_ => ?_ | refine n2_ fun b_ => ?_ | refine Nat1.mk fun q_ hq_ => ?_ | refine em_ fun x_ hx_ => ?_ | refine Elem1.mk fun e_ he_ => ?_); refine g1_ ?_))
            refine Draws10.chain ⟨2, [.turn, .new], [(0, [.keep, .again])], by decide +kernel, ?_⟩; (refine g0_ ?_; repeat ((first | refine n1_ fun b_ => ?_ | refine n2_ fun b_ => ?_ | refine Nat1.mk fun q_ hq_ => ?_ | refine em_ fun x_ hx_ => ?_ | refine Elem1.mk fun e_ he_ => ?_); refine g0_ ?_))
            refine ACalls.giveE (sequences_ok W hN) ?_
            rintro bm -
            (refine g0_ ?_; repeat ((first | refine n1_ fun b_ => ?_ | refine n2_ fun b_ => ?_ | refine Nat1.mk fun q_ hq_ => ?_ | refine em_ fun x_ hx_ => ?_ | refine Elem1.mk fun e_ he_ => ?_); refine g0_ ?_))
            refine ⟨_, hlk (by repeat (first | exact .here _ _ _ | apply Look.there)), ?_⟩
            (refine g1_ ?_; repeat ((first | refine n1_ fun b_ => ?_ | refine n2_ fun b_ => ?_ | refine Nat1.mk fun q_ hq_ => ?_ | refine em_ fun x_ hx_ => ?_ | refine Elem1.mk fun e_ he_ => ?_); refine g1_ ?_))
            first | exact .refl _ | exact frz_bool (by simp <;> omega)
    · obtain rfl : b = false := by rw [hb2]; exact decide_eq_false fun h => ho h.1
      clear hb2
      rcases (by omega : held = 5 ∨ held = 7) with rfl | rfl
      · refine Pure.of (acalls_of_vc (DL_ok (by decide)) Tryz.func11 rfl (by decide) (by decide) rfl ?_)
        (refine g0_ ?_; repeat ((first | refine n1_ fun b_ => ?_ | refine n2_ fun b_ => ?_ | refine Nat1.mk fun q_ hq_ => ?_ | refine em_ fun x_ hx_ => ?_ | refine Elem1.mk fun e_ he_ => ?_); refine g0_ ?_))
        (refine g1_ ?_; repeat ((first | refine n1_ fun b_ => ?_ | refine n2_ fun b_ => ?_ | refine Nat1.mk fun q_ hq_ => ?_ | refine em_ fun x_ hx_ => ?_ | refine Elem1.mk fun e_ he_ => ?_); refine g1_ ?_))
        refine Draws10.chain ⟨2, [.turn, .new], [(0, [.keep, .again])], by decide +kernel, ?_⟩; (refine g0_ ?_; repeat ((first | refine n1_ fun b_ => ?_ | refine n2_ fun b_ => ?_ | refine Nat1.mk fun q_ hq_ => ?_ | refine em_ fun x_ hx_ => ?_ | refine Elem1.mk fun e_ he_ => ?_); refine g0_ ?_))
        refine ACalls.giveE (sequences_ok W hN) ?_
        rintro bm -
        (refine g0_ ?_; repeat ((first | refine n1_ fun b_ => ?_ | refine n2_ fun b_ => ?_ | refine Nat1.mk fun q_ hq_ => ?_ | refine em_ fun x_ hx_ => ?_ | refine Elem1.mk fun e_ he_ => ?_); refine g0_ ?_))
        refine ⟨_, hlk (by repeat (first | exact .here _ _ _ | apply Look.there)), ?_⟩
        (refine g1_ ?_; repeat ((first | refine n1_ fun b_ => ?_ | refine n2_ fun b_ => ?_ | refine Nat1.mk fun q_ hq_ => ?_ | refine em_ fun x_ hx_ => ?_ | refine Elem1.mk fun e_ he_ => ?_); refine g1_ ?_))
        first | exact .refl _ | exact frz_bool (by simp <;> omega)
      · refine Pure.of (acalls_of_vc (DL_ok (by decide)) Tryz.func11 rfl (by decide) (by decide) rfl ?_)
        (refine g0_ ?_; repeat ((first | refine n1_ fun b_ => ?_ | refine n2_ fun b_ => ?_ | refine Nat1.mk fun q_ hq_ => ?_ | refine em_ fun x_ hx_ => ?_ | refine Elem1.mk fun e_ he_ => ?_); refine g0_ ?_))
        (refine g1_ ?_; repeat ((first | refine n1_ fun b_ => ?_ | refine n2_ fun b_ => ?_ | refine Nat1.mk fun q_ hq_ => ?_ | refine em_ fun x_ hx_ => ?_ | refine Elem1.mk fun e_ he_ => ?_); refine g1_ ?_))
        refine Draws10.chain ⟨2, [.turn, .new], [(0, [.keep, .again])], by decide +kernel, ?_⟩; (refine g0_ ?_; repeat ((first | refine n1_ fun b_ => ?_ | refine n2_ fun b_ => ?_ | refine Nat1.mk fun q_ hq_ => ?_ | refine em_ fun x_ hx_ => ?_ | refine Elem1.mk fun e_ he_ => ?_); refine g0_ ?_))
        refine ACalls.giveE (sequences_ok W hN) ?_
        rintro bm -
        (refine g0_ ?_; repeat ((first | refine n1_ fun b_ => ?_ | refine n2_ fun b_ => ?_ | refine Nat1.mk fun q_ hq_ => ?_ | refine em_ fun x_ hx_ => ?_ | refine Elem1.mk fun e_ he_ => ?_); refine g0_ ?_))
        refine ⟨_, hlk (by repeat (first | exact .here _ _ _ | apply Look.there)), ?_⟩
        (refine g1_ ?_; repeat ((first | refine n1_ fun b_ => ?_ | refine n2_ fun b_ => ?_ | refine Nat1.mk fun q_ hq_ => ?_ | refine em_ fun x_ hx_ => ?_ | refine Elem1.mk fun e_ he_ => ?_); refine g1_ ?_))
        first | exact .refl _ | exact frz_bool (by simp <;> omega)
  · have hb2 : b = decide ((held = 0 ∨ held = 2) ∧ 0 < wl ∧ vl = true ∧ (held = 0 ∨ (r ≠ 91 ∧ r ≠ 79))) := by rw [hb1]; exact decide_eq_decide.2 (by rw [if_pos rfl, if_neg h4]; unfold runeR; rw [hwl, hvl])
    clear hb1
    by_cases ho : held = 0 ∨ held = 2
    · by_cases h0 : 0 < wl
      · cases vl with
        | false =>
          obtain rfl : b = false := by rw [hb2]; exact decide_eq_false fun h => absurd h.2.2.1 (by decide)
          clear hb2
          rcases ho with rfl | rfl
          · refine Pure.of (acalls_of_vc (DL_ok (by decide)) Tryz.func11 rfl (by decide) (by decide) rfl ?_)
            (refine g0_ ?_; repeat ((first | refine n1_ fun b_ => ?_ | refine n2_ fun b_ => ?_ | refine Nat1.mk fun q_ hq_ => ?_ | refine em_ fun x_ hx_ => ?_ | refine Elem1.mk fun e_ he_ => ?_); refine g0_ ?_))
            (refine g1_ ?_; repeat ((first | refine n1_ fun b_ => ?_ | refine n2_ fun b_ => ?_ | refine Nat1.mk fun q_ hq_ => ?_ | refine em_ fun x_ hx_ => ?_ | refine Elem1.mk fun e_ he_ => ?_); refine g1_ ?_))
            refine Draws10.chain ⟨2, [.turn, .new], [(0, [.keep, .again])], by decide +kernel, ?_⟩; (refine g0_ ?_; repeat ((first | refine n1_ fun b_ => ?_ | refine n2_ fun b_ => ?_ | refine Nat1.mk fun q_ hq_ => ?_ | refine em_ fun x_ hx_ => ?_ | refine Elem1.mk fun e_ he_ => ?_); refine g0_ ?_))
            refine ACalls.giveE (sequences_ok W hN) ?_
            rintro bm -
            (refine g0_ ?_; repeat ((first | refine n1_ fun b_ => ?_ | refine n2_ fun b_ => ?_ | refine Nat1.mk fun q_ hq_ => ?_ | refine em_ fun x_ hx_ => ?_ | refine Elem1.mk fun e_ he_ => ?_); refine g0_ ?_))
            refine ⟨_, hlk (by repeat (first | exact .here _ _ _ | apply Look.there)), ?_⟩
            (refine g1_ ?_; repeat ((first | refine n1_ fun b_ => ?_ | refine n2_ fun b_ => ?_ | refine Nat1.mk fun q_ hq_ => ?_ | refine em_ fun x_ hx_ => ?_ | refine Elem1.mk fun e_ he_ => ?_); refine g1_ ?_))
            refine (hw).use ?_; (refine g0_ ?_; repeat ((first | refine n1_ fun b_ => ?_ | refine n2_ fun b_ => ?_ | refine Nat1.mk fun q_ hq_ => ?_ | refine em_ fun x_ hx_ => ?_ | refine Elem1.mk fun e_ he_ => ?_); refine g0_ ?_))
            (refine g1_ ?_; repeat ((first | refine n1_ fun b_ => ?_ | refine n2_ fun b_ => ?_ | refine Nat1.mk fun q_ hq_ => ?_ | refine em_ fun x_ hx_ => ?_ | refine Elem1.mk fun e_ he_ => ?_); refine g1_ ?_))
            refine (hv).use ?_; (refine g0_ ?_; repeat ((first | refine n1_ fun b_ => ?_ | refine n2_ fun b_ => ?_ | refine Nat1.mk fun q_ hq_ => ?_ | refine em_ fun x_ hx_ => ?_ | refine Elem1.mk fun e_ he_ => ?_); refine g0_ ?_))
            (refine g1_ ?_; repeat ((first | refine n1_ fun b_ => ?_ | refine n2_ fun b_ => ?_ | refine Nat1.mk fun q_ hq_ => ?_ | refine em_ fun x_ hx_ => ?_ | refine Elem1.mk fun e_ he_ => ?_); refine g1_ ?_))
            first | exact .refl _ | exact frz_bool (by simp <;> omega)
          · refine Pure.of (acalls_of_vc (DL_ok (by decide)) Tryz.func11 rfl (by decide) (by decide) rfl ?_)
            (refine g0_ ?_; repeat ((first | refine n1_ fun b_ => ?_ | refine n2_ fun b_ => ?_ | refine Nat1.mk fun q_ hq_ => ?_ | refine em_ fun x_ hx_ => ?_ | refine Elem1.mk fun e_ he_ => ?_); refine g0_ ?_))
            (refine g1_ ?_; repeat ((first | refine n1_ fun b_ => ?_ | refine n2_ fun b_ => ?_ | refine Nat1.mk fun q_ hq_ => ?_ | refine em_ fun x_ hx_ => ?_ | refine Elem1.mk fun e_ he_ => ?_); refine g1_ ?_))
            refine Draws10.chain ⟨2, [.turn, .new], [(0, [.keep, .again])], by decide +kernel, ?_⟩; (refine g0_ ?_; repeat ((first | refine n1_ fun b_ => ?_ | refine n2_ fun b_ => ?_ | refine Nat1.mk fun q_ hq_ => ?_ | refine em_ fun x_ hx_ => ?_ | refine Elem1.mk fun e_ he_ => ?_); refine g0_ ?_))
            refine ACalls.giveE (sequences_ok W hN) ?_
            rintro bm -
            (refine g0_ ?_; repeat ((first | refine n1_ fun b_ => ?_ | refine n2_ fun b_ => ?_ | refine Nat1.mk fun q_ hq_ => ?_ | refine em_ fun x_ hx_ => ?_ | refine Elem1.mk fun e_ he_ => ?_); refine g0_ ?_))
            refine ⟨_, hlk (by repeat (first | exact .here _ _ _ | apply Look.there)), ?_⟩
            (refine g1_ ?_; repeat ((first | refine n1_ fun b_ => ?_ | refine n2_ fun b_ => ?_ | refine Nat1.mk fun q_ hq_ => ?_ | refine em_ fun x_ hx_ => ?_ | refine Elem1.mk fun e_ he_ => ?_); refine g1_ ?_))
            refine (hw).use ?_; (refine g0_ ?_; repeat ((first | refine n1_ fun b_ => ?_ | refine n2_ fun b_ => ?_ | refine Nat1.mk fun q_ hq_ => ?_ | refine em_ fun x_ hx_ => ?_ | refine Elem1.mk fun e_ he_ => ?_); refine g0_ ?_))
            (refine g1_ ?_; repeat ((first | refine n1_ fun b_ => ?_ | refine n2_ fun b_ => ?_ | refine Nat1.mk fun q_ hq_ => ?_ | refine em_ fun x_ hx_ => ?_ | refine Elem1.mk fun e_ he_ => ?_); refine g1_ ?_))
            refine (hv).use ?_; (refine g0_ ?_; repeat ((first | refine n1_ fun b_ => ?_ | refine n2_ fun b_ => ?_ | refine Nat1.mk fun q_ hq_ => ?_ | refine em_ fun x_ hx_ => ?_ | refine Elem1.mk fun e_ he_ => ?_); refine g0_ ?_))
            (refine g1_ ?_; repeat ((first | refine n1_ fun b_ => ?_ | refine n2_ fun b_ => ?_ | refine Nat1.mk fun q_ hq_ => ?_ | refine em_ fun x_ hx_ => ?_ | refine Elem1.mk fun e_ he_ => ?_); refine g1_ ?_))
            first | exact .refl _ | exact frz_bool (by simp <;> omega)
        | true =>
          rcases ho with rfl | rfl
          · obtain rfl : b = true := by rw [hb2]; exact decide_eq_true ⟨.inl rfl, h0, rfl, .inl rfl⟩
            clear hb2
            refine Pure.of (acalls_of_vc (DL_ok (by decide)) Tryz.func11 rfl (by decide) (by decide) rfl ?_)
            (refine g0_ ?_; repeat ((first | refine n1_ fun b_ => ?_ | refine n2_ fun b_ => ?_ | refine Nat1.mk fun q_ hq_ => ?_ | refine em_ fun x_ hx_ => ?_ | refine Elem1.mk fun e_ he_ => ?_); refine g0_ ?_))
            (refine g1_ ?_; repeat ((first | refine n1_ fun b_ => ?_ | refine n2_ fun b_ => ?_ | refine Nat1.mk fun q_ hq_ => ?_ | refine em_ fun x_ hx_ => ?_ | refine Elem1.mk fun e_ he_ => ?_); refine g1_ ?_))
            refine Draws10.chain ⟨2, [.turn, .new], [(0, [.keep, .again])], by decide +kernel, ?_⟩; (refine g0_ ?_; repeat ((first | refine n1_ fun b_ => ?_ | refine n2_ fun b_ => ?_ | refine Nat1.mk fun q_ hq_ => ?_ | refine em_ fun x_ hx_ => ?_ | refine Elem1.mk fun e_ he_ => ?_); refine g0_ ?_))
            refine ACalls.giveE (sequences_ok W hN) ?_
            rintro bm -
            (refine g0_ ?_; repeat ((first | refine n1_ fun b_ => ?_ | refine n2_ fun b_ => ?_ | refine Nat1.mk fun q_ hq_ => ?_ | refine em_ fun x_ hx_ => ?_ | refine Elem1.mk fun e_ he_ => ?_); refine g0_ ?_))
            refine ⟨_, hlk (by repeat (first | exact .here _ _ _ | apply Look.there)), ?_⟩
            (refine g1_ ?_; repeat ((first | refine n1_ fun b_ => ?_ | refine n2_ fun b_ => ?_ | refine Nat1.mk fun q_ hq_ => ?_ | refine em_ fun x_ hx_ => ?_ | refine Elem1.mk fun e_ he_ => ?_); refine g1_ ?_))
            refine (hw).use ?_; (refine g0_ ?_; repeat ((first | refine n1_ fun b_ => ?_ | refine n2_ fun b_ => ?_ | refine Nat1.mk fun q_ hq_ => ?_ | refine em_ fun x_ hx_ => ?_ | refine Elem1.mk fun e_ he_ => ?_); refine g0_ ?_))
            (refine g1_ ?_; repeat ((first | refine n1_ fun b_ => ?_ | refine n2_ fun b_ => ?_ | refine Nat1.mk fun q_ hq_ => ?_ | refine em_ fun x_ hx_ => ?_ | refine Elem1.mk fun e_ he_ => ?_); refine g1_ ?_))
            refine (hv).use ?_; (refine g0_ ?_; repeat ((first | refine n1_ fun b_ => ?_ | refine n2_ fun b_ => ?_ | refine Nat1.mk fun q_ hq_ => ?_ | refine em_ fun x_ hx_ => ?_ | refine Elem1.mk fun e_ he_ => ?_); refine g0_ ?_))
            (refine g1_ ?_; repeat ((first | refine n1_ fun b_ => ?_ | refine n2_ fun b_ => ?_ | refine Nat1.mk fun q_ hq_ => ?_ | refine em_ fun x_ hx_ => ?_ | refine Elem1.mk fun e_ he_ => ?_); refine g1_ ?_))
            first | exact .refl _ | exact frz_bool (by simp <;> omega)
          · by_cases hc : r ≠ 91 ∧ r ≠ 79
            · obtain rfl : b = true := by rw [hb2]; exact decide_eq_true ⟨.inr rfl, h0, rfl, .inr hc⟩
              clear hb2
              refine Pure.of (acalls_of_vc (DL_ok (by decide)) Tryz.func11 rfl (by decide) (by decide) rfl ?_)
              (refine g0_ ?_; repeat ((first | refine n1_ fun b_ => ?_ | refine n2_ fun b_ => ?_ | refine Nat1.mk fun q_ hq_ => ?_ | refine em_ fun x_ hx_ => ?_ | refine Elem1.mk fun e_ he_ => ?_); refine g0_ ?_))
              (refine g1_ ?_; repeat ((first | refine n1_ fun b_ => ?_ | refine n2_ fun b_ => ?_ | refine Nat1.mk fun q_ hq_ => ?_ | refine em_ fun x_ hx_ => ?_ | refine Elem1.mk fun e_ he_ => ?_); refine g1_ ?_))
              refine Draws10.chain ⟨2, [.turn, .new], [(0, [.keep, .again])], by decide +kernel, ?_⟩; (refine g0_ ?_; repeat ((first | refine n1_ fun b_ => ?_ | refine n2_ fun b_ => ?_ | refine Nat1.mk fun q_ hq_ => ?_ | refine em_ fun x_ hx_ => ?_ | refine Elem1.mk fun e_ he_ => ?_); refine g0_ ?_))
              refine ACalls.giveE (sequences_ok W hN) ?_
              rintro bm -
              (refine g0_ ?_; repeat ((first | refine n1_ fun b_ => ?_ | refine n2_ fun b_ => ?_ | refine Nat1.mk fun q_ hq_ => ?_ | refine em_ fun x_ hx_ => ?_ | refine Elem1.mk fun e_ he_ => ?_); refine g0_ ?_))
              refine ⟨_, hlk (by repeat (first | exact .here _ _ _ | apply Look.there)), ?_⟩
              (refine g1_ ?_; repeat ((first | refine n1_ fun b_ => ?_ | refine n2_ fun b_ => ?_ | refine Nat1.mk fun q_ hq_ => ?_ | refine em_ fun x_ hx_ => ?_ | refine Elem1.mk fun e_ he_ => ?_); refine g1_ ?_))
              refine (hw).use ?_; (refine g0_ ?_; repeat ((first | refine n1_ fun b_ => ?_ | refine n2_ fun b_ => ?_ | refine Nat1.mk fun q_ hq_ => ?_ | refine em_ fun x_ hx_ => ?_ | refine Elem1.mk fun e_ he_ => ?_); refine g0_ ?_))
              (refine g1_ ?_; repeat ((first | refine n1_ fun b_ => ?_ | refine n2_ fun b_ => ?_ | refine Nat1.mk fun q_ hq_ => ?_ | refine em_ fun x_ hx_ => ?_ | refine Elem1.mk fun e_ he_ => ?_); refine g1_ ?_))
              refine (hv).use ?_; (refine g0_ ?_; repeat ((first | refine n1_ fun b_ => ?_ | refine n2_ fun b_ => ?_ | refine Nat1.mk fun q_ hq_ => ?_ | refine em_ fun x_ hx_ => ?_ | refine Elem1.mk fun e_ he_ => ?_); refine g0_ ?_))
              (refine g1_ ?_; repeat ((first | refine n1_ fun b_ => ?_ | refine n2_ fun b_ => ?_ | refine Nat1.mk fun q_ hq_ => ?_ | refine em_ fun x_ hx_ => ?_ | refine Elem1.mk fun e_ he_ => ?_); refine g1_ ?_))
              first | exact .refl _ | exact frz_bool (by simp <;> omega)
            · obtain rfl : b = false := by rw [hb2]; exact decide_eq_false fun h => by rcases h.2.2.2 with h | h; exact absurd h (by decide); exact hc h
              clear hb2
              rcases (by omega : r = 91 ∨ r = 79) with rfl | rfl
              · refine Pure.of (acalls_of_vc (DL_ok (by decide)) Tryz.func11 rfl (by decide) (by decide) rfl ?_)
                (refine g0_ ?_; repeat ((first | refine n1_ fun b_ => ?_ | refine n2_ fun b_ => ?_ | refine Nat1.mk fun q_ hq_ => ?_ | refine em_ fun x_ hx_ => ?_ | refine Elem1.mk fun e_ he_ => ?_); refine g0_ ?_))
                (refine g1_ ?_; repeat ((first | refine n1_ fun b_ => ?_ | refine n2_ fun b_ => ?_ | refine Nat1.mk fun q_ hq_ => ?_ | refine em_ fun x_ hx_ => ?_ | refine Elem1.mk fun e_ he_ => ?_); refine g1_ ?_))
                refine Draws10.chain ⟨2, [.turn, .new], [(0, [.keep, .again])], by decide +kernel, ?_⟩; (refine g0_ ?_; repeat ((first | refine n1_ fun b_ => ?_ | refine n2_ fun b_ => ?_ | refine Nat1.mk fun q_ hq_ => ?_ | refine em_ fun x_ hx_ => ?_ | refine Elem1.mk fun e_ he_ => ?_); refine g0_ ?_))
                refine ACalls.giveE (sequences_ok W hN) ?_
                rintro bm -
                (refine g0_ ?_; repeat ((first | refine n1_ fun b_ => ?_ | refine n2_ fun b_ => ?_ | refine Nat1.mk fun q_ hq_ => ?_ | refine em_ fun x_ hx_ => ?_ | refine Elem1.mk fun e_ he_ => ?_); refine g0_ ?_))
                refine ⟨_, hlk (by repeat (first | exact .here _ _ _ | apply Look.there)), ?_⟩
                (refine g1_ ?_; repeat ((first | refine n1_ fun b_ => ?_ | refine n2_ fun b_ => ?_ | refine Nat1.mk fun q_ hq_ => ?_ | refine em_ fun x_ hx_ => ?_ | refine Elem1.mk fun e_ he_ => ?_); refine g1_ ?_))
                refine (hw).use ?_; (refine g0_ ?_; repeat ((first | refine n1_ fun b_ => ?_ | refine n2_ fun b_ => ?_ | refine Nat1.mk fun q_ hq_ => ?_ | refine em_ fun x_ hx_ => ?_ | refine Elem1.mk fun e_ he_ => ?_); refine g0_ ?_))
                (refine g1_ ?_; repeat ((first | refine n1_ fun b_ => ?_ | refine n2_ fun b_ => ?_ | refine Nat1.mk fun q_ hq_ => ?_ | refine em_ fun x_ hx_ => ?_ | refine Elem1.mk fun e_ he_ => ?_); refine g1_ ?_))
                refine (hv).use ?_; (refine g0_ ?_; repeat ((first | refine n1_ fun b_ => ?_ | refine n2_ fun b_ => ?_ | refine Nat1.mk fun q_ hq_ => ?_ | refine em_ fun x_ hx_ => ?_ | refine Elem1.mk fun e_ he_ => ?_); refine g0_ ?_))
                (refine g1_ ?_; repeat ((first | refine n1_ fun b_ => ?_ | refine n2_ fun b_ => ?_ | refine Nat1.mk fun q_ hq_ => ?_ | refine em_ fun x_ hx_ => ?_ | refine Elem1.mk fun e_ he_ => ?_); refine g1_ ?_))
                first | exact .refl _ | exact frz_bool (by simp <;> omega)
              · refine Pure.of (acalls_of_vc (DL_ok (by decide)) Tryz.func11 rfl (by decide) (by decide) rfl ?_)
                (refine g0_ ?_; repeat ((first | refine n1_ fun b_ => ?_ | refine n2_ fun b_ => ?_ | refine Nat1.mk fun q_ hq_ => ?_ | refine em_ fun x_ hx_ => ?_ | refine Elem1.mk fun e_ he_ => ?_); refine g0_ ?_))
                (refine g1_ ?_; repeat ((first | refine n1_ fun b_ => ?_ | refine n2_ fun b_ => ?_ | refine Nat1.mk fun q_ hq_ => ?_ | refine em_ fun x_ hx_ => ?_ | refine Elem1.mk fun e_ he_ => ?_); refine g1_ ?_))
                refine Draws10.chain ⟨2, [.turn, .new], [(0, [.keep, .again])], by decide +kernel, ?_⟩; (refine g0_ ?_; repeat ((first | refine n1_ fun b_ => ?_ | refine n2_ fun b_ => ?_ | refine Nat1.mk fun q_ hq_ => ?_ | refine em_ fun x_ hx_ => ?_ | refine Elem1.mk fun e_ he_ => ?_); refine g0_ ?_))
                refine ACalls.giveE (sequences_ok W hN) ?_
                rintro bm -
                (refine g0_ ?_; repeat ((first | refine n1_ fun b_ => ?_ | refine n2_ fun b_ => ?_ | refine Nat1.mk fun q_ hq_ => ?_ | refine em_ fun x_ hx_ => ?_ | refine Elem1.mk fun e_ he_ => ?_); refine g0_ ?_))
                refine ⟨_, hlk (by repeat (first | exact .here _ _ _ | apply Look.there)), ?_⟩
                (refine g1_ ?_; repeat ((first | refine n1_ fun b_ => ?_ | refine n2_ fun b_ => ?_ | refine Nat1.mk fun q_ hq_ => ?_ | refine em_ fun x_ hx_ => ?_ | refine Elem1.mk fun e_ he_ => ?_); refine g1_ ?_))
                refine (hw).use ?_; (refine g0_ ?_; repeat ((first | refine n1_ fun b_ => ?_ | refine n2_ fun b_ => ?_ | refine Nat1.mk fun q_ hq_ => ?_ | refine em_ fun x_ hx_ => ?_ | refine Elem1.mk fun e_ he_ => ?_); refine g0_ ?_))
                (refine g1_ ?_; repeat ((first | refine n1_ fun b_ => ?_ | refine n2_ fun b_ => ?_ | refine Nat1.mk fun q_ hq_ => ?_ | refine em_ fun x_ hx_ => ?_ | refine Elem1.mk fun e_ he_ => ?_); refine g1_ ?_))
                refine (hv).use ?_; (refine g0_ ?_; repeat ((first | refine n1_ fun b_ => ?_ | refine n2_ fun b_ => ?_ | refine Nat1.mk fun q_ hq_ => ?_ | refine em_ fun x_ hx_ => ?_ | refine Elem1.mk fun e_ he_ => ?_); refine g0_ ?_))
                (refine g1_ ?_; repeat ((first | refine n1_ fun b_ => ?_ | refine n2_ fun b_ => ?_ | refine Nat1.mk fun q_ hq_ => ?_ | refine em_ fun x_ hx_ => ?_ | refine Elem1.mk fun e_ he_ => ?_); refine g1_ ?_))
                first | exact .refl _ | exact frz_bool (by simp <;> omega)
      · obtain rfl : b = false := by rw [hb2]; exact decide_eq_false fun h => h0 h.2.1
        clear hb2
        rcases ho with rfl | rfl
        · refine Pure.of (acalls_of_vc (DL_ok (by decide)) Tryz.func11 rfl (by decide) (by decide) rfl ?_)
          (refine g0_ ?_; repeat ((first | refine n1_ fun b_ => ?_ | refine n2_ fun b_ => ?_ | refine Nat1.mk fun q_ hq_ => ?_ | refine em_ fun x_ hx_ => ?_ | refine Elem1.mk fun e_ he_ => ?_); refine g0_ ?_))
          (refine g1_ ?_; repeat ((first | refine n1_ fun b_ => ?_ | refine n2_ fun b_ => ?_ | refine Nat1.mk fun q_ hq_ => ?_ | refine em_ fun x_ hx_ => ?_ | refine Elem1.mk fun e_ he_ => ?_); refine g1_ ?_))
          refine Draws10.chain ⟨2, [.turn, .new], [(0, [.keep, .again])], by decide +kernel, ?_⟩; (refine g0_ ?_; repeat ((first | refine n1_ fun b_ => ?_ | refine n2_ fun b_ => ?_ | refine Nat1.mk fun q_ hq_ => ?_ | refine em_ fun x_ hx_ => ?_ | refine Elem1.mk fun e_ he_ => ?_); refine g0_ ?_))
          refine ACalls.giveE (sequences_ok W hN) ?_
          rintro bm -
          (refine g0_ ?_; repeat ((first | refine n1_ fun b_ => ?_ | refine n2_ fun b_ => ?_ | refine Nat1.mk fun q_ hq_ => ?_ | refine em_ fun x_ hx_ => ?_ | refine Elem1.mk fun e_ he_ => ?_); refine g0_ ?_))
          refine ⟨_, hlk (by repeat (first | exact .here _ _ _ | apply Look.there)), ?_⟩
          (refine g1_ ?_; repeat ((first | refine n1_ fun b_ => ?_ | refine n2_ fun b_ => ?_ | refine Nat1.mk fun q_ hq_ => ?_ | refine em_ fun x_ hx_ => ?_ | refine Elem1.mk fun e_ he_ => ?_); refine g1_ ?_))
          refine (hw).use ?_; (refine g0_ ?_; repeat ((first | refine n1_ fun b_ => ?_ | refine n2_ fun b_ => ?_ | refine Nat1.mk fun q_ hq_ => ?_ | refine em_ fun x_ hx_ => ?_ | refine Elem1.mk fun e_ he_ => ?_); refine g0_ ?_))
          (refine g1_ ?_; repeat ((first | refine n1_ fun b_ => ?_ | refine n2_ fun b_ => ?_ | refine Nat1.mk fun q_ hq_ => ?_ | refine em_ fun x_ hx_ => ?_ | refine Elem1.mk fun e_ he_ => ?_); refine g1_ ?_))
          first | exact .refl _ | exact frz_bool (by simp <;> omega)
        · refine Pure.of (acalls_of_vc (DL_ok (by decide)) Tryz.func11 rfl (by decide) (by decide) rfl ?_)
          (refine g0_ ?_; repeat ((first | refine n1_ fun b_ => ?_ | refine n2_ fun b_ => ?_ | refine Nat1.mk fun q_ hq_ => ?_ | refine em_ fun x_ hx_ => ?_ | refine Elem1.mk fun e_ he_ => ?_); refine g0_ ?_))
          (refine g1_ ?_; repeat ((first | refine n1_ fun b_ => ?_ | refine n2_ fun b_ => ?_ | refine Nat1.mk fun q_ hq_ => ?_ | refine em_ fun x_ hx_ => ?_ | refine Elem1.mk fun e_ he_ => ?_); refine g1_ ?_))
          refine Draws10.chain ⟨2, [.turn, .new], [(0, [.keep, .again])], by decide +kernel, ?_⟩; (refine g0_ ?_; repeat ((first | refine n1_ fun b_ => ?_ | refine n2_ fun b_ => ?_ | refine Nat1.mk fun q_ hq_ => ?_ | refine em_ fun x_ hx_ => ?_ | refine Elem1.mk fun e_ he_ => ?_); refine g0_ ?_))
          refine ACalls.giveE (sequences_ok W hN) ?_
          rintro bm -
          (refine g0_ ?_; repeat ((first | refine n1_ fun b_ => ?_ | refine n2_ fun b_ => ?_ | refine Nat1.mk fun q_ hq_ => ?_ | refine em_ fun x_ hx_ => ?_ | refine Elem1.mk fun e_ he_ => ?_); refine g0_ ?_))
          refine ⟨_, hlk (by repeat (first | exact .here _ _ _ | apply Look.there)), ?_⟩
          (refine g1_ ?_; repeat ((first | refine n1_ fun b_ => ?_ | refine n2_ fun b_ => ?_ | refine Nat1.mk fun q_ hq_ => ?_ | refine em_ fun x_ hx_ => ?_ | refine Elem1.mk fun e_ he_ => ?_); refine g1_ ?_))
          refine (hw).use ?_; (refine g0_ ?_; repeat ((first | refine n1_ fun b_ => ?_ | refine n2_ fun b_ => ?_ | refine Nat1.mk fun q_ hq_ => ?_ | refine em_ fun x_ hx_ => ?_ | refine Elem1.mk fun e_ he_ => ?_); refine g0_ ?_))
          (refine g1_ ?_; repeat ((first | refine n1_ fun b_ => ?_ | refine n2_ fun b_ => ?_ | refine Nat1.mk fun q_ hq_ => ?_ | refine em_ fun x_ hx_ => ?_ | refine Elem1.mk fun e_ he_ => ?_); refine g1_ ?_))
          first | exact .refl _ | exact frz_bool (by simp <;> omega)
    · obtain rfl : b = false := by rw [hb2]; exact decide_eq_false fun h => ho h.1
      clear hb2
      rcases (by omega : held = 1 ∨ held = 3) with rfl | rfl
      · refine Pure.of (acalls_of_vc (DL_ok (by decide)) Tryz.func11 rfl (by decide) (by decide) rfl ?_)
        (refine g0_ ?_; repeat ((first | refine n1_ fun b_ => ?_ | refine n2_ fun b_ => ?_ | refine Nat1.mk fun q_ hq_ => ?_ | refine em_ fun x_ hx_ => ?_ | refine Elem1.mk fun e_ he_ => ?_); refine g0_ ?_))
        (refine g1_ ?_; repeat ((first | refine n1_ fun b_ => ?_ | refine n2_ fun b_ => ?_ | refine Nat1.mk fun q_ hq_ => ?_ | refine em_ fun x_ hx_ => ?_ | refine Elem1.mk fun e_ he_ => ?_); refine g1_ ?_))
        refine Draws10.chain ⟨2, [.turn, .new], [(0, [.keep, .again])], by decide +kernel, ?_⟩; (refine g0_ ?_; repeat ((first | refine n1_ fun b_ => ?_ | refine n2_ fun b_ => ?_ | refine Nat1.mk fun q_ hq_ => ?_ | refine em_ fun x_ hx_ => ?_ | refine Elem1.mk fun e_ he_ => ?_); refine g0_ ?_))
        refine ACalls.giveE (sequences_ok W hN) ?_
        rintro bm -
        (refine g0_ ?_; repeat ((first | refine n1_ fun b_ => ?_ | refine n2_ fun b_ => ?_ | refine Nat1.mk fun q_ hq_ => ?_ | refine em_ fun x_ hx_ => ?_ | refine Elem1.mk fun e_ he_ => ?_); refine g0_ ?_))
        refine ⟨_, hlk (by repeat (first | exact .here _ _ _ | apply Look.there)), ?_⟩
        (refine g1_ ?_; repeat ((first | refine n1_ fun b_ => ?_ | refine n2_ fun b_ => ?_ | refine Nat1.mk fun q_ hq_ => ?_ | refine em_ fun x_ hx_ => ?_ | refine Elem1.mk fun e_ he_ => ?_); refine g1_ ?_))
        first | exact .refl _ | exact frz_bool (by simp <;> omega)
      · refine Pure.of (acalls_of_vc (DL_ok (by decide)) Tryz.func11 rfl (by decide) (by decide) rfl ?_)
        (refine g0_ ?_; repeat ((first | refine n1_ fun b_ => ?_ | refine n2_ fun b_ => ?_ | refine Nat1.mk fun q_ hq_ => ?_ | refine em_ fun x_ hx_ => ?_ | refine Elem1.mk fun e_ he_ => ?_); refine g0_ ?_))
        (refine g1_ ?_; repeat ((first | refine n1_ fun b_ => ?_ | refine n2_ fun b_ => ?_ | refine Nat1.mk fun q_ hq_ => ?_ | refine em_ fun x_ hx_ => ?_ | refine Elem1.mk fun e_ he_ => ?_); refine g1_ ?_))
        refine Draws10.chain ⟨2, [.turn, .new], [(0, [.keep, .again])], by decide +kernel, ?_⟩; (refine g0_ ?_; repeat ((first | refine n1_ fun b_ => ?_ | refine n2_ fun b_ => ?_ | refine Nat1.mk fun q_ hq_ => ?_ | refine em_ fun x_ hx_ => ?_ | refine Elem1.mk fun e_ he_ => ?_); refine g0_ ?_))
        refine ACalls.giveE (sequences_ok W hN) ?_
        rintro bm -
        (refine g0_ ?_; repeat ((first | refine n1_ fun b_ => ?_ | refine n2_ fun b_ => ?_ | refine Nat1.mk fun q_ hq_ => ?_ | refine em_ fun x_ hx_ => ?_ | refine Elem1.mk fun e_ he_ => ?_); refine g0_ ?_))
        refine ⟨_, hlk (by repeat (first | exact .here _ _ _ | apply Look.there)), ?_⟩
        (refine g1_ ?_; repeat ((first | refine n1_ fun b_ => ?_ | refine n2_ fun b_ => ?_ | refine Nat1.mk fun q_ hq_ => ?_ | refine em_ fun x_ hx_ => ?_ | refine Elem1.mk fun e_ he_ => ?_); refine g1_ ?_))
        first | exact .refl _ | exact frz_bool (by simp <;> omega)
theorem isKeyR_not (hN : Nums W) (k : Key) (hok : k.ok) (hh : 0 ≤ k.held ∧ k.held ≤ 7) (hs : ¬ inSeq ⟨k.kind, k.r, k.n, 0⟩) (b : Bool) (hb : b = decide (isKey k)) : Pure Tryz.prog W 11 [encKey k] (.bool b) := by
  have hq : seqOf ⟨k.kind, k.r, k.n, 0⟩ = [] := Decidable.of_not_not fun h => hs ((seq_some k.kind k.r k.n).1 h)
  have hbo : (Key.mk k.kind k.r k.n 0).ok := ⟨hok.1, hok.2.1, hok.2.2.1, (by unfold i64ok; decide : i64ok 0)⟩
  obtain ⟨kind, r, n, held⟩ := k
  unfold inSeq at hs
  dsimp only at *
  have hlk : ∀ {b : Nat} {σ r_ : Mem}, Look σ b (.mpc (bareEs 21)) r_ → LookLaw Tryz.prog 54 (.mp b) (.agg [.int .i64 kind, .int .i32 r, .int .i64 n, .int .i64 0]) false σ (.str []) := fun hl => hq ▸ look_bare hl _ hbo
  clear hq hbo hok
  unfold encKey
  dsimp only
  by_cases hn : n = 0
  · subst hn
    by_cases hr : kind ≠ 1 ∧ r ≠ 0
    · obtain rfl : b = false := by rw [hb]; exact decide_eq_false fun h => hr.1 (h.1.2.1.2 hr.2)
      clear hb hs
      obtain ⟨h1, h2⟩ := hr
      refine Pure.of (acalls_of_vc (DL_ok (by decide)) Tryz.func11 rfl (by decide) (by decide) rfl ?_)
      (refine g0_ ?_; repeat ((first | refine n1_ fun b_ => ?_ | refine n2_ fun b_ => ?_ | refine Nat1.mk fun q_ hq_ => ?_ | refine em_ fun x_ hx_ => ?_ | refine Elem1.mk fun e_ he_ => ?_); refine g0_ ?_))
      (refine g1_ ?_; repeat ((first | refine n1_ fun b_ => ?_ | refine n2_ fun b_ => ?_ | refine Nat1.mk fun q_ hq_ => ?_ | refine em_ fun x_ hx_ => ?_ | refine Elem1.mk fun e_ he_ => ?_); refine g1_ ?_))
      refine Draws10.chain ⟨2, [.turn, .new], [(0, [.keep, .again])], by decide +kernel, ?_⟩; (refine g0_ ?_; repeat ((first | refine n1_ fun b_ => ?_ | refine n2_ fun b_ => ?_ | refine Nat1.mk fun q_ hq_ => ?_ | refine em_ fun x_ hx_ => ?_ | refine Elem1.mk fun e_ he_ => ?_); refine g0_ ?_))
      refine ACalls.giveE (sequences_ok W hN) ?_
      rintro bm -
      (refine g0_ ?_; repeat ((first | refine n1_ fun b_ => ?_ | refine n2_ fun b_ => ?_ | refine Nat1.mk fun q_ hq_ => ?_ | refine em_ fun x_ hx_ => ?_ | refine Elem1.mk fun e_ he_ => ?_); refine g0_ ?_))
      refine ⟨_, hlk (by repeat (first | exact .here _ _ _ | apply Look.there)), ?_⟩
      (refine g1_ ?_; repeat ((first | refine n1_ fun b_ => ?_ | refine n2_ fun b_ => ?_ | refine Nat1.mk fun q_ hq_ => ?_ | refine em_ fun x_ hx_ => ?_ | refine Elem1.mk fun e_ he_ => ?_); refine g1_ ?_))
      first | exact .refl _ | exact frz_bool (by simp <;> omega)
    · by_cases k1 : kind = 1
      · subst k1
        clear hr hs
        exact isKeyR_rune W hN r held hh hlk b hb
      · obtain rfl : r = 0 := by omega
        clear hr
        have hb2 : b = decide (kindK ⟨kind, 0, 0, held⟩) := by
          rw [hb]
          refine decide_eq_decide.2 ⟨fun h => h.2, fun h => ⟨⟨hh, by dsimp only; omega, ?_⟩, h⟩⟩
          dsimp only
          refine ⟨fun e => ?_, fun e => absurd rfl e⟩
          subst e
          unfold kindK at h
          dsimp only at h
          rw [if_neg (by decide), if_neg (by decide), if_neg (by decide), if_neg (by decide), if_pos rfl] at h
          exact absurd h.1 (by decide)
        clear hb
        unfold kindK at hb2
        dsimp only at hb2
        rcases (by omega : (kind = 2 ∨ kind = 4) ∨ kind = 3 ∨ kind = 5 ∨ (kind < 6 ∧ kind ≠ 2 ∧ kind ≠ 4 ∧ kind ≠ 3 ∧ kind ≠ 5) ∨ 14 < kind) with (rfl | rfl) | rfl | rfl | hq | hq
        · subst hb2
          clear hs
          rcases (by omega : held = 0 ∨ held = 1 ∨ held = 2 ∨ held = 3 ∨ held = 4 ∨ held = 5 ∨ held = 6 ∨ held = 7) with rfl | rfl | rfl | rfl | rfl | rfl | rfl | rfl
          all_goals
            refine Pure.of (acalls_of_vc (DL_ok (by decide)) Tryz.func11 rfl (by decide) (by decide) rfl ?_)
            (refine g0_ ?_; repeat ((first | refine n1_ fun b_ => ?_ | refine n2_ fun b_ => ?_ | refine Nat1.mk fun q_ hq_ => ?_ | refine em_ fun x_ hx_ => ?_ | refine Elem1.mk fun e_ he_ => ?_); refine g0_ ?_))
            (refine g1_ ?_; repeat ((first | refine n1_ fun b_ => ?_ | refine n2_ fun b_ => ?_ | refine Nat1.mk fun q_ hq_ => ?_ | refine em_ fun x_ hx_ => ?_ | refine Elem1.mk fun e_ he_ => ?_); refine g1_ ?_))
            refine Draws10.chain ⟨2, [.turn, .new], [(0, [.keep, .again])], by decide +kernel, ?_⟩; (refine g0_ ?_; repeat ((first | refine n1_ fun b_ => ?_ | refine n2_ fun b_ => ?_ | refine Nat1.mk fun q_ hq_ => ?_ | refine em_ fun x_ hx_ => ?_ | refine Elem1.mk fun e_ he_ => ?_); refine g0_ ?_))
            refine ACalls.giveE (sequences_ok W hN) ?_
            rintro bm -
            (refine g0_ ?_; repeat ((first | refine n1_ fun b_ => ?_ | refine n2_ fun b_ => ?_ | refine Nat1.mk fun q_ hq_ => ?_ | refine em_ fun x_ hx_ => ?_ | refine Elem1.mk fun e_ he_ => ?_); refine g0_ ?_))
            refine ⟨_, hlk (by repeat (first | exact .here _ _ _ | apply Look.there)), ?_⟩
            (refine g1_ ?_; repeat ((first | refine n1_ fun b_ => ?_ | refine n2_ fun b_ => ?_ | refine Nat1.mk fun q_ hq_ => ?_ | refine em_ fun x_ hx_ => ?_ | refine Elem1.mk fun e_ he_ => ?_); refine g1_ ?_))
            first | exact .refl _ | exact frz_bool (by simp <;> omega)
        · subst hb2
          clear hs
          rcases (by omega : held = 0 ∨ held = 1 ∨ held = 2 ∨ held = 3 ∨ held = 4 ∨ held = 5 ∨ held = 6 ∨ held = 7) with rfl | rfl | rfl | rfl | rfl | rfl | rfl | rfl
          all_goals
            refine Pure.of (acalls_of_vc (DL_ok (by decide)) Tryz.func11 rfl (by decide) (by decide) rfl ?_)
            (refine g0_ ?_; repeat ((first | refine n1_ fun b_ => ?_ | refine n2_ fun b_ => ?_ | refine Nat1.mk fun q_ hq_ => ?_ | refine em_ fun x_ hx_ => ?_ | refine Elem1.mk fun e_ he_ => ?_); refine g0_ ?_))
            (refine g1_ ?_; repeat ((first | refine n1_ fun b_ => ?_ | refine n2_ fun b_ => ?_ | refine Nat1.mk fun q_ hq_ => ?_ | refine em_ fun x_ hx_ => ?_ | refine Elem1.mk fun e_ he_ => ?_); refine g1_ ?_))
            refine Draws10.chain ⟨2, [.turn, .new], [(0, [.keep, .again])], by decide +kernel, ?_⟩; (refine g0_ ?_; repeat ((first | refine n1_ fun b_ => ?_ | refine n2_ fun b_ => ?_ | refine Nat1.mk fun q_ hq_ => ?_ | refine em_ fun x_ hx_ => ?_ | refine Elem1.mk fun e_ he_ => ?_); refine g0_ ?_))
            refine ACalls.giveE (sequences_ok W hN) ?_
            rintro bm -
            (refine g0_ ?_; repeat ((first | refine n1_ fun b_ => ?_ | refine n2_ fun b_ => ?_ | refine Nat1.mk fun q_ hq_ => ?_ | refine em_ fun x_ hx_ => ?_ | refine Elem1.mk fun e_ he_ => ?_); refine g0_ ?_))
            refine ⟨_, hlk (by repeat (first | exact .here _ _ _ | apply Look.there)), ?_⟩
            (refine g1_ ?_; repeat ((first | refine n1_ fun b_ => ?_ | refine n2_ fun b_ => ?_ | refine Nat1.mk fun q_ hq_ => ?_ | refine em_ fun x_ hx_ => ?_ | refine Elem1.mk fun e_ he_ => ?_); refine g1_ ?_))
            first | exact .refl _ | exact frz_bool (by simp <;> omega)
        · subst hb2
          clear hs
          rcases (by omega : held = 0 ∨ held = 1 ∨ held = 2 ∨ held = 3 ∨ held = 4 ∨ held = 5 ∨ held = 6 ∨ held = 7) with rfl | rfl | rfl | rfl | rfl | rfl | rfl | rfl
          all_goals
            refine Pure.of (acalls_of_vc (DL_ok (by decide)) Tryz.func11 rfl (by decide) (by decide) rfl ?_)
            (refine g0_ ?_; repeat ((first | refine n1_ fun b_ => ?_ | refine n2_ fun b_ => ?_ | refine Nat1.mk fun q_ hq_ => ?_ | refine em_ fun x_ hx_ => ?_ | refine Elem1.mk fun e_ he_ => ?_); refine g0_ ?_))
            (refine g1_ ?_; repeat ((first | refine n1_ fun b_ => ?_ | refine n2_ fun b_ => ?_ | refine Nat1.mk fun q_ hq_ => ?_ | refine em_ fun x_ hx_ => ?_ | refine Elem1.mk fun e_ he_ => ?_); refine g1_ ?_))
            refine Draws10.chain ⟨2, [.turn, .new], [(0, [.keep, .again])], by decide +kernel, ?_⟩; (refine g0_ ?_; repeat ((first | refine n1_ fun b_ => ?_ | refine n2_ fun b_ => ?_ | refine Nat1.mk fun q_ hq_ => ?_ | refine em_ fun x_ hx_ => ?_ | refine Elem1.mk fun e_ he_ => ?_); refine g0_ ?_))
            refine ACalls.giveE (sequences_ok W hN) ?_
            rintro bm -
            (refine g0_ ?_; repeat ((first | refine n1_ fun b_ => ?_ | refine n2_ fun b_ => ?_ | refine Nat1.mk fun q_ hq_ => ?_ | refine em_ fun x_ hx_ => ?_ | refine Elem1.mk fun e_ he_ => ?_); refine g0_ ?_))
            refine ⟨_, hlk (by repeat (first | exact .here _ _ _ | apply Look.there)), ?_⟩
            (refine g1_ ?_; repeat ((first | refine n1_ fun b_ => ?_ | refine n2_ fun b_ => ?_ | refine Nat1.mk fun q_ hq_ => ?_ | refine em_ fun x_ hx_ => ?_ | refine Elem1.mk fun e_ he_ => ?_); refine g1_ ?_))
            first | exact .refl _ | exact frz_bool (by simp <;> omega)
        · subst hb2
          clear hs
          rcases (by omega : held = 0 ∨ held = 1 ∨ held = 2 ∨ held = 3 ∨ held = 4 ∨ held = 5 ∨ held = 6 ∨ held = 7) with rfl | rfl | rfl | rfl | rfl | rfl | rfl | rfl
          all_goals
            refine Pure.of (acalls_of_vc (DL_ok (by decide)) Tryz.func11 rfl (by decide) (by decide) rfl ?_)
            (refine g0_ ?_; repeat ((first | refine n1_ fun b_ => ?_ | refine n2_ fun b_ => ?_ | refine Nat1.mk fun q_ hq_ => ?_ | refine em_ fun x_ hx_ => ?_ | refine Elem1.mk fun e_ he_ => ?_); refine g0_ ?_))
            (refine g1_ ?_; repeat ((first | refine n1_ fun b_ => ?_ | refine n2_ fun b_ => ?_ | refine Nat1.mk fun q_ hq_ => ?_ | refine em_ fun x_ hx_ => ?_ | refine Elem1.mk fun e_ he_ => ?_); refine g1_ ?_))
            refine Draws10.chain ⟨2, [.turn, .new], [(0, [.keep, .again])], by decide +kernel, ?_⟩; (refine g0_ ?_; repeat ((first | refine n1_ fun b_ => ?_ | refine n2_ fun b_ => ?_ | refine Nat1.mk fun q_ hq_ => ?_ | refine em_ fun x_ hx_ => ?_ | refine Elem1.mk fun e_ he_ => ?_); refine g0_ ?_))
            refine ACalls.giveE (sequences_ok W hN) ?_
            rintro bm -
            (refine g0_ ?_; repeat ((first | refine n1_ fun b_ => ?_ | refine n2_ fun b_ => ?_ | refine Nat1.mk fun q_ hq_ => ?_ | refine em_ fun x_ hx_ => ?_ | refine Elem1.mk fun e_ he_ => ?_); refine g0_ ?_))
            refine ⟨_, hlk (by repeat (first | exact .here _ _ _ | apply Look.there)), ?_⟩
            (refine g1_ ?_; repeat ((first | refine n1_ fun b_ => ?_ | refine n2_ fun b_ => ?_ | refine Nat1.mk fun q_ hq_ => ?_ | refine em_ fun x_ hx_ => ?_ | refine Elem1.mk fun e_ he_ => ?_); refine g1_ ?_))
            first | exact .refl _ | exact frz_bool (by simp <;> omega)
        · obtain rfl : b = false := by rw [hb2]; exact decide_eq_false (by rw [if_neg (by omega), if_neg (by omega), if_neg (by omega), if_neg (by omega), if_neg (by omega)]; omega)
          clear hb2 hs
          refine Pure.of (acalls_of_vc (DL_ok (by decide)) Tryz.func11 rfl (by decide) (by decide) rfl ?_)
          (refine g0_ ?_; repeat ((first | refine n1_ fun b_ => ?_ | refine n2_ fun b_ => ?_ | refine Nat1.mk fun q_ hq_ => ?_ | refine em_ fun x_ hx_ => ?_ | refine Elem1.mk fun e_ he_ => ?_); refine g0_ ?_))
          (refine g1_ ?_; repeat ((first | refine n1_ fun b_ => ?_ | refine n2_ fun b_ => ?_ | refine Nat1.mk fun q_ hq_ => ?_ | refine em_ fun x_ hx_ => ?_ | refine Elem1.mk fun e_ he_ => ?_); refine g1_ ?_))
          refine Draws10.chain ⟨2, [.turn, .new], [(0, [.keep, .again])], by decide +kernel, ?_⟩; (refine g0_ ?_; repeat ((first | refine n1_ fun b_ => ?_ | refine n2_ fun b_ => ?_ | refine Nat1.mk fun q_ hq_ => ?_ | refine em_ fun x_ hx_ => ?_ | refine Elem1.mk fun e_ he_ => ?_); refine g0_ ?_))
          refine ACalls.giveE (sequences_ok W hN) ?_
          rintro bm -
          (refine g0_ ?_; repeat ((first | refine n1_ fun b_ => ?_ | refine n2_ fun b_ => ?_ | refine Nat1.mk fun q_ hq_ => ?_ | refine em_ fun x_ hx_ => ?_ | refine Elem1.mk fun e_ he_ => ?_); refine g0_ ?_))
          refine ⟨_, hlk (by repeat (first | exact .here _ _ _ | apply Look.there)), ?_⟩
          (refine g1_ ?_; repeat ((first | refine n1_ fun b_ => ?_ | refine n2_ fun b_ => ?_ | refine Nat1.mk fun q_ hq_ => ?_ | refine em_ fun x_ hx_ => ?_ | refine Elem1.mk fun e_ he_ => ?_); refine g1_ ?_))
          first | exact .refl _ | exact frz_bool (by simp <;> omega)
        · obtain rfl : b = false := by rw [hb2]; exact decide_eq_false (by rw [if_neg (by omega), if_neg (by omega), if_neg (by omega), if_neg (by omega)]; split <;> omega)
          clear hb2 hs
          refine Pure.of (acalls_of_vc (DL_ok (by decide)) Tryz.func11 rfl (by decide) (by decide) rfl ?_)
          (refine g0_ ?_; repeat ((first | refine n1_ fun b_ => ?_ | refine n2_ fun b_ => ?_ | refine Nat1.mk fun q_ hq_ => ?_ | refine em_ fun x_ hx_ => ?_ | refine Elem1.mk fun e_ he_ => ?_); refine g0_ ?_))
          (refine g1_ ?_; repeat ((first | refine n1_ fun b_ => ?_ | refine n2_ fun b_ => ?_ | refine Nat1.mk fun q_ hq_ => ?_ | refine em_ fun x_ hx_ => ?_ | refine Elem1.mk fun e_ he_ => ?_); refine g1_ ?_))
          refine Draws10.chain ⟨2, [.turn, .new], [(0, [.keep, .again])], by decide +kernel, ?_⟩; (refine g0_ ?_; repeat ((first | refine n1_ fun b_ => ?_ | refine n2_ fun b_ => ?_ | refine Nat1.mk fun q_ hq_ => ?_ | refine em_ fun x_ hx_ => ?_ | refine Elem1.mk fun e_ he_ => ?_); refine g0_ ?_))
          refine ACalls.giveE (sequences_ok W hN) ?_
          rintro bm -
          (refine g0_ ?_; repeat ((first | refine n1_ fun b_ => ?_ | refine n2_ fun b_ => ?_ | refine Nat1.mk fun q_ hq_ => ?_ | refine em_ fun x_ hx_ => ?_ | refine Elem1.mk fun e_ he_ => ?_); refine g0_ ?_))
          refine ⟨_, hlk (by repeat (first | exact .here _ _ _ | apply Look.there)), ?_⟩
          (refine g1_ ?_; repeat ((first | refine n1_ fun b_ => ?_ | refine n2_ fun b_ => ?_ | refine Nat1.mk fun q_ hq_ => ?_ | refine em_ fun x_ hx_ => ?_ | refine Elem1.mk fun e_ he_ => ?_); refine g1_ ?_))
          first | exact .refl _ | exact frz_bool (by simp <;> omega)
  · obtain rfl : b = false := by
      rw [hb]
      refine decide_eq_false fun h => hs ?_
      obtain ⟨⟨h1, h2, h3⟩, h4⟩ := h
      dsimp only at h1 h2 h3
      have h15 := h3.2 hn
      subst h15
      unfold kindK at h4
      dsimp only at h4
      rw [if_neg (by decide), if_neg (by decide), if_neg (by decide), if_neg (by decide), if_pos rfl] at h4
      exact ⟨by omega, .inr ⟨rfl, h4.1, h4.2⟩⟩
    clear hb hs
    refine Pure.of (acalls_of_vc (DL_ok (by decide)) Tryz.func11 rfl (by decide) (by decide) rfl ?_)
    (refine g0_ ?_; repeat ((first | refine n1_ fun b_ => ?_ | refine n2_ fun b_ => ?_ | refine Nat1.mk fun q_ hq_ => ?_ | refine em_ fun x_ hx_ => ?_ | refine Elem1.mk fun e_ he_ => ?_); refine g0_ ?_))
    (refine g1_ ?_; repeat ((first | refine n1_ fun b_ => ?_ | refine n2_ fun b_ => ?_ | refine Nat1.mk fun q_ hq_ => ?_ | refine em_ fun x_ hx_ => ?_ | refine Elem1.mk fun e_ he_ => ?_); refine g1_ ?_))
    refine Draws10.chain ⟨2, [.turn, .new], [(0, [.keep, .again])], by decide +kernel, ?_⟩; (refine g0_ ?_; repeat ((first | refine n1_ fun b_ => ?_ | refine n2_ fun b_ => ?_ | refine Nat1.mk fun q_ hq_ => ?_ | refine em_ fun x_ hx_ => ?_ | refine Elem1.mk fun e_ he_ => ?_); refine g0_ ?_))
    refine ACalls.giveE (sequences_ok W hN) ?_
    rintro bm -
    (refine g0_ ?_; repeat ((first | refine n1_ fun b_ => ?_ | refine n2_ fun b_ => ?_ | refine Nat1.mk fun q_ hq_ => ?_ | refine em_ fun x_ hx_ => ?_ | refine Elem1.mk fun e_ he_ => ?_); refine g0_ ?_))
    refine ⟨_, hlk (by repeat (first | exact .here _ _ _ | apply Look.there)), ?_⟩
    (refine g1_ ?_; repeat ((first | refine n1_ fun b_ => ?_ | refine n2_ fun b_ => ?_ | refine Nat1.mk fun q_ hq_ => ?_ | refine em_ fun x_ hx_ => ?_ | refine Elem1.mk fun e_ he_ => ?_); refine g1_ ?_))
    first | exact .refl _ | exact frz_bool (by simp <;> omega)
theorem isKeyR_ok (hN : Nums W) (k : Key) (hok : k.ok) : Pure Tryz.prog W 11 [encKey k] (.bool (decide (isKey k))) := by
  by_cases hh : 0 ≤ k.held ∧ k.held ≤ 7
  · by_cases hs : inSeq ⟨k.kind, k.r, k.n, 0⟩
    · have : isKey k := by
        obtain ⟨kind, r, n, held⟩ := k
        unfold inSeq at hs
        dsimp only at hs hh
        obtain ⟨rfl, hs⟩ := hs
        refine ⟨⟨hh, by dsimp only; omega, by dsimp only; omega⟩, ?_⟩
        unfold kindK
        dsimp only
        rw [if_neg (by omega), if_neg (by omega), if_neg (by omega), if_neg (by omega)]
        split <;> omega
      rw [decide_eq_true this]
      exact isKeyR_seq W hN k hok hh hs
    · exact isKeyR_not W hN k hok hh hs _ rfl
  · have : ¬ isKey k := fun h => hh h.1.1
    rw [decide_eq_false this]
    obtain ⟨kind, r, n, held⟩ := k
    unfold encKey
    dsimp only at hh ⊢
    clear this
    rcases (by omega : held < 0 ∨ 7 < held) with h | h
    all_goals
      clear hh
      refine Pure.of (acalls_of_vc (DL_ok (by decide)) Tryz.func11 rfl (by decide) (by decide) rfl ?_)
      (refine g0_ ?_; repeat ((first | refine n1_ fun b_ => ?_ | refine n2_ fun b_ => ?_ | refine Nat1.mk fun q_ hq_ => ?_ | refine em_ fun x_ hx_ => ?_ | refine Elem1.mk fun e_ he_ => ?_); refine g0_ ?_))
      (refine g1_ ?_; repeat ((first | refine n1_ fun b_ => ?_ | refine n2_ fun b_ => ?_ | refine Nat1.mk fun q_ hq_ => ?_ | refine em_ fun x_ hx_ => ?_ | refine Elem1.mk fun e_ he_ => ?_); refine g1_ ?_))
      exact .refl _
end Go.Eng.YtbaokhehnilneaaGreatDoor
end
