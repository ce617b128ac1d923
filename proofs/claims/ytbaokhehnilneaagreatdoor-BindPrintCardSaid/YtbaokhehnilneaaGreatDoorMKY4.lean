/- Texts put together: KeyD, Key7, Key8. -/
import Derived.Test.YtbaokhehnilneaaGreatDoorMKY3
import Derived.Test.YtbaokhehnilneaaGreatDoorMT1
/- Keys: which can be struck, how they are told and named (plain). -/
section
namespace Go.Eng.YtbaokhehnilneaaGreatDoor
open Go Go.Eng Go.Proofs
set_option linter.unusedSimpArgs false
set_option maxRecDepth 100000
set_option linter.unusedVariables false
set_option maxHeartbeats 4000000
/-- A rune that can be told with Ctrl. -/
def ctrlR (r : Int) : Prop := 97 ≤ r ∧ r ≤ 122 ∧ r ≠ 105 ∧ r ≠ 109 ∧ r ≠ 104
instance (r : Int) : Decidable (ctrlR r) := inferInstanceAs (Decidable (_ ∧ _))
/-- A rune that can be told without. -/
def runeR (r held : Int) : Prop := 0 < widthL r ∧ Lib.validRune r = true ∧ (held = 0 ∨ (r ≠ 91 ∧ r ≠ 79))
instance (r held : Int) : Decidable (runeR r held) := inferInstanceAs (Decidable (_ ∧ _))
/-- What the kind asks. -/
def kindK (k : Key) : Prop :=
  if k.kind = 1 then (if 4 ≤ k.held then (k.held = 4 ∨ k.held = 6) ∧ ctrlR k.r else (k.held = 0 ∨ k.held = 2) ∧ runeR k.r k.held)
  else if k.kind = 2 ∨ k.kind = 4 then k.held = 0 ∨ k.held = 2
  else if k.kind = 3 then k.held = 0 ∨ k.held = 1
  else if k.kind = 5 then k.held = 0
  else if k.kind = 15 then 1 ≤ k.n ∧ k.n ≤ 12
  else 6 ≤ k.kind ∧ k.kind ≤ 14
instance (k : Key) : Decidable (kindK k) := by unfold kindK; exact inferInstance
def formK (k : Key) : Prop := (0 ≤ k.held ∧ k.held ≤ 7) ∧ (k.kind = 1 ↔ k.r ≠ 0) ∧ (k.kind = 15 ↔ k.n ≠ 0)
instance (k : Key) : Decidable (formK k) := by unfold formK; exact inferInstance
def isKey (k : Key) : Prop := formK k ∧ kindK k
instance (k : Key) : Decidable (isKey k) := inferInstanceAs (Decidable (_ ∧ _))
def altK (held : Int) : List UInt8 := if held = 2 ∨ held = 3 ∨ held = 6 ∨ held = 7 then [27] else []
def writeK (k : Key) (pad : Bool) : List UInt8 :=
  if k.kind = 1 then altK k.held ++ (if 4 ≤ k.held then [UInt8.ofNat (k.r - 96).toNat] else Lib.encodeRune k.r)
  else if k.kind = 2 then altK k.held ++ [13]
  else if k.kind = 4 then altK k.held ++ [127]
  else if k.kind = 5 then [27]
  else if k.kind = 3 then (if k.held ≠ 0 then [27, 91, 90] else [9])
  else if letterK k.kind ≠ 0 then
    (if k.held ≠ 0 then [27, 91, 49, 59] ++ Lib.itoa (k.held + 1) ++ [UInt8.ofNat (letterK k.kind)]
     else if pad then [27, 79, UInt8.ofNat (letterK k.kind)] else [27, 91, UInt8.ofNat (letterK k.kind)])
  else [27, 91] ++ Lib.itoa (numberK k) ++ (if k.held ≠ 0 then [59] ++ Lib.itoa (k.held + 1) else []) ++ [126]
def modK (held : Int) : List UInt8 :=
  (if 4 ≤ held then [67, 45] else []) ++ ((if held = 2 ∨ held = 3 ∨ held = 6 ∨ held = 7 then [77, 45] else []) ++ (if held % 2 = 1 then [83, 45] else []))
def wordsK : List (List UInt8) := [[], [], [69, 110, 116, 101, 114], [84, 97, 98], [66, 83, 112, 97, 99, 101], [69, 115, 99, 97, 112, 101], [85, 112], [68, 111, 119, 110], [82, 105, 103, 104, 116], [76, 101, 102, 116], [72, 111, 109, 101], [69, 110, 100], [80, 97, 103, 101, 85, 112], [80, 97, 103, 101, 68, 111, 119, 110], [68, 101, 108, 101, 116, 101]]
def spaceK : List UInt8 := [83, 112, 97, 99, 101]
def nameK (k : Key) : List UInt8 := modK k.held ++
  (if k.kind = 1 then (if k.r = 32 then spaceK else Lib.encodeRune k.r) else if k.kind = 15 then [70] ++ Lib.itoa k.n else wordsK.getD k.kind.toNat [])
end Go.Eng.YtbaokhehnilneaaGreatDoor
end

/- Keys: which can be struck, how they are told (b_ x_ q_ e_). -/
section
namespace Go.Eng.YtbaokhehnilneaaGreatDoor
open Go Go.Eng Go.Proofs
variable (W : World)
set_option linter.unusedSimpArgs false
set_option maxRecDepth 100000
set_option linter.unusedVariables false
set_option maxHeartbeats 8000000
theorem validRune_ok (r : Int) : Pure Tryz.prog W 24 [.int .i32 r] (.bool (Lib.validRune r)) :=
  Pure.of_below Tryz.func24 rfl (by decide) rfl rfl fun w _ _ => (Tryz.utf8_ValidRune r w).mono fun _ _ h => ⟨h.1, h.2 ▸ RowKit.Below.refl _ _⟩
theorem check_form (k : Key) (h : ¬ formK k) : Pure Tryz.prog W 19 [encKey k] (.bool false) := by
  obtain ⟨kind, r, n, held⟩ := k
  unfold formK at h
  dsimp only at h
  unfold encKey
  dsimp only
  rcases (by omega : held < 0 ∨ 7 < held ∨ (0 ≤ held ∧ held ≤ 7)) with a | a | a
  · refine Pure.of (acalls_of_vc (drawOk W) Tryz.func19 rfl (by decide) (by decide) rfl ?_)
    (refine g0_ ?_; repeat ((first | refine n1_ fun b_ => ?_ | refine n2_ fun b_ => ?_ | refine Nat1.mk fun q_ hq_ => ?_ | refine em_ fun x_ hx_ => ?_ | refine Elem1.mk fun e_ he_ => ?_); refine g0_ ?_))
    (refine g1_ ?_; repeat ((first | refine n1_ fun b_ => ?_ | refine n2_ fun b_ => ?_ | refine Nat1.mk fun q_ hq_ => ?_ | refine em_ fun x_ hx_ => ?_ | refine Elem1.mk fun e_ he_ => ?_); refine g1_ ?_))
    exact .refl _
  · refine Pure.of (acalls_of_vc (drawOk W) Tryz.func19 rfl (by decide) (by decide) rfl ?_)
    (refine g0_ ?_; repeat ((first | refine n1_ fun b_ => ?_ | refine n2_ fun b_ => ?_ | refine Nat1.mk fun q_ hq_ => ?_ | refine em_ fun x_ hx_ => ?_ | refine Elem1.mk fun e_ he_ => ?_); refine g0_ ?_))
    (refine g1_ ?_; repeat ((first | refine n1_ fun b_ => ?_ | refine n2_ fun b_ => ?_ | refine Nat1.mk fun q_ hq_ => ?_ | refine em_ fun x_ hx_ => ?_ | refine Elem1.mk fun e_ he_ => ?_); refine g1_ ?_))
    exact .refl _
  · by_cases hk : kind = 1 <;> by_cases hr : r = 0 <;> by_cases hf : kind = 15 <;> by_cases hn : n = 0
    all_goals first
      | (exfalso; omega)
      | skip
    all_goals
      clear h
      refine Pure.of (acalls_of_vc (drawOk W) Tryz.func19 rfl (by decide) (by decide) rfl ?_)
      (refine g0_ ?_; repeat ((first | refine n1_ fun b_ => ?_ | refine n2_ fun b_ => ?_ | refine Nat1.mk fun q_ hq_ => ?_ | refine em_ fun x_ hx_ => ?_ | refine Elem1.mk fun e_ he_ => ?_); refine g0_ ?_))
      (refine g1_ ?_; repeat ((first | refine n1_ fun b_ => ?_ | refine n2_ fun b_ => ?_ | refine Nat1.mk fun q_ hq_ => ?_ | refine em_ fun x_ hx_ => ?_ | refine Elem1.mk fun e_ he_ => ?_); refine g1_ ?_))
      exact .refl _
theorem frz_bool {σ : Mem} {b c : Bool} (h : b = c) : Frz σ (.bool b) (.bool c) := h ▸ .refl _
theorem check_rune (r held : Int) (hh : 0 ≤ held ∧ held ≤ 7) (hr : r ≠ 0) (b : Bool) (hb : b = decide (kindK ⟨1, r, 0, held⟩)) : Pure Tryz.prog W 19 [encKey ⟨1, r, 0, held⟩] (.bool b) := by
  have hw := width_ok W r
  have hv := validRune_ok W r
  have hwn : 0 ≤ (widthL r : Int) := by omega
  unfold encKey
  dsimp only
  unfold kindK at hb
  dsimp only at hb
  generalize hwl : widthL r = wl at *
  generalize hvl : Lib.validRune r = vl at *
  by_cases h4 : 4 ≤ held
  · have hb2 : b = decide ((held = 4 ∨ held = 6) ∧ ctrlR r) := by rw [hb]; exact decide_eq_decide.2 (by rw [if_pos rfl, if_pos h4])
    clear hb
    by_cases ho : held = 4 ∨ held = 6
    · by_cases hc : 97 ≤ r ∧ r ≤ 122 ∧ r ≠ 105 ∧ r ≠ 109 ∧ r ≠ 104
      · obtain rfl : b = true := by rw [hb2]; exact decide_eq_true ⟨ho, hc⟩
        clear hb2
        rcases ho with rfl | rfl
        · refine Pure.of (acalls_of_vc (drawOk W) Tryz.func19 rfl (by decide) (by decide) rfl ?_)
          (refine g0_ ?_; repeat ((first | refine n1_ fun b_ => ?_ | refine n2_ fun b_ => ?_ | refine Nat1.mk fun q_ hq_ => ?_ | refine em_ fun x_ hx_ => ?_ | refine Elem1.mk fun e_ he_ => ?_); refine g0_ ?_))
          (refine g1_ ?_; repeat ((first | refine n1_ fun b_ => ?_ | refine n2_ fun b_ => ?_ | refine Nat1.mk fun q_ hq_ => ?_ | refine em_ fun x_ hx_ => ?_ | refine Elem1.mk fun e_ he_ => ?_); refine g1_ ?_))
          first | exact .refl _ | exact frz_bool (by simp <;> omega)
        · refine Pure.of (acalls_of_vc (drawOk W) Tryz.func19 rfl (by decide) (by decide) rfl ?_)
          (refine g0_ ?_; repeat ((first | refine n1_ fun b_ => ?_ | refine n2_ fun b_ => ?_ | refine Nat1.mk fun q_ hq_ => ?_ | refine em_ fun x_ hx_ => ?_ | refine Elem1.mk fun e_ he_ => ?_); refine g0_ ?_))
          (refine g1_ ?_; repeat ((first | refine n1_ fun b_ => ?_ | refine n2_ fun b_ => ?_ | refine Nat1.mk fun q_ hq_ => ?_ | refine em_ fun x_ hx_ => ?_ | refine Elem1.mk fun e_ he_ => ?_); refine g1_ ?_))
          first | exact .refl _ | exact frz_bool (by simp <;> omega)
      · obtain rfl : b = false := by rw [hb2]; exact decide_eq_false fun h => hc h.2
        clear hb2
        rcases (by omega : r < 97 ∨ 122 < r ∨ (97 ≤ r ∧ r ≤ 122 ∧ (r = 105 ∨ r = 109 ∨ r = 104))) with hc | hc | ⟨_, _, rfl | rfl | rfl⟩
        all_goals
          rcases ho with rfl | rfl
          · refine Pure.of (acalls_of_vc (drawOk W) Tryz.func19 rfl (by decide) (by decide) rfl ?_)
            (refine g0_ ?_; repeat ((first | refine n1_ fun b_ => ?_ | refine n2_ fun b_ => ?_ | refine Nat1.mk fun q_ hq_ => ?_ | refine em_ fun x_ hx_ => ?_ | refine Elem1.mk fun e_ he_ => ?_); refine g0_ ?_))
            (refine g1_ ?_; repeat ((first | refine n1_ fun b_ => ?_ | refine n2_ fun b_ => ?_ | refine Nat1.mk fun q_ hq_ => ?_ | refine em_ fun x_ hx_ => ?_ | refine Elem1.mk fun e_ he_ => ?_); refine g1_ ?_))
            first | exact .refl _ | exact frz_bool (by simp <;> omega)
          · refine Pure.of (acalls_of_vc (drawOk W) Tryz.func19 rfl (by decide) (by decide) rfl ?_)
            (refine g0_ ?_; repeat ((first | refine n1_ fun b_ => ?_ | refine n2_ fun b_ => ?_ | refine Nat1.mk fun q_ hq_ => ?_ | refine em_ fun x_ hx_ => ?_ | refine Elem1.mk fun e_ he_ => ?_); refine g0_ ?_))
            (refine g1_ ?_; repeat ((first | refine n1_ fun b_ => ?_ | refine n2_ fun b_ => ?_ | refine Nat1.mk fun q_ hq_ => ?_ | refine em_ fun x_ hx_ => ?_ | refine Elem1.mk fun e_ he_ => ?_); refine g1_ ?_))
            first | exact .refl _ | exact frz_bool (by simp <;> omega)
    · obtain rfl : b = false := by rw [hb2]; exact decide_eq_false fun h => ho h.1
      clear hb2
      rcases (by omega : held = 5 ∨ held = 7) with rfl | rfl
      · refine Pure.of (acalls_of_vc (drawOk W) Tryz.func19 rfl (by decide) (by decide) rfl ?_)
        (refine g0_ ?_; repeat ((first | refine n1_ fun b_ => ?_ | refine n2_ fun b_ => ?_ | refine Nat1.mk fun q_ hq_ => ?_ | refine em_ fun x_ hx_ => ?_ | refine Elem1.mk fun e_ he_ => ?_); refine g0_ ?_))
        (refine g1_ ?_; repeat ((first | refine n1_ fun b_ => ?_ | refine n2_ fun b_ => ?_ | refine Nat1.mk fun q_ hq_ => ?_ | refine em_ fun x_ hx_ => ?_ | refine Elem1.mk fun e_ he_ => ?_); refine g1_ ?_))
        first | exact .refl _ | exact frz_bool (by simp <;> omega)
      · refine Pure.of (acalls_of_vc (drawOk W) Tryz.func19 rfl (by decide) (by decide) rfl ?_)
        (refine g0_ ?_; repeat ((first | refine n1_ fun b_ => ?_ | refine n2_ fun b_ => ?_ | refine Nat1.mk fun q_ hq_ => ?_ | refine em_ fun x_ hx_ => ?_ | refine Elem1.mk fun e_ he_ => ?_); refine g0_ ?_))
        (refine g1_ ?_; repeat ((first | refine n1_ fun b_ => ?_ | refine n2_ fun b_ => ?_ | refine Nat1.mk fun q_ hq_ => ?_ | refine em_ fun x_ hx_ => ?_ | refine Elem1.mk fun e_ he_ => ?_); refine g1_ ?_))
        first | exact .refl _ | exact frz_bool (by simp <;> omega)
  · have hb2 : b = decide ((held = 0 ∨ held = 2) ∧ 0 < wl ∧ vl = true ∧ (held = 0 ∨ (r ≠ 91 ∧ r ≠ 79))) := by rw [hb]; exact decide_eq_decide.2 (by rw [if_pos rfl, if_neg h4]; unfold runeR; rw [hwl, hvl])
    clear hb
    by_cases ho : held = 0 ∨ held = 2
    · by_cases h0 : 0 < wl
      · cases vl with
        | false =>
          obtain rfl : b = false := by rw [hb2]; exact decide_eq_false fun h => absurd h.2.2.1 (by decide)
          clear hb2
          rcases ho with rfl | rfl
          · refine Pure.of (acalls_of_vc (drawOk W) Tryz.func19 rfl (by decide) (by decide) rfl ?_)
            (refine g0_ ?_; repeat ((first | refine n1_ fun b_ => ?_ | refine n2_ fun b_ => ?_ | refine Nat1.mk fun q_ hq_ => ?_ | refine em_ fun x_ hx_ => ?_ | refine Elem1.mk fun e_ he_ => ?_); refine g0_ ?_))
            (refine g1_ ?_; repeat ((first | refine n1_ fun b_ => ?_ | refine n2_ fun b_ => ?_ | refine Nat1.mk fun q_ hq_ => ?_ | refine em_ fun x_ hx_ => ?_ | refine Elem1.mk fun e_ he_ => ?_); refine g1_ ?_))
            refine (hw).use ?_; (refine g0_ ?_; repeat ((first | refine n1_ fun b_ => ?_ | refine n2_ fun b_ => ?_ | refine Nat1.mk fun q_ hq_ => ?_ | refine em_ fun x_ hx_ => ?_ | refine Elem1.mk fun e_ he_ => ?_); refine g0_ ?_))
            (refine g1_ ?_; repeat ((first | refine n1_ fun b_ => ?_ | refine n2_ fun b_ => ?_ | refine Nat1.mk fun q_ hq_ => ?_ | refine em_ fun x_ hx_ => ?_ | refine Elem1.mk fun e_ he_ => ?_); refine g1_ ?_))
            refine (hv).use ?_; (refine g0_ ?_; repeat ((first | refine n1_ fun b_ => ?_ | refine n2_ fun b_ => ?_ | refine Nat1.mk fun q_ hq_ => ?_ | refine em_ fun x_ hx_ => ?_ | refine Elem1.mk fun e_ he_ => ?_); refine g0_ ?_))
            (refine g1_ ?_; repeat ((first | refine n1_ fun b_ => ?_ | refine n2_ fun b_ => ?_ | refine Nat1.mk fun q_ hq_ => ?_ | refine em_ fun x_ hx_ => ?_ | refine Elem1.mk fun e_ he_ => ?_); refine g1_ ?_))
            first | exact .refl _ | exact frz_bool (by simp <;> omega)
          · refine Pure.of (acalls_of_vc (drawOk W) Tryz.func19 rfl (by decide) (by decide) rfl ?_)
            (refine g0_ ?_; repeat ((first | refine n1_ fun b_ => ?_ | refine n2_ fun b_ => ?_ | refine Nat1.mk fun q_ hq_ => ?_ | refine em_ fun x_ hx_ => ?_ | refine Elem1.mk fun e_ he_ => ?_); refine g0_ ?_))
            (refine g1_ ?_; repeat ((first | refine n1_ fun b_ => ?_ | refine n2_ fun b_ => ?_ | refine Nat1.mk fun q_ hq_ => ?_ | refine em_ fun x_ hx_ => ?_ | refine Elem1.mk fun e_ he_ => ?_); refine g1_ ?_))
            refine (hw).use ?_; (refine g0_ ?_; repeat ((first | refine n1_ fun b_ => ?_ | refine n2_ fun b_ => ?_ | refine Nat1.mk fun q_ hq_ => ?_ | refine em_ fun x_ hx_ => ?_ | refine Elem1.mk fun e_ he_ => ?_); refine g0_ ?_))
            (refine g1_ ?_; repeat ((first | refine n1_ fun b_ => ?_ | refine n2_ fun b_ => ?_ | refine Nat1.mk fun q_ hq_ => ?_ | refine em_ fun x_ hx_ => ?_ | refine Elem1.mk fun e_ he_ => ?_); refine g1_ ?_))
            refine (hv).use ?_; (refine g0_ ?_; repeat ((first | refine n1_ fun b_ => ?_ | refine n2_ fun b_ => ?_ | refine Nat1.mk fun q_ hq_ => ?_ | refine em_ fun x_ hx_ => ?_ | refine Elem1.mk fun e_ he_ => ?_); refine g0_ ?_))
            (refine g1_ ?_; repeat ((first | refine n1_ fun b_ => ?_ | refine n2_ fun b_ => ?_ | refine Nat1.mk fun q_ hq_ => ?_ | refine em_ fun x_ hx_ => ?_ | refine Elem1.mk fun e_ he_ => ?_); refine g1_ ?_))
            first | exact .refl _ | exact frz_bool (by simp <;> omega)
        | true =>
          rcases ho with rfl | rfl
          · obtain rfl : b = true := by rw [hb2]; exact decide_eq_true ⟨.inl rfl, h0, rfl, .inl rfl⟩
            clear hb2
            refine Pure.of (acalls_of_vc (drawOk W) Tryz.func19 rfl (by decide) (by decide) rfl ?_)
            (refine g0_ ?_; repeat ((first | refine n1_ fun b_ => ?_ | refine n2_ fun b_ => ?_ | refine Nat1.mk fun q_ hq_ => ?_ | refine em_ fun x_ hx_ => ?_ | refine Elem1.mk fun e_ he_ => ?_); refine g0_ ?_))
            (refine g1_ ?_; repeat ((first | refine n1_ fun b_ => ?_ | refine n2_ fun b_ => ?_ | refine Nat1.mk fun q_ hq_ => ?_ | refine em_ fun x_ hx_ => ?_ | refine Elem1.mk fun e_ he_ => ?_); refine g1_ ?_))
            refine (hw).use ?_; (refine g0_ ?_; repeat ((first | refine n1_ fun b_ => ?_ | refine n2_ fun b_ => ?_ | refine Nat1.mk fun q_ hq_ => ?_ | refine em_ fun x_ hx_ => ?_ | refine Elem1.mk fun e_ he_ => ?_); refine g0_ ?_))
            (refine g1_ ?_; repeat ((first | refine n1_ fun b_ => ?_ | refine n2_ fun b_ => ?_ | refine Nat1.mk fun q_ hq_ => ?_ | refine em_ fun x_ hx_ => ?_ | refine Elem1.mk fun e_ he_ => ?_); refine g1_ ?_))
            refine (hv).use ?_; (refine g0_ ?_; repeat ((first | refine n1_ fun b_ => ?_ | refine n2_ fun b_ => ?_ | refine Nat1.mk fun q_ hq_ => ?_ | refine em_ fun x_ hx_ => ?_ | refine Elem1.mk fun e_ he_ => ?_); refine g0_ ?_))
            (refine g1_ ?_; repeat ((first | refine n1_ fun b_ => ?_ | refine n2_ fun b_ => ?_ | refine Nat1.mk fun q_ hq_ => ?_ | refine em_ fun x_ hx_ => ?_ | refine Elem1.mk fun e_ he_ => ?_); refine g1_ ?_))
            first | exact .refl _ | exact frz_bool (by simp <;> omega)
          · by_cases hc : r ≠ 91 ∧ r ≠ 79
            · obtain rfl : b = true := by rw [hb2]; exact decide_eq_true ⟨.inr rfl, h0, rfl, .inr hc⟩
              clear hb2
              refine Pure.of (acalls_of_vc (drawOk W) Tryz.func19 rfl (by decide) (by decide) rfl ?_)
              (refine g0_ ?_; repeat ((first | refine n1_ fun b_ => ?_ | refine n2_ fun b_ => ?_ | refine Nat1.mk fun q_ hq_ => ?_ | refine em_ fun x_ hx_ => ?_ | refine Elem1.mk fun e_ he_ => ?_); refine g0_ ?_))
              (refine g1_ ?_; repeat ((first | refine n1_ fun b_ => ?_ | refine n2_ fun b_ => ?_ | refine Nat1.mk fun q_ hq_ => ?_ | refine em_ fun x_ hx_ => ?_ | refine Elem1.mk fun e_ he_ => ?_); refine g1_ ?_))
              refine (hw).use ?_; (refine g0_ ?_; repeat ((first | refine n1_ fun b_ => ?_ | refine n2_ fun b_ => ?_ | refine Nat1.mk fun q_ hq_ => ?_ | refine em_ fun x_ hx_ => ?_ | refine Elem1.mk fun e_ he_ => ?_); refine g0_ ?_))
              (refine g1_ ?_; repeat ((first | refine n1_ fun b_ => ?_ | refine n2_ fun b_ => ?_ | refine Nat1.mk fun q_ hq_ => ?_ | refine em_ fun x_ hx_ => ?_ | refine Elem1.mk fun e_ he_ => ?_); refine g1_ ?_))
              refine (hv).use ?_; (refine g0_ ?_; repeat ((first | refine n1_ fun b_ => ?_ | refine n2_ fun b_ => ?_ | refine Nat1.mk fun q_ hq_ => ?_ | refine em_ fun x_ hx_ => ?_ | refine Elem1.mk fun e_ he_ => ?_); refine g0_ ?_))
              (refine g1_ ?_; repeat ((first | refine n1_ fun b_ => ?_ | refine n2_ fun b_ => ?_ | refine Nat1.mk fun q_ hq_ => ?_ | refine em_ fun x_ hx_ => ?_ | refine Elem1.mk fun e_ he_ => ?_); refine g1_ ?_))
              first | exact .refl _ | exact frz_bool (by simp <;> omega)
            · obtain rfl : b = false := by rw [hb2]; exact decide_eq_false fun h => by rcases h.2.2.2 with h | h; exact absurd h (by decide); exact hc h
              clear hb2
              rcases (by omega : r = 91 ∨ r = 79) with rfl | rfl
              · refine Pure.of (acalls_of_vc (drawOk W) Tryz.func19 rfl (by decide) (by decide) rfl ?_)
                (refine g0_ ?_; repeat ((first | refine n1_ fun b_ => ?_ | refine n2_ fun b_ => ?_ | refine Nat1.mk fun q_ hq_ => ?_ | refine em_ fun x_ hx_ => ?_ | refine Elem1.mk fun e_ he_ => ?_); refine g0_ ?_))
                (refine g1_ ?_; repeat ((first | refine n1_ fun b_ => ?_ | refine n2_ fun b_ => ?_ | refine Nat1.mk fun q_ hq_ => ?_ | refine em_ fun x_ hx_ => ?_ | refine Elem1.mk fun e_ he_ => ?_); refine g1_ ?_))
                refine (hw).use ?_; (refine g0_ ?_; repeat ((first | refine n1_ fun b_ => ?_ | refine n2_ fun b_ => ?_ | refine Nat1.mk fun q_ hq_ => ?_ | refine em_ fun x_ hx_ => ?_ | refine Elem1.mk fun e_ he_ => ?_); refine g0_ ?_))
                (refine g1_ ?_; repeat ((first | refine n1_ fun b_ => ?_ | refine n2_ fun b_ => ?_ | refine Nat1.mk fun q_ hq_ => ?_ | refine em_ fun x_ hx_ => ?_ | refine Elem1.mk fun e_ he_ => ?_); refine g1_ ?_))
                refine (hv).use ?_; (refine g0_ ?_; repeat ((first | refine n1_ fun b_ => ?_ | refine n2_ fun b_ => ?_ | refine Nat1.mk fun q_ hq_ => ?_ | refine em_ fun x_ hx_ => ?_ | refine Elem1.mk fun e_ he_ => ?_); refine g0_ ?_))
                (refine g1_ ?_; repeat ((first | refine n1_ fun b_ => ?_ | refine n2_ fun b_ => ?_ | refine Nat1.mk fun q_ hq_ => ?_ | refine em_ fun x_ hx_ => ?_ | refine Elem1.mk fun e_ he_ => ?_); refine g1_ ?_))
                first | exact .refl _ | exact frz_bool (by simp <;> omega)
              · refine Pure.of (acalls_of_vc (drawOk W) Tryz.func19 rfl (by decide) (by decide) rfl ?_)
                (refine g0_ ?_; repeat ((first | refine n1_ fun b_ => ?_ | refine n2_ fun b_ => ?_ | refine Nat1.mk fun q_ hq_ => ?_ | refine em_ fun x_ hx_ => ?_ | refine Elem1.mk fun e_ he_ => ?_); refine g0_ ?_))
                (refine g1_ ?_; repeat ((first | refine n1_ fun b_ => ?_ | refine n2_ fun b_ => ?_ | refine Nat1.mk fun q_ hq_ => ?_ | refine em_ fun x_ hx_ => ?_ | refine Elem1.mk fun e_ he_ => ?_); refine g1_ ?_))
                refine (hw).use ?_; (refine g0_ ?_; repeat ((first | refine n1_ fun b_ => ?_ | refine n2_ fun b_ => ?_ | refine Nat1.mk fun q_ hq_ => ?_ | refine em_ fun x_ hx_ => ?_ | refine Elem1.mk fun e_ he_ => ?_); refine g0_ ?_))
                (refine g1_ ?_; repeat ((first | refine n1_ fun b_ => ?_ | refine n2_ fun b_ => ?_ | refine Nat1.mk fun q_ hq_ => ?_ | refine em_ fun x_ hx_ => ?_ | refine Elem1.mk fun e_ he_ => ?_); refine g1_ ?_))
                refine (hv).use ?_; (refine g0_ ?_; repeat ((first | refine n1_ fun b_ => ?_ | refine n2_ fun b_ => ?_ | refine Nat1.mk fun q_ hq_ => ?_ | refine em_ fun x_ hx_ => ?_ | refine Elem1.mk fun e_ he_ => ?_); refine g0_ ?_))
                (refine g1_ ?_; repeat ((first | refine n1_ fun b_ => ?_ | refine n2_ fun b_ => ?_ | refine Nat1.mk fun q_ hq_ => ?_ | refine em_ fun x_ hx_ => ?_ | refine Elem1.mk fun e_ he_ => ?_); refine g1_ ?_))
                first | exact .refl _ | exact frz_bool (by simp <;> omega)
      · obtain rfl : b = false := by rw [hb2]; exact decide_eq_false fun h => h0 h.2.1
        clear hb2
        rcases ho with rfl | rfl
        · refine Pure.of (acalls_of_vc (drawOk W) Tryz.func19 rfl (by decide) (by decide) rfl ?_)
          (refine g0_ ?_; repeat ((first | refine n1_ fun b_ => ?_ | refine n2_ fun b_ => ?_ | refine Nat1.mk fun q_ hq_ => ?_ | refine em_ fun x_ hx_ => ?_ | refine Elem1.mk fun e_ he_ => ?_); refine g0_ ?_))
          (refine g1_ ?_; repeat ((first | refine n1_ fun b_ => ?_ | refine n2_ fun b_ => ?_ | refine Nat1.mk fun q_ hq_ => ?_ | refine em_ fun x_ hx_ => ?_ | refine Elem1.mk fun e_ he_ => ?_); refine g1_ ?_))
          refine (hw).use ?_; (refine g0_ ?_; repeat ((first | refine n1_ fun b_ => ?_ | refine n2_ fun b_ => ?_ | refine Nat1.mk fun q_ hq_ => ?_ | refine em_ fun x_ hx_ => ?_ | refine Elem1.mk fun e_ he_ => ?_); refine g0_ ?_))
          (refine g1_ ?_; repeat ((first | refine n1_ fun b_ => ?_ | refine n2_ fun b_ => ?_ | refine Nat1.mk fun q_ hq_ => ?_ | refine em_ fun x_ hx_ => ?_ | refine Elem1.mk fun e_ he_ => ?_); refine g1_ ?_))
          first | exact .refl _ | exact frz_bool (by simp <;> omega)
        · refine Pure.of (acalls_of_vc (drawOk W) Tryz.func19 rfl (by decide) (by decide) rfl ?_)
          (refine g0_ ?_; repeat ((first | refine n1_ fun b_ => ?_ | refine n2_ fun b_ => ?_ | refine Nat1.mk fun q_ hq_ => ?_ | refine em_ fun x_ hx_ => ?_ | refine Elem1.mk fun e_ he_ => ?_); refine g0_ ?_))
          (refine g1_ ?_; repeat ((first | refine n1_ fun b_ => ?_ | refine n2_ fun b_ => ?_ | refine Nat1.mk fun q_ hq_ => ?_ | refine em_ fun x_ hx_ => ?_ | refine Elem1.mk fun e_ he_ => ?_); refine g1_ ?_))
          refine (hw).use ?_; (refine g0_ ?_; repeat ((first | refine n1_ fun b_ => ?_ | refine n2_ fun b_ => ?_ | refine Nat1.mk fun q_ hq_ => ?_ | refine em_ fun x_ hx_ => ?_ | refine Elem1.mk fun e_ he_ => ?_); refine g0_ ?_))
          (refine g1_ ?_; repeat ((first | refine n1_ fun b_ => ?_ | refine n2_ fun b_ => ?_ | refine Nat1.mk fun q_ hq_ => ?_ | refine em_ fun x_ hx_ => ?_ | refine Elem1.mk fun e_ he_ => ?_); refine g1_ ?_))
          first | exact .refl _ | exact frz_bool (by simp <;> omega)
    · obtain rfl : b = false := by rw [hb2]; exact decide_eq_false fun h => ho h.1
      clear hb2
      rcases (by omega : held = 1 ∨ held = 3) with rfl | rfl
      · refine Pure.of (acalls_of_vc (drawOk W) Tryz.func19 rfl (by decide) (by decide) rfl ?_)
        (refine g0_ ?_; repeat ((first | refine n1_ fun b_ => ?_ | refine n2_ fun b_ => ?_ | refine Nat1.mk fun q_ hq_ => ?_ | refine em_ fun x_ hx_ => ?_ | refine Elem1.mk fun e_ he_ => ?_); refine g0_ ?_))
        (refine g1_ ?_; repeat ((first | refine n1_ fun b_ => ?_ | refine n2_ fun b_ => ?_ | refine Nat1.mk fun q_ hq_ => ?_ | refine em_ fun x_ hx_ => ?_ | refine Elem1.mk fun e_ he_ => ?_); refine g1_ ?_))
        first | exact .refl _ | exact frz_bool (by simp <;> omega)
      · refine Pure.of (acalls_of_vc (drawOk W) Tryz.func19 rfl (by decide) (by decide) rfl ?_)
        (refine g0_ ?_; repeat ((first | refine n1_ fun b_ => ?_ | refine n2_ fun b_ => ?_ | refine Nat1.mk fun q_ hq_ => ?_ | refine em_ fun x_ hx_ => ?_ | refine Elem1.mk fun e_ he_ => ?_); refine g0_ ?_))
        (refine g1_ ?_; repeat ((first | refine n1_ fun b_ => ?_ | refine n2_ fun b_ => ?_ | refine Nat1.mk fun q_ hq_ => ?_ | refine em_ fun x_ hx_ => ?_ | refine Elem1.mk fun e_ he_ => ?_); refine g1_ ?_))
        first | exact .refl _ | exact frz_bool (by simp <;> omega)
theorem keycheck (k : Key) (hfm : formK k) (b : Bool) (hb : b = decide (kindK k)) : Pure Tryz.prog W 19 [encKey k] (.bool b) := by
  obtain ⟨kind, r, n, held⟩ := k
  unfold formK at hfm
  obtain ⟨hh, hk, hn⟩ := hfm
  dsimp only at *
  by_cases k1 : kind = 1
  · subst k1
    have hr : r ≠ 0 := hk.1 rfl
    have hn0 : n = 0 := by omega
    subst hn0
    exact check_rune W r held hh hr b hb
  · have hr : r = 0 := by omega
    subst hr
    unfold encKey
    dsimp only
    by_cases k2 : kind = 15
    · subst k2
      have hn0 : n ≠ 0 := by omega
      clear hk hn
      have hb2 : b = decide (1 ≤ n ∧ n ≤ 12) := hb
      clear hb
      by_cases hq : 1 ≤ n
      · by_cases hq2 : n ≤ 12
        · obtain rfl : b = true := by rw [hb2]; exact decide_eq_true ⟨hq, hq2⟩
          refine Pure.of (acalls_of_vc (drawOk W) Tryz.func19 rfl (by decide) (by decide) rfl ?_)
          (refine g0_ ?_; repeat ((first | refine n1_ fun b_ => ?_ | refine n2_ fun b_ => ?_ | refine Nat1.mk fun q_ hq_ => ?_ | refine em_ fun x_ hx_ => ?_ | refine Elem1.mk fun e_ he_ => ?_); refine g0_ ?_))
          (refine g1_ ?_; repeat ((first | refine n1_ fun b_ => ?_ | refine n2_ fun b_ => ?_ | refine Nat1.mk fun q_ hq_ => ?_ | refine em_ fun x_ hx_ => ?_ | refine Elem1.mk fun e_ he_ => ?_); refine g1_ ?_))
          first | exact .refl _ | exact frz_bool (by simp <;> omega)
        · obtain rfl : b = false := by rw [hb2]; exact decide_eq_false fun h => hq2 h.2
          refine Pure.of (acalls_of_vc (drawOk W) Tryz.func19 rfl (by decide) (by decide) rfl ?_)
          (refine g0_ ?_; repeat ((first | refine n1_ fun b_ => ?_ | refine n2_ fun b_ => ?_ | refine Nat1.mk fun q_ hq_ => ?_ | refine em_ fun x_ hx_ => ?_ | refine Elem1.mk fun e_ he_ => ?_); refine g0_ ?_))
          (refine g1_ ?_; repeat ((first | refine n1_ fun b_ => ?_ | refine n2_ fun b_ => ?_ | refine Nat1.mk fun q_ hq_ => ?_ | refine em_ fun x_ hx_ => ?_ | refine Elem1.mk fun e_ he_ => ?_); refine g1_ ?_))
          first | exact .refl _ | exact frz_bool (by simp <;> omega)
      · obtain rfl : b = false := by rw [hb2]; exact decide_eq_false fun h => hq h.1
        refine Pure.of (acalls_of_vc (drawOk W) Tryz.func19 rfl (by decide) (by decide) rfl ?_)
        (refine g0_ ?_; repeat ((first | refine n1_ fun b_ => ?_ | refine n2_ fun b_ => ?_ | refine Nat1.mk fun q_ hq_ => ?_ | refine em_ fun x_ hx_ => ?_ | refine Elem1.mk fun e_ he_ => ?_); refine g0_ ?_))
        (refine g1_ ?_; repeat ((first | refine n1_ fun b_ => ?_ | refine n2_ fun b_ => ?_ | refine Nat1.mk fun q_ hq_ => ?_ | refine em_ fun x_ hx_ => ?_ | refine Elem1.mk fun e_ he_ => ?_); refine g1_ ?_))
        first | exact .refl _ | exact frz_bool (by simp <;> omega)
    · have hn0 : n = 0 := by omega
      subst hn0
      clear hk hn
      unfold kindK at hb
      dsimp only at hb
      rcases (by omega : (kind = 2 ∨ kind = 4) ∨ kind = 3 ∨ kind = 5 ∨ (6 ≤ kind ∧ kind ≤ 14) ∨ (kind < 6 ∧ kind ≠ 2 ∧ kind ≠ 4 ∧ kind ≠ 3 ∧ kind ≠ 5) ∨ 14 < kind) with (rfl | rfl) | rfl | rfl | hq | hq | hq
      · subst hb
        rcases (by omega : held = 0 ∨ held = 1 ∨ held = 2 ∨ held = 3 ∨ held = 4 ∨ held = 5 ∨ held = 6 ∨ held = 7) with rfl | rfl | rfl | rfl | rfl | rfl | rfl | rfl
        all_goals
          refine Pure.of (acalls_of_vc (drawOk W) Tryz.func19 rfl (by decide) (by decide) rfl ?_)
          (refine g0_ ?_; repeat ((first | refine n1_ fun b_ => ?_ | refine n2_ fun b_ => ?_ | refine Nat1.mk fun q_ hq_ => ?_ | refine em_ fun x_ hx_ => ?_ | refine Elem1.mk fun e_ he_ => ?_); refine g0_ ?_))
          (refine g1_ ?_; repeat ((first | refine n1_ fun b_ => ?_ | refine n2_ fun b_ => ?_ | refine Nat1.mk fun q_ hq_ => ?_ | refine em_ fun x_ hx_ => ?_ | refine Elem1.mk fun e_ he_ => ?_); refine g1_ ?_))
          first | exact .refl _ | exact frz_bool (by simp <;> omega)
      · subst hb
        rcases (by omega : held = 0 ∨ held = 1 ∨ held = 2 ∨ held = 3 ∨ held = 4 ∨ held = 5 ∨ held = 6 ∨ held = 7) with rfl | rfl | rfl | rfl | rfl | rfl | rfl | rfl
        all_goals
          refine Pure.of (acalls_of_vc (drawOk W) Tryz.func19 rfl (by decide) (by decide) rfl ?_)
          (refine g0_ ?_; repeat ((first | refine n1_ fun b_ => ?_ | refine n2_ fun b_ => ?_ | refine Nat1.mk fun q_ hq_ => ?_ | refine em_ fun x_ hx_ => ?_ | refine Elem1.mk fun e_ he_ => ?_); refine g0_ ?_))
          (refine g1_ ?_; repeat ((first | refine n1_ fun b_ => ?_ | refine n2_ fun b_ => ?_ | refine Nat1.mk fun q_ hq_ => ?_ | refine em_ fun x_ hx_ => ?_ | refine Elem1.mk fun e_ he_ => ?_); refine g1_ ?_))
          first | exact .refl _ | exact frz_bool (by simp <;> omega)
      · subst hb
        rcases (by omega : held = 0 ∨ held = 1 ∨ held = 2 ∨ held = 3 ∨ held = 4 ∨ held = 5 ∨ held = 6 ∨ held = 7) with rfl | rfl | rfl | rfl | rfl | rfl | rfl | rfl
        all_goals
          refine Pure.of (acalls_of_vc (drawOk W) Tryz.func19 rfl (by decide) (by decide) rfl ?_)
          (refine g0_ ?_; repeat ((first | refine n1_ fun b_ => ?_ | refine n2_ fun b_ => ?_ | refine Nat1.mk fun q_ hq_ => ?_ | refine em_ fun x_ hx_ => ?_ | refine Elem1.mk fun e_ he_ => ?_); refine g0_ ?_))
          (refine g1_ ?_; repeat ((first | refine n1_ fun b_ => ?_ | refine n2_ fun b_ => ?_ | refine Nat1.mk fun q_ hq_ => ?_ | refine em_ fun x_ hx_ => ?_ | refine Elem1.mk fun e_ he_ => ?_); refine g1_ ?_))
          first | exact .refl _ | exact frz_bool (by simp <;> omega)
      · subst hb
        rcases (by omega : held = 0 ∨ held = 1 ∨ held = 2 ∨ held = 3 ∨ held = 4 ∨ held = 5 ∨ held = 6 ∨ held = 7) with rfl | rfl | rfl | rfl | rfl | rfl | rfl | rfl
        all_goals
          refine Pure.of (acalls_of_vc (drawOk W) Tryz.func19 rfl (by decide) (by decide) rfl ?_)
          (refine g0_ ?_; repeat ((first | refine n1_ fun b_ => ?_ | refine n2_ fun b_ => ?_ | refine Nat1.mk fun q_ hq_ => ?_ | refine em_ fun x_ hx_ => ?_ | refine Elem1.mk fun e_ he_ => ?_); refine g0_ ?_))
          (refine g1_ ?_; repeat ((first | refine n1_ fun b_ => ?_ | refine n2_ fun b_ => ?_ | refine Nat1.mk fun q_ hq_ => ?_ | refine em_ fun x_ hx_ => ?_ | refine Elem1.mk fun e_ he_ => ?_); refine g1_ ?_))
          first | exact .refl _ | exact frz_bool (by simp <;> omega)
      · obtain rfl : b = true := by rw [hb]; exact decide_eq_true (by rw [if_neg (by omega), if_neg (by omega), if_neg (by omega), if_neg (by omega), if_neg (by omega)]; omega)
        clear hb
        refine Pure.of (acalls_of_vc (drawOk W) Tryz.func19 rfl (by decide) (by decide) rfl ?_)
        (refine g0_ ?_; repeat ((first | refine n1_ fun b_ => ?_ | refine n2_ fun b_ => ?_ | refine Nat1.mk fun q_ hq_ => ?_ | refine em_ fun x_ hx_ => ?_ | refine Elem1.mk fun e_ he_ => ?_); refine g0_ ?_))
        (refine g1_ ?_; repeat ((first | refine n1_ fun b_ => ?_ | refine n2_ fun b_ => ?_ | refine Nat1.mk fun q_ hq_ => ?_ | refine em_ fun x_ hx_ => ?_ | refine Elem1.mk fun e_ he_ => ?_); refine g1_ ?_))
        first | exact .refl _ | exact frz_bool (by simp <;> omega)
      · obtain rfl : b = false := by rw [hb]; exact decide_eq_false (by rw [if_neg (by omega), if_neg (by omega), if_neg (by omega), if_neg (by omega), if_neg (by omega)]; omega)
        clear hb
        refine Pure.of (acalls_of_vc (drawOk W) Tryz.func19 rfl (by decide) (by decide) rfl ?_)
        (refine g0_ ?_; repeat ((first | refine n1_ fun b_ => ?_ | refine n2_ fun b_ => ?_ | refine Nat1.mk fun q_ hq_ => ?_ | refine em_ fun x_ hx_ => ?_ | refine Elem1.mk fun e_ he_ => ?_); refine g0_ ?_))
        (refine g1_ ?_; repeat ((first | refine n1_ fun b_ => ?_ | refine n2_ fun b_ => ?_ | refine Nat1.mk fun q_ hq_ => ?_ | refine em_ fun x_ hx_ => ?_ | refine Elem1.mk fun e_ he_ => ?_); refine g1_ ?_))
        first | exact .refl _ | exact frz_bool (by simp <;> omega)
      · obtain rfl : b = false := by rw [hb]; exact decide_eq_false (by rw [if_neg (by omega), if_neg (by omega), if_neg (by omega), if_neg (by omega), if_neg (by omega)]; omega)
        clear hb
        refine Pure.of (acalls_of_vc (drawOk W) Tryz.func19 rfl (by decide) (by decide) rfl ?_)
        (refine g0_ ?_; repeat ((first | refine n1_ fun b_ => ?_ | refine n2_ fun b_ => ?_ | refine Nat1.mk fun q_ hq_ => ?_ | refine em_ fun x_ hx_ => ?_ | refine Elem1.mk fun e_ he_ => ?_); refine g0_ ?_))
        (refine g1_ ?_; repeat ((first | refine n1_ fun b_ => ?_ | refine n2_ fun b_ => ?_ | refine Nat1.mk fun q_ hq_ => ?_ | refine em_ fun x_ hx_ => ?_ | refine Elem1.mk fun e_ he_ => ?_); refine g1_ ?_))
        first | exact .refl _ | exact frz_bool (by simp <;> omega)
theorem kcheck_ok (k : Key) : Pure Tryz.prog W 19 [encKey k] (.bool (decide (isKey k))) := by
  by_cases hfm : formK k
  · exact keycheck W k hfm _ (decide_eq_decide.2 ⟨fun h => h.2, fun h => ⟨hfm, h⟩⟩)
  · rw [decide_eq_false fun h : isKey k => hfm h.1]
    exact check_form W k hfm
end Go.Eng.YtbaokhehnilneaaGreatDoor
end

/- Keys: how they are told (b_ x_ q_ e_). -/
section
namespace Go.Eng.YtbaokhehnilneaaGreatDoor
open Go Go.Eng Go.Proofs
variable (W : World)
set_option linter.unusedSimpArgs false
set_option maxRecDepth 100000
set_option linter.unusedVariables false
set_option maxHeartbeats 8000000
theorem write_bad (k : Key) (pad : Bool) (hk : ¬ isKey k) : Pure Tryz.prog W 29 [encKey k, .bool pad] (.tup [.str [], .int .i64 5]) := by
  have hc := kcheck_ok W k
  rw [decide_eq_false hk] at hc
  clear hk
  obtain ⟨kind, r, n, held⟩ := k
  unfold encKey at hc ⊢
  dsimp only at hc ⊢
  refine Pure.of (acalls_of_vc (drawOk W) Tryz.func29 rfl (by decide) (by decide) rfl ?_)
  (refine g0_ ?_; repeat ((first | refine n1_ fun b_ => ?_ | refine n2_ fun b_ => ?_ | refine Nat1.mk fun q_ hq_ => ?_ | refine em_ fun x_ hx_ => ?_ | refine Elem1.mk fun e_ he_ => ?_); refine g0_ ?_))
  refine (hc).use ?_; (refine g0_ ?_; repeat ((first | refine n1_ fun b_ => ?_ | refine n2_ fun b_ => ?_ | refine Nat1.mk fun q_ hq_ => ?_ | refine em_ fun x_ hx_ => ?_ | refine Elem1.mk fun e_ he_ => ?_); refine g0_ ?_))
  (refine g0_ ?_; repeat ((first | refine n1_ fun b_ => ?_ | refine n2_ fun b_ => ?_ | refine Nat1.mk fun q_ hq_ => ?_ | refine em_ fun x_ hx_ => ?_ | refine Elem1.mk fun e_ he_ => ?_); refine g0_ ?_))
  exact .refl _
theorem write_rune (r held : Int) (pad : Bool) (hk : isKey ⟨1, r, 0, held⟩) : Pure Tryz.prog W 29 [encKey ⟨1, r, 0, held⟩, .bool pad] (.tup [.str (writeK ⟨1, r, 0, held⟩ pad), .int .i64 0]) := by
  have hc := kcheck_ok W ⟨1, r, 0, held⟩
  rw [decide_eq_true hk] at hc
  have hk2 := hk.2
  clear hk
  unfold kindK at hk2
  dsimp only at hk2
  rw [if_pos rfl] at hk2
  unfold writeK altK
  dsimp only
  rw [if_pos rfl]
  unfold encKey at hc ⊢
  dsimp only at hc ⊢
  by_cases h4 : 4 ≤ held
  · rw [if_pos h4] at hk2 ⊢
    obtain ⟨hh, hc2⟩ := hk2
    unfold ctrlR at hc2
    obtain ⟨c, rfl, hc1⟩ : ∃ c : Nat, r = c + 96 ∧ 1 ≤ c ∧ c ≤ 26 := ⟨(r - 96).toNat, by omega, by omega, by omega⟩
    clear hc2
    rw [show ((c : Int) + 96 - 96).toNat = c by omega]
    rcases hh with rfl | rfl
    all_goals
      refine Pure.of (acalls_of_vc (drawOk W) Tryz.func29 rfl (by decide) (by decide) rfl ?_)
      (refine g0_ ?_; repeat ((first | refine n1_ fun b_ => ?_ | refine n2_ fun b_ => ?_ | refine Nat1.mk fun q_ hq_ => ?_ | refine em_ fun x_ hx_ => ?_ | refine Elem1.mk fun e_ he_ => ?_); refine g0_ ?_))
      refine (hc).use ?_; (refine g0_ ?_; repeat ((first | refine n1_ fun b_ => ?_ | refine n2_ fun b_ => ?_ | refine Nat1.mk fun q_ hq_ => ?_ | refine em_ fun x_ hx_ => ?_ | refine Elem1.mk fun e_ he_ => ?_); refine g0_ ?_))
      (refine g1_ ?_; repeat ((first | refine n1_ fun b_ => ?_ | refine n2_ fun b_ => ?_ | refine Nat1.mk fun q_ hq_ => ?_ | refine em_ fun x_ hx_ => ?_ | refine Elem1.mk fun e_ he_ => ?_); refine g1_ ?_))
      refine .inl ?_
      (refine g0_ ?_; repeat ((first | refine n1_ fun b_ => ?_ | refine n2_ fun b_ => ?_ | refine Nat1.mk fun q_ hq_ => ?_ | refine em_ fun x_ hx_ => ?_ | refine Elem1.mk fun e_ he_ => ?_); refine g0_ ?_))
      (refine g1_ ?_; repeat ((first | refine n1_ fun b_ => ?_ | refine n2_ fun b_ => ?_ | refine Nat1.mk fun q_ hq_ => ?_ | refine em_ fun x_ hx_ => ?_ | refine Elem1.mk fun e_ he_ => ?_); refine g1_ ?_))
      refine ⟨[(c : Int)], by rw [show (↑c + 96 - 97 + 1 : Int) = c by omega]; rfl, ?_⟩
      (refine g0_ ?_; repeat ((first | refine n1_ fun b_ => ?_ | refine n2_ fun b_ => ?_ | refine Nat1.mk fun q_ hq_ => ?_ | refine em_ fun x_ hx_ => ?_ | refine Elem1.mk fun e_ he_ => ?_); refine g0_ ?_))
      exact .refl _
  · rw [if_neg h4] at hk2 ⊢
    obtain ⟨hh, hc2⟩ := hk2
    unfold runeR at hc2
    have hv := hc2.2.1
    clear hc2
    have hv2 : validR r := by
      have := of_decide_eq_true hv
      unfold validR
      omega
    rcases hh with rfl | rfl
    all_goals
      refine Pure.of (acalls_of_vc (drawOk W) Tryz.func29 rfl (by decide) (by decide) rfl ?_)
      (refine g0_ ?_; repeat ((first | refine n1_ fun b_ => ?_ | refine n2_ fun b_ => ?_ | refine Nat1.mk fun q_ hq_ => ?_ | refine em_ fun x_ hx_ => ?_ | refine Elem1.mk fun e_ he_ => ?_); refine g0_ ?_))
      refine (hc).use ?_; (refine g0_ ?_; repeat ((first | refine n1_ fun b_ => ?_ | refine n2_ fun b_ => ?_ | refine Nat1.mk fun q_ hq_ => ?_ | refine em_ fun x_ hx_ => ?_ | refine Elem1.mk fun e_ he_ => ?_); refine g0_ ?_))
      (refine g1_ ?_; repeat ((first | refine n1_ fun b_ => ?_ | refine n2_ fun b_ => ?_ | refine Nat1.mk fun q_ hq_ => ?_ | refine em_ fun x_ hx_ => ?_ | refine Elem1.mk fun e_ he_ => ?_); refine g1_ ?_))
      rw [enc_utf8]
      refine need.mk (by have := enc_le r; simp; omega) ?_
      (refine g0_ ?_; repeat ((first | refine n1_ fun b_ => ?_ | refine n2_ fun b_ => ?_ | refine Nat1.mk fun q_ hq_ => ?_ | refine em_ fun x_ hx_ => ?_ | refine Elem1.mk fun e_ he_ => ?_); refine g0_ ?_))
      exact .refl _
theorem writeK_rest {kind : Int} (h : 6 ≤ kind) (r n held : Int) (pad : Bool) : writeK ⟨kind, r, n, held⟩ pad = if letterK kind ≠ 0 then
    (if held ≠ 0 then [27, 91, 49, 59] ++ Lib.itoa (held + 1) ++ [UInt8.ofNat (letterK kind)]
     else if pad then [27, 79, UInt8.ofNat (letterK kind)] else [27, 91, UInt8.ofNat (letterK kind)])
  else [27, 91] ++ Lib.itoa (numberK ⟨kind, r, n, held⟩) ++ (if held ≠ 0 then [59] ++ Lib.itoa (held + 1) else []) ++ [126] := by
  unfold writeK
  dsimp only
  rw [if_neg (by omega), if_neg (by omega), if_neg (by omega), if_neg (by omega), if_neg (by omega)]
theorem number_bd (k : Key) (h : k.kind = 15 → 0 ≤ k.n ∧ k.n ≤ 12) : 0 ≤ numberK k ∧ numberK k ≤ 24 := by
  unfold numberK
  repeat' split
  all_goals try omega
  rename_i h15
  have := h h15
  generalize k.n = n at *
  rcases (by omega : n = 0 ∨ n = 1 ∨ n = 2 ∨ n = 3 ∨ n = 4 ∨ n = 5 ∨ n = 6 ∨ n = 7 ∨ n = 8 ∨ n = 9 ∨ n = 10 ∨ n = 11 ∨ n = 12) with rfl | rfl | rfl | rfl | rfl | rfl | rfl | rfl | rfl | rfl | rfl | rfl | rfl <;> decide
theorem itoa_len3 (n : Int) (h : 0 ≤ n ∧ n ≤ 100) : (Lib.itoa n).length ≤ 3 := by
  have key : ∀ m : Nat, m ≤ 100 → (Lib.itoa (m : Int)).length ≤ 3 := by decide +kernel
  have := key n.toNat (by omega)
  rwa [Int.toNat_of_nonneg h.1] at this
theorem write_rest (hN : Nums W) (k : Key) (pad : Bool) (hk : isKey k) (h6 : 6 ≤ k.kind) : Pure Tryz.prog W 29 [encKey k, .bool pad] (.tup [.str (writeK k pad), .int .i64 0]) := by
  have hc := kcheck_ok W k
  rw [decide_eq_true hk] at hc
  obtain ⟨kind, r, n, held⟩ := k
  have hf := hk.1
  have hk2 := hk.2
  clear hk
  unfold formK at hf
  unfold kindK at hk2
  dsimp only at *
  obtain ⟨hh, -, hn⟩ := hf
  have hn12 : kind = 15 → 0 ≤ n ∧ n ≤ 12 := fun h => by
    rw [if_neg (by omega), if_neg (by omega), if_neg (by omega), if_neg (by omega), if_pos h] at hk2
    omega
  clear hk2 hn
  have hl := letter_ok W kind
  have hno := number_ok W ⟨kind, r, n, held⟩ hn12
  have hnb := number_bd ⟨kind, r, n, held⟩ hn12
  rw [writeK_rest h6]
  have hi := itoa_ok W hN (held + 1) (by unfold i64ok; omega)
  have hil := itoa_len3 (held + 1) (by omega)
  unfold encKey at hc hno ⊢
  dsimp only at hc hno ⊢
  generalize numberK ⟨kind, r, n, held⟩ = N at *
  have hi2 := itoa_ok W hN N (by unfold i64ok; omega)
  have hil2 := itoa_len3 N (by omega)
  generalize letterK kind = L at *
  clear hn12
  generalize Lib.itoa N = IN at *
  generalize Lib.itoa (held + 1) = IH at *
  by_cases hL : L = 0
  · subst hL
    rw [if_neg (by simp)]
    by_cases h0 : held = 0
    · subst h0
      rw [if_neg (by simp), List.append_nil]
      refine Pure.of (acalls_of_vc (drawOk W) Tryz.func29 rfl (by decide) (by decide) rfl ?_)
      (refine g0_ ?_; repeat ((first | refine n1_ fun b_ => ?_ | refine n2_ fun b_ => ?_ | refine Nat1.mk fun q_ hq_ => ?_ | refine em_ fun x_ hx_ => ?_ | refine Elem1.mk fun e_ he_ => ?_); refine g0_ ?_))
      refine (hc).use ?_; (refine g0_ ?_; repeat ((first | refine n1_ fun b_ => ?_ | refine n2_ fun b_ => ?_ | refine Nat1.mk fun q_ hq_ => ?_ | refine em_ fun x_ hx_ => ?_ | refine Elem1.mk fun e_ he_ => ?_); refine g0_ ?_))
      (refine g1_ ?_; repeat ((first | refine n1_ fun b_ => ?_ | refine n2_ fun b_ => ?_ | refine Nat1.mk fun q_ hq_ => ?_ | refine em_ fun x_ hx_ => ?_ | refine Elem1.mk fun e_ he_ => ?_); refine g1_ ?_))
      refine (hl).use ?_; (refine g0_ ?_; repeat ((first | refine n1_ fun b_ => ?_ | refine n2_ fun b_ => ?_ | refine Nat1.mk fun q_ hq_ => ?_ | refine em_ fun x_ hx_ => ?_ | refine Elem1.mk fun e_ he_ => ?_); refine g0_ ?_))
      (refine g1_ ?_; repeat ((first | refine n1_ fun b_ => ?_ | refine n2_ fun b_ => ?_ | refine Nat1.mk fun q_ hq_ => ?_ | refine em_ fun x_ hx_ => ?_ | refine Elem1.mk fun e_ he_ => ?_); refine g1_ ?_))
      refine (hno).use ?_; (refine g0_ ?_; repeat ((first | refine n1_ fun b_ => ?_ | refine n2_ fun b_ => ?_ | refine Nat1.mk fun q_ hq_ => ?_ | refine em_ fun x_ hx_ => ?_ | refine Elem1.mk fun e_ he_ => ?_); refine g0_ ?_))
      (refine g0_ ?_; repeat ((first | refine n1_ fun b_ => ?_ | refine n2_ fun b_ => ?_ | refine Nat1.mk fun q_ hq_ => ?_ | refine em_ fun x_ hx_ => ?_ | refine Elem1.mk fun e_ he_ => ?_); refine g0_ ?_))
      refine (hi2).use ?_; (refine g0_ ?_; repeat ((first | refine n1_ fun b_ => ?_ | refine n2_ fun b_ => ?_ | refine Nat1.mk fun q_ hq_ => ?_ | refine em_ fun x_ hx_ => ?_ | refine Elem1.mk fun e_ he_ => ?_); refine g0_ ?_))
      (refine g1_ ?_; repeat ((first | refine n1_ fun b_ => ?_ | refine n2_ fun b_ => ?_ | refine Nat1.mk fun q_ hq_ => ?_ | refine em_ fun x_ hx_ => ?_ | refine Elem1.mk fun e_ he_ => ?_); refine g1_ ?_))
      exact .refl _
    · rw [if_pos h0]
      by_cases hb2 : bitop .and .i64 held 2 = 0
      all_goals
        refine Pure.of (acalls_of_vc (drawOk W) Tryz.func29 rfl (by decide) (by decide) rfl ?_)
        (refine g0_ ?_; repeat ((first | refine n1_ fun b_ => ?_ | refine n2_ fun b_ => ?_ | refine Nat1.mk fun q_ hq_ => ?_ | refine em_ fun x_ hx_ => ?_ | refine Elem1.mk fun e_ he_ => ?_); refine g0_ ?_))
        refine (hc).use ?_; (refine g0_ ?_; repeat ((first | refine n1_ fun b_ => ?_ | refine n2_ fun b_ => ?_ | refine Nat1.mk fun q_ hq_ => ?_ | refine em_ fun x_ hx_ => ?_ | refine Elem1.mk fun e_ he_ => ?_); refine g0_ ?_))
        (refine g1_ ?_; repeat ((first | refine n1_ fun b_ => ?_ | refine n2_ fun b_ => ?_ | refine Nat1.mk fun q_ hq_ => ?_ | refine em_ fun x_ hx_ => ?_ | refine Elem1.mk fun e_ he_ => ?_); refine g1_ ?_))
        refine (hl).use ?_; (refine g0_ ?_; repeat ((first | refine n1_ fun b_ => ?_ | refine n2_ fun b_ => ?_ | refine Nat1.mk fun q_ hq_ => ?_ | refine em_ fun x_ hx_ => ?_ | refine Elem1.mk fun e_ he_ => ?_); refine g0_ ?_))
        (refine g1_ ?_; repeat ((first | refine n1_ fun b_ => ?_ | refine n2_ fun b_ => ?_ | refine Nat1.mk fun q_ hq_ => ?_ | refine em_ fun x_ hx_ => ?_ | refine Elem1.mk fun e_ he_ => ?_); refine g1_ ?_))
        refine (hno).use ?_; (refine g0_ ?_; repeat ((first | refine n1_ fun b_ => ?_ | refine n2_ fun b_ => ?_ | refine Nat1.mk fun q_ hq_ => ?_ | refine em_ fun x_ hx_ => ?_ | refine Elem1.mk fun e_ he_ => ?_); refine g0_ ?_))
        (refine g0_ ?_; repeat ((first | refine n1_ fun b_ => ?_ | refine n2_ fun b_ => ?_ | refine Nat1.mk fun q_ hq_ => ?_ | refine em_ fun x_ hx_ => ?_ | refine Elem1.mk fun e_ he_ => ?_); refine g0_ ?_))
        refine (hi2).use ?_; (refine g0_ ?_; repeat ((first | refine n1_ fun b_ => ?_ | refine n2_ fun b_ => ?_ | refine Nat1.mk fun q_ hq_ => ?_ | refine em_ fun x_ hx_ => ?_ | refine Elem1.mk fun e_ he_ => ?_); refine g0_ ?_))
        (refine g1_ ?_; repeat ((first | refine n1_ fun b_ => ?_ | refine n2_ fun b_ => ?_ | refine Nat1.mk fun q_ hq_ => ?_ | refine em_ fun x_ hx_ => ?_ | refine Elem1.mk fun e_ he_ => ?_); refine g1_ ?_))
        refine (hi).use ?_; (refine g0_ ?_; repeat ((first | refine n1_ fun b_ => ?_ | refine n2_ fun b_ => ?_ | refine Nat1.mk fun q_ hq_ => ?_ | refine em_ fun x_ hx_ => ?_ | refine Elem1.mk fun e_ he_ => ?_); refine g0_ ?_))
        (refine g1_ ?_; repeat ((first | refine n1_ fun b_ => ?_ | refine n2_ fun b_ => ?_ | refine Nat1.mk fun q_ hq_ => ?_ | refine em_ fun x_ hx_ => ?_ | refine Elem1.mk fun e_ he_ => ?_); refine g1_ ?_))
        exact .refl _
  · rw [if_pos hL]
    by_cases h0 : held = 0
    · subst h0
      rw [if_neg (by simp)]
      cases pad
      · refine Pure.of (acalls_of_vc (drawOk W) Tryz.func29 rfl (by decide) (by decide) rfl ?_)
        (refine g0_ ?_; repeat ((first | refine n1_ fun b_ => ?_ | refine n2_ fun b_ => ?_ | refine Nat1.mk fun q_ hq_ => ?_ | refine em_ fun x_ hx_ => ?_ | refine Elem1.mk fun e_ he_ => ?_); refine g0_ ?_))
        refine (hc).use ?_; (refine g0_ ?_; repeat ((first | refine n1_ fun b_ => ?_ | refine n2_ fun b_ => ?_ | refine Nat1.mk fun q_ hq_ => ?_ | refine em_ fun x_ hx_ => ?_ | refine Elem1.mk fun e_ he_ => ?_); refine g0_ ?_))
        (refine g1_ ?_; repeat ((first | refine n1_ fun b_ => ?_ | refine n2_ fun b_ => ?_ | refine Nat1.mk fun q_ hq_ => ?_ | refine em_ fun x_ hx_ => ?_ | refine Elem1.mk fun e_ he_ => ?_); refine g1_ ?_))
        refine (hl).use ?_; (refine g0_ ?_; repeat ((first | refine n1_ fun b_ => ?_ | refine n2_ fun b_ => ?_ | refine Nat1.mk fun q_ hq_ => ?_ | refine em_ fun x_ hx_ => ?_ | refine Elem1.mk fun e_ he_ => ?_); refine g0_ ?_))
        (refine g1_ ?_; repeat ((first | refine n1_ fun b_ => ?_ | refine n2_ fun b_ => ?_ | refine Nat1.mk fun q_ hq_ => ?_ | refine em_ fun x_ hx_ => ?_ | refine Elem1.mk fun e_ he_ => ?_); refine g1_ ?_))
        refine .inl ?_
        (refine g0_ ?_; repeat ((first | refine n1_ fun b_ => ?_ | refine n2_ fun b_ => ?_ | refine Nat1.mk fun q_ hq_ => ?_ | refine em_ fun x_ hx_ => ?_ | refine Elem1.mk fun e_ he_ => ?_); refine g0_ ?_))
        refine ⟨[(L : Int)], rfl, ?_⟩
        (refine g0_ ?_; repeat ((first | refine n1_ fun b_ => ?_ | refine n2_ fun b_ => ?_ | refine Nat1.mk fun q_ hq_ => ?_ | refine em_ fun x_ hx_ => ?_ | refine Elem1.mk fun e_ he_ => ?_); refine g0_ ?_))
        exact .refl _
      · refine Pure.of (acalls_of_vc (drawOk W) Tryz.func29 rfl (by decide) (by decide) rfl ?_)
        (refine g0_ ?_; repeat ((first | refine n1_ fun b_ => ?_ | refine n2_ fun b_ => ?_ | refine Nat1.mk fun q_ hq_ => ?_ | refine em_ fun x_ hx_ => ?_ | refine Elem1.mk fun e_ he_ => ?_); refine g0_ ?_))
        refine (hc).use ?_; (refine g0_ ?_; repeat ((first | refine n1_ fun b_ => ?_ | refine n2_ fun b_ => ?_ | refine Nat1.mk fun q_ hq_ => ?_ | refine em_ fun x_ hx_ => ?_ | refine Elem1.mk fun e_ he_ => ?_); refine g0_ ?_))
        (refine g1_ ?_; repeat ((first | refine n1_ fun b_ => ?_ | refine n2_ fun b_ => ?_ | refine Nat1.mk fun q_ hq_ => ?_ | refine em_ fun x_ hx_ => ?_ | refine Elem1.mk fun e_ he_ => ?_); refine g1_ ?_))
        refine (hl).use ?_; (refine g0_ ?_; repeat ((first | refine n1_ fun b_ => ?_ | refine n2_ fun b_ => ?_ | refine Nat1.mk fun q_ hq_ => ?_ | refine em_ fun x_ hx_ => ?_ | refine Elem1.mk fun e_ he_ => ?_); refine g0_ ?_))
        (refine g1_ ?_; repeat ((first | refine n1_ fun b_ => ?_ | refine n2_ fun b_ => ?_ | refine Nat1.mk fun q_ hq_ => ?_ | refine em_ fun x_ hx_ => ?_ | refine Elem1.mk fun e_ he_ => ?_); refine g1_ ?_))
        refine .inl ?_
        (refine g0_ ?_; repeat ((first | refine n1_ fun b_ => ?_ | refine n2_ fun b_ => ?_ | refine Nat1.mk fun q_ hq_ => ?_ | refine em_ fun x_ hx_ => ?_ | refine Elem1.mk fun e_ he_ => ?_); refine g0_ ?_))
        refine ⟨[(L : Int)], rfl, ?_⟩
        (refine g0_ ?_; repeat ((first | refine n1_ fun b_ => ?_ | refine n2_ fun b_ => ?_ | refine Nat1.mk fun q_ hq_ => ?_ | refine em_ fun x_ hx_ => ?_ | refine Elem1.mk fun e_ he_ => ?_); refine g0_ ?_))
        exact .refl _
    · rw [if_pos h0]
      by_cases hb2 : bitop .and .i64 held 2 = 0
      all_goals
        refine Pure.of (acalls_of_vc (drawOk W) Tryz.func29 rfl (by decide) (by decide) rfl ?_)
        (refine g0_ ?_; repeat ((first | refine n1_ fun b_ => ?_ | refine n2_ fun b_ => ?_ | refine Nat1.mk fun q_ hq_ => ?_ | refine em_ fun x_ hx_ => ?_ | refine Elem1.mk fun e_ he_ => ?_); refine g0_ ?_))
        refine (hc).use ?_; (refine g0_ ?_; repeat ((first | refine n1_ fun b_ => ?_ | refine n2_ fun b_ => ?_ | refine Nat1.mk fun q_ hq_ => ?_ | refine em_ fun x_ hx_ => ?_ | refine Elem1.mk fun e_ he_ => ?_); refine g0_ ?_))
        (refine g1_ ?_; repeat ((first | refine n1_ fun b_ => ?_ | refine n2_ fun b_ => ?_ | refine Nat1.mk fun q_ hq_ => ?_ | refine em_ fun x_ hx_ => ?_ | refine Elem1.mk fun e_ he_ => ?_); refine g1_ ?_))
        refine (hl).use ?_; (refine g0_ ?_; repeat ((first | refine n1_ fun b_ => ?_ | refine n2_ fun b_ => ?_ | refine Nat1.mk fun q_ hq_ => ?_ | refine em_ fun x_ hx_ => ?_ | refine Elem1.mk fun e_ he_ => ?_); refine g0_ ?_))
        (refine g1_ ?_; repeat ((first | refine n1_ fun b_ => ?_ | refine n2_ fun b_ => ?_ | refine Nat1.mk fun q_ hq_ => ?_ | refine em_ fun x_ hx_ => ?_ | refine Elem1.mk fun e_ he_ => ?_); refine g1_ ?_))
        refine head_ ?_; (refine g0_ ?_; repeat ((first | refine n1_ fun b_ => ?_ | refine n2_ fun b_ => ?_ | refine Nat1.mk fun q_ hq_ => ?_ | refine em_ fun x_ hx_ => ?_ | refine Elem1.mk fun e_ he_ => ?_); refine g0_ ?_))
        refine ⟨_, (hi).quiet, ?_⟩; (refine g0_ ?_; repeat ((first | refine n1_ fun b_ => ?_ | refine n2_ fun b_ => ?_ | refine Nat1.mk fun q_ hq_ => ?_ | refine em_ fun x_ hx_ => ?_ | refine Elem1.mk fun e_ he_ => ?_); refine g0_ ?_))
        refine ⟨[(L : Int)], rfl, ?_⟩
        (refine g0_ ?_; repeat ((first | refine n1_ fun b_ => ?_ | refine n2_ fun b_ => ?_ | refine Nat1.mk fun q_ hq_ => ?_ | refine em_ fun x_ hx_ => ?_ | refine Elem1.mk fun e_ he_ => ?_); refine g0_ ?_))
        exact .refl _
theorem kwrite_ok (hN : Nums W) (k : Key) (pad : Bool) (hk : isKey k) : Pure Tryz.prog W 29 [encKey k, .bool pad] (.tup [.str (writeK k pad), .int .i64 0]) := by
  by_cases h6 : 6 ≤ k.kind
  · exact write_rest W hN k pad hk h6
  · have hc := kcheck_ok W k
    rw [decide_eq_true hk] at hc
    obtain ⟨kind, r, n, held⟩ := k
    have hf := hk.1
    have hk2 := hk.2
    unfold formK at hf
    unfold kindK at hk2
    dsimp only at *
    obtain ⟨hh, hr, hn⟩ := hf
    obtain rfl : n = 0 := by omega
    by_cases k1 : kind = 1
    · subst k1
      exact write_rune W r held pad hk
    · obtain rfl : r = 0 := by omega
      clear hk hr hn
      rw [if_neg k1] at hk2
      unfold encKey at hc ⊢
      dsimp only at hc ⊢
      by_cases k2 : kind = 2 ∨ kind = 4
      · rw [if_pos k2] at hk2
        rcases k2 with rfl | rfl <;> rcases hk2 with rfl | rfl
        all_goals
          refine Pure.of (acalls_of_vc (drawOk W) Tryz.func29 rfl (by decide) (by decide) rfl ?_)
          (refine g0_ ?_; repeat ((first | refine n1_ fun b_ => ?_ | refine n2_ fun b_ => ?_ | refine Nat1.mk fun q_ hq_ => ?_ | refine em_ fun x_ hx_ => ?_ | refine Elem1.mk fun e_ he_ => ?_); refine g0_ ?_))
          refine (hc).use ?_; (refine g0_ ?_; repeat ((first | refine n1_ fun b_ => ?_ | refine n2_ fun b_ => ?_ | refine Nat1.mk fun q_ hq_ => ?_ | refine em_ fun x_ hx_ => ?_ | refine Elem1.mk fun e_ he_ => ?_); refine g0_ ?_))
          (refine g1_ ?_; repeat ((first | refine n1_ fun b_ => ?_ | refine n2_ fun b_ => ?_ | refine Nat1.mk fun q_ hq_ => ?_ | refine em_ fun x_ hx_ => ?_ | refine Elem1.mk fun e_ he_ => ?_); refine g1_ ?_))
          exact .refl _
      · rw [if_neg k2] at hk2
        by_cases k3 : kind = 3
        · subst k3
          rw [if_pos rfl] at hk2
          rcases hk2 with rfl | rfl
          all_goals
            refine Pure.of (acalls_of_vc (drawOk W) Tryz.func29 rfl (by decide) (by decide) rfl ?_)
            (refine g0_ ?_; repeat ((first | refine n1_ fun b_ => ?_ | refine n2_ fun b_ => ?_ | refine Nat1.mk fun q_ hq_ => ?_ | refine em_ fun x_ hx_ => ?_ | refine Elem1.mk fun e_ he_ => ?_); refine g0_ ?_))
            refine (hc).use ?_; (refine g0_ ?_; repeat ((first | refine n1_ fun b_ => ?_ | refine n2_ fun b_ => ?_ | refine Nat1.mk fun q_ hq_ => ?_ | refine em_ fun x_ hx_ => ?_ | refine Elem1.mk fun e_ he_ => ?_); refine g0_ ?_))
            (refine g1_ ?_; repeat ((first | refine n1_ fun b_ => ?_ | refine n2_ fun b_ => ?_ | refine Nat1.mk fun q_ hq_ => ?_ | refine em_ fun x_ hx_ => ?_ | refine Elem1.mk fun e_ he_ => ?_); refine g1_ ?_))
            exact .refl _
        · rw [if_neg k3] at hk2
          by_cases k5 : kind = 5
          · subst k5
            rw [if_pos rfl] at hk2
            subst hk2
            refine Pure.of (acalls_of_vc (drawOk W) Tryz.func29 rfl (by decide) (by decide) rfl ?_)
            (refine g0_ ?_; repeat ((first | refine n1_ fun b_ => ?_ | refine n2_ fun b_ => ?_ | refine Nat1.mk fun q_ hq_ => ?_ | refine em_ fun x_ hx_ => ?_ | refine Elem1.mk fun e_ he_ => ?_); refine g0_ ?_))
            refine (hc).use ?_; (refine g0_ ?_; repeat ((first | refine n1_ fun b_ => ?_ | refine n2_ fun b_ => ?_ | refine Nat1.mk fun q_ hq_ => ?_ | refine em_ fun x_ hx_ => ?_ | refine Elem1.mk fun e_ he_ => ?_); refine g0_ ?_))
            (refine g1_ ?_; repeat ((first | refine n1_ fun b_ => ?_ | refine n2_ fun b_ => ?_ | refine Nat1.mk fun q_ hq_ => ?_ | refine em_ fun x_ hx_ => ?_ | refine Elem1.mk fun e_ he_ => ?_); refine g1_ ?_))
            exact .refl _
          · rw [if_neg k5, if_neg (by omega)] at hk2
            omega
end Go.Eng.YtbaokhehnilneaaGreatDoor
end
