/- Texts put together: ParseL, ParseL2, ParseL3. -/
import Derived.Test.YtkcldifniomfoaaDoorMT1
import Derived.Lib.DecodeN
/- The reader of escape sequences: plain. -/
section
namespace Go.Eng.YtkcldifniomfoaaDoor
open Go Go.Eng Go.Proofs
set_option linter.unusedSimpArgs false
set_option linter.unusedVariables false
/-! ### Runes that are whole -/
def gB (s : List UInt8) (i : Nat) : Nat := (s.getD i 0).toNat
theorem gB_lt (s : List UInt8) (i : Nat) : gB s i < 256 := UInt8.toNat_lt _
theorem dec_P {s : List UInt8} (h : s ≠ []) : dec s = Lib.decodeN s.length (gB s 0) (gB s 1) (gB s 2) (gB s 3) := by
  have hn : ¬ (⟨s.toArray⟩ : ByteArray).size = 0 := by simpa [ByteArray.size] using h
  rw [dec, Lib.decodeGo, if_neg hn, Lib.decode_at]
  have hg : ∀ i, (ByteArray.get! ⟨s.toArray⟩ i) = s.getD i 0 := fun i => by
    simp [ByteArray.get!, Array.getElem!_eq_getD, List.getD_eq_getElem?_getD, Array.getD_eq_getD_getElem?]
    rfl
  rw [hg, hg, hg, hg]
  rfl
/-- utf8.FullRuneInString. -/
def fullL (s : List UInt8) : Bool :=
  if s.length = 0 then false
  else if Lib.firstT (gB s 0) % 8 ≤ s.length then true
  else decide ((1 < s.length ∧ (gB s 1 < Lib.accLo (Lib.firstT (gB s 0) / 16) ∨ Lib.accHi (Lib.firstT (gB s 0) / 16) < gB s 1)) ∨ (2 < s.length ∧ (gB s 2 < 128 ∨ 191 < gB s 2)))
theorem full_ascii {s : List UInt8} (h : s ≠ []) (h0 : gB s 0 < 128) : fullL s = true := by
  have hl : s.length ≠ 0 := fun e => h (List.length_eq_zero_iff.1 e)
  rw [fullL, if_neg hl, if_pos]
  rw [Lib.firstT, if_pos h0]; omega
/-- A continuation byte at the head: it is whole, and wrong. -/
theorem full_cont {s : List UInt8} (h : s ≠ []) (h0 : 128 ≤ gB s 0) (h1 : gB s 0 < 194) : fullL s = true ∧ dec s = (65533, 1) := by
  have hl : s.length ≠ 0 := fun e => h (List.length_eq_zero_iff.1 e)
  constructor
  · rw [fullL, if_neg hl, if_pos]
    rw [Lib.firstT, if_neg (by omega), if_pos h1]; omega
  · rw [dec_P h, Lib.decodeN]
    repeat' split
    all_goals first | rfl | (exfalso; omega)
theorem len_eq {s : List UInt8} {n : Nat} (h : s.length = n + 1) : ∃ c r, s = c :: r ∧ r.length = n := by
  cases s with
  | nil => simp at h
  | cons c r => exact ⟨c, r, rfl, by simpa using h⟩
theorem first_spec (b : Nat) : Lib.firstT b % 8 ≤ 1 ∨ (Lib.firstT b / 16 ≤ 4 ∧ Lib.firstT b % 8 ≤ 4 ∧ 194 ≤ b) := by
  unfold Lib.firstT
  repeat' split
  all_goals omega
theorem first_big (b : Nat) : (2 < Lib.firstT b % 8 → 224 ≤ b) ∧ (3 < Lib.firstT b % 8 → 240 ≤ b) := by
  unfold Lib.firstT
  repeat' split
  all_goals omega
theorem acc_ge (i : Nat) (hi : i ≤ 4) : 128 ≤ Lib.accLo i ∧ Lib.accHi i ≤ 191 := by
  unfold Lib.accLo Lib.accHi
  repeat' split
  all_goals omega
/-- What is not whole is short, and of bytes from 128 on. -/
theorem part_spec {s : List UInt8} (h : s ≠ []) (hf : fullL s = false) : s.length ≤ 3 ∧ (1 < s.length → 224 ≤ gB s 0) ∧ (2 < s.length → 240 ≤ gB s 0) ∧ 194 ≤ gB s 0 ∧ (1 < s.length → 128 ≤ gB s 1 ∧ gB s 1 ≤ 191) ∧ (2 < s.length → 128 ≤ gB s 2 ∧ gB s 2 ≤ 191) := by
  have hl : s.length ≠ 0 := fun e => h (List.length_eq_zero_iff.1 e)
  rw [fullL, if_neg hl] at hf
  split at hf
  · cases hf
  rename_i h8
  have hd := of_decide_eq_false hf
  have hi : Lib.firstT (gB s 0) / 16 ≤ 4 ∧ Lib.firstT (gB s 0) % 8 ≤ 4 ∧ 194 ≤ gB s 0 := by
    rcases first_spec (gB s 0) with h1 | h1
    · omega
    · exact h1
  have ha := acc_ge _ hi.1
  have hb := first_big (gB s 0)
  refine ⟨by omega, fun h => hb.1 (by omega), fun h => hb.2 (by omega), hi.2.2, fun h1 => ?_, fun h2 => ?_⟩
  · constructor
    · refine Decidable.byContradiction fun hc => hd (.inl ⟨h1, .inl (by omega)⟩)
    · refine Decidable.byContradiction fun hc => hd (.inl ⟨h1, .inr (by omega)⟩)
  · constructor
    · refine Decidable.byContradiction fun hc => hd (.inr ⟨h2, .inl (by omega)⟩)
    · refine Decidable.byContradiction fun hc => hd (.inr ⟨h2, .inr (by omega)⟩)
theorem gB_cons (c : UInt8) (r : List UInt8) (i : Nat) : gB (c :: r) (i + 1) = gB r i := rfl
theorem gB_head (c : UInt8) (r : List UInt8) : gB (c :: r) 0 = c.toNat := rfl
theorem part_all {s : List UInt8} (hf : fullL s = false) : ∀ c ∈ s, 128 ≤ c.toNat := by
  by_cases h : s = []
  · subst h; intro c hc; cases hc
  obtain ⟨h1, k1, k2, h2, h3, h4⟩ := part_spec h hf
  intro c hc
  obtain ⟨i, hi, rfl⟩ := List.getElem_of_mem hc
  have e : s[i].toNat = gB s i := by rw [gB, List.getD_eq_getElem?_getD, List.getElem?_eq_getElem hi]; rfl
  rw [e]
  match i, hi with
  | 0, _ => omega
  | 1, hi => exact (h3 hi).1
  | 2, hi => exact (h4 hi).1
  | i + 3, hi => omega
/-- What is not whole, and behind it a byte below 128: it is whole, and wrong. -/
theorem part_ctl {s : List UInt8} (h : s ≠ []) (hf : fullL s = false) {c : UInt8} (hc : c.toNat < 128) : fullL (s ++ [c]) = true ∧ dec (s ++ [c]) = (65533, 1) := by
  obtain ⟨h1, k1, k2, h2, h3, h4⟩ := part_spec h hf
  have hn : s ++ [c] ≠ [] := by simp
  have hl : (s ++ [c]).length ≠ 0 := by simp
  have hln : (s ++ [c]).length = s.length + 1 := by simp
  have g0 : gB (s ++ [c]) 0 = gB s 0 := by
    cases s with
    | nil => exact absurd rfl h
    | cons a r => rfl
  have gl : gB (s ++ [c]) s.length = c.toNat := by rw [gB, List.getD_eq_getElem?_getD, List.getElem?_append_right (Nat.le_refl _), Nat.sub_self]; rfl
  have gi : ∀ i, i < s.length → gB (s ++ [c]) i = gB s i := fun i hi => by
    rw [gB, gB, List.getD_eq_getElem?_getD, List.getD_eq_getElem?_getD, List.getElem?_append_left hi]
  have hpos : 0 < s.length := List.length_pos_iff.2 h
  constructor
  · rw [fullL, if_neg hl]
    split
    · rfl
    · rename_i h8
      refine decide_eq_true ?_
      rw [hln] at h8 ⊢
      rw [g0] at h8 ⊢
      have ha : 128 ≤ Lib.accLo (Lib.firstT (gB s 0) / 16) := by
        rcases first_spec (gB s 0) with h9 | h9
        · omega
        · exact (acc_ge _ h9.1).1
      by_cases e1 : s.length = 1
      · left
        rw [e1] at gl
        exact ⟨by omega, .inl (by rw [gl]; omega)⟩
      · right
        refine ⟨by omega, .inl ?_⟩
        by_cases e2 : s.length = 2
        · rw [e2] at gl
          rw [gl]; exact hc
        · exfalso
          have : s.length = 3 := by omega
          rcases first_spec (gB s 0) with h9 | h9 <;> omega
  · rw [dec_P hn, hln, g0]
    have hz : s.length = 1 ∨ s.length = 2 ∨ s.length = 3 := by omega
    rcases hz with e | e | e
    · rw [e] at gl ⊢
      rw [gl]
      generalize gB (s ++ [c]) 2 = x2
      generalize gB (s ++ [c]) 3 = x3
      unfold Lib.decodeN
      repeat' split
      all_goals first | rfl | (exfalso; omega)
    · rw [e] at gl ⊢
      rw [gl]
      generalize gB (s ++ [c]) 1 = x1
      generalize gB (s ++ [c]) 3 = x3
      unfold Lib.decodeN
      repeat' split
      all_goals first | rfl | (exfalso; omega)
    · rw [e] at gl ⊢
      rw [gl]
      generalize gB (s ++ [c]) 1 = x1
      generalize gB (s ++ [c]) 2 = x2
      unfold Lib.decodeN
      repeat' split
      all_goals first | rfl | (exfalso; omega)
end Go.Eng.YtkcldifniomfoaaDoor
end

/- The reader of escape sequences: its steps; it stays right; plain. -/
section
namespace Go.Eng.YtkcldifniomfoaaDoor
open Go Go.Eng Go.Proofs
set_option linter.unusedSimpArgs false
set_option linter.unusedVariables false
/-- A state of the reader. -/
structure PSt where
  at_ : Int
  mark : UInt8
  middle : List UInt8
  params : List Int
  text : List UInt8
  left : List UInt8
  late : Bool
  deriving DecidableEq
/-- An event. -/
structure PEv where
  kind : Int
  r : Int
  final : UInt8
  mark : UInt8
  middle : List UInt8
  params : List Int
  text : List UInt8
  deriving DecidableEq
def st0 : PSt := ⟨0, 0, [], [], [], [], false⟩
def stAt (n : Int) : PSt := { st0 with at_ := n }
def ev0 : PEv := ⟨0, 0, 0, 0, [], [], []⟩
def printE (r : Int) : PEv := { ev0 with kind := 1, r := r }
def ctlE (b : UInt8) : PEv := { ev0 with kind := 2, r := b.toNat }
/-- A control byte, in all states but in commands of the system. -/
def ctlB (b : UInt8) : Bool := decide (b.toNat < 32 ∨ b.toNat = 127)
def ctlL (s : PSt) (b : UInt8) : PSt × List PEv :=
  if b.toNat = 27 then (stAt 1, [])
  else if b.toNat = 24 ∨ b.toNat = 26 then (st0, [])
  else if b.toNat < 32 then (s, [ctlE b])
  else (s, [])
/-- Runes that are whole are told. -/
def eatL : Nat → List UInt8 → List UInt8 × List PEv
  | 0, l => (l, [])
  | n + 1, l => if l = [] ∨ fullL l = false then (l, []) else ((eatL n (l.drop (dec l).2)).1, printE (dec l).1 :: (eatL n (l.drop (dec l).2)).2)
def groundL (s : PSt) (b : UInt8) : PSt × List PEv :=
  if ctlB b = true then
    ((ctlL { s with left := [] } b).1, s.left.map (fun _ => printE 65533) ++ (ctlL { s with left := [] } b).2)
  else ({ s with left := (eatL (s.left.length + 1) (s.left ++ [b])).1 }, (eatL (s.left.length + 1) (s.left ++ [b])).2)
def escL (s : PSt) (b : UInt8) : PSt × List PEv :=
  if ctlB b = true then ctlL s b
  else if b.toNat = 91 then (stAt 3, [])
  else if b.toNat = 93 then (stAt 4, [])
  else if b.toNat < 48 then ({ stAt 2 with middle := [b] }, [])
  else if b.toNat < 127 then (st0, [{ ev0 with kind := 3, final := b }])
  else (st0, [])
def midL (s : PSt) (b : UInt8) : PSt × List PEv :=
  if ctlB b = true then ctlL s b
  else if b.toNat < 48 ∧ s.middle.length < 2 then ({ s with middle := s.middle ++ [b] }, [])
  else if 48 ≤ b.toNat ∧ b.toNat < 127 then (st0, [{ ev0 with kind := 3, final := b, middle := s.middle }])
  else (st0, [])
def parL (p : List Int) : List Int := if p = [] then [-1] else p
def cmdL (s : PSt) (b : UInt8) : PSt × List PEv :=
  if ctlB b = true then ctlL s b
  else if (48 ≤ b.toNat ∧ b.toNat ≤ 57 ∨ b.toNat = 59) ∧ s.middle = [] then
    if 48 ≤ b.toNat ∧ b.toNat ≤ 57 then ({ s with params := (parL s.params).set ((parL s.params).length - 1) (min (max ((parL s.params).getD ((parL s.params).length - 1) 0) 0 * 10 + ((b.toNat : Int) - 48)) 9999) }, [])
    else if (parL s.params).length = 16 then (stAt 5, [])
    else ({ s with params := parL s.params ++ [-1] }, [])
  else if 60 ≤ b.toNat ∧ b.toNat ≤ 63 ∧ s.params = [] ∧ s.mark = 0 ∧ s.middle = [] then ({ s with mark := b }, [])
  else if b.toNat < 48 ∧ s.middle.length < 2 then ({ s with middle := s.middle ++ [b] }, [])
  else if 64 ≤ b.toNat ∧ b.toNat < 127 then (st0, [{ ev0 with kind := 4, final := b, mark := s.mark, middle := s.middle, params := s.params }])
  else if b.toNat < 128 then (stAt 5, [])
  else (st0, [])
def sysL (s : PSt) (b : UInt8) : PSt × List PEv :=
  if (s.late = true ∧ b.toNat = 92) ∨ (s.late = false ∧ b.toNat = 7) then (st0, [{ ev0 with kind := 5, text := s.text }])
  else if s.late = true then escL (stAt 1) b
  else if b.toNat = 27 then ({ s with late := true }, [])
  else if b.toNat = 24 ∨ b.toNat = 26 then (st0, [])
  else if b.toNat < 32 then (s, [])
  else if s.text.length = 64 then (s, [])
  else ({ s with text := s.text ++ [b] }, [])
def skipL (s : PSt) (b : UInt8) : PSt × List PEv :=
  if ctlB b = true then ctlL s b
  else if 64 ≤ b.toNat then (st0, [])
  else (s, [])
/-- A byte. -/
def stepL (s : PSt) (b : UInt8) : PSt × List PEv :=
  if s.at_ = 0 then groundL s b else if s.at_ = 1 then escL s b else if s.at_ = 2 then midL s b else if s.at_ = 3 then cmdL s b else if s.at_ = 4 then sysL s b else skipL s b
def feedL : PSt → List UInt8 → PSt × List PEv
  | s, [] => (s, [])
  | s, b :: r => ((feedL (stepL s b).1 r).1, (stepL s b).2 ++ (feedL (stepL s b).1 r).2)
theorem feedL_append : ∀ (a b : List UInt8) (s : PSt), feedL s (a ++ b) = ((feedL (feedL s a).1 b).1, (feedL s a).2 ++ (feedL (feedL s a).1 b).2)
  | [], b, s => by simp [feedL]
  | c :: a, b, s => by
    show ((feedL (stepL s c).1 (a ++ b)).1, (stepL s c).2 ++ (feedL (stepL s c).1 (a ++ b)).2) = _
    rw [feedL_append a b]
    simp [feedL]
/-! ### A state that is right -/
def midOk (m : List UInt8) : Prop := m.length ≤ 2 ∧ ∀ c ∈ m, 32 ≤ c.toNat ∧ c.toNat < 48
instance midOkD (m : List UInt8) : Decidable (midOk m) := by unfold midOk; exact inferInstance
def PSt.ok (s : PSt) : Prop :=
  (s.at_ = 0 ∧ (s.left = [] ∨ (128 ≤ gB s.left 0 ∧ fullL s.left = false)) ∧ s.text = [] ∧ s.late = false ∧ s.params = [] ∧ s.mark = 0 ∧ s.middle = []) ∨
  ((s.at_ = 1 ∨ s.at_ = 5) ∧ s.left = [] ∧ s.text = [] ∧ s.late = false ∧ s.params = [] ∧ s.mark = 0 ∧ s.middle = []) ∨
  (s.at_ = 2 ∧ midOk s.middle ∧ s.middle ≠ [] ∧ s.params = [] ∧ s.mark = 0 ∧ s.left = [] ∧ s.text = [] ∧ s.late = false) ∨
  (s.at_ = 3 ∧ midOk s.middle ∧ s.params.length ≤ 16 ∧ (s.mark = 0 ∨ (60 ≤ s.mark.toNat ∧ s.mark.toNat ≤ 63)) ∧ s.left = [] ∧ s.text = [] ∧ s.late = false ∧ ∀ n ∈ s.params, -1 ≤ n ∧ n ≤ 9999) ∨
  (s.at_ = 4 ∧ s.text.length ≤ 64 ∧ (∀ c ∈ s.text, 32 ≤ c.toNat) ∧ s.left = [] ∧ s.params = [] ∧ s.mark = 0 ∧ s.middle = [])
instance pstOkD (s : PSt) : Decidable s.ok := by unfold PSt.ok; exact inferInstance
theorem st0_ok : st0.ok := .inl ⟨rfl, .inl rfl, rfl, rfl, rfl, rfl, rfl⟩
theorem stAt_ok {n : Int} (h : n = 1 ∨ n = 3 ∨ n = 4 ∨ n = 5) : (stAt n).ok := by
  rcases h with rfl | rfl | rfl | rfl
  · exact .inr (.inl ⟨.inl rfl, rfl, rfl, rfl, rfl, rfl, rfl⟩)
  · exact .inr (.inr (.inr (.inl ⟨rfl, ⟨by decide, fun c hc => by cases hc⟩, by decide, .inl rfl, rfl, rfl, rfl, fun n hn => by cases hn⟩)))
  · exact .inr (.inr (.inr (.inr ⟨rfl, by decide, (fun c hc => by cases hc), rfl, rfl, rfl, rfl⟩)))
  · exact .inr (.inl ⟨.inr rfl, rfl, rfl, rfl, rfl, rfl, rfl⟩)
theorem ctlL_ok {s : PSt} (h : s.ok) (b : UInt8) : (ctlL s b).1.ok := by
  unfold ctlL
  split
  · exact stAt_ok (.inl rfl)
  split
  · exact st0_ok
  split <;> exact h
theorem eat_part : ∀ (n : Nat) (l : List UInt8), l.length ≤ n → (eatL n l).1 = [] ∨ (128 ≤ gB (eatL n l).1 0 ∧ fullL (eatL n l).1 = false)
  | 0, l, h => .inl (List.eq_nil_of_length_eq_zero (by show l.length = 0; omega))
  | n + 1, l, h => by
    rw [eatL]
    split
    · rename_i h1
      rcases h1 with h1 | h1
      · exact .inl h1
      · by_cases hl : l = []
        · exact .inl hl
        · have := part_spec hl h1
          exact .inr ⟨by show 128 ≤ gB l 0; omega, h1⟩
    · rename_i h1
      have hl : l ≠ [] := fun e => h1 (.inl e)
      have hp := dec_pos l hl
      exact eat_part n _ (by rw [List.length_drop]; omega)
theorem escL_ok {s : PSt} (h : s.ok) (b : UInt8) : (escL s b).1.ok := by
  unfold escL
  split
  · exact ctlL_ok h b
  rename_i hc
  have hc' : ¬ (b.toNat < 32 ∨ b.toNat = 127) := by simpa [ctlB] using hc
  split
  · exact stAt_ok (by omega)
  split
  · exact stAt_ok (by omega)
  split
  · refine .inr (.inr (.inl ⟨rfl, ⟨by show 1 ≤ 2; omega, fun c hc2 => ?_⟩, by simp [stAt, st0], rfl, rfl, rfl, rfl, rfl⟩))
    have : c = b := by simpa using hc2
    subst this; omega
  split <;> exact st0_ok
theorem midOk_snoc {m : List UInt8} (h : midOk m) (hl : m.length < 2) {b : UInt8} (h1 : 32 ≤ b.toNat) (h2 : b.toNat < 48) : midOk (m ++ [b]) := by
  refine ⟨by simp; omega, fun c hc => ?_⟩
  rcases List.mem_append.1 hc with hc | hc
  · exact h.2 c hc
  · have : c = b := by simpa using hc
    subst this; exact ⟨h1, h2⟩
theorem stepL_ok {s : PSt} (h : s.ok) (b : UInt8) : (stepL s b).1.ok := by
  have hcl : ctlB b = false → ¬ (b.toNat < 32 ∨ b.toNat = 127) := fun hc => by simpa [ctlB] using hc
  unfold stepL
  split
  · -- on the ground
    rename_i h0
    have hg : (s.left = [] ∨ (128 ≤ gB s.left 0 ∧ fullL s.left = false)) ∧ s.text = [] ∧ s.late = false ∧ s.params = [] ∧ s.mark = 0 ∧ s.middle = [] := by
      rcases h with h | h | h | h | h
      · exact h.2
      all_goals (exfalso; omega)
    unfold groundL
    split
    · exact ctlL_ok (s := { s with left := [] }) (.inl ⟨h0, .inl rfl, hg.2.1, hg.2.2.1, hg.2.2.2.1, hg.2.2.2.2.1, hg.2.2.2.2.2⟩) b
    · exact .inl ⟨h0, eat_part _ _ (by simp), hg.2.1, hg.2.2.1, hg.2.2.2.1, hg.2.2.2.2.1, hg.2.2.2.2.2⟩
  split
  · exact escL_ok h b
  split
  · rename_i h0
    have hg : midOk s.middle ∧ s.middle ≠ [] ∧ s.params = [] ∧ s.mark = 0 ∧ s.left = [] ∧ s.text = [] ∧ s.late = false := by
      rcases h with h | h | h | h | h
      · exfalso; omega
      · exfalso; omega
      · exact h.2
      all_goals (exfalso; omega)
    unfold midL
    split
    · exact ctlL_ok h b
    rename_i hc
    have hc' := hcl (by simpa using hc)
    split
    · rename_i h1
      exact .inr (.inr (.inl ⟨h0, midOk_snoc hg.1 h1.2 (by omega) h1.1, by simp, hg.2.2.1, hg.2.2.2.1, hg.2.2.2.2.1, hg.2.2.2.2.2.1, hg.2.2.2.2.2.2⟩))
    split <;> exact st0_ok
  split
  · rename_i h0
    have hg : midOk s.middle ∧ s.params.length ≤ 16 ∧ (s.mark = 0 ∨ (60 ≤ s.mark.toNat ∧ s.mark.toNat ≤ 63)) ∧ s.left = [] ∧ s.text = [] ∧ s.late = false ∧ ∀ n ∈ s.params, -1 ≤ n ∧ n ≤ 9999 := by
      rcases h with h | h | h | h | h
      · exfalso; omega
      · exfalso; omega
      · exfalso; omega
      · exact h.2
      · exfalso; omega
    obtain ⟨g1, g2, g3, g4, g5, g6, g7⟩ := hg
    have hp : ∀ n ∈ parL s.params, -1 ≤ n ∧ n ≤ 9999 := by
      unfold parL
      split
      · intro n hn
        have : n = -1 := by simpa using hn
        subst this; omega
      · exact g7
    have hpl : (parL s.params).length ≤ 16 := by
      unfold parL
      split
      · decide
      · exact g2
    unfold cmdL
    split
    · exact ctlL_ok h b
    rename_i hc
    have hc' := hcl (by simpa using hc)
    split
    · split
      · refine .inr (.inr (.inr (.inl ⟨h0, g1, by simpa using hpl, g3, g4, g5, g6, fun n hn => ?_⟩)))
        rcases List.mem_or_eq_of_mem_set hn with hn | rfl
        · exact hp n hn
        · omega
      split
      · exact stAt_ok (by omega)
      · refine .inr (.inr (.inr (.inl ⟨h0, g1, by simp; omega, g3, g4, g5, g6, fun n hn => ?_⟩)))
        rcases List.mem_append.1 hn with hn | hn
        · exact hp n hn
        · have : n = -1 := by simpa using hn
          subst this; omega
    split
    · rename_i h1
      exact .inr (.inr (.inr (.inl ⟨h0, g1, g2, .inr ⟨h1.1, h1.2.1⟩, g4, g5, g6, g7⟩)))
    split
    · rename_i h1
      exact .inr (.inr (.inr (.inl ⟨h0, midOk_snoc g1 h1.2 (by omega) h1.1, g2, g3, g4, g5, g6, g7⟩)))
    split
    · exact st0_ok
    split
    · exact stAt_ok (by omega)
    · exact st0_ok
  split
  · rename_i h0
    have hg : s.text.length ≤ 64 ∧ (∀ c ∈ s.text, 32 ≤ c.toNat) ∧ s.left = [] ∧ s.params = [] ∧ s.mark = 0 ∧ s.middle = [] := by
      rcases h with h | h | h | h | h
      · exfalso; omega
      · exfalso; omega
      · exfalso; omega
      · exfalso; omega
      · exact h.2
    obtain ⟨g1, g2, g3, g4, g5, g6⟩ := hg
    unfold sysL
    split
    · exact st0_ok
    split
    · exact escL_ok (stAt_ok (.inl rfl)) b
    split
    · exact .inr (.inr (.inr (.inr ⟨h0, g1, g2, g3, g4, g5, g6⟩)))
    split
    · exact st0_ok
    split
    · exact h
    split
    · exact h
    · refine .inr (.inr (.inr (.inr ⟨h0, by simp; omega, fun c hc => ?_, g3, g4, g5, g6⟩)))
      rcases List.mem_append.1 hc with hc | hc
      · exact g2 c hc
      · have : c = b := by simpa using hc
        subst this; omega
  · unfold skipL
    split
    · exact ctlL_ok h b
    split
    · exact st0_ok
    · exact h
theorem feedL_ok : ∀ (l : List UInt8) {s : PSt}, s.ok → (feedL s l).1.ok
  | [], _, h => h
  | b :: l, _, h => feedL_ok l (stepL_ok h b)
/-! ### The law ParseAlways -/
theorem step_24 {s : PSt} (h : s.ok) : (stepL s 24).1 = st0 := by
  have hc : ctlB 24 = true := by decide
  have hctl : ∀ s : PSt, (ctlL s 24).1 = st0 := fun s => rfl
  unfold stepL
  split
  · unfold groundL; rw [if_pos hc]; exact hctl { s with left := [] }
  split
  · unfold escL; rw [if_pos hc]; exact hctl _
  split
  · unfold midL; rw [if_pos hc]; exact hctl _
  split
  · unfold cmdL; rw [if_pos hc]; exact hctl _
  split
  · unfold sysL
    have e : (24 : UInt8).toNat = 24 := rfl
    rw [e, if_neg (by omega)]
    split
    · unfold escL; rw [if_pos hc]; rfl
    · rw [if_neg (by omega), if_pos (by omega)]
  · unfold skipL; rw [if_pos hc]; exact hctl _
theorem feed_always {s : PSt} (h : s.ok) : (feedL s [24, 24, 97]).1 = st0 ∧ ∃ es, (feedL s [24, 24, 97]).2 = es ++ [printE 97] := by
  have h1 := step_24 h
  have h2 : stepL st0 24 = (st0, []) := by decide +kernel
  have h3 : stepL st0 97 = (st0, [printE 97]) := by decide +kernel
  show (feedL (stepL s 24).1 [24, 97]).1 = st0 ∧ ∃ es, (stepL s 24).2 ++ (feedL (stepL s 24).1 [24, 97]).2 = es ++ [printE 97]
  rw [h1]
  show (feedL (stepL st0 24).1 [97]).1 = st0 ∧ ∃ es, (stepL s 24).2 ++ ((stepL st0 24).2 ++ (feedL (stepL st0 24).1 [97]).2) = es ++ [printE 97]
  rw [h2]
  show (feedL (stepL st0 97).1 []).1 = st0 ∧ ∃ es, (stepL s 24).2 ++ ([] ++ ((stepL st0 97).2 ++ (feedL (stepL st0 97).1 []).2)) = es ++ [printE 97]
  rw [h3]
  exact ⟨rfl, _, rfl⟩
end Go.Eng.YtkcldifniomfoaaDoor
end

/- The reader of escape sequences: what waits, and a control byte behind it; plain. -/
section
namespace Go.Eng.YtkcldifniomfoaaDoor
open Go Go.Eng Go.Proofs
set_option linter.unusedSimpArgs false
set_option linter.unusedVariables false
theorem eatL_fuel : ∀ (n : Nat) (l : List UInt8), l.length ≤ n → eatL n l = eatL l.length l := by
  intro n
  induction n using Nat.strongRecOn with
  | _ n ih =>
    intro l h
    cases n with
    | zero => rw [List.eq_nil_of_length_eq_zero (by omega : l.length = 0)]; rfl
    | succ n =>
      by_cases hl : l = []
      · subst hl; rfl
      obtain ⟨m, hm⟩ : ∃ m, l.length = m + 1 := ⟨l.length - 1, by have := List.length_pos_iff.2 hl; omega⟩
      rw [hm]
      have hp := dec_pos l hl
      have hd : (l.drop (dec l).2).length ≤ m := by rw [List.length_drop]; omega
      rw [eatL, eatL]
      split
      · rfl
      · rw [ih n (by omega) _ (by omega)]
        by_cases hmn : m = n
        · subst hmn; rw [ih m (by omega) _ hd]
        · rw [← ih m (by omega) _ hd]
theorem gB_drop (s : List UInt8) (k i : Nat) : gB (s.drop k) i = gB s (k + i) := by
  rw [gB, gB, List.getD_eq_getElem?_getD, List.getD_eq_getElem?_getD, List.getElem?_drop]
/-- What waits, or its end, and a byte below 128 behind it: a byte that is no rune. -/
theorem part_drop {s : List UInt8} (hf : fullL s = false) {c : UInt8} (hc : c.toNat < 128) {k : Nat} (hk : k < s.length) : fullL (s.drop k ++ [c]) = true ∧ dec (s.drop k ++ [c]) = (65533, 1) ∧ 128 ≤ gB (s.drop k ++ [c]) 0 := by
  have h : s ≠ [] := fun e => by rw [e] at hk; simp at hk
  obtain ⟨h1, k1, k2, h2, h3, h4⟩ := part_spec h hf
  have hg : gB (s.drop k ++ [c]) 0 = gB s k := by
    rw [gB, List.getD_eq_getElem?_getD, List.getElem?_append_left (by simp; omega), ← List.getD_eq_getElem?_getD]
    have := gB_drop s k 0
    rwa [gB, Nat.add_zero] at this
  match k, hk with
  | 0, _ =>
    have := part_ctl h hf hc
    rw [List.drop_zero]
    rw [List.drop_zero] at hg
    exact ⟨this.1, this.2, by rw [hg]; omega⟩
  | 1, hk =>
    have := h3 hk
    have h5 := full_cont (s := s.drop 1 ++ [c]) (by simp) (by rw [hg]; omega) (by rw [hg]; omega)
    exact ⟨h5.1, h5.2, by rw [hg]; omega⟩
  | 2, hk =>
    have := h4 hk
    have h5 := full_cont (s := s.drop 2 ++ [c]) (by simp) (by rw [hg]; omega) (by rw [hg]; omega)
    exact ⟨h5.1, h5.2, by rw [hg]; omega⟩
  | k + 3, hk => omega
theorem ctlB_iff (b : UInt8) : ctlB b = true ↔ b.toNat < 32 ∨ b.toNat = 127 := by simp [ctlB]
/-- The ground's bytes without a control byte: none of them is one. -/
theorem ground_head {s : List UInt8} (hf : s = [] ∨ fullL s = false) {b : UInt8} (hb : ctlB b = false) {k : Nat} (hk : k < (s ++ [b]).length) : 32 ≤ gB (s ++ [b]) k ∧ gB (s ++ [b]) k ≠ 127 := by
  have hb' : ¬ (b.toNat < 32 ∨ b.toNat = 127) := fun h => by rw [(ctlB_iff b).2 h] at hb; cases hb
  have key : ∀ c ∈ s ++ [b], 32 ≤ c.toNat ∧ c.toNat ≠ 127 := by
    intro c hc
    rcases List.mem_append.1 hc with hc | hc
    · rcases hf with hf | hf
      · rw [hf] at hc; cases hc
      · have := part_all hf c hc; omega
    · have : c = b := by simpa using hc
      subst this; omega
  rw [gB, List.getD_eq_getElem?_getD, List.getElem?_eq_getElem hk]
  exact key _ (List.getElem_mem _)
/-! ### The law ParseCuts: cut in two -/
theorem feed_cut (s : PSt) (b : List UInt8) (n : Nat) : (feedL s b).1 = (feedL (feedL s (b.take n)).1 (b.drop n)).1 ∧ (feedL s b).2 = (feedL s (b.take n)).2 ++ (feedL (feedL s (b.take n)).1 (b.drop n)).2 := by
  have h := feedL_append (b.take n) (b.drop n) s
  rw [List.take_append_drop] at h
  rw [h]
  exact ⟨rfl, rfl⟩
end Go.Eng.YtkcldifniomfoaaDoor
end
