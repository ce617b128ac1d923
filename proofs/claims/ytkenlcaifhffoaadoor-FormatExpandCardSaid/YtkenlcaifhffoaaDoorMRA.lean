/- Texts put together: RecH, RecQ, RecH2, LibS. -/
import Derived.Test.YtkenlcaifhffoaaDoorME10
import Derived.Test.YtkenlcaifhffoaaDoorME3
import Derived.Test.YtkenlcaifhffoaaDoorMR1
import Derived.Lib.Split
import Derived.Lib.AtoiAllCases
import Derived.Lib.ItoaMem
import Derived.Lib.IndexBytes
/- strconv.ParseUint at base 16 and two bytes. -/
section
namespace Go.Eng.YtkenlcaifhffoaaDoor
open Go Go.Eng Go.Proofs
variable (W : World)
set_option linter.unusedSimpArgs false
set_option maxRecDepth 100000
set_option linter.unusedVariables false
set_option maxHeartbeats 4000000
/-- What a byte is as a digit of sixteen. -/
def hexV (c : UInt8) : Option Nat :=
  if 48 ≤ c.toNat ∧ c.toNat ≤ 57 then some (c.toNat - 48)
  else if 97 ≤ c.toNat ∧ c.toNat ≤ 102 then some (c.toNat - 87)
  else if 65 ≤ c.toNat ∧ c.toNat ≤ 70 then some (c.toNat - 55)
  else none
def hex2 (a b : UInt8) : Option Nat := (hexV a).bind fun x => (hexV b).map fun y => 16 * x + y
/-- A letter, made small. -/
def lowC (c : UInt8) : Nat := (c ||| 32).toNat
end Go.Eng.YtkenlcaifhffoaaDoor
end

/- Recordings read: the plain laws, with no program in sight. -/
section
namespace Go.Eng.YtkenlcaifhffoaaDoor
open Go Go.Eng Go.Proofs
set_option linter.unusedSimpArgs false
set_option maxRecDepth 100000
set_option linter.unusedVariables false
set_option maxHeartbeats 4000000
theorem hexV_D : ∀ n < 16, hexV (hexD n) = some n := by decide +kernel
theorem hexD_plain : ∀ n < 16, (hexD n).toNat ≠ 37 ∧ 32 < (hexD n).toNat ∧ (hexD n).toNat < 127 := by decide +kernel
/-- The program's reading of what was quoted. -/
def unq : List UInt8 → Option (List UInt8)
  | [] => some []
  | [c] => if c.toNat = 37 then none else some [c]
  | [c, a] => if c.toNat = 37 then none else (unq [a]).map (c :: ·)
  | c :: a :: b :: t => if c.toNat = 37 then (hex2 a b).bind fun n => (unq t).map (UInt8.ofNat n :: ·) else (unq (a :: b :: t)).map (c :: ·)
/-- The document's. -/
def unqD : List UInt8 → List UInt8
  | [] => []
  | [c] => [c]
  | [c, a] => [c, a]
  | c :: a :: b :: t => if c.toNat = 37 then UInt8.ofNat ((hex2 a b).getD 0) :: unqD t else c :: unqD (a :: b :: t)
theorem unq_cons {c : UInt8} (h : c.toNat ≠ 37) (r : List UInt8) : unq (c :: r) = (unq r).map (c :: ·) := by
  match r with
  | [] => simp [unq, h]
  | [a] => simp [unq, h]
  | a :: b :: t => rw [unq, if_neg h]
theorem unqD_cons {c : UInt8} (h : c.toNat ≠ 37) (r : List UInt8) : unqD (c :: r) = c :: unqD r := by
  match r with
  | [] => simp [unqD]
  | [a] => simp [unqD]
  | a :: b :: t => rw [unqD, if_neg h]
theorem unq_quote : ∀ b : List UInt8, unq (quoteL b) = some b
  | [] => by simp [quoteL, unq]
  | c :: b => by
    have ih := unq_quote b
    rw [quoteL] at ih ⊢
    rw [List.flatMap_cons]
    by_cases h : 32 < c.toNat ∧ c.toNat < 127 ∧ c.toNat ≠ 37
    · rw [quoteB, if_pos h, List.singleton_append, unq_cons h.2.2, ih]; rfl
    · have hc := c.toNat_lt
      rw [quoteB, if_neg h]
      simp only [List.cons_append, List.nil_append]
      rw [unq, if_pos (by decide), hex2, hexV_D _ (by omega), hexV_D _ (by omega), ih]
      simp only [Option.bind_some, Option.map_some]
      rw [show 16 * (c.toNat / 16) + c.toNat % 16 = c.toNat by omega, UInt8.ofNat_toNat]
theorem unq_doc : ∀ (s b : List UInt8), unq s = some b → unqD s = b
  | [], b, h => by simp [unq] at h; simp [unqD, h]
  | [c], b, h => by
    by_cases hc : c.toNat = 37
    · simp [unq, hc] at h
    · simp [unq, hc] at h; simp [unqD, h]
  | [c, a], b, h => by
    by_cases hc : c.toNat = 37
    · simp [unq, hc] at h
    · by_cases ha : a.toNat = 37
      · simp [unq, hc, ha] at h
      · simp [unq, hc, ha] at h; simp [unqD, h]
  | c :: a :: e :: t, b, h => by
    by_cases hc : c.toNat = 37
    · rw [unq, if_pos hc] at h
      cases hx : hex2 a e with
      | none => rw [hx] at h; simp at h
      | some n =>
        rw [hx] at h
        simp only [Option.bind_some] at h
        cases ht : unq t with
        | none => rw [ht] at h; simp at h
        | some w =>
          rw [ht] at h
          simp only [Option.map_some, Option.some.injEq] at h
          rw [unqD, if_pos hc, hx, Option.getD_some, unq_doc t w ht, h]
    · rw [unq_cons hc] at h
      cases ht : unq (a :: e :: t) with
      | none => rw [ht] at h; simp at h
      | some w =>
        rw [ht] at h
        simp only [Option.map_some, Option.some.injEq] at h
        rw [unqD_cons hc, unq_doc _ w ht, h]
/-- Nothing that is quoted holds a blank or an end of a line. -/
theorem quoteL_plain (b : List UInt8) : ∀ c ∈ quoteL b, 32 < c.toNat := by
  intro c hc
  rw [quoteL, List.mem_flatMap] at hc
  obtain ⟨x, hx, hc⟩ := hc
  have hxl := x.toNat_lt
  unfold quoteB at hc
  split at hc
  · next h => rw [List.mem_singleton] at hc; subst hc; exact h.1
  · simp only [List.mem_cons, List.not_mem_nil, or_false] at hc
    rcases hc with rfl | rfl | rfl
    · decide
    · exact (hexD_plain _ (by omega)).2.1
    · exact (hexD_plain _ (by omega)).2.1
/-- A text, cut at each c. -/
def splt (c : UInt8) : List UInt8 → List (List UInt8)
  | [] => [[]]
  | x :: r => if x = c then [] :: splt c r else (x :: (splt c r).headD []) :: (splt c r).tail
theorem splt_ne (c : UInt8) (s : List UInt8) : splt c s ≠ [] := by
  cases s with
  | nil => simp [splt]
  | cons x r => rw [splt]; split <;> simp
theorem index_hit (c : UInt8) (r : List UInt8) : Lib.index (c :: r) [c] = 0 := by simp [Lib.index]
theorem index_miss {x c : UInt8} (h : x ≠ c) (r : List UInt8) : Lib.index (x :: r) [c] = if Lib.index r [c] = -1 then -1 else Lib.index r [c] + 1 := by
  rw [Lib.index]
  have : ([c].isPrefixOf (x :: r)) = false := by simp [List.isPrefixOf, Ne.symm h]
  simp [this]
/-- Parts, one behind the other with c between. -/
def joinC (c : UInt8) : List (List UInt8) → List UInt8
  | [] => []
  | [p] => p
  | p :: q :: l => p ++ c :: joinC c (q :: l)
theorem splt_plain (c : UInt8) : ∀ {p : List UInt8}, c ∉ p → splt c p = [p]
  | [], _ => rfl
  | x :: r, h => by
    rw [List.mem_cons, not_or] at h
    rw [splt, if_neg (Ne.symm h.1), splt_plain c h.2]; rfl
theorem splt_app (c : UInt8) (t : List UInt8) : ∀ {p : List UInt8}, c ∉ p → splt c (p ++ c :: t) = p :: splt c t
  | [], _ => by rw [List.nil_append, splt, if_pos rfl]
  | x :: r, h => by
    rw [List.mem_cons, not_or] at h
    rw [List.cons_append, splt, if_neg (Ne.symm h.1), splt_app c t h.2]; rfl
theorem splt_join (c : UInt8) : ∀ {l : List (List UInt8)}, l ≠ [] → (∀ p ∈ l, c ∉ p) → splt c (joinC c l) = l
  | [], h, _ => absurd rfl h
  | [p], _, h => splt_plain c (h p (by simp))
  | p :: q :: l, _, h => by
    rw [joinC, splt_app c _ (h p (by simp)), splt_join c (by simp) fun r hr => h r (List.mem_cons_of_mem _ hr)]
theorem join_splt (c : UInt8) : ∀ s : List UInt8, joinC c (splt c s) = s
  | [] => rfl
  | x :: r => by
    have ih := join_splt c r
    have hne := splt_ne c r
    rw [splt]
    obtain ⟨a, l, h⟩ : ∃ a l, splt c r = a :: l := List.exists_cons_of_ne_nil hne
    rw [h] at ih
    split
    · next hx => rw [h, joinC, ih, hx]; rfl
    · rw [h]
      simp only [List.headD_cons, List.tail_cons]
      cases l with
      | nil => rw [joinC] at ih ⊢; rw [ih]
      | cons b l => rw [joinC] at ih ⊢; rw [← ih]; rfl
theorem splt_mem (c : UInt8) : ∀ (s p : List UInt8), p ∈ splt c s → c ∉ p
  | [], p, h => by simp [splt] at h; simp [h]
  | x :: r, p, h => by
    rw [splt] at h
    obtain ⟨a, l, e⟩ : ∃ a l, splt c r = a :: l := List.exists_cons_of_ne_nil (splt_ne c r)
    have ih := splt_mem c r
    split at h
    · rcases List.mem_cons.1 h with rfl | h
      · simp
      · exact ih p h
    · next hx =>
      rw [e] at h ih
      simp only [List.headD_cons, List.tail_cons] at h
      rcases List.mem_cons.1 h with rfl | h
      · rw [List.mem_cons, not_or]
        exact ⟨Ne.symm hx, ih a (by simp)⟩
      · exact ih p (List.mem_cons_of_mem _ h)
/-- A number's digits are read as it. -/
theorem parseUint10_app : ∀ (l : List UInt8) (acc n : Nat) (d : Nat), Lib.parseUint10 acc l = .ok n → d < 10 → n * 10 + d < 18446744073709551616 → Lib.parseUint10 acc (l ++ [UInt8.ofNat (48 + d)]) = .ok (n * 10 + d)
  | [], acc, n, d, h, hd, hn => by
    simp only [Lib.parseUint10] at h
    injection h with h
    subst h
    have hc : (UInt8.ofNat (48 + d)).toNat = 48 + d := by simp; omega
    rw [List.nil_append, Lib.parseUint10, hc, if_pos (by omega), if_neg (by omega), if_neg (by omega), Lib.parseUint10, Nat.add_sub_cancel_left]
  | c :: r, acc, n, d, h, hd, hn => by
    rw [Lib.parseUint10] at h
    rw [List.cons_append, Lib.parseUint10]
    split at h
    · next hc =>
      rw [if_pos hc]
      split at h
      · cases h
      · next h1 =>
        rw [if_neg h1]
        split at h
        · cases h
        · next h2 =>
          rw [if_neg h2]
          exact parseUint10_app r _ n d h hd hn
    · cases h
theorem parse_digits (u : Nat) : u < 18446744073709551616 → Lib.parseUint10 0 (Lib.decDigits u) = .ok u := by
  induction u using Nat.strongRecOn with
  | _ u ih =>
    intro hu
    by_cases h : u < 10
    · rw [Lib.decDigits, dif_pos h]
      have := parseUint10_app [] 0 0 u rfl h (by omega)
      simpa using this
    · rw [Lib.decDigits, dif_neg h]
      have := parseUint10_app _ 0 (u / 10) (u % 10) (ih (u / 10) (by omega) (by omega)) (by omega) (by omega)
      rw [this, show u / 10 * 10 + u % 10 = u by omega]
theorem digits_mem (u : Nat) : ∀ c ∈ Lib.decDigits u, 48 ≤ c.toNat ∧ c.toNat ≤ 57 := by
  induction u using Nat.strongRecOn with
  | _ u ih =>
    by_cases h : u < 10
    · rw [Lib.decDigits, dif_pos h]
      intro c hc
      rw [List.mem_singleton] at hc
      subst hc
      have : (UInt8.ofNat (48 + u)).toNat = 48 + u := by simp; omega
      omega
    · rw [Lib.decDigits, dif_neg h]
      intro c hc
      rw [List.mem_append, List.mem_singleton] at hc
      rcases hc with hc | rfl
      · exact ih (u / 10) (by omega) c hc
      · have : (UInt8.ofNat (48 + u % 10)).toNat = 48 + u % 10 := by simp; omega
        omega
theorem digits_ne (u : Nat) : Lib.decDigits u ≠ [] := by
  rw [Lib.decDigits]; split <;> simp
theorem atoi_itoa (n : Int) (h0 : 0 ≤ n) (h1 : n ≤ 9223372036854775807) : Lib.atoiAll (Lib.itoa n) = .ok n := by
  obtain ⟨u, rfl⟩ : ∃ u : Nat, n = u := ⟨n.toNat, by omega⟩
  rw [Lib.itoa_nonneg]
  have hp := parse_digits u (by omega)
  have hm := digits_mem u
  obtain ⟨c, r, e⟩ : ∃ c r, Lib.decDigits u = c :: r := List.exists_cons_of_ne_nil (digits_ne u)
  have hc := hm c (by rw [e]; simp)
  rw [e] at hp ⊢
  rw [Lib.atoiAll_plain c r (by omega) (by omega), Lib.parseMag, if_neg (by simp), hp]
  simp only [Lib.signless]
  rw [if_neg (by omega)]
theorem itoa_plain (n : Int) : ∀ c ∈ Lib.itoa n, 32 < c.toNat := by
  intro c hc
  unfold Lib.itoa at hc
  split at hc
  · rcases List.mem_cons.1 hc with rfl | hc
    · decide
    · have := digits_mem _ c hc; omega
  · have := digits_mem _ c hc; omega
def sSays : List UInt8 := [115, 97, 121, 115]
def sStrikes : List UInt8 := [115, 116, 114, 105, 107, 101, 115]
def sSizes : List UInt8 := [115, 105, 122, 101, 115]
def sDrains : List UInt8 := [100, 114, 97, 105, 110, 115]
/-- Digits, as a number: what Atoi tells beside its error too. -/
def cntV (s : List UInt8) : Int := match Lib.atoiAll s with | .ok n => n | .syntax => 0 | .range => Lib.atoiSat s
def cntOk (s : List UInt8) : Bool := match Lib.atoiAll s with | .ok n => decide (0 ≤ n ∧ Lib.itoa n = s) | _ => false
theorem cntV_i64 (s : List UInt8) : i64ok (cntV s) := by
  unfold cntV
  cases h : Lib.atoiAll s with
  | ok n => have := Lib.atoiAll_bounds h; exact this
  | «syntax» =>
    show i64ok 0
    exact ⟨by decide, by decide⟩
  | range =>
    show i64ok (Lib.atoiSat s)
    unfold Lib.atoiSat
    split <;> exact ⟨by decide, by decide⟩
theorem cnt_of_ok {s : List UInt8} (h : cntOk s = true) : 0 ≤ cntV s ∧ Lib.itoa (cntV s) = s := by
  unfold cntOk at h
  unfold cntV
  split at h
  · next n e => rw [e]; exact of_decide_eq_true h
  · cases h
theorem cnt_itoa {n : Int} (h0 : 0 ≤ n) (h1 : i64ok n) : cntV (Lib.itoa n) = n ∧ cntOk (Lib.itoa n) = true := by
  unfold cntV cntOk
  rw [atoi_itoa n h0 h1.2]
  simp [h0]
/-- unquote, whole. -/
def unqV (s : List UInt8) : List UInt8 × Bool := match unq s with | some b => (b, decide (quoteL b = s)) | none => ([], false)
theorem unqV_of {s : List UInt8} (h : (unqV s).2 = true) : quoteL (unqV s).1 = s := by
  unfold unqV at h ⊢
  split at h
  · exact of_decide_eq_true h
  · cases h
theorem unqV_quote (b : List UInt8) : unqV (quoteL b) = (b, true) := by
  unfold unqV
  rw [unq_quote]; simp
/-- A line, as the program reads it. -/
def lineP (s : List UInt8) : Hap × Bool :=
  match splt 32 s with
  | w0 :: w1 :: r =>
    if cntOk w1 = false then (⟨0, cntV w1, [], 0, 0⟩, false)
    else if w0 = sSays ∧ r.length = 1 then (⟨1, cntV w1, (unqV (r.headD [])).1, 0, 0⟩, (unqV (r.headD [])).2 && checkH ⟨1, cntV w1, (unqV (r.headD [])).1, 0, 0⟩)
    else if w0 = sStrikes ∧ r.length = 1 then (⟨2, cntV w1, (unqV (r.headD [])).1, 0, 0⟩, (unqV (r.headD [])).2 && checkH ⟨2, cntV w1, (unqV (r.headD [])).1, 0, 0⟩)
    else if w0 = sSizes ∧ r.length = 2 then (⟨3, cntV w1, [], cntV (r.headD []), cntV (r.tail.headD [])⟩, (cntOk (r.headD []) && cntOk (r.tail.headD [])) && checkH ⟨3, cntV w1, [], cntV (r.headD []), cntV (r.tail.headD [])⟩)
    else if w0 = sDrains ∧ r.length = 0 then (⟨4, cntV w1, [], 0, 0⟩, checkH ⟨4, cntV w1, [], 0, 0⟩)
    else (⟨0, cntV w1, [], 0, 0⟩, false)
  | _ => (⟨0, 0, [], 0, 0⟩, false)
/-- As the document reads it: the happening, which then is told again. -/
def kindD (w0 : List UInt8) : Int := if w0 = sSays then 1 else if w0 = sStrikes then 2 else if w0 = sSizes then 3 else if w0 = sDrains then 4 else 0
def manyD (k : Int) : Nat := if k = 1 then 3 else if k = 2 then 3 else if k = 3 then 4 else if k = 4 then 2 else 0
def hapD (s : List UInt8) : Hap :=
  let l := splt 32 s
  let k := kindD (l.headD [])
  if k = 0 ∨ l.length ≠ manyD k then ⟨k, 0, [], 0, 0⟩
  else if k = 3 then ⟨k, cntV (l.getD 1 []), [], cntV (l.getD 2 []), cntV (l.getD 3 [])⟩
  else if l.length = 3 then ⟨k, cntV (l.getD 1 []), unqD (l.getD 2 []), 0, 0⟩
  else ⟨k, cntV (l.getD 1 []), [], 0, 0⟩
def goodD (s : List UInt8) : Bool :=
  let l := splt 32 s
  let k := kindD (l.headD [])
  if k = 0 ∨ l.length ≠ manyD k then false else checkH (hapD s) && decide (lineH (hapD s) = s)
theorem no32_itoa (n : Int) : (32 : UInt8) ∉ Lib.itoa n := fun h => by have := itoa_plain n _ h; revert this; decide
theorem no32_quote (b : List UInt8) : (32 : UInt8) ∉ quoteL b := fun h => by have := quoteL_plain b _ h; revert this; decide
theorem splt_says (w : List UInt8) (n : Int) (b : List UInt8) (hw : (32 : UInt8) ∉ w) : splt 32 (w ++ ([32] ++ Lib.itoa n) ++ [32] ++ quoteL b) = [w, Lib.itoa n, quoteL b] := by
  rw [← splt_join 32 (l := [w, Lib.itoa n, quoteL b]) (by simp) (by
    intro p hp
    simp only [List.mem_cons, List.not_mem_nil, or_false] at hp
    rcases hp with rfl | rfl | rfl
    · exact hw
    · exact no32_itoa n
    · exact no32_quote b)]
  simp [joinC]
theorem splt_sizes (n a b : Int) : splt 32 (sSizes ++ ([32] ++ Lib.itoa n) ++ [32] ++ Lib.itoa a ++ [32] ++ Lib.itoa b) = [sSizes, Lib.itoa n, Lib.itoa a, Lib.itoa b] := by
  rw [← splt_join 32 (l := [sSizes, Lib.itoa n, Lib.itoa a, Lib.itoa b]) (by simp) (by
    intro p hp
    simp only [List.mem_cons, List.not_mem_nil, or_false] at hp
    rcases hp with rfl | rfl | rfl | rfl
    · decide
    · exact no32_itoa _
    · exact no32_itoa _
    · exact no32_itoa _)]
  simp [joinC]
theorem splt_drains (n : Int) : splt 32 (sDrains ++ ([32] ++ Lib.itoa n)) = [sDrains, Lib.itoa n] := by
  rw [← splt_join 32 (l := [sDrains, Lib.itoa n]) (by simp) (by
    intro p hp
    simp only [List.mem_cons, List.not_mem_nil, or_false] at hp
    rcases hp with rfl | rfl
    · decide
    · exact no32_itoa _)]
  simp [joinC]
theorem hline1 (n : Int) (b : List UInt8) (w z : Int) : lineH ⟨1, n, b, w, z⟩ = sSays ++ ([32] ++ Lib.itoa n) ++ [32] ++ quoteL b := by rw [lineH, if_pos rfl]; rfl
theorem hline2 (n : Int) (b : List UInt8) (w z : Int) : lineH ⟨2, n, b, w, z⟩ = sStrikes ++ ([32] ++ Lib.itoa n) ++ [32] ++ quoteL b := by rw [lineH, if_neg (show ¬ (2 : Int) = 1 by decide), if_pos rfl]; rfl
theorem hline3 (n : Int) (b : List UInt8) (w z : Int) : lineH ⟨3, n, b, w, z⟩ = sSizes ++ ([32] ++ Lib.itoa n) ++ [32] ++ Lib.itoa w ++ [32] ++ Lib.itoa z := by rw [lineH, if_neg (show ¬ (3 : Int) = 1 by decide), if_neg (show ¬ (3 : Int) = 2 by decide), if_pos rfl]; rfl
theorem hline4 (n : Int) (b : List UInt8) (w z : Int) : lineH ⟨4, n, b, w, z⟩ = sDrains ++ ([32] ++ Lib.itoa n) := by rw [lineH, if_neg (show ¬ (4 : Int) = 1 by decide), if_neg (show ¬ (4 : Int) = 2 by decide), if_neg (show ¬ (4 : Int) = 3 by decide)]; rfl
theorem check1 {n : Int} {b : List UInt8} {w z : Int} (h : checkH ⟨1, n, b, w, z⟩ = true) : w = 0 ∧ z = 0 ∧ 0 ≤ n ∧ b.length ≤ 4000 := by
  rw [checkH, if_pos (.inl rfl)] at h; exact of_decide_eq_true h
theorem check2 {n : Int} {b : List UInt8} {w z : Int} (h : checkH ⟨2, n, b, w, z⟩ = true) : w = 0 ∧ z = 0 ∧ 0 ≤ n ∧ b.length ≤ 4000 := by
  rw [checkH, if_pos (.inr rfl)] at h; exact of_decide_eq_true h
theorem check3 {n : Int} {b : List UInt8} {w z : Int} (h : checkH ⟨3, n, b, w, z⟩ = true) : b = [] ∧ 0 ≤ n ∧ 0 < w ∧ 0 < z := by
  rw [checkH, if_neg (show ¬ ((3 : Int) = 1 ∨ (3 : Int) = 2) by decide), if_pos rfl] at h; exact of_decide_eq_true h
theorem check4 {n : Int} {b : List UInt8} {w z : Int} (h : checkH ⟨4, n, b, w, z⟩ = true) : b = [] ∧ 0 ≤ n ∧ w = 0 ∧ z = 0 := by
  rw [checkH, if_neg (show ¬ ((4 : Int) = 1 ∨ (4 : Int) = 2) by decide), if_neg (show ¬ (4 : Int) = 3 by decide), if_pos rfl] at h; exact of_decide_eq_true h
/-- What is told is read as it, by the program .. -/
theorem lineP_line {x : Hap} (h : checkH x = true) (hx : x.ok) : lineP (lineH x) = (x, true) := by
  obtain ⟨k, n, b, w, z⟩ := x
  obtain ⟨-, hn, hw, hz⟩ := hx
  have hk := check_kind h
  simp only at hk hn hw hz
  rcases hk with rfl | rfl | rfl | rfl
  · obtain ⟨rfl, rfl, h3, h4⟩ := check1 h
    have hc := cnt_itoa h3 hn
    rw [hline1, lineP, splt_says sSays n b (by decide)]
    simp [hc.1, hc.2, unqV_quote, h, sSays]
  · obtain ⟨rfl, rfl, h3, h4⟩ := check2 h
    have hc := cnt_itoa h3 hn
    rw [hline2, lineP, splt_says sStrikes n b (by decide)]
    simp [hc.1, hc.2, unqV_quote, h, sSays, sStrikes]
  · obtain ⟨rfl, h2, h3, h4⟩ := check3 h
    have hc := cnt_itoa h2 hn
    have hc1 := cnt_itoa (Int.le_of_lt h3) hw
    have hc2 := cnt_itoa (Int.le_of_lt h4) hz
    rw [hline3, lineP, splt_sizes]
    simp [hc.1, hc.2, hc1.1, hc1.2, hc2.1, hc2.2, h, sSays, sStrikes, sSizes]
  · obtain ⟨rfl, h2, rfl, rfl⟩ := check4 h
    have hc := cnt_itoa h2 hn
    rw [hline4, lineP, splt_drains]
    simp [hc.1, hc.2, h, sSays, sStrikes, sSizes, sDrains]
/-- .. and by the document. -/
theorem hapD_line {x : Hap} (h : checkH x = true) (hx : x.ok) : hapD (lineH x) = x ∧ goodD (lineH x) = true := by
  obtain ⟨k, n, b, w, z⟩ := x
  obtain ⟨-, hn, hw, hz⟩ := hx
  have hk := check_kind h
  simp only at hk hn hw hz
  have hu := fun b => unq_doc _ b (unq_quote b)
  rcases hk with rfl | rfl | rfl | rfl
  · obtain ⟨rfl, rfl, h3, h4⟩ := check1 h
    have hc := cnt_itoa h3 hn
    have he : hapD (lineH ⟨1, n, b, 0, 0⟩) = ⟨1, n, b, 0, 0⟩ := by
      rw [hline1, hapD, splt_says sSays n b (by decide)]
      simp [hc.1, hu, kindD, manyD, sSays]
    refine ⟨he, ?_⟩
    rw [goodD, he, h, hline1, splt_says sSays n b (by decide)]
    simp [kindD, manyD, sSays]
  · obtain ⟨rfl, rfl, h3, h4⟩ := check2 h
    have hc := cnt_itoa h3 hn
    have he : hapD (lineH ⟨2, n, b, 0, 0⟩) = ⟨2, n, b, 0, 0⟩ := by
      rw [hline2, hapD, splt_says sStrikes n b (by decide)]
      simp [hc.1, hu, kindD, manyD, sSays, sStrikes]
    refine ⟨he, ?_⟩
    rw [goodD, he, h, hline2, splt_says sStrikes n b (by decide)]
    simp [kindD, manyD, sSays, sStrikes]
  · obtain ⟨rfl, h2, h3, h4⟩ := check3 h
    have hc := cnt_itoa h2 hn
    have hc1 := cnt_itoa (Int.le_of_lt h3) hw
    have hc2 := cnt_itoa (Int.le_of_lt h4) hz
    have he : hapD (lineH ⟨3, n, [], w, z⟩) = ⟨3, n, [], w, z⟩ := by
      rw [hline3, hapD, splt_sizes]
      simp [hc.1, hc1.1, hc2.1, kindD, manyD, sSays, sStrikes, sSizes]
    refine ⟨he, ?_⟩
    rw [goodD, he, h, hline3, splt_sizes]
    simp [kindD, manyD, sSays, sStrikes, sSizes]
  · obtain ⟨rfl, h2, rfl, rfl⟩ := check4 h
    have hc := cnt_itoa h2 hn
    have he : hapD (lineH ⟨4, n, [], 0, 0⟩) = ⟨4, n, [], 0, 0⟩ := by
      rw [hline4, hapD, splt_drains]
      simp [hc.1, kindD, manyD, sSays, sStrikes, sSizes, sDrains]
    refine ⟨he, ?_⟩
    rw [goodD, he, h, hline4, splt_drains]
    simp [kindD, manyD, sSays, sStrikes, sSizes, sDrains]
/-- What the program takes is the line of what it read. -/
theorem lineP_of {s : List UInt8} (h : (lineP s).2 = true) : checkH (lineP s).1 = true ∧ (lineP s).1.ok ∧ lineH (lineP s).1 = s := by
  have hj := join_splt 32 s
  have k1 : i64ok 1 := ⟨by decide, by decide⟩
  have k2 : i64ok 2 := ⟨by decide, by decide⟩
  have k3 : i64ok 3 := ⟨by decide, by decide⟩
  have k4 : i64ok 4 := ⟨by decide, by decide⟩
  unfold lineP at h ⊢
  split at h
  · next w0 w1 r e =>
    rw [e] at hj
    by_cases h1 : cntOk w1 = false
    · rw [if_pos h1] at h; cases h
    · rw [if_neg h1] at h ⊢
      have hc := cnt_of_ok (by simpa using h1)
      have hi := cntV_i64 w1
      have z0 : i64ok 0 := ⟨by decide, by decide⟩
      by_cases c1 : w0 = sSays ∧ r.length = 1
      · rw [if_pos c1] at h ⊢
        simp only [Bool.and_eq_true] at h
        obtain ⟨b, rfl⟩ := List.length_eq_one_iff.1 c1.2
        refine ⟨h.2, ⟨k1, hi, z0, z0⟩, ?_⟩
        rw [hline1, hc.2]
        rw [List.headD_cons] at h ⊢
        rw [unqV_of h.1, ← c1.1, ← hj]; simp [joinC]
      · rw [if_neg c1] at h ⊢
        by_cases c2 : w0 = sStrikes ∧ r.length = 1
        · rw [if_pos c2] at h ⊢
          simp only [Bool.and_eq_true] at h
          obtain ⟨b, rfl⟩ := List.length_eq_one_iff.1 c2.2
          refine ⟨h.2, ⟨k2, hi, z0, z0⟩, ?_⟩
          rw [hline2, hc.2]
          rw [List.headD_cons] at h ⊢
          rw [unqV_of h.1, ← c2.1, ← hj]; simp [joinC]
        · rw [if_neg c2] at h ⊢
          by_cases c3 : w0 = sSizes ∧ r.length = 2
          · rw [if_pos c3] at h ⊢
            simp only [Bool.and_eq_true] at h
            obtain ⟨a, b, rfl⟩ : ∃ a b, r = [a, b] := by
              match r, c3.2 with
              | [a, b], _ => exact ⟨a, b, rfl⟩
            simp only [List.headD_cons, List.tail_cons] at h ⊢
            have ha := cnt_of_ok h.1.1
            have hb := cnt_of_ok h.1.2
            refine ⟨h.2, ⟨k3, hi, cntV_i64 a, cntV_i64 b⟩, ?_⟩
            rw [hline3, hc.2, ha.2, hb.2, ← c3.1, ← hj]; simp [joinC]
          · rw [if_neg c3] at h ⊢
            by_cases c4 : w0 = sDrains ∧ r.length = 0
            · rw [if_pos c4] at h ⊢
              obtain rfl := List.length_eq_zero_iff.1 c4.2
              refine ⟨h, ⟨k4, hi, z0, z0⟩, ?_⟩
              rw [hline4, hc.2, ← c4.1, ← hj]; simp [joinC]
            · rw [if_neg c4] at h; cases h
  · cases h
theorem hapD_ok (s : List UInt8) : (hapD s).ok := by
  have z0 : i64ok 0 := ⟨by decide, by decide⟩
  have hk : i64ok (kindD ((splt 32 s).headD [])) := by
    unfold kindD
    (repeat' split) <;> exact ⟨by decide, by decide⟩
  simp only [hapD]
  (repeat' split) <;> exact ⟨hk, by first | exact cntV_i64 _ | exact z0, by first | exact cntV_i64 _ | exact z0, by first | exact cntV_i64 _ | exact z0⟩
theorem goodD_of {s : List UInt8} (h : goodD s = true) : checkH (hapD s) = true ∧ lineH (hapD s) = s := by
  simp only [goodD] at h
  split at h
  · cases h
  · simpa using h
/-- Both take the same lines, and read the same. -/
theorem line_both (s : List UInt8) : (lineP s).2 = goodD s ∧ ((lineP s).2 = true → (lineP s).1 = hapD s) := by
  have hP : (lineP s).2 = true → goodD s = true ∧ (lineP s).1 = hapD s := by
    intro h
    obtain ⟨h1, h2, h3⟩ := lineP_of h
    have h4 := hapD_line h1 h2
    rw [h3] at h4
    exact ⟨h4.2, h4.1.symm⟩
  refine ⟨?_, fun h => (hP h).2⟩
  cases hg : goodD s with
  | false =>
    cases hp : (lineP s).2 with
    | false => rfl
    | true => rw [(hP hp).1] at hg; cases hg
  | true =>
    obtain ⟨h1, h2⟩ := goodD_of hg
    have := lineP_line h1 (hapD_ok s)
    rw [h2] at this
    rw [this]
/-- The lines before the last: the first that is none, or all of them. -/
def badAt (l : List (List UInt8)) : Option Nat := l.findIdx? fun t => !(lineP t).2
def parseP (s : List UInt8) : List Hap × Nat × Int :=
  if s = [] then ([], 0, 0)
  else if 201 < (splt 10 s).length then ([], 0, 2)
  else match badAt (splt 10 s).dropLast with
    | some i => ([], i, 1)
    | none => if (splt 10 s).getLast? = some [] then ((splt 10 s).dropLast.map fun t => (lineP t).1, 0, 0) else ([], (splt 10 s).length - 1, 1)
theorem index_app (c : UInt8) (t : List UInt8) : ∀ {p : List UInt8}, c ∉ p → Lib.index (p ++ c :: t) [c] = p.length
  | [], _ => index_hit c t
  | x :: r, h => by
    rw [List.mem_cons, not_or] at h
    rw [List.cons_append, index_miss (Ne.symm h.1), index_app c t h.2, if_neg (by omega), List.length_cons]; rfl
theorem index_none1 (c : UInt8) : ∀ {p : List UInt8}, c ∉ p → Lib.index p [c] = -1
  | [], _ => by simp [Lib.index]
  | x :: r, h => by
    rw [List.mem_cons, not_or] at h
    rw [index_miss (Ne.symm h.1), index_none1 c h.2, if_pos rfl]
theorem cut_app {c : UInt8} {p : List UInt8} (t : List UInt8) (h : c ∉ p) : Lib.cut (p ++ c :: t) [c] = (p, t, true) := by
  rw [Lib.cut, index_app c t h, if_pos (by omega)]; simp
theorem cut_none1 {c : UInt8} {p : List UInt8} (h : c ∉ p) : Lib.cut p [c] = (p, [], false) := by
  rw [Lib.cut, index_none1 c h, if_neg (by decide)]
/-- Where the document's loop stands, before line i. -/
structure AtLine (s0 : List UInt8) (i : Nat) (want : List Hap) (s : List UInt8) : Prop where
  lt : i < (splt 10 s0).length
  good : ∀ j t, j < i → (splt 10 s0)[j]? = some t → goodD t = true
  want : want = ((splt 10 s0).take i).map hapD
  rest : s = joinC 10 ((splt 10 s0).drop i)
theorem AtLine.zero (s0 : List UInt8) : AtLine s0 0 [] s0 where
  lt := by have := splt_ne 10 s0; exact List.length_pos_iff.2 this
  good := fun j t hj => absurd hj (Nat.not_lt_zero _)
  want := rfl
  rest := by rw [List.drop_zero, join_splt]
theorem AtLine.tail {s0 : List UInt8} {i : Nat} {want : List Hap} {s : List UInt8} (h : AtLine s0 i want s) : ∃ p l, (splt 10 s0).drop i = p :: l ∧ (splt 10 s0)[i]? = some p ∧ (splt 10 s0).drop (i + 1) = l ∧ (10 : UInt8) ∉ p := by
  have e := List.drop_eq_getElem_cons h.lt
  refine ⟨_, _, e, List.getElem?_eq_getElem h.lt, rfl, splt_mem 10 s0 _ (List.getElem_mem h.lt)⟩
theorem dropLast_take {α : Type} (l : List α) (i : Nat) (h : i + 1 = l.length) : l.dropLast = l.take i := by
  rw [List.dropLast_eq_take]; congr 1; omega
theorem badAt_none {l : List (List UInt8)} (h : ∀ t ∈ l, goodD t = true) : badAt l = none := by
  rw [badAt, List.findIdx?_eq_none_iff]
  intro t ht
  rw [(line_both t).1, h t ht]; rfl
theorem map_both {l : List (List UInt8)} (h : ∀ t ∈ l, goodD t = true) : (l.map fun t => (lineP t).1) = l.map hapD :=
  List.map_congr_left fun t ht => (line_both t).2 (by rw [(line_both t).1, h t ht])
theorem AtLine.goods {s0 : List UInt8} {i : Nat} {want : List Hap} {s : List UInt8} (h : AtLine s0 i want s) : ∀ t ∈ (splt 10 s0).take i, goodD t = true := by
  intro t ht
  obtain ⟨j, hj⟩ := List.getElem?_of_mem ht
  rw [List.getElem?_take] at hj
  split at hj
  · next hlt => exact h.good j t hlt hj
  · cases hj
/-- Nothing is left: all was read. -/
theorem AtLine.done {s0 : List UInt8} {i : Nat} {want : List Hap} (h : AtLine s0 i want []) (hn : (splt 10 s0).length ≤ 201) : parseP s0 = (want, 0, 0) := by
  obtain ⟨p, l, e, hi, hl, hp⟩ := h.tail
  have hr := h.rest
  rw [e] at hr
  have hl' : l = [] ∧ p = [] := by
    cases l with
    | nil => rw [joinC] at hr; exact ⟨rfl, hr.symm⟩
    | cons q l => rw [joinC] at hr; simp at hr
  obtain ⟨rfl, rfl⟩ := hl'
  have hlen : i + 1 = (splt 10 s0).length := by
    have := congrArg List.length e
    rw [List.length_drop] at this
    have := h.lt
    simp at *; omega
  rw [parseP]
  by_cases h0 : s0 = []
  · rw [if_pos h0]
    subst h0
    have : i = 0 := by simp [splt] at hlen; exact hlen
    subst this
    rw [h.want]; rfl
  · rw [if_neg h0, if_neg (by omega), dropLast_take _ _ hlen, badAt_none h.goods]
    simp only
    have hg : (splt 10 s0).getLast? = some [] := by
      rw [List.getLast?_eq_getElem?, show (splt 10 s0).length - 1 = i by omega, hi]
    rw [if_pos hg, map_both h.goods, h.want]
/-- A last line that doesn't end. -/
theorem AtLine.last {s0 : List UInt8} {i : Nat} {want : List Hap} {s : List UInt8} (h : AtLine s0 i want s) (hn : (splt 10 s0).length ≤ 201) (hs : s ≠ []) (hl : i + 1 = (splt 10 s0).length) : Lib.cut s [10] = (s, [], false) ∧ parseP s0 = ([], i, 1) := by
  obtain ⟨p, l, e, hi, hd, hp⟩ := h.tail
  have hln : l = [] := by rw [← hd]; exact List.drop_eq_nil_of_le (by omega)
  subst hln
  have hr := h.rest
  rw [e, joinC] at hr
  subst hr
  refine ⟨cut_none1 hp, ?_⟩
  have h0 : s0 ≠ [] := by
    rintro rfl
    rw [show splt 10 [] = [[]] from rfl] at hi
    cases i with
    | zero => simp at hi; exact hs hi
    | succ i => simp at hi
  have hg : (splt 10 s0).getLast? = some s := by
    rw [List.getLast?_eq_getElem?, show (splt 10 s0).length - 1 = i by omega, hi]
  rw [parseP, if_neg h0, if_neg (by omega), dropLast_take _ _ hl, badAt_none h.goods]
  simp only
  rw [hg, if_neg (by intro hh; exact hs (Option.some.inj hh)), show (splt 10 s0).length - 1 = i by omega]
/-- A line that ends. -/
theorem AtLine.cut {s0 : List UInt8} {i : Nat} {want : List Hap} {s : List UInt8} (h : AtLine s0 i want s) (hl : i + 1 < (splt 10 s0).length) :
    ∃ p r, Lib.cut s [10] = (p, r, true) ∧ (splt 10 s0)[i]? = some p ∧ s = p ++ 10 :: r ∧ (goodD p = true → AtLine s0 (i + 1) (want ++ [hapD p]) r) := by
  obtain ⟨p, l, e, hi, hd, hp⟩ := h.tail
  have hr := h.rest
  have hne : l ≠ [] := by
    rintro rfl
    have := congrArg List.length hd
    rw [List.length_drop] at this
    simp at this; omega
  obtain ⟨q, l', rfl⟩ := List.exists_cons_of_ne_nil hne
  rw [e, joinC] at hr
  subst hr
  refine ⟨p, _, cut_app _ hp, hi, rfl, fun hg => ⟨hl, ?_, ?_, by rw [hd]⟩⟩
  · intro j t hj ht
    by_cases hji : j = i
    · subst hji
      rw [hi] at ht
      rw [← Option.some.inj ht]; exact hg
    · exact h.good j t (by omega) ht
  · rw [h.want, List.take_add_one, hi, List.map_append]; rfl
theorem AtLine.bad {s0 : List UInt8} {i : Nat} {want : List Hap} {s p : List UInt8} (h : AtLine s0 i want s) (hn : (splt 10 s0).length ≤ 201) (hl : i + 1 < (splt 10 s0).length) (hi : (splt 10 s0)[i]? = some p) (hg : goodD p = false) : parseP s0 = ([], i, 1) := by
  have h0 : s0 ≠ [] := by
    rintro rfl
    simp [splt] at hl
  have hb : badAt (splt 10 s0).dropLast = some i := by
    rw [badAt, List.findIdx?_eq_some_iff_getElem]
    have hlt : i < (splt 10 s0).dropLast.length := by rw [List.length_dropLast]; omega
    refine ⟨hlt, ?_, ?_⟩
    · rw [List.getElem_dropLast]
      have : (splt 10 s0)[i] = p := by rw [List.getElem?_eq_getElem (by omega)] at hi; exact Option.some.inj hi
      rw [this, (line_both p).1, hg]; rfl
    · intro j hj
      rw [List.getElem_dropLast]
      have := h.good j (splt 10 s0)[j] hj (List.getElem?_eq_getElem (by omega))
      rw [(line_both _).1, this]; simp
  rw [parseP, if_neg h0, if_neg (by omega), hb]
end Go.Eng.YtkenlcaifhffoaaDoor
end

/- strconv.ParseUint at base 16 and two bytes: the walk. -/
section
namespace Go.Eng.YtkenlcaifhffoaaDoor
open Go Go.Eng Go.Proofs
variable (W : World)
set_option linter.unusedSimpArgs false
set_option maxRecDepth 100000
set_option linter.unusedVariables false
set_option maxHeartbeats 4000000
end Go.Eng.YtkenlcaifhffoaaDoor
end

/- What the library's functions give: values that hold an address that nobody reads, and fresh rows of texts. -/
section
namespace Go.Eng
open Go Go.RowKit
set_option linter.unusedSimpArgs false
set_option linter.unusedVariables false
theorem args_are {P : Program} {args : List PV} {us vs : List Value} {K : Kn} {w : World} (ha : valsOf args = some us) (hl : args.length = vs.length)
    (hv : ∀ i, i < args.length → VRel K w (args.getD i .dead) (vs.getD i undef)) : vs = us := by
  obtain ⟨g1, g2⟩ := valsOf_spec ha
  refine List.ext_getElem (hl.symm.trans g1) fun i h1 h2 => ?_
  have := valOf_eq (hv i (by omega)) (g2 i (by omega))
  simpa [List.getD_eq_getElem?_getD, h1, h2] using this
/-- What comes back may hold an address, of which nothing is told. -/
theorem Pure.of_any {P : Program} {W : World} {f : FuncId} {fn : Func} {args : List PV} {r : PV} {us : List Value}
    (hf : P.funcs[f]? = some fn) (hbd : fn.body.isNone = false) (hn : (fn.name == "runtime.NumGoroutine") = false) (ha : valsOf args = some us)
    (h : ∀ w : World, W.heap.size ≤ w.heap.size → (∀ b, b < W.heap.size → w.heap[b]? = W.heap[b]?) → Calls P f us.toArray w fun e w' => ∃ u, e = .returned u ∧ (∀ K, VRel K w' r u) ∧ Below w.heap.size w w') : Pure P W f args r := by
  refine ⟨⟨fn, hf, hbd, hn⟩, fun K w vs hl hv hm hp => ?_⟩
  obtain rfl := args_are (P := P) ha hl hv
  refine (h w hp.size hp.base).mono ?_
  rintro e w' ⟨u, he, hu, hb⟩
  exact ⟨u, r, [], K, he, rfl, hu K, ⟨fun b o h => Nat.lt_of_lt_of_le (hm.kin b o h) hb.size, by simp, fun k hk => by cases hk⟩, Ext.of_below hb hm.kin⟩
end Go.Eng
end
