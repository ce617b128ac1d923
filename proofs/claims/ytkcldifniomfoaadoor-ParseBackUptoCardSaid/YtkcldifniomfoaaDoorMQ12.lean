/- Texts put together: ParseL4, ParseL5, Prs27. -/
import Derived.Test.YtkcldifniomfoaaDoorMQ1
import Derived.Test.YtkcldifniomfoaaDoorMT1
import Derived.Test.YtkcldifniomfoaaDoorMQ10
import Derived.Test.YtkcldifniomfoaaDoorMC5
/- The reader of escape sequences: runes that are written are read; plain. -/
section
namespace Go.Eng.YtkcldifniomfoaaDoor
open Go Go.Eng Go.Proofs
set_option linter.unusedSimpArgs false
set_option linter.unusedVariables false
set_option maxRecDepth 100000
set_option maxHeartbeats 4000000
/-- On the ground, where these bytes wait. -/
def stW (L : List UInt8) : PSt := ⟨0, 0, [], [], [], L, false⟩
theorem step_W (L : List UInt8) (x : UInt8) (hx : ctlB x = false) : stepL (stW L) x = (stW (eatL (L.length + 1) (L ++ [x])).1, (eatL (L.length + 1) (L ++ [x])).2) := by
  have h1 : stepL (stW L) x = groundL (stW L) x := if_pos rfl
  rw [h1, groundL, if_neg (by rw [hx]; simp)]
  rfl
theorem step_wait {L : List UInt8} {x : UInt8} (hx : ctlB x = false) (hf : fullL (L ++ [x]) = false) : stepL (stW L) x = (stW (L ++ [x]), []) := by
  rw [step_W L x hx, eatL, if_pos (.inr hf)]
theorem step_done {L : List UInt8} {x : UInt8} {c : Nat} (hx : ctlB x = false) (hf : fullL (L ++ [x]) = true) (hd : dec (L ++ [x]) = (c, (L ++ [x]).length)) : stepL (stW L) x = (st0, [printE c]) := by
  rw [step_W L x hx, eatL, if_neg (by rw [hf]; simp), hd]
  dsimp only
  rw [List.drop_length]
  cases L.length with
  | zero => rfl
  | succ n => rw [eatL, if_pos (.inl rfl)]; rfl
theorem enc_rune (r : Int) : ∃ c : Nat, validR c ∧ (Utf8.encode r).data.toList = Lib.encodeRune c := by
  have key : ∀ c : Nat, validR c → (let b (n : Nat) : UInt8 := UInt8.ofNat n
      if c < 0x80 then (⟨#[b c]⟩ : ByteArray)
      else if c < 0x800 then ⟨#[b (0xC0 + c / 64), b (0x80 + c % 64)]⟩
      else if c < 0x10000 then ⟨#[b (0xE0 + c / 4096), b (0x80 + c / 64 % 64), b (0x80 + c % 64)]⟩
      else ⟨#[b (0xF0 + c / 262144), b (0x80 + c / 4096 % 64), b (0x80 + c / 64 % 64), b (0x80 + c % 64)]⟩).data.toList = Lib.encodeRune c := by
    intro c hv
    unfold validR at hv
    unfold Lib.encodeRune
    dsimp only
    by_cases h1 : c < 128
    · rw [if_pos h1, Lib.encodeRuneZ_one (by omega) (by omega)]
      simp
    rw [if_neg h1]
    by_cases h2 : c < 2048
    · rw [if_pos h2, Lib.encodeRuneZ_two (by omega) (by omega)]
      simp only [List.map_cons, List.map_nil]
      rw [show (192 + (c : Int) / 64).toNat = 192 + c / 64 by omega, show (128 + (c : Int) % 64).toNat = 128 + c % 64 by omega]
    rw [if_neg h2]
    by_cases h3 : c < 65536
    · rw [if_pos h3, Lib.encodeRuneZ_three (by omega)]
      simp only [List.map_cons, List.map_nil]
      rw [show (224 + (c : Int) / 4096).toNat = 224 + c / 4096 by omega, show (128 + (c : Int) / 64 % 64).toNat = 128 + c / 64 % 64 by omega, show (128 + (c : Int) % 64).toNat = 128 + c % 64 by omega]
    · rw [if_neg h3, Lib.encodeRuneZ_four (by omega) (by omega)]
      simp only [List.map_cons, List.map_nil]
      rw [show (240 + (c : Int) / 262144).toNat = 240 + c / 262144 by omega, show (128 + (c : Int) / 4096 % 64).toNat = 128 + c / 4096 % 64 by omega, show (128 + (c : Int) / 64 % 64).toNat = 128 + c / 64 % 64 by omega, show (128 + (c : Int) % 64).toNat = 128 + c % 64 by omega]
  refine ⟨if Utf8.valid r then r.toNat else 65533, ?_, ?_⟩
  · split
    · rename_i h
      unfold validR
      simp only [Utf8.valid, Bool.and_eq_true, Bool.or_eq_true, decide_eq_true_eq] at h
      omega
    · unfold validR; omega
  · rw [← key]
    · rfl
    · split
      · rename_i h
        unfold validR
        simp only [Utf8.valid, Bool.and_eq_true, Bool.or_eq_true, decide_eq_true_eq] at h
        omega
      · unfold validR; omega
theorem hi_ctl {x : UInt8} (h : 128 ≤ x.toNat) : ctlB x = false := by
  cases hc : ctlB x with
  | false => rfl
  | true => have := (ctlB_iff x).1 hc; omega
theorem full_1 {x : UInt8} (h : 194 ≤ x.toNat ∧ x.toNat ≤ 244) : fullL [x] = false := by
  rw [fullL, if_neg (by simp), gB_head, if_neg]
  · simp
  · unfold Lib.firstT
    simp only [List.length_cons, List.length_nil]
    (repeat' split) <;> omega
theorem full_2 {x y : UInt8} (h : 224 ≤ x.toNat ∧ x.toNat ≤ 244) (hy : Lib.accLo (Lib.firstT x.toNat / 16) ≤ y.toNat ∧ y.toNat ≤ Lib.accHi (Lib.firstT x.toNat / 16)) : fullL [x, y] = false := by
  rw [fullL, if_neg (by simp), gB_head, if_neg]
  · refine decide_eq_false ?_
    simp only [gB_cons, gB_head, List.length_cons, List.length_nil]
    omega
  · unfold Lib.firstT
    simp only [List.length_cons, List.length_nil]
    (repeat' split) <;> omega
theorem full_3 {x y z : UInt8} (h : 240 ≤ x.toNat ∧ x.toNat ≤ 244) (hy : Lib.accLo (Lib.firstT x.toNat / 16) ≤ y.toNat ∧ y.toNat ≤ Lib.accHi (Lib.firstT x.toNat / 16)) (hz : 128 ≤ z.toNat ∧ z.toNat ≤ 191) : fullL [x, y, z] = false := by
  rw [fullL, if_neg (by simp), gB_head, if_neg]
  · refine decide_eq_false ?_
    simp only [gB_cons, gB_head, List.length_cons, List.length_nil]
    omega
  · unfold Lib.firstT
    simp only [List.length_cons, List.length_nil]
    (repeat' split) <;> omega
theorem full_long {s : List UInt8} (h : s ≠ []) (hl : Lib.firstT (gB s 0) % 8 ≤ s.length) : fullL s = true := by
  rw [fullL, if_neg (fun e => h (List.length_eq_zero_iff.1 e)), if_pos hl]
theorem u8n (n : Nat) (h : n < 256) : (UInt8.ofNat n).toNat = n := by simp; omega
theorem first_mod (b : Nat) : (b < 224 → Lib.firstT b % 8 ≤ 2) ∧ (b < 240 → Lib.firstT b % 8 ≤ 3) ∧ Lib.firstT b % 8 ≤ 4 := by
  unfold Lib.firstT
  refine ⟨fun h => ?_, fun h => ?_, ?_⟩ <;> (repeat' split) <;> omega
theorem acc_any (b : Nat) (y : Nat) (hy : 128 ≤ y ∧ y ≤ 191) (h1 : b = 224 → 160 ≤ y) (h2 : b = 237 → y ≤ 159) (h3 : b = 240 → 144 ≤ y) (h4 : b = 244 → y ≤ 143) (hb : 194 ≤ b ∧ b ≤ 244) : Lib.accLo (Lib.firstT b / 16) ≤ y ∧ y ≤ Lib.accHi (Lib.firstT b / 16) := by
  have : Lib.firstT b / 16 = (if b = 224 then 1 else if b = 237 then 2 else if b = 240 then 3 else if b = 244 then 4 else 0) := by
    unfold Lib.firstT
    (repeat' split) <;> omega
  rw [this]
  unfold Lib.accLo Lib.accHi
  (repeat' split) <;> omega
/-- A rune that is written is told, and nothing waits. -/
theorem feed_rune (c : Nat) (hv : validR c) (h : 128 ≤ c) : feedL st0 (Lib.encodeRune c) = (st0, [printE c]) := by
  have hd := dec_enc c hv []
  rw [List.append_nil] at hd
  unfold validR at hv
  have hst : st0 = stW [] := rfl
  revert hd
  unfold Lib.encodeRune
  by_cases h2 : c < 2048
  · rw [Lib.encodeRuneZ_two (by omega) (by omega)]
    simp only [List.map_cons, List.map_nil]
    rw [show (192 + (c : Int) / 64).toNat = 192 + c / 64 by omega, show (128 + (c : Int) % 64).toNat = 128 + c % 64 by omega]
    have hx := u8n (192 + c / 64) (by omega)
    have hy := u8n (128 + c % 64) (by omega)
    intro hd
    change dec [UInt8.ofNat (192 + c / 64), UInt8.ofNat (128 + c % 64)] = _ at hd
    show feedL st0 [UInt8.ofNat (192 + c / 64), UInt8.ofNat (128 + c % 64)] = _
    generalize UInt8.ofNat (192 + c / 64) = x at *
    generalize UInt8.ofNat (128 + c % 64) = y at *
    rw [feedL, hst, step_wait (hi_ctl (by omega)) (full_1 (by omega)), feedL]
    dsimp only
    rw [step_done (c := c) (L := [] ++ [x]) (hi_ctl (by omega)) (full_long (by simp) (by show Lib.firstT x.toNat % 8 ≤ 2; exact (first_mod _).1 (by omega))) hd]
    rfl
  by_cases h3 : c < 65536
  · rw [Lib.encodeRuneZ_three (by omega)]
    simp only [List.map_cons, List.map_nil]
    rw [show (224 + (c : Int) / 4096).toNat = 224 + c / 4096 by omega, show (128 + (c : Int) / 64 % 64).toNat = 128 + c / 64 % 64 by omega, show (128 + (c : Int) % 64).toNat = 128 + c % 64 by omega]
    have hx := u8n (224 + c / 4096) (by omega)
    have hy := u8n (128 + c / 64 % 64) (by omega)
    have hz := u8n (128 + c % 64) (by omega)
    intro hd
    change dec [UInt8.ofNat (224 + c / 4096), UInt8.ofNat (128 + c / 64 % 64), UInt8.ofNat (128 + c % 64)] = _ at hd
    show feedL st0 [UInt8.ofNat (224 + c / 4096), UInt8.ofNat (128 + c / 64 % 64), UInt8.ofNat (128 + c % 64)] = _
    generalize UInt8.ofNat (224 + c / 4096) = x at *
    generalize UInt8.ofNat (128 + c / 64 % 64) = y at *
    generalize UInt8.ofNat (128 + c % 64) = z at *
    rw [feedL, hst, step_wait (hi_ctl (by omega)) (full_1 (by omega)), feedL]
    dsimp only
    rw [step_wait (L := [] ++ [x]) (hi_ctl (by omega)) (full_2 (by omega) (acc_any _ _ (by omega) (by omega) (by omega) (by omega) (by omega) (by omega))), feedL]
    dsimp only
    rw [step_done (c := c) (L := [] ++ [x] ++ [y]) (hi_ctl (by omega)) (full_long (by simp) (by show Lib.firstT x.toNat % 8 ≤ 3; exact (first_mod _).2.1 (by omega))) hd]
    rfl
  · rw [Lib.encodeRuneZ_four (by omega) (by omega)]
    simp only [List.map_cons, List.map_nil]
    rw [show (240 + (c : Int) / 262144).toNat = 240 + c / 262144 by omega, show (128 + (c : Int) / 4096 % 64).toNat = 128 + c / 4096 % 64 by omega, show (128 + (c : Int) / 64 % 64).toNat = 128 + c / 64 % 64 by omega, show (128 + (c : Int) % 64).toNat = 128 + c % 64 by omega]
    have hx := u8n (240 + c / 262144) (by omega)
    have hy := u8n (128 + c / 4096 % 64) (by omega)
    have hz := u8n (128 + c / 64 % 64) (by omega)
    have hw := u8n (128 + c % 64) (by omega)
    intro hd
    change dec [UInt8.ofNat (240 + c / 262144), UInt8.ofNat (128 + c / 4096 % 64), UInt8.ofNat (128 + c / 64 % 64), UInt8.ofNat (128 + c % 64)] = _ at hd
    show feedL st0 [UInt8.ofNat (240 + c / 262144), UInt8.ofNat (128 + c / 4096 % 64), UInt8.ofNat (128 + c / 64 % 64), UInt8.ofNat (128 + c % 64)] = _
    generalize UInt8.ofNat (240 + c / 262144) = x at *
    generalize UInt8.ofNat (128 + c / 4096 % 64) = y at *
    generalize UInt8.ofNat (128 + c / 64 % 64) = z at *
    generalize UInt8.ofNat (128 + c % 64) = w at *
    rw [feedL, hst, step_wait (hi_ctl (by omega)) (full_1 (by omega)), feedL]
    dsimp only
    rw [step_wait (L := [] ++ [x]) (hi_ctl (by omega)) (full_2 (by omega) (acc_any _ _ (by omega) (by omega) (by omega) (by omega) (by omega) (by omega))), feedL]
    dsimp only
    rw [step_wait (L := [] ++ [x] ++ [y]) (hi_ctl (by omega)) (full_3 (by omega) (acc_any _ _ (by omega) (by omega) (by omega) (by omega) (by omega) (by omega)) (by omega)), feedL]
    dsimp only
    rw [step_done (c := c) (L := [] ++ [x] ++ [y] ++ [z]) (hi_ctl (by omega)) (full_long (by simp) (by show Lib.firstT x.toNat % 8 ≤ 4; exact (first_mod _).2.2)) hd]
    rfl
end Go.Eng.YtkcldifniomfoaaDoor
end

/- The reader of escape sequences: an event that is written alone leaves the reader in its ground; plain. -/
section
namespace Go.Eng.YtkcldifniomfoaaDoor
open Go Go.Eng Go.Proofs
set_option linter.unusedSimpArgs false
set_option linter.unusedVariables false
set_option maxRecDepth 100000
set_option maxHeartbeats 4000000
def parC (p : List Int) : Nat := (Lib.join (p.map numB) [59]).length
theorem parC_one (y : Int) : parC [y] = (numB y).length := by rw [parC, List.map_cons, List.map_nil, Lib.join_one]
theorem parC_snoc (q : List Int) (y : Int) (h : q ≠ []) : parC (q ++ [y]) = parC q + 1 + (numB y).length := by
  rw [parC, parC, List.map_append, List.map_cons, List.map_nil, join_snoc _ _ (by simp [h])]
  simp
  omega
theorem numB_neg : numB (-1) = [] := by rw [numB, if_pos (by decide)]
theorem parC_semi (p : List Int) : parC (parL p ++ [-1]) = parC p + 1 := by
  unfold parL
  by_cases h : p = []
  · subst h
    rw [if_pos rfl, parC_snoc _ _ (by simp), parC_one, numB_neg]
    rfl
  · rw [if_neg h, parC_snoc _ _ h, numB_neg]
    rfl
theorem numB_len {n : Int} (h0 : 0 ≤ n) (h1 : n ≤ 9999) : (numB n).length = if n < 10 then 1 else if n < 100 then 2 else if n < 1000 then 3 else 4 := by
  rw [numB, if_neg (by omega)]
  obtain ⟨k, rfl⟩ := Int.eq_ofNat_of_zero_le h0
  rw [Lib.itoa_nonneg k, Lib.decDigits_length]
  have h2 : (k : Int) ≤ 9999 := h1
  show Lib.nDigits k = if (k : Int) < 10 then 1 else if (k : Int) < 100 then 2 else if (k : Int) < 1000 then 3 else 4
  by_cases a : k < 10
  · rw [Lib.nDigits_small a, if_pos (by omega)]
  rw [Lib.nDigits_big a, if_neg (by omega)]
  by_cases b : k < 100
  · rw [Lib.nDigits_small (by omega), if_pos (by omega)]
  rw [Lib.nDigits_big (by omega), if_neg (by omega)]
  by_cases c : k < 1000
  · rw [Lib.nDigits_small (by omega), if_pos (by omega)]
  rw [Lib.nDigits_big (by omega), if_neg (by omega), Lib.nDigits_small (by omega)]
theorem numB_dig {y d : Int} (hy : -1 ≤ y ∧ y ≤ 9999) (hd : 0 ≤ d ∧ d ≤ 9) : (numB (min (max y 0 * 10 + d) 9999)).length ≤ (numB y).length + 1 := by
  rw [numB_len (by omega) (by omega)]
  by_cases h : y < 0
  · rw [show numB y = [] by rw [numB, if_pos h]]
    simp only [List.length_nil]
    rw [if_pos (by omega)]
    omega
  · rw [numB_len (by omega) (by omega)]
    (repeat' split) <;> omega
theorem parC_digit {p : List Int} (hp : ∀ n ∈ p, -1 ≤ n ∧ n ≤ 9999) {d : Int} (hd : 0 ≤ d ∧ d ≤ 9) :
    parC ((parL p).set ((parL p).length - 1) (min (max ((parL p).getD ((parL p).length - 1) 0) 0 * 10 + d) 9999)) ≤ parC p + 1 := by
  by_cases h : p = []
  · subst h
    have h1 : (parL []).set ((parL []).length - 1) (min (max ((parL []).getD ((parL []).length - 1) 0) 0 * 10 + d) 9999) = [d] := by
      show [min (max (-1 : Int) 0 * 10 + d) 9999] = [d]
      congr 1
      omega
    rw [h1, parC_one, numB_len hd.1 (by omega), if_pos (by omega)]
    omega
  · obtain ⟨q, y, rfl⟩ : ∃ q y, p = q ++ [y] := ⟨p.dropLast, p.getLast h, (List.dropLast_concat_getLast h).symm⟩
    have hL : parL (q ++ [y]) = q ++ [y] := by rw [parL, if_neg h]
    rw [hL]
    have hl : (q ++ [y]).length - 1 = q.length := by simp
    have hg : (q ++ [y]).getD q.length 0 = y := by simp
    rw [hl, hg]
    have hs : (q ++ [y]).set q.length (min (max y 0 * 10 + d) 9999) = q ++ [min (max y 0 * 10 + d) 9999] := by simp
    rw [hs]
    have hb := numB_dig (hp y (by simp)) hd
    by_cases hq : q = []
    · subst hq
      rw [List.nil_append, List.nil_append, parC_one, parC_one]
      exact hb
    · rw [parC_snoc _ _ hq, parC_snoc _ _ hq]
      omega
/-- How many bytes an event takes at least. -/
def evC (e : PEv) : Nat :=
  if e.kind = 3 then 2 + e.middle.length
  else if e.kind = 4 then 3 + (if e.mark.toNat = 0 then 0 else 1) + parC e.params + e.middle.length
  else if e.kind = 5 then 3 + e.text.length
  else 0
/-- How many bytes have been read at least. -/
def phi (s : PSt) : Nat :=
  if s.at_ = 1 then 1
  else if s.at_ = 2 then 1 + s.middle.length
  else if s.at_ = 3 then 2 + (if s.mark.toNat = 0 then 0 else 1) + parC s.params + s.middle.length
  else if s.at_ = 4 then 2 + s.text.length
  else 0
/-- What a step may do. -/
def Pays (n : Nat) (t : PSt × List PEv) : Prop := phi t.1 ≤ n + 1 ∧ ∀ e ∈ t.2, evC e ≤ n + 1 ∧ (3 ≤ e.kind → t.1 = st0)
theorem phi0 : phi st0 = 0 := rfl
theorem phi1 : phi (stAt 1) = 1 := rfl
theorem pays_nil {n : Nat} {s : PSt} (h : phi s ≤ n + 1) : Pays n (s, []) := ⟨h, fun e he => by cases he⟩
theorem pays_st0 (n : Nat) : Pays n (st0, []) := pays_nil (Nat.zero_le _)
theorem pays_ev {n : Nat} {e : PEv} (h : evC e ≤ n + 1) : Pays n (st0, [e]) := ⟨Nat.zero_le _, fun x hx => by
  obtain rfl := List.mem_singleton.1 hx
  exact ⟨h, fun _ => rfl⟩⟩
theorem pays_ctl (n : Nat) (s : PSt) (h : phi s ≤ n + 1) (b : UInt8) : Pays n (ctlL s b) := by
  unfold ctlL
  split
  · exact pays_nil (by rw [phi1]; omega)
  split
  · exact pays_st0 n
  split
  · refine ⟨h, fun e he => ?_⟩
    obtain rfl := List.mem_singleton.1 he
    exact ⟨Nat.zero_le _, fun hk => by simp [ctlE] at hk⟩
  · exact pays_nil h
theorem pays_esc (n : Nat) (hn : 1 ≤ n) (s : PSt) (h : phi s ≤ n + 1) (b : UInt8) : Pays n (escL s b) := by
  unfold escL
  split
  · exact pays_ctl n s h b
  split
  · refine pays_nil ?_
    show 2 ≤ n + 1
    omega
  split
  · refine pays_nil ?_
    show 2 ≤ n + 1
    omega
  split
  · refine pays_nil ?_
    show 1 + 1 ≤ n + 1
    omega
  split
  · refine pays_ev ?_
    show 2 + 0 ≤ n + 1
    omega
  · exact pays_st0 n
theorem eat_kind : ∀ (n : Nat) (l : List UInt8), ∀ e ∈ (eatL n l).2, e.kind = 1
  | 0, l, e, he => by cases he
  | n + 1, l, e, he => by
    rw [eatL] at he
    split at he
    · cases he
    · rcases List.mem_cons.1 he with rfl | he
      · rfl
      · exact eat_kind n _ e he
theorem pays_step {s : PSt} (h : s.ok) (b : UInt8) : Pays (phi s) (stepL s b) := by
  have hlt := b.toNat_lt
  rcases h with ⟨h0, hl, h2, h3, h4, h5, h6⟩ | ⟨h0 | h0, h1, h2, h3, h4, h5, h6⟩ | ⟨h0, h1, h2, h4, h5⟩ | ⟨h0, h1, h2, h3, h4, h5, h6, h7⟩ | ⟨h0, h1, h2, h3, h4, h5, h6⟩
  · have e : stepL s b = groundL s b := by rw [stepL, if_pos h0]
    have hphi : ∀ L, phi { s with left := L } = 0 := fun L => by unfold phi; rw [h0]; rfl
    rw [e, groundL]
    split
    · have hc := pays_ctl (phi s) { s with left := [] } (by rw [hphi]; omega) b
      refine ⟨hc.1, fun e he => ?_⟩
      rcases List.mem_append.1 he with he | he
      · obtain ⟨c, -, rfl⟩ := List.mem_map.1 he
        exact ⟨Nat.zero_le _, fun hk => by simp [printE] at hk⟩
      · exact hc.2 e he
    · refine ⟨by rw [hphi]; omega, fun e he => ?_⟩
      have hk := eat_kind _ _ e he
      unfold evC
      rw [hk]
      exact ⟨Nat.zero_le _, fun h => by omega⟩
  · have e : stepL s b = escL s b := by rw [stepL, if_neg (by omega), if_pos h0]
    have hp : phi s = 1 := by unfold phi; rw [if_pos h0]
    rw [e, hp]
    exact pays_esc 1 (Nat.le_refl _) s (by omega) b
  · have e : stepL s b = skipL s b := by rw [stepL, if_neg (by omega), if_neg (by omega), if_neg (by omega), if_neg (by omega), if_neg (by omega)]
    rw [e, skipL]
    split
    · exact pays_ctl _ s (by omega) b
    split
    · exact pays_st0 _
    · exact pays_nil (by omega)
  · have e : stepL s b = midL s b := by rw [stepL, if_neg (by omega), if_neg (by omega), if_pos h0]
    have hp : phi s = 1 + s.middle.length := by unfold phi; rw [h0]; rfl
    rw [e, midL, hp]
    split
    · exact pays_ctl _ s (by omega) b
    split
    · refine pays_nil ?_
      unfold phi
      dsimp only
      rw [h0]
      show 1 + (s.middle ++ [b]).length ≤ _
      simp
      omega
    split
    · refine pays_ev ?_
      show 2 + s.middle.length ≤ _
      omega
    · exact pays_st0 _
  · have e : stepL s b = cmdL s b := by rw [stepL, if_neg (by omega), if_neg (by omega), if_neg (by omega), if_pos h0]
    have hp : phi s = 2 + (if s.mark.toNat = 0 then 0 else 1) + parC s.params + s.middle.length := by unfold phi; rw [h0]; rfl
    have hph : ∀ m mi p t l la, phi ⟨s.at_, m, mi, p, t, l, la⟩ = 2 + (if m.toNat = 0 then 0 else 1) + parC p + mi.length := fun m mi p t l la => by unfold phi; dsimp only; rw [h0]; rfl
    have hph0 := hph s.mark
    have hm1 : s.mark = 0 → (if s.mark.toNat = 0 then 0 else 1) = 0 := fun h => by rw [h]; rfl
    have hevc : ∀ f, evC { ev0 with kind := 4, final := f, mark := s.mark, middle := s.middle, params := s.params } = 3 + (if s.mark.toNat = 0 then 0 else 1) + parC s.params + s.middle.length := fun f => rfl
    rw [e, cmdL, hp]
    generalize (if s.mark.toNat = 0 then 0 else 1) = M at *
    split
    · exact pays_ctl _ s (by omega) b
    split
    · rename_i hd
      split
      · rename_i hg
        refine pays_nil ?_
        have := parC_digit h7 (d := (b.toNat : Int) - 48) (by omega)
        rw [hph0]
        omega
      split
      · exact pays_nil (Nat.zero_le _)
      · refine pays_nil ?_
        rw [hph0, parC_semi]
        omega
    split
    · rename_i hm
      refine pays_nil ?_
      have := hm1 hm.2.2.2.1
      rw [hph]
      split <;> omega
    split
    · refine pays_nil ?_
      rw [hph0, List.length_append]
      simp only [List.length_cons, List.length_nil]
      omega
    split
    · refine pays_ev ?_
      rw [hevc]
      omega
    split
    · exact pays_nil (Nat.zero_le _)
    · exact pays_st0 _
  · have e : stepL s b = sysL s b := by rw [stepL, if_neg (by omega), if_neg (by omega), if_neg (by omega), if_neg (by omega), if_pos h0]
    have hp : phi s = 2 + s.text.length := by unfold phi; rw [h0]; rfl
    have hph : ∀ m mi p t l la, phi ⟨s.at_, m, mi, p, t, l, la⟩ = 2 + t.length := fun m mi p t l la => by unfold phi; dsimp only; rw [h0]; rfl
    rw [e, sysL, hp]
    split
    · refine pays_ev ?_
      show 3 + s.text.length ≤ _
      omega
    split
    · exact pays_esc _ (by omega) _ (by rw [phi1]; omega) b
    split
    · refine pays_nil ?_
      rw [hph]; omega
    split
    · exact pays_st0 _
    split
    · exact pays_nil (by omega)
    split
    · exact pays_nil (by omega)
    · refine pays_nil ?_
      rw [hph, List.length_append]
      simp only [List.length_cons, List.length_nil]
      omega
theorem feed_pays : ∀ (b : List UInt8) {s : PSt}, s.ok → ∀ e ∈ (feedL s b).2, evC e ≤ phi s + b.length ∧ (3 ≤ e.kind → evC e = phi s + b.length → (feedL s b).1 = st0)
  | [], s, h => fun e he => by cases he
  | c :: b, s, h => fun e he => by
    have hp := pays_step h c
    have ih := feed_pays b (stepL_ok h c)
    rw [feedL] at he ⊢
    dsimp only at he ⊢
    rw [List.length_cons]
    rcases List.mem_append.1 he with he | he
    · have h1 := hp.2 e he
      refine ⟨by omega, fun hk hq => ?_⟩
      have hb : b = [] := List.length_eq_zero_iff.1 (by omega)
      subst hb
      exact h1.2 hk
    · have h1 := ih e he
      have h2 := hp.1
      exact ⟨by omega, fun hk hq => h1.2 hk (by omega)⟩
theorem one_byte (x : UInt8) (h : (feedL st0 [x]).2.length = 1) : (feedL st0 [x]).1 = st0 := by
  have key : ∀ c : Fin 256, (feedL st0 [UInt8.ofNat c.val]).2.length = 1 → (feedL st0 [UInt8.ofNat c.val]).1 = st0 := by decide +kernel
  have := key ⟨x.toNat, x.toNat_lt⟩
  rw [show UInt8.ofNat x.toNat = x by simp] at this
  exact this h
/-- Who tells just what was written is in the ground then. -/
theorem single {e : PEv} (h : (feedL st0 (evB e)).2 = [e]) : (feedL st0 (evB e)).1 = st0 := by
  have hm : e ∈ (feedL st0 (evB e)).2 := by rw [h]; exact List.mem_cons_self
  have hp := feed_pays (evB e) st0_ok e hm
  rw [phi0, Nat.zero_add] at hp
  have hl : (feedL st0 (evB e)).2.length = 1 := by rw [h]; rfl
  by_cases h1 : e.kind = 1
  · have hb : evB e = (Utf8.encode e.r).data.toList := by rw [evB, if_pos h1]
    obtain ⟨c, hv, hc⟩ := enc_rune e.r
    rw [hb, hc] at hl ⊢
    by_cases h128 : 128 ≤ c
    · rw [feed_rune c hv h128]
    · rw [Lib.encodeRune, Lib.encodeRuneZ_one (by omega) (by omega)] at hl ⊢
      exact one_byte _ hl
  by_cases h2 : e.kind = 2
  · by_cases hr : 0 ≤ e.r ∧ e.r < 32
    · have hb : evB e = [UInt8.ofNat e.r.toNat] := by rw [evB, if_neg h1, if_pos h2, if_pos hr]
      rw [hb] at hl ⊢
      exact one_byte _ hl
    · have hb : evB e = [] := by rw [evB, if_neg h1, if_pos h2, if_neg hr]
      rw [hb]; rfl
  by_cases h3 : e.kind = 3
  · refine hp.2 (by omega) ?_
    rw [evC, if_pos h3, evB, if_neg h1, if_neg h2, if_pos h3]
    simp
    omega
  by_cases h4 : e.kind = 4
  · refine hp.2 (by omega) ?_
    rw [evC, if_neg h3, if_pos h4, evB, if_neg h1, if_neg h2, if_neg h3, if_pos h4, parC]
    split <;> simp <;> omega
  by_cases h5 : e.kind = 5
  · refine hp.2 (by omega) ?_
    rw [evC, if_neg h3, if_neg h4, if_pos h5, evB, if_neg h1, if_neg h2, if_neg h3, if_neg h4, if_pos h5]
    simp
    omega
  · have hb : evB e = [] := by rw [evB, if_neg h1, if_neg h2, if_neg h3, if_neg h4, if_neg h5]
    rw [hb]; rfl
end Go.Eng.YtkcldifniomfoaaDoor
end

/- The reader of escape sequences: the law ParseBack (b_). -/
section
namespace Go.Eng.YtkcldifniomfoaaDoor
open Go Go.Eng Go.Proofs
variable (W : World)
set_option linter.unusedSimpArgs false
set_option maxRecDepth 100000
set_option linter.unusedVariables false
set_option maxHeartbeats 8000000
theorem oneB_tells {e : PEv} (h : oneB e ≠ []) : feedL st0 (oneB e) = (st0, [e]) := by
  unfold oneB at h ⊢
  split at h
  · rename_i hc
    rw [if_pos hc]
    obtain ⟨h1, h2⟩ := hc
    unfold feedR at h1 h2
    rw [if_pos st0_ok] at h1 h2
    split at h1
    · cases h1
    · rename_i hl
      rw [if_neg hl] at h2
      have h3 := single h2
      exact Prod.ext h3 h2
  · exact absurd rfl h
theorem wr_back : ∀ (l : List PEv) (a : List UInt8) (done : List PEv), feedL st0 a = (st0, done) → a.length ≤ 4000 → ∀ b, wrL a l = (b, 0) → b.length ≤ 4000 ∧ feedL st0 b = (st0, done ++ l)
  | [], a, done, h, hl, b, hb => by
    rw [wrL] at hb
    obtain rfl := (Prod.mk.inj hb).1
    rw [List.append_nil]
    exact ⟨hl, h⟩
  | e :: r, a, done, h, hl, b, hb => by
    rw [wrL] at hb
    split at hb
    · exact absurd (Prod.mk.inj hb).2 (by decide)
    rename_i hne
    split at hb
    · exact absurd (Prod.mk.inj hb).2 (by decide)
    rename_i h4
    have hf : feedL st0 (a ++ oneB e) = (st0, done ++ [e]) := by
      have := feedL_append a (oneB e) st0
      rw [h] at this
      rw [this]
      dsimp only
      rw [oneB_tells hne]
    have := wr_back r (a ++ oneB e) (done ++ [e]) hf (by omega) b hb
    rw [List.append_assoc] at this
    exact this
theorem parseBack_ok (hB : Both W) (l : List PEv) (hl : l.length ≤ 1048576) (he : ∀ e ∈ l, e.few) : Pure Tryd.prog W 6 [encEvs l] (.bool true) := by
  have h1 := parseWrite_w W hB.1 hB.2 l hl he
  have hr := readIn_ok W hB.1
  have hw := wr_back l [] [] rfl (Nat.zero_le _)
  generalize wrL [] l = F at *
  obtain ⟨b, er⟩ := F
  by_cases her : er = 0
  · subst her
    obtain ⟨hbl, hfe⟩ := hw b rfl
    rw [List.nil_append] at hfe
    have h2 := feed_zero W hB.1 b
    rw [show feedR st0 b = ((st0, l), 0) by rw [feedR, if_pos st0_ok, if_neg (by omega), hfe]] at h2
    have h3 := sameState_zero W st0 (by decide)
    have h4 := equalEvents_ok W l l (by omega) (fun e h => by have := (he e h).par; omega)
    rw [decide_eq_true rfl] at h3 h4
    simp only [zeroSt, feedV, encSt, stV, encInts, encEvs] at h1 h2 h3 h4 ⊢
    refine Pure.of (acalls_of_vc (drawOk W) Tryd.func6 rfl (by decide) (by decide) rfl ?_)
    (refine g0_ ?_; repeat ((first | refine n1_ fun b_ => ?_ | refine n2_ fun b_ => ?_); refine g0_ ?_))
    refine (h1).use ?_; (refine g0_ ?_; repeat ((first | refine n1_ fun b_ => ?_ | refine n2_ fun b_ => ?_); refine g0_ ?_))
    (refine g0_ ?_; repeat ((first | refine n1_ fun b_ => ?_ | refine n2_ fun b_ => ?_); refine g0_ ?_))
    refine (hr).use ?_; (refine g0_ ?_; repeat ((first | refine n1_ fun b_ => ?_ | refine n2_ fun b_ => ?_); refine g0_ ?_))
    (refine g0_ ?_; repeat ((first | refine n1_ fun b_ => ?_ | refine n2_ fun b_ => ?_); refine g0_ ?_))
    refine (h2).use ?_; (refine g0_ ?_; repeat ((first | refine n1_ fun b_ => ?_ | refine n2_ fun b_ => ?_); refine g0_ ?_))
    (refine g0_ ?_; repeat ((first | refine n1_ fun b_ => ?_ | refine n2_ fun b_ => ?_); refine g0_ ?_))
    refine (h3).use ?_; (refine g0_ ?_; repeat ((first | refine n1_ fun b_ => ?_ | refine n2_ fun b_ => ?_); refine g0_ ?_))
    (refine g0_ ?_; repeat ((first | refine n1_ fun b_ => ?_ | refine n2_ fun b_ => ?_); refine g0_ ?_))
    refine (h4).use ?_; (refine g0_ ?_; repeat ((first | refine n1_ fun b_ => ?_ | refine n2_ fun b_ => ?_); refine g0_ ?_))
    (refine g0_ ?_; repeat ((first | refine n1_ fun b_ => ?_ | refine n2_ fun b_ => ?_); refine g0_ ?_))
    exact .refl _
  · simp only [encEvs] at h1 ⊢
    refine Pure.of (acalls_of_vc (drawOk W) Tryd.func6 rfl (by decide) (by decide) rfl ?_)
    (refine g0_ ?_; repeat ((first | refine n1_ fun b_ => ?_ | refine n2_ fun b_ => ?_); refine g0_ ?_))
    refine (h1).use ?_; (refine g0_ ?_; repeat ((first | refine n1_ fun b_ => ?_ | refine n2_ fun b_ => ?_); refine g0_ ?_))
    (refine g0_ ?_; repeat ((first | refine n1_ fun b_ => ?_ | refine n2_ fun b_ => ?_); refine g0_ ?_))
    refine (hr).use ?_; (refine g0_ ?_; repeat ((first | refine n1_ fun b_ => ?_ | refine n2_ fun b_ => ?_); refine g0_ ?_))
    (refine g0_ ?_; repeat ((first | refine n1_ fun b_ => ?_ | refine n2_ fun b_ => ?_); refine g0_ ?_))
    (refine g1_ ?_; repeat ((first | refine n1_ fun b_ => ?_ | refine n2_ fun b_ => ?_); refine g1_ ?_))
    refine (hr).use ?_; (refine g0_ ?_; repeat ((first | refine n1_ fun b_ => ?_ | refine n2_ fun b_ => ?_); refine g0_ ?_))
    (refine g0_ ?_; repeat ((first | refine n1_ fun b_ => ?_ | refine n2_ fun b_ => ?_); refine g0_ ?_))
    exact .refl _
end Go.Eng.YtkcldifniomfoaaDoor
end
