/- Texts put together: Rec, RecP. -/
import Derived.Test.YtlffjmnnoceakaaDoorMT1
import Derived.Test.YtlffjmnnoceakaaDoorMS1
/- Recordings: happenings, told as texts. -/
section
namespace Go.Eng.YtlffjmnnoceakaaDoor
open Go Go.Eng Go.Proofs
variable (W : World)
set_option linter.unusedSimpArgs false
set_option maxRecDepth 100000
set_option linter.unusedVariables false
set_option maxHeartbeats 4000000
structure Hap where
  kind : Int
  who : Int
  bytes : List UInt8
  w : Int
  h : Int
  deriving DecidableEq
def encHap (x : Hap) : PV := .agg [.int .i64 x.kind, .int .i64 x.who, .str x.bytes, .int .i64 x.w, .int .i64 x.h]
def Hap.ok (x : Hap) : Prop := i64ok x.kind ∧ i64ok x.who ∧ i64ok x.w ∧ i64ok x.h
/-- Can a happening be told? -/
def checkH (x : Hap) : Bool :=
  if x.kind = 1 ∨ x.kind = 2 then decide (x.w = 0 ∧ x.h = 0 ∧ 0 ≤ x.who ∧ x.bytes.length ≤ 4000)
  else if x.kind = 3 then decide (x.bytes = [] ∧ 0 ≤ x.who ∧ 0 < x.w ∧ 0 < x.h)
  else if x.kind = 4 then decide (x.bytes = [] ∧ 0 ≤ x.who ∧ x.w = 0 ∧ x.h = 0)
  else false
theorem checkHap_ok (x : Hap) (hb : x.bytes.length ≤ 140737488355328) : Pure Tryd.prog W 12 [encHap x] (.bool (checkH x)) := by
  by_cases k1 : x.kind = 1
  · have hE : checkH x = decide (x.w = 0 ∧ x.h = 0 ∧ 0 ≤ x.who ∧ x.bytes.length ≤ 4000) := by rw [checkH, if_pos (.inl k1)]
    rw [hE]
    refine Pure.of (acalls_of_vc (drawOk W) Tryd.func12 rfl (by decide) (by decide) rfl ?_)
    (refine g0_ ?_; repeat ((first | refine n1_ fun b_ => ?_ | refine n2_ fun b_ => ?_ | refine Elem1.mk fun e_ he_ => ?_); refine g0_ ?_))
    (refine g1_ ?_; repeat ((first | refine n1_ fun b_ => ?_ | refine n2_ fun b_ => ?_ | refine Elem1.mk fun e_ he_ => ?_); refine g1_ ?_))
    (refine Frz.of_eq ?_; (conv => lhs; whnf))
    (refine congrArg PV.bool ?_; rw [Bool.eq_iff_iff]; simp only [Bool.and_eq_true, decide_eq_true_eq]; by_cases hb0 : x.bytes = [] <;> (try simp [hb0]) <;> (try omega))
  · by_cases k2 : x.kind = 2
    · have hE : checkH x = decide (x.w = 0 ∧ x.h = 0 ∧ 0 ≤ x.who ∧ x.bytes.length ≤ 4000) := by rw [checkH, if_pos (.inr k2)]
      rw [hE]
      refine Pure.of (acalls_of_vc (drawOk W) Tryd.func12 rfl (by decide) (by decide) rfl ?_)
      (refine g0_ ?_; repeat ((first | refine n1_ fun b_ => ?_ | refine n2_ fun b_ => ?_ | refine Elem1.mk fun e_ he_ => ?_); refine g0_ ?_))
      (refine g1_ ?_; repeat ((first | refine n1_ fun b_ => ?_ | refine n2_ fun b_ => ?_ | refine Elem1.mk fun e_ he_ => ?_); refine g1_ ?_))
      (refine Frz.of_eq ?_; (conv => lhs; whnf))
      (refine congrArg PV.bool ?_; rw [Bool.eq_iff_iff]; simp only [Bool.and_eq_true, decide_eq_true_eq]; by_cases hb0 : x.bytes = [] <;> (try simp [hb0]) <;> (try omega))
    · by_cases k3 : x.kind = 3
      · have hE : checkH x = decide (x.bytes = [] ∧ 0 ≤ x.who ∧ 0 < x.w ∧ 0 < x.h) := by rw [checkH, if_neg (by omega), if_pos k3]
        rw [hE]
        refine Pure.of (acalls_of_vc (drawOk W) Tryd.func12 rfl (by decide) (by decide) rfl ?_)
        (refine g0_ ?_; repeat ((first | refine n1_ fun b_ => ?_ | refine n2_ fun b_ => ?_ | refine Elem1.mk fun e_ he_ => ?_); refine g0_ ?_))
        (refine g1_ ?_; repeat ((first | refine n1_ fun b_ => ?_ | refine n2_ fun b_ => ?_ | refine Elem1.mk fun e_ he_ => ?_); refine g1_ ?_))
        (refine Frz.of_eq ?_; (conv => lhs; whnf))
        (refine congrArg PV.bool ?_; rw [Bool.eq_iff_iff]; simp only [Bool.and_eq_true, decide_eq_true_eq]; by_cases hb0 : x.bytes = [] <;> (try simp [hb0]) <;> (try omega))
      · by_cases k4 : x.kind = 4
        · have hE : checkH x = decide (x.bytes = [] ∧ 0 ≤ x.who ∧ x.w = 0 ∧ x.h = 0) := by rw [checkH, if_neg (by omega), if_neg k3, if_pos k4]
          rw [hE]
          refine Pure.of (acalls_of_vc (drawOk W) Tryd.func12 rfl (by decide) (by decide) rfl ?_)
          (refine g0_ ?_; repeat ((first | refine n1_ fun b_ => ?_ | refine n2_ fun b_ => ?_ | refine Elem1.mk fun e_ he_ => ?_); refine g0_ ?_))
          (refine g1_ ?_; repeat ((first | refine n1_ fun b_ => ?_ | refine n2_ fun b_ => ?_ | refine Elem1.mk fun e_ he_ => ?_); refine g1_ ?_))
          (refine Frz.of_eq ?_; (conv => lhs; whnf))
          (refine congrArg PV.bool ?_; rw [Bool.eq_iff_iff]; simp only [Bool.and_eq_true, decide_eq_true_eq]; by_cases hb0 : x.bytes = [] <;> (try simp [hb0]) <;> (try omega))
        · have hE : checkH x = false := by rw [checkH, if_neg (by omega), if_neg k3, if_neg k4]
          rw [hE]
          refine Pure.of (acalls_of_vc (drawOk W) Tryd.func12 rfl (by decide) (by decide) rfl ?_)
          (refine g0_ ?_; repeat ((first | refine n1_ fun b_ => ?_ | refine n2_ fun b_ => ?_ | refine Elem1.mk fun e_ he_ => ?_); refine g0_ ?_))
          (refine g1_ ?_; repeat ((first | refine n1_ fun b_ => ?_ | refine n2_ fun b_ => ?_ | refine Elem1.mk fun e_ he_ => ?_); refine g1_ ?_))
          (refine Frz.of_eq ?_; (conv => lhs; whnf))
          (try rfl)
theorem isHap_ok (x : Hap) (hb : x.bytes.length ≤ 140737488355328) : Pure Tryd.prog W 25 [encHap x] (.bool (checkH x)) := by
  by_cases k1 : x.kind = 1
  · have hE : checkH x = decide (x.w = 0 ∧ x.h = 0 ∧ 0 ≤ x.who ∧ x.bytes.length ≤ 4000) := by rw [checkH, if_pos (.inl k1)]
    rw [hE]
    refine Pure.of (acalls_of_vc (drawOk W) Tryd.func25 rfl (by decide) (by decide) rfl ?_)
    (refine g0_ ?_; repeat ((first | refine n1_ fun b_ => ?_ | refine n2_ fun b_ => ?_ | refine Elem1.mk fun e_ he_ => ?_); refine g0_ ?_))
    (refine g1_ ?_; repeat ((first | refine n1_ fun b_ => ?_ | refine n2_ fun b_ => ?_ | refine Elem1.mk fun e_ he_ => ?_); refine g1_ ?_))
    (refine Frz.of_eq ?_; (conv => lhs; whnf))
    (refine congrArg PV.bool ?_; rw [Bool.eq_iff_iff]; simp only [Bool.and_eq_true, decide_eq_true_eq]; by_cases hb0 : x.bytes = [] <;> (try simp [hb0]) <;> (try omega))
  · by_cases k2 : x.kind = 2
    · have hE : checkH x = decide (x.w = 0 ∧ x.h = 0 ∧ 0 ≤ x.who ∧ x.bytes.length ≤ 4000) := by rw [checkH, if_pos (.inr k2)]
      rw [hE]
      refine Pure.of (acalls_of_vc (drawOk W) Tryd.func25 rfl (by decide) (by decide) rfl ?_)
      (refine g0_ ?_; repeat ((first | refine n1_ fun b_ => ?_ | refine n2_ fun b_ => ?_ | refine Elem1.mk fun e_ he_ => ?_); refine g0_ ?_))
      (refine g1_ ?_; repeat ((first | refine n1_ fun b_ => ?_ | refine n2_ fun b_ => ?_ | refine Elem1.mk fun e_ he_ => ?_); refine g1_ ?_))
      (refine Frz.of_eq ?_; (conv => lhs; whnf))
      (refine congrArg PV.bool ?_; rw [Bool.eq_iff_iff]; simp only [Bool.and_eq_true, decide_eq_true_eq]; by_cases hb0 : x.bytes = [] <;> (try simp [hb0]) <;> (try omega))
    · by_cases k3 : x.kind = 3
      · have hE : checkH x = decide (x.bytes = [] ∧ 0 ≤ x.who ∧ 0 < x.w ∧ 0 < x.h) := by rw [checkH, if_neg (by omega), if_pos k3]
        rw [hE]
        refine Pure.of (acalls_of_vc (drawOk W) Tryd.func25 rfl (by decide) (by decide) rfl ?_)
        (refine g0_ ?_; repeat ((first | refine n1_ fun b_ => ?_ | refine n2_ fun b_ => ?_ | refine Elem1.mk fun e_ he_ => ?_); refine g0_ ?_))
        (refine g1_ ?_; repeat ((first | refine n1_ fun b_ => ?_ | refine n2_ fun b_ => ?_ | refine Elem1.mk fun e_ he_ => ?_); refine g1_ ?_))
        (refine Frz.of_eq ?_; (conv => lhs; whnf))
        (refine congrArg PV.bool ?_; rw [Bool.eq_iff_iff]; simp only [Bool.and_eq_true, decide_eq_true_eq]; by_cases hb0 : x.bytes = [] <;> (try simp [hb0]) <;> (try omega))
      · by_cases k4 : x.kind = 4
        · have hE : checkH x = decide (x.bytes = [] ∧ 0 ≤ x.who ∧ x.w = 0 ∧ x.h = 0) := by rw [checkH, if_neg (by omega), if_neg k3, if_pos k4]
          rw [hE]
          refine Pure.of (acalls_of_vc (drawOk W) Tryd.func25 rfl (by decide) (by decide) rfl ?_)
          (refine g0_ ?_; repeat ((first | refine n1_ fun b_ => ?_ | refine n2_ fun b_ => ?_ | refine Elem1.mk fun e_ he_ => ?_); refine g0_ ?_))
          (refine g1_ ?_; repeat ((first | refine n1_ fun b_ => ?_ | refine n2_ fun b_ => ?_ | refine Elem1.mk fun e_ he_ => ?_); refine g1_ ?_))
          (refine Frz.of_eq ?_; (conv => lhs; whnf))
          (refine congrArg PV.bool ?_; rw [Bool.eq_iff_iff]; simp only [Bool.and_eq_true, decide_eq_true_eq]; by_cases hb0 : x.bytes = [] <;> (try simp [hb0]) <;> (try omega))
        · have hE : checkH x = false := by rw [checkH, if_neg (by omega), if_neg k3, if_neg k4]
          rw [hE]
          refine Pure.of (acalls_of_vc (drawOk W) Tryd.func25 rfl (by decide) (by decide) rfl ?_)
          (refine g0_ ?_; repeat ((first | refine n1_ fun b_ => ?_ | refine n2_ fun b_ => ?_ | refine Elem1.mk fun e_ he_ => ?_); refine g0_ ?_))
          (refine g1_ ?_; repeat ((first | refine n1_ fun b_ => ?_ | refine n2_ fun b_ => ?_ | refine Elem1.mk fun e_ he_ => ?_); refine g1_ ?_))
          (refine Frz.of_eq ?_; (conv => lhs; whnf))
          (try rfl)
/-- A byte, as it is told. -/
def hexL : List UInt8 := [48, 49, 50, 51, 52, 53, 54, 55, 56, 57, 97, 98, 99, 100, 101, 102]
def hexD (n : Nat) : UInt8 := hexL.getD n 0
def quoteB (c : UInt8) : List UInt8 := if 32 < c.toNat ∧ c.toNat < 127 ∧ c.toNat ≠ 37 then [c] else [37, hexD (c.toNat / 16), hexD (c.toNat % 16)]
def quoteL (s : List UInt8) : List UInt8 := s.flatMap quoteB
theorem quoteB_len (c : UInt8) : (quoteB c).length ≤ 3 := by unfold quoteB; split <;> simp
theorem quoteL_len : ∀ s : List UInt8, (quoteL s).length ≤ 3 * s.length
  | [] => by simp [quoteL]
  | c :: s => by
    have h1 := quoteB_len c
    have h2 := quoteL_len s
    rw [quoteL] at h2 ⊢
    rw [List.flatMap_cons, List.length_append, List.length_cons]; omega
theorem and15 : ∀ x ∈ List.range 256, bitop .and .u8 x 15 = x % 16 := by decide +kernel
theorem and15' (c : UInt8) : bitop .and .u8 c.toNat 15 = ((c.toNat % 16 : Nat) : Int) := by
  have := and15 c.toNat (List.mem_range.2 c.toNat_lt)
  rw [this]; omega
theorem shr4 (c : UInt8) : ((c.toNat : Int)).fdiv (2 ^ min (Int.toNat 4) IntKind.u8.bits) = ((c.toNat / 16 : Nat) : Int) := by
  rw [show (2 : Int) ^ min (Int.toNat 4) IntKind.u8.bits = 16 from rfl, Int.fdiv_eq_ediv_of_nonneg _ (by decide)]; omega
theorem hexS : ∀ n < 16, List.drop n (List.take (n + 1) (ByteArray.mk #[48, 49, 50, 51, 52, 53, 54, 55, 56, 57, 97, 98, 99, 100, 101, 102]).data.toList) = [hexD n] := by decide +kernel
theorem hexX : ∀ n < 16, (ByteArray.mk #[48, 49, 50, 51, 52, 53, 54, 55, 56, 57, 97, 98, 99, 100, 101, 102]).data.toList[n]? = some (hexD n) := by decide +kernel
theorem quote_ok (s : List UInt8) (hs : s.length ≤ 1048576) : Pure Tryd.prog W 15 [.str s] (.str (quoteL s)) := by
  have hql := quoteL_len s
  refine Pure.of (acalls_of_vc (drawOk W) Tryd.func15 rfl (by decide) (by decide) rfl ?_)
  (refine g0_ ?_; repeat ((first | refine n1_ fun b_ => ?_ | refine n2_ fun b_ => ?_ | refine Elem1.mk fun e_ he_ => ?_); refine g0_ ?_))
  refine' loopI (α := Nat × Nat × (List UInt8)) (fun (i, c, a) => [(8, .int .i64 i)]) [(0, _), (3, _), (7, _)] (fun (i, c, a) => bldS b_ c a) (fun (i, c, a) => i ≤ s.length ∧ a = quoteL (s.take i)) (fun (i, c, a) => s.length - i) (0, 0, []) ?_ ?_
  · exact ⟨Nat.zero_le _, rfl⟩
  rintro ⟨i, c, a⟩ ⟨hi, ha⟩
  have hal := quoteL_len (s.take i)
  rw [← ha, List.length_take] at hal
  (refine g0_ ?_; repeat ((first | refine n1_ fun b_ => ?_ | refine n2_ fun b_ => ?_ | refine Elem1.mk fun e_ he_ => ?_); refine g0_ ?_))
  refine brec ?_; intro c_ h1; (try rw [h1]); cases c_ <;> replace h1 := nm_ h1
  · have : i = s.length := by omega
    subst this
    rw [List.take_length] at ha
    (refine g0_ ?_; repeat ((first | refine n1_ fun b_ => ?_ | refine n2_ fun b_ => ?_ | refine Elem1.mk fun e_ he_ => ?_); refine g0_ ?_))
    refine ACalls.lend (string_ok W b_ c a (by omega)) (r := []) (by simp) ?_
    rintro _ -
    rw [ha]
    (refine g0_ ?_; repeat ((first | refine n1_ fun b_ => ?_ | refine n2_ fun b_ => ?_ | refine Elem1.mk fun e_ he_ => ?_); refine g0_ ?_))
    exact .refl _
  · obtain ⟨x, hx⟩ : ∃ x, s[i]? = some x := ⟨s[i]'(by omega), List.getElem?_eq_getElem _⟩
    have hxl := x.toNat_lt
    have hq : quoteL (s.take (i + 1)) = a ++ quoteB x := by rw [take_snoc_of hx, quoteL, List.flatMap_append, ha]; simp [quoteL]
    have h2 := and15' x
    have h3 := shr4 x
    (refine g0_ ?_; repeat ((first | refine n1_ fun b_ => ?_ | refine n2_ fun b_ => ?_ | refine Elem1.mk fun e_ he_ => ?_); refine g0_ ?_))
    refine brec ?_; intro c_ h4; (try rw [h4]); cases c_ <;> replace h4 := nm_ h4
    · rw [hx] at he_
      obtain rfl := Option.some.inj he_
      have hA : x.toNat / 16 < 16 := by omega
      have hB : x.toNat % 16 < 16 := by omega
      have hqe : quoteB x = [37, hexD (x.toNat / 16), hexD (x.toNat % 16)] := by rw [quoteB, if_neg (by omega)]
      rw [hqe] at hq
      generalize x.toNat / 16 = A at *
      generalize x.toNat % 16 = B at *
      have hSA := hexS A hA
      have hSB := hexS B hB
      have h2' := Int.ofNat.inj (show Int.ofNat _ = Int.ofNat B from h2)
      (refine g0_ ?_; repeat ((first | refine n1_ fun b_ => ?_ | refine n2_ fun b_ => ?_ | refine Elem1.mk fun e_ he_ => ?_); refine g0_ ?_))
      refine Draws.head ⟨14, by decide +kernel, ?_⟩; (refine g0_ ?_; repeat ((first | refine n1_ fun b_ => ?_ | refine n2_ fun b_ => ?_ | refine Elem1.mk fun e_ he_ => ?_); refine g0_ ?_))
      rw [h3, show (A : Int) + 1 = ((A + 1 : Nat) : Int) from rfl]
      (refine g0_ ?_; repeat ((first | refine n1_ fun b_ => ?_ | refine n2_ fun b_ => ?_ | refine Elem1.mk fun e_ he_ => ?_); refine g0_ ?_))
      rw [hSA]
      (refine g0_ ?_; repeat ((first | refine n1_ fun b_ => ?_ | refine n2_ fun b_ => ?_ | refine Elem1.mk fun e_ he_ => ?_); refine g0_ ?_))
      rw [h2', hSB]
      refine ACalls.lend (writeString_ok W b_ c a [37, hexD A, hexD B] (by simp) (by simp) (by omega)) (r := []) (by simp) ?_
      rintro c' -
      (refine g0_ ?_; repeat ((first | refine n1_ fun b_ => ?_ | refine n2_ fun b_ => ?_ | refine Elem1.mk fun e_ he_ => ?_); refine g0_ ?_))
      refine nx_ (i + 1, c', a ++ [37, hexD A, hexD B]) ?_ ?_
      · exact ⟨by omega, hq.symm⟩
      · ((try dsimp only); (try simp only [List.length_drop, List.length_take, List.length_append, List.length_cons, List.length_nil, List.length_map] at *); omega)
    · rw [hx] at he_
      obtain rfl := Option.some.inj he_
      have hqe : quoteB x = [x] := by rw [quoteB, if_pos (by omega)]
      rw [hqe] at hq
      (refine g0_ ?_; repeat ((first | refine n1_ fun b_ => ?_ | refine n2_ fun b_ => ?_ | refine Elem1.mk fun e_ he_ => ?_); refine g0_ ?_))
      refine ACalls.lend (writeByte_ok W b_ c a x (by omega)) (r := []) (by simp) ?_
      rintro c' -
      (refine g0_ ?_; repeat ((first | refine n1_ fun b_ => ?_ | refine n2_ fun b_ => ?_ | refine Elem1.mk fun e_ he_ => ?_); refine g0_ ?_))
      refine nx_ (i + 1, c', a ++ [x]) ?_ ?_
      · exact ⟨by omega, hq.symm⟩
      · ((try dsimp only); (try simp only [List.length_drop, List.length_take, List.length_append, List.length_cons, List.length_nil, List.length_map] at *); omega)
/-- A happening's line. -/
def lineH (x : Hap) : List UInt8 :=
  if x.kind = 1 then [115, 97, 121, 115] ++ ([32] ++ Lib.itoa x.who) ++ [32] ++ quoteL x.bytes
  else if x.kind = 2 then [115, 116, 114, 105, 107, 101, 115] ++ ([32] ++ Lib.itoa x.who) ++ [32] ++ quoteL x.bytes
  else if x.kind = 3 then [115, 105, 122, 101, 115] ++ ([32] ++ Lib.itoa x.who) ++ [32] ++ Lib.itoa x.w ++ [32] ++ Lib.itoa x.h
  else [100, 114, 97, 105, 110, 115] ++ ([32] ++ Lib.itoa x.who)
theorem itoa_len (n : Int) (hn : i64ok n) : (Lib.itoa n).length ≤ 21 := Lib.itoa_length_le n hn.1 hn.2
theorem happens_ok (hN : Nums W) (x : Hap) (hx : x.ok) (hb : x.bytes.length ≤ 1048576) : Pure Tryd.prog W 26 [encHap x] (.str (lineH x)) := by
  have hq := quoteL_len x.bytes
  have l1 := itoa_len x.who hx.2.1
  have l2 := itoa_len x.w hx.2.2.1
  have l3 := itoa_len x.h hx.2.2.2
  refine Pure.of (acalls_of_vc (drawOk W) Tryd.func26 rfl (by decide) (by decide) rfl ?_)
  (refine g0_ ?_; repeat ((first | refine n1_ fun b_ => ?_ | refine n2_ fun b_ => ?_ | refine Elem1.mk fun e_ he_ => ?_); refine g0_ ?_))
  refine' loopI (α := Nat × (List UInt8)) (fun (i, a) => [(10, .int .i64 i), (3, .str a)]) [(1, _), (9, _)] (fun (i, a) => [⟨b_, .row 5 [encHap x] 0⟩]) (fun (i, a) => i ≤ x.bytes.length ∧ a = quoteL (x.bytes.take i)) (fun (i, a) => x.bytes.length - i) (0, []) ?_ ?_
  · exact ⟨Nat.zero_le _, rfl⟩
  rintro ⟨i, a⟩ ⟨hi, ha⟩
  have hal := quoteL_len (x.bytes.take i)
  rw [← ha, List.length_take] at hal
  (refine g0_ ?_; repeat ((first | refine n1_ fun b_ => ?_ | refine n2_ fun b_ => ?_ | refine Elem1.mk fun e_ he_ => ?_); refine g0_ ?_))
  refine brec ?_; intro c_ h1; (try rw [h1]); cases c_ <;> replace h1 := nm_ h1
  · have : i = x.bytes.length := by omega
    subst this
    rw [List.take_length] at ha
    (refine g0_ ?_; repeat ((first | refine n1_ fun b_ => ?_ | refine n2_ fun b_ => ?_ | refine Elem1.mk fun e_ he_ => ?_); refine g0_ ?_))
    refine (itoa_ok W hN x.who hx.2.1).use ?_; (refine g0_ ?_; repeat ((first | refine n1_ fun b_ => ?_ | refine n2_ fun b_ => ?_ | refine Elem1.mk fun e_ he_ => ?_); refine g0_ ?_))
    rw [lineH, ← ha]
    by_cases k1 : x.kind = 1
    · (refine g1_ ?_; repeat ((first | refine n1_ fun b_ => ?_ | refine n2_ fun b_ => ?_ | refine Elem1.mk fun e_ he_ => ?_); refine g1_ ?_))
      (refine Frz.of_eq ?_; (conv => lhs; whnf))
      (rw [if_pos k1])
    · by_cases k2 : x.kind = 2
      · (refine g1_ ?_; repeat ((first | refine n1_ fun b_ => ?_ | refine n2_ fun b_ => ?_ | refine Elem1.mk fun e_ he_ => ?_); refine g1_ ?_))
        (refine Frz.of_eq ?_; (conv => lhs; whnf))
        (rw [if_neg k1, if_pos k2])
      · by_cases k3 : x.kind = 3
        · (refine g1_ ?_; repeat ((first | refine n1_ fun b_ => ?_ | refine n2_ fun b_ => ?_ | refine Elem1.mk fun e_ he_ => ?_); refine g1_ ?_))
          refine head_ ?_; (refine g0_ ?_; repeat ((first | refine n1_ fun b_ => ?_ | refine n2_ fun b_ => ?_ | refine Elem1.mk fun e_ he_ => ?_); refine g0_ ?_))
          refine ⟨_, (itoa_ok W hN x.w hx.2.2.1).quiet, ?_⟩; (refine g0_ ?_; repeat ((first | refine n1_ fun b_ => ?_ | refine n2_ fun b_ => ?_ | refine Elem1.mk fun e_ he_ => ?_); refine g0_ ?_))
          refine ⟨_, (itoa_ok W hN x.h hx.2.2.2).quiet, ?_⟩; (refine g0_ ?_; repeat ((first | refine n1_ fun b_ => ?_ | refine n2_ fun b_ => ?_ | refine Elem1.mk fun e_ he_ => ?_); refine g0_ ?_))
          (refine Frz.of_eq ?_; (conv => lhs; whnf))
          (rw [if_neg k1, if_neg k2, if_pos k3])
        · (refine g1_ ?_; repeat ((first | refine n1_ fun b_ => ?_ | refine n2_ fun b_ => ?_ | refine Elem1.mk fun e_ he_ => ?_); refine g1_ ?_))
          (refine Frz.of_eq ?_; (conv => lhs; whnf))
          (rw [if_neg k1, if_neg k2, if_neg k3])
  · obtain ⟨y, hy⟩ : ∃ y, x.bytes[i]? = some y := ⟨x.bytes[i]'(by omega), List.getElem?_eq_getElem _⟩
    have hyl := y.toNat_lt
    have hq : quoteL (x.bytes.take (i + 1)) = a ++ quoteB y := by rw [take_snoc_of hy, quoteL, List.flatMap_append, ha]; simp [quoteL]
    have h2 := and15' y
    have h3 := shr4 y
    (refine g0_ ?_; repeat ((first | refine n1_ fun b_ => ?_ | refine n2_ fun b_ => ?_ | refine Elem1.mk fun e_ he_ => ?_); refine g0_ ?_))
    rw [hy] at he_
    obtain rfl := Option.some.inj he_
    refine brec ?_; intro c_ h4; (try rw [h4]); cases c_ <;> replace h4 := nm_ h4
    · have hA : y.toNat / 16 < 16 := by omega
      have hB : y.toNat % 16 < 16 := by omega
      have hqe : quoteB y = [37, hexD (y.toNat / 16), hexD (y.toNat % 16)] := by rw [quoteB, if_neg (by omega)]
      rw [hqe] at hq
      generalize y.toNat / 16 = A at *
      generalize y.toNat % 16 = B at *
      have hSA := hexX A hA
      have hSB := hexX B hB
      have h2' := Int.ofNat.inj (show Int.ofNat _ = Int.ofNat B from h2)
      clear he_
      (refine g0_ ?_; repeat ((first | refine n1_ fun b_ => ?_ | refine n2_ fun b_ => ?_ | refine Elem1.mk fun e_ he_ => ?_); refine g0_ ?_))
      refine head_ ?_; (refine g0_ ?_; repeat ((first | refine n1_ fun b_ => ?_ | refine n2_ fun b_ => ?_ | refine Elem1.mk fun e_ he_ => ?_); refine g0_ ?_))
      rw [h3]
      (refine g0_ ?_; repeat ((first | refine n1_ fun b_ => ?_ | refine n2_ fun b_ => ?_ | refine Elem1.mk fun e_ he_ => ?_); refine g0_ ?_))
      rw [h2', hSB] at he_
      cases he_
      rw [hSA] at he_
      cases he_
      refine ⟨[((hexD A).toNat : Int), ((hexD B).toNat : Int)], rfl, ?_⟩
      (refine g0_ ?_; repeat ((first | refine n1_ fun b_ => ?_ | refine n2_ fun b_ => ?_ | refine Elem1.mk fun e_ he_ => ?_); refine g0_ ?_))
      refine nx_ (i + 1, a ++ [37, hexD A, hexD B]) ?_ ?_
      · exact ⟨by omega, hq.symm⟩
      · ((try dsimp only); (try simp only [List.length_drop, List.length_take, List.length_append, List.length_cons, List.length_nil, List.length_map] at *); omega)
    · have hqe : quoteB y = [y] := by rw [quoteB, if_pos (by omega)]
      rw [hqe] at hq
      (refine g0_ ?_; repeat ((first | refine n1_ fun b_ => ?_ | refine n2_ fun b_ => ?_ | refine Elem1.mk fun e_ he_ => ?_); refine g0_ ?_))
      refine .inl ?_
      (refine g0_ ?_; repeat ((first | refine n1_ fun b_ => ?_ | refine n2_ fun b_ => ?_ | refine Elem1.mk fun e_ he_ => ?_); refine g0_ ?_))
      refine ⟨[(y.toNat : Int)], rfl, ?_⟩
      (refine g0_ ?_; repeat ((first | refine n1_ fun b_ => ?_ | refine n2_ fun b_ => ?_ | refine Elem1.mk fun e_ he_ => ?_); refine g0_ ?_))
      refine nx_ (i + 1, a ++ [y]) ?_ ?_
      · exact ⟨by omega, hq.symm⟩
      · ((try dsimp only); (try simp only [List.length_drop, List.length_take, List.length_append, List.length_cons, List.length_nil, List.length_map] at *); omega)
end Go.Eng.YtlffjmnnoceakaaDoor
end

/- Recordings printed; the law RecordPrint. -/
section
namespace Go.Eng.YtlffjmnnoceakaaDoor
open Go Go.Eng Go.Proofs
variable (W : World)
set_option linter.unusedSimpArgs false
set_option maxRecDepth 100000
set_option linter.unusedVariables false
set_option maxHeartbeats 4000000
def printL (l : List Hap) : List UInt8 := l.flatMap fun x => lineH x ++ [10]
def printE (l : List Hap) : List UInt8 × Int := if 200 < l.length then ([], 2) else if l.all checkH then (printL l, 0) else ([], 5)
theorem check_small {x : Hap} (h : checkH x = true) : x.bytes.length ≤ 4000 := by
  unfold checkH at h
  split at h
  · have := of_decide_eq_true h; exact this.2.2.2
  · split at h
    · have := (of_decide_eq_true h).1; rw [this]; decide
    · split at h
      · have := (of_decide_eq_true h).1; rw [this]; decide
      · cases h
theorem check_kind {x : Hap} (h : checkH x = true) : x.kind = 1 ∨ x.kind = 2 ∨ x.kind = 3 ∨ x.kind = 4 := by
  unfold checkH at h
  split at h
  · omega
  · split at h
    · omega
    · split at h
      · omega
      · cases h
theorem lineH_len {x : Hap} (hx : x.ok) (h : checkH x = true) : (lineH x).length ≤ 12100 := by
  have h1 := check_small h
  have h2 := quoteL_len x.bytes
  have l1 := itoa_len x.who hx.2.1
  have l2 := itoa_len x.w hx.2.2.1
  have l3 := itoa_len x.h hx.2.2.2
  unfold lineH
  (repeat' split) <;> simp <;> omega
theorem printL_len : ∀ (l : List Hap), (∀ x ∈ l, x.ok) → (l.all checkH = true) → (printL l).length ≤ 12101 * l.length
  | [], _, _ => by simp [printL]
  | x :: l, h1, h2 => by
    simp only [List.all_cons, Bool.and_eq_true] at h2
    have h3 := lineH_len (h1 x (by simp)) h2.1
    have h4 := printL_len l (fun y hy => h1 y (by simp [hy])) h2.2
    rw [printL] at h4 ⊢
    rw [List.flatMap_cons, List.length_append, List.length_append, List.length_cons]
    simp only [List.length_cons, List.length_nil]
    omega
theorem haps_all (l : List Hap) : (l.map encHap).all cellsB = true := by simp [cellsB, PV.flat, cellB, encHap]
theorem print_ok (hN : Nums W) (l : List Hap) (hl : ∀ x ∈ l, x.ok) (hb : ∀ x ∈ l, x.bytes.length ≤ 140737488355328) (hs : l.length ≤ 4000000000000) : Pure Tryd.prog W 5 [.sl 5 (l.map encHap)] (.tup [.str (printE l).1, .int .i64 (printE l).2]) := by
  have hlm : (l.map encHap).length = l.length := List.length_map _
  by_cases h0 : 200 < l.length
  · have hE : printE l = ([], 2) := by rw [printE, if_pos h0]
    rw [hE]
    refine Pure.of (acalls_of_vc (drawOk W) Tryd.func5 rfl (by decide) (by decide) rfl ?_)
    (refine g0_ ?_; repeat ((first | refine n1_ fun b_ => ?_ | refine n2_ fun b_ => ?_); refine g0_ ?_))
    (refine g1_ ?_; repeat ((first | refine n1_ fun b_ => ?_ | refine n2_ fun b_ => ?_); refine g1_ ?_))
    exact .refl _
  · refine Pure.of (acalls_of_vc (drawOk W) Tryd.func5 rfl (by decide) (by decide) rfl ?_)
    (refine g0_ ?_; repeat ((first | refine n1_ fun b_ => ?_ | refine n2_ fun b_ => ?_); refine g0_ ?_))
    (refine g1_ ?_; repeat ((first | refine n1_ fun b_ => ?_ | refine n2_ fun b_ => ?_); refine g1_ ?_))
    obtain ⟨b1, rfl⟩ : ∃ b1, b1 = b_ := ⟨_, rfl⟩
    refine' loopI (α := Nat × Nat × (List UInt8)) (fun (i, c, a) => [(12, .int .i64 i)]) [(4, _), (10, _), (11, _)] (fun (i, c, a) => bldS b1 c a) (fun (i, c, a) => i ≤ l.length ∧ (l.take i).all checkH = true ∧ a = printL (l.take i)) (fun (i, c, a) => l.length - i) (0, 0, []) ?_ ?_
    · exact ⟨Nat.zero_le _, rfl, rfl⟩
    rintro ⟨i, c, a⟩ ⟨hi, hall, ha⟩
    have hal := printL_len (l.take i) (fun x hx => hl x (List.mem_of_mem_take hx)) hall
    rw [← ha, List.length_take] at hal
    (refine g0_ ?_; repeat ((first | refine n1_ fun b_ => ?_ | refine n2_ fun b_ => ?_); refine g0_ ?_))
    refine brec ?_; intro c_ h1; (try rw [h1]); cases c_ <;> replace h1 := nm_ h1
    · have : i = l.length := by simp at h1; omega
      subst this
      rw [List.take_length] at ha hall
      have hE : printE l = (printL l, 0) := by rw [printE, if_neg h0, if_pos hall]
      rw [hE]
      (refine g0_ ?_; repeat ((first | refine n1_ fun b_ => ?_ | refine n2_ fun b_ => ?_); refine g0_ ?_))
      refine ACalls.lend (string_ok W b1 c a (by omega)) (r := []) (by simp) ?_
      rintro _ -
      rw [ha]
      (refine g0_ ?_; repeat ((first | refine n1_ fun b_ => ?_ | refine n2_ fun b_ => ?_); refine g0_ ?_))
      exact .refl _
    · rw [List.length_map] at h1
      obtain ⟨x, hx⟩ : ∃ x, l[i]? = some x := ⟨l[i]'(by omega), List.getElem?_eq_getElem _⟩
      have hxm := List.mem_of_getElem? hx
      have hxo := hl x hxm
      have hxb := hb x hxm
      (refine g0_ ?_; repeat ((first | refine n1_ fun b_ => ?_ | refine n2_ fun b_ => ?_); refine g0_ ?_))
      refine (checkHap_ok W x hxb).use ?_; (refine g0_ ?_; repeat ((first | refine n1_ fun b_ => ?_ | refine n2_ fun b_ => ?_); refine g0_ ?_))
      by_cases hch : checkH x = true
      · have hsm := check_small hch
        have hll := lineH_len hxo hch
        have hq : printL (l.take (i + 1)) = a ++ (lineH x ++ [10]) := by rw [take_snoc_of hx, printL, List.flatMap_append, ha]; simp [printL]
        rw [hch]
        (refine g0_ ?_; repeat ((first | refine n1_ fun b_ => ?_ | refine n2_ fun b_ => ?_); refine g0_ ?_))
        have hk := check_kind hch
        have l0 := quoteL_len x.bytes
        have l1 := itoa_len x.who hxo.2.1
        have l2 := itoa_len x.w hxo.2.2.1
        have l3 := itoa_len x.h hxo.2.2.2
        rw [lineH] at hq
        by_cases k1 : x.kind = 1
        · rw [if_pos k1] at hq
          (refine g1_ ?_; repeat ((first | refine n1_ fun b_ => ?_ | refine n2_ fun b_ => ?_); refine g1_ ?_))
          refine Draws.head ⟨10, by decide +kernel, ?_⟩; (refine g0_ ?_; repeat ((first | refine n1_ fun b_ => ?_ | refine n2_ fun b_ => ?_); refine g0_ ?_))
          refine ⟨_, (itoa_ok W hN x.who hxo.2.1).quiet, ?_⟩; (refine g0_ ?_; repeat ((first | refine n1_ fun b_ => ?_ | refine n2_ fun b_ => ?_); refine g0_ ?_))
          refine ⟨_, (quote_ok W x.bytes (by omega)).quiet, ?_⟩; (refine g0_ ?_; repeat ((first | refine n1_ fun b_ => ?_ | refine n2_ fun b_ => ?_); refine g0_ ?_))
          refine ACalls.lend (writeString_ok W b1 c a ([115, 97, 121, 115, 32] ++ Lib.itoa x.who ++ [32] ++ quoteL x.bytes ++ [10]) (by simp) (by simp; omega) (by omega)) (r := [_]) (List.perm_append_singleton _ _).symm ?_
          rintro c' -
          (refine g0_ ?_; repeat ((first | refine n1_ fun b_ => ?_ | refine n2_ fun b_ => ?_); refine g0_ ?_))
          refine nx_ (i + 1, c', a ++ ([115, 97, 121, 115, 32] ++ Lib.itoa x.who ++ [32] ++ quoteL x.bytes ++ [10])) ?_ ?_
          · exact ⟨by omega, by rw [take_snoc_of hx, List.all_append, hall]; simp [hch], by rw [hq]; simp⟩
          · ((try dsimp only); (try simp only [List.length_drop, List.length_take, List.length_append, List.length_cons, List.length_nil, List.length_map] at *); omega)
        · rw [if_neg k1] at hq
          by_cases k2 : x.kind = 2
          · rw [if_pos k2] at hq
            (refine g1_ ?_; repeat ((first | refine n1_ fun b_ => ?_ | refine n2_ fun b_ => ?_); refine g1_ ?_))
            refine Draws.head ⟨10, by decide +kernel, ?_⟩; (refine g0_ ?_; repeat ((first | refine n1_ fun b_ => ?_ | refine n2_ fun b_ => ?_); refine g0_ ?_))
            refine ⟨_, (itoa_ok W hN x.who hxo.2.1).quiet, ?_⟩; (refine g0_ ?_; repeat ((first | refine n1_ fun b_ => ?_ | refine n2_ fun b_ => ?_); refine g0_ ?_))
            refine ⟨_, (quote_ok W x.bytes (by omega)).quiet, ?_⟩; (refine g0_ ?_; repeat ((first | refine n1_ fun b_ => ?_ | refine n2_ fun b_ => ?_); refine g0_ ?_))
            refine ACalls.lend (writeString_ok W b1 c a ([115, 116, 114, 105, 107, 101, 115, 32] ++ Lib.itoa x.who ++ [32] ++ quoteL x.bytes ++ [10]) (by simp) (by simp; omega) (by omega)) (r := [_]) (List.perm_append_singleton _ _).symm ?_
            rintro c' -
            (refine g0_ ?_; repeat ((first | refine n1_ fun b_ => ?_ | refine n2_ fun b_ => ?_); refine g0_ ?_))
            refine nx_ (i + 1, c', a ++ ([115, 116, 114, 105, 107, 101, 115, 32] ++ Lib.itoa x.who ++ [32] ++ quoteL x.bytes ++ [10])) ?_ ?_
            · exact ⟨by omega, by rw [take_snoc_of hx, List.all_append, hall]; simp [hch], by rw [hq]; simp⟩
            · ((try dsimp only); (try simp only [List.length_drop, List.length_take, List.length_append, List.length_cons, List.length_nil, List.length_map] at *); omega)
          · rw [if_neg k2] at hq
            by_cases k3 : x.kind = 3
            · rw [if_pos k3] at hq
              (refine g1_ ?_; repeat ((first | refine n1_ fun b_ => ?_ | refine n2_ fun b_ => ?_); refine g1_ ?_))
              refine Draws.head ⟨15, by decide +kernel, ?_⟩; (refine g0_ ?_; repeat ((first | refine n1_ fun b_ => ?_ | refine n2_ fun b_ => ?_); refine g0_ ?_))
              refine ⟨_, (itoa_ok W hN x.who hxo.2.1).quiet, ?_⟩; (refine g0_ ?_; repeat ((first | refine n1_ fun b_ => ?_ | refine n2_ fun b_ => ?_); refine g0_ ?_))
              refine ⟨_, (itoa_ok W hN x.w hxo.2.2.1).quiet, ?_⟩; (refine g0_ ?_; repeat ((first | refine n1_ fun b_ => ?_ | refine n2_ fun b_ => ?_); refine g0_ ?_))
              refine ⟨_, (itoa_ok W hN x.h hxo.2.2.2).quiet, ?_⟩; (refine g0_ ?_; repeat ((first | refine n1_ fun b_ => ?_ | refine n2_ fun b_ => ?_); refine g0_ ?_))
              refine ACalls.lend (writeString_ok W b1 c a ([115, 105, 122, 101, 115, 32] ++ Lib.itoa x.who ++ [32] ++ Lib.itoa x.w ++ [32] ++ Lib.itoa x.h ++ [10]) (by simp) (by simp; omega) (by omega)) (r := [_]) (List.perm_append_singleton _ _).symm ?_
              rintro c' -
              (refine g0_ ?_; repeat ((first | refine n1_ fun b_ => ?_ | refine n2_ fun b_ => ?_); refine g0_ ?_))
              refine nx_ (i + 1, c', a ++ ([115, 105, 122, 101, 115, 32] ++ Lib.itoa x.who ++ [32] ++ Lib.itoa x.w ++ [32] ++ Lib.itoa x.h ++ [10])) ?_ ?_
              · exact ⟨by omega, by rw [take_snoc_of hx, List.all_append, hall]; simp [hch], by rw [hq]; simp⟩
              · ((try dsimp only); (try simp only [List.length_drop, List.length_take, List.length_append, List.length_cons, List.length_nil, List.length_map] at *); omega)
            · rw [if_neg k3] at hq
              have k4 : x.kind = 4 := by omega
              (refine g1_ ?_; repeat ((first | refine n1_ fun b_ => ?_ | refine n2_ fun b_ => ?_); refine g1_ ?_))
              refine (itoa_ok W hN x.who hxo.2.1).use ?_; (refine g0_ ?_; repeat ((first | refine n1_ fun b_ => ?_ | refine n2_ fun b_ => ?_); refine g0_ ?_))
              refine ACalls.lend (writeString_ok W b1 c a ([100, 114, 97, 105, 110, 115, 32] ++ Lib.itoa x.who ++ [10]) (by simp) (by simp; omega) (by omega)) (r := [_]) (List.perm_append_singleton _ _).symm ?_
              rintro c' -
              (refine g0_ ?_; repeat ((first | refine n1_ fun b_ => ?_ | refine n2_ fun b_ => ?_); refine g0_ ?_))
              refine nx_ (i + 1, c', a ++ ([100, 114, 97, 105, 110, 115, 32] ++ Lib.itoa x.who ++ [10])) ?_ ?_
              · exact ⟨by omega, by rw [take_snoc_of hx, List.all_append, hall]; simp [hch], by rw [hq]; simp⟩
              · ((try dsimp only); (try simp only [List.length_drop, List.length_take, List.length_append, List.length_cons, List.length_nil, List.length_map] at *); omega)
      · have hE : printE l = ([], 5) := by
          rw [printE, if_neg h0, if_neg]
          intro h
          exact hch (List.all_eq_true.1 h x hxm)
        rw [hE, show checkH x = false by simpa using hch]
        (refine g0_ ?_; repeat ((first | refine n1_ fun b_ => ?_ | refine n2_ fun b_ => ?_); refine g0_ ?_))
        exact .refl _
theorem noted_ok (hN : Nums W) : Pure Tryd.prog W 6 [] (.bool true) := by
  have hp := print_ok W hN [⟨1, 1, [97, 32, 37], 0, 0⟩, ⟨4, 0, [], 0, 0⟩] (by
    intro x hx
    simp only [List.mem_cons, List.not_mem_nil, or_false] at hx
    rcases hx with rfl | rfl <;> (unfold Hap.ok i64ok; decide)) (by
    intro x hx
    simp only [List.mem_cons, List.not_mem_nil, or_false] at hx
    rcases hx with rfl | rfl <;> decide) (by decide)
  rw [show printE [⟨1, 1, [97, 32, 37], 0, 0⟩, ⟨4, 0, [], 0, 0⟩] = ([115, 97, 121, 115, 32, 49, 32, 97, 37, 50, 48, 37, 50, 53, 10, 100, 114, 97, 105, 110, 115, 32, 48, 10], 0) by decide +kernel] at hp
  refine Pure.of (acalls_of_vc (drawOk W) Tryd.func6 rfl (by decide) (by decide) rfl ?_)
  (refine g0_ ?_; repeat ((first | refine n1_ fun b_ => ?_ | refine n2_ fun b_ => ?_); refine g0_ ?_))
  refine .inl ?_
  (refine g0_ ?_; repeat ((first | refine n1_ fun b_ => ?_ | refine n2_ fun b_ => ?_); refine g0_ ?_))
  refine (hp).use ?_; (refine g0_ ?_; repeat ((first | refine n1_ fun b_ => ?_ | refine n2_ fun b_ => ?_); refine g0_ ?_))
  (refine Frz.of_eq ?_; (conv => lhs; whnf))
  (try rfl)
theorem printL_filter : ∀ (l : List Hap), (∀ x ∈ l, x.ok) → (printL (l.filter checkH)).length ≤ 12101 * l.length := fun l h => by
  have := printL_len (l.filter checkH) (fun x hx => h x (List.mem_filter.1 hx).1) (by simp)
  have h2 := List.length_filter_le checkH l
  omega
end Go.Eng.YtlffjmnnoceakaaDoor
end
