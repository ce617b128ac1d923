/- Texts put together: Key5. -/
import Derived.Test.YtimpfhokacfobaaDoorMKY2
import Derived.Test.YtimpfhokacfobaaDoorMS1
import Derived.Test.YtimpfhokacfobaaDoorMG1
import Derived.Test.YtimpfhokacfobaaDoorMT1
/- Keys: compared; the fact that the laws look at first (b_ x_ q_ e_). -/
section
namespace Go.Eng.YtimpfhokacfobaaDoor
open Go Go.Eng Go.Proofs
variable (W : World)
set_option linter.unusedSimpArgs false
set_option maxRecDepth 100000
set_option linter.unusedVariables false
set_option maxHeartbeats 8000000
def Key.ok (k : Key) : Prop := i64ok k.kind ∧ i32ok k.r ∧ i64ok k.n ∧ i64ok k.held
theorem wf_i64K {n : Int} (h : i64ok n) : (Lit.int .i64 n).wf = true := by
  simp [Lit.wf, IntKind.min, IntKind.max, IntKind.signed, IntKind.bits]; exact h
theorem wf_i32K {n : Int} (h : i32ok n) : (Lit.int .i32 n).wf = true := by
  simp [Lit.wf, IntKind.min, IntKind.max, IntKind.signed, IntKind.bits]; exact h
theorem cells_keyI : Tryd.prog.cellsOf 3 = 1 := by kernel_rfl
theorem cells_keyR : Tryd.prog.cellsOf 21 = 1 := by kernel_rfl
theorem cells_key : Tryd.prog.cellsOf 49 = 4 := by kernel_rfl
def litsKey (k : Key) : List Lit := [.int .i64 k.kind, .int .i32 k.r, .int .i64 k.n, .int .i64 k.held]
theorem lits_key (a : Key) (h : a.ok) : Tryd.prog.keyLits 4 49 [.int .i64 a.kind, .int .i32 a.r, .int .i64 a.n, .int .i64 a.held] = some (litsKey a) := by
  obtain ⟨h0, h1, h2, h3⟩ := h
  have hk : ∀ d (n : Int), (Lit.int .i64 n).wf = true → Tryd.prog.keyLits (d + 1) 3 [.int .i64 n] = some [.int .i64 n] := fun d n hn => by simp [Program.keyLits, Tryd.underlying3, hn]
  have hr : ∀ d (n : Int), (Lit.int .i32 n).wf = true → Tryd.prog.keyLits (d + 1) 21 [.int .i32 n] = some [.int .i32 n] := fun d n hn => by simp [Program.keyLits, Tryd.underlying21, hn]
  conv => lhs; unfold Program.keyLits
  rw [Tryd.underlying49]
  dsimp only
  rw [if_pos ⟨by rw [cells_key]; rfl, by simp⟩]
  simp only [List.mapM_cons, List.mapM_nil]
  rw [cells_keyI, cells_keyR]
  simp only [List.drop_zero, List.drop_succ_cons, List.take_succ_cons, List.take_zero, hk _ _ (wf_i64K h0), hr _ _ (wf_i32K h1), hk _ _ (wf_i64K h2), hk _ _ (wf_i64K h3)]
  rfl
theorem neq_key (a b : Key) (ha : a.ok) (hb : b.ok) (xo yo : Operand) : EqLaw Tryd.prog .neq 49 xo yo (encKey a) (encKey b) (!decide (a = b)) :=
  neqLaw_agg 4 (by kernel_rfl) (by decide) (by kernel_rfl) Tryd.underlying49 rfl rfl (by rw [cells_key]; rfl) (by rw [cells_key]; rfl) (lits_key a ha) (lits_key b hb) (by
    obtain ⟨a0, a1, a2, a3⟩ := a
    obtain ⟨b0, b1, b2, b3⟩ := b
    simp [litsKey])
theorem equal_keys (a b : List Key) (ha : (a.length : Int) ≤ 9223372036854775807) (hoa : ∀ c ∈ a, c.ok) (hob : ∀ c ∈ b, c.ok) :
    Pure Tryd.prog W 19 [.sl 4 (a.map encKey), .sl 4 (b.map encKey)] (.bool (decide (a = b))) := by
  refine Pure.of (acalls_of_vc (drawOk W) Tryd.func19 rfl (by decide) (by decide) rfl ?_)
  (refine g0_ ?_; repeat ((first | refine n1_ fun b_ => ?_ | refine n2_ fun b_ => ?_ | refine Nat1.mk fun q_ hq_ => ?_ | refine em_ fun x_ hx_ => ?_ | refine Elem1.mk fun e_ he_ => ?_); refine g0_ ?_))
  refine brec ?_; intro c_ hc; (try rw [hc]); cases c_ <;> replace hc := nm_ hc
  · have hlen : a.length = b.length := by simp at hc; omega
    (refine g0_ ?_; repeat ((first | refine n1_ fun b_ => ?_ | refine n2_ fun b_ => ?_ | refine Nat1.mk fun q_ hq_ => ?_ | refine em_ fun x_ hx_ => ?_ | refine Elem1.mk fun e_ he_ => ?_); refine g0_ ?_))
    refine' loopI (α := Nat) (fun i => [(13, .int .i64 i)]) [(0, _), (1, _), (12, _)] (fun i => []) (fun i => i ≤ a.length ∧ a.take i = b.take i) (fun i => a.length - i) 0 ?_ ?_
    · exact ⟨Nat.zero_le _, by simp⟩
    rintro i ⟨hi, hw⟩
    (refine g0_ ?_; repeat ((first | refine n1_ fun b_ => ?_ | refine n2_ fun b_ => ?_ | refine Nat1.mk fun q_ hq_ => ?_ | refine em_ fun x_ hx_ => ?_ | refine Elem1.mk fun e_ he_ => ?_); refine g0_ ?_))
    refine brec ?_; intro c_ h1; (try rw [h1]); cases c_ <;> replace h1 := nm_ h1
    · (refine g0_ ?_; repeat ((first | refine n1_ fun b_ => ?_ | refine n2_ fun b_ => ?_ | refine Nat1.mk fun q_ hq_ => ?_ | refine em_ fun x_ hx_ => ?_ | refine Elem1.mk fun e_ he_ => ?_); refine g0_ ?_))
      have : i = a.length := by simp at h1; omega
      subst this
      rw [List.take_length, hlen, List.take_length] at hw
      rw [hw]
      simp
      exact .refl _
    · have hlt : i < a.length := by simp at h1; omega
      (refine g0_ ?_; repeat ((first | refine n1_ fun b_ => ?_ | refine n2_ fun b_ => ?_ | refine Nat1.mk fun q_ hq_ => ?_ | refine em_ fun x_ hx_ => ?_ | refine Elem1.mk fun e_ he_ => ?_); refine g0_ ?_))
      refine head_ ?_; (refine g0_ ?_; repeat ((first | refine n1_ fun b_ => ?_ | refine n2_ fun b_ => ?_ | refine Nat1.mk fun q_ hq_ => ?_ | refine em_ fun x_ hx_ => ?_ | refine Elem1.mk fun e_ he_ => ?_); refine g0_ ?_))
      rename_i x hx
      have m1 := hoa _ (List.mem_of_getElem? hx)
      have m2 := hob _ (List.mem_of_getElem? hx_)
      refine ⟨_, neq_key x x_ m1 m2 _ _, ?_⟩
      (refine g0_ ?_; repeat ((first | refine n1_ fun b_ => ?_ | refine n2_ fun b_ => ?_ | refine Nat1.mk fun q_ hq_ => ?_ | refine em_ fun x_ hx_ => ?_ | refine Elem1.mk fun e_ he_ => ?_); refine g0_ ?_))
      refine brec ?_; intro c_ h2; (try rw [h2]); cases c_ <;> replace h2 := nm_ h2
      · (refine g0_ ?_; repeat ((first | refine n1_ fun b_ => ?_ | refine n2_ fun b_ => ?_ | refine Nat1.mk fun q_ hq_ => ?_ | refine em_ fun x_ hx_ => ?_ | refine Elem1.mk fun e_ he_ => ?_); refine g0_ ?_))
        refine nx_ (i + 1) ?_ ?_
        · exact ⟨hlt, by rw [take_snoc_of hx, take_snoc_of hx_, hw]; simp_all⟩
        · omega
      · (refine g0_ ?_; repeat ((first | refine n1_ fun b_ => ?_ | refine n2_ fun b_ => ?_ | refine Nat1.mk fun q_ hq_ => ?_ | refine em_ fun x_ hx_ => ?_ | refine Elem1.mk fun e_ he_ => ?_); refine g0_ ?_))
        have : a ≠ b := by rintro rfl; simp_all
        simp [this]
        exact .refl _
  · have hne : a ≠ b := by
      rintro rfl
      exact hc rfl
    (refine g0_ ?_; repeat ((first | refine n1_ fun b_ => ?_ | refine n2_ fun b_ => ?_ | refine Nat1.mk fun q_ hq_ => ?_ | refine em_ fun x_ hx_ => ?_ | refine Elem1.mk fun e_ he_ => ?_); refine g0_ ?_))
    simp [hne]
    exact .refl _
theorem plainK_ok (c : UInt8) : (plainK c).ok := by
  have hc := c.toNat_lt
  unfold plainK
  repeat' split
  all_goals
    refine ⟨?_, ?_, ?_, ?_⟩ <;> (simp only [i64ok, i32ok, keyZ, keyEsc]; omega)
theorem arrow_bd (c : Nat) : 0 ≤ arrowK c ∧ arrowK c ≤ 11 := by
  unfold arrowK
  repeat' split
  all_goals omega
theorem tilde_bd {n : Int} {p : Int × Int} (h : tildeK n = some p) : 12 ≤ p.1 ∧ p.1 ≤ 15 ∧ 0 ≤ p.2 ∧ p.2 ≤ 12 := by
  unfold tildeK at h
  by_cases a1 : n = 5
  · rw [if_pos a1] at h; cases h; dsimp only; omega
  rw [if_neg a1] at h
  by_cases a2 : n = 6
  · rw [if_pos a2] at h; cases h; dsimp only; omega
  rw [if_neg a2] at h
  by_cases a3 : n = 3
  · rw [if_pos a3] at h; cases h; dsimp only; omega
  rw [if_neg a3] at h
  by_cases b1 : n = 11
  · rw [if_pos b1] at h; cases h; dsimp only; omega
  rw [if_neg b1] at h
  by_cases b2 : n = 12
  · rw [if_pos b2] at h; cases h; dsimp only; omega
  rw [if_neg b2] at h
  by_cases b3 : n = 13
  · rw [if_pos b3] at h; cases h; dsimp only; omega
  rw [if_neg b3] at h
  by_cases b4 : n = 14
  · rw [if_pos b4] at h; cases h; dsimp only; omega
  rw [if_neg b4] at h
  by_cases b5 : n = 15
  · rw [if_pos b5] at h; cases h; dsimp only; omega
  rw [if_neg b5] at h
  by_cases b6 : n = 17
  · rw [if_pos b6] at h; cases h; dsimp only; omega
  rw [if_neg b6] at h
  by_cases b7 : n = 18
  · rw [if_pos b7] at h; cases h; dsimp only; omega
  rw [if_neg b7] at h
  by_cases b8 : n = 19
  · rw [if_pos b8] at h; cases h; dsimp only; omega
  rw [if_neg b8] at h
  by_cases b9 : n = 20
  · rw [if_pos b9] at h; cases h; dsimp only; omega
  rw [if_neg b9] at h
  by_cases c1 : n = 21
  · rw [if_pos c1] at h; cases h; dsimp only; omega
  rw [if_neg c1] at h
  by_cases c2 : n = 23
  · rw [if_pos c2] at h; cases h; dsimp only; omega
  rw [if_neg c2] at h
  by_cases c3 : n = 24
  · rw [if_pos c3] at h; cases h; dsimp only; omega
  rw [if_neg c3] at h
  cases h
theorem toldT_ok (s w0 : List UInt8) (two : Bool) (last : UInt8) (held : Int) (hh : 0 ≤ held ∧ held ≤ 7) : (toldT s w0 two last held).1.ok := by
  have ha := arrow_bd last.toNat
  unfold toldT
  split
  · refine ⟨?_, ?_, ?_, ?_⟩ <;> (simp only [i64ok, i32ok, keyZ, keyEsc]; omega)
  · split
    · refine ⟨?_, ?_, ?_, ?_⟩ <;> (simp only [i64ok, i32ok, keyZ, keyEsc]; omega)
    · split
      · refine ⟨?_, ?_, ?_, ?_⟩ <;> (simp only [i64ok, i32ok, keyZ, keyEsc]; omega)
      · split
        · refine ⟨?_, ?_, ?_, ?_⟩ <;> (simp only [i64ok, i32ok, keyZ, keyEsc]; omega)
        · split
          · rename_i k n h
            have := tilde_bd h
            dsimp only at this
            refine ⟨?_, ?_, ?_, ?_⟩ <;> (simp only [i64ok, i32ok, keyZ, keyEsc]; omega)
          · refine ⟨?_, ?_, ?_, ?_⟩ <;> (simp only [i64ok, i32ok, keyZ, keyEsc]; omega)
theorem toldK_ok (s : List UInt8) (last : UInt8) : (toldK s last).1.ok := by
  unfold toldK
  split
  · exact toldT_ok _ _ _ _ _ (by omega)
  · split
    · exact toldT_ok _ _ _ _ _ (by omega)
    · refine ⟨?_, ?_, ?_, ?_⟩ <;> (simp only [i64ok, i32ok, keyZ, keyEsc]; omega)
  · refine ⟨?_, ?_, ?_, ?_⟩ <;> (simp only [i64ok, i32ok, keyZ, keyEsc]; omega)
theorem keyEsc_ok : keyEsc.ok := by refine ⟨?_, ?_, ?_, ?_⟩ <;> (simp only [i64ok, i32ok, keyZ, keyEsc]; omega)
theorem keyZ_ok : keyZ.ok := by refine ⟨?_, ?_, ?_, ?_⟩ <;> (simp only [i64ok, i32ok, keyZ, keyEsc]; omega)
theorem plain_held (c : UInt8) : (plainK c).held = 0 ∨ (plainK c).held = 4 := by
  unfold plainK
  repeat' split
  all_goals first | exact .inl rfl | exact .inr rfl
theorem first0_okK (b : List UInt8) (last : Bool) : (first0 b last).1.ok ∧ ((first0 b last).1.held = 0 ∨ (first0 b last).1.held = 4) := by
  unfold first0
  split
  · exact ⟨plainK_ok _, plain_held _⟩
  · split
    · exact ⟨keyZ_ok, .inl rfl⟩
    · refine ⟨⟨?_, ?_, ?_, ?_⟩, .inl rfl⟩
      · unfold i64ok; dsimp only; omega
      · dsimp only
        split
        · unfold i32ok; decide
        · rename_i h
          have := valid_of_width (r := ((dec b).1 : Nat)) (by omega)
          unfold validR at this
          unfold i32ok
          omega
      · unfold i64ok; dsimp only; omega
      · unfold i64ok; dsimp only; omega
theorem firstK_ok (b : List UInt8) (last : Bool) : (firstK b last).1.ok := by
  unfold firstK
  split
  · exact (first0_okK b last).1
  · split
    · split
      · exact keyEsc_ok
      · exact keyZ_ok
    · split
      · unfold seqK
        split
        · exact keyZ_ok
        · split
          · exact toldK_ok _ _
          · exact keyEsc_ok
      · split
        · exact keyEsc_ok
        · obtain ⟨⟨k1, k2, k3, k4⟩, k5⟩ := first0_okK (b.drop 1) last
          split
          · exact ⟨k1, k2, k3, k4⟩
          · refine ⟨k1, k2, k3, ?_⟩
            dsimp only
            rcases k5 with k5 | k5 <;> (rw [k5]; unfold i64ok; decide)
theorem readK_ok (last : Bool) : ∀ (n : Nat) (b : List UInt8), ∀ k ∈ (readK last n b).1, k.ok
  | 0, b, k, h => by simp [readK] at h
  | n + 1, b, k, h => by
    rw [readK] at h
    split at h
    · simp at h
    · rcases List.mem_cons.1 h with rfl | h
      · exact firstK_ok b last
      · exact readK_ok last n _ k h
theorem readK_len (last : Bool) : ∀ (n : Nat) (b : List UInt8), (readK last n b).1.length ≤ n
  | 0, b => by simp [readK]
  | n + 1, b => by
    rw [readK]
    split
    · simp
    · simp only [List.length_cons]
      have := readK_len last n (b.drop (firstK b last).2)
      omega
theorem kread_ok (hT : Tabs W) (hM : MaxJ W) (hE : ErrJ W) (b : List UInt8) (last : Bool) (hl : b.length ≤ 4000) : Pure Tryd.prog W 16 [.str b, .bool last] (.tup [.sl 4 ((readA last b).1.map encKey), .str (readA last b).2, .int .i64 0]) :=
  (kread_own W hT hM hE b last hl).pure fun bb _ => .tup _ _ rfl fun j hj => by
    match j, hj with
    | 0, _ =>
      refine frz_of_acc fun h => ?_
      generalize List.map encKey (readA last b).1 = l at *
      cases l with
      | nil => exact absurd rfl h
      | cons a l => exact ⟨_, .here _ _ _⟩
    | 1, _ => exact .refl _
    | 2, _ => exact .refl _
abbrev Keyz (W : World) : Prop := Tabs W ∧ Nums W ∧ ErrJ W
def keyC : Key := ⟨6, 0, 0, 4⟩
theorem checkC_ok : Pure Tryd.prog W 53 [encKey keyC] (.bool true) := by
  unfold keyC encKey
  refine Pure.of (acalls_of_vc (drawOk W) Tryd.func53 rfl (by decide) (by decide) rfl ?_)
  (refine g0_ ?_; repeat ((first | refine n1_ fun b_ => ?_ | refine n2_ fun b_ => ?_ | refine Nat1.mk fun q_ hq_ => ?_ | refine em_ fun x_ hx_ => ?_ | refine Elem1.mk fun e_ he_ => ?_); refine g0_ ?_))
  exact .refl _
theorem writeC_ok (hN : Nums W) : Pure Tryd.prog W 36 [encKey keyC, .bool true] (.tup [.str [27, 91, 49, 59, 53, 65], .int .i64 0]) := by
  have h1 := checkC_ok W
  have h2 := letter_ok W 6
  have h3 := itoa_ok W hN 5 (by unfold i64ok; decide)
  rw [show Lib.itoa 5 = [53] by decide +kernel] at h3
  unfold keyC encKey at *
  dsimp only at h1 ⊢
  refine Pure.of (acalls_of_vc (drawOk W) Tryd.func36 rfl (by decide) (by decide) rfl ?_)
  (refine g0_ ?_; repeat ((first | refine n1_ fun b_ => ?_ | refine n2_ fun b_ => ?_ | refine Nat1.mk fun q_ hq_ => ?_ | refine em_ fun x_ hx_ => ?_ | refine Elem1.mk fun e_ he_ => ?_); refine g0_ ?_))
  refine (h1).use ?_; (refine g0_ ?_; repeat ((first | refine n1_ fun b_ => ?_ | refine n2_ fun b_ => ?_ | refine Nat1.mk fun q_ hq_ => ?_ | refine em_ fun x_ hx_ => ?_ | refine Elem1.mk fun e_ he_ => ?_); refine g0_ ?_))
  (refine g0_ ?_; repeat ((first | refine n1_ fun b_ => ?_ | refine n2_ fun b_ => ?_ | refine Nat1.mk fun q_ hq_ => ?_ | refine em_ fun x_ hx_ => ?_ | refine Elem1.mk fun e_ he_ => ?_); refine g0_ ?_))
  refine (h2).use ?_; (refine g0_ ?_; repeat ((first | refine n1_ fun b_ => ?_ | refine n2_ fun b_ => ?_ | refine Nat1.mk fun q_ hq_ => ?_ | refine em_ fun x_ hx_ => ?_ | refine Elem1.mk fun e_ he_ => ?_); refine g0_ ?_))
  (refine g1_ ?_; repeat ((first | refine n1_ fun b_ => ?_ | refine n2_ fun b_ => ?_ | refine Nat1.mk fun q_ hq_ => ?_ | refine em_ fun x_ hx_ => ?_ | refine Elem1.mk fun e_ he_ => ?_); refine g1_ ?_))
  refine head_ ?_; (refine g0_ ?_; repeat ((first | refine n1_ fun b_ => ?_ | refine n2_ fun b_ => ?_ | refine Nat1.mk fun q_ hq_ => ?_ | refine em_ fun x_ hx_ => ?_ | refine Elem1.mk fun e_ he_ => ?_); refine g0_ ?_))
  refine ⟨_, (h3).quiet, ?_⟩; (refine g0_ ?_; repeat ((first | refine n1_ fun b_ => ?_ | refine n2_ fun b_ => ?_ | refine Nat1.mk fun q_ hq_ => ?_ | refine em_ fun x_ hx_ => ?_ | refine Elem1.mk fun e_ he_ => ?_); refine g0_ ?_))
  refine ⟨[65], rfl, ?_⟩
  (refine g0_ ?_; repeat ((first | refine n1_ fun b_ => ?_ | refine n2_ fun b_ => ?_ | refine Nat1.mk fun q_ hq_ => ?_ | refine em_ fun x_ hx_ => ?_ | refine Elem1.mk fun e_ he_ => ?_); refine g0_ ?_))
  exact .refl _
def keyQ : List Key := [keyC, ⟨1, 113, 0, 0⟩]
theorem struck_read : readA false [27, 91, 49, 59, 53, 65, 113, 27] = (keyQ, [27]) := by decide +kernel
theorem struck_ok (hT : Tabs W) (hM : MaxJ W) (hE : ErrJ W) (hN : Nums W) : Pure Tryd.prog W 17 [] (.bool true) := by
  have h1 := writeC_ok W hN
  have h2 := kread_ok W hT hM hE [27, 91, 49, 59, 53, 65, 113, 27] false (by decide)
  rw [struck_read] at h2
  have h3 := equal_keys W keyQ keyQ (by decide) (fun c hc => by
    have := readK_ok false _ [27, 91, 49, 59, 53, 65, 113, 27] c (by rw [show readK false _ _ = readA false _ from rfl, struck_read]; exact hc)
    exact this) (fun c hc => by
    have := readK_ok false _ [27, 91, 49, 59, 53, 65, 113, 27] c (by rw [show readK false _ _ = readA false _ from rfl, struck_read]; exact hc)
    exact this)
  rw [decide_eq_true rfl] at h3
  unfold keyC encKey at h1
  dsimp only at h1 h2
  refine Pure.of (acalls_of_vc (drawOk W) Tryd.func17 rfl (by decide) (by decide) rfl ?_)
  (refine g0_ ?_; repeat ((first | refine n1_ fun b_ => ?_ | refine n2_ fun b_ => ?_ | refine Nat1.mk fun q_ hq_ => ?_ | refine em_ fun x_ hx_ => ?_ | refine Elem1.mk fun e_ he_ => ?_); refine g0_ ?_))
  refine (h1).use ?_; (refine g0_ ?_; repeat ((first | refine n1_ fun b_ => ?_ | refine n2_ fun b_ => ?_ | refine Nat1.mk fun q_ hq_ => ?_ | refine em_ fun x_ hx_ => ?_ | refine Elem1.mk fun e_ he_ => ?_); refine g0_ ?_))
  (refine g0_ ?_; repeat ((first | refine n1_ fun b_ => ?_ | refine n2_ fun b_ => ?_ | refine Nat1.mk fun q_ hq_ => ?_ | refine em_ fun x_ hx_ => ?_ | refine Elem1.mk fun e_ he_ => ?_); refine g0_ ?_))
  refine (h2).use ?_; (refine g0_ ?_; repeat ((first | refine n1_ fun b_ => ?_ | refine n2_ fun b_ => ?_ | refine Nat1.mk fun q_ hq_ => ?_ | refine em_ fun x_ hx_ => ?_ | refine Elem1.mk fun e_ he_ => ?_); refine g0_ ?_))
  (refine g0_ ?_; repeat ((first | refine n1_ fun b_ => ?_ | refine n2_ fun b_ => ?_ | refine Nat1.mk fun q_ hq_ => ?_ | refine em_ fun x_ hx_ => ?_ | refine Elem1.mk fun e_ he_ => ?_); refine g0_ ?_))
  refine .inl ?_
  (refine g0_ ?_; repeat ((first | refine n1_ fun b_ => ?_ | refine n2_ fun b_ => ?_ | refine Nat1.mk fun q_ hq_ => ?_ | refine em_ fun x_ hx_ => ?_ | refine Elem1.mk fun e_ he_ => ?_); refine g0_ ?_))
  refine (h3).use ?_; (refine g0_ ?_; repeat ((first | refine n1_ fun b_ => ?_ | refine n2_ fun b_ => ?_ | refine Nat1.mk fun q_ hq_ => ?_ | refine em_ fun x_ hx_ => ?_ | refine Elem1.mk fun e_ he_ => ?_); refine g0_ ?_))
  exact .refl _
end Go.Eng.YtimpfhokacfobaaDoor
end
