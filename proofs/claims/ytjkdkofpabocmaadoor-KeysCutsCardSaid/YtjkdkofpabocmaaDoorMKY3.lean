/- Texts put together: Key5, KeyC, Key6. -/
import Derived.Test.YtjkdkofpabocmaaDoorMKY2
import Derived.Test.YtjkdkofpabocmaaDoorMS1
import Derived.Test.YtjkdkofpabocmaaDoorMG1
import Derived.Test.YtjkdkofpabocmaaDoorMT1
import Derived.Test.YtjkdkofpabocmaaDoorMSD
/- Keys: compared; the fact that the laws look at first (b_ x_ q_ e_). -/
section
namespace Go.Eng.YtjkdkofpabocmaaDoor
open Go Go.Eng Go.Proofs
variable (W : World)
set_option linter.unusedSimpArgs false
set_option maxRecDepth 100000
set_option linter.unusedVariables false
set_option maxHeartbeats 8000000
def Key.ok (k : Key) : Prop := i64ok k.kind ∧ i32ok k.r ∧ i64ok k.n ∧ i64ok k.held
theorem wf_i64K {n : Int} (h : i64ok n) : (Lit.int .i64 n).wf = true := by
  simp [Lit.wf, IntKind.min, IntKind.max, IntKind.signed, IntKind.bits]; exact h
theorem wf_i32K {n : Int} (h : i32ok n) : (Lit.int .i32 n).wf = true := by
  simp [Lit.wf, IntKind.min, IntKind.max, IntKind.signed, IntKind.bits]; exact h
theorem cells_keyI : Tryd.prog.cellsOf 3 = 1 := by kernel_rfl
theorem cells_keyR : Tryd.prog.cellsOf 21 = 1 := by kernel_rfl
theorem cells_key : Tryd.prog.cellsOf 57 = 4 := by kernel_rfl
def litsKey (k : Key) : List Lit := [.int .i64 k.kind, .int .i32 k.r, .int .i64 k.n, .int .i64 k.held]
theorem lits_key (a : Key) (h : a.ok) : Tryd.prog.keyLits 4 57 [.int .i64 a.kind, .int .i32 a.r, .int .i64 a.n, .int .i64 a.held] = some (litsKey a) := by
  obtain ⟨h0, h1, h2, h3⟩ := h
  have hk : ∀ d (n : Int), (Lit.int .i64 n).wf = true → Tryd.prog.keyLits (d + 1) 3 [.int .i64 n] = some [.int .i64 n] := fun d n hn => by simp [Program.keyLits, Tryd.underlying3, hn]
  have hr : ∀ d (n : Int), (Lit.int .i32 n).wf = true → Tryd.prog.keyLits (d + 1) 21 [.int .i32 n] = some [.int .i32 n] := fun d n hn => by simp [Program.keyLits, Tryd.underlying21, hn]
  conv => lhs; unfold Program.keyLits
  rw [Tryd.underlying57]
  dsimp only
  rw [if_pos ⟨by rw [cells_key]; rfl, by simp⟩]
  simp only [List.mapM_cons, List.mapM_nil]
  rw [cells_keyI, cells_keyR]
  simp only [List.drop_zero, List.drop_succ_cons, List.take_succ_cons, List.take_zero, hk _ _ (wf_i64K h0), hr _ _ (wf_i32K h1), hk _ _ (wf_i64K h2), hk _ _ (wf_i64K h3)]
  rfl
theorem neq_key (a b : Key) (ha : a.ok) (hb : b.ok) (xo yo : Operand) : EqLaw Tryd.prog .neq 57 xo yo (encKey a) (encKey b) (!decide (a = b)) :=
  neqLaw_agg 4 (by kernel_rfl) (by decide) (by kernel_rfl) Tryd.underlying57 rfl rfl (by rw [cells_key]; rfl) (by rw [cells_key]; rfl) (lits_key a ha) (lits_key b hb) (by
    obtain ⟨a0, a1, a2, a3⟩ := a
    obtain ⟨b0, b1, b2, b3⟩ := b
    simp [litsKey])
theorem equal_keys (a b : List Key) (ha : (a.length : Int) ≤ 9223372036854775807) (hoa : ∀ c ∈ a, c.ok) (hob : ∀ c ∈ b, c.ok) :
    Pure Tryd.prog W 24 [.sl 4 (a.map encKey), .sl 4 (b.map encKey)] (.bool (decide (a = b))) := by
  refine Pure.of (acalls_of_vc (drawOk W) Tryd.func24 rfl (by decide) (by decide) rfl ?_)
  (refine g0_ ?_; repeat ((first | refine n1_ fun b_ => ?_ | refine n2_ fun b_ => ?_ | refine Nat1.mk fun q_ hq_ => ?_ | refine em_ fun x_ hx_ => ?_ | refine Elem1.mk fun e_ he_ => ?_); refine g0_ ?_))
  refine brec ?_; intro c_ hc; (try rw [hc]); cases c_ <;> replace hc := nm_ hc
  · have hlen : a.length = b.length := by simp at hc; omega
    (refine g0_ ?_; repeat ((first | refine n1_ fun b_ => ?_ | refine n2_ fun b_ => ?_ | refine Nat1.mk fun q_ hq_ => ?_ | refine em_ fun x_ hx_ => ?_ | refine Elem1.mk fun e_ he_ => ?_); refine g0_ ?_))
    refine' loopI (α := Nat) (fun i => [(13, .int .i64 i)]) [(0, _), (1, _), (12, _)] (fun i => []) (fun i => i ≤ a.length ∧ a.take i = b.take i) (fun i => a.length - i) 0 ?_ ?_
    · exact ⟨Nat.zero_le _, by simp⟩
    rintro i ⟨hi, hw⟩
    (refine g0_ ?_; repeat ((first | refine n1_ fun b_ => ?_ | refine n2_ fun b_ => ?_ | refine Nat1.mk fun q_ hq_ => ?_ | refine em_ fun x_ hx_ => ?_ | refine Elem1.mk fun e_ he_ => ?_); refine g0_ ?_))
    refine brec ?_; intro c_ h1; (try rw [h1]); cases c_ <;> replace h1 := nm_ h1
    · (refine g0_ ?_; repeat ((first | refine n1_ fun b_ => ?_ | refine n2_ fun b_ => ?_ | refine Nat1.mk fun q_ hq_ => ?_ | refine em_ fun x_ hx_ => ?_ | refine Elem1.mk fun e_ he_ => ?_); refine g0_ ?_))
      have : i = a.length := by simp at h1; omega
      subst this
      rw [List.take_length, hlen, List.take_length] at hw
      rw [hw]
      simp
      exact .refl _
    · have hlt : i < a.length := by simp at h1; omega
      (refine g0_ ?_; repeat ((first | refine n1_ fun b_ => ?_ | refine n2_ fun b_ => ?_ | refine Nat1.mk fun q_ hq_ => ?_ | refine em_ fun x_ hx_ => ?_ | refine Elem1.mk fun e_ he_ => ?_); refine g0_ ?_))
      refine head_ ?_; (refine g0_ ?_; repeat ((first | refine n1_ fun b_ => ?_ | refine n2_ fun b_ => ?_ | refine Nat1.mk fun q_ hq_ => ?_ | refine em_ fun x_ hx_ => ?_ | refine Elem1.mk fun e_ he_ => ?_); refine g0_ ?_))
      rename_i x hx
      have m1 := hoa _ (List.mem_of_getElem? hx)
      have m2 := hob _ (List.mem_of_getElem? hx_)
      refine ⟨_, neq_key x x_ m1 m2 _ _, ?_⟩
      (refine g0_ ?_; repeat ((first | refine n1_ fun b_ => ?_ | refine n2_ fun b_ => ?_ | refine Nat1.mk fun q_ hq_ => ?_ | refine em_ fun x_ hx_ => ?_ | refine Elem1.mk fun e_ he_ => ?_); refine g0_ ?_))
      refine brec ?_; intro c_ h2; (try rw [h2]); cases c_ <;> replace h2 := nm_ h2
      · (refine g0_ ?_; repeat ((first | refine n1_ fun b_ => ?_ | refine n2_ fun b_ => ?_ | refine Nat1.mk fun q_ hq_ => ?_ | refine em_ fun x_ hx_ => ?_ | refine Elem1.mk fun e_ he_ => ?_); refine g0_ ?_))
        refine nx_ (i + 1) ?_ ?_
        · exact ⟨hlt, by rw [take_snoc_of hx, take_snoc_of hx_, hw]; simp_all⟩
        · omega
      · (refine g0_ ?_; repeat ((first | refine n1_ fun b_ => ?_ | refine n2_ fun b_ => ?_ | refine Nat1.mk fun q_ hq_ => ?_ | refine em_ fun x_ hx_ => ?_ | refine Elem1.mk fun e_ he_ => ?_); refine g0_ ?_))
        have : a ≠ b := by rintro rfl; simp_all
        simp [this]
        exact .refl _
  · have hne : a ≠ b := by
      rintro rfl
      exact hc rfl
    (refine g0_ ?_; repeat ((first | refine n1_ fun b_ => ?_ | refine n2_ fun b_ => ?_ | refine Nat1.mk fun q_ hq_ => ?_ | refine em_ fun x_ hx_ => ?_ | refine Elem1.mk fun e_ he_ => ?_); refine g0_ ?_))
    simp [hne]
    exact .refl _
theorem plainK_ok (c : UInt8) : (plainK c).ok := by
  have hc := c.toNat_lt
  unfold plainK
  repeat' split
  all_goals
    refine ⟨?_, ?_, ?_, ?_⟩ <;> (simp only [i64ok, i32ok, keyZ, keyEsc]; omega)
theorem arrow_bd (c : Nat) : 0 ≤ arrowK c ∧ arrowK c ≤ 11 := by
  unfold arrowK
  repeat' split
  all_goals omega
theorem tilde_bd {n : Int} {p : Int × Int} (h : tildeK n = some p) : 12 ≤ p.1 ∧ p.1 ≤ 15 ∧ 0 ≤ p.2 ∧ p.2 ≤ 12 := by
  unfold tildeK at h
  by_cases a1 : n = 5
  · rw [if_pos a1] at h; cases h; dsimp only; omega
  rw [if_neg a1] at h
  by_cases a2 : n = 6
  · rw [if_pos a2] at h; cases h; dsimp only; omega
  rw [if_neg a2] at h
  by_cases a3 : n = 3
  · rw [if_pos a3] at h; cases h; dsimp only; omega
  rw [if_neg a3] at h
  by_cases b1 : n = 11
  · rw [if_pos b1] at h; cases h; dsimp only; omega
  rw [if_neg b1] at h
  by_cases b2 : n = 12
  · rw [if_pos b2] at h; cases h; dsimp only; omega
  rw [if_neg b2] at h
  by_cases b3 : n = 13
  · rw [if_pos b3] at h; cases h; dsimp only; omega
  rw [if_neg b3] at h
  by_cases b4 : n = 14
  · rw [if_pos b4] at h; cases h; dsimp only; omega
  rw [if_neg b4] at h
  by_cases b5 : n = 15
  · rw [if_pos b5] at h; cases h; dsimp only; omega
  rw [if_neg b5] at h
  by_cases b6 : n = 17
  · rw [if_pos b6] at h; cases h; dsimp only; omega
  rw [if_neg b6] at h
  by_cases b7 : n = 18
  · rw [if_pos b7] at h; cases h; dsimp only; omega
  rw [if_neg b7] at h
  by_cases b8 : n = 19
  · rw [if_pos b8] at h; cases h; dsimp only; omega
  rw [if_neg b8] at h
  by_cases b9 : n = 20
  · rw [if_pos b9] at h; cases h; dsimp only; omega
  rw [if_neg b9] at h
  by_cases c1 : n = 21
  · rw [if_pos c1] at h; cases h; dsimp only; omega
  rw [if_neg c1] at h
  by_cases c2 : n = 23
  · rw [if_pos c2] at h; cases h; dsimp only; omega
  rw [if_neg c2] at h
  by_cases c3 : n = 24
  · rw [if_pos c3] at h; cases h; dsimp only; omega
  rw [if_neg c3] at h
  cases h
theorem toldT_ok (s w0 : List UInt8) (two : Bool) (last : UInt8) (held : Int) (hh : 0 ≤ held ∧ held ≤ 7) : (toldT s w0 two last held).1.ok := by
  have ha := arrow_bd last.toNat
  unfold toldT
  split
  · refine ⟨?_, ?_, ?_, ?_⟩ <;> (simp only [i64ok, i32ok, keyZ, keyEsc]; omega)
  · split
    · refine ⟨?_, ?_, ?_, ?_⟩ <;> (simp only [i64ok, i32ok, keyZ, keyEsc]; omega)
    · split
      · refine ⟨?_, ?_, ?_, ?_⟩ <;> (simp only [i64ok, i32ok, keyZ, keyEsc]; omega)
      · split
        · refine ⟨?_, ?_, ?_, ?_⟩ <;> (simp only [i64ok, i32ok, keyZ, keyEsc]; omega)
        · split
          · rename_i k n h
            have := tilde_bd h
            dsimp only at this
            refine ⟨?_, ?_, ?_, ?_⟩ <;> (simp only [i64ok, i32ok, keyZ, keyEsc]; omega)
          · refine ⟨?_, ?_, ?_, ?_⟩ <;> (simp only [i64ok, i32ok, keyZ, keyEsc]; omega)
theorem toldK_ok (s : List UInt8) (last : UInt8) : (toldK s last).1.ok := by
  unfold toldK
  split
  · exact toldT_ok _ _ _ _ _ (by omega)
  · split
    · exact toldT_ok _ _ _ _ _ (by omega)
    · refine ⟨?_, ?_, ?_, ?_⟩ <;> (simp only [i64ok, i32ok, keyZ, keyEsc]; omega)
  · refine ⟨?_, ?_, ?_, ?_⟩ <;> (simp only [i64ok, i32ok, keyZ, keyEsc]; omega)
theorem keyEsc_ok : keyEsc.ok := by refine ⟨?_, ?_, ?_, ?_⟩ <;> (simp only [i64ok, i32ok, keyZ, keyEsc]; omega)
theorem keyZ_ok : keyZ.ok := by refine ⟨?_, ?_, ?_, ?_⟩ <;> (simp only [i64ok, i32ok, keyZ, keyEsc]; omega)
theorem plain_held (c : UInt8) : (plainK c).held = 0 ∨ (plainK c).held = 4 := by
  unfold plainK
  repeat' split
  all_goals first | exact .inl rfl | exact .inr rfl
theorem first0_okK (b : List UInt8) (last : Bool) : (first0 b last).1.ok ∧ ((first0 b last).1.held = 0 ∨ (first0 b last).1.held = 4) := by
  unfold first0
  split
  · exact ⟨plainK_ok _, plain_held _⟩
  · split
    · exact ⟨keyZ_ok, .inl rfl⟩
    · refine ⟨⟨?_, ?_, ?_, ?_⟩, .inl rfl⟩
      · unfold i64ok; dsimp only; omega
      · dsimp only
        split
        · unfold i32ok; decide
        · rename_i h
          have := valid_of_width (r := ((dec b).1 : Nat)) (by omega)
          unfold validR at this
          unfold i32ok
          omega
      · unfold i64ok; dsimp only; omega
      · unfold i64ok; dsimp only; omega
theorem firstK_ok (b : List UInt8) (last : Bool) : (firstK b last).1.ok := by
  unfold firstK
  split
  · exact (first0_okK b last).1
  · split
    · split
      · exact keyEsc_ok
      · exact keyZ_ok
    · split
      · unfold seqK
        split
        · exact keyZ_ok
        · split
          · exact toldK_ok _ _
          · exact keyEsc_ok
      · split
        · exact keyEsc_ok
        · obtain ⟨⟨k1, k2, k3, k4⟩, k5⟩ := first0_okK (b.drop 1) last
          split
          · exact ⟨k1, k2, k3, k4⟩
          · refine ⟨k1, k2, k3, ?_⟩
            dsimp only
            rcases k5 with k5 | k5 <;> (rw [k5]; unfold i64ok; decide)
theorem readK_ok (last : Bool) : ∀ (n : Nat) (b : List UInt8), ∀ k ∈ (readK last n b).1, k.ok
  | 0, b, k, h => by simp [readK] at h
  | n + 1, b, k, h => by
    rw [readK] at h
    split at h
    · simp at h
    · rcases List.mem_cons.1 h with rfl | h
      · exact firstK_ok b last
      · exact readK_ok last n _ k h
theorem readK_len (last : Bool) : ∀ (n : Nat) (b : List UInt8), (readK last n b).1.length ≤ n
  | 0, b => by simp [readK]
  | n + 1, b => by
    rw [readK]
    split
    · simp
    · simp only [List.length_cons]
      have := readK_len last n (b.drop (firstK b last).2)
      omega
theorem kread_ok (hT : Tabs W) (hM : MaxJ W) (hE : ErrJ W) (b : List UInt8) (last : Bool) (hl : b.length ≤ 4000) : Pure Tryd.prog W 22 [.str b, .bool last] (.tup [.sl 4 ((readA last b).1.map encKey), .str (readA last b).2, .int .i64 0]) :=
  (kread_own W hT hM hE b last hl).pure fun bb _ => .tup _ _ rfl fun j hj => by
    match j, hj with
    | 0, _ =>
      refine frz_of_acc fun h => ?_
      generalize List.map encKey (readA last b).1 = l at *
      cases l with
      | nil => exact absurd rfl h
      | cons a l => exact ⟨_, .here _ _ _⟩
    | 1, _ => exact .refl _
    | 2, _ => exact .refl _
abbrev Keyz (W : World) : Prop := Tabs W ∧ Nums W ∧ ErrJ W
def keyC : Key := ⟨6, 0, 0, 4⟩
theorem checkC_ok : Pure Tryd.prog W 20 [encKey keyC] (.bool true) := by
  unfold keyC encKey
  refine Pure.of (acalls_of_vc (drawOk W) Tryd.func20 rfl (by decide) (by decide) rfl ?_)
  (refine g0_ ?_; repeat ((first | refine n1_ fun b_ => ?_ | refine n2_ fun b_ => ?_ | refine Nat1.mk fun q_ hq_ => ?_ | refine em_ fun x_ hx_ => ?_ | refine Elem1.mk fun e_ he_ => ?_); refine g0_ ?_))
  exact .refl _
theorem writeC_ok (hN : Nums W) : Pure Tryd.prog W 17 [encKey keyC, .bool true] (.tup [.str [27, 91, 49, 59, 53, 65], .int .i64 0]) := by
  have h1 := checkC_ok W
  have h2 := letter_ok W 6
  have h3 := itoa_ok W hN 5 (by unfold i64ok; decide)
  rw [show Lib.itoa 5 = [53] by decide +kernel] at h3
  unfold keyC encKey at *
  dsimp only at h1 ⊢
  refine Pure.of (acalls_of_vc (drawOk W) Tryd.func17 rfl (by decide) (by decide) rfl ?_)
  (refine g0_ ?_; repeat ((first | refine n1_ fun b_ => ?_ | refine n2_ fun b_ => ?_ | refine Nat1.mk fun q_ hq_ => ?_ | refine em_ fun x_ hx_ => ?_ | refine Elem1.mk fun e_ he_ => ?_); refine g0_ ?_))
  refine (h1).use ?_; (refine g0_ ?_; repeat ((first | refine n1_ fun b_ => ?_ | refine n2_ fun b_ => ?_ | refine Nat1.mk fun q_ hq_ => ?_ | refine em_ fun x_ hx_ => ?_ | refine Elem1.mk fun e_ he_ => ?_); refine g0_ ?_))
  (refine g0_ ?_; repeat ((first | refine n1_ fun b_ => ?_ | refine n2_ fun b_ => ?_ | refine Nat1.mk fun q_ hq_ => ?_ | refine em_ fun x_ hx_ => ?_ | refine Elem1.mk fun e_ he_ => ?_); refine g0_ ?_))
  refine (h2).use ?_; (refine g0_ ?_; repeat ((first | refine n1_ fun b_ => ?_ | refine n2_ fun b_ => ?_ | refine Nat1.mk fun q_ hq_ => ?_ | refine em_ fun x_ hx_ => ?_ | refine Elem1.mk fun e_ he_ => ?_); refine g0_ ?_))
  (refine g1_ ?_; repeat ((first | refine n1_ fun b_ => ?_ | refine n2_ fun b_ => ?_ | refine Nat1.mk fun q_ hq_ => ?_ | refine em_ fun x_ hx_ => ?_ | refine Elem1.mk fun e_ he_ => ?_); refine g1_ ?_))
  refine head_ ?_; (refine g0_ ?_; repeat ((first | refine n1_ fun b_ => ?_ | refine n2_ fun b_ => ?_ | refine Nat1.mk fun q_ hq_ => ?_ | refine em_ fun x_ hx_ => ?_ | refine Elem1.mk fun e_ he_ => ?_); refine g0_ ?_))
  refine ⟨_, (h3).quiet, ?_⟩; (refine g0_ ?_; repeat ((first | refine n1_ fun b_ => ?_ | refine n2_ fun b_ => ?_ | refine Nat1.mk fun q_ hq_ => ?_ | refine em_ fun x_ hx_ => ?_ | refine Elem1.mk fun e_ he_ => ?_); refine g0_ ?_))
  refine ⟨[65], rfl, ?_⟩
  (refine g0_ ?_; repeat ((first | refine n1_ fun b_ => ?_ | refine n2_ fun b_ => ?_ | refine Nat1.mk fun q_ hq_ => ?_ | refine em_ fun x_ hx_ => ?_ | refine Elem1.mk fun e_ he_ => ?_); refine g0_ ?_))
  exact .refl _
def keyQ : List Key := [keyC, ⟨1, 113, 0, 0⟩]
theorem struck_read : readA false [27, 91, 49, 59, 53, 65, 113, 27] = (keyQ, [27]) := by decide +kernel
theorem struck_ok (hT : Tabs W) (hM : MaxJ W) (hE : ErrJ W) (hN : Nums W) : Pure Tryd.prog W 19 [] (.bool true) := by
  have h1 := writeC_ok W hN
  have h2 := kread_ok W hT hM hE [27, 91, 49, 59, 53, 65, 113, 27] false (by decide)
  rw [struck_read] at h2
  have h3 := equal_keys W keyQ keyQ (by decide) (fun c hc => by
    have := readK_ok false _ [27, 91, 49, 59, 53, 65, 113, 27] c (by rw [show readK false _ _ = readA false _ from rfl, struck_read]; exact hc)
    exact this) (fun c hc => by
    have := readK_ok false _ [27, 91, 49, 59, 53, 65, 113, 27] c (by rw [show readK false _ _ = readA false _ from rfl, struck_read]; exact hc)
    exact this)
  rw [decide_eq_true rfl] at h3
  unfold keyC encKey at h1
  dsimp only at h1 h2
  refine Pure.of (acalls_of_vc (drawOk W) Tryd.func19 rfl (by decide) (by decide) rfl ?_)
  (refine g0_ ?_; repeat ((first | refine n1_ fun b_ => ?_ | refine n2_ fun b_ => ?_ | refine Nat1.mk fun q_ hq_ => ?_ | refine em_ fun x_ hx_ => ?_ | refine Elem1.mk fun e_ he_ => ?_); refine g0_ ?_))
  refine (h1).use ?_; (refine g0_ ?_; repeat ((first | refine n1_ fun b_ => ?_ | refine n2_ fun b_ => ?_ | refine Nat1.mk fun q_ hq_ => ?_ | refine em_ fun x_ hx_ => ?_ | refine Elem1.mk fun e_ he_ => ?_); refine g0_ ?_))
  (refine g0_ ?_; repeat ((first | refine n1_ fun b_ => ?_ | refine n2_ fun b_ => ?_ | refine Nat1.mk fun q_ hq_ => ?_ | refine em_ fun x_ hx_ => ?_ | refine Elem1.mk fun e_ he_ => ?_); refine g0_ ?_))
  refine (h2).use ?_; (refine g0_ ?_; repeat ((first | refine n1_ fun b_ => ?_ | refine n2_ fun b_ => ?_ | refine Nat1.mk fun q_ hq_ => ?_ | refine em_ fun x_ hx_ => ?_ | refine Elem1.mk fun e_ he_ => ?_); refine g0_ ?_))
  (refine g0_ ?_; repeat ((first | refine n1_ fun b_ => ?_ | refine n2_ fun b_ => ?_ | refine Nat1.mk fun q_ hq_ => ?_ | refine em_ fun x_ hx_ => ?_ | refine Elem1.mk fun e_ he_ => ?_); refine g0_ ?_))
  refine .inl ?_
  (refine g0_ ?_; repeat ((first | refine n1_ fun b_ => ?_ | refine n2_ fun b_ => ?_ | refine Nat1.mk fun q_ hq_ => ?_ | refine em_ fun x_ hx_ => ?_ | refine Elem1.mk fun e_ he_ => ?_); refine g0_ ?_))
  refine (h3).use ?_; (refine g0_ ?_; repeat ((first | refine n1_ fun b_ => ?_ | refine n2_ fun b_ => ?_ | refine Nat1.mk fun q_ hq_ => ?_ | refine em_ fun x_ hx_ => ?_ | refine Elem1.mk fun e_ he_ => ?_); refine g0_ ?_))
  exact .refl _
end Go.Eng.YtjkdkofpabocmaaDoor
end

/- Keys: where bytes are cut (plain). -/
section
namespace Go.Eng.YtjkdkofpabocmaaDoor
open Go Go.Eng Go.Proofs
set_option linter.unusedSimpArgs false
set_option maxRecDepth 100000
set_option linter.unusedVariables false
set_option maxHeartbeats 4000000
theorem gB_app {s t : List UInt8} {i : Nat} (h : i < s.length) : gB (s ++ t) i = gB s i := by
  unfold gB
  rw [List.getD_eq_getElem?_getD, List.getD_eq_getElem?_getD, List.getElem?_append_left h]
/-- Whole is whole, whatever comes behind. -/
theorem full_more {s : List UInt8} (hf : fullL s = true) (t : List UInt8) : fullL (s ++ t) = true := by
  have hl : s.length ≠ 0 := fun e => by rw [fullL, if_pos e] at hf; cases hf
  have hl2 : (s ++ t).length = s.length + t.length := List.length_append
  have g0 := gB_app (s := s) (t := t) (i := 0) (by omega)
  have g1 := fun h => gB_app (s := s) (t := t) (i := 1) h
  have g2 := fun h => gB_app (s := s) (t := t) (i := 2) h
  unfold fullL at hf ⊢
  rw [if_neg hl] at hf
  rw [if_neg (by omega), g0, hl2]
  by_cases h8 : Lib.firstT (gB s 0) % 8 ≤ s.length
  · rw [if_pos (by omega)]
  · rw [if_neg h8] at hf
    have hd := of_decide_eq_true hf
    split
    · rfl
    · refine decide_eq_true ?_
      rcases hd with ⟨h1, h⟩ | ⟨h1, h⟩
      · exact .inl ⟨by omega, by rw [g1 h1]; exact h⟩
      · exact .inr ⟨by omega, by rw [g2 h1]; exact h⟩
theorem dec_1 {n a b c d : Nat} (h : a < 194 ∨ 245 ≤ a) (ha : a < 256) (b' c' d' m : Nat) : Lib.decodeN n a b c d = Lib.decodeN m a b' c' d' := by
  unfold Lib.decodeN
  by_cases h1 : a < 128
  · rw [if_pos h1, if_pos h1]
  · rw [if_neg h1, if_neg h1]
    have key : ∀ n b c d : Nat, (if a / 32 = 6 ∧ 1 < n ∧ b / 64 = 2 then if a % 32 * 64 + b % 64 ≥ 128 then (a % 32 * 64 + b % 64, 2) else (65533, 1)
      else if a / 16 = 14 ∧ (1 < n ∧ b / 64 = 2) ∧ 2 < n ∧ c / 64 = 2 then if a % 16 * 4096 + b % 64 * 64 + c % 64 ≥ 2048 ∧ (a % 16 * 4096 + b % 64 * 64 + c % 64 < 55296 ∨ 57344 ≤ a % 16 * 4096 + b % 64 * 64 + c % 64 ∧ a % 16 * 4096 + b % 64 * 64 + c % 64 ≤ 1114111) then (a % 16 * 4096 + b % 64 * 64 + c % 64, 3) else (65533, 1)
      else if a / 8 = 30 ∧ (1 < n ∧ b / 64 = 2) ∧ (2 < n ∧ c / 64 = 2) ∧ 3 < n ∧ d / 64 = 2 then if a % 8 * 262144 + b % 64 * 4096 + c % 64 * 64 + d % 64 ≥ 65536 ∧ (a % 8 * 262144 + b % 64 * 4096 + c % 64 * 64 + d % 64 < 55296 ∨ 57344 ≤ a % 8 * 262144 + b % 64 * 4096 + c % 64 * 64 + d % 64 ∧ a % 8 * 262144 + b % 64 * 4096 + c % 64 * 64 + d % 64 ≤ 1114111) then (a % 8 * 262144 + b % 64 * 4096 + c % 64 * 64 + d % 64, 4) else (65533, 1)
      else (65533, 1)) = ((65533, 1) : Nat × Nat) := by
      intro n b c d
      split
      · rw [if_neg (by omega)]
      · split
        · omega
        · split
          · rw [if_neg (by omega)]
          · rfl
    rw [key, key]
theorem dec_2 {n a b c d : Nat} (h : 194 ≤ a ∧ a < 224) (hn : 2 ≤ n) : Lib.decodeN n a b c d = if b / 64 = 2 then (a % 32 * 64 + b % 64, 2) else (65533, 1) := by
  unfold Lib.decodeN
  rw [if_neg (by omega)]
  by_cases hb : b / 64 = 2
  · rw [if_pos ⟨by omega, by omega, hb⟩, if_pos (by omega), if_pos hb]
  · rw [if_neg fun h => hb h.2.2, if_neg fun h => hb h.2.1.2, if_neg fun h => hb h.2.1.2, if_neg hb]
theorem dec_3_bad {n a b c d : Nat} (h : 224 ≤ a ∧ a < 240) (hb : b < 128 ∨ 191 < b ∨ (a = 224 ∧ b < 160) ∨ (a = 237 ∧ 159 < b)) : Lib.decodeN n a b c d = (65533, 1) := by
  unfold Lib.decodeN
  rw [if_neg (by omega), if_neg (by omega)]
  split
  · rw [if_neg (by omega)]
  · rw [if_neg (by omega)]
theorem dec_4_bad {n a b c d : Nat} (h : 240 ≤ a ∧ a < 245) (hb : (b < 128 ∨ 191 < b ∨ (a = 240 ∧ b < 144) ∨ (a = 244 ∧ 143 < b)) ∨ (c < 128 ∨ 191 < c)) : Lib.decodeN n a b c d = (65533, 1) := by
  unfold Lib.decodeN
  rw [if_neg (by omega), if_neg (by omega), if_neg (by omega)]
  split
  · rw [if_neg (by omega)]
  · rfl
def dec3F (a b c : Nat) : Nat × Nat := if b / 64 = 2 ∧ c / 64 = 2 then (if a % 16 * 4096 + b % 64 * 64 + c % 64 ≥ 2048 ∧ (a % 16 * 4096 + b % 64 * 64 + c % 64 < 55296 ∨ (57344 ≤ a % 16 * 4096 + b % 64 * 64 + c % 64 ∧ a % 16 * 4096 + b % 64 * 64 + c % 64 ≤ 1114111)) then (a % 16 * 4096 + b % 64 * 64 + c % 64, 3) else (65533, 1)) else (65533, 1)
theorem dec_3 {n a b c d : Nat} (h : 224 ≤ a ∧ a < 240) (hn : 3 ≤ n) : Lib.decodeN n a b c d = dec3F a b c := by
  unfold Lib.decodeN dec3F
  rw [if_neg (by omega), if_neg (by omega)]
  by_cases hb : b / 64 = 2 ∧ c / 64 = 2
  · rw [if_pos ⟨by omega, ⟨by omega, hb.1⟩, by omega, hb.2⟩, if_pos hb]
  · rw [if_neg fun h => hb ⟨h.2.1.2, h.2.2.2⟩, if_neg (by omega), if_neg hb]
theorem dec_full {s : List UInt8} (hf : fullL s = true) (t : List UInt8) : dec (s ++ t) = dec s := by
  have hl : s.length ≠ 0 := fun e => by rw [fullL, if_pos e] at hf; cases hf
  have hs : s ≠ [] := fun e => hl (by rw [e]; rfl)
  have hn : s ++ t ≠ [] := by simp [hs]
  have hl2 : (s ++ t).length = s.length + t.length := List.length_append
  rw [dec_P hn, dec_P hs]
  unfold fullL at hf
  rw [if_neg hl] at hf
  have g0 := gB_app (s := s) (t := t) (i := 0) (by omega)
  have g1 := fun h => gB_app (s := s) (t := t) (i := 1) h
  have g2 := fun h => gB_app (s := s) (t := t) (i := 2) h
  have g3 := fun h => gB_app (s := s) (t := t) (i := 3) h
  have l0 := gB_lt s 0
  have l1 := gB_lt s 1
  have l2 := gB_lt s 2
  rw [g0, hl2]
  generalize gB s 0 = a at *
  generalize gB s 1 = b at *
  generalize gB s 2 = c at *
  generalize gB s 3 = d at *
  generalize gB (s ++ t) 1 = b' at *
  generalize gB (s ++ t) 2 = c' at *
  generalize gB (s ++ t) 3 = d' at *
  generalize s.length = n at *
  generalize t.length = m at *
  by_cases hlo : a < 194 ∨ 245 ≤ a
  · exact dec_1 hlo l0 _ _ _ _
  · by_cases n4 : 4 ≤ n
    · rw [g1 (by omega), g2 (by omega), g3 (by omega)]
      unfold Lib.decodeN
      simp only [show (1 < n + m) = (1 < n) from propext (by omega), show (2 < n + m) = (2 < n) from propext (by omega), show (3 < n + m) = (3 < n) from propext (by omega)]
    · have hq : (a < 224 ∧ 2 ≤ n) ∨ (224 ≤ a ∧ a < 240 ∧ (3 ≤ n ∨ (2 ≤ n ∧ (b < 128 ∨ 191 < b ∨ (a = 224 ∧ b < 160) ∨ (a = 237 ∧ 159 < b))))) ∨ (240 ≤ a ∧ ((2 ≤ n ∧ (b < 128 ∨ 191 < b ∨ (a = 240 ∧ b < 144) ∨ (a = 244 ∧ 143 < b))) ∨ (3 ≤ n ∧ (c < 128 ∨ 191 < c)))) := by
        by_cases h8 : Lib.firstT a % 8 ≤ n
        · unfold Lib.firstT at h8
          repeat' split at h8
          all_goals omega
        · rw [if_neg h8] at hf
          have hd := of_decide_eq_true hf
          clear hf
          rcases (by omega : a < 224 ∨ a = 224 ∨ (225 ≤ a ∧ a < 237) ∨ a = 237 ∨ (238 ≤ a ∧ a < 240) ∨ a = 240 ∨ (241 ≤ a ∧ a < 244) ∨ a = 244) with e | e | e | e | e | e | e | e
          · rw [show Lib.firstT a = 2 by unfold Lib.firstT; rw [if_neg (by omega), if_neg (by omega), if_pos e]] at hd h8
            simp [Lib.accLo, Lib.accHi] at hd
            omega
          · subst e
            rw [show Lib.firstT 224 = 19 by decide] at hd
            simp [Lib.accLo, Lib.accHi] at hd
            omega
          · rw [show Lib.firstT a = 3 by unfold Lib.firstT; rw [if_neg (by omega), if_neg (by omega), if_neg (by omega), if_neg (by omega), if_pos (by omega)]] at hd h8
            simp [Lib.accLo, Lib.accHi] at hd
            omega
          · subst e
            rw [show Lib.firstT 237 = 35 by decide] at hd
            simp [Lib.accLo, Lib.accHi] at hd
            omega
          · rw [show Lib.firstT a = 3 by unfold Lib.firstT; rw [if_neg (by omega), if_neg (by omega), if_neg (by omega), if_neg (by omega), if_neg (by omega), if_neg (by omega), if_pos (by omega)]] at hd h8
            simp [Lib.accLo, Lib.accHi] at hd
            omega
          · subst e
            rw [show Lib.firstT 240 = 52 by decide] at hd
            simp [Lib.accLo, Lib.accHi] at hd
            omega
          · rw [show Lib.firstT a = 4 by unfold Lib.firstT; rw [if_neg (by omega), if_neg (by omega), if_neg (by omega), if_neg (by omega), if_neg (by omega), if_neg (by omega), if_neg (by omega), if_neg (by omega), if_pos (by omega)]] at hd h8
            simp [Lib.accLo, Lib.accHi] at hd
            omega
          · subst e
            rw [show Lib.firstT 244 = 68 by decide] at hd
            simp [Lib.accLo, Lib.accHi] at hd
            omega
      rcases hq with ⟨e1, e2⟩ | ⟨e1, e2, e3 | ⟨e3, e4⟩⟩ | ⟨e1, ⟨e3, e4⟩ | ⟨e3, e4⟩⟩
      · rw [g1 (by omega), dec_2 ⟨by omega, e1⟩ (by omega), dec_2 ⟨by omega, e1⟩ e2]
      · rw [g1 (by omega), g2 (by omega)]
        rw [dec_3 ⟨e1, e2⟩ (by omega), dec_3 ⟨e1, e2⟩ e3]
      · rw [g1 (by omega), dec_3_bad ⟨e1, e2⟩ e4, dec_3_bad ⟨e1, e2⟩ e4]
      · rw [g1 (by omega), dec_4_bad ⟨e1, by omega⟩ (.inl e4), dec_4_bad ⟨e1, by omega⟩ (.inl e4)]
      · rw [g1 (by omega), g2 (by omega), dec_4_bad ⟨e1, by omega⟩ (.inr e4), dec_4_bad ⟨e1, by omega⟩ (.inr e4)]
theorem tw_spec {α : Type} {p : α → Bool} : ∀ l : List α, (∀ k x, k < (l.takeWhile p).length → l[k]? = some x → p x = true) ∧ ∀ x, l[(l.takeWhile p).length]? = some x → p x = false
  | [] => by simp
  | a :: l => by
    obtain ⟨h1, h2⟩ := tw_spec (p := p) l
    rw [List.takeWhile_cons]
    by_cases ha : p a = true
    · rw [if_pos ha, List.length_cons]
      refine ⟨fun k x hk hx => ?_, fun x hx => h2 x (by simpa using hx)⟩
      cases k with
      | zero =>
        simp only [List.getElem?_cons_zero, Option.some.injEq] at hx
        exact hx ▸ ha
      | succ k => exact h1 k x (by omega) (by simpa using hx)
    · rw [if_neg ha]
      refine ⟨fun k x hk => by simp at hk, fun x hx => ?_⟩
      simp only [List.length_nil, List.getElem?_cons_zero, Option.some.injEq] at hx
      subst hx
      simpa using ha
theorem run_spec {b : List UInt8} (h2 : 2 ≤ b.length) : (2 < runK b → b.getD 1 0 = 91) ∧ (∀ k x, 2 ≤ k → k < runK b → b[k]? = some x → isDg x = true) ∧
    (runK b = b.length ∨ runK b = 12 ∨ b.getD 1 0 ≠ 91 ∨ ∃ x, b[runK b]? = some x ∧ isDg x = false) := by
  have hle := run_le b h2
  by_cases h9 : b.getD 1 0 = 91
  · have hr : runK b = 2 + (((b.drop 2).take 10).takeWhile isDg).length := by unfold runK; rw [if_pos h9]
    obtain ⟨s1, s2⟩ := tw_spec (p := isDg) ((b.drop 2).take 10)
    generalize (((b.drop 2).take 10).takeWhile isDg).length = n at *
    refine ⟨fun _ => h9, fun k x hk1 hk2 hx => s1 (k - 2) x (by omega) ?_, ?_⟩
    · rw [List.getElem?_take, if_pos (by omega), List.getElem?_drop, show 2 + (k - 2) = k by omega]
      exact hx
    · by_cases e1 : runK b = b.length
      · exact .inl e1
      · by_cases e2 : runK b = 12
        · exact .inr (.inl e2)
        · refine .inr (.inr (.inr ⟨_, List.getElem?_eq_getElem (by omega), s2 _ ?_⟩))
          rw [List.getElem?_take, if_pos (by omega), List.getElem?_drop, show 2 + n = runK b by omega]
          exact List.getElem?_eq_getElem _
  · have hr : runK b = 2 := by unfold runK; rw [if_neg h9]
    exact ⟨fun h => by omega, fun k x h1 h2 => by omega, .inr (.inr (.inl h9))⟩
theorem getD_app {p q : List UInt8} {i : Nat} (h : i < p.length) : (p ++ q).getD i 0 = p.getD i 0 := by
  rw [List.getD_eq_getElem?_getD, List.getD_eq_getElem?_getD, List.getElem?_append_left h]
theorem run_cut {p : List UInt8} (h2 : 2 ≤ p.length) (hr : runK p < p.length) (q : List UInt8) : runK (p ++ q) = runK p := by
  have hle := run_le p h2
  obtain ⟨r1, r2, r3⟩ := run_spec h2
  have h1 : (p ++ q).getD 1 0 = p.getD 1 0 := getD_app (by omega)
  refine run_is hle.1 (by rw [List.length_append]; omega) hle.2.2 (fun h => by rw [h1]; exact r1 h) (fun k x a1 a2 a3 => r2 k x a1 a2 (by rwa [List.getElem?_append_left (by omega)] at a3)) ?_
  rw [h1]
  rcases r3 with e | e | e | ⟨x, e1, e2⟩
  · omega
  · exact .inr (.inl e)
  · exact .inr (.inr (.inl e))
  · exact .inr (.inr (.inr ⟨x, by rw [List.getElem?_append_left hr]; exact e1, e2⟩))
theorem seq_cut {p : List UInt8} (h2 : 2 ≤ p.length) (h : (seqK p false).2 ≠ 0) (q : List UInt8) (last : Bool) : seqK (p ++ q) last = seqK p false := by
  have hle := run_le p h2
  by_cases hr : runK p = p.length
  · unfold seqK at h
    rw [if_pos ⟨hr, rfl⟩] at h
    exact absurd rfl h
  · have hrl : runK p < p.length := by omega
    have hc := run_cut h2 hrl q
    have hl : (p ++ q).length = p.length + q.length := List.length_append
    have h1 : (p ++ q).getD 1 0 = p.getD 1 0 := getD_app (by omega)
    have h3 : (p ++ q).getD (runK p) 0 = p.getD (runK p) 0 := getD_app hrl
    have h4 : (p ++ q).take (runK p) = p.take (runK p) := List.take_append_of_le_length (by omega)
    unfold seqK
    rw [hc, h1, h3, h4, hl, if_neg (show ¬ (runK p = p.length + q.length ∧ last = false) from fun h => by omega), if_neg (show ¬ (runK p = p.length ∧ false = false) from fun h => hr h.1)]
    simp only [show (runK p < p.length + q.length) = (runK p < p.length) from propext ⟨fun _ => hrl, fun _ => by omega⟩]
theorem first0_cut {p : List UInt8} (hp : p ≠ []) (h : (first0 p false).2 ≠ 0) (q : List UInt8) (last : Bool) : first0 (p ++ q) last = first0 p false := by
  have h3 : 1 ≤ p.length := List.length_pos_iff.2 hp
  have h0 : (p ++ q).getD 0 0 = p.getD 0 0 := getD_app (by omega)
  unfold first0 at h ⊢
  rw [h0]
  by_cases h1 : (p.getD 0 0).toNat < 32 ∨ (p.getD 0 0).toNat = 127
  · rw [if_pos h1, if_pos h1]
  · rw [if_neg h1] at h
    rw [if_neg h1, if_neg h1]
    by_cases hf : fullL p = false
    · rw [if_pos ⟨hf, rfl⟩] at h
      exact absurd rfl h
    · have hf2 : fullL p = true := by simpa using hf
      rw [if_neg (show ¬ (fullL (p ++ q) = false ∧ last = false) from fun h => by rw [full_more hf2 q] at h; cases h.1), if_neg (show ¬ (fullL p = false ∧ false = false) from fun h => hf h.1), dec_full hf2 q]
theorem first_cut {p : List UInt8} (hp : p ≠ []) (h : (firstK p false).2 ≠ 0) (q : List UInt8) (last : Bool) : firstK (p ++ q) last = firstK p false := by
  have h3 : 1 ≤ p.length := List.length_pos_iff.2 hp
  have h0 : (p ++ q).getD 0 0 = p.getD 0 0 := getD_app (by omega)
  have hl : (p ++ q).length = p.length + q.length := List.length_append
  unfold firstK at h ⊢
  rw [h0]
  by_cases h1 : (p.getD 0 0).toNat ≠ 27
  · rw [if_pos h1] at h
    rw [if_pos h1, if_pos h1]
    exact first0_cut hp h q last
  · rw [if_neg h1] at h
    rw [if_neg h1, if_neg h1]
    by_cases h2 : p.length = 1
    · rw [if_pos h2, if_neg (by decide)] at h
      exact absurd rfl h
    · rw [if_neg h2] at h
      rw [if_neg h2, if_neg (by omega)]
      have h5 : (p ++ q).getD 1 0 = p.getD 1 0 := getD_app (by omega)
      have h6 : (p ++ q).drop 1 = p.drop 1 ++ q := List.drop_append_of_le_length (by omega)
      rw [h5, h6]
      by_cases h4 : (p.getD 1 0).toNat = 91 ∨ (p.getD 1 0).toNat = 79
      · rw [if_pos h4] at h
        rw [if_pos h4, if_pos h4]
        exact seq_cut (by omega) h q last
      · rw [if_neg h4] at h
        rw [if_neg h4, if_neg h4]
        by_cases h7 : (p.getD 1 0).toNat = 27 ∨ (p.getD 1 0).toNat = 9
        · rw [if_pos h7, if_pos h7]
        · rw [if_neg h7] at h
          rw [if_neg h7, if_neg h7]
          by_cases h8 : (first0 (p.drop 1) false).2 = 0
          · rw [if_pos h8] at h
            exact absurd rfl h
          · rw [first0_cut (fun e => by have := congrArg List.length e; simp at this; omega) h8 q last]
theorem read_cut (q : List UInt8) (last : Bool) : ∀ (n : Nat) (p : List UInt8), p.length ≤ n → readA last (p ++ q) = ((readA false p).1 ++ (readA last ((readA false p).2 ++ q)).1, (readA last ((readA false p).2 ++ q)).2)
  | 0, p, h => by
    obtain rfl : p = [] := List.length_eq_zero_iff.1 (by omega)
    rw [readA_stop (last := false) (.inl rfl)]
    rfl
  | n + 1, p, h => by
    by_cases h0 : p = [] ∨ (firstK p false).2 = 0
    · rw [readA_stop h0]
      rfl
    · have hp : p ≠ [] := fun e => h0 (.inl e)
      have h1 : (firstK p false).2 ≠ 0 := fun e => h0 (.inr e)
      have hc := first_cut hp h1 q last
      have hle := (first_le hp false).1
      rw [readA_step hp h1, readA_step (b := p ++ q) (by simp [hp]) (by rw [hc]; exact h1), hc, List.drop_append_of_le_length hle]
      rw [read_cut q last n (p.drop (firstK p false).2) (by rw [List.length_drop]; omega)]
      rfl
theorem read_all : ∀ (n : Nat) (b : List UInt8), b.length ≤ n → (readA true b).2 = []
  | 0, b, h => by
    obtain rfl : b = [] := List.length_eq_zero_iff.1 (by omega)
    rw [readA_stop (.inl rfl)]
  | n + 1, b, h => by
    by_cases hb : b = []
    · subst hb
      rw [readA_stop (.inl rfl)]
    · have hle := first_le hb true
      have h1 := hle.2 rfl
      rw [readA_step hb (by omega)]
      exact read_all n _ (by rw [List.length_drop]; omega)
theorem read_left (last : Bool) : ∀ (n : Nat) (b : List UInt8), b.length ≤ n → (readA last b).2.length ≤ b.length
  | 0, b, h => by
    obtain rfl : b = [] := List.length_eq_zero_iff.1 (by omega)
    rw [readA_stop (.inl rfl)]; simp
  | n + 1, b, h => by
    by_cases h0 : b = [] ∨ (firstK b last).2 = 0
    · rw [readA_stop h0]; simp
    · have hp : b ≠ [] := fun e => h0 (.inl e)
      have h1 : (firstK b last).2 ≠ 0 := fun e => h0 (.inr e)
      rw [readA_step hp h1]
      have := read_left last n (b.drop (firstK b last).2) (by rw [List.length_drop]; omega)
      rw [List.length_drop] at this
      dsimp only
      omega
end Go.Eng.YtjkdkofpabocmaaDoor
end

/- The law KeysCuts (b_ x_ q_ e_). -/
section
namespace Go.Eng.YtjkdkofpabocmaaDoor
open Go Go.Eng Go.Proofs
variable (W : World)
set_option linter.unusedSimpArgs false
set_option maxRecDepth 100000
set_option linter.unusedVariables false
set_option maxHeartbeats 8000000
theorem keys_all (l : List Key) : (l.map encKey).all cellsB = true := by simp [encKey, cellsB, PV.flat, cellB]
theorem rowl (m n : List Key) (k : Key) : (List.map encKey m).length + 1 + (List.map encKey n).length = ((encKey k :: List.map encKey m) ++ List.map encKey n).length := by
  simp only [List.length_append, List.length_cons]
theorem rowl0 (m : List Key) (k : Key) : (List.map encKey m).length + 1 = ((encKey k :: List.map encKey m) ++ List.map encKey []).length := by
  simp only [List.length_append, List.length_cons, List.map_nil, List.length_nil, Nat.add_zero]
theorem keysCuts_ok (hK : Keyz W) (hM : MaxJ W) (b : List UInt8) (_ : b.length ≤ 140737488355328) (at_ : Int) (_ : -9223372036854775808 ≤ at_ ∧ at_ ≤ 9223372036854775807) (last : Bool) : Pure Tryd.prog W 6 [.str b, .int .i64 at_, .bool last] (.bool true) := by
  obtain ⟨hT, hN, hE⟩ := hK
  have hst := struck_ok W hT hM hE hN
  have htd : (b.length : Int).tdiv 2 = ((b.length / 2 : Nat) : Int) := rfl
  by_cases hl : b.length ≤ 4000
  · have hrd := kread_ok W hT hM hE b last hl
    have hra := read_all b.length b (Nat.le_refl _)
    obtain ⟨k, hk, hat⟩ : ∃ k : Nat, k ≤ b.length ∧ ((0 ≤ at_ ∧ at_ ≤ b.length ∧ at_ = k) ∨ ((at_ < 0 ∨ (b.length : Int) < at_) ∧ k = b.length / 2)) := by
      by_cases h1 : 0 ≤ at_ ∧ at_ ≤ b.length
      · exact ⟨at_.toNat, by omega, .inl ⟨h1.1, h1.2, by omega⟩⟩
      · exact ⟨b.length / 2, by omega, .inr ⟨by omega, rfl⟩⟩
    have hp := kread_own W hT hM hE (b.take k) false (by rw [List.length_take]; omega)
    have hlf := read_left false _ (b.take k) (Nat.le_refl _)
    have hcut := read_cut (b.drop k) last _ (b.take k) (Nat.le_refl _)
    rw [List.take_append_drop] at hcut
    have hko := readK_ok last b.length b
    have hkl := readK_len last b.length b
    rw [show readK last b.length b = readA last b from rfl] at hko hkl
    obtain ⟨⟨m, rest⟩, hm⟩ : ∃ x, readA false (b.take k) = x := ⟨_, rfl⟩
    rw [hm] at hlf hcut
    dsimp only at hlf hcut
    rw [List.length_take] at hlf
    have hn := kread_ok W hT hM hE (rest ++ b.drop k) last (by rw [List.length_append, List.length_drop]; omega)
    generalize readA last (rest ++ b.drop k) = S at *
    obtain ⟨n, en⟩ := S
    dsimp only at hn hcut
    rw [hcut] at hrd hko hkl
    dsimp only at hrd hko hkl
    have heq := equal_keys W (m ++ n) (m ++ n) (by omega) hko hko
    rw [decide_eq_true rfl] at heq
    have hen : last = true → en = [] := fun h => by
      subst h
      rw [hcut] at hra
      exact hra
    rcases hat with ⟨a1, a2, a3⟩ | ⟨a1, a2⟩
    · subst a3
      cases last with
      | false =>
        rcases m with _ | ⟨m0, m⟩
        · rcases n with _ | ⟨n0, n⟩
          · refine Pure.of (acalls_of_vc (drawOk W) Tryd.func6 rfl (by decide) (by decide) rfl ?_)
            (refine g0_ ?_; repeat ((first | refine n1_ fun b_ => ?_ | refine n2_ fun b_ => ?_ | refine Nat1.mk fun q_ hq_ => ?_ | refine em_ fun x_ hx_ => ?_ | refine Elem1.mk fun e_ he_ => ?_); refine g0_ ?_))
            refine (hrd).use ?_; (refine g0_ ?_; repeat ((first | refine n1_ fun b_ => ?_ | refine n2_ fun b_ => ?_ | refine Nat1.mk fun q_ hq_ => ?_ | refine em_ fun x_ hx_ => ?_ | refine Elem1.mk fun e_ he_ => ?_); refine g0_ ?_))
            (refine g1_ ?_; repeat ((first | refine n1_ fun b_ => ?_ | refine n2_ fun b_ => ?_ | refine Nat1.mk fun q_ hq_ => ?_ | refine em_ fun x_ hx_ => ?_ | refine Elem1.mk fun e_ he_ => ?_); refine g1_ ?_))
            refine (hst).use ?_; (refine g0_ ?_; repeat ((first | refine n1_ fun b_ => ?_ | refine n2_ fun b_ => ?_ | refine Nat1.mk fun q_ hq_ => ?_ | refine em_ fun x_ hx_ => ?_ | refine Elem1.mk fun e_ he_ => ?_); refine g0_ ?_))
            (refine g1_ ?_; repeat ((first | refine n1_ fun b_ => ?_ | refine n2_ fun b_ => ?_ | refine Nat1.mk fun q_ hq_ => ?_ | refine em_ fun x_ hx_ => ?_ | refine Elem1.mk fun e_ he_ => ?_); refine g1_ ?_))
            (try (rw [htd]; (refine g0_ ?_; repeat ((first | refine n1_ fun b_ => ?_ | refine n2_ fun b_ => ?_ | refine Nat1.mk fun q_ hq_ => ?_ | refine em_ fun x_ hx_ => ?_ | refine Elem1.mk fun e_ he_ => ?_); refine g0_ ?_))))
            refine ACalls.giveE hp ?_
            rintro bb -
            rw [hm]
            dsimp only
            (refine g0_ ?_; repeat ((first | refine n1_ fun b_ => ?_ | refine n2_ fun b_ => ?_ | refine Nat1.mk fun q_ hq_ => ?_ | refine em_ fun x_ hx_ => ?_ | refine Elem1.mk fun e_ he_ => ?_); refine g0_ ?_))
            refine (hn).use ?_; (refine g0_ ?_; repeat ((first | refine n1_ fun b_ => ?_ | refine n2_ fun b_ => ?_ | refine Nat1.mk fun q_ hq_ => ?_ | refine em_ fun x_ hx_ => ?_ | refine Elem1.mk fun e_ he_ => ?_); refine g0_ ?_))
            (refine g1_ ?_; repeat ((first | refine n1_ fun b_ => ?_ | refine n2_ fun b_ => ?_ | refine Nat1.mk fun q_ hq_ => ?_ | refine em_ fun x_ hx_ => ?_ | refine Elem1.mk fun e_ he_ => ?_); refine g1_ ?_))
            (try refine need.mk (keys_all _) ?_)
            (refine g0_ ?_; repeat ((first | refine n1_ fun b_ => ?_ | refine n2_ fun b_ => ?_ | refine Nat1.mk fun q_ hq_ => ?_ | refine em_ fun x_ hx_ => ?_ | refine Elem1.mk fun e_ he_ => ?_); refine g0_ ?_))
            refine heq.borrow rfl rfl (fun j hj => ?_) ?_
            · match j, hj with
              | 0, _ => exact .refl _
              | 1, _ => exact .nils 4
            (refine g1_ ?_; repeat ((first | refine n1_ fun b_ => ?_ | refine n2_ fun b_ => ?_ | refine Nat1.mk fun q_ hq_ => ?_ | refine em_ fun x_ hx_ => ?_ | refine Elem1.mk fun e_ he_ => ?_); refine g1_ ?_))
            exact .refl _
          · have hln : (List.map encKey (n0 :: n)).length = n.length + 1 := by simp
            simp only [List.nil_append, List.length_cons] at hkl
            refine Pure.of (acalls_of_vc (drawOk W) Tryd.func6 rfl (by decide) (by decide) rfl ?_)
            (refine g0_ ?_; repeat ((first | refine n1_ fun b_ => ?_ | refine n2_ fun b_ => ?_ | refine Nat1.mk fun q_ hq_ => ?_ | refine em_ fun x_ hx_ => ?_ | refine Elem1.mk fun e_ he_ => ?_); refine g0_ ?_))
            refine (hrd).use ?_; (refine g0_ ?_; repeat ((first | refine n1_ fun b_ => ?_ | refine n2_ fun b_ => ?_ | refine Nat1.mk fun q_ hq_ => ?_ | refine em_ fun x_ hx_ => ?_ | refine Elem1.mk fun e_ he_ => ?_); refine g0_ ?_))
            (refine g1_ ?_; repeat ((first | refine n1_ fun b_ => ?_ | refine n2_ fun b_ => ?_ | refine Nat1.mk fun q_ hq_ => ?_ | refine em_ fun x_ hx_ => ?_ | refine Elem1.mk fun e_ he_ => ?_); refine g1_ ?_))
            refine (hst).use ?_; (refine g0_ ?_; repeat ((first | refine n1_ fun b_ => ?_ | refine n2_ fun b_ => ?_ | refine Nat1.mk fun q_ hq_ => ?_ | refine em_ fun x_ hx_ => ?_ | refine Elem1.mk fun e_ he_ => ?_); refine g0_ ?_))
            (refine g1_ ?_; repeat ((first | refine n1_ fun b_ => ?_ | refine n2_ fun b_ => ?_ | refine Nat1.mk fun q_ hq_ => ?_ | refine em_ fun x_ hx_ => ?_ | refine Elem1.mk fun e_ he_ => ?_); refine g1_ ?_))
            (try (rw [htd]; (refine g0_ ?_; repeat ((first | refine n1_ fun b_ => ?_ | refine n2_ fun b_ => ?_ | refine Nat1.mk fun q_ hq_ => ?_ | refine em_ fun x_ hx_ => ?_ | refine Elem1.mk fun e_ he_ => ?_); refine g0_ ?_))))
            refine ACalls.giveE hp ?_
            rintro bb -
            rw [hm]
            dsimp only
            (refine g0_ ?_; repeat ((first | refine n1_ fun b_ => ?_ | refine n2_ fun b_ => ?_ | refine Nat1.mk fun q_ hq_ => ?_ | refine em_ fun x_ hx_ => ?_ | refine Elem1.mk fun e_ he_ => ?_); refine g0_ ?_))
            refine (hn).use ?_; (refine g0_ ?_; repeat ((first | refine n1_ fun b_ => ?_ | refine n2_ fun b_ => ?_ | refine Nat1.mk fun q_ hq_ => ?_ | refine em_ fun x_ hx_ => ?_ | refine Elem1.mk fun e_ he_ => ?_); refine g0_ ?_))
            (refine g1_ ?_; repeat ((first | refine n1_ fun b_ => ?_ | refine n2_ fun b_ => ?_ | refine Nat1.mk fun q_ hq_ => ?_ | refine em_ fun x_ hx_ => ?_ | refine Elem1.mk fun e_ he_ => ?_); refine g1_ ?_))
            (try refine need.mk (keys_all _) ?_)
            (refine g0_ ?_; repeat ((first | refine n1_ fun b_ => ?_ | refine n2_ fun b_ => ?_ | refine Nat1.mk fun q_ hq_ => ?_ | refine em_ fun x_ hx_ => ?_ | refine Elem1.mk fun e_ he_ => ?_); refine g0_ ?_))
            refine heq.borrow rfl rfl (fun j hj => ?_) ?_
            · match j, hj with
              | 0, _ => exact .refl _
              | 1, _ => exact frz_row (l := (n0 :: n).map encKey) (.here _ _ _) _ (by simp)
            (refine g1_ ?_; repeat ((first | refine n1_ fun b_ => ?_ | refine n2_ fun b_ => ?_ | refine Nat1.mk fun q_ hq_ => ?_ | refine em_ fun x_ hx_ => ?_ | refine Elem1.mk fun e_ he_ => ?_); refine g1_ ?_))
            exact .refl _
        · have hlm : (List.map encKey m).length = m.length := List.length_map _
          have hap : List.map encKey (m0 :: m ++ n) = (encKey m0 :: List.map encKey m) ++ List.map encKey n := by rw [List.map_append]; rfl
          rw [hap] at heq hrd
          rcases n with _ | ⟨n0, n⟩
          · have hln : (List.map encKey ([] : List Key)).length = 0 := rfl
            simp only [List.length_append, List.length_cons, List.length_nil] at hkl
            refine Pure.of (acalls_of_vc (drawOk W) Tryd.func6 rfl (by decide) (by decide) rfl ?_)
            (refine g0_ ?_; repeat ((first | refine n1_ fun b_ => ?_ | refine n2_ fun b_ => ?_ | refine Nat1.mk fun q_ hq_ => ?_ | refine em_ fun x_ hx_ => ?_ | refine Elem1.mk fun e_ he_ => ?_); refine g0_ ?_))
            refine (hrd).use ?_; (refine g0_ ?_; repeat ((first | refine n1_ fun b_ => ?_ | refine n2_ fun b_ => ?_ | refine Nat1.mk fun q_ hq_ => ?_ | refine em_ fun x_ hx_ => ?_ | refine Elem1.mk fun e_ he_ => ?_); refine g0_ ?_))
            (refine g1_ ?_; repeat ((first | refine n1_ fun b_ => ?_ | refine n2_ fun b_ => ?_ | refine Nat1.mk fun q_ hq_ => ?_ | refine em_ fun x_ hx_ => ?_ | refine Elem1.mk fun e_ he_ => ?_); refine g1_ ?_))
            refine (hst).use ?_; (refine g0_ ?_; repeat ((first | refine n1_ fun b_ => ?_ | refine n2_ fun b_ => ?_ | refine Nat1.mk fun q_ hq_ => ?_ | refine em_ fun x_ hx_ => ?_ | refine Elem1.mk fun e_ he_ => ?_); refine g0_ ?_))
            (refine g1_ ?_; repeat ((first | refine n1_ fun b_ => ?_ | refine n2_ fun b_ => ?_ | refine Nat1.mk fun q_ hq_ => ?_ | refine em_ fun x_ hx_ => ?_ | refine Elem1.mk fun e_ he_ => ?_); refine g1_ ?_))
            (try (rw [htd]; (refine g0_ ?_; repeat ((first | refine n1_ fun b_ => ?_ | refine n2_ fun b_ => ?_ | refine Nat1.mk fun q_ hq_ => ?_ | refine em_ fun x_ hx_ => ?_ | refine Elem1.mk fun e_ he_ => ?_); refine g0_ ?_))))
            refine ACalls.giveE hp ?_
            rintro bb -
            rw [hm]
            dsimp only
            (refine g0_ ?_; repeat ((first | refine n1_ fun b_ => ?_ | refine n2_ fun b_ => ?_ | refine Nat1.mk fun q_ hq_ => ?_ | refine em_ fun x_ hx_ => ?_ | refine Elem1.mk fun e_ he_ => ?_); refine g0_ ?_))
            refine (hn).use ?_; (refine g0_ ?_; repeat ((first | refine n1_ fun b_ => ?_ | refine n2_ fun b_ => ?_ | refine Nat1.mk fun q_ hq_ => ?_ | refine em_ fun x_ hx_ => ?_ | refine Elem1.mk fun e_ he_ => ?_); refine g0_ ?_))
            (refine g1_ ?_; repeat ((first | refine n1_ fun b_ => ?_ | refine n2_ fun b_ => ?_ | refine Nat1.mk fun q_ hq_ => ?_ | refine em_ fun x_ hx_ => ?_ | refine Elem1.mk fun e_ he_ => ?_); refine g1_ ?_))
            (try refine need.mk (keys_all _) ?_)
            (refine g0_ ?_; repeat ((first | refine n1_ fun b_ => ?_ | refine n2_ fun b_ => ?_ | refine Nat1.mk fun q_ hq_ => ?_ | refine em_ fun x_ hx_ => ?_ | refine Elem1.mk fun e_ he_ => ?_); refine g0_ ?_))
            refine heq.borrow rfl rfl (fun j hj => ?_) ?_
            · match j, hj with
              | 0, _ => exact .refl _
              | 1, _ => exact frz_row (.here _ _ _) _ (rowl0 _ _)
            (refine g1_ ?_; repeat ((first | refine n1_ fun b_ => ?_ | refine n2_ fun b_ => ?_ | refine Nat1.mk fun q_ hq_ => ?_ | refine em_ fun x_ hx_ => ?_ | refine Elem1.mk fun e_ he_ => ?_); refine g1_ ?_))
            exact .refl _
          · have hln : (List.map encKey (n0 :: n)).length = n.length + 1 := by simp
            simp only [List.length_append, List.length_cons] at hkl
            refine Pure.of (acalls_of_vc (drawOk W) Tryd.func6 rfl (by decide) (by decide) rfl ?_)
            (refine g0_ ?_; repeat ((first | refine n1_ fun b_ => ?_ | refine n2_ fun b_ => ?_ | refine Nat1.mk fun q_ hq_ => ?_ | refine em_ fun x_ hx_ => ?_ | refine Elem1.mk fun e_ he_ => ?_); refine g0_ ?_))
            refine (hrd).use ?_; (refine g0_ ?_; repeat ((first | refine n1_ fun b_ => ?_ | refine n2_ fun b_ => ?_ | refine Nat1.mk fun q_ hq_ => ?_ | refine em_ fun x_ hx_ => ?_ | refine Elem1.mk fun e_ he_ => ?_); refine g0_ ?_))
            (refine g1_ ?_; repeat ((first | refine n1_ fun b_ => ?_ | refine n2_ fun b_ => ?_ | refine Nat1.mk fun q_ hq_ => ?_ | refine em_ fun x_ hx_ => ?_ | refine Elem1.mk fun e_ he_ => ?_); refine g1_ ?_))
            refine (hst).use ?_; (refine g0_ ?_; repeat ((first | refine n1_ fun b_ => ?_ | refine n2_ fun b_ => ?_ | refine Nat1.mk fun q_ hq_ => ?_ | refine em_ fun x_ hx_ => ?_ | refine Elem1.mk fun e_ he_ => ?_); refine g0_ ?_))
            (refine g1_ ?_; repeat ((first | refine n1_ fun b_ => ?_ | refine n2_ fun b_ => ?_ | refine Nat1.mk fun q_ hq_ => ?_ | refine em_ fun x_ hx_ => ?_ | refine Elem1.mk fun e_ he_ => ?_); refine g1_ ?_))
            (try (rw [htd]; (refine g0_ ?_; repeat ((first | refine n1_ fun b_ => ?_ | refine n2_ fun b_ => ?_ | refine Nat1.mk fun q_ hq_ => ?_ | refine em_ fun x_ hx_ => ?_ | refine Elem1.mk fun e_ he_ => ?_); refine g0_ ?_))))
            refine ACalls.giveE hp ?_
            rintro bb -
            rw [hm]
            dsimp only
            (refine g0_ ?_; repeat ((first | refine n1_ fun b_ => ?_ | refine n2_ fun b_ => ?_ | refine Nat1.mk fun q_ hq_ => ?_ | refine em_ fun x_ hx_ => ?_ | refine Elem1.mk fun e_ he_ => ?_); refine g0_ ?_))
            refine (hn).use ?_; (refine g0_ ?_; repeat ((first | refine n1_ fun b_ => ?_ | refine n2_ fun b_ => ?_ | refine Nat1.mk fun q_ hq_ => ?_ | refine em_ fun x_ hx_ => ?_ | refine Elem1.mk fun e_ he_ => ?_); refine g0_ ?_))
            (refine g1_ ?_; repeat ((first | refine n1_ fun b_ => ?_ | refine n2_ fun b_ => ?_ | refine Nat1.mk fun q_ hq_ => ?_ | refine em_ fun x_ hx_ => ?_ | refine Elem1.mk fun e_ he_ => ?_); refine g1_ ?_))
            (try refine need.mk (keys_all _) ?_)
            (refine g0_ ?_; repeat ((first | refine n1_ fun b_ => ?_ | refine n2_ fun b_ => ?_ | refine Nat1.mk fun q_ hq_ => ?_ | refine em_ fun x_ hx_ => ?_ | refine Elem1.mk fun e_ he_ => ?_); refine g0_ ?_))
            refine heq.borrow rfl rfl (fun j hj => ?_) ?_
            · match j, hj with
              | 0, _ => exact .refl _
              | 1, _ => exact frz_row (.here _ _ _) _ (rowl _ _ _)
            (refine g1_ ?_; repeat ((first | refine n1_ fun b_ => ?_ | refine n2_ fun b_ => ?_ | refine Nat1.mk fun q_ hq_ => ?_ | refine em_ fun x_ hx_ => ?_ | refine Elem1.mk fun e_ he_ => ?_); refine g1_ ?_))
            exact .refl _
      | true =>
        obtain rfl := hen rfl
        rcases m with _ | ⟨m0, m⟩
        · rcases n with _ | ⟨n0, n⟩
          · refine Pure.of (acalls_of_vc (drawOk W) Tryd.func6 rfl (by decide) (by decide) rfl ?_)
            (refine g0_ ?_; repeat ((first | refine n1_ fun b_ => ?_ | refine n2_ fun b_ => ?_ | refine Nat1.mk fun q_ hq_ => ?_ | refine em_ fun x_ hx_ => ?_ | refine Elem1.mk fun e_ he_ => ?_); refine g0_ ?_))
            refine (hrd).use ?_; (refine g0_ ?_; repeat ((first | refine n1_ fun b_ => ?_ | refine n2_ fun b_ => ?_ | refine Nat1.mk fun q_ hq_ => ?_ | refine em_ fun x_ hx_ => ?_ | refine Elem1.mk fun e_ he_ => ?_); refine g0_ ?_))
            (refine g1_ ?_; repeat ((first | refine n1_ fun b_ => ?_ | refine n2_ fun b_ => ?_ | refine Nat1.mk fun q_ hq_ => ?_ | refine em_ fun x_ hx_ => ?_ | refine Elem1.mk fun e_ he_ => ?_); refine g1_ ?_))
            refine (hst).use ?_; (refine g0_ ?_; repeat ((first | refine n1_ fun b_ => ?_ | refine n2_ fun b_ => ?_ | refine Nat1.mk fun q_ hq_ => ?_ | refine em_ fun x_ hx_ => ?_ | refine Elem1.mk fun e_ he_ => ?_); refine g0_ ?_))
            (refine g1_ ?_; repeat ((first | refine n1_ fun b_ => ?_ | refine n2_ fun b_ => ?_ | refine Nat1.mk fun q_ hq_ => ?_ | refine em_ fun x_ hx_ => ?_ | refine Elem1.mk fun e_ he_ => ?_); refine g1_ ?_))
            (try (rw [htd]; (refine g0_ ?_; repeat ((first | refine n1_ fun b_ => ?_ | refine n2_ fun b_ => ?_ | refine Nat1.mk fun q_ hq_ => ?_ | refine em_ fun x_ hx_ => ?_ | refine Elem1.mk fun e_ he_ => ?_); refine g0_ ?_))))
            refine ACalls.giveE hp ?_
            rintro bb -
            rw [hm]
            dsimp only
            (refine g0_ ?_; repeat ((first | refine n1_ fun b_ => ?_ | refine n2_ fun b_ => ?_ | refine Nat1.mk fun q_ hq_ => ?_ | refine em_ fun x_ hx_ => ?_ | refine Elem1.mk fun e_ he_ => ?_); refine g0_ ?_))
            refine (hn).use ?_; (refine g0_ ?_; repeat ((first | refine n1_ fun b_ => ?_ | refine n2_ fun b_ => ?_ | refine Nat1.mk fun q_ hq_ => ?_ | refine em_ fun x_ hx_ => ?_ | refine Elem1.mk fun e_ he_ => ?_); refine g0_ ?_))
            (refine g1_ ?_; repeat ((first | refine n1_ fun b_ => ?_ | refine n2_ fun b_ => ?_ | refine Nat1.mk fun q_ hq_ => ?_ | refine em_ fun x_ hx_ => ?_ | refine Elem1.mk fun e_ he_ => ?_); refine g1_ ?_))
            (try refine need.mk (keys_all _) ?_)
            (refine g0_ ?_; repeat ((first | refine n1_ fun b_ => ?_ | refine n2_ fun b_ => ?_ | refine Nat1.mk fun q_ hq_ => ?_ | refine em_ fun x_ hx_ => ?_ | refine Elem1.mk fun e_ he_ => ?_); refine g0_ ?_))
            refine heq.borrow rfl rfl (fun j hj => ?_) ?_
            · match j, hj with
              | 0, _ => exact .refl _
              | 1, _ => exact .nils 4
            (refine g1_ ?_; repeat ((first | refine n1_ fun b_ => ?_ | refine n2_ fun b_ => ?_ | refine Nat1.mk fun q_ hq_ => ?_ | refine em_ fun x_ hx_ => ?_ | refine Elem1.mk fun e_ he_ => ?_); refine g1_ ?_))
            exact .refl _
          · have hln : (List.map encKey (n0 :: n)).length = n.length + 1 := by simp
            simp only [List.nil_append, List.length_cons] at hkl
            refine Pure.of (acalls_of_vc (drawOk W) Tryd.func6 rfl (by decide) (by decide) rfl ?_)
            (refine g0_ ?_; repeat ((first | refine n1_ fun b_ => ?_ | refine n2_ fun b_ => ?_ | refine Nat1.mk fun q_ hq_ => ?_ | refine em_ fun x_ hx_ => ?_ | refine Elem1.mk fun e_ he_ => ?_); refine g0_ ?_))
            refine (hrd).use ?_; (refine g0_ ?_; repeat ((first | refine n1_ fun b_ => ?_ | refine n2_ fun b_ => ?_ | refine Nat1.mk fun q_ hq_ => ?_ | refine em_ fun x_ hx_ => ?_ | refine Elem1.mk fun e_ he_ => ?_); refine g0_ ?_))
            (refine g1_ ?_; repeat ((first | refine n1_ fun b_ => ?_ | refine n2_ fun b_ => ?_ | refine Nat1.mk fun q_ hq_ => ?_ | refine em_ fun x_ hx_ => ?_ | refine Elem1.mk fun e_ he_ => ?_); refine g1_ ?_))
            refine (hst).use ?_; (refine g0_ ?_; repeat ((first | refine n1_ fun b_ => ?_ | refine n2_ fun b_ => ?_ | refine Nat1.mk fun q_ hq_ => ?_ | refine em_ fun x_ hx_ => ?_ | refine Elem1.mk fun e_ he_ => ?_); refine g0_ ?_))
            (refine g1_ ?_; repeat ((first | refine n1_ fun b_ => ?_ | refine n2_ fun b_ => ?_ | refine Nat1.mk fun q_ hq_ => ?_ | refine em_ fun x_ hx_ => ?_ | refine Elem1.mk fun e_ he_ => ?_); refine g1_ ?_))
            (try (rw [htd]; (refine g0_ ?_; repeat ((first | refine n1_ fun b_ => ?_ | refine n2_ fun b_ => ?_ | refine Nat1.mk fun q_ hq_ => ?_ | refine em_ fun x_ hx_ => ?_ | refine Elem1.mk fun e_ he_ => ?_); refine g0_ ?_))))
            refine ACalls.giveE hp ?_
            rintro bb -
            rw [hm]
            dsimp only
            (refine g0_ ?_; repeat ((first | refine n1_ fun b_ => ?_ | refine n2_ fun b_ => ?_ | refine Nat1.mk fun q_ hq_ => ?_ | refine em_ fun x_ hx_ => ?_ | refine Elem1.mk fun e_ he_ => ?_); refine g0_ ?_))
            refine (hn).use ?_; (refine g0_ ?_; repeat ((first | refine n1_ fun b_ => ?_ | refine n2_ fun b_ => ?_ | refine Nat1.mk fun q_ hq_ => ?_ | refine em_ fun x_ hx_ => ?_ | refine Elem1.mk fun e_ he_ => ?_); refine g0_ ?_))
            (refine g1_ ?_; repeat ((first | refine n1_ fun b_ => ?_ | refine n2_ fun b_ => ?_ | refine Nat1.mk fun q_ hq_ => ?_ | refine em_ fun x_ hx_ => ?_ | refine Elem1.mk fun e_ he_ => ?_); refine g1_ ?_))
            (try refine need.mk (keys_all _) ?_)
            (refine g0_ ?_; repeat ((first | refine n1_ fun b_ => ?_ | refine n2_ fun b_ => ?_ | refine Nat1.mk fun q_ hq_ => ?_ | refine em_ fun x_ hx_ => ?_ | refine Elem1.mk fun e_ he_ => ?_); refine g0_ ?_))
            refine heq.borrow rfl rfl (fun j hj => ?_) ?_
            · match j, hj with
              | 0, _ => exact .refl _
              | 1, _ => exact frz_row (l := (n0 :: n).map encKey) (.here _ _ _) _ (by simp)
            (refine g1_ ?_; repeat ((first | refine n1_ fun b_ => ?_ | refine n2_ fun b_ => ?_ | refine Nat1.mk fun q_ hq_ => ?_ | refine em_ fun x_ hx_ => ?_ | refine Elem1.mk fun e_ he_ => ?_); refine g1_ ?_))
            exact .refl _
        · have hlm : (List.map encKey m).length = m.length := List.length_map _
          have hap : List.map encKey (m0 :: m ++ n) = (encKey m0 :: List.map encKey m) ++ List.map encKey n := by rw [List.map_append]; rfl
          rw [hap] at heq hrd
          rcases n with _ | ⟨n0, n⟩
          · have hln : (List.map encKey ([] : List Key)).length = 0 := rfl
            simp only [List.length_append, List.length_cons, List.length_nil] at hkl
            refine Pure.of (acalls_of_vc (drawOk W) Tryd.func6 rfl (by decide) (by decide) rfl ?_)
            (refine g0_ ?_; repeat ((first | refine n1_ fun b_ => ?_ | refine n2_ fun b_ => ?_ | refine Nat1.mk fun q_ hq_ => ?_ | refine em_ fun x_ hx_ => ?_ | refine Elem1.mk fun e_ he_ => ?_); refine g0_ ?_))
            refine (hrd).use ?_; (refine g0_ ?_; repeat ((first | refine n1_ fun b_ => ?_ | refine n2_ fun b_ => ?_ | refine Nat1.mk fun q_ hq_ => ?_ | refine em_ fun x_ hx_ => ?_ | refine Elem1.mk fun e_ he_ => ?_); refine g0_ ?_))
            (refine g1_ ?_; repeat ((first | refine n1_ fun b_ => ?_ | refine n2_ fun b_ => ?_ | refine Nat1.mk fun q_ hq_ => ?_ | refine em_ fun x_ hx_ => ?_ | refine Elem1.mk fun e_ he_ => ?_); refine g1_ ?_))
            refine (hst).use ?_; (refine g0_ ?_; repeat ((first | refine n1_ fun b_ => ?_ | refine n2_ fun b_ => ?_ | refine Nat1.mk fun q_ hq_ => ?_ | refine em_ fun x_ hx_ => ?_ | refine Elem1.mk fun e_ he_ => ?_); refine g0_ ?_))
            (refine g1_ ?_; repeat ((first | refine n1_ fun b_ => ?_ | refine n2_ fun b_ => ?_ | refine Nat1.mk fun q_ hq_ => ?_ | refine em_ fun x_ hx_ => ?_ | refine Elem1.mk fun e_ he_ => ?_); refine g1_ ?_))
            (try (rw [htd]; (refine g0_ ?_; repeat ((first | refine n1_ fun b_ => ?_ | refine n2_ fun b_ => ?_ | refine Nat1.mk fun q_ hq_ => ?_ | refine em_ fun x_ hx_ => ?_ | refine Elem1.mk fun e_ he_ => ?_); refine g0_ ?_))))
            refine ACalls.giveE hp ?_
            rintro bb -
            rw [hm]
            dsimp only
            (refine g0_ ?_; repeat ((first | refine n1_ fun b_ => ?_ | refine n2_ fun b_ => ?_ | refine Nat1.mk fun q_ hq_ => ?_ | refine em_ fun x_ hx_ => ?_ | refine Elem1.mk fun e_ he_ => ?_); refine g0_ ?_))
            refine (hn).use ?_; (refine g0_ ?_; repeat ((first | refine n1_ fun b_ => ?_ | refine n2_ fun b_ => ?_ | refine Nat1.mk fun q_ hq_ => ?_ | refine em_ fun x_ hx_ => ?_ | refine Elem1.mk fun e_ he_ => ?_); refine g0_ ?_))
            (refine g1_ ?_; repeat ((first | refine n1_ fun b_ => ?_ | refine n2_ fun b_ => ?_ | refine Nat1.mk fun q_ hq_ => ?_ | refine em_ fun x_ hx_ => ?_ | refine Elem1.mk fun e_ he_ => ?_); refine g1_ ?_))
            (try refine need.mk (keys_all _) ?_)
            (refine g0_ ?_; repeat ((first | refine n1_ fun b_ => ?_ | refine n2_ fun b_ => ?_ | refine Nat1.mk fun q_ hq_ => ?_ | refine em_ fun x_ hx_ => ?_ | refine Elem1.mk fun e_ he_ => ?_); refine g0_ ?_))
            refine heq.borrow rfl rfl (fun j hj => ?_) ?_
            · match j, hj with
              | 0, _ => exact .refl _
              | 1, _ => exact frz_row (.here _ _ _) _ (rowl0 _ _)
            (refine g1_ ?_; repeat ((first | refine n1_ fun b_ => ?_ | refine n2_ fun b_ => ?_ | refine Nat1.mk fun q_ hq_ => ?_ | refine em_ fun x_ hx_ => ?_ | refine Elem1.mk fun e_ he_ => ?_); refine g1_ ?_))
            exact .refl _
          · have hln : (List.map encKey (n0 :: n)).length = n.length + 1 := by simp
            simp only [List.length_append, List.length_cons] at hkl
            refine Pure.of (acalls_of_vc (drawOk W) Tryd.func6 rfl (by decide) (by decide) rfl ?_)
            (refine g0_ ?_; repeat ((first | refine n1_ fun b_ => ?_ | refine n2_ fun b_ => ?_ | refine Nat1.mk fun q_ hq_ => ?_ | refine em_ fun x_ hx_ => ?_ | refine Elem1.mk fun e_ he_ => ?_); refine g0_ ?_))
            refine (hrd).use ?_; (refine g0_ ?_; repeat ((first | refine n1_ fun b_ => ?_ | refine n2_ fun b_ => ?_ | refine Nat1.mk fun q_ hq_ => ?_ | refine em_ fun x_ hx_ => ?_ | refine Elem1.mk fun e_ he_ => ?_); refine g0_ ?_))
            (refine g1_ ?_; repeat ((first | refine n1_ fun b_ => ?_ | refine n2_ fun b_ => ?_ | refine Nat1.mk fun q_ hq_ => ?_ | refine em_ fun x_ hx_ => ?_ | refine Elem1.mk fun e_ he_ => ?_); refine g1_ ?_))
            refine (hst).use ?_; (refine g0_ ?_; repeat ((first | refine n1_ fun b_ => ?_ | refine n2_ fun b_ => ?_ | refine Nat1.mk fun q_ hq_ => ?_ | refine em_ fun x_ hx_ => ?_ | refine Elem1.mk fun e_ he_ => ?_); refine g0_ ?_))
            (refine g1_ ?_; repeat ((first | refine n1_ fun b_ => ?_ | refine n2_ fun b_ => ?_ | refine Nat1.mk fun q_ hq_ => ?_ | refine em_ fun x_ hx_ => ?_ | refine Elem1.mk fun e_ he_ => ?_); refine g1_ ?_))
            (try (rw [htd]; (refine g0_ ?_; repeat ((first | refine n1_ fun b_ => ?_ | refine n2_ fun b_ => ?_ | refine Nat1.mk fun q_ hq_ => ?_ | refine em_ fun x_ hx_ => ?_ | refine Elem1.mk fun e_ he_ => ?_); refine g0_ ?_))))
            refine ACalls.giveE hp ?_
            rintro bb -
            rw [hm]
            dsimp only
            (refine g0_ ?_; repeat ((first | refine n1_ fun b_ => ?_ | refine n2_ fun b_ => ?_ | refine Nat1.mk fun q_ hq_ => ?_ | refine em_ fun x_ hx_ => ?_ | refine Elem1.mk fun e_ he_ => ?_); refine g0_ ?_))
            refine (hn).use ?_; (refine g0_ ?_; repeat ((first | refine n1_ fun b_ => ?_ | refine n2_ fun b_ => ?_ | refine Nat1.mk fun q_ hq_ => ?_ | refine em_ fun x_ hx_ => ?_ | refine Elem1.mk fun e_ he_ => ?_); refine g0_ ?_))
            (refine g1_ ?_; repeat ((first | refine n1_ fun b_ => ?_ | refine n2_ fun b_ => ?_ | refine Nat1.mk fun q_ hq_ => ?_ | refine em_ fun x_ hx_ => ?_ | refine Elem1.mk fun e_ he_ => ?_); refine g1_ ?_))
            (try refine need.mk (keys_all _) ?_)
            (refine g0_ ?_; repeat ((first | refine n1_ fun b_ => ?_ | refine n2_ fun b_ => ?_ | refine Nat1.mk fun q_ hq_ => ?_ | refine em_ fun x_ hx_ => ?_ | refine Elem1.mk fun e_ he_ => ?_); refine g0_ ?_))
            refine heq.borrow rfl rfl (fun j hj => ?_) ?_
            · match j, hj with
              | 0, _ => exact .refl _
              | 1, _ => exact frz_row (.here _ _ _) _ (rowl _ _ _)
            (refine g1_ ?_; repeat ((first | refine n1_ fun b_ => ?_ | refine n2_ fun b_ => ?_ | refine Nat1.mk fun q_ hq_ => ?_ | refine em_ fun x_ hx_ => ?_ | refine Elem1.mk fun e_ he_ => ?_); refine g1_ ?_))
            exact .refl _
    · subst a2
      cases last with
      | false =>
        rcases a1 with a1 | a1
        · rcases m with _ | ⟨m0, m⟩
          · rcases n with _ | ⟨n0, n⟩
            · refine Pure.of (acalls_of_vc (drawOk W) Tryd.func6 rfl (by decide) (by decide) rfl ?_)
              (refine g0_ ?_; repeat ((first | refine n1_ fun b_ => ?_ | refine n2_ fun b_ => ?_ | refine Nat1.mk fun q_ hq_ => ?_ | refine em_ fun x_ hx_ => ?_ | refine Elem1.mk fun e_ he_ => ?_); refine g0_ ?_))
              refine (hrd).use ?_; (refine g0_ ?_; repeat ((first | refine n1_ fun b_ => ?_ | refine n2_ fun b_ => ?_ | refine Nat1.mk fun q_ hq_ => ?_ | refine em_ fun x_ hx_ => ?_ | refine Elem1.mk fun e_ he_ => ?_); refine g0_ ?_))
              (refine g1_ ?_; repeat ((first | refine n1_ fun b_ => ?_ | refine n2_ fun b_ => ?_ | refine Nat1.mk fun q_ hq_ => ?_ | refine em_ fun x_ hx_ => ?_ | refine Elem1.mk fun e_ he_ => ?_); refine g1_ ?_))
              refine (hst).use ?_; (refine g0_ ?_; repeat ((first | refine n1_ fun b_ => ?_ | refine n2_ fun b_ => ?_ | refine Nat1.mk fun q_ hq_ => ?_ | refine em_ fun x_ hx_ => ?_ | refine Elem1.mk fun e_ he_ => ?_); refine g0_ ?_))
              (refine g1_ ?_; repeat ((first | refine n1_ fun b_ => ?_ | refine n2_ fun b_ => ?_ | refine Nat1.mk fun q_ hq_ => ?_ | refine em_ fun x_ hx_ => ?_ | refine Elem1.mk fun e_ he_ => ?_); refine g1_ ?_))
              (try (rw [htd]; (refine g0_ ?_; repeat ((first | refine n1_ fun b_ => ?_ | refine n2_ fun b_ => ?_ | refine Nat1.mk fun q_ hq_ => ?_ | refine em_ fun x_ hx_ => ?_ | refine Elem1.mk fun e_ he_ => ?_); refine g0_ ?_))))
              refine ACalls.giveE hp ?_
              rintro bb -
              rw [hm]
              dsimp only
              (refine g0_ ?_; repeat ((first | refine n1_ fun b_ => ?_ | refine n2_ fun b_ => ?_ | refine Nat1.mk fun q_ hq_ => ?_ | refine em_ fun x_ hx_ => ?_ | refine Elem1.mk fun e_ he_ => ?_); refine g0_ ?_))
              refine (hn).use ?_; (refine g0_ ?_; repeat ((first | refine n1_ fun b_ => ?_ | refine n2_ fun b_ => ?_ | refine Nat1.mk fun q_ hq_ => ?_ | refine em_ fun x_ hx_ => ?_ | refine Elem1.mk fun e_ he_ => ?_); refine g0_ ?_))
              (refine g1_ ?_; repeat ((first | refine n1_ fun b_ => ?_ | refine n2_ fun b_ => ?_ | refine Nat1.mk fun q_ hq_ => ?_ | refine em_ fun x_ hx_ => ?_ | refine Elem1.mk fun e_ he_ => ?_); refine g1_ ?_))
              (try refine need.mk (keys_all _) ?_)
              (refine g0_ ?_; repeat ((first | refine n1_ fun b_ => ?_ | refine n2_ fun b_ => ?_ | refine Nat1.mk fun q_ hq_ => ?_ | refine em_ fun x_ hx_ => ?_ | refine Elem1.mk fun e_ he_ => ?_); refine g0_ ?_))
              refine heq.borrow rfl rfl (fun j hj => ?_) ?_
              · match j, hj with
                | 0, _ => exact .refl _
                | 1, _ => exact .nils 4
              (refine g1_ ?_; repeat ((first | refine n1_ fun b_ => ?_ | refine n2_ fun b_ => ?_ | refine Nat1.mk fun q_ hq_ => ?_ | refine em_ fun x_ hx_ => ?_ | refine Elem1.mk fun e_ he_ => ?_); refine g1_ ?_))
              exact .refl _
            · have hln : (List.map encKey (n0 :: n)).length = n.length + 1 := by simp
              simp only [List.nil_append, List.length_cons] at hkl
              refine Pure.of (acalls_of_vc (drawOk W) Tryd.func6 rfl (by decide) (by decide) rfl ?_)
              (refine g0_ ?_; repeat ((first | refine n1_ fun b_ => ?_ | refine n2_ fun b_ => ?_ | refine Nat1.mk fun q_ hq_ => ?_ | refine em_ fun x_ hx_ => ?_ | refine Elem1.mk fun e_ he_ => ?_); refine g0_ ?_))
              refine (hrd).use ?_; (refine g0_ ?_; repeat ((first | refine n1_ fun b_ => ?_ | refine n2_ fun b_ => ?_ | refine Nat1.mk fun q_ hq_ => ?_ | refine em_ fun x_ hx_ => ?_ | refine Elem1.mk fun e_ he_ => ?_); refine g0_ ?_))
              (refine g1_ ?_; repeat ((first | refine n1_ fun b_ => ?_ | refine n2_ fun b_ => ?_ | refine Nat1.mk fun q_ hq_ => ?_ | refine em_ fun x_ hx_ => ?_ | refine Elem1.mk fun e_ he_ => ?_); refine g1_ ?_))
              refine (hst).use ?_; (refine g0_ ?_; repeat ((first | refine n1_ fun b_ => ?_ | refine n2_ fun b_ => ?_ | refine Nat1.mk fun q_ hq_ => ?_ | refine em_ fun x_ hx_ => ?_ | refine Elem1.mk fun e_ he_ => ?_); refine g0_ ?_))
              (refine g1_ ?_; repeat ((first | refine n1_ fun b_ => ?_ | refine n2_ fun b_ => ?_ | refine Nat1.mk fun q_ hq_ => ?_ | refine em_ fun x_ hx_ => ?_ | refine Elem1.mk fun e_ he_ => ?_); refine g1_ ?_))
              (try (rw [htd]; (refine g0_ ?_; repeat ((first | refine n1_ fun b_ => ?_ | refine n2_ fun b_ => ?_ | refine Nat1.mk fun q_ hq_ => ?_ | refine em_ fun x_ hx_ => ?_ | refine Elem1.mk fun e_ he_ => ?_); refine g0_ ?_))))
              refine ACalls.giveE hp ?_
              rintro bb -
              rw [hm]
              dsimp only
              (refine g0_ ?_; repeat ((first | refine n1_ fun b_ => ?_ | refine n2_ fun b_ => ?_ | refine Nat1.mk fun q_ hq_ => ?_ | refine em_ fun x_ hx_ => ?_ | refine Elem1.mk fun e_ he_ => ?_); refine g0_ ?_))
              refine (hn).use ?_; (refine g0_ ?_; repeat ((first | refine n1_ fun b_ => ?_ | refine n2_ fun b_ => ?_ | refine Nat1.mk fun q_ hq_ => ?_ | refine em_ fun x_ hx_ => ?_ | refine Elem1.mk fun e_ he_ => ?_); refine g0_ ?_))
              (refine g1_ ?_; repeat ((first | refine n1_ fun b_ => ?_ | refine n2_ fun b_ => ?_ | refine Nat1.mk fun q_ hq_ => ?_ | refine em_ fun x_ hx_ => ?_ | refine Elem1.mk fun e_ he_ => ?_); refine g1_ ?_))
              (try refine need.mk (keys_all _) ?_)
              (refine g0_ ?_; repeat ((first | refine n1_ fun b_ => ?_ | refine n2_ fun b_ => ?_ | refine Nat1.mk fun q_ hq_ => ?_ | refine em_ fun x_ hx_ => ?_ | refine Elem1.mk fun e_ he_ => ?_); refine g0_ ?_))
              refine heq.borrow rfl rfl (fun j hj => ?_) ?_
              · match j, hj with
                | 0, _ => exact .refl _
                | 1, _ => exact frz_row (l := (n0 :: n).map encKey) (.here _ _ _) _ (by simp)
              (refine g1_ ?_; repeat ((first | refine n1_ fun b_ => ?_ | refine n2_ fun b_ => ?_ | refine Nat1.mk fun q_ hq_ => ?_ | refine em_ fun x_ hx_ => ?_ | refine Elem1.mk fun e_ he_ => ?_); refine g1_ ?_))
              exact .refl _
          · have hlm : (List.map encKey m).length = m.length := List.length_map _
            have hap : List.map encKey (m0 :: m ++ n) = (encKey m0 :: List.map encKey m) ++ List.map encKey n := by rw [List.map_append]; rfl
            rw [hap] at heq hrd
            rcases n with _ | ⟨n0, n⟩
            · have hln : (List.map encKey ([] : List Key)).length = 0 := rfl
              simp only [List.length_append, List.length_cons, List.length_nil] at hkl
              refine Pure.of (acalls_of_vc (drawOk W) Tryd.func6 rfl (by decide) (by decide) rfl ?_)
              (refine g0_ ?_; repeat ((first | refine n1_ fun b_ => ?_ | refine n2_ fun b_ => ?_ | refine Nat1.mk fun q_ hq_ => ?_ | refine em_ fun x_ hx_ => ?_ | refine Elem1.mk fun e_ he_ => ?_); refine g0_ ?_))
              refine (hrd).use ?_; (refine g0_ ?_; repeat ((first | refine n1_ fun b_ => ?_ | refine n2_ fun b_ => ?_ | refine Nat1.mk fun q_ hq_ => ?_ | refine em_ fun x_ hx_ => ?_ | refine Elem1.mk fun e_ he_ => ?_); refine g0_ ?_))
              (refine g1_ ?_; repeat ((first | refine n1_ fun b_ => ?_ | refine n2_ fun b_ => ?_ | refine Nat1.mk fun q_ hq_ => ?_ | refine em_ fun x_ hx_ => ?_ | refine Elem1.mk fun e_ he_ => ?_); refine g1_ ?_))
              refine (hst).use ?_; (refine g0_ ?_; repeat ((first | refine n1_ fun b_ => ?_ | refine n2_ fun b_ => ?_ | refine Nat1.mk fun q_ hq_ => ?_ | refine em_ fun x_ hx_ => ?_ | refine Elem1.mk fun e_ he_ => ?_); refine g0_ ?_))
              (refine g1_ ?_; repeat ((first | refine n1_ fun b_ => ?_ | refine n2_ fun b_ => ?_ | refine Nat1.mk fun q_ hq_ => ?_ | refine em_ fun x_ hx_ => ?_ | refine Elem1.mk fun e_ he_ => ?_); refine g1_ ?_))
              (try (rw [htd]; (refine g0_ ?_; repeat ((first | refine n1_ fun b_ => ?_ | refine n2_ fun b_ => ?_ | refine Nat1.mk fun q_ hq_ => ?_ | refine em_ fun x_ hx_ => ?_ | refine Elem1.mk fun e_ he_ => ?_); refine g0_ ?_))))
              refine ACalls.giveE hp ?_
              rintro bb -
              rw [hm]
              dsimp only
              (refine g0_ ?_; repeat ((first | refine n1_ fun b_ => ?_ | refine n2_ fun b_ => ?_ | refine Nat1.mk fun q_ hq_ => ?_ | refine em_ fun x_ hx_ => ?_ | refine Elem1.mk fun e_ he_ => ?_); refine g0_ ?_))
              refine (hn).use ?_; (refine g0_ ?_; repeat ((first | refine n1_ fun b_ => ?_ | refine n2_ fun b_ => ?_ | refine Nat1.mk fun q_ hq_ => ?_ | refine em_ fun x_ hx_ => ?_ | refine Elem1.mk fun e_ he_ => ?_); refine g0_ ?_))
              (refine g1_ ?_; repeat ((first | refine n1_ fun b_ => ?_ | refine n2_ fun b_ => ?_ | refine Nat1.mk fun q_ hq_ => ?_ | refine em_ fun x_ hx_ => ?_ | refine Elem1.mk fun e_ he_ => ?_); refine g1_ ?_))
              (try refine need.mk (keys_all _) ?_)
              (refine g0_ ?_; repeat ((first | refine n1_ fun b_ => ?_ | refine n2_ fun b_ => ?_ | refine Nat1.mk fun q_ hq_ => ?_ | refine em_ fun x_ hx_ => ?_ | refine Elem1.mk fun e_ he_ => ?_); refine g0_ ?_))
              refine heq.borrow rfl rfl (fun j hj => ?_) ?_
              · match j, hj with
                | 0, _ => exact .refl _
                | 1, _ => exact frz_row (.here _ _ _) _ (rowl0 _ _)
              (refine g1_ ?_; repeat ((first | refine n1_ fun b_ => ?_ | refine n2_ fun b_ => ?_ | refine Nat1.mk fun q_ hq_ => ?_ | refine em_ fun x_ hx_ => ?_ | refine Elem1.mk fun e_ he_ => ?_); refine g1_ ?_))
              exact .refl _
            · have hln : (List.map encKey (n0 :: n)).length = n.length + 1 := by simp
              simp only [List.length_append, List.length_cons] at hkl
              refine Pure.of (acalls_of_vc (drawOk W) Tryd.func6 rfl (by decide) (by decide) rfl ?_)
              (refine g0_ ?_; repeat ((first | refine n1_ fun b_ => ?_ | refine n2_ fun b_ => ?_ | refine Nat1.mk fun q_ hq_ => ?_ | refine em_ fun x_ hx_ => ?_ | refine Elem1.mk fun e_ he_ => ?_); refine g0_ ?_))
              refine (hrd).use ?_; (refine g0_ ?_; repeat ((first | refine n1_ fun b_ => ?_ | refine n2_ fun b_ => ?_ | refine Nat1.mk fun q_ hq_ => ?_ | refine em_ fun x_ hx_ => ?_ | refine Elem1.mk fun e_ he_ => ?_); refine g0_ ?_))
              (refine g1_ ?_; repeat ((first | refine n1_ fun b_ => ?_ | refine n2_ fun b_ => ?_ | refine Nat1.mk fun q_ hq_ => ?_ | refine em_ fun x_ hx_ => ?_ | refine Elem1.mk fun e_ he_ => ?_); refine g1_ ?_))
              refine (hst).use ?_; (refine g0_ ?_; repeat ((first | refine n1_ fun b_ => ?_ | refine n2_ fun b_ => ?_ | refine Nat1.mk fun q_ hq_ => ?_ | refine em_ fun x_ hx_ => ?_ | refine Elem1.mk fun e_ he_ => ?_); refine g0_ ?_))
              (refine g1_ ?_; repeat ((first | refine n1_ fun b_ => ?_ | refine n2_ fun b_ => ?_ | refine Nat1.mk fun q_ hq_ => ?_ | refine em_ fun x_ hx_ => ?_ | refine Elem1.mk fun e_ he_ => ?_); refine g1_ ?_))
              (try (rw [htd]; (refine g0_ ?_; repeat ((first | refine n1_ fun b_ => ?_ | refine n2_ fun b_ => ?_ | refine Nat1.mk fun q_ hq_ => ?_ | refine em_ fun x_ hx_ => ?_ | refine Elem1.mk fun e_ he_ => ?_); refine g0_ ?_))))
              refine ACalls.giveE hp ?_
              rintro bb -
              rw [hm]
              dsimp only
              (refine g0_ ?_; repeat ((first | refine n1_ fun b_ => ?_ | refine n2_ fun b_ => ?_ | refine Nat1.mk fun q_ hq_ => ?_ | refine em_ fun x_ hx_ => ?_ | refine Elem1.mk fun e_ he_ => ?_); refine g0_ ?_))
              refine (hn).use ?_; (refine g0_ ?_; repeat ((first | refine n1_ fun b_ => ?_ | refine n2_ fun b_ => ?_ | refine Nat1.mk fun q_ hq_ => ?_ | refine em_ fun x_ hx_ => ?_ | refine Elem1.mk fun e_ he_ => ?_); refine g0_ ?_))
              (refine g1_ ?_; repeat ((first | refine n1_ fun b_ => ?_ | refine n2_ fun b_ => ?_ | refine Nat1.mk fun q_ hq_ => ?_ | refine em_ fun x_ hx_ => ?_ | refine Elem1.mk fun e_ he_ => ?_); refine g1_ ?_))
              (try refine need.mk (keys_all _) ?_)
              (refine g0_ ?_; repeat ((first | refine n1_ fun b_ => ?_ | refine n2_ fun b_ => ?_ | refine Nat1.mk fun q_ hq_ => ?_ | refine em_ fun x_ hx_ => ?_ | refine Elem1.mk fun e_ he_ => ?_); refine g0_ ?_))
              refine heq.borrow rfl rfl (fun j hj => ?_) ?_
              · match j, hj with
                | 0, _ => exact .refl _
                | 1, _ => exact frz_row (.here _ _ _) _ (rowl _ _ _)
              (refine g1_ ?_; repeat ((first | refine n1_ fun b_ => ?_ | refine n2_ fun b_ => ?_ | refine Nat1.mk fun q_ hq_ => ?_ | refine em_ fun x_ hx_ => ?_ | refine Elem1.mk fun e_ he_ => ?_); refine g1_ ?_))
              exact .refl _
        · rcases m with _ | ⟨m0, m⟩
          · rcases n with _ | ⟨n0, n⟩
            · refine Pure.of (acalls_of_vc (drawOk W) Tryd.func6 rfl (by decide) (by decide) rfl ?_)
              (refine g0_ ?_; repeat ((first | refine n1_ fun b_ => ?_ | refine n2_ fun b_ => ?_ | refine Nat1.mk fun q_ hq_ => ?_ | refine em_ fun x_ hx_ => ?_ | refine Elem1.mk fun e_ he_ => ?_); refine g0_ ?_))
              refine (hrd).use ?_; (refine g0_ ?_; repeat ((first | refine n1_ fun b_ => ?_ | refine n2_ fun b_ => ?_ | refine Nat1.mk fun q_ hq_ => ?_ | refine em_ fun x_ hx_ => ?_ | refine Elem1.mk fun e_ he_ => ?_); refine g0_ ?_))
              (refine g1_ ?_; repeat ((first | refine n1_ fun b_ => ?_ | refine n2_ fun b_ => ?_ | refine Nat1.mk fun q_ hq_ => ?_ | refine em_ fun x_ hx_ => ?_ | refine Elem1.mk fun e_ he_ => ?_); refine g1_ ?_))
              refine (hst).use ?_; (refine g0_ ?_; repeat ((first | refine n1_ fun b_ => ?_ | refine n2_ fun b_ => ?_ | refine Nat1.mk fun q_ hq_ => ?_ | refine em_ fun x_ hx_ => ?_ | refine Elem1.mk fun e_ he_ => ?_); refine g0_ ?_))
              (refine g1_ ?_; repeat ((first | refine n1_ fun b_ => ?_ | refine n2_ fun b_ => ?_ | refine Nat1.mk fun q_ hq_ => ?_ | refine em_ fun x_ hx_ => ?_ | refine Elem1.mk fun e_ he_ => ?_); refine g1_ ?_))
              (try (rw [htd]; (refine g0_ ?_; repeat ((first | refine n1_ fun b_ => ?_ | refine n2_ fun b_ => ?_ | refine Nat1.mk fun q_ hq_ => ?_ | refine em_ fun x_ hx_ => ?_ | refine Elem1.mk fun e_ he_ => ?_); refine g0_ ?_))))
              refine ACalls.giveE hp ?_
              rintro bb -
              rw [hm]
              dsimp only
              (refine g0_ ?_; repeat ((first | refine n1_ fun b_ => ?_ | refine n2_ fun b_ => ?_ | refine Nat1.mk fun q_ hq_ => ?_ | refine em_ fun x_ hx_ => ?_ | refine Elem1.mk fun e_ he_ => ?_); refine g0_ ?_))
              refine (hn).use ?_; (refine g0_ ?_; repeat ((first | refine n1_ fun b_ => ?_ | refine n2_ fun b_ => ?_ | refine Nat1.mk fun q_ hq_ => ?_ | refine em_ fun x_ hx_ => ?_ | refine Elem1.mk fun e_ he_ => ?_); refine g0_ ?_))
              (refine g1_ ?_; repeat ((first | refine n1_ fun b_ => ?_ | refine n2_ fun b_ => ?_ | refine Nat1.mk fun q_ hq_ => ?_ | refine em_ fun x_ hx_ => ?_ | refine Elem1.mk fun e_ he_ => ?_); refine g1_ ?_))
              (try refine need.mk (keys_all _) ?_)
              (refine g0_ ?_; repeat ((first | refine n1_ fun b_ => ?_ | refine n2_ fun b_ => ?_ | refine Nat1.mk fun q_ hq_ => ?_ | refine em_ fun x_ hx_ => ?_ | refine Elem1.mk fun e_ he_ => ?_); refine g0_ ?_))
              refine heq.borrow rfl rfl (fun j hj => ?_) ?_
              · match j, hj with
                | 0, _ => exact .refl _
                | 1, _ => exact .nils 4
              (refine g1_ ?_; repeat ((first | refine n1_ fun b_ => ?_ | refine n2_ fun b_ => ?_ | refine Nat1.mk fun q_ hq_ => ?_ | refine em_ fun x_ hx_ => ?_ | refine Elem1.mk fun e_ he_ => ?_); refine g1_ ?_))
              exact .refl _
            · have hln : (List.map encKey (n0 :: n)).length = n.length + 1 := by simp
              simp only [List.nil_append, List.length_cons] at hkl
              refine Pure.of (acalls_of_vc (drawOk W) Tryd.func6 rfl (by decide) (by decide) rfl ?_)
              (refine g0_ ?_; repeat ((first | refine n1_ fun b_ => ?_ | refine n2_ fun b_ => ?_ | refine Nat1.mk fun q_ hq_ => ?_ | refine em_ fun x_ hx_ => ?_ | refine Elem1.mk fun e_ he_ => ?_); refine g0_ ?_))
              refine (hrd).use ?_; (refine g0_ ?_; repeat ((first | refine n1_ fun b_ => ?_ | refine n2_ fun b_ => ?_ | refine Nat1.mk fun q_ hq_ => ?_ | refine em_ fun x_ hx_ => ?_ | refine Elem1.mk fun e_ he_ => ?_); refine g0_ ?_))
              (refine g1_ ?_; repeat ((first | refine n1_ fun b_ => ?_ | refine n2_ fun b_ => ?_ | refine Nat1.mk fun q_ hq_ => ?_ | refine em_ fun x_ hx_ => ?_ | refine Elem1.mk fun e_ he_ => ?_); refine g1_ ?_))
              refine (hst).use ?_; (refine g0_ ?_; repeat ((first | refine n1_ fun b_ => ?_ | refine n2_ fun b_ => ?_ | refine Nat1.mk fun q_ hq_ => ?_ | refine em_ fun x_ hx_ => ?_ | refine Elem1.mk fun e_ he_ => ?_); refine g0_ ?_))
              (refine g1_ ?_; repeat ((first | refine n1_ fun b_ => ?_ | refine n2_ fun b_ => ?_ | refine Nat1.mk fun q_ hq_ => ?_ | refine em_ fun x_ hx_ => ?_ | refine Elem1.mk fun e_ he_ => ?_); refine g1_ ?_))
              (try (rw [htd]; (refine g0_ ?_; repeat ((first | refine n1_ fun b_ => ?_ | refine n2_ fun b_ => ?_ | refine Nat1.mk fun q_ hq_ => ?_ | refine em_ fun x_ hx_ => ?_ | refine Elem1.mk fun e_ he_ => ?_); refine g0_ ?_))))
              refine ACalls.giveE hp ?_
              rintro bb -
              rw [hm]
              dsimp only
              (refine g0_ ?_; repeat ((first | refine n1_ fun b_ => ?_ | refine n2_ fun b_ => ?_ | refine Nat1.mk fun q_ hq_ => ?_ | refine em_ fun x_ hx_ => ?_ | refine Elem1.mk fun e_ he_ => ?_); refine g0_ ?_))
              refine (hn).use ?_; (refine g0_ ?_; repeat ((first | refine n1_ fun b_ => ?_ | refine n2_ fun b_ => ?_ | refine Nat1.mk fun q_ hq_ => ?_ | refine em_ fun x_ hx_ => ?_ | refine Elem1.mk fun e_ he_ => ?_); refine g0_ ?_))
              (refine g1_ ?_; repeat ((first | refine n1_ fun b_ => ?_ | refine n2_ fun b_ => ?_ | refine Nat1.mk fun q_ hq_ => ?_ | refine em_ fun x_ hx_ => ?_ | refine Elem1.mk fun e_ he_ => ?_); refine g1_ ?_))
              (try refine need.mk (keys_all _) ?_)
              (refine g0_ ?_; repeat ((first | refine n1_ fun b_ => ?_ | refine n2_ fun b_ => ?_ | refine Nat1.mk fun q_ hq_ => ?_ | refine em_ fun x_ hx_ => ?_ | refine Elem1.mk fun e_ he_ => ?_); refine g0_ ?_))
              refine heq.borrow rfl rfl (fun j hj => ?_) ?_
              · match j, hj with
                | 0, _ => exact .refl _
                | 1, _ => exact frz_row (l := (n0 :: n).map encKey) (.here _ _ _) _ (by simp)
              (refine g1_ ?_; repeat ((first | refine n1_ fun b_ => ?_ | refine n2_ fun b_ => ?_ | refine Nat1.mk fun q_ hq_ => ?_ | refine em_ fun x_ hx_ => ?_ | refine Elem1.mk fun e_ he_ => ?_); refine g1_ ?_))
              exact .refl _
          · have hlm : (List.map encKey m).length = m.length := List.length_map _
            have hap : List.map encKey (m0 :: m ++ n) = (encKey m0 :: List.map encKey m) ++ List.map encKey n := by rw [List.map_append]; rfl
            rw [hap] at heq hrd
            rcases n with _ | ⟨n0, n⟩
            · have hln : (List.map encKey ([] : List Key)).length = 0 := rfl
              simp only [List.length_append, List.length_cons, List.length_nil] at hkl
              refine Pure.of (acalls_of_vc (drawOk W) Tryd.func6 rfl (by decide) (by decide) rfl ?_)
              (refine g0_ ?_; repeat ((first | refine n1_ fun b_ => ?_ | refine n2_ fun b_ => ?_ | refine Nat1.mk fun q_ hq_ => ?_ | refine em_ fun x_ hx_ => ?_ | refine Elem1.mk fun e_ he_ => ?_); refine g0_ ?_))
              refine (hrd).use ?_; (refine g0_ ?_; repeat ((first | refine n1_ fun b_ => ?_ | refine n2_ fun b_ => ?_ | refine Nat1.mk fun q_ hq_ => ?_ | refine em_ fun x_ hx_ => ?_ | refine Elem1.mk fun e_ he_ => ?_); refine g0_ ?_))
              (refine g1_ ?_; repeat ((first | refine n1_ fun b_ => ?_ | refine n2_ fun b_ => ?_ | refine Nat1.mk fun q_ hq_ => ?_ | refine em_ fun x_ hx_ => ?_ | refine Elem1.mk fun e_ he_ => ?_); refine g1_ ?_))
              refine (hst).use ?_; (refine g0_ ?_; repeat ((first | refine n1_ fun b_ => ?_ | refine n2_ fun b_ => ?_ | refine Nat1.mk fun q_ hq_ => ?_ | refine em_ fun x_ hx_ => ?_ | refine Elem1.mk fun e_ he_ => ?_); refine g0_ ?_))
              (refine g1_ ?_; repeat ((first | refine n1_ fun b_ => ?_ | refine n2_ fun b_ => ?_ | refine Nat1.mk fun q_ hq_ => ?_ | refine em_ fun x_ hx_ => ?_ | refine Elem1.mk fun e_ he_ => ?_); refine g1_ ?_))
              (try (rw [htd]; (refine g0_ ?_; repeat ((first | refine n1_ fun b_ => ?_ | refine n2_ fun b_ => ?_ | refine Nat1.mk fun q_ hq_ => ?_ | refine em_ fun x_ hx_ => ?_ | refine Elem1.mk fun e_ he_ => ?_); refine g0_ ?_))))
              refine ACalls.giveE hp ?_
              rintro bb -
              rw [hm]
              dsimp only
              (refine g0_ ?_; repeat ((first | refine n1_ fun b_ => ?_ | refine n2_ fun b_ => ?_ | refine Nat1.mk fun q_ hq_ => ?_ | refine em_ fun x_ hx_ => ?_ | refine Elem1.mk fun e_ he_ => ?_); refine g0_ ?_))
              refine (hn).use ?_; (refine g0_ ?_; repeat ((first | refine n1_ fun b_ => ?_ | refine n2_ fun b_ => ?_ | refine Nat1.mk fun q_ hq_ => ?_ | refine em_ fun x_ hx_ => ?_ | refine Elem1.mk fun e_ he_ => ?_); refine g0_ ?_))
              (refine g1_ ?_; repeat ((first | refine n1_ fun b_ => ?_ | refine n2_ fun b_ => ?_ | refine Nat1.mk fun q_ hq_ => ?_ | refine em_ fun x_ hx_ => ?_ | refine Elem1.mk fun e_ he_ => ?_); refine g1_ ?_))
              (try refine need.mk (keys_all _) ?_)
              (refine g0_ ?_; repeat ((first | refine n1_ fun b_ => ?_ | refine n2_ fun b_ => ?_ | refine Nat1.mk fun q_ hq_ => ?_ | refine em_ fun x_ hx_ => ?_ | refine Elem1.mk fun e_ he_ => ?_); refine g0_ ?_))
              refine heq.borrow rfl rfl (fun j hj => ?_) ?_
              · match j, hj with
                | 0, _ => exact .refl _
                | 1, _ => exact frz_row (.here _ _ _) _ (rowl0 _ _)
              (refine g1_ ?_; repeat ((first | refine n1_ fun b_ => ?_ | refine n2_ fun b_ => ?_ | refine Nat1.mk fun q_ hq_ => ?_ | refine em_ fun x_ hx_ => ?_ | refine Elem1.mk fun e_ he_ => ?_); refine g1_ ?_))
              exact .refl _
            · have hln : (List.map encKey (n0 :: n)).length = n.length + 1 := by simp
              simp only [List.length_append, List.length_cons] at hkl
              refine Pure.of (acalls_of_vc (drawOk W) Tryd.func6 rfl (by decide) (by decide) rfl ?_)
              (refine g0_ ?_; repeat ((first | refine n1_ fun b_ => ?_ | refine n2_ fun b_ => ?_ | refine Nat1.mk fun q_ hq_ => ?_ | refine em_ fun x_ hx_ => ?_ | refine Elem1.mk fun e_ he_ => ?_); refine g0_ ?_))
              refine (hrd).use ?_; (refine g0_ ?_; repeat ((first | refine n1_ fun b_ => ?_ | refine n2_ fun b_ => ?_ | refine Nat1.mk fun q_ hq_ => ?_ | refine em_ fun x_ hx_ => ?_ | refine Elem1.mk fun e_ he_ => ?_); refine g0_ ?_))
              (refine g1_ ?_; repeat ((first | refine n1_ fun b_ => ?_ | refine n2_ fun b_ => ?_ | refine Nat1.mk fun q_ hq_ => ?_ | refine em_ fun x_ hx_ => ?_ | refine Elem1.mk fun e_ he_ => ?_); refine g1_ ?_))
              refine (hst).use ?_; (refine g0_ ?_; repeat ((first | refine n1_ fun b_ => ?_ | refine n2_ fun b_ => ?_ | refine Nat1.mk fun q_ hq_ => ?_ | refine em_ fun x_ hx_ => ?_ | refine Elem1.mk fun e_ he_ => ?_); refine g0_ ?_))
              (refine g1_ ?_; repeat ((first | refine n1_ fun b_ => ?_ | refine n2_ fun b_ => ?_ | refine Nat1.mk fun q_ hq_ => ?_ | refine em_ fun x_ hx_ => ?_ | refine Elem1.mk fun e_ he_ => ?_); refine g1_ ?_))
              (try (rw [htd]; (refine g0_ ?_; repeat ((first | refine n1_ fun b_ => ?_ | refine n2_ fun b_ => ?_ | refine Nat1.mk fun q_ hq_ => ?_ | refine em_ fun x_ hx_ => ?_ | refine Elem1.mk fun e_ he_ => ?_); refine g0_ ?_))))
              refine ACalls.giveE hp ?_
              rintro bb -
              rw [hm]
              dsimp only
              (refine g0_ ?_; repeat ((first | refine n1_ fun b_ => ?_ | refine n2_ fun b_ => ?_ | refine Nat1.mk fun q_ hq_ => ?_ | refine em_ fun x_ hx_ => ?_ | refine Elem1.mk fun e_ he_ => ?_); refine g0_ ?_))
              refine (hn).use ?_; (refine g0_ ?_; repeat ((first | refine n1_ fun b_ => ?_ | refine n2_ fun b_ => ?_ | refine Nat1.mk fun q_ hq_ => ?_ | refine em_ fun x_ hx_ => ?_ | refine Elem1.mk fun e_ he_ => ?_); refine g0_ ?_))
              (refine g1_ ?_; repeat ((first | refine n1_ fun b_ => ?_ | refine n2_ fun b_ => ?_ | refine Nat1.mk fun q_ hq_ => ?_ | refine em_ fun x_ hx_ => ?_ | refine Elem1.mk fun e_ he_ => ?_); refine g1_ ?_))
              (try refine need.mk (keys_all _) ?_)
              (refine g0_ ?_; repeat ((first | refine n1_ fun b_ => ?_ | refine n2_ fun b_ => ?_ | refine Nat1.mk fun q_ hq_ => ?_ | refine em_ fun x_ hx_ => ?_ | refine Elem1.mk fun e_ he_ => ?_); refine g0_ ?_))
              refine heq.borrow rfl rfl (fun j hj => ?_) ?_
              · match j, hj with
                | 0, _ => exact .refl _
                | 1, _ => exact frz_row (.here _ _ _) _ (rowl _ _ _)
              (refine g1_ ?_; repeat ((first | refine n1_ fun b_ => ?_ | refine n2_ fun b_ => ?_ | refine Nat1.mk fun q_ hq_ => ?_ | refine em_ fun x_ hx_ => ?_ | refine Elem1.mk fun e_ he_ => ?_); refine g1_ ?_))
              exact .refl _
      | true =>
        obtain rfl := hen rfl
        rcases a1 with a1 | a1
        · rcases m with _ | ⟨m0, m⟩
          · rcases n with _ | ⟨n0, n⟩
            · refine Pure.of (acalls_of_vc (drawOk W) Tryd.func6 rfl (by decide) (by decide) rfl ?_)
              (refine g0_ ?_; repeat ((first | refine n1_ fun b_ => ?_ | refine n2_ fun b_ => ?_ | refine Nat1.mk fun q_ hq_ => ?_ | refine em_ fun x_ hx_ => ?_ | refine Elem1.mk fun e_ he_ => ?_); refine g0_ ?_))
              refine (hrd).use ?_; (refine g0_ ?_; repeat ((first | refine n1_ fun b_ => ?_ | refine n2_ fun b_ => ?_ | refine Nat1.mk fun q_ hq_ => ?_ | refine em_ fun x_ hx_ => ?_ | refine Elem1.mk fun e_ he_ => ?_); refine g0_ ?_))
              (refine g1_ ?_; repeat ((first | refine n1_ fun b_ => ?_ | refine n2_ fun b_ => ?_ | refine Nat1.mk fun q_ hq_ => ?_ | refine em_ fun x_ hx_ => ?_ | refine Elem1.mk fun e_ he_ => ?_); refine g1_ ?_))
              refine (hst).use ?_; (refine g0_ ?_; repeat ((first | refine n1_ fun b_ => ?_ | refine n2_ fun b_ => ?_ | refine Nat1.mk fun q_ hq_ => ?_ | refine em_ fun x_ hx_ => ?_ | refine Elem1.mk fun e_ he_ => ?_); refine g0_ ?_))
              (refine g1_ ?_; repeat ((first | refine n1_ fun b_ => ?_ | refine n2_ fun b_ => ?_ | refine Nat1.mk fun q_ hq_ => ?_ | refine em_ fun x_ hx_ => ?_ | refine Elem1.mk fun e_ he_ => ?_); refine g1_ ?_))
              (try (rw [htd]; (refine g0_ ?_; repeat ((first | refine n1_ fun b_ => ?_ | refine n2_ fun b_ => ?_ | refine Nat1.mk fun q_ hq_ => ?_ | refine em_ fun x_ hx_ => ?_ | refine Elem1.mk fun e_ he_ => ?_); refine g0_ ?_))))
              refine ACalls.giveE hp ?_
              rintro bb -
              rw [hm]
              dsimp only
              (refine g0_ ?_; repeat ((first | refine n1_ fun b_ => ?_ | refine n2_ fun b_ => ?_ | refine Nat1.mk fun q_ hq_ => ?_ | refine em_ fun x_ hx_ => ?_ | refine Elem1.mk fun e_ he_ => ?_); refine g0_ ?_))
              refine (hn).use ?_; (refine g0_ ?_; repeat ((first | refine n1_ fun b_ => ?_ | refine n2_ fun b_ => ?_ | refine Nat1.mk fun q_ hq_ => ?_ | refine em_ fun x_ hx_ => ?_ | refine Elem1.mk fun e_ he_ => ?_); refine g0_ ?_))
              (refine g1_ ?_; repeat ((first | refine n1_ fun b_ => ?_ | refine n2_ fun b_ => ?_ | refine Nat1.mk fun q_ hq_ => ?_ | refine em_ fun x_ hx_ => ?_ | refine Elem1.mk fun e_ he_ => ?_); refine g1_ ?_))
              (try refine need.mk (keys_all _) ?_)
              (refine g0_ ?_; repeat ((first | refine n1_ fun b_ => ?_ | refine n2_ fun b_ => ?_ | refine Nat1.mk fun q_ hq_ => ?_ | refine em_ fun x_ hx_ => ?_ | refine Elem1.mk fun e_ he_ => ?_); refine g0_ ?_))
              refine heq.borrow rfl rfl (fun j hj => ?_) ?_
              · match j, hj with
                | 0, _ => exact .refl _
                | 1, _ => exact .nils 4
              (refine g1_ ?_; repeat ((first | refine n1_ fun b_ => ?_ | refine n2_ fun b_ => ?_ | refine Nat1.mk fun q_ hq_ => ?_ | refine em_ fun x_ hx_ => ?_ | refine Elem1.mk fun e_ he_ => ?_); refine g1_ ?_))
              exact .refl _
            · have hln : (List.map encKey (n0 :: n)).length = n.length + 1 := by simp
              simp only [List.nil_append, List.length_cons] at hkl
              refine Pure.of (acalls_of_vc (drawOk W) Tryd.func6 rfl (by decide) (by decide) rfl ?_)
              (refine g0_ ?_; repeat ((first | refine n1_ fun b_ => ?_ | refine n2_ fun b_ => ?_ | refine Nat1.mk fun q_ hq_ => ?_ | refine em_ fun x_ hx_ => ?_ | refine Elem1.mk fun e_ he_ => ?_); refine g0_ ?_))
              refine (hrd).use ?_; (refine g0_ ?_; repeat ((first | refine n1_ fun b_ => ?_ | refine n2_ fun b_ => ?_ | refine Nat1.mk fun q_ hq_ => ?_ | refine em_ fun x_ hx_ => ?_ | refine Elem1.mk fun e_ he_ => ?_); refine g0_ ?_))
              (refine g1_ ?_; repeat ((first | refine n1_ fun b_ => ?_ | refine n2_ fun b_ => ?_ | refine Nat1.mk fun q_ hq_ => ?_ | refine em_ fun x_ hx_ => ?_ | refine Elem1.mk fun e_ he_ => ?_); refine g1_ ?_))
              refine (hst).use ?_; (refine g0_ ?_; repeat ((first | refine n1_ fun b_ => ?_ | refine n2_ fun b_ => ?_ | refine Nat1.mk fun q_ hq_ => ?_ | refine em_ fun x_ hx_ => ?_ | refine Elem1.mk fun e_ he_ => ?_); refine g0_ ?_))
              (refine g1_ ?_; repeat ((first | refine n1_ fun b_ => ?_ | refine n2_ fun b_ => ?_ | refine Nat1.mk fun q_ hq_ => ?_ | refine em_ fun x_ hx_ => ?_ | refine Elem1.mk fun e_ he_ => ?_); refine g1_ ?_))
              (try (rw [htd]; (refine g0_ ?_; repeat ((first | refine n1_ fun b_ => ?_ | refine n2_ fun b_ => ?_ | refine Nat1.mk fun q_ hq_ => ?_ | refine em_ fun x_ hx_ => ?_ | refine Elem1.mk fun e_ he_ => ?_); refine g0_ ?_))))
              refine ACalls.giveE hp ?_
              rintro bb -
              rw [hm]
              dsimp only
              (refine g0_ ?_; repeat ((first | refine n1_ fun b_ => ?_ | refine n2_ fun b_ => ?_ | refine Nat1.mk fun q_ hq_ => ?_ | refine em_ fun x_ hx_ => ?_ | refine Elem1.mk fun e_ he_ => ?_); refine g0_ ?_))
              refine (hn).use ?_; (refine g0_ ?_; repeat ((first | refine n1_ fun b_ => ?_ | refine n2_ fun b_ => ?_ | refine Nat1.mk fun q_ hq_ => ?_ | refine em_ fun x_ hx_ => ?_ | refine Elem1.mk fun e_ he_ => ?_); refine g0_ ?_))
              (refine g1_ ?_; repeat ((first | refine n1_ fun b_ => ?_ | refine n2_ fun b_ => ?_ | refine Nat1.mk fun q_ hq_ => ?_ | refine em_ fun x_ hx_ => ?_ | refine Elem1.mk fun e_ he_ => ?_); refine g1_ ?_))
              (try refine need.mk (keys_all _) ?_)
              (refine g0_ ?_; repeat ((first | refine n1_ fun b_ => ?_ | refine n2_ fun b_ => ?_ | refine Nat1.mk fun q_ hq_ => ?_ | refine em_ fun x_ hx_ => ?_ | refine Elem1.mk fun e_ he_ => ?_); refine g0_ ?_))
              refine heq.borrow rfl rfl (fun j hj => ?_) ?_
              · match j, hj with
                | 0, _ => exact .refl _
                | 1, _ => exact frz_row (l := (n0 :: n).map encKey) (.here _ _ _) _ (by simp)
              (refine g1_ ?_; repeat ((first | refine n1_ fun b_ => ?_ | refine n2_ fun b_ => ?_ | refine Nat1.mk fun q_ hq_ => ?_ | refine em_ fun x_ hx_ => ?_ | refine Elem1.mk fun e_ he_ => ?_); refine g1_ ?_))
              exact .refl _
          · have hlm : (List.map encKey m).length = m.length := List.length_map _
            have hap : List.map encKey (m0 :: m ++ n) = (encKey m0 :: List.map encKey m) ++ List.map encKey n := by rw [List.map_append]; rfl
            rw [hap] at heq hrd
            rcases n with _ | ⟨n0, n⟩
            · have hln : (List.map encKey ([] : List Key)).length = 0 := rfl
              simp only [List.length_append, List.length_cons, List.length_nil] at hkl
              refine Pure.of (acalls_of_vc (drawOk W) Tryd.func6 rfl (by decide) (by decide) rfl ?_)
              (refine g0_ ?_; repeat ((first | refine n1_ fun b_ => ?_ | refine n2_ fun b_ => ?_ | refine Nat1.mk fun q_ hq_ => ?_ | refine em_ fun x_ hx_ => ?_ | refine Elem1.mk fun e_ he_ => ?_); refine g0_ ?_))
              refine (hrd).use ?_; (refine g0_ ?_; repeat ((first | refine n1_ fun b_ => ?_ | refine n2_ fun b_ => ?_ | refine Nat1.mk fun q_ hq_ => ?_ | refine em_ fun x_ hx_ => ?_ | refine Elem1.mk fun e_ he_ => ?_); refine g0_ ?_))
              (refine g1_ ?_; repeat ((first | refine n1_ fun b_ => ?_ | refine n2_ fun b_ => ?_ | refine Nat1.mk fun q_ hq_ => ?_ | refine em_ fun x_ hx_ => ?_ | refine Elem1.mk fun e_ he_ => ?_); refine g1_ ?_))
              refine (hst).use ?_; (refine g0_ ?_; repeat ((first | refine n1_ fun b_ => ?_ | refine n2_ fun b_ => ?_ | refine Nat1.mk fun q_ hq_ => ?_ | refine em_ fun x_ hx_ => ?_ | refine Elem1.mk fun e_ he_ => ?_); refine g0_ ?_))
              (refine g1_ ?_; repeat ((first | refine n1_ fun b_ => ?_ | refine n2_ fun b_ => ?_ | refine Nat1.mk fun q_ hq_ => ?_ | refine em_ fun x_ hx_ => ?_ | refine Elem1.mk fun e_ he_ => ?_); refine g1_ ?_))
              (try (rw [htd]; (refine g0_ ?_; repeat ((first | refine n1_ fun b_ => ?_ | refine n2_ fun b_ => ?_ | refine Nat1.mk fun q_ hq_ => ?_ | refine em_ fun x_ hx_ => ?_ | refine Elem1.mk fun e_ he_ => ?_); refine g0_ ?_))))
              refine ACalls.giveE hp ?_
              rintro bb -
              rw [hm]
              dsimp only
              (refine g0_ ?_; repeat ((first | refine n1_ fun b_ => ?_ | refine n2_ fun b_ => ?_ | refine Nat1.mk fun q_ hq_ => ?_ | refine em_ fun x_ hx_ => ?_ | refine Elem1.mk fun e_ he_ => ?_); refine g0_ ?_))
              refine (hn).use ?_; (refine g0_ ?_; repeat ((first | refine n1_ fun b_ => ?_ | refine n2_ fun b_ => ?_ | refine Nat1.mk fun q_ hq_ => ?_ | refine em_ fun x_ hx_ => ?_ | refine Elem1.mk fun e_ he_ => ?_); refine g0_ ?_))
              (refine g1_ ?_; repeat ((first | refine n1_ fun b_ => ?_ | refine n2_ fun b_ => ?_ | refine Nat1.mk fun q_ hq_ => ?_ | refine em_ fun x_ hx_ => ?_ | refine Elem1.mk fun e_ he_ => ?_); refine g1_ ?_))
              (try refine need.mk (keys_all _) ?_)
              (refine g0_ ?_; repeat ((first | refine n1_ fun b_ => ?_ | refine n2_ fun b_ => ?_ | refine Nat1.mk fun q_ hq_ => ?_ | refine em_ fun x_ hx_ => ?_ | refine Elem1.mk fun e_ he_ => ?_); refine g0_ ?_))
              refine heq.borrow rfl rfl (fun j hj => ?_) ?_
              · match j, hj with
                | 0, _ => exact .refl _
                | 1, _ => exact frz_row (.here _ _ _) _ (rowl0 _ _)
              (refine g1_ ?_; repeat ((first | refine n1_ fun b_ => ?_ | refine n2_ fun b_ => ?_ | refine Nat1.mk fun q_ hq_ => ?_ | refine em_ fun x_ hx_ => ?_ | refine Elem1.mk fun e_ he_ => ?_); refine g1_ ?_))
              exact .refl _
            · have hln : (List.map encKey (n0 :: n)).length = n.length + 1 := by simp
              simp only [List.length_append, List.length_cons] at hkl
              refine Pure.of (acalls_of_vc (drawOk W) Tryd.func6 rfl (by decide) (by decide) rfl ?_)
              (refine g0_ ?_; repeat ((first | refine n1_ fun b_ => ?_ | refine n2_ fun b_ => ?_ | refine Nat1.mk fun q_ hq_ => ?_ | refine em_ fun x_ hx_ => ?_ | refine Elem1.mk fun e_ he_ => ?_); refine g0_ ?_))
              refine (hrd).use ?_; (refine g0_ ?_; repeat ((first | refine n1_ fun b_ => ?_ | refine n2_ fun b_ => ?_ | refine Nat1.mk fun q_ hq_ => ?_ | refine em_ fun x_ hx_ => ?_ | refine Elem1.mk fun e_ he_ => ?_); refine g0_ ?_))
              (refine g1_ ?_; repeat ((first | refine n1_ fun b_ => ?_ | refine n2_ fun b_ => ?_ | refine Nat1.mk fun q_ hq_ => ?_ | refine em_ fun x_ hx_ => ?_ | refine Elem1.mk fun e_ he_ => ?_); refine g1_ ?_))
              refine (hst).use ?_; (refine g0_ ?_; repeat ((first | refine n1_ fun b_ => ?_ | refine n2_ fun b_ => ?_ | refine Nat1.mk fun q_ hq_ => ?_ | refine em_ fun x_ hx_ => ?_ | refine Elem1.mk fun e_ he_ => ?_); refine g0_ ?_))
              (refine g1_ ?_; repeat ((first | refine n1_ fun b_ => ?_ | refine n2_ fun b_ => ?_ | refine Nat1.mk fun q_ hq_ => ?_ | refine em_ fun x_ hx_ => ?_ | refine Elem1.mk fun e_ he_ => ?_); refine g1_ ?_))
              (try (rw [htd]; (refine g0_ ?_; repeat ((first | refine n1_ fun b_ => ?_ | refine n2_ fun b_ => ?_ | refine Nat1.mk fun q_ hq_ => ?_ | refine em_ fun x_ hx_ => ?_ | refine Elem1.mk fun e_ he_ => ?_); refine g0_ ?_))))
              refine ACalls.giveE hp ?_
              rintro bb -
              rw [hm]
              dsimp only
              (refine g0_ ?_; repeat ((first | refine n1_ fun b_ => ?_ | refine n2_ fun b_ => ?_ | refine Nat1.mk fun q_ hq_ => ?_ | refine em_ fun x_ hx_ => ?_ | refine Elem1.mk fun e_ he_ => ?_); refine g0_ ?_))
              refine (hn).use ?_; (refine g0_ ?_; repeat ((first | refine n1_ fun b_ => ?_ | refine n2_ fun b_ => ?_ | refine Nat1.mk fun q_ hq_ => ?_ | refine em_ fun x_ hx_ => ?_ | refine Elem1.mk fun e_ he_ => ?_); refine g0_ ?_))
              (refine g1_ ?_; repeat ((first | refine n1_ fun b_ => ?_ | refine n2_ fun b_ => ?_ | refine Nat1.mk fun q_ hq_ => ?_ | refine em_ fun x_ hx_ => ?_ | refine Elem1.mk fun e_ he_ => ?_); refine g1_ ?_))
              (try refine need.mk (keys_all _) ?_)
              (refine g0_ ?_; repeat ((first | refine n1_ fun b_ => ?_ | refine n2_ fun b_ => ?_ | refine Nat1.mk fun q_ hq_ => ?_ | refine em_ fun x_ hx_ => ?_ | refine Elem1.mk fun e_ he_ => ?_); refine g0_ ?_))
              refine heq.borrow rfl rfl (fun j hj => ?_) ?_
              · match j, hj with
                | 0, _ => exact .refl _
                | 1, _ => exact frz_row (.here _ _ _) _ (rowl _ _ _)
              (refine g1_ ?_; repeat ((first | refine n1_ fun b_ => ?_ | refine n2_ fun b_ => ?_ | refine Nat1.mk fun q_ hq_ => ?_ | refine em_ fun x_ hx_ => ?_ | refine Elem1.mk fun e_ he_ => ?_); refine g1_ ?_))
              exact .refl _
        · rcases m with _ | ⟨m0, m⟩
          · rcases n with _ | ⟨n0, n⟩
            · refine Pure.of (acalls_of_vc (drawOk W) Tryd.func6 rfl (by decide) (by decide) rfl ?_)
              (refine g0_ ?_; repeat ((first | refine n1_ fun b_ => ?_ | refine n2_ fun b_ => ?_ | refine Nat1.mk fun q_ hq_ => ?_ | refine em_ fun x_ hx_ => ?_ | refine Elem1.mk fun e_ he_ => ?_); refine g0_ ?_))
              refine (hrd).use ?_; (refine g0_ ?_; repeat ((first | refine n1_ fun b_ => ?_ | refine n2_ fun b_ => ?_ | refine Nat1.mk fun q_ hq_ => ?_ | refine em_ fun x_ hx_ => ?_ | refine Elem1.mk fun e_ he_ => ?_); refine g0_ ?_))
              (refine g1_ ?_; repeat ((first | refine n1_ fun b_ => ?_ | refine n2_ fun b_ => ?_ | refine Nat1.mk fun q_ hq_ => ?_ | refine em_ fun x_ hx_ => ?_ | refine Elem1.mk fun e_ he_ => ?_); refine g1_ ?_))
              refine (hst).use ?_; (refine g0_ ?_; repeat ((first | refine n1_ fun b_ => ?_ | refine n2_ fun b_ => ?_ | refine Nat1.mk fun q_ hq_ => ?_ | refine em_ fun x_ hx_ => ?_ | refine Elem1.mk fun e_ he_ => ?_); refine g0_ ?_))
              (refine g1_ ?_; repeat ((first | refine n1_ fun b_ => ?_ | refine n2_ fun b_ => ?_ | refine Nat1.mk fun q_ hq_ => ?_ | refine em_ fun x_ hx_ => ?_ | refine Elem1.mk fun e_ he_ => ?_); refine g1_ ?_))
              (try (rw [htd]; (refine g0_ ?_; repeat ((first | refine n1_ fun b_ => ?_ | refine n2_ fun b_ => ?_ | refine Nat1.mk fun q_ hq_ => ?_ | refine em_ fun x_ hx_ => ?_ | refine Elem1.mk fun e_ he_ => ?_); refine g0_ ?_))))
              refine ACalls.giveE hp ?_
              rintro bb -
              rw [hm]
              dsimp only
              (refine g0_ ?_; repeat ((first | refine n1_ fun b_ => ?_ | refine n2_ fun b_ => ?_ | refine Nat1.mk fun q_ hq_ => ?_ | refine em_ fun x_ hx_ => ?_ | refine Elem1.mk fun e_ he_ => ?_); refine g0_ ?_))
              refine (hn).use ?_; (refine g0_ ?_; repeat ((first | refine n1_ fun b_ => ?_ | refine n2_ fun b_ => ?_ | refine Nat1.mk fun q_ hq_ => ?_ | refine em_ fun x_ hx_ => ?_ | refine Elem1.mk fun e_ he_ => ?_); refine g0_ ?_))
              (refine g1_ ?_; repeat ((first | refine n1_ fun b_ => ?_ | refine n2_ fun b_ => ?_ | refine Nat1.mk fun q_ hq_ => ?_ | refine em_ fun x_ hx_ => ?_ | refine Elem1.mk fun e_ he_ => ?_); refine g1_ ?_))
              (try refine need.mk (keys_all _) ?_)
              (refine g0_ ?_; repeat ((first | refine n1_ fun b_ => ?_ | refine n2_ fun b_ => ?_ | refine Nat1.mk fun q_ hq_ => ?_ | refine em_ fun x_ hx_ => ?_ | refine Elem1.mk fun e_ he_ => ?_); refine g0_ ?_))
              refine heq.borrow rfl rfl (fun j hj => ?_) ?_
              · match j, hj with
                | 0, _ => exact .refl _
                | 1, _ => exact .nils 4
              (refine g1_ ?_; repeat ((first | refine n1_ fun b_ => ?_ | refine n2_ fun b_ => ?_ | refine Nat1.mk fun q_ hq_ => ?_ | refine em_ fun x_ hx_ => ?_ | refine Elem1.mk fun e_ he_ => ?_); refine g1_ ?_))
              exact .refl _
            · have hln : (List.map encKey (n0 :: n)).length = n.length + 1 := by simp
              simp only [List.nil_append, List.length_cons] at hkl
              refine Pure.of (acalls_of_vc (drawOk W) Tryd.func6 rfl (by decide) (by decide) rfl ?_)
              (refine g0_ ?_; repeat ((first | refine n1_ fun b_ => ?_ | refine n2_ fun b_ => ?_ | refine Nat1.mk fun q_ hq_ => ?_ | refine em_ fun x_ hx_ => ?_ | refine Elem1.mk fun e_ he_ => ?_); refine g0_ ?_))
              refine (hrd).use ?_; (refine g0_ ?_; repeat ((first | refine n1_ fun b_ => ?_ | refine n2_ fun b_ => ?_ | refine Nat1.mk fun q_ hq_ => ?_ | refine em_ fun x_ hx_ => ?_ | refine Elem1.mk fun e_ he_ => ?_); refine g0_ ?_))
              (refine g1_ ?_; repeat ((first | refine n1_ fun b_ => ?_ | refine n2_ fun b_ => ?_ | refine Nat1.mk fun q_ hq_ => ?_ | refine em_ fun x_ hx_ => ?_ | refine Elem1.mk fun e_ he_ => ?_); refine g1_ ?_))
              refine (hst).use ?_; (refine g0_ ?_; repeat ((first | refine n1_ fun b_ => ?_ | refine n2_ fun b_ => ?_ | refine Nat1.mk fun q_ hq_ => ?_ | refine em_ fun x_ hx_ => ?_ | refine Elem1.mk fun e_ he_ => ?_); refine g0_ ?_))
              (refine g1_ ?_; repeat ((first | refine n1_ fun b_ => ?_ | refine n2_ fun b_ => ?_ | refine Nat1.mk fun q_ hq_ => ?_ | refine em_ fun x_ hx_ => ?_ | refine Elem1.mk fun e_ he_ => ?_); refine g1_ ?_))
              (try (rw [htd]; (refine g0_ ?_; repeat ((first | refine n1_ fun b_ => ?_ | refine n2_ fun b_ => ?_ | refine Nat1.mk fun q_ hq_ => ?_ | refine em_ fun x_ hx_ => ?_ | refine Elem1.mk fun e_ he_ => ?_); refine g0_ ?_))))
              refine ACalls.giveE hp ?_
              rintro bb -
              rw [hm]
              dsimp only
              (refine g0_ ?_; repeat ((first | refine n1_ fun b_ => ?_ | refine n2_ fun b_ => ?_ | refine Nat1.mk fun q_ hq_ => ?_ | refine em_ fun x_ hx_ => ?_ | refine Elem1.mk fun e_ he_ => ?_); refine g0_ ?_))
              refine (hn).use ?_; (refine g0_ ?_; repeat ((first | refine n1_ fun b_ => ?_ | refine n2_ fun b_ => ?_ | refine Nat1.mk fun q_ hq_ => ?_ | refine em_ fun x_ hx_ => ?_ | refine Elem1.mk fun e_ he_ => ?_); refine g0_ ?_))
              (refine g1_ ?_; repeat ((first | refine n1_ fun b_ => ?_ | refine n2_ fun b_ => ?_ | refine Nat1.mk fun q_ hq_ => ?_ | refine em_ fun x_ hx_ => ?_ | refine Elem1.mk fun e_ he_ => ?_); refine g1_ ?_))
              (try refine need.mk (keys_all _) ?_)
              (refine g0_ ?_; repeat ((first | refine n1_ fun b_ => ?_ | refine n2_ fun b_ => ?_ | refine Nat1.mk fun q_ hq_ => ?_ | refine em_ fun x_ hx_ => ?_ | refine Elem1.mk fun e_ he_ => ?_); refine g0_ ?_))
              refine heq.borrow rfl rfl (fun j hj => ?_) ?_
              · match j, hj with
                | 0, _ => exact .refl _
                | 1, _ => exact frz_row (l := (n0 :: n).map encKey) (.here _ _ _) _ (by simp)
              (refine g1_ ?_; repeat ((first | refine n1_ fun b_ => ?_ | refine n2_ fun b_ => ?_ | refine Nat1.mk fun q_ hq_ => ?_ | refine em_ fun x_ hx_ => ?_ | refine Elem1.mk fun e_ he_ => ?_); refine g1_ ?_))
              exact .refl _
          · have hlm : (List.map encKey m).length = m.length := List.length_map _
            have hap : List.map encKey (m0 :: m ++ n) = (encKey m0 :: List.map encKey m) ++ List.map encKey n := by rw [List.map_append]; rfl
            rw [hap] at heq hrd
            rcases n with _ | ⟨n0, n⟩
            · have hln : (List.map encKey ([] : List Key)).length = 0 := rfl
              simp only [List.length_append, List.length_cons, List.length_nil] at hkl
              refine Pure.of (acalls_of_vc (drawOk W) Tryd.func6 rfl (by decide) (by decide) rfl ?_)
              (refine g0_ ?_; repeat ((first | refine n1_ fun b_ => ?_ | refine n2_ fun b_ => ?_ | refine Nat1.mk fun q_ hq_ => ?_ | refine em_ fun x_ hx_ => ?_ | refine Elem1.mk fun e_ he_ => ?_); refine g0_ ?_))
              refine (hrd).use ?_; (refine g0_ ?_; repeat ((first | refine n1_ fun b_ => ?_ | refine n2_ fun b_ => ?_ | refine Nat1.mk fun q_ hq_ => ?_ | refine em_ fun x_ hx_ => ?_ | refine Elem1.mk fun e_ he_ => ?_); refine g0_ ?_))
              (refine g1_ ?_; repeat ((first | refine n1_ fun b_ => ?_ | refine n2_ fun b_ => ?_ | refine Nat1.mk fun q_ hq_ => ?_ | refine em_ fun x_ hx_ => ?_ | refine Elem1.mk fun e_ he_ => ?_); refine g1_ ?_))
              refine (hst).use ?_; (refine g0_ ?_; repeat ((first | refine n1_ fun b_ => ?_ | refine n2_ fun b_ => ?_ | refine Nat1.mk fun q_ hq_ => ?_ | refine em_ fun x_ hx_ => ?_ | refine Elem1.mk fun e_ he_ => ?_); refine g0_ ?_))
              (refine g1_ ?_; repeat ((first | refine n1_ fun b_ => ?_ | refine n2_ fun b_ => ?_ | refine Nat1.mk fun q_ hq_ => ?_ | refine em_ fun x_ hx_ => ?_ | refine Elem1.mk fun e_ he_ => ?_); refine g1_ ?_))
              (try (rw [htd]; (refine g0_ ?_; repeat ((first | refine n1_ fun b_ => ?_ | refine n2_ fun b_ => ?_ | refine Nat1.mk fun q_ hq_ => ?_ | refine em_ fun x_ hx_ => ?_ | refine Elem1.mk fun e_ he_ => ?_); refine g0_ ?_))))
              refine ACalls.giveE hp ?_
              rintro bb -
              rw [hm]
              dsimp only
              (refine g0_ ?_; repeat ((first | refine n1_ fun b_ => ?_ | refine n2_ fun b_ => ?_ | refine Nat1.mk fun q_ hq_ => ?_ | refine em_ fun x_ hx_ => ?_ | refine Elem1.mk fun e_ he_ => ?_); refine g0_ ?_))
              refine (hn).use ?_; (refine g0_ ?_; repeat ((first | refine n1_ fun b_ => ?_ | refine n2_ fun b_ => ?_ | refine Nat1.mk fun q_ hq_ => ?_ | refine em_ fun x_ hx_ => ?_ | refine Elem1.mk fun e_ he_ => ?_); refine g0_ ?_))
              (refine g1_ ?_; repeat ((first | refine n1_ fun b_ => ?_ | refine n2_ fun b_ => ?_ | refine Nat1.mk fun q_ hq_ => ?_ | refine em_ fun x_ hx_ => ?_ | refine Elem1.mk fun e_ he_ => ?_); refine g1_ ?_))
              (try refine need.mk (keys_all _) ?_)
              (refine g0_ ?_; repeat ((first | refine n1_ fun b_ => ?_ | refine n2_ fun b_ => ?_ | refine Nat1.mk fun q_ hq_ => ?_ | refine em_ fun x_ hx_ => ?_ | refine Elem1.mk fun e_ he_ => ?_); refine g0_ ?_))
              refine heq.borrow rfl rfl (fun j hj => ?_) ?_
              · match j, hj with
                | 0, _ => exact .refl _
                | 1, _ => exact frz_row (.here _ _ _) _ (rowl0 _ _)
              (refine g1_ ?_; repeat ((first | refine n1_ fun b_ => ?_ | refine n2_ fun b_ => ?_ | refine Nat1.mk fun q_ hq_ => ?_ | refine em_ fun x_ hx_ => ?_ | refine Elem1.mk fun e_ he_ => ?_); refine g1_ ?_))
              exact .refl _
            · have hln : (List.map encKey (n0 :: n)).length = n.length + 1 := by simp
              simp only [List.length_append, List.length_cons] at hkl
              refine Pure.of (acalls_of_vc (drawOk W) Tryd.func6 rfl (by decide) (by decide) rfl ?_)
              (refine g0_ ?_; repeat ((first | refine n1_ fun b_ => ?_ | refine n2_ fun b_ => ?_ | refine Nat1.mk fun q_ hq_ => ?_ | refine em_ fun x_ hx_ => ?_ | refine Elem1.mk fun e_ he_ => ?_); refine g0_ ?_))
              refine (hrd).use ?_; (refine g0_ ?_; repeat ((first | refine n1_ fun b_ => ?_ | refine n2_ fun b_ => ?_ | refine Nat1.mk fun q_ hq_ => ?_ | refine em_ fun x_ hx_ => ?_ | refine Elem1.mk fun e_ he_ => ?_); refine g0_ ?_))
              (refine g1_ ?_; repeat ((first | refine n1_ fun b_ => ?_ | refine n2_ fun b_ => ?_ | refine Nat1.mk fun q_ hq_ => ?_ | refine em_ fun x_ hx_ => ?_ | refine Elem1.mk fun e_ he_ => ?_); refine g1_ ?_))
              refine (hst).use ?_; (refine g0_ ?_; repeat ((first | refine n1_ fun b_ => ?_ | refine n2_ fun b_ => ?_ | refine Nat1.mk fun q_ hq_ => ?_ | refine em_ fun x_ hx_ => ?_ | refine Elem1.mk fun e_ he_ => ?_); refine g0_ ?_))
              (refine g1_ ?_; repeat ((first | refine n1_ fun b_ => ?_ | refine n2_ fun b_ => ?_ | refine Nat1.mk fun q_ hq_ => ?_ | refine em_ fun x_ hx_ => ?_ | refine Elem1.mk fun e_ he_ => ?_); refine g1_ ?_))
              (try (rw [htd]; (refine g0_ ?_; repeat ((first | refine n1_ fun b_ => ?_ | refine n2_ fun b_ => ?_ | refine Nat1.mk fun q_ hq_ => ?_ | refine em_ fun x_ hx_ => ?_ | refine Elem1.mk fun e_ he_ => ?_); refine g0_ ?_))))
              refine ACalls.giveE hp ?_
              rintro bb -
              rw [hm]
              dsimp only
              (refine g0_ ?_; repeat ((first | refine n1_ fun b_ => ?_ | refine n2_ fun b_ => ?_ | refine Nat1.mk fun q_ hq_ => ?_ | refine em_ fun x_ hx_ => ?_ | refine Elem1.mk fun e_ he_ => ?_); refine g0_ ?_))
              refine (hn).use ?_; (refine g0_ ?_; repeat ((first | refine n1_ fun b_ => ?_ | refine n2_ fun b_ => ?_ | refine Nat1.mk fun q_ hq_ => ?_ | refine em_ fun x_ hx_ => ?_ | refine Elem1.mk fun e_ he_ => ?_); refine g0_ ?_))
              (refine g1_ ?_; repeat ((first | refine n1_ fun b_ => ?_ | refine n2_ fun b_ => ?_ | refine Nat1.mk fun q_ hq_ => ?_ | refine em_ fun x_ hx_ => ?_ | refine Elem1.mk fun e_ he_ => ?_); refine g1_ ?_))
              (try refine need.mk (keys_all _) ?_)
              (refine g0_ ?_; repeat ((first | refine n1_ fun b_ => ?_ | refine n2_ fun b_ => ?_ | refine Nat1.mk fun q_ hq_ => ?_ | refine em_ fun x_ hx_ => ?_ | refine Elem1.mk fun e_ he_ => ?_); refine g0_ ?_))
              refine heq.borrow rfl rfl (fun j hj => ?_) ?_
              · match j, hj with
                | 0, _ => exact .refl _
                | 1, _ => exact frz_row (.here _ _ _) _ (rowl _ _ _)
              (refine g1_ ?_; repeat ((first | refine n1_ fun b_ => ?_ | refine n2_ fun b_ => ?_ | refine Nat1.mk fun q_ hq_ => ?_ | refine em_ fun x_ hx_ => ?_ | refine Elem1.mk fun e_ he_ => ?_); refine g1_ ?_))
              exact .refl _
  · have hrd := read_many W b last (by omega)
    refine Pure.of (acalls_of_vc (drawOk W) Tryd.func6 rfl (by decide) (by decide) rfl ?_)
    (refine g0_ ?_; repeat ((first | refine n1_ fun b_ => ?_ | refine n2_ fun b_ => ?_ | refine Nat1.mk fun q_ hq_ => ?_ | refine em_ fun x_ hx_ => ?_ | refine Elem1.mk fun e_ he_ => ?_); refine g0_ ?_))
    refine (hrd).use ?_; (refine g0_ ?_; repeat ((first | refine n1_ fun b_ => ?_ | refine n2_ fun b_ => ?_ | refine Nat1.mk fun q_ hq_ => ?_ | refine em_ fun x_ hx_ => ?_ | refine Elem1.mk fun e_ he_ => ?_); refine g0_ ?_))
    (refine g1_ ?_; repeat ((first | refine n1_ fun b_ => ?_ | refine n2_ fun b_ => ?_ | refine Nat1.mk fun q_ hq_ => ?_ | refine em_ fun x_ hx_ => ?_ | refine Elem1.mk fun e_ he_ => ?_); refine g1_ ?_))
    refine (hst).use ?_; (refine g0_ ?_; repeat ((first | refine n1_ fun b_ => ?_ | refine n2_ fun b_ => ?_ | refine Nat1.mk fun q_ hq_ => ?_ | refine em_ fun x_ hx_ => ?_ | refine Elem1.mk fun e_ he_ => ?_); refine g0_ ?_))
    (refine g1_ ?_; repeat ((first | refine n1_ fun b_ => ?_ | refine n2_ fun b_ => ?_ | refine Nat1.mk fun q_ hq_ => ?_ | refine em_ fun x_ hx_ => ?_ | refine Elem1.mk fun e_ he_ => ?_); refine g1_ ?_))
    refine (hst).use ?_; (refine g0_ ?_; repeat ((first | refine n1_ fun b_ => ?_ | refine n2_ fun b_ => ?_ | refine Nat1.mk fun q_ hq_ => ?_ | refine em_ fun x_ hx_ => ?_ | refine Elem1.mk fun e_ he_ => ?_); refine g0_ ?_))
    exact .refl _
end Go.Eng.YtjkdkofpabocmaaDoor
end
