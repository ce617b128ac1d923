/- Texts put together: Utf8, Builder, BuilderW, Width, Text, Text2, Text5, WidthLaw, Text3, Runes, Text4, Text6, CleanL, LibOk. -/
import Derived.Test.YtbaokhehnilneaaGreatDoorME3
import Derived.Test.YtbaokhehnilneaaGreatDoorMH1
import Derived.Lib.TrimU
import Derived.Shelf.Unicode.DecodeLastEight
import Derived.Lib.RuneBytes
import Derived.Lib.TrimUEq
import Derived.Lib.Repeat
import Derived.Lib.MapLaws
/- The library's readers of UTF-8, by the kit's contracts. -/
section
namespace Go.Eng.YtbaokhehnilneaaGreatDoor
open Go Go.Eng Go.Proofs
variable (W : World)
/-- The first rune of bytes, and how many it takes. -/
def dec (s : List UInt8) : Nat × Nat := Lib.decodeGo ⟨s.toArray⟩
abbrev Tabs (W : World) : Prop := Lib.Utf8Tabs 4 5 W
theorem tabs_at {W w : World} (h : Tabs W) (hs : ∀ b, b < W.heap.size → w.heap[b]? = W.heap[b]?) : Tabs w := by
  have lt : ∀ b o v, W.cell? ⟨b, o, none⟩ = some v → b < W.heap.size := by
    intro b o v h
    simp only [World.cell?] at h
    cases hb : W.heap[b]? with
    | none => simp [hb] at h
    | some o => exact (Array.getElem?_eq_some_iff.1 hb).1
  have cell : ∀ b o v, W.cell? ⟨b, o, none⟩ = some v → w.cell? ⟨b, o, none⟩ = some v := fun b o v h => by
    have := hs b (lt b o v h)
    simpa only [World.cell?, this] using h
  exact ⟨fun c hc => cell _ _ _ (h.1 c hc), fun i hi => ⟨cell _ _ _ (h.2 i hi).1, cell _ _ _ (h.2 i hi).2⟩⟩
theorem decodeRune_ok (hT : Tabs W) (s : List UInt8) : Pure Tryz.prog W 47 [.str s] (.tup [.int .i32 (dec s).1, .int .i64 (dec s).2]) :=
  Pure.of_below Tryz.func47 rfl (by decide) rfl rfl fun w _ hw => Tryz.utf8_DecodeRuneInString ⟨s.toArray⟩ w (tabs_at hT hw)
theorem dec_pos (s : List UInt8) (h : s ≠ []) : 1 ≤ (dec s).2 := by
  have hn : ¬ (⟨s.toArray⟩ : ByteArray).size = 0 := by simpa [ByteArray.size] using h
  simp only [dec, Lib.decodeGo, if_neg hn]
  exact Lib.width_pos _ _
end Go.Eng.YtbaokhehnilneaaGreatDoor
end

/- Runes as bytes; strings.Builder. -/
section
namespace Go.Eng.YtbaokhehnilneaaGreatDoor
open Go Go.Eng Go.Proofs
variable (W : World)
set_option linter.unusedSimpArgs false
set_option maxRecDepth 100000
set_option linter.unusedVariables false
set_option maxHeartbeats 4000000
def byteP (c : UInt8) : PV := .int .u8 c.toNat
/-- A buffer: nil, or a row of the call's own. -/
def bufV (c : Nat) : List UInt8 → PV
  | [] => .nils
  | x :: l => .bsl 5 c (l.length + 1)
def bufM (c : Nat) : List UInt8 → Mem
  | [] => []
  | x :: l => [⟨c, .row 1 ((x :: l).map byteP) 0⟩]
/-- A buffer that holds these bytes. -/
abbrev GivesB (l : List UInt8) : PV → Mem → Prop := Gives (fun c : Nat => .bsl 5 c l.length) (fun c => [⟨c, .row 1 (l.map byteP) 0⟩]) (fun _ => True)
/-- A pointer held against nil, and against itself. -/
theorem eql_nilptr {t e : TypeId} {xo yo : Operand} (ht : Tryz.prog.underlying t = some (.pointer e)) : EqLaw Tryz.prog .eql t xo yo (.lit (.pointer none)) (.lit (.pointer none)) true := by
  refine ⟨fun K w u v h1 h2 => ?_⟩
  cases h1; cases h2
  have hp : Tryz.prog.pointee t = e := by simp [Program.pointee, ht]
  have := run_eql_pointer_nil (P := Tryz.prog) w t none (by rw [hp]; exact ht)
  have e0 : (eqGuard .eql t xo yo (.pointer none) (.pointer none)).run Tryz.prog w = .ok () w := by simp [eqGuard]
  rw [Sem.run_bind, e0, Result.andThen_ok, this]; rfl
theorem eql_ptrnil {t e e' n b : TypeId} {xo yo : Operand} (ht : Tryz.prog.underlying t = some (.pointer e)) : EqLaw Tryz.prog .eql t xo yo (.tpt e' n b) (.lit (.pointer none)) false := by
  refine ⟨fun K w u v h1 h2 => ?_⟩
  cases h1; cases h2
  have hp : Tryz.prog.pointee t = e := by simp [Program.pointee, ht]
  have := run_eql_pointer_nil (P := Tryz.prog) w t (some ⟨b, 0, none⟩) (by rw [hp]; exact ht)
  have e0 : (eqGuard .eql t xo yo (.pointer (some ⟨b, 0, none⟩)) (.pointer none)).run Tryz.prog w = .ok () w := by simp [eqGuard]
  rw [Sem.run_bind, e0, Result.andThen_ok, this]; rfl
theorem neq_ptr {t e e' n b : TypeId} {xo yo : Operand} {j : TypeInfo} (ht : Tryz.prog.underlying t = some (.pointer e)) (hj : Tryz.prog.info? e = some j) : EqLaw Tryz.prog .neq t xo yo (.tpt e' n b) (.tpt e' n b) false := by
  refine ⟨fun K w u v h1 h2 => ?_⟩
  cases h1; cases h2
  have := Lib.run_neq_ptr_same (P := Tryz.prog) w ⟨b, 0, none⟩ ht hj
  have e0 : (eqGuard .neq t xo yo (.pointer (some ⟨b, 0, none⟩)) (.pointer (some ⟨b, 0, none⟩))).run Tryz.prog w = .ok () w := by simp [eqGuard]
  rw [Sem.run_bind, e0, Result.andThen_ok, this]
theorem noEscape (x : PV) : ExtLaw Tryz.prog 60 [x] x := by
  refine ⟨fun K w vs hl hr => ?_⟩
  obtain ⟨v, rfl⟩ := List.length_eq_one_iff.1 hl.symm
  have h0 := hr 0 (by simp)
  refine ⟨v, ?_, h0⟩
  show (callFunc 60 #[v]).run Tryz.prog w = _
  rw [run_callFunc_extern Tryz.func60 (by kernel_rfl) (by kernel_rfl) (by kernel_rfl) (e := Extern.AbiNoEscape.same) (by kernel_rfl)]
  rfl
/-- A builder: used or fresh; what it holds. -/
def bldV (b : Nat) : PV := .tpt 66 2 b
def bldM0 (b : Nat) : Mem := [⟨b, .row 2 [.agg [.lit (.pointer none), .nils]] 0⟩]
def bldM1 (b : Nat) : Mem := [⟨b, .row 2 [.agg [bldV b, .nils]] 0⟩]
def bldM (b c : Nat) (l : List UInt8) : Mem := [⟨b, .row 2 [.agg [bldV b, .bsl 5 c l.length]] 0⟩, ⟨c, .row 1 (l.map byteP) 0⟩]
theorem copyCheck0 (b : Nat) : ACalls Tryz.prog W 44 [.tpt 66 2 b] (bldM0 b) (Gives (fun _ : Unit => .tup []) (fun _ => bldM1 b) (fun _ => True)) := by
  refine acalls_of_vc (drawOk W) Tryz.func44 rfl (by decide) (by decide) rfl ?_
  (refine g0_ ?_; repeat ((first | refine n1_ fun b_ => ?_ | refine n2_ fun b_ => ?_ | refine n3_ fun b_ pre_ => ?_ | refine Nat1.mk fun q_ hq_ => ?_ | refine em_ fun x_ hx_ => ?_ | refine Elem1.mk fun e_ he_ => ?_); refine g0_ ?_))
  refine ⟨_, eql_nilptr Tryz.underlying63, ?_⟩
  (refine g0_ ?_; repeat ((first | refine n1_ fun b_ => ?_ | refine n2_ fun b_ => ?_ | refine n3_ fun b_ pre_ => ?_ | refine Nat1.mk fun q_ hq_ => ?_ | refine em_ fun x_ hx_ => ?_ | refine Elem1.mk fun e_ he_ => ?_); refine g0_ ?_))
  refine ⟨_, noEscape _, ?_⟩
  (refine g0_ ?_; repeat ((first | refine n1_ fun b_ => ?_ | refine n2_ fun b_ => ?_ | refine n3_ fun b_ pre_ => ?_ | refine Nat1.mk fun q_ hq_ => ?_ | refine em_ fun x_ hx_ => ?_ | refine Elem1.mk fun e_ he_ => ?_); refine g0_ ?_))
  exact ⟨(), trivial, rfl, wkMem.rfl'⟩
theorem copyCheck1 (b : Nat) : ACalls Tryz.prog W 44 [.tpt 66 2 b] (bldM1 b) (Gives (fun _ : Unit => .tup []) (fun _ => bldM1 b) (fun _ => True)) := by
  refine acalls_of_vc (drawOk W) Tryz.func44 rfl (by decide) (by decide) rfl ?_
  (refine g0_ ?_; repeat ((first | refine n1_ fun b_ => ?_ | refine n2_ fun b_ => ?_ | refine n3_ fun b_ pre_ => ?_ | refine Nat1.mk fun q_ hq_ => ?_ | refine em_ fun x_ hx_ => ?_ | refine Elem1.mk fun e_ he_ => ?_); refine g0_ ?_))
  refine ⟨_, eql_ptrnil Tryz.underlying63, ?_⟩
  (refine g0_ ?_; repeat ((first | refine n1_ fun b_ => ?_ | refine n2_ fun b_ => ?_ | refine n3_ fun b_ pre_ => ?_ | refine Nat1.mk fun q_ hq_ => ?_ | refine em_ fun x_ hx_ => ?_ | refine Elem1.mk fun e_ he_ => ?_); refine g0_ ?_))
  refine ⟨_, neq_ptr Tryz.underlying63 (show Tryz.prog.info? 66 = some ((Tryz.prog.info? 66).getD default) by kernel_rfl), ?_⟩
  (refine g0_ ?_; repeat ((first | refine n1_ fun b_ => ?_ | refine n2_ fun b_ => ?_ | refine n3_ fun b_ pre_ => ?_ | refine Nat1.mk fun q_ hq_ => ?_ | refine em_ fun x_ hx_ => ?_ | refine Elem1.mk fun e_ he_ => ?_); refine g0_ ?_))
  exact ⟨(), trivial, rfl, wkMem.rfl'⟩
theorem copyCheck2 (b c n : Nat) : ACalls Tryz.prog W 44 [.tpt 66 2 b] [⟨b, .row 2 [.agg [.tpt 66 2 b, .bsl 5 c n]] 0⟩] (Gives (fun _ : Unit => .tup []) (fun _ => [⟨b, .row 2 [.agg [.tpt 66 2 b, .bsl 5 c n]] 0⟩]) (fun _ => True)) := by
  refine acalls_of_vc (drawOk W) Tryz.func44 rfl (by decide) (by decide) rfl ?_
  (refine g0_ ?_; repeat ((first | refine n1_ fun b_ => ?_ | refine n2_ fun b_ => ?_ | refine n3_ fun b_ pre_ => ?_ | refine Nat1.mk fun q_ hq_ => ?_ | refine em_ fun x_ hx_ => ?_ | refine Elem1.mk fun e_ he_ => ?_); refine g0_ ?_))
  refine ⟨_, eql_ptrnil Tryz.underlying63, ?_⟩
  (refine g0_ ?_; repeat ((first | refine n1_ fun b_ => ?_ | refine n2_ fun b_ => ?_ | refine n3_ fun b_ pre_ => ?_ | refine Nat1.mk fun q_ hq_ => ?_ | refine em_ fun x_ hx_ => ?_ | refine Elem1.mk fun e_ he_ => ?_); refine g0_ ?_))
  refine ⟨_, neq_ptr Tryz.underlying63 (show Tryz.prog.info? 66 = some ((Tryz.prog.info? 66).getD default) by kernel_rfl), ?_⟩
  (refine g0_ ?_; repeat ((first | refine n1_ fun b_ => ?_ | refine n2_ fun b_ => ?_ | refine n3_ fun b_ pre_ => ?_ | refine Nat1.mk fun q_ hq_ => ?_ | refine em_ fun x_ hx_ => ?_ | refine Elem1.mk fun e_ he_ => ?_); refine g0_ ?_))
  exact ⟨(), trivial, rfl, wkMem.rfl'⟩
/-- What a writing method makes of a builder. -/
abbrev GivesW (b : Nat) (n : Int) (l : List UInt8) : PV → Mem → Prop := Gives (fun _ : Nat => .tup [.int .i64 n, .lit .nilIface]) (fun c => bldM b c l) (fun _ => True)
/-- A builder under way. -/
def bldS (b c : Nat) : List UInt8 → Mem
  | [] => bldM0 b
  | x :: l => bldM b c (x :: l)
theorem string0 (b : Nat) : ACalls Tryz.prog W 31 [.tpt 66 2 b] (bldM0 b) (Gives (fun _ : Unit => .str []) (fun _ => []) (fun _ => True)) := by
  refine acalls_of_vc (drawOk W) Tryz.func31 rfl (by decide) (by decide) rfl ?_
  (refine g0_ ?_; repeat ((first | refine n1_ fun b_ => ?_ | refine n2_ fun b_ => ?_ | refine n3_ fun b_ pre_ => ?_ | refine Nat1.mk fun q_ hq_ => ?_ | refine em_ fun x_ hx_ => ?_ | refine Elem1.mk fun e_ he_ => ?_); refine g0_ ?_))
  refine Draws.head ⟨10, by decide +kernel, ?_⟩; (refine g0_ ?_; repeat ((first | refine n1_ fun b_ => ?_ | refine n2_ fun b_ => ?_ | refine n3_ fun b_ pre_ => ?_ | refine Nat1.mk fun q_ hq_ => ?_ | refine em_ fun x_ hx_ => ?_ | refine Elem1.mk fun e_ he_ => ?_); refine g0_ ?_))
  exact ⟨(), trivial, rfl, wkMem.nil _⟩
theorem string2 (b c : Nat) (l : List UInt8) (h0 : l ≠ []) (hl : l.length ≤ 140737488355328) : ACalls Tryz.prog W 31 [.tpt 66 2 b] (bldM b c l) (Gives (fun _ : Unit => .str l) (fun _ => []) (fun _ => True)) := by
  have hpos : 0 < l.length := List.length_pos_iff.2 h0
  refine acalls_of_vc (drawOk W) Tryz.func31 rfl (by decide) (by decide) rfl ?_
  (refine g0_ ?_; repeat ((first | refine n1_ fun b_ => ?_ | refine n2_ fun b_ => ?_ | refine n3_ fun b_ pre_ => ?_ | refine Nat1.mk fun q_ hq_ => ?_ | refine em_ fun x_ hx_ => ?_ | refine Elem1.mk fun e_ he_ => ?_); refine g0_ ?_))
  refine Draws.head ⟨10, by decide +kernel, ?_⟩; (refine g0_ ?_; repeat ((first | refine n1_ fun b_ => ?_ | refine n2_ fun b_ => ?_ | refine n3_ fun b_ pre_ => ?_ | refine Nat1.mk fun q_ hq_ => ?_ | refine em_ fun x_ hx_ => ?_ | refine Elem1.mk fun e_ he_ => ?_); refine g0_ ?_))
  refine StrAt.mk (l.map byteP) 0 _ l (.there _ _ _ _ _ (.here _ _ _)) rfl h0 (by omega) (show ptrTo Tryz.prog 87 = some 5 by kernel_rfl) (show Tryz.prog.underlying 5 = some (.int .u8) by kernel_rfl) (show Tryz.prog.cellsOf 5 = 1 by kernel_rfl) (by rw [List.take_of_length_le (by simp)]; rfl) ?_
  (refine g0_ ?_; repeat ((first | refine n1_ fun b_ => ?_ | refine n2_ fun b_ => ?_ | refine n3_ fun b_ pre_ => ?_ | refine Nat1.mk fun q_ hq_ => ?_ | refine em_ fun x_ hx_ => ?_ | refine Elem1.mk fun e_ he_ => ?_); refine g0_ ?_))
  exact ⟨(), trivial, rfl, wkMem.nil _⟩
/-- The same bytes as the document's conversion has them. -/
theorem enc_utf8 (r : Int) : (Utf8.encode r).data.toList = Lib.encodeRune r := by
  by_cases hv : Utf8.valid r = true
  · have h := hv
    simp only [Utf8.valid, Bool.or_eq_true, Bool.and_eq_true, decide_eq_true_eq] at h
    obtain ⟨n, rfl⟩ := Int.eq_ofNat_of_zero_le (show 0 ≤ r by omega)
    unfold Utf8.encode Lib.encodeRune
    simp only [hv, if_true, Int.toNat_natCast]
    by_cases h1 : n < 128
    · rw [if_pos h1, Lib.encodeRuneZ_one (by omega) (by omega)]
      rfl
    rw [if_neg h1]
    by_cases h2 : n < 2048
    · rw [if_pos h2, Lib.encodeRuneZ_two (by omega) (by omega)]
      simp only [List.map_cons, List.map_nil]
      rw [show (192 + (n : Int) / 64).toNat = 192 + n / 64 by omega, show (128 + (n : Int) % 64).toNat = 128 + n % 64 by omega]
    rw [if_neg h2]
    by_cases h3 : n < 65536
    · rw [if_pos h3, Lib.encodeRuneZ_three (by omega)]
      simp only [List.map_cons, List.map_nil]
      rw [show (224 + (n : Int) / 4096).toNat = 224 + n / 4096 by omega, show (128 + (n : Int) / 64 % 64).toNat = 128 + n / 64 % 64 by omega, show (128 + (n : Int) % 64).toNat = 128 + n % 64 by omega]
    rw [if_neg h3, Lib.encodeRuneZ_four (by omega) (by omega)]
    simp only [List.map_cons, List.map_nil]
    rw [show (240 + (n : Int) / 262144).toNat = 240 + n / 262144 by omega, show (128 + (n : Int) / 4096 % 64).toNat = 128 + n / 4096 % 64 by omega, show (128 + (n : Int) / 64 % 64).toNat = 128 + n / 64 % 64 by omega, show (128 + (n : Int) % 64).toNat = 128 + n % 64 by omega]
  · have h : r < 0 ∨ (55296 ≤ r ∧ r ≤ 57343) ∨ 1114111 < r := by
      simp only [Utf8.valid, Bool.or_eq_true, Bool.and_eq_true, decide_eq_true_eq] at hv
      omega
    unfold Utf8.encode Lib.encodeRune
    rw [if_neg hv, Lib.encodeRuneZ_bad h]
    rfl
end Go.Eng.YtbaokhehnilneaaGreatDoor
end

/- strings.Builder: bytes and texts written. -/
section
namespace Go.Eng.YtbaokhehnilneaaGreatDoor
open Go Go.Eng Go.Proofs
variable (W : World)
set_option linter.unusedSimpArgs false
set_option maxRecDepth 100000
set_option linter.unusedVariables false
set_option maxHeartbeats 4000000
theorem byteP_map (s : List UInt8) : (s.map fun c : UInt8 => PV.int .u8 c.toNat) = s.map byteP := rfl
theorem writeString0 (b : Nat) (s : List UInt8) (h0 : s ≠ []) (hs : s.length ≤ 70368744177664) :
    ACalls Tryz.prog W 30 [.tpt 66 2 b, .str s] (bldM0 b) (GivesW b s.length s) := by
  obtain ⟨x, s, rfl⟩ : ∃ x t, s = x :: t := by cases s with | nil => exact absurd rfl h0 | cons x t => exact ⟨_, _, rfl⟩
  simp only [List.length_cons] at hs
  refine acalls_of_vc (drawOk W) Tryz.func30 rfl (by decide) (by decide) rfl ?_
  (refine g0_ ?_; repeat ((first | refine n1_ fun b_ => ?_ | refine n2_ fun b_ => ?_); refine g0_ ?_))
  refine ACalls.lend (copyCheck0 W b) (r := []) (by simp) ?_
  rintro _ -
  (refine g0_ ?_; repeat ((first | refine n1_ fun b_ => ?_ | refine n2_ fun b_ => ?_); refine g0_ ?_))
  refine ⟨b_, trivial, rfl, ?_⟩
  simp only [List.length_map]
  (first | exact ⟨_, .refl _⟩ | exact wkMem.rfl' | exact ⟨_, .swap _ _ _⟩ | (repeat (first | exact wkMem.nil _ | exact wkMem.rfl' | exact wk_snoc _ _ _ | exact wk_fam (by assumption) _ _ _ | exact wk_famN (by assumption) _ _ _ | (apply wkMem.cons; (case' hl => (repeat (first | exact .here _ _ _ | apply Look.there)))) | apply wkMem.skip)))
theorem writeString2 (b c : Nat) (l : List UInt8) (h0 : l ≠ []) (s : List UInt8) (hs : s.length ≤ 70368744177664) (hl : l.length ≤ 70368744177664) :
    ACalls Tryz.prog W 30 [.tpt 66 2 b, .str s] (bldM b c l) (GivesW b s.length (l ++ s)) := by
  refine acalls_of_vc (drawOk W) Tryz.func30 rfl (by decide) (by decide) rfl ?_
  (refine g0_ ?_; repeat ((first | refine n1_ fun b_ => ?_ | refine n2_ fun b_ => ?_); refine g0_ ?_))
  refine ACalls.lend (copyCheck2 W b c l.length) (r := [⟨c, .row 1 (l.map byteP) 0⟩]) (.refl _) ?_
  rintro _ -
  (refine g0_ ?_; repeat ((first | refine n1_ fun b_ => ?_ | refine n2_ fun b_ => ?_); refine g0_ ?_))
  refine ⟨b_, trivial, rfl, ?_⟩
  rw [List.length_map, byteP_map, ← List.map_append, ← List.length_append]
  exact wkMem.rfl'
end Go.Eng.YtbaokhehnilneaaGreatDoor
end

/- Package text's widths. -/
section
namespace Go.Eng.YtbaokhehnilneaaGreatDoor
open Go Go.Eng Go.Proofs
variable (W : World)
set_option linter.unusedSimpArgs false
set_option maxRecDepth 100000
set_option linter.unusedVariables false

/-! ### Spans -/
def encSpan (p : Int × Int) : PV := .agg [.int .i32 p.1, .int .i32 p.2]
def withinL (r : Int) (l : List (Int × Int)) : Bool := l.any fun s => decide (s.1 ≤ r) && decide (r ≤ s.2)
theorem withinL_cons (r : Int) (p : Int × Int) (l : List (Int × Int)) : withinL r (p :: l) = (decide (p.1 ≤ r) && decide (r ≤ p.2) || withinL r l) := rfl
theorem within_ok (r : Int) (l : List (Int × Int)) (hl : (l.length : Int) ≤ 9223372036854775806) : Pure Tryz.prog W 71 [.int .i32 r, .sl 2 (l.map encSpan)] (.bool (withinL r l)) := by
  refine Pure.of (acalls_of_vc (drawOk W) Tryz.func71 rfl (by decide) (by decide) rfl ?_)
  (refine g0_ ?_; repeat ((first | refine n1_ fun b_ => ?_ | refine n2_ fun b_ => ?_ | refine n3_ fun b_ pre_ => ?_ | refine Nat1.mk fun q_ hq_ => ?_ | refine em_ fun x_ hx_ => ?_ | refine Elem1.mk fun e_ he_ => ?_); refine g0_ ?_))
  refine' loopI (α := Nat) (fun i => [(9, .int .i64 i)]) [(0, _), (7, _), (8, _)] (fun i => []) (fun i => i ≤ l.length ∧ withinL r (l.drop i) = withinL r l) (fun i => l.length - i) 0 ?_ ?_
  · exact ⟨Nat.zero_le _, rfl⟩
  rintro i ⟨hi, hw⟩
  (refine g0_ ?_; repeat ((first | refine n1_ fun b_ => ?_ | refine n2_ fun b_ => ?_ | refine n3_ fun b_ pre_ => ?_ | refine Nat1.mk fun q_ hq_ => ?_ | refine em_ fun x_ hx_ => ?_ | refine Elem1.mk fun e_ he_ => ?_); refine g0_ ?_))
  refine brec ?_; intro c_ hc; (try rw [hc]); cases c_ <;> replace hc := nm_ hc
  · simp only [List.length_map] at hc
    (refine g0_ ?_; repeat ((first | refine n1_ fun b_ => ?_ | refine n2_ fun b_ => ?_ | refine n3_ fun b_ pre_ => ?_ | refine Nat1.mk fun q_ hq_ => ?_ | refine em_ fun x_ hx_ => ?_ | refine Elem1.mk fun e_ he_ => ?_); refine g0_ ?_))
    rw [← hw, List.drop_of_length_le (by omega)]
    exact .refl _
  · simp only [List.length_map] at hc
    (refine g0_ ?_; repeat ((first | refine n1_ fun b_ => ?_ | refine n2_ fun b_ => ?_ | refine n3_ fun b_ pre_ => ?_ | refine Nat1.mk fun q_ hq_ => ?_ | refine em_ fun x_ hx_ => ?_ | refine Elem1.mk fun e_ he_ => ?_); refine g0_ ?_))
    have hlt := lt_of_at hx_
    rw [drop_cons_of hx_, withinL_cons] at hw
    refine brec ?_; intro c_ h1; (try rw [h1]); cases c_ <;> replace h1 := nm_ h1
    · rw [show (decide (x_.1 ≤ r) && decide (r ≤ x_.2)) = false by rw [Bool.eq_false_iff]; simpa using h1] at hw
      (refine g0_ ?_; repeat ((first | refine n1_ fun b_ => ?_ | refine n2_ fun b_ => ?_ | refine n3_ fun b_ pre_ => ?_ | refine Nat1.mk fun q_ hq_ => ?_ | refine em_ fun x_ hx_ => ?_ | refine Elem1.mk fun e_ he_ => ?_); refine g0_ ?_))
      refine nx_ (i + 1) ?_ ?_
      · exact ⟨hlt, by simpa using hw⟩
      · omega
    · (refine g0_ ?_; repeat ((first | refine n1_ fun b_ => ?_ | refine n2_ fun b_ => ?_ | refine n3_ fun b_ pre_ => ?_ | refine Nat1.mk fun q_ hq_ => ?_ | refine em_ fun x_ hx_ => ?_ | refine Elem1.mk fun e_ he_ => ?_); refine g0_ ?_))
      rw [← hw, decide_eq_true h1.1, decide_eq_true h1.2]
      exact .refl _
def noneS : List (Int × Int) := [(0, 31), (127, 159), (768, 879), (8203, 8207), (8232, 8238), (8400, 8447), (55296, 57343), (65024, 65039), (65279, 65279)]
def wideS : List (Int × Int) := [(4352, 4447), (11904, 12350), (12353, 13311), (13312, 19903), (19968, 40959), (40960, 42191), (44032, 55203), (63744, 64255), (65072, 65135), (65280, 65376), (65504, 65510), (127744, 128591), (129280, 129535), (131072, 262141)]
theorem none_ok (r : Int) : Pure Tryz.prog W 49 [.int .i32 r] (.bool (withinL r noneS)) := by
  refine Pure.of (acalls_of_vc (drawOk W) Tryz.func49 rfl (by decide) (by decide) rfl ?_)
  (refine g0_ ?_; repeat ((first | refine n1_ fun b_ => ?_ | refine n2_ fun b_ => ?_ | refine n3_ fun b_ pre_ => ?_ | refine Nat1.mk fun q_ hq_ => ?_ | refine em_ fun x_ hx_ => ?_ | refine Elem1.mk fun e_ he_ => ?_); refine g0_ ?_))
  refine .inl ?_
  (refine g0_ ?_; repeat ((first | refine n1_ fun b_ => ?_ | refine n2_ fun b_ => ?_ | refine n3_ fun b_ pre_ => ?_ | refine Nat1.mk fun q_ hq_ => ?_ | refine em_ fun x_ hx_ => ?_ | refine Elem1.mk fun e_ he_ => ?_); refine g0_ ?_))
  refine (within_ok W r noneS (by decide)).use ?_; (refine g0_ ?_; repeat ((first | refine n1_ fun b_ => ?_ | refine n2_ fun b_ => ?_ | refine n3_ fun b_ pre_ => ?_ | refine Nat1.mk fun q_ hq_ => ?_ | refine em_ fun x_ hx_ => ?_ | refine Elem1.mk fun e_ he_ => ?_); refine g0_ ?_))
  exact .refl _
theorem wideR_ok (r : Int) : Pure Tryz.prog W 50 [.int .i32 r] (.bool (withinL r wideS)) := by
  refine Pure.of (acalls_of_vc (drawOk W) Tryz.func50 rfl (by decide) (by decide) rfl ?_)
  (refine g0_ ?_; repeat ((first | refine n1_ fun b_ => ?_ | refine n2_ fun b_ => ?_ | refine n3_ fun b_ pre_ => ?_ | refine Nat1.mk fun q_ hq_ => ?_ | refine em_ fun x_ hx_ => ?_ | refine Elem1.mk fun e_ he_ => ?_); refine g0_ ?_))
  refine .inl ?_
  (refine g0_ ?_; repeat ((first | refine n1_ fun b_ => ?_ | refine n2_ fun b_ => ?_ | refine n3_ fun b_ pre_ => ?_ | refine Nat1.mk fun q_ hq_ => ?_ | refine em_ fun x_ hx_ => ?_ | refine Elem1.mk fun e_ he_ => ?_); refine g0_ ?_))
  refine (within_ok W r wideS (by decide)).use ?_; (refine g0_ ?_; repeat ((first | refine n1_ fun b_ => ?_ | refine n2_ fun b_ => ?_ | refine n3_ fun b_ pre_ => ?_ | refine Nat1.mk fun q_ hq_ => ?_ | refine em_ fun x_ hx_ => ?_ | refine Elem1.mk fun e_ he_ => ?_); refine g0_ ?_))
  exact .refl _
/-- How many cells a rune takes. -/
def widthL (r : Int) : Nat := if r < 0 ∨ 1114111 < r ∨ withinL r noneS = true then 0 else if withinL r wideS = true then 2 else 1
theorem width_ok (r : Int) : Pure Tryz.prog W 36 [.int .i32 r] (.int .i64 (widthL r)) := by
  refine Pure.of (acalls_of_vc (drawOk W) Tryz.func36 rfl (by decide) (by decide) rfl ?_)
  (refine g0_ ?_; repeat ((first | refine n1_ fun b_ => ?_ | refine n2_ fun b_ => ?_ | refine n3_ fun b_ pre_ => ?_ | refine Nat1.mk fun q_ hq_ => ?_ | refine em_ fun x_ hx_ => ?_ | refine Elem1.mk fun e_ he_ => ?_); refine g0_ ?_))
  refine brec ?_; intro c_ h1; (try rw [h1]); cases c_ <;> replace h1 := nm_ h1
  · have h2 : ¬ r < 0 := by omega
    have h3 : ¬ 1114111 < r := by omega
    (refine g0_ ?_; repeat ((first | refine n1_ fun b_ => ?_ | refine n2_ fun b_ => ?_ | refine n3_ fun b_ pre_ => ?_ | refine Nat1.mk fun q_ hq_ => ?_ | refine em_ fun x_ hx_ => ?_ | refine Elem1.mk fun e_ he_ => ?_); refine g0_ ?_))
    refine (none_ok W r).use ?_; (refine g0_ ?_; repeat ((first | refine n1_ fun b_ => ?_ | refine n2_ fun b_ => ?_ | refine n3_ fun b_ pre_ => ?_ | refine Nat1.mk fun q_ hq_ => ?_ | refine em_ fun x_ hx_ => ?_ | refine Elem1.mk fun e_ he_ => ?_); refine g0_ ?_))
    refine brec ?_; intro c_ h4; (try rw [h4]); cases c_ <;> replace h4 := nm_ h4
    · (refine g0_ ?_; repeat ((first | refine n1_ fun b_ => ?_ | refine n2_ fun b_ => ?_ | refine n3_ fun b_ pre_ => ?_ | refine Nat1.mk fun q_ hq_ => ?_ | refine em_ fun x_ hx_ => ?_ | refine Elem1.mk fun e_ he_ => ?_); refine g0_ ?_))
      refine (wideR_ok W r).use ?_; (refine g0_ ?_; repeat ((first | refine n1_ fun b_ => ?_ | refine n2_ fun b_ => ?_ | refine n3_ fun b_ pre_ => ?_ | refine Nat1.mk fun q_ hq_ => ?_ | refine em_ fun x_ hx_ => ?_ | refine Elem1.mk fun e_ he_ => ?_); refine g0_ ?_))
      refine brec ?_; intro c_ h5; (try rw [h5]); cases c_ <;> replace h5 := nm_ h5
      · (refine g0_ ?_; repeat ((first | refine n1_ fun b_ => ?_ | refine n2_ fun b_ => ?_ | refine n3_ fun b_ pre_ => ?_ | refine Nat1.mk fun q_ hq_ => ?_ | refine em_ fun x_ hx_ => ?_ | refine Elem1.mk fun e_ he_ => ?_); refine g0_ ?_))
        rw [show widthL r = 1 by simp [widthL, h2, h3, h4, h5]]
        exact .refl _
      · (refine g0_ ?_; repeat ((first | refine n1_ fun b_ => ?_ | refine n2_ fun b_ => ?_ | refine n3_ fun b_ pre_ => ?_ | refine Nat1.mk fun q_ hq_ => ?_ | refine em_ fun x_ hx_ => ?_ | refine Elem1.mk fun e_ he_ => ?_); refine g0_ ?_))
        rw [show widthL r = 2 by simp [widthL, h2, h3, h4, h5]]
        exact .refl _
    · (refine g0_ ?_; repeat ((first | refine n1_ fun b_ => ?_ | refine n2_ fun b_ => ?_ | refine n3_ fun b_ pre_ => ?_ | refine Nat1.mk fun q_ hq_ => ?_ | refine em_ fun x_ hx_ => ?_ | refine Elem1.mk fun e_ he_ => ?_); refine g0_ ?_))
      rw [show widthL r = 0 by simp [widthL, h4]]
      exact .refl _
  · (refine g0_ ?_; repeat ((first | refine n1_ fun b_ => ?_ | refine n2_ fun b_ => ?_ | refine n3_ fun b_ pre_ => ?_ | refine Nat1.mk fun q_ hq_ => ?_ | refine em_ fun x_ hx_ => ?_ | refine Elem1.mk fun e_ he_ => ?_); refine g0_ ?_))
    rw [show widthL r = 0 by rcases h1 with h1 | h1 <;> simp [widthL, h1]]
    exact .refl _
end Go.Eng.YtbaokhehnilneaaGreatDoor
end

/- Package text: the first rune. -/
section
namespace Go.Eng.YtbaokhehnilneaaGreatDoor
open Go Go.Eng Go.Proofs
variable (W : World)
set_option linter.unusedSimpArgs false
set_option maxRecDepth 100000
set_option linter.unusedVariables false

/-! ### The first rune -/
def nextL (s : List UInt8) : Nat × Nat := if s = [] then (0, 0) else dec s
theorem next_ok (hT : Tabs W) (s : List UInt8) : Pure Tryz.prog W 41 [.str s] (.tup [.int .i32 (nextL s).1, .int .i64 (nextL s).2]) := by
  refine Pure.of (acalls_of_vc (drawOk W) Tryz.func41 rfl (by decide) (by decide) rfl ?_)
  refine g0_ ?_
  refine brec ?_; intro c_ hs; (try rw [hs]); cases c_ <;> replace hs := nm_ hs
  · refine g0_ ?_
    refine (decodeRune_ok W hT s).use ?_; refine g0_ ?_
    simp only [nextL, if_neg hs]
    exact .refl _
  · subst hs
    refine g0_ ?_
    exact .refl _
end Go.Eng.YtbaokhehnilneaaGreatDoor
end

/- Package text's texts: Wide, Cut, Fit. -/
section
namespace Go.Eng.YtbaokhehnilneaaGreatDoor
open Go Go.Eng Go.Proofs
variable (W : World)
set_option linter.unusedSimpArgs false
set_option maxRecDepth 100000
set_option linter.unusedVariables false

/-- The runes of bytes, each with how many it takes. -/
def runes (s : List UInt8) : List (Nat × Nat) := if h : s = [] then [] else dec s :: runes (s.drop (dec s).2)
termination_by s.length
decreasing_by
  have h1 := dec_pos s h
  have h2 : 0 < s.length := List.length_pos_iff.2 h
  simp; omega
/-- How many cells runes take. -/
def wideRs : List (Nat × Nat) → Nat
  | [] => 0
  | p :: l => widthL p.1 + wideRs l
def wideL (s : List UInt8) : Nat := wideRs (runes s)
end Go.Eng.YtbaokhehnilneaaGreatDoor
end

/- The document's widths. -/
section
namespace Go.Eng.YtbaokhehnilneaaGreatDoor
open Go Go.Eng Go.Proofs
variable (W : World)
set_option linter.unusedSimpArgs false
set_option maxRecDepth 100000
set_option linter.unusedVariables false
def edges : List (Int × Int) := [(0, 0), (32, 1), (127, 0), (160, 1), (768, 0), (880, 1), (4352, 2), (4448, 1), (8203, 0), (8208, 1), (8232, 0), (8239, 1), (8400, 0), (8448, 1), (11904, 2), (12351, 1), (12353, 2), (19904, 1), (19968, 2), (42192, 1), (44032, 2), (55204, 1), (55296, 0), (57344, 1), (63744, 2), (64256, 1), (65024, 0), (65040, 1), (65072, 2), (65136, 1), (65279, 0), (65280, 2), (65377, 1), (65504, 2), (65511, 1), (127744, 2), (128592, 1), (129280, 2), (129536, 1), (131072, 2), (262142, 1)]
def encEdge (p : Int × Int) : PV := .agg [.int .i32 p.1, .int .i64 p.2]
def foldE (r : Int) (w : Int) (l : List (Int × Int)) : Int := l.foldl (fun w e => if e.1 ≤ r then e.2 else w) w
def widthOfL (r : Int) : Int := if r < 0 ∨ 1114111 < r then 0 else foldE r 0 edges
theorem foldE_cons (r : Int) (w : Int) (p : Int × Int) (l : List (Int × Int)) : foldE r w (p :: l) = foldE r (if p.1 ≤ r then p.2 else w) l := rfl
theorem widthOf_ok (r : Int) : Pure Tryz.prog W 23 [.int .i32 r] (.int .i64 (widthOfL r)) := by
  refine Pure.of (acalls_of_vc (drawOk W) Tryz.func23 rfl (by decide) (by decide) rfl ?_)
  (refine g0_ ?_; repeat ((first | refine n1_ fun b_ => ?_ | refine n2_ fun b_ => ?_ | refine n3_ fun b_ pre_ => ?_ | refine Nat1.mk fun q_ hq_ => ?_ | refine em_ fun x_ hx_ => ?_ | refine Elem1.mk fun e_ he_ => ?_); refine g0_ ?_))
  refine brec ?_; intro c_ h1; (try rw [h1]); cases c_ <;> replace h1 := nm_ h1
  · have h2 : ¬ r < 0 := by omega
    have h3' : ¬ 1114111 < r := by omega
    · (refine g0_ ?_; repeat ((first | refine n1_ fun b_ => ?_ | refine n2_ fun b_ => ?_ | refine n3_ fun b_ pre_ => ?_ | refine Nat1.mk fun q_ hq_ => ?_ | refine em_ fun x_ hx_ => ?_ | refine Elem1.mk fun e_ he_ => ?_); refine g0_ ?_))
      refine .inl ?_
      (refine g0_ ?_; repeat ((first | refine n1_ fun b_ => ?_ | refine n2_ fun b_ => ?_ | refine n3_ fun b_ pre_ => ?_ | refine Nat1.mk fun q_ hq_ => ?_ | refine em_ fun x_ hx_ => ?_ | refine Elem1.mk fun e_ he_ => ?_); refine g0_ ?_))
      have hlen : edges.length = 41 := rfl
      refine' loopI (α := Nat × Int) (fun (i, w) => [(3, .int .i64 w), (55, .int .i64 i), (53, .sl 2 (edges.map encEdge)), (54, .int .i64 41)]) [(0, _)] (fun (i, w) => []) (fun (i, w) => i ≤ 41 ∧ foldE r w (edges.drop i) = foldE r 0 edges) (fun (i, w) => 41 - i) (0, 0) ?_ ?_
      · exact ⟨Nat.zero_le _, rfl⟩
      rintro ⟨i, w⟩ ⟨hi, hw⟩
      (refine g0_ ?_; repeat ((first | refine n1_ fun b_ => ?_ | refine n2_ fun b_ => ?_ | refine n3_ fun b_ pre_ => ?_ | refine Nat1.mk fun q_ hq_ => ?_ | refine em_ fun x_ hx_ => ?_ | refine Elem1.mk fun e_ he_ => ?_); refine g0_ ?_))
      refine brec ?_; intro c_ hc; (try rw [hc]); cases c_ <;> replace hc := nm_ hc
      · (refine g0_ ?_; repeat ((first | refine n1_ fun b_ => ?_ | refine n2_ fun b_ => ?_ | refine n3_ fun b_ pre_ => ?_ | refine Nat1.mk fun q_ hq_ => ?_ | refine em_ fun x_ hx_ => ?_ | refine Elem1.mk fun e_ he_ => ?_); refine g0_ ?_))
        rw [List.drop_of_length_le (by omega)] at hw
        rw [show widthOfL r = w by rw [show w = foldE r 0 edges from hw]; simp [widthOfL, h2, h3']]
        exact .refl _
      · (refine g0_ ?_; repeat ((first | refine n1_ fun b_ => ?_ | refine n2_ fun b_ => ?_ | refine n3_ fun b_ pre_ => ?_ | refine Nat1.mk fun q_ hq_ => ?_ | refine em_ fun x_ hx_ => ?_ | refine Elem1.mk fun e_ he_ => ?_); refine g0_ ?_))
        rw [drop_cons_of hx_, foldE_cons] at hw
        refine brec ?_; intro c_ h3; (try rw [h3]); cases c_ <;> replace h3 := nm_ h3
        · rw [if_neg h3] at hw
          (refine g0_ ?_; repeat ((first | refine n1_ fun b_ => ?_ | refine n2_ fun b_ => ?_ | refine n3_ fun b_ pre_ => ?_ | refine Nat1.mk fun q_ hq_ => ?_ | refine em_ fun x_ hx_ => ?_ | refine Elem1.mk fun e_ he_ => ?_); refine g0_ ?_))
          refine nx_ (i + 1, w) ?_ ?_
          · exact ⟨by omega, hw⟩
          · ((try dsimp only); (try simp only [List.length_drop, List.length_take, List.length_append, List.length_cons, List.length_nil, List.length_map] at *); omega)
        · rw [if_pos h3] at hw
          (refine g0_ ?_; repeat ((first | refine n1_ fun b_ => ?_ | refine n2_ fun b_ => ?_ | refine n3_ fun b_ pre_ => ?_ | refine Nat1.mk fun q_ hq_ => ?_ | refine em_ fun x_ hx_ => ?_ | refine Elem1.mk fun e_ he_ => ?_); refine g0_ ?_))
          refine nx_ (i + 1, x_.2) ?_ ?_
          · exact ⟨by omega, hw⟩
          · ((try dsimp only); (try simp only [List.length_drop, List.length_take, List.length_append, List.length_cons, List.length_nil, List.length_map] at *); omega)
  · (refine g0_ ?_; repeat ((first | refine n1_ fun b_ => ?_ | refine n2_ fun b_ => ?_ | refine n3_ fun b_ pre_ => ?_ | refine Nat1.mk fun q_ hq_ => ?_ | refine em_ fun x_ hx_ => ?_ | refine Elem1.mk fun e_ he_ => ?_); refine g0_ ?_))
    rw [show widthOfL r = 0 by rcases h1 with h1 | h1 <;> simp [widthOfL, h1]]
    exact .refl _
end Go.Eng.YtbaokhehnilneaaGreatDoor
end

/- The program's width of a rune is the document's: a plain law. -/
section
namespace Go.Eng.YtbaokhehnilneaaGreatDoor
open Go Go.Eng Go.Proofs
theorem withinL_congr {r t : Int} {l : List (Int × Int)} (h : ∀ s ∈ l, (s.1 ≤ r ↔ s.1 ≤ t) ∧ (s.2 + 1 ≤ r ↔ s.2 + 1 ≤ t)) : withinL r l = withinL t l := by
  unfold withinL
  induction l with
  | nil => rfl
  | cons s l ih =>
    have h0 := h s (List.mem_cons_self ..)
    have e2 : (r ≤ s.2 ↔ t ≤ s.2) := by omega
    simp only [List.any_cons, h0.1, e2, ih (fun x hx => h x (List.mem_cons_of_mem _ hx))]
theorem foldE_congr {r t : Int} : ∀ {l : List (Int × Int)} (w : Int), (∀ e ∈ l, (e.1 ≤ r ↔ e.1 ≤ t)) → foldE r w l = foldE t w l
  | [], _, _ => rfl
  | e :: l, w, h => by
    have h0 := h e (List.mem_cons_self ..)
    simp only [foldE, List.foldl_cons, h0]
    exact foldE_congr _ (fun x hx => h x (List.mem_cons_of_mem _ hx))
def marks : List Int := edges.map (·.1) ++ noneS.map (·.1) ++ noneS.map (·.2 + 1) ++ wideS.map (·.1) ++ wideS.map (·.2 + 1)
/-- The greatest mark that is not above r. -/
def lowM (r : Int) : List Int → Int → Int
  | [], m => m
  | x :: l, m => lowM r l (if x ≤ r ∧ m ≤ x then x else m)
theorem lowM_spec (r : Int) : ∀ (l : List Int) (m : Int), m ≤ r → m ≤ lowM r l m ∧ lowM r l m ≤ r ∧ (lowM r l m = m ∨ lowM r l m ∈ l) ∧ ∀ x ∈ l, x ≤ r → x ≤ lowM r l m
  | [], m, h => ⟨Int.le_refl _, h, .inl rfl, fun x hx => by cases hx⟩
  | x :: l, m, h => by
    rw [lowM]
    split
    · rename_i hx
      obtain ⟨h1, h2, h3, h4⟩ := lowM_spec r l x hx.1
      refine ⟨by omega, h2, ?_, fun y hy hr => ?_⟩
      · rcases h3 with h3 | h3
        · exact .inr (by rw [h3]; exact List.mem_cons_self ..)
        · exact .inr (List.mem_cons_of_mem _ h3)
      · rcases List.mem_cons.1 hy with rfl | hy
        · exact h1
        · exact h4 y hy hr
    · rename_i hx
      obtain ⟨h1, h2, h3, h4⟩ := lowM_spec r l m h
      refine ⟨h1, h2, ?_, fun y hy hr => ?_⟩
      · rcases h3 with h3 | h3
        · exact .inl h3
        · exact .inr (List.mem_cons_of_mem _ h3)
      · rcases List.mem_cons.1 hy with rfl | hy
        · omega
        · exact h4 y hy hr
theorem width_eq (r : Int) : (widthL r : Int) = widthOfL r := by
  by_cases h1 : r < 0
  · simp [widthL, widthOfL, h1]
  · by_cases h2 : 1114111 < r
    · simp [widthL, widthOfL, h2]
    · obtain ⟨g1, g2, g3, g4⟩ := lowM_spec r marks 0 (by omega)
      generalize lowM r marks 0 = t at g1 g2 g3 g4
      have key : ∀ x ∈ marks, (x ≤ r ↔ x ≤ t) := fun x hx => ⟨g4 x hx, fun h => by omega⟩
      have hm : ∀ t ∈ (0 :: marks), (widthL t : Int) = widthOfL t := by decide +kernel
      have ht := hm t (by rcases g3 with g3 | g3 <;> simp [g3])
      have e1 : withinL r noneS = withinL t noneS := withinL_congr fun s hs => ⟨key _ (by simp only [marks, List.mem_append, List.mem_map]; exact .inl (.inl (.inl (.inr ⟨s, hs, rfl⟩)))), key _ (by simp only [marks, List.mem_append, List.mem_map]; exact .inl (.inl (.inr ⟨s, hs, rfl⟩)))⟩
      have e2 : withinL r wideS = withinL t wideS := withinL_congr fun s hs => ⟨key _ (by simp only [marks, List.mem_append, List.mem_map]; exact .inl (.inr ⟨s, hs, rfl⟩)), key _ (by simp only [marks, List.mem_append, List.mem_map]; exact .inr ⟨s, hs, rfl⟩)⟩
      have e3 : foldE r 0 edges = foldE t 0 edges := foldE_congr 0 fun e he => key _ (by simp only [marks, List.mem_append, List.mem_map]; exact .inl (.inl (.inl (.inl ⟨e, he, rfl⟩))))
      have t1 : ¬ t < 0 := by omega
      have t2 : ¬ 1114111 < t := by omega
      simp only [widthL, widthOfL, h1, h2, t1, t2, false_or, if_false, e1, e2, e3] at ht ⊢
      exact ht
end Go.Eng.YtbaokhehnilneaaGreatDoor
end

/- Package text's texts: Cut, Fit; what the laws look at first. -/
section
namespace Go.Eng.YtbaokhehnilneaaGreatDoor
open Go Go.Eng Go.Proofs
variable (W : World)
set_option linter.unusedSimpArgs false
set_option maxRecDepth 100000
set_option linter.unusedVariables false

/-- Where a text of runes is cut that may take n cells. -/
def cutAt (n : Int) : Nat → List (Nat × Nat) → Nat
  | _, [] => 0
  | used, p :: l => if n < used + widthL p.1 then 0 else p.2 + cutAt n (used + widthL p.1) l
def cutL (s : List UInt8) (n : Int) : List UInt8 := s.take (cutAt n 0 (runes s))
end Go.Eng.YtbaokhehnilneaaGreatDoor
end

/- Runes of bytes that are cut, or put together: plain laws. -/
section
namespace Go.Eng.YtbaokhehnilneaaGreatDoor
open Go Go.Eng Go.Proofs

/-- How many bytes runes take. -/
def sizes : List (Nat × Nat) → Nat
  | [] => 0
  | p :: l => p.2 + sizes l
/-- How many runes of a text are taken that may take n cells. -/
def cutN (n : Int) : Nat → List (Nat × Nat) → Nat
  | _, [] => 0
  | used, p :: l => if n < used + widthL p.1 then 0 else cutN n (used + widthL p.1) l + 1
end Go.Eng.YtbaokhehnilneaaGreatDoor
end

/- Package text: Fit; the fact that the laws look at first; TextNext. -/
section
namespace Go.Eng.YtbaokhehnilneaaGreatDoor
open Go Go.Eng Go.Proofs
variable (W : World)
set_option linter.unusedSimpArgs false
set_option maxRecDepth 100000
set_option linter.unusedVariables false

def fitL (s : List UInt8) (n : Int) : List UInt8 := if n < 0 ∨ 120 < n then [] else cutL s n ++ Lib.repeatL [32] (n - wideL (cutL s n)).toNat
/-- Runes, for reckoning. -/
def runesF : Nat → List UInt8 → List (Nat × Nat)
  | 0, _ => []
  | n + 1, s => if s = [] then [] else dec s :: runesF n (s.drop (dec s).2)
def nihonx : List UInt8 := [230, 151, 165, 230, 156, 172, 120]
end Go.Eng.YtbaokhehnilneaaGreatDoor
end

/- The document's reading of texts, rune by rune. -/
section
namespace Go.Eng.YtbaokhehnilneaaGreatDoor
open Go Go.Eng Go.Proofs
variable (W : World)
set_option linter.unusedSimpArgs false
set_option maxRecDepth 100000
set_option linter.unusedVariables false
def wideOfRs : List (Nat × Nat) → Int
  | [] => 0
  | p :: l => widthOfL p.1 + wideOfRs l
end Go.Eng.YtbaokhehnilneaaGreatDoor
end

/- Texts without what takes no cell; where runes stand: the plain law. -/
section
namespace Go.Eng.YtbaokhehnilneaaGreatDoor
open Go Go.Eng Go.Proofs
set_option linter.unusedSimpArgs false
set_option maxRecDepth 100000
def validR (r : Int) : Prop := (0 ≤ r ∧ r < 55296) ∨ (57344 ≤ r ∧ r ≤ 1114111)
def cleanRs : List (Nat × Nat) → List UInt8
  | [] => []
  | p :: l => if 0 < widthL p.1 then Lib.encodeRune p.1 ++ cleanRs l else cleanRs l
def cleanL (s : List UInt8) : List UInt8 := cleanRs (runes s)
def columnsRs : Nat → List (Nat × Nat) → List Nat
  | _, [] => []
  | x, p :: l => if 0 < widthL p.1 then x :: columnsRs (x + widthL p.1) l else columnsRs x l
def columnsL (s : List UInt8) : List Nat := columnsRs 0 (runes s)
theorem enc_le (r : Int) : (Lib.encodeRune r).length ≤ 4 := by have := Lib.encodeRuneZ_length r; simpa [Lib.encodeRune] using this.2
/-- The runes of what is clean. -/
def keptRs (l : List (Nat × Nat)) : List (Nat × Nat) := (l.filter fun p => decide (0 < widthL p.1)).map fun p => (p.1, (Lib.encodeRune p.1).length)
end Go.Eng.YtbaokhehnilneaaGreatDoor
end

/- Contracts of Go's library, by the kit's shelf; laws of runes. -/
section
namespace Go.Eng.YtbaokhehnilneaaGreatDoor
open Go Go.Eng Go.Proofs
variable (W : World)
end Go.Eng.YtbaokhehnilneaaGreatDoor
end
