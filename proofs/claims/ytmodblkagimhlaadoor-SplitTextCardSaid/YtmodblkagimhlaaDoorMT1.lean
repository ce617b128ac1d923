/- Texts put together: Utf8, Builder, BuilderW. -/
import Derived.Test.YtmodblkagimhlaaDoorME3
import Derived.Test.YtmodblkagimhlaaDoorMH1
import Derived.Lib.TrimU
import Derived.Shelf.Unicode.DecodeLastEight
import Derived.Lib.RuneBytes
/- The library's readers of UTF-8, by the kit's contracts. -/
section
namespace Go.Eng.YtmodblkagimhlaaDoor
open Go Go.Eng Go.Proofs
variable (W : World)
/-- The first rune of bytes, and how many it takes. -/
def dec (s : List UInt8) : Nat × Nat := Lib.decodeGo ⟨s.toArray⟩
abbrev Tabs (W : World) : Prop := Lib.Utf8Tabs 0 1 W
end Go.Eng.YtmodblkagimhlaaDoor
end

/- Runes as bytes; strings.Builder. -/
section
namespace Go.Eng.YtmodblkagimhlaaDoor
open Go Go.Eng Go.Proofs
variable (W : World)
set_option linter.unusedSimpArgs false
set_option maxRecDepth 100000
set_option linter.unusedVariables false
set_option maxHeartbeats 4000000
def byteP (c : UInt8) : PV := .int .u8 c.toNat
/-- A buffer: nil, or a row of the call's own. -/
def bufV (c : Nat) : List UInt8 → PV
  | [] => .nils
  | x :: l => .bsl 5 c (l.length + 1)
def bufM (c : Nat) : List UInt8 → Mem
  | [] => []
  | x :: l => [⟨c, .row 1 ((x :: l).map byteP) 0⟩]
/-- A buffer that holds these bytes. -/
abbrev GivesB (l : List UInt8) : PV → Mem → Prop := Gives (fun c : Nat => .bsl 5 c l.length) (fun c => [⟨c, .row 1 (l.map byteP) 0⟩]) (fun _ => True)
/-- A pointer held against nil, and against itself. -/
theorem eql_nilptr {t e : TypeId} {xo yo : Operand} (ht : Tryd.prog.underlying t = some (.pointer e)) : EqLaw Tryd.prog .eql t xo yo (.lit (.pointer none)) (.lit (.pointer none)) true := by
  refine ⟨fun K w u v h1 h2 => ?_⟩
  cases h1; cases h2
  have hp : Tryd.prog.pointee t = e := by simp [Program.pointee, ht]
  have := run_eql_pointer_nil (P := Tryd.prog) w t none (by rw [hp]; exact ht)
  have e0 : (eqGuard .eql t xo yo (.pointer none) (.pointer none)).run Tryd.prog w = .ok () w := by simp [eqGuard]
  rw [Sem.run_bind, e0, Result.andThen_ok, this]; rfl
theorem eql_ptrnil {t e e' n b : TypeId} {xo yo : Operand} (ht : Tryd.prog.underlying t = some (.pointer e)) : EqLaw Tryd.prog .eql t xo yo (.tpt e' n b) (.lit (.pointer none)) false := by
  refine ⟨fun K w u v h1 h2 => ?_⟩
  cases h1; cases h2
  have hp : Tryd.prog.pointee t = e := by simp [Program.pointee, ht]
  have := run_eql_pointer_nil (P := Tryd.prog) w t (some ⟨b, 0, none⟩) (by rw [hp]; exact ht)
  have e0 : (eqGuard .eql t xo yo (.pointer (some ⟨b, 0, none⟩)) (.pointer none)).run Tryd.prog w = .ok () w := by simp [eqGuard]
  rw [Sem.run_bind, e0, Result.andThen_ok, this]; rfl
theorem neq_ptr {t e e' n b : TypeId} {xo yo : Operand} {j : TypeInfo} (ht : Tryd.prog.underlying t = some (.pointer e)) (hj : Tryd.prog.info? e = some j) : EqLaw Tryd.prog .neq t xo yo (.tpt e' n b) (.tpt e' n b) false := by
  refine ⟨fun K w u v h1 h2 => ?_⟩
  cases h1; cases h2
  have := Lib.run_neq_ptr_same (P := Tryd.prog) w ⟨b, 0, none⟩ ht hj
  have e0 : (eqGuard .neq t xo yo (.pointer (some ⟨b, 0, none⟩)) (.pointer (some ⟨b, 0, none⟩))).run Tryd.prog w = .ok () w := by simp [eqGuard]
  rw [Sem.run_bind, e0, Result.andThen_ok, this]
theorem noEscape (x : PV) : ExtLaw Tryd.prog 168 [x] x := by
  refine ⟨fun K w vs hl hr => ?_⟩
  obtain ⟨v, rfl⟩ := List.length_eq_one_iff.1 hl.symm
  have h0 := hr 0 (by simp)
  refine ⟨v, ?_, h0⟩
  show (callFunc 168 #[v]).run Tryd.prog w = _
  rw [run_callFunc_extern Tryd.func168 (by kernel_rfl) (by kernel_rfl) (by kernel_rfl) (e := Extern.AbiNoEscape.same) (by kernel_rfl)]
  rfl
/-- A builder: used or fresh; what it holds. -/
def bldV (b : Nat) : PV := .tpt 89 2 b
def bldM0 (b : Nat) : Mem := [⟨b, .row 2 [.agg [.lit (.pointer none), .nils]] 0⟩]
def bldM1 (b : Nat) : Mem := [⟨b, .row 2 [.agg [bldV b, .nils]] 0⟩]
def bldM (b c : Nat) (l : List UInt8) : Mem := [⟨b, .row 2 [.agg [bldV b, .bsl 5 c l.length]] 0⟩, ⟨c, .row 1 (l.map byteP) 0⟩]
theorem copyCheck0 (b : Nat) : ACalls Tryd.prog W 146 [.tpt 89 2 b] (bldM0 b) (Gives (fun _ : Unit => .tup []) (fun _ => bldM1 b) (fun _ => True)) := by
  refine acalls_of_vc (drawOk W) Tryd.func146 rfl (by decide) (by decide) rfl ?_
  (refine g0_ ?_; repeat ((first | refine n1_ fun b_ => ?_ | refine n2_ fun b_ => ?_ | refine n3_ fun b_ pre_ => ?_ | refine Nat1.mk fun q_ hq_ => ?_ | refine em_ fun x_ hx_ => ?_ | refine Elem1.mk fun e_ he_ => ?_); refine g0_ ?_))
  refine ⟨_, eql_nilptr Tryd.underlying86, ?_⟩
  (refine g0_ ?_; repeat ((first | refine n1_ fun b_ => ?_ | refine n2_ fun b_ => ?_ | refine n3_ fun b_ pre_ => ?_ | refine Nat1.mk fun q_ hq_ => ?_ | refine em_ fun x_ hx_ => ?_ | refine Elem1.mk fun e_ he_ => ?_); refine g0_ ?_))
  refine ⟨_, noEscape _, ?_⟩
  (refine g0_ ?_; repeat ((first | refine n1_ fun b_ => ?_ | refine n2_ fun b_ => ?_ | refine n3_ fun b_ pre_ => ?_ | refine Nat1.mk fun q_ hq_ => ?_ | refine em_ fun x_ hx_ => ?_ | refine Elem1.mk fun e_ he_ => ?_); refine g0_ ?_))
  exact ⟨(), trivial, rfl, wkMem.rfl'⟩
theorem copyCheck2 (b c n : Nat) : ACalls Tryd.prog W 146 [.tpt 89 2 b] [⟨b, .row 2 [.agg [.tpt 89 2 b, .bsl 5 c n]] 0⟩] (Gives (fun _ : Unit => .tup []) (fun _ => [⟨b, .row 2 [.agg [.tpt 89 2 b, .bsl 5 c n]] 0⟩]) (fun _ => True)) := by
  refine acalls_of_vc (drawOk W) Tryd.func146 rfl (by decide) (by decide) rfl ?_
  (refine g0_ ?_; repeat ((first | refine n1_ fun b_ => ?_ | refine n2_ fun b_ => ?_ | refine n3_ fun b_ pre_ => ?_ | refine Nat1.mk fun q_ hq_ => ?_ | refine em_ fun x_ hx_ => ?_ | refine Elem1.mk fun e_ he_ => ?_); refine g0_ ?_))
  refine ⟨_, eql_ptrnil Tryd.underlying86, ?_⟩
  (refine g0_ ?_; repeat ((first | refine n1_ fun b_ => ?_ | refine n2_ fun b_ => ?_ | refine n3_ fun b_ pre_ => ?_ | refine Nat1.mk fun q_ hq_ => ?_ | refine em_ fun x_ hx_ => ?_ | refine Elem1.mk fun e_ he_ => ?_); refine g0_ ?_))
  refine ⟨_, neq_ptr Tryd.underlying86 (show Tryd.prog.info? 89 = some ((Tryd.prog.info? 89).getD default) by kernel_rfl), ?_⟩
  (refine g0_ ?_; repeat ((first | refine n1_ fun b_ => ?_ | refine n2_ fun b_ => ?_ | refine n3_ fun b_ pre_ => ?_ | refine Nat1.mk fun q_ hq_ => ?_ | refine em_ fun x_ hx_ => ?_ | refine Elem1.mk fun e_ he_ => ?_); refine g0_ ?_))
  exact ⟨(), trivial, rfl, wkMem.rfl'⟩
/-- What a writing method makes of a builder. -/
abbrev GivesW (b : Nat) (n : Int) (l : List UInt8) : PV → Mem → Prop := Gives (fun _ : Nat => .tup [.int .i64 n, .lit .nilIface]) (fun c => bldM b c l) (fun _ => True)
/-- A builder under way. -/
def bldS (b c : Nat) : List UInt8 → Mem
  | [] => bldM0 b
  | x :: l => bldM b c (x :: l)
theorem bldS_ne (b c : Nat) {l : List UInt8} (h : l ≠ []) : bldS b c l = bldM b c l := by cases l; exact absurd rfl h; rfl
theorem string0 (b : Nat) : ACalls Tryd.prog W 49 [.tpt 89 2 b] (bldM0 b) (Gives (fun _ : Unit => .str []) (fun _ => []) (fun _ => True)) := by
  refine acalls_of_vc (drawOk W) Tryd.func49 rfl (by decide) (by decide) rfl ?_
  (refine g0_ ?_; repeat ((first | refine n1_ fun b_ => ?_ | refine n2_ fun b_ => ?_ | refine n3_ fun b_ pre_ => ?_ | refine Nat1.mk fun q_ hq_ => ?_ | refine em_ fun x_ hx_ => ?_ | refine Elem1.mk fun e_ he_ => ?_); refine g0_ ?_))
  refine Draws.head ⟨10, by decide +kernel, ?_⟩; (refine g0_ ?_; repeat ((first | refine n1_ fun b_ => ?_ | refine n2_ fun b_ => ?_ | refine n3_ fun b_ pre_ => ?_ | refine Nat1.mk fun q_ hq_ => ?_ | refine em_ fun x_ hx_ => ?_ | refine Elem1.mk fun e_ he_ => ?_); refine g0_ ?_))
  exact ⟨(), trivial, rfl, wkMem.nil _⟩
theorem string2 (b c : Nat) (l : List UInt8) (h0 : l ≠ []) (hl : l.length ≤ 140737488355328) : ACalls Tryd.prog W 49 [.tpt 89 2 b] (bldM b c l) (Gives (fun _ : Unit => .str l) (fun _ => []) (fun _ => True)) := by
  have hpos : 0 < l.length := List.length_pos_iff.2 h0
  refine acalls_of_vc (drawOk W) Tryd.func49 rfl (by decide) (by decide) rfl ?_
  (refine g0_ ?_; repeat ((first | refine n1_ fun b_ => ?_ | refine n2_ fun b_ => ?_ | refine n3_ fun b_ pre_ => ?_ | refine Nat1.mk fun q_ hq_ => ?_ | refine em_ fun x_ hx_ => ?_ | refine Elem1.mk fun e_ he_ => ?_); refine g0_ ?_))
  refine Draws.head ⟨10, by decide +kernel, ?_⟩; (refine g0_ ?_; repeat ((first | refine n1_ fun b_ => ?_ | refine n2_ fun b_ => ?_ | refine n3_ fun b_ pre_ => ?_ | refine Nat1.mk fun q_ hq_ => ?_ | refine em_ fun x_ hx_ => ?_ | refine Elem1.mk fun e_ he_ => ?_); refine g0_ ?_))
  refine StrAt.mk (l.map byteP) 0 _ l (.there _ _ _ _ _ (.here _ _ _)) rfl h0 (by omega) (show ptrTo Tryd.prog 161 = some 5 by kernel_rfl) (show Tryd.prog.underlying 5 = some (.int .u8) by kernel_rfl) (show Tryd.prog.cellsOf 5 = 1 by kernel_rfl) (by rw [List.take_of_length_le (by simp)]; rfl) ?_
  (refine g0_ ?_; repeat ((first | refine n1_ fun b_ => ?_ | refine n2_ fun b_ => ?_ | refine n3_ fun b_ pre_ => ?_ | refine Nat1.mk fun q_ hq_ => ?_ | refine em_ fun x_ hx_ => ?_ | refine Elem1.mk fun e_ he_ => ?_); refine g0_ ?_))
  exact ⟨(), trivial, rfl, wkMem.nil _⟩
theorem string_ok (b c : Nat) (l : List UInt8) (hl : l.length ≤ 140737488355328) : ACalls Tryd.prog W 49 [.tpt 89 2 b] (bldS b c l) (Gives (fun _ : Unit => .str l) (fun _ => []) (fun _ => True)) := by
  by_cases h : l = []
  · subst h; exact string0 W b
  · rw [bldS_ne b c h]; exact string2 W b c l h hl
end Go.Eng.YtmodblkagimhlaaDoor
end

/- strings.Builder: bytes and texts written. -/
section
namespace Go.Eng.YtmodblkagimhlaaDoor
open Go Go.Eng Go.Proofs
variable (W : World)
set_option linter.unusedSimpArgs false
set_option maxRecDepth 100000
set_option linter.unusedVariables false
set_option maxHeartbeats 4000000
theorem byteP_map (s : List UInt8) : (s.map fun c : UInt8 => PV.int .u8 c.toNat) = s.map byteP := rfl
theorem writeString0 (b : Nat) (s : List UInt8) (h0 : s ≠ []) (hs : s.length ≤ 70368744177664) :
    ACalls Tryd.prog W 104 [.tpt 89 2 b, .str s] (bldM0 b) (GivesW b s.length s) := by
  obtain ⟨x, s, rfl⟩ : ∃ x t, s = x :: t := by cases s with | nil => exact absurd rfl h0 | cons x t => exact ⟨_, _, rfl⟩
  simp only [List.length_cons] at hs
  refine acalls_of_vc (drawOk W) Tryd.func104 rfl (by decide) (by decide) rfl ?_
  (refine g0_ ?_; repeat ((first | refine n1_ fun b_ => ?_ | refine n2_ fun b_ => ?_); refine g0_ ?_))
  refine ACalls.lend (copyCheck0 W b) (r := []) (by simp) ?_
  rintro _ -
  (refine g0_ ?_; repeat ((first | refine n1_ fun b_ => ?_ | refine n2_ fun b_ => ?_); refine g0_ ?_))
  refine ⟨b_, trivial, rfl, ?_⟩
  simp only [List.length_map]
  (first | exact ⟨_, .refl _⟩ | exact wkMem.rfl' | exact ⟨_, .swap _ _ _⟩ | (repeat (first | exact wkMem.nil _ | exact wkMem.rfl' | exact wk_snoc _ _ _ | exact wk_fam (by assumption) _ _ _ | exact wk_famN (by assumption) _ _ _ | (apply wkMem.cons; (case' hl => (repeat (first | exact .here _ _ _ | apply Look.there)))) | apply wkMem.skip)))
theorem writeString2 (b c : Nat) (l : List UInt8) (h0 : l ≠ []) (s : List UInt8) (hs : s.length ≤ 70368744177664) (hl : l.length ≤ 70368744177664) :
    ACalls Tryd.prog W 104 [.tpt 89 2 b, .str s] (bldM b c l) (GivesW b s.length (l ++ s)) := by
  refine acalls_of_vc (drawOk W) Tryd.func104 rfl (by decide) (by decide) rfl ?_
  (refine g0_ ?_; repeat ((first | refine n1_ fun b_ => ?_ | refine n2_ fun b_ => ?_); refine g0_ ?_))
  refine ACalls.lend (copyCheck2 W b c l.length) (r := [⟨c, .row 1 (l.map byteP) 0⟩]) (.refl _) ?_
  rintro _ -
  (refine g0_ ?_; repeat ((first | refine n1_ fun b_ => ?_ | refine n2_ fun b_ => ?_); refine g0_ ?_))
  refine ⟨b_, trivial, rfl, ?_⟩
  rw [List.length_map, byteP_map, ← List.map_append, ← List.length_append]
  exact wkMem.rfl'
theorem writeString_ok (b c : Nat) (l s : List UInt8) (h0 : s ≠ []) (hs : s.length ≤ 70368744177664) (hl : l.length ≤ 70368744177664) :
    ACalls Tryd.prog W 104 [.tpt 89 2 b, .str s] (bldS b c l) (Gives (fun _ : Nat => .tup [.int .i64 s.length, .lit .nilIface]) (fun c => bldS b c (l ++ s)) (fun _ => True)) := by
  have e : (fun c => bldS b c (l ++ s)) = fun c => bldM b c (l ++ s) := by funext c; exact bldS_ne b c (by simp [h0])
  rw [e]
  by_cases h : l = []
  · subst h; exact writeString0 W b s h0 hs
  · rw [bldS_ne b c h]; exact writeString2 W b c l h s hs hl
theorem writeByte0 (b : Nat) (x : UInt8) :
    ACalls Tryd.prog W 105 [.tpt 89 2 b, .int .u8 x.toNat] (bldM0 b) (Gives (fun _ : Nat => .lit .nilIface) (fun c => bldM b c [x]) (fun _ => True)) := by
  refine acalls_of_vc (drawOk W) Tryd.func105 rfl (by decide) (by decide) rfl ?_
  (refine g0_ ?_; repeat ((first | refine n1_ fun b_ => ?_ | refine n2_ fun b_ => ?_); refine g0_ ?_))
  refine ACalls.lend (copyCheck0 W b) (r := []) (by simp) ?_
  rintro _ -
  (refine g0_ ?_; repeat ((first | refine n1_ fun b_ => ?_ | refine n2_ fun b_ => ?_); refine g0_ ?_))
  refine .inl ?_
  (refine g0_ ?_; repeat ((first | refine n1_ fun b_ => ?_ | refine n2_ fun b_ => ?_); refine g0_ ?_))
  refine ⟨b_, trivial, rfl, ?_⟩
  (first | exact ⟨_, .refl _⟩ | exact wkMem.rfl' | exact ⟨_, .swap _ _ _⟩ | (repeat (first | exact wkMem.nil _ | exact wkMem.rfl' | exact wk_snoc _ _ _ | exact wk_fam (by assumption) _ _ _ | exact wk_famN (by assumption) _ _ _ | (apply wkMem.cons; (case' hl => (repeat (first | exact .here _ _ _ | apply Look.there)))) | apply wkMem.skip)))
theorem writeByte2 (b c : Nat) (l : List UInt8) (h0 : l ≠ []) (x : UInt8) (hl : l.length ≤ 70368744177664) :
    ACalls Tryd.prog W 105 [.tpt 89 2 b, .int .u8 x.toNat] (bldM b c l) (Gives (fun _ : Nat => .lit .nilIface) (fun c => bldM b c (l ++ [x])) (fun _ => True)) := by
  refine acalls_of_vc (drawOk W) Tryd.func105 rfl (by decide) (by decide) rfl ?_
  (refine g0_ ?_; repeat ((first | refine n1_ fun b_ => ?_ | refine n2_ fun b_ => ?_); refine g0_ ?_))
  refine ACalls.lend (copyCheck2 W b c l.length) (r := [⟨c, .row 1 (l.map byteP) 0⟩]) (.refl _) ?_
  rintro _ -
  (refine g0_ ?_; repeat ((first | refine n1_ fun b_ => ?_ | refine n2_ fun b_ => ?_); refine g0_ ?_))
  refine .inl ?_
  (refine g0_ ?_; repeat ((first | refine n1_ fun b_ => ?_ | refine n2_ fun b_ => ?_); refine g0_ ?_))
  refine ⟨b_, trivial, rfl, ?_⟩
  rw [show l.map byteP ++ [PV.int .u8 x.toNat] = (l ++ [x]).map byteP by rw [List.map_append]; rfl]
  have e : (l ++ [x]).length = l.length + 1 := by simp
  show wkMem _ (bldM b b_ (l ++ [x]))
  rw [bldM, e]
  exact wkMem.rfl'
theorem writeByte_ok (b c : Nat) (l : List UInt8) (x : UInt8) (hl : l.length ≤ 70368744177664) :
    ACalls Tryd.prog W 105 [.tpt 89 2 b, .int .u8 x.toNat] (bldS b c l) (Gives (fun _ : Nat => .lit .nilIface) (fun c => bldS b c (l ++ [x])) (fun _ => True)) := by
  have e : (fun c => bldS b c (l ++ [x])) = fun c => bldM b c (l ++ [x]) := by funext c; exact bldS_ne b c (by simp)
  rw [e]
  by_cases h : l = []
  · subst h; exact writeByte0 W b x
  · rw [bldS_ne b c h]; exact writeByte2 W b c l h x hl
end Go.Eng.YtmodblkagimhlaaDoor
end
