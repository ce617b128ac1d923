/- Texts put together: Cell, CellClone, MendL, Mend, Grid, CheckL, GridL, GridWL, GridR, GridF. -/
import Derived.Test.YtjkdkofpabocmaaDoorMS1
import Derived.Test.YtjkdkofpabocmaaDoorME3
import Derived.Test.YtjkdkofpabocmaaDoorMT1
/- Cells: compared, copied. -/
section
namespace Go.Eng.YtjkdkofpabocmaaDoor
open Go Go.Eng Go.Proofs
variable (W : World)
set_option linter.unusedSimpArgs false
set_option maxRecDepth 100000
set_option linter.unusedVariables false
set_option maxHeartbeats 4000000
structure Cell where
  r : Int
  s : Style
  deriving DecidableEq
def i32ok (n : Int) : Prop := -2147483648 ≤ n ∧ n ≤ 2147483647
def Cell.ok (c : Cell) : Prop := i32ok c.r ∧ c.s.ok
def encCell (c : Cell) : PV := .agg [.int .i32 c.r, .int .i64 c.s.fore, .int .i64 c.s.back, .int .i64 c.s.bits]
theorem wf_of_ok32 {n : Int} (h : i32ok n) : (Lit.int .i32 n).wf = true := by
  simp [Lit.wf, IntKind.min, IntKind.max, IntKind.signed, IntKind.bits]; exact h
theorem cells_cell : Tryd.prog.cellsOf 80 = 4 := by kernel_rfl
theorem cells_i32 : Tryd.prog.cellsOf 21 = 1 := by kernel_rfl
def litsCell (c : Cell) : List Lit := .int .i32 c.r :: litsStyle c.s
theorem lits_cell (c : Cell) (h : c.ok) : Tryd.prog.keyLits 4 80 [.int .i32 c.r, .int .i64 c.s.fore, .int .i64 c.s.back, .int .i64 c.s.bits] = some (litsCell c) := by
  have h1 := wf_of_ok32 h.1
  have hk : Tryd.prog.keyLits 3 21 [.int .i32 c.r] = some [.int .i32 c.r] := by simp [Program.keyLits, Tryd.underlying21, h1]
  have hs := lits_style c.s h.2
  conv => lhs; unfold Program.keyLits
  rw [Tryd.underlying80]
  dsimp only
  rw [if_pos ⟨by rw [cells_cell]; rfl, by simp⟩]
  simp only [List.mapM_cons, List.mapM_nil]
  rw [cells_i32, cells_style]
  simp only [List.drop_zero, List.drop_succ_cons, List.take_succ_cons, List.take_zero, hk, hs]
  rfl
theorem eq_cell (a b : Cell) (ha : a.ok) (hb : b.ok) (xo yo : Operand) : EqLaw Tryd.prog .eql 80 xo yo (encCell a) (encCell b) (decide (a = b)) :=
  eqLaw_agg 4 (by kernel_rfl) (by decide) (by kernel_rfl) Tryd.underlying80 rfl rfl (by rw [cells_cell]; rfl) (by rw [cells_cell]; rfl) (lits_cell a ha) (lits_cell b hb) (by
    obtain ⟨a0, a1, a2, a3⟩ := a
    obtain ⟨b0, b1, b2, b3⟩ := b
    simp [litsStyle, litsCell])
theorem neq_cell (a b : Cell) (ha : a.ok) (hb : b.ok) (xo yo : Operand) : EqLaw Tryd.prog .neq 80 xo yo (encCell a) (encCell b) (!decide (a = b)) :=
  neqLaw_agg 4 (by kernel_rfl) (by decide) (by kernel_rfl) Tryd.underlying80 rfl rfl (by rw [cells_cell]; rfl) (by rw [cells_cell]; rfl) (lits_cell a ha) (lits_cell b hb) (by
    obtain ⟨a0, a1, a2, a3⟩ := a
    obtain ⟨b0, b1, b2, b3⟩ := b
    simp [litsStyle, litsCell])
def encCells (l : List Cell) : PV := .sl 4 (l.map encCell)
theorem equal_cells (a b : List Cell) (ha : (a.length : Int) ≤ 9223372036854775807) (hoa : ∀ c ∈ a, c.ok) (hob : ∀ c ∈ b, c.ok) :
    Pure Tryd.prog W 45 [.sl 4 (a.map encCell), .sl 4 (b.map encCell)] (.bool (decide (a = b))) := by
  refine Pure.of (acalls_of_vc (drawOk W) Tryd.func45 rfl (by decide) (by decide) rfl ?_)
  (refine g0_ ?_; repeat ((first | refine n1_ fun b_ => ?_ | refine n2_ fun b_ => ?_ | refine em_ fun x_ hx_ => ?_); refine g0_ ?_))
  refine brec ?_; intro c_ hc; (try rw [hc]); cases c_ <;> replace hc := nm_ hc
  · have hlen : a.length = b.length := by simp at hc; omega
    (refine g0_ ?_; repeat ((first | refine n1_ fun b_ => ?_ | refine n2_ fun b_ => ?_ | refine em_ fun x_ hx_ => ?_); refine g0_ ?_))
    refine' loopI (α := Nat) (fun i => [(13, .int .i64 i)]) [(0, _), (1, _), (12, _)] (fun i => []) (fun i => i ≤ a.length ∧ a.take i = b.take i) (fun i => a.length - i) 0 ?_ ?_
    · exact ⟨Nat.zero_le _, by simp⟩
    rintro i ⟨hi, hw⟩
    (refine g0_ ?_; repeat ((first | refine n1_ fun b_ => ?_ | refine n2_ fun b_ => ?_ | refine em_ fun x_ hx_ => ?_); refine g0_ ?_))
    refine brec ?_; intro c_ h1; (try rw [h1]); cases c_ <;> replace h1 := nm_ h1
    · (refine g0_ ?_; repeat ((first | refine n1_ fun b_ => ?_ | refine n2_ fun b_ => ?_ | refine em_ fun x_ hx_ => ?_); refine g0_ ?_))
      have : i = a.length := by simp at h1; omega
      subst this
      rw [List.take_length, hlen, List.take_length] at hw
      rw [hw]
      simp
      exact .refl _
    · have hlt : i < a.length := by simp at h1; omega
      (refine g0_ ?_; repeat ((first | refine n1_ fun b_ => ?_ | refine n2_ fun b_ => ?_ | refine em_ fun x_ hx_ => ?_); refine g0_ ?_))
      refine head_ ?_; (refine g0_ ?_; repeat ((first | refine n1_ fun b_ => ?_ | refine n2_ fun b_ => ?_ | refine em_ fun x_ hx_ => ?_); refine g0_ ?_))
      rename_i x hx
      refine ⟨_, neq_cell x x_ (hoa _ (List.mem_of_getElem? hx)) (hob _ (List.mem_of_getElem? hx_)) _ _, ?_⟩
      (refine g0_ ?_; repeat ((first | refine n1_ fun b_ => ?_ | refine n2_ fun b_ => ?_ | refine em_ fun x_ hx_ => ?_); refine g0_ ?_))
      refine brec ?_; intro c_ h2; (try rw [h2]); cases c_ <;> replace h2 := nm_ h2
      · (refine g0_ ?_; repeat ((first | refine n1_ fun b_ => ?_ | refine n2_ fun b_ => ?_ | refine em_ fun x_ hx_ => ?_); refine g0_ ?_))
        refine nx_ (i + 1) ?_ ?_
        · exact ⟨hlt, by rw [take_snoc_of hx, take_snoc_of hx_, hw]; simp_all⟩
        · omega
      · (refine g0_ ?_; repeat ((first | refine n1_ fun b_ => ?_ | refine n2_ fun b_ => ?_ | refine em_ fun x_ hx_ => ?_); refine g0_ ?_))
        have : a ≠ b := by rintro rfl; simp_all
        simp [this]
        exact .refl _
  · have hne : a ≠ b := by
      rintro rfl
      exact hc rfl
    (refine g0_ ?_; repeat ((first | refine n1_ fun b_ => ?_ | refine n2_ fun b_ => ?_ | refine em_ fun x_ hx_ => ?_); refine g0_ ?_))
    simp [hne]
    exact .refl _
end Go.Eng.YtjkdkofpabocmaaDoor
end

/- Cells copied; grids: the law's own copies. -/
section
namespace Go.Eng.YtjkdkofpabocmaaDoor
open Go Go.Eng Go.Proofs
variable (W : World)
set_option linter.unusedSimpArgs false
set_option maxRecDepth 100000
set_option linter.unusedVariables false
set_option maxHeartbeats 4000000
/-- A row that the call made, of as many elements. -/
abbrev GivesRow (sz : Nat) (l : List PV) : PV → Mem → Prop := Gives (fun b : Nat => .rsl b sz 0 l.length) (fun b => [⟨b, .row sz l 0⟩]) (fun _ => True)
theorem GivesRow.mk {sz : Nat} {l : List PV} {σ : Mem} (b : Nat) {n : Nat} (hn : n = l.length) (hm : wkMem σ [⟨b, .row sz l 0⟩]) : GivesRow sz l (.rsl b sz 0 n) σ := ⟨b, trivial, by rw [hn], hm⟩
theorem GivesRow.pure {P : Program} {f : FuncId} {args : List PV} {sz : Nat} {l : List PV} (h : ACalls P W f args [] (GivesRow sz l)) : Pure P W f args (.sl sz l) :=
  Pure.of (ACalls.weak (h.mono fun v σ' ⟨b, _, hv, hm⟩ => ⟨_, hv ▸ frz_row (.here _ _ _) _ rfl, hm⟩))
theorem cells_all (l : List Cell) : (l.map encCell).all cellsB = true := by simp [cellsB, PV.flat, cellB, encCell]
theorem clone_cells0 (a : Option Addr) (c : Nat) : Pure Tryd.prog W 41 [.lit (.slice a 0 c)] (.sl 4 []) := by
  refine Pure.of (acalls_of_vc (drawOk W) Tryd.func41 rfl (by decide) (by decide) rfl ?_)
  (refine g0_ ?_; repeat ((first | refine n1_ fun b_ => ?_ | refine n2_ fun b_ => ?_ | refine n3_ fun b_ pre_ => ?_ | refine Nat1.mk fun q_ hq_ => ?_ | refine em_ fun x_ hx_ => ?_ | refine Elem1.mk fun e_ he_ => ?_); refine g0_ ?_))
  refine ⟨_, eql_nil Tryd.underlying27 (.inl ⟨_, _, rfl, rfl⟩), ?_⟩
  (refine g0_ ?_; repeat ((first | refine n1_ fun b_ => ?_ | refine n2_ fun b_ => ?_ | refine n3_ fun b_ pre_ => ?_ | refine Nat1.mk fun q_ hq_ => ?_ | refine em_ fun x_ hx_ => ?_ | refine Elem1.mk fun e_ he_ => ?_); refine g0_ ?_))
  refine brec ?_; intro c_ h; (try rw [h]); cases c_ <;> replace h := nm_ h
  · (refine g0_ ?_; repeat ((first | refine n1_ fun b_ => ?_ | refine n2_ fun b_ => ?_ | refine n3_ fun b_ pre_ => ?_ | refine Nat1.mk fun q_ hq_ => ?_ | refine em_ fun x_ hx_ => ?_ | refine Elem1.mk fun e_ he_ => ?_); refine g0_ ?_))
    refine .inr ?_
    (refine g0_ ?_; repeat ((first | refine n1_ fun b_ => ?_ | refine n2_ fun b_ => ?_ | refine n3_ fun b_ pre_ => ?_ | refine Nat1.mk fun q_ hq_ => ?_ | refine em_ fun x_ hx_ => ?_ | refine Elem1.mk fun e_ he_ => ?_); refine g0_ ?_))
    exact frz_row (.here _ _ _) _ rfl
  · (refine g0_ ?_; repeat ((first | refine n1_ fun b_ => ?_ | refine n2_ fun b_ => ?_ | refine n3_ fun b_ pre_ => ?_ | refine Nat1.mk fun q_ hq_ => ?_ | refine em_ fun x_ hx_ => ?_ | refine Elem1.mk fun e_ he_ => ?_); refine g0_ ?_))
    exact .nils _
theorem clone_cells1 (x : Cell) (l : List Cell) (hl : (l.length + 1) * 32 ≤ 140737488355328) : ACalls Tryd.prog W 41 [.sl 4 ((x :: l).map encCell)] [] (GivesRow 4 ((x :: l).map encCell)) := by
  refine acalls_of_vc (drawOk W) Tryd.func41 rfl (by decide) (by decide) rfl ?_
  have hc : ((x :: l).map encCell).all cellsB = true := by simp [cellsB, PV.flat, cellB, encCell]
  rw [List.map_cons] at *
  (refine g0_ ?_; repeat ((first | refine n1_ fun b_ => ?_ | refine n2_ fun b_ => ?_ | refine n3_ fun b_ pre_ => ?_ | refine Nat1.mk fun q_ hq_ => ?_ | refine em_ fun x_ hx_ => ?_ | refine Elem1.mk fun e_ he_ => ?_); refine g0_ ?_))
  refine ⟨_, eql_nil Tryd.underlying27 (.inr (.inl ⟨_, _, _, rfl, rfl⟩)), ?_⟩
  (refine g0_ ?_; repeat ((first | refine n1_ fun b_ => ?_ | refine n2_ fun b_ => ?_ | refine n3_ fun b_ pre_ => ?_ | refine Nat1.mk fun q_ hq_ => ?_ | refine em_ fun x_ hx_ => ?_ | refine Elem1.mk fun e_ he_ => ?_); refine g0_ ?_))
  refine .inr ?_
  (refine g0_ ?_; repeat ((first | refine n1_ fun b_ => ?_ | refine n2_ fun b_ => ?_ | refine n3_ fun b_ pre_ => ?_ | refine Nat1.mk fun q_ hq_ => ?_ | refine em_ fun x_ hx_ => ?_ | refine Elem1.mk fun e_ he_ => ?_); refine g0_ ?_))
  exact GivesRow.mk _ (by simp) wkMem.rfl'
theorem clone_cells (l : List Cell) (hl : l.length * 32 ≤ 140737488355328) : Pure Tryd.prog W 41 [.sl 4 (l.map encCell)] (.sl 4 (l.map encCell)) := by
  cases l with
  | nil => exact Pure.of_empty (clone_cells0 W)
  | cons x l => exact GivesRow.pure W (clone_cells1 W x l (by simpa using hl))
theorem cloneG_cells (l : List Cell) (h0 : l ≠ []) (hl : l.length * 32 ≤ 140737488355328) : ACalls Tryd.prog W 41 [.sl 4 (l.map encCell)] [] (GivesRow 4 (l.map encCell)) := by
  cases l with
  | nil => exact absurd rfl h0
  | cons x l => exact clone_cells1 W x l (by simpa using hl)
/-- A copy of a part of a row of the call's own. -/
theorem cloneB_cells (b i n : Nat) (l : List Cell) (fz : Nat) (h0 : 0 < n) (hn : i + n ≤ l.length) (hl : n * 32 ≤ 140737488355328) :
    ACalls Tryd.prog W 41 [.rsl b 4 i n] [⟨b, .row 4 (l.map encCell) fz⟩]
      (Gives (fun b' : Nat => .rsl b' 4 0 n) (fun b' => [⟨b', .row 4 (((l.drop i).take n).map encCell) 0⟩, ⟨b, .row 4 (l.map encCell) fz⟩]) (fun _ => True)) := by
  refine acalls_of_vc (drawOk W) Tryd.func41 rfl (by decide) (by decide) rfl ?_
  have hc : (((l.map encCell).drop i).take n).all cellsB = true := by
    rw [← List.map_drop, ← List.map_take]; exact cells_all _
  have hlen : (((l.map encCell).drop i).take n).length = n := by simp; omega
  (refine g0_ ?_; repeat ((first | refine n1_ fun b_ => ?_ | refine n2_ fun b_ => ?_ | refine n3_ fun b_ pre_ => ?_ | refine Nat1.mk fun q_ hq_ => ?_ | refine em_ fun x_ hx_ => ?_ | refine Elem1.mk fun e_ he_ => ?_); refine g0_ ?_))
  refine ⟨_, eql_nil Tryd.underlying27 (.inr (.inr (.inl ⟨_, _, _, _, rfl, rfl⟩))), ?_⟩
  (refine g0_ ?_; repeat ((first | refine n1_ fun b_ => ?_ | refine n2_ fun b_ => ?_ | refine n3_ fun b_ pre_ => ?_ | refine Nat1.mk fun q_ hq_ => ?_ | refine em_ fun x_ hx_ => ?_ | refine Elem1.mk fun e_ he_ => ?_); refine g0_ ?_))
  refine .inr ?_
  (refine g0_ ?_; repeat ((first | refine n1_ fun b_ => ?_ | refine n2_ fun b_ => ?_ | refine n3_ fun b_ pre_ => ?_ | refine Nat1.mk fun q_ hq_ => ?_ | refine em_ fun x_ hx_ => ?_ | refine Elem1.mk fun e_ he_ => ?_); refine g0_ ?_))
  exact ⟨_, trivial, by rw [hlen, List.length_nil, Nat.zero_add]; rfl, by rw [List.map_take, List.map_drop]; exact wkMem.rfl'⟩
end Go.Eng.YtjkdkofpabocmaaDoor
end

/- Rows mended: the plain law. -/
section
namespace Go.Eng.YtjkdkofpabocmaaDoor
open Go Go.Eng Go.Proofs
def Cell.blank (c : Cell) : Cell := { c with r := 32 }
/-- In place: from left to right; p: a wide rune stands before. -/
def mendP : Bool → List Cell → List Cell
  | _, [] => []
  | p, [c] => if widthL c.r = 2 then [c.blank] else if c.r = 0 ∧ p = false then [c.blank] else [c]
  | p, c :: d :: r =>
    if widthL c.r = 2 ∧ d.r ≠ 0 then c.blank :: mendP false (d :: r)
    else if c.r = 0 ∧ p = false then c.blank :: mendP false (d :: r)
    else c :: mendP (decide (widthL c.r = 2)) (d :: r)
def mendL (l : List Cell) : List Cell := mendP false l
end Go.Eng.YtjkdkofpabocmaaDoor
end

/- Grids: rows mended in place. -/
section
namespace Go.Eng.YtjkdkofpabocmaaDoor
open Go Go.Eng Go.Proofs
variable (W : World)
set_option linter.unusedSimpArgs false
set_option maxRecDepth 100000
set_option linter.unusedVariables false
set_option maxHeartbeats 4000000
theorem set_blank (pre d r post : List Cell) (c : Cell) : (List.map encCell (pre ++ d ++ c :: r ++ post)).set (pre.length + d.length) (.agg [.int .i32 32, .int .i64 c.s.fore, .int .i64 c.s.back, .int .i64 c.s.bits]) = List.map encCell (pre ++ (d ++ [c.blank]) ++ r ++ post) := by
  rw [show (.agg [.int .i32 32, .int .i64 c.s.fore, .int .i64 c.s.back, .int .i64 c.s.bits] : PV) = encCell c.blank from rfl, ← List.map_set]
  congr 1
  rw [List.append_assoc (pre ++ d), List.set_append_right _ _ (by simp)]
  simp
theorem shift_mid (pre d r post : List Cell) (c : Cell) : pre ++ d ++ c :: r ++ post = pre ++ (d ++ [c]) ++ r ++ post := by simp
theorem last_at {pre d r post : List Cell} {q : Nat} {x : Cell} (h : (pre ++ d ++ r ++ post)[pre.length + q]? = some x) (hq : q + 1 = d.length) : ∃ d', d = d' ++ [x] := by
  rcases List.eq_nil_or_concat d with rfl | ⟨d', y, rfl⟩
  · simp at hq
  · simp only [List.concat_eq_append, List.length_append, List.length_cons, List.length_nil] at hq h
    have : q = d'.length := by omega
    subst this
    simp at h
    exact ⟨d', by simp [h]⟩
theorem w32 : widthL 32 = 1 := by decide +kernel
theorem w0 : widthL 0 = 0 := by decide +kernel
theorem mendP_keep {p : Bool} {c : Cell} {r : List Cell} (h1 : widthL c.r ≠ 2) (h2 : ¬ (c.r = 0 ∧ p = false)) : mendP p (c :: r) = c :: mendP false r := by
  cases r <;> simp only [mendP, h1, false_and, if_false, h2, decide_false]
theorem mendP_blank0 {p : Bool} {c : Cell} {r : List Cell} (h1 : c.r = 0) (h2 : p = false) : mendP p (c :: r) = c.blank :: mendP false r := by
  have : ¬ widthL c.r = 2 := by rw [h1, w0]; decide
  rw [h1] at this
  cases r <;> simp only [mendP, this, false_and, if_false, h1, h2, true_and, if_true]
theorem mendP_blank2 {p : Bool} {c : Cell} {r : List Cell} (h1 : widthL c.r = 2) (h2 : ∀ d, r[0]? = some d → d.r ≠ 0) : mendP p (c :: r) = c.blank :: mendP false r := by
  cases r with
  | nil => simp only [mendP, h1, if_true]
  | cons d r => simp only [mendP, h1, true_and, ne_eq, h2 d rfl, not_false_eq_true, if_true]
theorem mendP_wide {p : Bool} {c d : Cell} {r : List Cell} (h1 : widthL c.r = 2) (h2 : d.r = 0) : mendP p (c :: d :: r) = c :: mendP true (d :: r) := by
  have : ¬ c.r = 0 := fun e => by rw [e, w0] at h1; cases h1
  simp only [mendP, h1, true_and, ne_eq, h2, not_true_eq_false, if_false, this, false_and, decide_true]
theorem mend_ok (b : Nat) (pre seg post : List Cell) (hl : (seg.length : Int) ≤ 1000000000) : ACalls Tryd.prog W 43 [.rsl b 4 pre.length seg.length] [⟨b, .row 4 ((pre ++ seg ++ post).map encCell) 0⟩]
    (Gives (fun _ : Unit => .tup []) (fun _ => [⟨b, .row 4 ((pre ++ mendL seg ++ post).map encCell) 0⟩]) (fun _ => True)) := by
  rw [show pre ++ seg ++ post = pre ++ [] ++ seg ++ post by simp]
  refine acalls_of_vc (drawOk W) Tryd.func43 rfl (by decide) (by decide) rfl ?_
  (refine g0_ ?_; repeat ((first | refine n1_ fun b_ => ?_ | refine n2_ fun b_ => ?_ | refine n3_ fun b_ pre_ => ?_ | refine Nat1.mk fun q_ hq_ => ?_ | refine em_ fun x_ hx_ => ?_ | refine Elem1.mk fun e_ he_ => ?_); refine g0_ ?_))
  refine' loopI (α := (List Cell) × (List Cell) × Bool) (fun (d, r, p) => [(6, .int .i64 d.length)]) [(0, _), (5, _)] (fun (d, r, p) => [⟨b, .row 4 ((pre ++ d ++ r ++ post).map encCell) 0⟩]) (fun (d, r, p) => d.length + r.length = seg.length ∧ d ++ mendP p r = mendL seg ∧ (∀ x d', d = d' ++ [x] → p = decide (widthL x.r = 2)) ∧ (d = [] → p = false)) (fun (d, r, p) => r.length) ([], seg, false) ?_ ?_
  · exact ⟨by simp, rfl, by simp, fun _ => rfl⟩
  rintro ⟨d, r, p⟩ ⟨hn, hw, hp, hp0⟩
  rcases r with _ | ⟨c, r⟩
  · (refine g0_ ?_; repeat ((first | refine n1_ fun b_ => ?_ | refine n2_ fun b_ => ?_ | refine n3_ fun b_ pre_ => ?_ | refine Nat1.mk fun q_ hq_ => ?_ | refine em_ fun x_ hx_ => ?_ | refine Elem1.mk fun e_ he_ => ?_); refine g0_ ?_))
    refine brec ?_; intro c_ h; (try rw [h]); cases c_ <;> replace h := nm_ h
    · simp at h hn
      (refine g0_ ?_; repeat ((first | refine n1_ fun b_ => ?_ | refine n2_ fun b_ => ?_ | refine n3_ fun b_ pre_ => ?_ | refine Nat1.mk fun q_ hq_ => ?_ | refine em_ fun x_ hx_ => ?_ | refine Elem1.mk fun e_ he_ => ?_); refine g0_ ?_))
      rw [mendP, List.append_nil] at hw
      rw [hw]
      exact Gives.mk () trivial rfl (by simp; exact wkMem.rfl')
    · simp at h hn
      omega
  · have h0 : (pre ++ d ++ c :: r ++ post)[pre.length + d.length]? = some c := by simp
    (refine g0_ ?_; repeat ((first | refine n1_ fun b_ => ?_ | refine n2_ fun b_ => ?_ | refine n3_ fun b_ pre_ => ?_ | refine Nat1.mk fun q_ hq_ => ?_ | refine em_ fun x_ hx_ => ?_ | refine Elem1.mk fun e_ he_ => ?_); refine g0_ ?_))
    refine brec ?_; intro c_ h; (try rw [h]); cases c_ <;> replace h := nm_ h
    · simp at h hn; omega
    · (refine g0_ ?_; repeat ((first | refine n1_ fun b_ => ?_ | refine n2_ fun b_ => ?_ | refine n3_ fun b_ pre_ => ?_ | refine Nat1.mk fun q_ hq_ => ?_ | refine em_ fun x_ hx_ => ?_ | refine Elem1.mk fun e_ he_ => ?_); refine g0_ ?_))
      refine (width_ok W c.r).use ?_; (refine g0_ ?_; repeat ((first | refine n1_ fun b_ => ?_ | refine n2_ fun b_ => ?_ | refine n3_ fun b_ pre_ => ?_ | refine Nat1.mk fun q_ hq_ => ?_ | refine em_ fun x_ hx_ => ?_ | refine Elem1.mk fun e_ he_ => ?_); refine g0_ ?_))
      rcases r with _ | ⟨c2, r⟩
      · have hlen : d.length + 1 = seg.length := by simpa using hn
        (refine g0_ ?_; repeat ((first | refine n1_ fun b_ => ?_ | refine n2_ fun b_ => ?_ | refine n3_ fun b_ pre_ => ?_ | refine Nat1.mk fun q_ hq_ => ?_ | refine em_ fun x_ hx_ => ?_ | refine Elem1.mk fun e_ he_ => ?_); refine g0_ ?_))
        (refine g1_ ?_; repeat ((first | refine n1_ fun b_ => ?_ | refine n2_ fun b_ => ?_ | refine n3_ fun b_ pre_ => ?_ | refine Nat1.mk fun q_ hq_ => ?_ | refine em_ fun x_ hx_ => ?_ | refine Elem1.mk fun e_ he_ => ?_); refine g1_ ?_))
        refine brec ?_; intro c_ h3; (try rw [h3]); cases c_ <;> replace h3 := nm_ h3
        · (refine g0_ ?_; repeat ((first | refine n1_ fun b_ => ?_ | refine n2_ fun b_ => ?_ | refine n3_ fun b_ pre_ => ?_ | refine Nat1.mk fun q_ hq_ => ?_ | refine em_ fun x_ hx_ => ?_ | refine Elem1.mk fun e_ he_ => ?_); refine g0_ ?_))
          refine brec ?_; intro c_ h4; (try rw [h4]); cases c_ <;> replace h4 := nm_ h4
          · (refine g0_ ?_; repeat ((first | refine n1_ fun b_ => ?_ | refine n2_ fun b_ => ?_ | refine n3_ fun b_ pre_ => ?_ | refine Nat1.mk fun q_ hq_ => ?_ | refine em_ fun x_ hx_ => ?_ | refine Elem1.mk fun e_ he_ => ?_); refine g0_ ?_))
            (refine g1_ ?_; repeat ((first | refine n1_ fun b_ => ?_ | refine n2_ fun b_ => ?_ | refine n3_ fun b_ pre_ => ?_ | refine Nat1.mk fun q_ hq_ => ?_ | refine em_ fun x_ hx_ => ?_ | refine Elem1.mk fun e_ he_ => ?_); refine g1_ ?_))
            obtain ⟨d', hd'⟩ := last_at hx_ (by omega)
            have hp1 := hp _ _ hd'
            refine (width_ok W x_.r).use ?_; (refine g0_ ?_; repeat ((first | refine n1_ fun b_ => ?_ | refine n2_ fun b_ => ?_ | refine n3_ fun b_ pre_ => ?_ | refine Nat1.mk fun q_ hq_ => ?_ | refine em_ fun x_ hx_ => ?_ | refine Elem1.mk fun e_ he_ => ?_); refine g0_ ?_))
            (refine g1_ ?_; repeat ((first | refine n1_ fun b_ => ?_ | refine n2_ fun b_ => ?_ | refine n3_ fun b_ pre_ => ?_ | refine Nat1.mk fun q_ hq_ => ?_ | refine em_ fun x_ hx_ => ?_ | refine Elem1.mk fun e_ he_ => ?_); refine g1_ ?_))
            refine brec ?_; intro c_ h6; (try rw [h6]); cases c_ <;> replace h6 := nm_ h6
            · have hp2 : p = true := by rw [hp1]; simp; omega
              have hm := mendP_keep (r := []) (show widthL c.r ≠ 2 by omega) (show ¬ (c.r = 0 ∧ p = false) by simp [hp2])
              (refine g0_ ?_; repeat ((first | refine n1_ fun b_ => ?_ | refine n2_ fun b_ => ?_ | refine n3_ fun b_ pre_ => ?_ | refine Nat1.mk fun q_ hq_ => ?_ | refine em_ fun x_ hx_ => ?_ | refine Elem1.mk fun e_ he_ => ?_); refine g0_ ?_))
              dsimp only
              first | rw [set_blank] | rw [shift_mid]
              refine nx_ (d ++ [c], [], false) ?_ ?_
              · refine ⟨by simp at hn ⊢; omega, by rw [← hw, hm, List.append_assoc]; rfl, fun x d'' h => ?_, fun h => by simp at h⟩
                have h' := (List.append_inj' h rfl).2
                simp only [List.cons.injEq, and_true] at h'
                subst h'
                first | (simp [*]; done) | (simp [Cell.blank, w32]; done) | (simp; omega)
              · simp
            · have hp2 : p = false := by rw [hp1]; simp; omega
              have hm := mendP_blank0 (c := c) (r := []) (by omega) hp2
              (refine g0_ ?_; repeat ((first | refine n1_ fun b_ => ?_ | refine n2_ fun b_ => ?_ | refine n3_ fun b_ pre_ => ?_ | refine Nat1.mk fun q_ hq_ => ?_ | refine em_ fun x_ hx_ => ?_ | refine Elem1.mk fun e_ he_ => ?_); refine g0_ ?_))
              dsimp only
              first | rw [set_blank] | rw [shift_mid]
              refine nx_ (d ++ [c.blank], [], false) ?_ ?_
              · refine ⟨by simp at hn ⊢; omega, by rw [← hw, hm, List.append_assoc]; rfl, fun x d'' h => ?_, fun h => by simp at h⟩
                have h' := (List.append_inj' h rfl).2
                simp only [List.cons.injEq, and_true] at h'
                subst h'
                first | (simp [*]; done) | (simp [Cell.blank, w32]; done) | (simp; omega)
              · simp
          · (refine g0_ ?_; repeat ((first | refine n1_ fun b_ => ?_ | refine n2_ fun b_ => ?_ | refine n3_ fun b_ pre_ => ?_ | refine Nat1.mk fun q_ hq_ => ?_ | refine em_ fun x_ hx_ => ?_ | refine Elem1.mk fun e_ he_ => ?_); refine g0_ ?_))
            (refine g1_ ?_; repeat ((first | refine n1_ fun b_ => ?_ | refine n2_ fun b_ => ?_ | refine n3_ fun b_ pre_ => ?_ | refine Nat1.mk fun q_ hq_ => ?_ | refine em_ fun x_ hx_ => ?_ | refine Elem1.mk fun e_ he_ => ?_); refine g1_ ?_))
            refine brec ?_; intro c_ h5; (try rw [h5]); cases c_ <;> replace h5 := nm_ h5
            · (refine g0_ ?_; repeat ((first | refine n1_ fun b_ => ?_ | refine n2_ fun b_ => ?_ | refine n3_ fun b_ pre_ => ?_ | refine Nat1.mk fun q_ hq_ => ?_ | refine em_ fun x_ hx_ => ?_ | refine Elem1.mk fun e_ he_ => ?_); refine g0_ ?_))
              have hm := mendP_keep (p := p) (r := []) (show widthL c.r ≠ 2 by omega) (by rintro ⟨h, -⟩; omega)
              dsimp only
              first | rw [set_blank] | rw [shift_mid]
              refine nx_ (d ++ [c], [], false) ?_ ?_
              · refine ⟨by simp at hn ⊢; omega, by rw [← hw, hm, List.append_assoc]; rfl, fun x d'' h => ?_, fun h => by simp at h⟩
                have h' := (List.append_inj' h rfl).2
                simp only [List.cons.injEq, and_true] at h'
                subst h'
                first | (simp [*]; done) | (simp [Cell.blank, w32]; done) | (simp; omega)
              · simp
            · have hp2 : p = false := hp0 (List.eq_nil_of_length_eq_zero (by omega))
              have hm := mendP_blank0 (c := c) (r := []) (by omega) hp2
              (refine g0_ ?_; repeat ((first | refine n1_ fun b_ => ?_ | refine n2_ fun b_ => ?_ | refine n3_ fun b_ pre_ => ?_ | refine Nat1.mk fun q_ hq_ => ?_ | refine em_ fun x_ hx_ => ?_ | refine Elem1.mk fun e_ he_ => ?_); refine g0_ ?_))
              dsimp only
              first | rw [set_blank] | rw [shift_mid]
              refine nx_ (d ++ [c.blank], [], false) ?_ ?_
              · refine ⟨by simp at hn ⊢; omega, by rw [← hw, hm, List.append_assoc]; rfl, fun x d'' h => ?_, fun h => by simp at h⟩
                have h' := (List.append_inj' h rfl).2
                simp only [List.cons.injEq, and_true] at h'
                subst h'
                first | (simp [*]; done) | (simp [Cell.blank, w32]; done) | (simp; omega)
              · simp
        · have hm := mendP_blank2 (p := p) (c := c) (r := []) (by omega) (by simp)
          (refine g0_ ?_; repeat ((first | refine n1_ fun b_ => ?_ | refine n2_ fun b_ => ?_ | refine n3_ fun b_ pre_ => ?_ | refine Nat1.mk fun q_ hq_ => ?_ | refine em_ fun x_ hx_ => ?_ | refine Elem1.mk fun e_ he_ => ?_); refine g0_ ?_))
          (refine g1_ ?_; repeat ((first | refine n1_ fun b_ => ?_ | refine n2_ fun b_ => ?_ | refine n3_ fun b_ pre_ => ?_ | refine Nat1.mk fun q_ hq_ => ?_ | refine em_ fun x_ hx_ => ?_ | refine Elem1.mk fun e_ he_ => ?_); refine g1_ ?_))
          dsimp only
          first | rw [set_blank] | rw [shift_mid]
          refine nx_ (d ++ [c.blank], [], false) ?_ ?_
          · refine ⟨by simp at hn ⊢; omega, by rw [← hw, hm, List.append_assoc]; rfl, fun x d'' h => ?_, fun h => by simp at h⟩
            have h' := (List.append_inj' h rfl).2
            simp only [List.cons.injEq, and_true] at h'
            subst h'
            first | (simp [*]; done) | (simp [Cell.blank, w32]; done) | (simp; omega)
          · simp
      · have h1 : (pre ++ d ++ c :: c2 :: r ++ post)[pre.length + (d.length + 1)]? = some c2 := by simp [List.getElem?_append]
        have hlen : d.length + 1 < seg.length := by simp at hn; omega
        (refine g0_ ?_; repeat ((first | refine n1_ fun b_ => ?_ | refine n2_ fun b_ => ?_ | refine n3_ fun b_ pre_ => ?_ | refine Nat1.mk fun q_ hq_ => ?_ | refine em_ fun x_ hx_ => ?_ | refine Elem1.mk fun e_ he_ => ?_); refine g0_ ?_))
        (refine g1_ ?_; repeat ((first | refine n1_ fun b_ => ?_ | refine n2_ fun b_ => ?_ | refine n3_ fun b_ pre_ => ?_ | refine Nat1.mk fun q_ hq_ => ?_ | refine em_ fun x_ hx_ => ?_ | refine Elem1.mk fun e_ he_ => ?_); refine g1_ ?_))
        refine brec ?_; intro c_ h2; (try rw [h2]); cases c_ <;> replace h2 := nm_ h2
        · have hc0 : ¬ c.r = 0 := fun e => by rw [e, w0] at h2; omega
          (refine g0_ ?_; repeat ((first | refine n1_ fun b_ => ?_ | refine n2_ fun b_ => ?_ | refine n3_ fun b_ pre_ => ?_ | refine Nat1.mk fun q_ hq_ => ?_ | refine em_ fun x_ hx_ => ?_ | refine Elem1.mk fun e_ he_ => ?_); refine g0_ ?_))
          (refine g1_ ?_; repeat ((first | refine n1_ fun b_ => ?_ | refine n2_ fun b_ => ?_ | refine n3_ fun b_ pre_ => ?_ | refine Nat1.mk fun q_ hq_ => ?_ | refine em_ fun x_ hx_ => ?_ | refine Elem1.mk fun e_ he_ => ?_); refine g1_ ?_))
          refine brec ?_; intro c_ h3; (try rw [h3]); cases c_ <;> replace h3 := nm_ h3
          · have hm := mendP_wide (p := p) (c := c) (r := r) (by omega) (show c2.r = 0 by omega)
            (refine g0_ ?_; repeat ((first | refine n1_ fun b_ => ?_ | refine n2_ fun b_ => ?_ | refine n3_ fun b_ pre_ => ?_ | refine Nat1.mk fun q_ hq_ => ?_ | refine em_ fun x_ hx_ => ?_ | refine Elem1.mk fun e_ he_ => ?_); refine g0_ ?_))
            (refine g1_ ?_; repeat ((first | refine n1_ fun b_ => ?_ | refine n2_ fun b_ => ?_ | refine n3_ fun b_ pre_ => ?_ | refine Nat1.mk fun q_ hq_ => ?_ | refine em_ fun x_ hx_ => ?_ | refine Elem1.mk fun e_ he_ => ?_); refine g1_ ?_))
            dsimp only
            first | rw [set_blank] | rw [shift_mid]
            refine nx_ (d ++ [c], (c2 :: r), true) ?_ ?_
            · refine ⟨by simp at hn ⊢; omega, by rw [← hw, hm, List.append_assoc]; rfl, fun x d'' h => ?_, fun h => by simp at h⟩
              have h' := (List.append_inj' h rfl).2
              simp only [List.cons.injEq, and_true] at h'
              subst h'
              first | (simp [*]; done) | (simp [Cell.blank, w32]; done) | (simp; omega)
            · simp
          · have hm := mendP_blank2 (p := p) (c := c) (r := c2 :: r) (by omega) (by simp; omega)
            (refine g0_ ?_; repeat ((first | refine n1_ fun b_ => ?_ | refine n2_ fun b_ => ?_ | refine n3_ fun b_ pre_ => ?_ | refine Nat1.mk fun q_ hq_ => ?_ | refine em_ fun x_ hx_ => ?_ | refine Elem1.mk fun e_ he_ => ?_); refine g0_ ?_))
            (refine g1_ ?_; repeat ((first | refine n1_ fun b_ => ?_ | refine n2_ fun b_ => ?_ | refine n3_ fun b_ pre_ => ?_ | refine Nat1.mk fun q_ hq_ => ?_ | refine em_ fun x_ hx_ => ?_ | refine Elem1.mk fun e_ he_ => ?_); refine g1_ ?_))
            dsimp only
            first | rw [set_blank] | rw [shift_mid]
            refine nx_ (d ++ [c.blank], (c2 :: r), false) ?_ ?_
            · refine ⟨by simp at hn ⊢; omega, by rw [← hw, hm, List.append_assoc]; rfl, fun x d'' h => ?_, fun h => by simp at h⟩
              have h' := (List.append_inj' h rfl).2
              simp only [List.cons.injEq, and_true] at h'
              subst h'
              first | (simp [*]; done) | (simp [Cell.blank, w32]; done) | (simp; omega)
            · simp
        · (refine g0_ ?_; repeat ((first | refine n1_ fun b_ => ?_ | refine n2_ fun b_ => ?_ | refine n3_ fun b_ pre_ => ?_ | refine Nat1.mk fun q_ hq_ => ?_ | refine em_ fun x_ hx_ => ?_ | refine Elem1.mk fun e_ he_ => ?_); refine g0_ ?_))
          (refine g1_ ?_; repeat ((first | refine n1_ fun b_ => ?_ | refine n2_ fun b_ => ?_ | refine n3_ fun b_ pre_ => ?_ | refine Nat1.mk fun q_ hq_ => ?_ | refine em_ fun x_ hx_ => ?_ | refine Elem1.mk fun e_ he_ => ?_); refine g1_ ?_))
          refine brec ?_; intro c_ h4; (try rw [h4]); cases c_ <;> replace h4 := nm_ h4
          · (refine g0_ ?_; repeat ((first | refine n1_ fun b_ => ?_ | refine n2_ fun b_ => ?_ | refine n3_ fun b_ pre_ => ?_ | refine Nat1.mk fun q_ hq_ => ?_ | refine em_ fun x_ hx_ => ?_ | refine Elem1.mk fun e_ he_ => ?_); refine g0_ ?_))
            (refine g1_ ?_; repeat ((first | refine n1_ fun b_ => ?_ | refine n2_ fun b_ => ?_ | refine n3_ fun b_ pre_ => ?_ | refine Nat1.mk fun q_ hq_ => ?_ | refine em_ fun x_ hx_ => ?_ | refine Elem1.mk fun e_ he_ => ?_); refine g1_ ?_))
            obtain ⟨d', hd'⟩ := last_at hx_ (by omega)
            have hp1 := hp _ _ hd'
            refine (width_ok W x_.r).use ?_; (refine g0_ ?_; repeat ((first | refine n1_ fun b_ => ?_ | refine n2_ fun b_ => ?_ | refine n3_ fun b_ pre_ => ?_ | refine Nat1.mk fun q_ hq_ => ?_ | refine em_ fun x_ hx_ => ?_ | refine Elem1.mk fun e_ he_ => ?_); refine g0_ ?_))
            (refine g1_ ?_; repeat ((first | refine n1_ fun b_ => ?_ | refine n2_ fun b_ => ?_ | refine n3_ fun b_ pre_ => ?_ | refine Nat1.mk fun q_ hq_ => ?_ | refine em_ fun x_ hx_ => ?_ | refine Elem1.mk fun e_ he_ => ?_); refine g1_ ?_))
            refine brec ?_; intro c_ h6; (try rw [h6]); cases c_ <;> replace h6 := nm_ h6
            · have hp2 : p = true := by rw [hp1]; simp; omega
              have hm := mendP_keep (r := c2 :: r) (show widthL c.r ≠ 2 by omega) (show ¬ (c.r = 0 ∧ p = false) by simp [hp2])
              (refine g0_ ?_; repeat ((first | refine n1_ fun b_ => ?_ | refine n2_ fun b_ => ?_ | refine n3_ fun b_ pre_ => ?_ | refine Nat1.mk fun q_ hq_ => ?_ | refine em_ fun x_ hx_ => ?_ | refine Elem1.mk fun e_ he_ => ?_); refine g0_ ?_))
              dsimp only
              first | rw [set_blank] | rw [shift_mid]
              refine nx_ (d ++ [c], (c2 :: r), false) ?_ ?_
              · refine ⟨by simp at hn ⊢; omega, by rw [← hw, hm, List.append_assoc]; rfl, fun x d'' h => ?_, fun h => by simp at h⟩
                have h' := (List.append_inj' h rfl).2
                simp only [List.cons.injEq, and_true] at h'
                subst h'
                first | (simp [*]; done) | (simp [Cell.blank, w32]; done) | (simp; omega)
              · simp
            · have hp2 : p = false := by rw [hp1]; simp; omega
              have hm := mendP_blank0 (c := c) (r := c2 :: r) (by omega) hp2
              (refine g0_ ?_; repeat ((first | refine n1_ fun b_ => ?_ | refine n2_ fun b_ => ?_ | refine n3_ fun b_ pre_ => ?_ | refine Nat1.mk fun q_ hq_ => ?_ | refine em_ fun x_ hx_ => ?_ | refine Elem1.mk fun e_ he_ => ?_); refine g0_ ?_))
              dsimp only
              first | rw [set_blank] | rw [shift_mid]
              refine nx_ (d ++ [c.blank], (c2 :: r), false) ?_ ?_
              · refine ⟨by simp at hn ⊢; omega, by rw [← hw, hm, List.append_assoc]; rfl, fun x d'' h => ?_, fun h => by simp at h⟩
                have h' := (List.append_inj' h rfl).2
                simp only [List.cons.injEq, and_true] at h'
                subst h'
                first | (simp [*]; done) | (simp [Cell.blank, w32]; done) | (simp; omega)
              · simp
          · (refine g0_ ?_; repeat ((first | refine n1_ fun b_ => ?_ | refine n2_ fun b_ => ?_ | refine n3_ fun b_ pre_ => ?_ | refine Nat1.mk fun q_ hq_ => ?_ | refine em_ fun x_ hx_ => ?_ | refine Elem1.mk fun e_ he_ => ?_); refine g0_ ?_))
            (refine g1_ ?_; repeat ((first | refine n1_ fun b_ => ?_ | refine n2_ fun b_ => ?_ | refine n3_ fun b_ pre_ => ?_ | refine Nat1.mk fun q_ hq_ => ?_ | refine em_ fun x_ hx_ => ?_ | refine Elem1.mk fun e_ he_ => ?_); refine g1_ ?_))
            refine brec ?_; intro c_ h5; (try rw [h5]); cases c_ <;> replace h5 := nm_ h5
            · (refine g0_ ?_; repeat ((first | refine n1_ fun b_ => ?_ | refine n2_ fun b_ => ?_ | refine n3_ fun b_ pre_ => ?_ | refine Nat1.mk fun q_ hq_ => ?_ | refine em_ fun x_ hx_ => ?_ | refine Elem1.mk fun e_ he_ => ?_); refine g0_ ?_))
              have hm := mendP_keep (p := p) (r := c2 :: r) (show widthL c.r ≠ 2 by omega) (by rintro ⟨h, -⟩; omega)
              dsimp only
              first | rw [set_blank] | rw [shift_mid]
              refine nx_ (d ++ [c], (c2 :: r), false) ?_ ?_
              · refine ⟨by simp at hn ⊢; omega, by rw [← hw, hm, List.append_assoc]; rfl, fun x d'' h => ?_, fun h => by simp at h⟩
                have h' := (List.append_inj' h rfl).2
                simp only [List.cons.injEq, and_true] at h'
                subst h'
                first | (simp [*]; done) | (simp [Cell.blank, w32]; done) | (simp; omega)
              · simp
            · have hp2 : p = false := hp0 (List.eq_nil_of_length_eq_zero (by omega))
              have hm := mendP_blank0 (c := c) (r := c2 :: r) (by omega) hp2
              (refine g0_ ?_; repeat ((first | refine n1_ fun b_ => ?_ | refine n2_ fun b_ => ?_ | refine n3_ fun b_ pre_ => ?_ | refine Nat1.mk fun q_ hq_ => ?_ | refine em_ fun x_ hx_ => ?_ | refine Elem1.mk fun e_ he_ => ?_); refine g0_ ?_))
              dsimp only
              first | rw [set_blank] | rw [shift_mid]
              refine nx_ (d ++ [c.blank], (c2 :: r), false) ?_ ?_
              · refine ⟨by simp at hn ⊢; omega, by rw [← hw, hm, List.append_assoc]; rfl, fun x d'' h => ?_, fun h => by simp at h⟩
                have h' := (List.append_inj' h rfl).2
                simp only [List.cons.injEq, and_true] at h'
                subst h'
                first | (simp [*]; done) | (simp [Cell.blank, w32]; done) | (simp; omega)
              · simp
end Go.Eng.YtjkdkofpabocmaaDoor
end

/- Grids: the law's own copies, compared; rows of a grid. -/
section
namespace Go.Eng.YtjkdkofpabocmaaDoor
open Go Go.Eng Go.Proofs
variable (W : World)
set_option linter.unusedSimpArgs false
set_option maxRecDepth 100000
set_option linter.unusedVariables false
set_option maxHeartbeats 4000000
structure Grid where
  w : Int
  h : Int
  cs : List Cell
  deriving DecidableEq
def Grid.ok (g : Grid) : Prop := i64ok g.w ∧ i64ok g.h ∧ (∀ c ∈ g.cs, c.ok) ∧ g.cs.length * 32 ≤ 140737488355328
def encGrid (g : Grid) : PV := .agg [.int .i64 g.w, .int .i64 g.h, .sl 4 (g.cs.map encCell)]
def Grid.none : Grid := ⟨0, 0, []⟩
theorem copy_ok (w h : Int) (l : List Cell) (h0 : l ≠ []) (hl : l.length * 32 ≤ 140737488355328) : ACalls Tryd.prog W 66 [encGrid ⟨w, h, l⟩] []
    (Gives (fun b : Nat => .agg [.int .i64 w, .int .i64 h, .rsl b 4 0 l.length]) (fun b => [⟨b, .row 4 (l.map encCell) 0⟩]) (fun _ => True)) := by
  refine acalls_of_vc (drawOk W) Tryd.func66 rfl (by decide) (by decide) rfl ?_
  (refine g0_ ?_; repeat ((first | refine n1_ fun b_ => ?_ | refine n2_ fun b_ => ?_ | refine n3_ fun b_ pre_ => ?_ | refine Nat1.mk fun q_ hq_ => ?_ | refine em_ fun x_ hx_ => ?_ | refine Elem1.mk fun e_ he_ => ?_); refine g0_ ?_))
  refine ACalls.give (cloneG_cells W l h0 hl) ?_
  rintro b' -
  rw [List.length_map]
  (refine g0_ ?_; repeat ((first | refine n1_ fun b_ => ?_ | refine n2_ fun b_ => ?_ | refine n3_ fun b_ pre_ => ?_ | refine Nat1.mk fun q_ hq_ => ?_ | refine em_ fun x_ hx_ => ?_ | refine Elem1.mk fun e_ he_ => ?_); refine g0_ ?_))
  exact ⟨b', trivial, rfl, (by (first | exact ⟨_, .refl _⟩ | exact wkMem.rfl' | exact ⟨_, .swap _ _ _⟩ | (repeat (first | exact wkMem.nil _ | exact wkMem.rfl' | exact wk_snoc _ _ _ | exact wk_fam (by assumption) _ _ _ | exact wk_famN (by assumption) _ _ _ | (apply wkMem.cons; (case' hl => (repeat (first | exact .here _ _ _ | apply Look.there)))) | apply wkMem.skip))))⟩
theorem sameGrid_ok (a b : Grid) (ha : a.ok) (hb : b.ok) : Pure Tryd.prog W 16 [encGrid a, encGrid b] (.bool (decide (a = b))) := by
  have e : decide (a = b) = (decide (a.w = b.w) && decide (a.h = b.h) && decide (a.cs = b.cs)) := by
    obtain ⟨a1, a2, a3⟩ := a
    obtain ⟨b1, b2, b3⟩ := b
    simp [Bool.and_assoc]
  rw [e]
  have hla := ha.2.2.2
  refine Pure.of (acalls_of_vc (drawOk W) Tryd.func16 rfl (by decide) (by decide) rfl ?_)
  refine wh ?_; repeat' (first | (refine brec ?_; intro c_ h_; (try rw [h_]); cases c_ <;> (first | replace h_ := of_decide_eq_true h_ | replace h_ := Decidable.not_not.1 (of_decide_eq_false h_) | replace h_ := of_decide_eq_false h_ | (replace h_ := Bool.eq_false_iff.1 h_; simp only [true_and, and_true, Bool.true_and, Bool.and_true, Bool.not_true, Bool.not_false, Bool.and_eq_true, Bool.not_eq_true, Bool.not_eq_false, Bool.or_eq_true, Bool.not_eq_true', Bool.not_eq_false', decide_eq_true_eq, decide_eq_false_iff_not, Decidable.not_not, ne_eq, beq_iff_eq] at h_) | simp only [true_and, and_true, Bool.true_and, Bool.and_true, Bool.not_true, Bool.not_false, Bool.and_eq_true, Bool.not_eq_true, Bool.not_eq_false, Bool.or_eq_true, Bool.not_eq_true', Bool.not_eq_false', decide_eq_true_eq, decide_eq_false_iff_not, Decidable.not_not, ne_eq, beq_iff_eq] at h_ | skip) <;> refine wh ?_) | (refine (equal_cells W a.cs b.cs (by omega) ha.2.2.1 hb.2.2.1).use ?_; refine wh ?_) | ((first | refine CondC.part ?_ | (refine GuardC.part ?_; refine wh ?_; fail_if_success refine brec ?_) | (apply GuardC.sp; (case' h1 => (refine wh ?_; (repeat ((refine need.mk ?_ ?_; focus (first | with_reducible exact fun h => h | with_reducible exact not_of_false | exact fun _ => rfl | (intro h_; simp [h_]; done) | (intro h_; simp_all; done))); refine wh ?_)); exact trivial)); (case' h2 => (intro hg_; (refine wh ?_; repeat ((first | (apply RowAt.mk; (case' hl => (repeat (first | exact .here _ _ _ | apply Look.there | exact Look.fam (by assumption) _)))) | refine Fits.ok (by omega) (by omega) ?_ | (refine need.mk ?_ ?_; focus (first | (first | omega | exact wkMem.skip wkMem.rfl' | rfl | (simp; done) | (simp [cellsB, PV.flat, cellB]; done) | (simp <;> omega) | (simp only [true_and, and_true, Bool.true_and, Bool.and_true, Bool.not_true, Bool.not_false, Bool.and_eq_true, Bool.not_eq_true, Bool.not_eq_false, Bool.or_eq_true, Bool.not_eq_true', Bool.not_eq_false', decide_eq_true_eq, decide_eq_false_iff_not, Decidable.not_not, ne_eq, beq_iff_eq]; omega) | (rw [Bool.eq_false_iff]; simp only [true_and, and_true, Bool.true_and, Bool.and_true, Bool.not_true, Bool.not_false, Bool.and_eq_true, Bool.not_eq_true, Bool.not_eq_false, Bool.or_eq_true, Bool.not_eq_true', Bool.not_eq_false', decide_eq_true_eq, decide_eq_false_iff_not, Decidable.not_not, ne_eq, beq_iff_eq]; omega)) | (simp at hg_; omega) | (intros; simp_all; done) | (intros; simp_all; omega))) | (refine New1.mk fun b_ hb_ => ?_; clear hb_) | (refine New2.mk fun b_ hb_ => ?_; clear hb_) | (refine Nat1.mk fun q_ hq_ => ?_; (first | (obtain rfl := Int.ofNat.inj hq_; clear hq_) | skip)) | refine at_known (by assumption) ?_ | (refine Elem1.mk fun e_ he_ => ?_; (first | (obtain ⟨x_, hx_, rfl⟩ := getMap he_; clear he_) | (obtain rfl := Option.some.inj he_; clear he_) | skip)) | (refine Lst1.mk fun s_ hs_ => ?_; (try simp only [List.take_length, List.drop_zero, ← List.map_take, ← List.map_drop] at hs_); subst hs_)); refine wh ?_)); refine And.intro ?_ rfl; exact Eq.refl _))) | refine GuardC.part ?_ | (refine needO.mk ?_ ?_; focus (refine wh ?_; (repeat ((refine need.mk ?_ ?_; focus (first | with_reducible exact fun h => h | with_reducible exact not_of_false | exact fun _ => rfl | (intro h_; simp [h_]; done) | (intro h_; simp_all; done))); refine wh ?_)); exact trivial)) | with_reducible refine need.mk (fun h => h) ?_ | with_reducible refine need.mk not_of_false ?_ | (apply RowAt.mk; (case' hl => (repeat (first | exact .here _ _ _ | apply Look.there | exact Look.fam (by assumption) _)))) | refine Fits.ok (by omega) (by omega) ?_ | (refine need.mk ?_ ?_; focus (first | omega | exact wkMem.skip wkMem.rfl' | rfl | (simp; done) | (simp [cellsB, PV.flat, cellB]; done) | (simp <;> omega) | (simp only [true_and, and_true, Bool.true_and, Bool.and_true, Bool.not_true, Bool.not_false, Bool.and_eq_true, Bool.not_eq_true, Bool.not_eq_false, Bool.or_eq_true, Bool.not_eq_true', Bool.not_eq_false', decide_eq_true_eq, decide_eq_false_iff_not, Decidable.not_not, ne_eq, beq_iff_eq]; omega) | (rw [Bool.eq_false_iff]; simp only [true_and, and_true, Bool.true_and, Bool.and_true, Bool.not_true, Bool.not_false, Bool.and_eq_true, Bool.not_eq_true, Bool.not_eq_false, Bool.or_eq_true, Bool.not_eq_true', Bool.not_eq_false', decide_eq_true_eq, decide_eq_false_iff_not, Decidable.not_not, ne_eq, beq_iff_eq]; omega))) | (refine New1.mk fun b_ hb_ => ?_; clear hb_) | (refine New2.mk fun b_ hb_ => ?_; clear hb_) | (refine Nat1.mk fun q_ hq_ => ?_; (first | (obtain rfl := Int.ofNat.inj hq_; clear hq_) | skip)) | refine at_known (by assumption) ?_ | (refine Elem1.mk fun e_ he_ => ?_; (first | (obtain ⟨x_, hx_, rfl⟩ := getMap he_; clear he_) | (obtain rfl := Option.some.inj he_; clear he_) | skip)) | (refine Lst1.mk fun s_ hs_ => ?_; (try simp only [List.take_length, List.drop_zero, ← List.map_take, ← List.map_drop] at hs_); subst hs_)); refine wh ?_) | (((refine Frz.of_eq ?_; (conv => lhs; whnf)); simp [*]); done))
def clampL (x : Int) : Int := min (max x (-1000)) 1000
theorem clamp_ok (x : Int) : Pure Tryd.prog W 68 [.int .i64 x] (.int .i64 (clampL x)) := by
  refine Pure.of (acalls_of_vc (drawOk W) Tryd.func68 rfl (by decide) (by decide) rfl ?_)
  (refine g0_ ?_; repeat ((first | refine n1_ fun b_ => ?_ | refine n2_ fun b_ => ?_ | refine n3_ fun b_ pre_ => ?_ | refine Nat1.mk fun q_ hq_ => ?_ | refine em_ fun x_ hx_ => ?_ | refine Elem1.mk fun e_ he_ => ?_); refine g0_ ?_))
  exact Frz.of_eq (by congr 1; unfold clampL; simp only [Int.min_def, Int.max_def]; (repeat' split) <;> omega)
def sizeB (w h : Int) : Bool := decide (1 ≤ w) && decide (w ≤ 120) && decide (1 ≤ h) && decide (h ≤ 60)
/-- A row of a grid of the call's own. -/
theorem rowOwn_ok (b n w y : Nat) (h : Int) (hn : (y + 1) * w ≤ n) (hb : n ≤ 1000000000) (hw : w ≤ 1000) (hy : y ≤ 1000) : Pure Tryd.prog W 42 [.agg [.int .i64 w, .int .i64 h, .rsl b 4 0 n], .int .i64 y] (.rsl b 4 (y * w) w) := by
  have h1 : (y : Int) * w ≤ ((y : Int) + 1) * w := Int.mul_le_mul_of_nonneg_right (by omega) (by omega)
  have h2 : ((y : Int) + 1) * w ≤ n := by exact_mod_cast hn
  have h3 : 0 ≤ (y : Int) * w := Int.mul_nonneg (by omega) (by omega)
  refine Pure.of (acalls_of_vc (drawOk W) Tryd.func42 rfl (by decide) (by decide) rfl ?_)
  (refine g0_ ?_; repeat ((first | refine n1_ fun b_ => ?_ | refine n2_ fun b_ => ?_ | refine n3_ fun b_ pre_ => ?_ | refine Nat1.mk fun q_ hq_ => ?_ | refine em_ fun x_ hx_ => ?_ | refine Elem1.mk fun e_ he_ => ?_); refine g0_ ?_))
  rw [Nat.zero_add, show (y + 1) * w - y * w = w by rw [Nat.succ_mul]; omega]
  exact .refl _
theorem row_ok (w y : Nat) (h : Int) (l : List Cell) (hn : (y + 1) * w ≤ l.length) (hb : l.length ≤ 1000000000) (hw : w ≤ 1000) (hy : y ≤ 1000) : Pure Tryd.prog W 42 [.agg [.int .i64 w, .int .i64 h, .sl 4 (l.map encCell)], .int .i64 y] (.sl 4 (((l.drop (y * w)).take w).map encCell)) := by
  have h1 : (y : Int) * w ≤ ((y : Int) + 1) * w := Int.mul_le_mul_of_nonneg_right (by omega) (by omega)
  have h2 : ((y : Int) + 1) * w ≤ l.length := by exact_mod_cast hn
  have h3 : 0 ≤ (y : Int) * w := Int.mul_nonneg (by omega) (by omega)
  have hlen : (l.map encCell).length = l.length := List.length_map ..
  refine Pure.of (acalls_of_vc (drawOk W) Tryd.func42 rfl (by decide) (by decide) rfl ?_)
  (refine g0_ ?_; repeat ((first | refine n1_ fun b_ => ?_ | refine n2_ fun b_ => ?_ | refine n3_ fun b_ pre_ => ?_ | refine Nat1.mk fun q_ hq_ => ?_ | refine em_ fun x_ hx_ => ?_ | refine Elem1.mk fun e_ he_ => ?_); refine g0_ ?_))
  rw [List.drop_take, show (y + 1) * w - y * w = w by rw [Nat.succ_mul]; omega]
  exact .refl _
end Go.Eng.YtjkdkofpabocmaaDoor
end

/- Grids checked: what is answered. -/
section
namespace Go.Eng.YtjkdkofpabocmaaDoor
open Go Go.Eng Go.Proofs
def badCell (c : Cell) : Prop := (c.r ≠ 0 ∧ widthL c.r = 0) ∨ checkStyle c.s = false
instance (c : Cell) : Decidable (badCell c) := inferInstanceAs (Decidable (_ ∨ _))
def leftOk (cs : List Cell) (i : Nat) (c : Cell) : Prop := match cs[i - 1]? with | some p => widthL p.r = 2 ∧ p.s = c.s | none => False
def rightOk (cs : List Cell) (i : Nat) : Prop := match cs[i + 1]? with | some d => d.r = 0 | none => False
instance (cs : List Cell) (i : Nat) (c : Cell) : Decidable (leftOk cs i c) := by unfold leftOk; split <;> infer_instance
instance (cs : List Cell) (i : Nat) : Decidable (rightOk cs i) := by unfold rightOk; split <;> infer_instance
/-- Half a rune. -/
def halfCell (w : Nat) (cs : List Cell) (i : Nat) (c : Cell) : Prop := (c.r = 0 ∧ (i % w = 0 ∨ ¬ leftOk cs i c)) ∨ (widthL c.r = 2 ∧ (i % w = w - 1 ∨ ¬ rightOk cs i))
instance (w : Nat) (cs : List Cell) (i : Nat) (c : Cell) : Decidable (halfCell w cs i c) := inferInstanceAs (Decidable (_ ∨ _))
def errFrom (w : Nat) (cs : List Cell) : Nat → List Cell → Int
  | _, [] => 0
  | i, c :: r => if badCell c then 4 else if halfCell w cs i c then 5 else errFrom w cs (i + 1) r
/-- What a grid's check answers. -/
def checkG (g : Grid) : Int := if sizeB g.w g.h = true ∧ (g.cs.length : Int) = g.w * g.h then errFrom g.w.toNat g.cs 0 g.cs else 3
theorem last_mod {w h i : Nat} (hi : i < w * h) (h2 : ¬ i + 1 < w * h) : i % w = w - 1 := by
  rcases h with _ | k
  · simp at hi
  have hw : 0 < w := by rcases w with _ | w <;> simp at hi ⊢
  have : i = w * k + (w - 1) := by rw [Nat.mul_succ] at hi h2; omega
  rw [this, Nat.mul_add_mod, Nat.mod_eq_of_lt (by omega)]
theorem tmod_nat (i w : Nat) : (i : Int).tmod w = ((i % w : Nat) : Int) := (Int.ofNat_tmod i w).symm
end Go.Eng.YtjkdkofpabocmaaDoor
end

/- Grids as rows: what is made of them; plain. -/
section
namespace Go.Eng.YtjkdkofpabocmaaDoor
open Go Go.Eng Go.Proofs
/-! ### Something done to one element after the other -/
section
variable {α : Type}
/-- Done to the first n. -/
def upto (p : Nat → α → α) (n : Nat) (l : List α) : List α := l.mapIdx fun k d => if k < n then p k d else d
theorem upto_len (p : Nat → α → α) (n : Nat) (l : List α) : (upto p n l).length = l.length := by simp [upto]
theorem upto_get (p : Nat → α → α) (n : Nat) (l : List α) (k : Nat) : (upto p n l)[k]? = (l[k]?).map fun d => if k < n then p k d else d := by simp [upto, List.getElem?_mapIdx]
theorem upto_from {p : Nat → α → α} {n : Nat} {l : List α} (h : ∀ k d, l[k]? = some d → k < n → p k d = d) : upto p n l = l := by
  refine List.ext_getElem? fun k => ?_
  rw [upto_get]
  cases hk : l[k]? with
  | none => rfl
  | some d =>
    simp only [Option.map_some, Option.some.injEq]
    split
    · exact h k d hk ‹_›
    · rfl
theorem upto_zero (p : Nat → α → α) (l : List α) : upto p 0 l = l := upto_from fun _ _ _ h => by omega
theorem upto_all {p : Nat → α → α} {n : Nat} {l : List α} (h : ∀ k d, l[k]? = some d → n ≤ k → p k d = d) : upto p n l = l.mapIdx p := by
  refine List.ext_getElem? fun k => ?_
  rw [upto_get, List.getElem?_mapIdx]
  cases hk : l[k]? with
  | none => rfl
  | some d =>
    simp only [Option.map_some, Option.some.injEq]
    split
    · rfl
    · exact (h k d hk (by omega)).symm
theorem upto_end {p : Nat → α → α} {n : Nat} {l : List α} (h : l.length ≤ n) : upto p n l = l.mapIdx p :=
  upto_all fun k d hk hn => by have := lt_of_at hk; omega
theorem upto_same {p : Nat → α → α} {n : Nat} {l : List α} {d : α} (h : l[n]? = some d) (hp : p n d = d) : upto p (n + 1) l = upto p n l := by
  refine List.ext_getElem? fun k => ?_
  rw [upto_get, upto_get]
  cases hk : l[k]? with
  | none => rfl
  | some e =>
    simp only [Option.map_some, Option.some.injEq]
    by_cases e1 : k = n
    · subst e1
      rw [h] at hk
      obtain rfl := Option.some.inj hk
      simp [hp]
    · by_cases h1 : k < n
      · rw [if_pos (by omega), if_pos h1]
      · rw [if_neg (by omega), if_neg h1]
theorem upto_set {p : Nat → α → α} {n : Nat} {l : List α} {d : α} (h : l[n]? = some d) : upto p (n + 1) l = (upto p n l).set n (p n d) := by
  have hn := lt_of_at h
  refine List.ext_getElem? fun k => ?_
  rw [upto_get, List.getElem?_set, upto_len]
  by_cases e1 : n = k
  · subst e1
    rw [if_pos rfl, if_pos hn, h]
    simp
  · rw [if_neg e1, upto_get]
    cases hk : l[k]? with
    | none => rfl
    | some e =>
      simp only [Option.map_some, Option.some.injEq]
      by_cases h1 : k < n
      · rw [if_pos (by omega), if_pos h1]
      · rw [if_neg (by omega), if_neg h1]
theorem upto_at (p : Nat → α → α) {n : Nat} {l : List α} {d : α} (h : l[n]? = some d) : (upto p n l)[n]? = some d := by
  rw [upto_get, h]; simp
end
/-! ### Mended as the document mends -/
def mendR : List Cell → List Cell
  | [] => []
  | [c] => if widthL c.r = 2 then [c.blank] else if c.r = 0 then [c.blank] else [c]
  | c :: d :: r => if widthL c.r = 2 then (if d.r = 0 then c :: d :: mendR r else c.blank :: mendR (d :: r)) else if c.r = 0 then c.blank :: mendR (d :: r) else c :: mendR (d :: r)
theorem w00 : widthL 0 = 0 := by decide +kernel
theorem mendP_R : ∀ (n : Nat) (l : List Cell), l.length ≤ n → mendP false l = mendR l
  | 0, l, h => by rw [List.eq_nil_of_length_eq_zero (by omega : l.length = 0)]; rfl
  | n + 1, [], _ => rfl
  | n + 1, [c], _ => by simp [mendP, mendR]
  | n + 1, c :: d :: r, h => by
    simp only [List.length_cons] at h
    have i1 := mendP_R n (d :: r) (by simp; omega)
    have i2 := mendP_R n r (by omega)
    by_cases h1 : widthL c.r = 2
    · by_cases h2 : d.r = 0
      · have h3 : ¬ widthL d.r = 2 := by rw [h2, w00]; decide
        rw [mendR, if_pos h1, if_pos h2, ← i2]
        cases r with
        | nil => simp [mendP, h1, h2, w00, show ¬ c.r = 0 from fun e => by rw [e, w00] at h1; cases h1]
        | cons e r => simp [mendP, h1, h2, w00, show ¬ c.r = 0 from fun e => by rw [e, w00] at h1; cases h1]
      · rw [mendR, if_pos h1, if_neg h2, ← i1]
        simp [mendP, h1, h2]
    · rw [mendR, if_neg h1]
      by_cases h2 : c.r = 0
      · rw [if_pos h2, ← i1]
        simp [mendP, h1, h2, w00]
      · rw [if_neg h2, ← i1]
        simp [mendP, h1, h2]
theorem mendL_R (l : List Cell) : mendL l = mendR l := mendP_R _ l (Nat.le_refl _)
theorem mendP_len : ∀ (l : List Cell) (p : Bool), (mendP p l).length = l.length
  | [], _ => rfl
  | [c], p => by unfold mendP; (repeat' split) <;> rfl
  | c :: d :: r, p => by
    have h1 := mendP_len (d :: r)
    unfold mendP
    (repeat' split) <;> simp [h1]
theorem mendL_len (l : List Cell) : (mendL l).length = l.length := mendP_len l false
theorem mendP_ok {P : Cell → Prop} (hb : ∀ c, P c → P c.blank) : ∀ (l : List Cell) (p : Bool), (∀ c ∈ l, P c) → ∀ c ∈ mendP p l, P c
  | [], _, _, c, hc => by cases hc
  | [d], p, h, c, hc => by
    have hd := h d (by simp)
    unfold mendP at hc
    (repeat' split at hc) <;> (simp at hc; subst hc; first | exact hd | exact hb _ hd)
  | d :: e :: r, p, h, c, hc => by
    have hd := h d (by simp)
    have h1 := fun q => mendP_ok hb (e :: r) q (fun c hc => h c (List.mem_cons_of_mem _ hc))
    unfold mendP at hc
    (repeat' split at hc) <;> (rcases List.mem_cons.1 hc with rfl | hc <;> first | exact hd | exact hb _ hd | exact h1 _ c hc)
theorem mendL_ok {P : Cell → Prop} (hb : ∀ c, P c → P c.blank) {l : List Cell} (h : ∀ c ∈ l, P c) : ∀ c ∈ mendL l, P c := mendP_ok hb l false h
theorem blank_ok {c : Cell} (h : c.ok) : c.blank.ok := ⟨by show i32ok 32; unfold i32ok; omega, h.2⟩
/-! ### Rows -/
def rowsOf (w : Nat) : Nat → List Cell → List (List Cell)
  | 0, _ => []
  | h + 1, cs => cs.take w :: rowsOf w h (cs.drop w)
theorem rowsOf_len (w : Nat) : ∀ (h : Nat) (cs : List Cell), (rowsOf w h cs).length = h
  | 0, _ => rfl
  | h + 1, cs => by simp [rowsOf, rowsOf_len w h]
theorem rowsOf_get (w : Nat) : ∀ (h : Nat) (cs : List Cell) (y : Nat), y < h → (rowsOf w h cs)[y]? = some ((cs.drop (y * w)).take w)
  | 0, _, _, hy => by omega
  | h + 1, cs, 0, _ => by simp [rowsOf]
  | h + 1, cs, y + 1, hy => by
    rw [rowsOf, List.getElem?_cons_succ, rowsOf_get w h _ y (by omega), List.drop_drop, Nat.succ_mul, Nat.add_comm w]
theorem rowsOf_flat (w : Nat) : ∀ (h : Nat) (cs : List Cell), cs.length = w * h → (rowsOf w h cs).flatten = cs
  | 0, cs, hl => by
    have : cs = [] := List.eq_nil_of_length_eq_zero (by simpa using hl)
    subst this; rfl
  | h + 1, cs, hl => by
    rw [rowsOf, List.flatten_cons, rowsOf_flat w h _ (by rw [List.length_drop, hl, Nat.mul_succ]; omega), List.take_append_drop]
theorem rowsOf_row (w h : Nat) (cs : List Cell) (hl : cs.length = w * h) : ∀ r ∈ rowsOf w h cs, r.length = w := by
  intro r hr
  obtain ⟨y, hy⟩ := List.getElem?_of_mem hr
  have hlt := lt_of_at hy
  rw [rowsOf_len] at hlt
  rw [rowsOf_get w h cs y hlt] at hy
  obtain rfl := Option.some.inj hy
  have : (y + 1) * w ≤ h * w := Nat.mul_le_mul_right w hlt
  rw [Nat.succ_mul] at this
  rw [List.length_take, List.length_drop, hl, Nat.mul_comm w h]
  omega
theorem flat_rowsOf (w : Nat) : ∀ (L : List (List Cell)), (∀ r ∈ L, r.length = w) → rowsOf w L.length L.flatten = L
  | [], _ => rfl
  | r :: L, h => by
    have h0 := h r (by simp)
    rw [List.length_cons, rowsOf, List.flatten_cons, List.take_left' h0, List.drop_left' h0, flat_rowsOf w L fun r hr => h r (by simp [hr])]
theorem flat_len (w : Nat) : ∀ (L : List (List Cell)), (∀ r ∈ L, r.length = w) → L.flatten.length = L.length * w
  | [], _ => by simp
  | r :: L, h => by
    rw [List.flatten_cons, List.length_append, h r (by simp), flat_len w L fun r hr => h r (by simp [hr]), List.length_cons, Nat.succ_mul]; omega
/-- One row among the others. -/
theorem flat_at {L : List (List Cell)} {y : Nat} {r : List Cell} (h : L[y]? = some r) : L.flatten = (L.take y).flatten ++ r ++ (L.drop (y + 1)).flatten := by
  conv => lhs; rw [← List.take_append_drop y L, drop_cons_of h]
  simp
theorem flat_set {L : List (List Cell)} {y : Nat} {r : List Cell} (h : L[y]? = some r) (r' : List Cell) : (L.set y r').flatten = (L.take y).flatten ++ r' ++ (L.drop (y + 1)).flatten := by
  have hy := lt_of_at h
  rw [List.set_eq_take_append_cons_drop, if_pos hy]
  simp
theorem take_flat_len {w : Nat} {L : List (List Cell)} (hL : ∀ r ∈ L, r.length = w) {y : Nat} (hy : y ≤ L.length) : (L.take y).flatten.length = y * w := by
  rw [flat_len w _ fun r hr => hL r (List.mem_of_mem_take hr), List.length_take, Nat.min_eq_left hy]
/-! ### What is made of a grid, as rows -/
structure Rect where
  x : Int
  y : Int
  w : Int
  h : Int
def encRect (r : Rect) : PV := .agg [.int .i64 r.x, .int .i64 r.y, .int .i64 r.w, .int .i64 r.h]
def Rect.ok (r : Rect) : Prop := i64ok r.x ∧ i64ok r.y ∧ i64ok r.w ∧ i64ok r.h
theorem clampL_le (x : Int) : -1000 ≤ clampL x ∧ clampL x ≤ 1000 := by unfold clampL; omega
def Grid.rows (g : Grid) : List (List Cell) := rowsOf g.w.toNat g.h.toNat g.cs
/-- a right size, the cells as many -/
structure Grid.fit (g : Grid) (w h : Nat) : Prop where
  ew : g.w = w
  eh : g.h = h
  w1 : 1 ≤ w
  w2 : w ≤ 120
  h1 : 1 ≤ h
  h2 : h ≤ 60
  len : g.cs.length = w * h
theorem fit_of {g : Grid} (h : checkG g = 0) : ∃ w h, g.fit w h := by
  unfold checkG at h
  split at h
  · rename_i h1
    simp only [sizeB, Bool.and_eq_true, decide_eq_true_eq] at h1
    obtain ⟨w, hw⟩ := Int.eq_ofNat_of_zero_le (show 0 ≤ g.w by omega)
    obtain ⟨k, hk⟩ := Int.eq_ofNat_of_zero_le (show 0 ≤ g.h by omega)
    exact ⟨w, k, hw, hk, by omega, by omega, by omega, by omega, by have := h1.2; rw [hw, hk] at this; exact_mod_cast this⟩
  · cases h
theorem Grid.fit.rows {g : Grid} {w h : Nat} (f : g.fit w h) : g.rows = rowsOf w h g.cs := by rw [Grid.rows, f.ew, f.eh]; rfl
theorem Grid.fit.rlen {g : Grid} {w h : Nat} (f : g.fit w h) : g.rows.length = h := by rw [f.rows, rowsOf_len]
theorem Grid.fit.row {g : Grid} {w h : Nat} (f : g.fit w h) : ∀ r ∈ g.rows, r.length = w := by rw [f.rows]; exact rowsOf_row w h g.cs f.len
theorem Grid.fit.flat {g : Grid} {w h : Nat} (f : g.fit w h) : g.rows.flatten = g.cs := by rw [f.rows]; exact rowsOf_flat w h g.cs f.len
theorem Grid.fit.small {g : Grid} {w h : Nat} (f : g.fit w h) : w * h ≤ 7200 := Nat.mul_le_mul f.w2 f.h2
def Grid.withRows (g : Grid) (L : List (List Cell)) : Grid := { g with cs := L.flatten }
/-- Is a place in a span? -/
def inB (a b : Int) (k : Nat) : Bool := decide (a ≤ k) && decide ((k : Int) < b)
def fillP (c : Cell) (a b : Int) (k : Nat) (d : Cell) : Cell := if inB a b k then c else d
def fillRow (c : Cell) (a b : Int) (row : List Cell) : List Cell := row.mapIdx (fillP c a b)
def fillQ (c : Cell) (a b a' b' : Int) (k : Nat) (row : List Cell) : List Cell := if inB a' b' k then mendL (fillRow c a b row) else row
def Rect.x0 (r : Rect) : Int := clampL r.x
def Rect.x1 (r : Rect) : Int := clampL r.x + max (clampL r.w) 0
def Rect.y0 (r : Rect) : Int := clampL r.y
def Rect.y1 (r : Rect) : Int := clampL r.y + max (clampL r.h) 0
def fillG (g : Grid) (r : Rect) (c : Cell) : Grid := g.withRows (g.rows.mapIdx (fillQ c r.x0 r.x1 r.y0 r.y1))
def layP (a : List Cell) (x : Int) (u : Nat) (d : Cell) : Cell := if inB x (x + a.length) u then a.getD ((u : Int) - x).toNat d else d
def layRow (a : List Cell) (x : Int) (row : List Cell) : List Cell := row.mapIdx (layP a x)
/-- Does a span of so many cells from x on meet a row? -/
def meets (x : Int) (n w : Nat) : Bool := decide (x < w) && decide (0 < x + n)
def layQ (A : List (List Cell)) (n w : Nat) (x y : Int) (v : Nat) (row : List Cell) : List Cell := if inB y (y + A.length) v && meets x n w then mendL (layRow (A.getD ((v : Int) - y).toNat []) x row) else row
def layG (g on : Grid) (x y : Int) : Grid := on.withRows (on.rows.mapIdx (layQ g.rows g.w.toNat on.w.toNat (clampL x) (clampL y)))
def partG (g : Grid) (r : Rect) : Grid := ⟨r.w, r.h, (((g.rows.drop r.y.toNat).take r.h.toNat).map fun row => mendL ((row.drop r.x.toNat).take r.w.toNat)).flatten⟩
def blankC : Cell := ⟨32, ⟨0, 0, 0⟩⟩
def newG (w h : Int) : Grid := ⟨w, h, List.replicate (w * h).toNat blankC⟩
end Go.Eng.YtjkdkofpabocmaaDoor
end

/- Texts in grids: what is made of them; plain. -/
section
namespace Go.Eng.YtjkdkofpabocmaaDoor
open Go Go.Eng Go.Proofs
/-- A text written into a row. -/
def writeRs (w : Nat) (look : Style) : Nat → List (Nat × Nat) → List Cell → List Cell
  | _, [], row => row
  | x, p :: l, row =>
    if widthL p.1 = 0 then writeRs w look x l row
    else if w < x + widthL p.1 then row
    else writeRs w look (x + widthL p.1) l (if widthL p.1 = 2 then (row.set x ⟨p.1, look⟩).set (x + 1) ⟨0, look⟩ else row.set x ⟨p.1, look⟩)
def writeG (g : Grid) (x y : Nat) (s : List UInt8) (look : Style) : Grid := g.withRows (g.rows.modify y fun row => mendL (writeRs g.w.toNat look x (runes s) row))
end Go.Eng.YtjkdkofpabocmaaDoor
end

/- Grids as rows: the document's Rows, MendRow, GridOf. -/
section
namespace Go.Eng.YtjkdkofpabocmaaDoor
open Go Go.Eng Go.Proofs
variable (W : World)
set_option linter.unusedSimpArgs false
set_option maxRecDepth 100000
set_option linter.unusedVariables false
set_option maxHeartbeats 4000000
theorem encCell_free (c : Cell) : Free (encCell c) := .agg _ (by simp [encCell]; exact ⟨.int _ _, .int _ _, .int _ _, .int _ _⟩)
theorem freeRow (l : List Cell) : ∀ e ∈ l.map encCell, Free e := by
  intro e he
  obtain ⟨c, _, rfl⟩ := List.mem_map.1 he
  exact encCell_free c
abbrev Fam := List (Nat × List Cell)
theorem famFree (l : Fam) : FreeM (famM 4 encCell l) := by
  intro k hk
  obtain ⟨p, _, rfl⟩ := List.mem_map.1 hk
  exact ⟨_, _, _, rfl, freeRow _⟩
/-- Rows of the call's own, in a row of the call's own. -/
def rowsM (b : Nat) (l : Fam) : Mem := ⟨b, .row 1 (l.map (rowP 4)) 0⟩ :: (famM 4 encCell l ++ [])
abbrev GivesRows (L : List (List Cell)) : PV → Mem → Prop := Gives (fun p : Nat × Fam => .rsl p.1 1 0 p.2.length) (fun p => rowsM p.1 p.2) (fun p => p.2.map Prod.snd = L)
theorem freeRows (p : Nat × Fam) : Free (.rsl p.1 1 0 p.2.length) ∧ FreeM (rowsM p.1 p.2) := by
  refine ⟨.rsl _ _ _ _, FreeM.cons (fun e he => ?_) ((famFree p.2).app FreeM.nil)⟩
  obtain ⟨q, _, rfl⟩ := List.mem_map.1 he
  exact .rsl _ _ _ _
theorem look_fam {l : Fam} {i : Nat} {p : Nat × List Cell} (h : l[i]? = some p) (b : Nat) : ∃ ρ, Look (rowsM b l) p.1 (.row 4 (p.2.map encCell) 0) ρ := ⟨_, .there _ _ _ _ _ (Look.fam h [])⟩
def encRows (L : List (List Cell)) : PV := .sl 1 (L.map fun r => .sl 4 (r.map encCell))
theorem frz_rowsM (b : Nat) (l : Fam) : Frz (rowsM b l) (.rsl b 1 0 l.length) (encRows (l.map Prod.snd)) := by
  have := frz_rows (σ := rowsM b l) (f := encCell) (.here _ _ _) (fun i p h => look_fam h b) l.length rfl
  rwa [encRows, List.map_map]
theorem cell0 (c : Cell) (h : c.r = 0) : encCell c = .agg [.int .i32 0, .int .i64 c.s.fore, .int .i64 c.s.back, .int .i64 c.s.bits] := by rw [encCell, h]
theorem shiftR (d : List Cell) (c : Cell) (r : List Cell) : d ++ c :: r = d ++ [c] ++ r := by simp
theorem setR (d : List Cell) (c : Cell) (r : List Cell) : ((d ++ c :: r).map encCell).set (0 + d.length) (.agg [.int .i32 32, .int .i64 c.s.fore, .int .i64 c.s.back, .int .i64 c.s.bits]) = ((d ++ [c.blank]) ++ r).map encCell := by
  rw [Nat.zero_add, show (.agg [.int .i32 32, .int .i64 c.s.fore, .int .i64 c.s.back, .int .i64 c.s.bits] : PV) = encCell c.blank from rfl, ← List.map_set, List.set_append_right _ _ (Nat.le_refl _)]
  simp
theorem frz_rowsE (σ0 : Mem) (b : Nat) (l : Fam) {n : Nat} (hn : n = l.length) : Frz (σ0 ++ rowsM b l) (.rsl b 1 0 n) (encRows (l.map Prod.snd)) := by
  subst hn
  have := frz_rows (σ := σ0 ++ rowsM b l) (sz := 4) (f := encCell) (Look.app (.here _ _ _) σ0) (fun i p h => by
    obtain ⟨ρ, hρ⟩ := look_fam h b
    exact ⟨_, Look.app hρ σ0⟩) l.length rfl
  rwa [encRows, List.map_map]
theorem frz_grid {σ ρ : Mem} {b n : Nat} {w h : Int} {cs : List Cell} (hl : Look σ b (.row 4 (cs.map encCell) 0) ρ) (hn : n = cs.length) : Frz σ (.agg [.int .i64 w, .int .i64 h, .rsl b 4 0 n]) (encGrid ⟨w, h, cs⟩) :=
  .agg _ _ rfl fun j hj => by
    match j, hj with
    | 0, _ => exact .refl _
    | 1, _ => exact .refl _
    | 2, _ => exact frz_row hl n (by simp [hn])
theorem free_grid {w h : PV} {b n : Nat} (hw : Free w) (hh : Free h) : Free (.agg [w, h, .rsl b 4 0 n]) := .agg _ (by
  intro c hc
  simp only [List.mem_cons, List.not_mem_nil, or_false] at hc
  rcases hc with rfl | rfl | rfl
  · exact hw
  · exact hh
  · exact .rsl _ _ _ _)
theorem freeM1 (b : Nat) (l : List Cell) : FreeM [⟨b, .row 4 (l.map encCell) 0⟩] := FreeM.cons (freeRow l) FreeM.nil
theorem frz_rowsW {σ : Mem} {b n : Nat} {l : Fam} {L : List (List Cell)} (hL : l.map Prod.snd = L) (hn : n = l.length) (hw : wkMem σ (⟨b, .row 1 (l.map (rowP 4)) 0⟩ :: (famM 4 encCell l ++ []))) : Frz σ (.rsl b 1 0 n) (encRows L) := by
  have := frz_wk hw hn
  rwa [← hL, encRows, List.map_map]
end Go.Eng.YtjkdkofpabocmaaDoor
end

/- Grids: the document's FillGrid. -/
section
namespace Go.Eng.YtjkdkofpabocmaaDoor
open Go Go.Eng Go.Proofs
variable (W : World)
set_option linter.unusedSimpArgs false
set_option maxRecDepth 100000
set_option linter.unusedVariables false
set_option maxHeartbeats 4000000
theorem set_enc (l : List Cell) (i : Nat) (c : Cell) : (l.map encCell).set (0 + i) (.agg [.int .i32 c.r, .int .i64 c.s.fore, .int .i64 c.s.back, .int .i64 c.s.bits]) = (l.set i c).map encCell := by
  rw [Nat.zero_add, List.map_set]; rfl
/-- One row under way. -/
def fillX (c : Cell) (a b a' b' : Int) (y : Nat) (k : Nat) (d : Cell) : Cell := if inB a' b' y && inB a b k then c else d
theorem fillQ_len (c : Cell) (a b a' b' : Int) (k : Nat) (row : List Cell) : (fillQ c a b a' b' k row).length = row.length := by
  unfold fillQ
  split
  · rw [mendL_len]; simp [fillRow]
  · rfl
theorem mapIdx_row {P : Nat → List Cell → List Cell} (hP : ∀ k r, (P k r).length = r.length) {L : List (List Cell)} {w : Nat} (hL : ∀ r ∈ L, r.length = w) : ∀ r ∈ L.mapIdx P, r.length = w := by
  intro r hr
  obtain ⟨k, hk⟩ := List.getElem?_of_mem hr
  rw [List.getElem?_mapIdx] at hk
  cases hg : L[k]? with
  | none => rw [hg] at hk; cases hk
  | some d =>
    rw [hg] at hk
    obtain rfl := Option.some.inj hk
    rw [hP]; exact hL d (List.mem_of_getElem? hg)
theorem fillX_row (c : Cell) (x0 x1 y0 y1 : Int) (y : Nat) (row : List Cell) : row.mapIdx (fillX c x0 x1 y0 y1 y) = if inB y0 y1 y then fillRow c x0 x1 row else row := by
  refine List.ext_getElem? fun k => ?_
  rw [List.getElem?_mapIdx]
  cases hy : inB y0 y1 y
  · rw [if_neg (by decide)]
    cases row[k]? with
    | none => rfl
    | some d => simp [fillX, hy]
  · rw [if_pos rfl, fillRow, List.getElem?_mapIdx]
    cases row[k]? with
    | none => rfl
    | some d => simp [fillX, fillP, hy]
end Go.Eng.YtjkdkofpabocmaaDoor
end
