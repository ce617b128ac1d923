/- Texts put together: Cell. -/
import Derived.Test.YtjkdkofpabocmaaDoorMS1
import Derived.Test.YtjkdkofpabocmaaDoorME3
/- Cells: compared, copied. -/
section
namespace Go.Eng.YtjkdkofpabocmaaDoor
open Go Go.Eng Go.Proofs
variable (W : World)
set_option linter.unusedSimpArgs false
set_option maxRecDepth 100000
set_option linter.unusedVariables false
set_option maxHeartbeats 4000000
structure Cell where
  r : Int
  s : Style
  deriving DecidableEq
def i32ok (n : Int) : Prop := -2147483648 ≤ n ∧ n ≤ 2147483647
def Cell.ok (c : Cell) : Prop := i32ok c.r ∧ c.s.ok
def encCell (c : Cell) : PV := .agg [.int .i32 c.r, .int .i64 c.s.fore, .int .i64 c.s.back, .int .i64 c.s.bits]
theorem wf_of_ok32 {n : Int} (h : i32ok n) : (Lit.int .i32 n).wf = true := by
  simp [Lit.wf, IntKind.min, IntKind.max, IntKind.signed, IntKind.bits]; exact h
theorem cells_cell : Tryd.prog.cellsOf 80 = 4 := by kernel_rfl
theorem cells_i32 : Tryd.prog.cellsOf 21 = 1 := by kernel_rfl
def litsCell (c : Cell) : List Lit := .int .i32 c.r :: litsStyle c.s
theorem lits_cell (c : Cell) (h : c.ok) : Tryd.prog.keyLits 4 80 [.int .i32 c.r, .int .i64 c.s.fore, .int .i64 c.s.back, .int .i64 c.s.bits] = some (litsCell c) := by
  have h1 := wf_of_ok32 h.1
  have hk : Tryd.prog.keyLits 3 21 [.int .i32 c.r] = some [.int .i32 c.r] := by simp [Program.keyLits, Tryd.underlying21, h1]
  have hs := lits_style c.s h.2
  conv => lhs; unfold Program.keyLits
  rw [Tryd.underlying80]
  dsimp only
  rw [if_pos ⟨by rw [cells_cell]; rfl, by simp⟩]
  simp only [List.mapM_cons, List.mapM_nil]
  rw [cells_i32, cells_style]
  simp only [List.drop_zero, List.drop_succ_cons, List.take_succ_cons, List.take_zero, hk, hs]
  rfl
theorem eq_cell (a b : Cell) (ha : a.ok) (hb : b.ok) (xo yo : Operand) : EqLaw Tryd.prog .eql 80 xo yo (encCell a) (encCell b) (decide (a = b)) :=
  eqLaw_agg 4 (by kernel_rfl) (by decide) (by kernel_rfl) Tryd.underlying80 rfl rfl (by rw [cells_cell]; rfl) (by rw [cells_cell]; rfl) (lits_cell a ha) (lits_cell b hb) (by
    obtain ⟨a0, a1, a2, a3⟩ := a
    obtain ⟨b0, b1, b2, b3⟩ := b
    simp [litsStyle, litsCell])
theorem neq_cell (a b : Cell) (ha : a.ok) (hb : b.ok) (xo yo : Operand) : EqLaw Tryd.prog .neq 80 xo yo (encCell a) (encCell b) (!decide (a = b)) :=
  neqLaw_agg 4 (by kernel_rfl) (by decide) (by kernel_rfl) Tryd.underlying80 rfl rfl (by rw [cells_cell]; rfl) (by rw [cells_cell]; rfl) (lits_cell a ha) (lits_cell b hb) (by
    obtain ⟨a0, a1, a2, a3⟩ := a
    obtain ⟨b0, b1, b2, b3⟩ := b
    simp [litsStyle, litsCell])
def encCells (l : List Cell) : PV := .sl 4 (l.map encCell)
theorem equal_cells (a b : List Cell) (ha : (a.length : Int) ≤ 9223372036854775807) (hoa : ∀ c ∈ a, c.ok) (hob : ∀ c ∈ b, c.ok) :
    Pure Tryd.prog W 45 [.sl 4 (a.map encCell), .sl 4 (b.map encCell)] (.bool (decide (a = b))) := by
  refine Pure.of (acalls_of_vc (drawOk W) Tryd.func45 rfl (by decide) (by decide) rfl ?_)
  (refine g0_ ?_; repeat ((first | refine n1_ fun b_ => ?_ | refine n2_ fun b_ => ?_ | refine em_ fun x_ hx_ => ?_); refine g0_ ?_))
  refine brec ?_; intro c_ hc; (try rw [hc]); cases c_ <;> replace hc := nm_ hc
  · have hlen : a.length = b.length := by simp at hc; omega
    (refine g0_ ?_; repeat ((first | refine n1_ fun b_ => ?_ | refine n2_ fun b_ => ?_ | refine em_ fun x_ hx_ => ?_); refine g0_ ?_))
    refine' loopI (α := Nat) (fun i => [(13, .int .i64 i)]) [(0, _), (1, _), (12, _)] (fun i => []) (fun i => i ≤ a.length ∧ a.take i = b.take i) (fun i => a.length - i) 0 ?_ ?_
    · exact ⟨Nat.zero_le _, by simp⟩
    rintro i ⟨hi, hw⟩
    (refine g0_ ?_; repeat ((first | refine n1_ fun b_ => ?_ | refine n2_ fun b_ => ?_ | refine em_ fun x_ hx_ => ?_); refine g0_ ?_))
    refine brec ?_; intro c_ h1; (try rw [h1]); cases c_ <;> replace h1 := nm_ h1
    · (refine g0_ ?_; repeat ((first | refine n1_ fun b_ => ?_ | refine n2_ fun b_ => ?_ | refine em_ fun x_ hx_ => ?_); refine g0_ ?_))
      have : i = a.length := by simp at h1; omega
      subst this
      rw [List.take_length, hlen, List.take_length] at hw
      rw [hw]
      simp
      exact .refl _
    · have hlt : i < a.length := by simp at h1; omega
      (refine g0_ ?_; repeat ((first | refine n1_ fun b_ => ?_ | refine n2_ fun b_ => ?_ | refine em_ fun x_ hx_ => ?_); refine g0_ ?_))
      refine head_ ?_; (refine g0_ ?_; repeat ((first | refine n1_ fun b_ => ?_ | refine n2_ fun b_ => ?_ | refine em_ fun x_ hx_ => ?_); refine g0_ ?_))
      rename_i x hx
      refine ⟨_, neq_cell x x_ (hoa _ (List.mem_of_getElem? hx)) (hob _ (List.mem_of_getElem? hx_)) _ _, ?_⟩
      (refine g0_ ?_; repeat ((first | refine n1_ fun b_ => ?_ | refine n2_ fun b_ => ?_ | refine em_ fun x_ hx_ => ?_); refine g0_ ?_))
      refine brec ?_; intro c_ h2; (try rw [h2]); cases c_ <;> replace h2 := nm_ h2
      · (refine g0_ ?_; repeat ((first | refine n1_ fun b_ => ?_ | refine n2_ fun b_ => ?_ | refine em_ fun x_ hx_ => ?_); refine g0_ ?_))
        refine nx_ (i + 1) ?_ ?_
        · exact ⟨hlt, by rw [take_snoc_of hx, take_snoc_of hx_, hw]; simp_all⟩
        · omega
      · (refine g0_ ?_; repeat ((first | refine n1_ fun b_ => ?_ | refine n2_ fun b_ => ?_ | refine em_ fun x_ hx_ => ?_); refine g0_ ?_))
        have : a ≠ b := by rintro rfl; simp_all
        simp [this]
        exact .refl _
  · have hne : a ≠ b := by
      rintro rfl
      exact hc rfl
    (refine g0_ ?_; repeat ((first | refine n1_ fun b_ => ?_ | refine n2_ fun b_ => ?_ | refine em_ fun x_ hx_ => ?_); refine g0_ ?_))
    simp [hne]
    exact .refl _
end Go.Eng.YtjkdkofpabocmaaDoor
end
