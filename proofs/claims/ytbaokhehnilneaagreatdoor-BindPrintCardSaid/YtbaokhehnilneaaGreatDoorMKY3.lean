/- Texts put together: Key5. -/
import Derived.Test.YtbaokhehnilneaaGreatDoorMKY2
import Derived.Test.YtbaokhehnilneaaGreatDoorMS1
import Derived.Test.YtbaokhehnilneaaGreatDoorMG1
import Derived.Test.YtbaokhehnilneaaGreatDoorMT1
/- Keys: compared; the fact that the laws look at first (b_ x_ q_ e_). -/
section
namespace Go.Eng.YtbaokhehnilneaaGreatDoor
open Go Go.Eng Go.Proofs
variable (W : World)
set_option linter.unusedSimpArgs false
set_option maxRecDepth 100000
set_option linter.unusedVariables false
set_option maxHeartbeats 8000000
def Key.ok (k : Key) : Prop := i64ok k.kind ∧ i32ok k.r ∧ i64ok k.n ∧ i64ok k.held
theorem wf_i64K {n : Int} (h : i64ok n) : (Lit.int .i64 n).wf = true := by
  simp [Lit.wf, IntKind.min, IntKind.max, IntKind.signed, IntKind.bits]; exact h
theorem wf_i32K {n : Int} (h : i32ok n) : (Lit.int .i32 n).wf = true := by
  simp [Lit.wf, IntKind.min, IntKind.max, IntKind.signed, IntKind.bits]; exact h
theorem cells_keyI : Tryz.prog.cellsOf 3 = 1 := by kernel_rfl
theorem cells_keyR : Tryz.prog.cellsOf 21 = 1 := by kernel_rfl
theorem cells_key : Tryz.prog.cellsOf 23 = 4 := by kernel_rfl
def litsKey (k : Key) : List Lit := [.int .i64 k.kind, .int .i32 k.r, .int .i64 k.n, .int .i64 k.held]
theorem lits_key (a : Key) (h : a.ok) : Tryz.prog.keyLits 4 23 [.int .i64 a.kind, .int .i32 a.r, .int .i64 a.n, .int .i64 a.held] = some (litsKey a) := by
  obtain ⟨h0, h1, h2, h3⟩ := h
  have hk : ∀ d (n : Int), (Lit.int .i64 n).wf = true → Tryz.prog.keyLits (d + 1) 3 [.int .i64 n] = some [.int .i64 n] := fun d n hn => by simp [Program.keyLits, Tryz.underlying3, hn]
  have hr : ∀ d (n : Int), (Lit.int .i32 n).wf = true → Tryz.prog.keyLits (d + 1) 21 [.int .i32 n] = some [.int .i32 n] := fun d n hn => by simp [Program.keyLits, Tryz.underlying21, hn]
  conv => lhs; unfold Program.keyLits
  rw [Tryz.underlying23]
  dsimp only
  rw [if_pos ⟨by rw [cells_key]; rfl, by simp⟩]
  simp only [List.mapM_cons, List.mapM_nil]
  rw [cells_keyI, cells_keyR]
  simp only [List.drop_zero, List.drop_succ_cons, List.take_succ_cons, List.take_zero, hk _ _ (wf_i64K h0), hr _ _ (wf_i32K h1), hk _ _ (wf_i64K h2), hk _ _ (wf_i64K h3)]
  rfl
abbrev Keyz (W : World) : Prop := Tabs W ∧ Nums W ∧ ErrJ W
def keyC : Key := ⟨6, 0, 0, 4⟩
def keyQ : List Key := [keyC, ⟨1, 113, 0, 0⟩]
end Go.Eng.YtbaokhehnilneaaGreatDoor
end
