/- Texts put together: Spl9, Spl10. -/
import Derived.Test.YtecafnhnkklboaaDoorMSB
import Derived.Test.YtecafnhnkklboaaDoorMSA
import Derived.Test.YtecafnhnkklboaaDoorME10
import Derived.Test.YtecafnhnkklboaaDoorMH1
/- Splits: a text of a split is read: next, number (b_ x_ q_ e_). -/
section
namespace Go.Eng
open Go
/-- What a call is lent comes back changed, what it made besides is written no more. -/
theorem ACalls.lendK {P : Program} {W : World} {f : FuncId} {args : List PV} {σ τ τ1 ρ : Mem} {r : PV} {k : PV → Mem → Prop} (h : ACalls P W f args τ fun v σ' => ∃ ρ', σ'.Perm (τ1 ++ ρ') ∧ Frz ρ' v r) (hp : σ.Perm (τ ++ ρ)) (hk : k r (ρ ++ τ1)) : ACalls P W f args σ k := by
  refine ACalls.frz ((h.frame ρ).perm hp) ?_
  rintro v σ' ⟨σ1, ⟨ρ', hp', hf⟩, rfl⟩
  refine ⟨ρ ++ τ1, ρ', r, (hp'.append_right ρ).trans ?_, hf, hk⟩
  rw [List.append_assoc, List.append_assoc]
  exact (List.perm_append_comm.append_left _).trans (by rw [← List.append_assoc, ← List.append_assoc]; exact List.perm_append_comm.append_right _)
end Go.Eng
namespace Go.Eng.YtecafnhnkklboaaDoor
open Go Go.Eng Go.Proofs Go.RowKit
variable (W : World)
set_option linter.unusedSimpArgs false
set_option maxRecDepth 100000
set_option linter.unusedVariables false
set_option maxHeartbeats 4000000
def rdM (b : Nat) (s : List UInt8) (at_ : Nat) : Blk := ⟨b, .row 2 [.agg [.str s, .int .i64 at_]] 0⟩
def nextN (s : List UInt8) (i : Nat) : Nat := ((s[i]?).map UInt8.toNat).getD 0
theorem nextN_le (s : List UInt8) (i : Nat) : nextN s i < 256 := by
  unfold nextN
  cases s[i]? with
  | none => decide
  | some c => exact c.toNat_lt
theorem indexB_ok (c : Nat) : Pure Tryd.prog W 67 [.str [123, 91], .int .u8 c] (.int .i64 (Lib.indexByte [123, 91] (UInt8.ofNat c))) :=
  Pure.of_below Tryd.func67 rfl (by decide) rfl rfl fun w _ hw => (Tryd.strings_IndexByte ⟨#[123, 91]⟩ c w).mono fun _ _ h => ⟨h.1, h.2 ▸ RowKit.Below.refl _ _⟩
/-- What the reader gives: a split, and where it stands. -/
def SpOut (b : Nat) (s : List UInt8) (m : Nat) (k : Spl) : PV → Mem → Prop := fun v σ' => ∃ ρ', σ'.Perm ([rdM b s m] ++ ρ') ∧ Frz ρ' v (encSpl k)
end Go.Eng.YtecafnhnkklboaaDoor
end

/- Splits: the text of parted, read (b_ x_ q_ e_). -/
section
namespace Go.Eng.YtecafnhnkklboaaDoor
open Go Go.Eng Go.Proofs Go.RowKit
variable (W : World)
set_option linter.unusedSimpArgs false
set_option maxRecDepth 100000
set_option linter.unusedVariables false
set_option maxHeartbeats 4000000
def s0 : List UInt8 := [123, 49, 44, 91, 50, 44, 51, 93, 42, 50, 125]
def tree0 : Spl := .mk 1 0 1 [leafT 1, .mk 2 0 2 [leafT 2, leafT 3]]
def leafP (p : Int) : PV := .agg [.int .i64 0, .int .i64 p, .int .i64 1, .sl 4 []]
def tree0V : PV := .agg [.int .i64 1, .int .i64 0, .int .i64 1, .sl 4 [.agg [.int .i64 0, .int .i64 1, .int .i64 1, .sl 4 []], .agg [.int .i64 2, .int .i64 0, .int .i64 2, .sl 4 [.agg [.int .i64 0, .int .i64 2, .int .i64 1, .sl 4 []], .agg [.int .i64 0, .int .i64 3, .int .i64 1, .sl 4 []]]]]]
theorem tree0_ok : tree0.ok := by
  simp [tree0, leafT, Spl.ok, Spls.ok, i64ok]
end Go.Eng.YtecafnhnkklboaaDoor
end
