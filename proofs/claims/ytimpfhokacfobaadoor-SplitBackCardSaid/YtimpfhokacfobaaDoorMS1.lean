/- Texts put together: Itoa. -/
import Derived.Test.YtimpfhokacfobaaDoorME3
import Derived.Test.YtimpfhokacfobaaDoorMH1
import Derived.Lib.ItoaLen
/- strconv.Itoa. -/
section
namespace Go.Eng.YtimpfhokacfobaaDoor
open Go Go.Eng Go.Proofs
variable (W : World)
set_option linter.unusedSimpArgs false
set_option maxRecDepth 100000
set_option linter.unusedVariables false
set_option maxHeartbeats 4000000
abbrev Nums (W : World) : Prop := Lib.TabIs Tryd.prog W "internal/strconv.uint64pow10" .u64 Lib.pow10Tab
theorem nums_at {W w : World} (h : Nums W) (hs : ∀ b, b < W.heap.size → w.heap[b]? = W.heap[b]?) : Nums w := by
  unfold Nums Lib.TabIs at *
  unfold World.var? at *
  cases hg : Tryd.prog.globalNamed "internal/strconv.uint64pow10" with
  | none => rw [hg] at h; simp at h
  | some g =>
    rw [hg] at h
    simp only [Option.bind_some] at h ⊢
    have hlt : g < W.heap.size := by
      cases hb : W.heap[g]? with
      | none => simp [hb] at h
      | some o => exact (Array.getElem?_eq_some_iff.1 hb).1
    rw [hs g hlt]; exact h
theorem itoa_ok (hN : Nums W) (n : Int) (hn : i64ok n) : Pure Tryd.prog W 42 [.int .i64 n] (.str (Lib.itoa n)) :=
  Pure.of_below Tryd.func42 rfl (by decide) rfl rfl fun w _ hw => (Tryd.strconv_Itoa n hn.1 hn.2 w (nums_at hN hw)).mono fun _ _ h => ⟨h.1, by
    obtain ⟨k, os, rfl⟩ := h.2
    refine ⟨rfl, rfl, rfl, by show w.heap.size ≤ (w.heap ++ os).size; simp, fun b hb => ?_⟩
    show (w.heap ++ os)[b]? = _
    exact Array.getElem?_append_left hb⟩
end Go.Eng.YtimpfhokacfobaaDoor
end
