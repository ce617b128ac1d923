/- The library's readers of UTF-8, by the kit's contracts. -/
import Derived.Test.YtlfdmdhkbillpaaDoorBase
import Derived.Test.YtlfdmdhkbillpaaDoorEng14
import Derived.Test.YtlfdmdhkbillpaaDoorShelf
import Derived.Lib.TrimU
namespace Go.Eng.YtlfdmdhkbillpaaDoor
open Go Go.Eng Go.Proofs
variable (W : World)
/-- The first rune of bytes, and how many it takes. -/
def dec (s : List UInt8) : Nat × Nat := Lib.decodeGo ⟨s.toArray⟩
abbrev Tabs (W : World) : Prop := Lib.Utf8Tabs 0 1 W
theorem tabs_at {W w : World} (h : Tabs W) (hs : ∀ b, b < W.heap.size → w.heap[b]? = W.heap[b]?) : Tabs w := by
  have lt : ∀ b o v, W.cell? ⟨b, o, none⟩ = some v → b < W.heap.size := by
    intro b o v h
    simp only [World.cell?] at h
    cases hb : W.heap[b]? with
    | none => simp [hb] at h
    | some o => exact (Array.getElem?_eq_some_iff.1 hb).1
  have cell : ∀ b o v, W.cell? ⟨b, o, none⟩ = some v → w.cell? ⟨b, o, none⟩ = some v := fun b o v h => by
    have := hs b (lt b o v h)
    simpa only [World.cell?, this] using h
  exact ⟨fun c hc => cell _ _ _ (h.1 c hc), fun i hi => ⟨cell _ _ _ (h.2 i hi).1, cell _ _ _ (h.2 i hi).2⟩⟩
theorem decodeRune_ok (hT : Tabs W) (s : List UInt8) : Pure Tryd.prog W 73 [.str s] (.tup [.int .i32 (dec s).1, .int .i64 (dec s).2]) :=
  Pure.of_below Tryd.func73 rfl (by decide) rfl rfl fun w _ hw => Tryd.utf8_DecodeRuneInString ⟨s.toArray⟩ w (tabs_at hT hw)
theorem dec_nil : dec [] = (65533, 0) := rfl
theorem dec_le4 (s : List UInt8) : (dec s).2 ≤ 4 := Lib.decodeGo_le4 _
theorem dec_le (s : List UInt8) : (dec s).2 ≤ s.length := by simpa [ByteArray.size, dec] using Lib.decodeGo_le_size ⟨s.toArray⟩
theorem dec_pos (s : List UInt8) (h : s ≠ []) : 1 ≤ (dec s).2 := by
  have hn : ¬ (⟨s.toArray⟩ : ByteArray).size = 0 := by simpa [ByteArray.size] using h
  simp only [dec, Lib.decodeGo, if_neg hn]
  exact Lib.width_pos _ _
end Go.Eng.YtlfdmdhkbillpaaDoor
