/- Texts put together: Scr1. -/
import Derived.Test.YtjkdkofpabocmaaDoorMG2
import Derived.Test.YtjkdkofpabocmaaDoorMT1
import Derived.Test.YtjkdkofpabocmaaDoorMS1
import Derived.Test.YtjkdkofpabocmaaDoorMG1
/- Screens: what they are; package put's Check. -/
section
namespace Go.Eng.YtjkdkofpabocmaaDoor
open Go Go.Eng Go.Proofs
variable (W : World)
set_option linter.unusedSimpArgs false
set_option maxRecDepth 100000
set_option linter.unusedVariables false
set_option maxHeartbeats 8000000
theorem runesFrom_len (s : List UInt8) : ∀ (n i : Nat) (acc : Array Value), s.length - i ≤ n → (Conv.runesFrom ⟨s.toArray⟩ n i acc).toList.length = acc.toList.length + (runes (s.drop i)).length
  | 0, i, acc, h => by
    rw [Conv.runesFrom, List.drop_of_length_le (by omega), runes_nil]; simp
  | n + 1, i, acc, h => by
    rw [Conv.runesFrom]
    by_cases hi : i < s.length
    · have hne : s.drop i ≠ [] := by simp; omega
      rw [if_pos (by simpa [ByteArray.size] using hi), decode_drop s i hi]
      have := dec_pos (s.drop i) hne
      dsimp only
      rw [runesFrom_len s n _ _ (by omega), runes_cons hne, List.drop_drop]
      simp
      omega
    · rw [if_neg (by simpa [ByteArray.size] using hi), List.drop_of_length_le (by omega), runes_nil]; simp
theorem runesV_len (s : List UInt8) : (runesV s).length = (runes s).length := by
  rw [runesV, List.length_map, runesFrom_len s s.length 0 #[] (by omega)]
  simp
/-- A screen. -/
structure Scr where
  g : Grid
  x : Int
  y : Int
  late : Bool
  look : Style
  top : Int
  bottom : Int
  modes : Int
  tabs : List Bool
  kx : Int
  ky : Int
  ks : Style
  km : Int
  last : Int
  title : List UInt8
  gone : List (List Cell)
def encRow (r : List Cell) : PV := .sl 4 (r.map encCell)
/-- Its cells; those of slices are told apart. -/
def scrA (cells tabs gone : PV) (s : Scr) : List PV := [.int .i64 s.g.w, .int .i64 s.g.h, cells, .int .i64 s.x, .int .i64 s.y, .bool s.late, .int .i64 s.look.fore, .int .i64 s.look.back, .int .i64 s.look.bits, .int .i64 s.top, .int .i64 s.bottom, .int .i64 s.modes, tabs,
  .int .i64 s.kx, .int .i64 s.ky, .int .i64 s.ks.fore, .int .i64 s.ks.back, .int .i64 s.ks.bits, .int .i64 s.km, .int .i32 s.last, .str s.title, gone]
def encScr (s : Scr) : PV := .agg (scrA (.sl 4 (s.g.cs.map encCell)) (.sl 1 (s.tabs.map PV.bool)) (.sl 1 (s.gone.map encRow)) s)
structure Scr.ok (s : Scr) : Prop where
  g : s.g.ok
  x : i64ok s.x
  y : i64ok s.y
  look : s.look.ok
  top : i64ok s.top
  bottom : i64ok s.bottom
  modes : i64ok s.modes
  tabs : s.tabs.length ≤ 140737488355328
  kx : i64ok s.kx
  ky : i64ok s.ky
  ks : s.ks.ok
  km : i64ok s.km
  last : i32ok s.last
  title : s.title.length ≤ 1048576
  gone : s.gone.length * 24 ≤ 140737488355328 ∧ ∀ r ∈ s.gone, r.length * 32 ≤ 140737488355328 ∧ ∀ c ∈ r, c.ok
def rowG (r : List Cell) : Grid := ⟨r.length, 1, r⟩
def goneB (l : List (List Cell)) : Bool := l.all fun r => decide (checkG (rowG r) = 0)
/-- What is wrong with a screen. -/
def checkS (s : Scr) : Int :=
  if checkG s.g ≠ 0 then checkG s.g
  else if ((s.x < 0 ∨ s.g.w ≤ s.x) ∨ s.y < 0 ∨ s.g.h ≤ s.y) ∨ (s.kx < 0 ∨ s.g.w ≤ s.kx) ∨ s.ky < 0 ∨ s.g.h ≤ s.ky then 4
  else if s.top < 0 ∨ s.g.h ≤ s.bottom ∨ s.bottom < s.top ∨ (s.top = s.bottom ∧ 1 < s.g.h) then 4
  else if s.late = true ∧ (s.x ≠ s.g.w - 1 ∨ bitop .and .i64 s.modes 4 = 0) then 5
  else if checkStyle s.look = false ∨ checkStyle s.ks = false ∨ s.modes < 0 ∨ 63 < s.modes ∨ bitop .andNot .i64 s.km 6 ≠ 0 then 4
  else if (s.tabs.length : Int) ≠ s.g.w ∨ (s.last ≠ 0 ∧ widthL s.last = 0) ∨ cleanL s.title ≠ s.title ∨ 20 < (runes s.title).length then 5
  else if 50 < s.gone.length then 2
  else if goneB s.gone = true then 0 else 5
theorem encRowG (r : List Cell) : encGrid (rowG r) = .agg [.int .i64 (r.map encCell).length, .int .i64 1, .sl 4 (r.map encCell)] := by rw [List.length_map]; rfl
theorem rowG_ok {s : Scr} (h : s.ok) {r : List Cell} (hr : r ∈ s.gone) : (rowG r).ok := by
  obtain ⟨h1, h2⟩ := h.gone.2 r hr
  refine ⟨?_, ?_, h2, h1⟩
  · show i64ok (r.length : Int)
    unfold i64ok; omega
  · show i64ok 1
    unfold i64ok; omega
end Go.Eng.YtjkdkofpabocmaaDoor
end
