/- Texts put together: Scr13, Scr15, Scr16, Scr17. -/
import Derived.Test.YtphoefglfbifdaaDoorMW3
import Derived.Test.YtphoefglfbifdaaDoorME8
/- Screens of the call's own: package move's At; right, left, to. -/
section
namespace Go.Eng.YtphoefglfbifdaaDoor
open Go Go.Eng Go.Proofs
variable (W : World)
set_option linter.unusedSimpArgs false
set_option maxRecDepth 100000
set_option linter.unusedVariables false
set_option maxHeartbeats 8000000
def atS (s : Scr) (x y : Int) : Scr := { s with x := min (max x 0) (s.g.w - 1), y := min (max y 0) (s.g.h - 1), late := false }
def timesL (n : Int) : Int := min (max n 1) 9999
/-- The block of a number that a closure holds. -/
abbrev numB (b : Nat) (n : Int) : Blk := ⟨b, .row 1 [.int .i64 n] 0⟩
theorem quiet_of {α : Type} {f : FuncId} {args : List PV} {τ ρ σ : Mem} {r : PV} {R : α → Prop} (h : ACalls Tryd.prog W f args τ (Gives (fun _ : α => r) (fun _ => τ) R)) (hp : σ.Perm (τ ++ ρ)) : Quiet Tryd.prog W f args σ r :=
  ⟨fun k hk => ACalls.weak (ACalls.lend h hp (k := fun v σ' => ∃ τ', k v τ' ∧ wkMem σ' τ') fun _ _ => ⟨σ, hk, [], by rw [List.append_nil]; exact hp.symm⟩)⟩
def rowS (s : Scr) (n : Int) : Int := if bitop .and .i64 s.modes 2 = 0 then timesL n - 1 else min (s.top + timesL n - 1) s.bottom
end Go.Eng.YtphoefglfbifdaaDoor
end

/- Screens: right, left, to. -/
section
namespace Go.Eng.YtphoefglfbifdaaDoor
open Go Go.Eng Go.Proofs
variable (W : World)
set_option linter.unusedSimpArgs false
set_option maxRecDepth 100000
set_option linter.unusedVariables false
set_option maxHeartbeats 8000000
/-- What is done changes no cells, no tabs, and not what is gone. -/
theorem done_plain (b bc bt bg : Nat) (s s' : Scr) (h1 : s'.g.cs = s.g.cs) (h2 : s'.tabs = s.tabs) (h3 : s'.gone = s.gone) (x : Blk) :
    Done b s' (scrB b bc s.g.cs.length (.rsl bt 1 0 s.tabs.length) (.rsl bg 1 0 s.gone.length) s' :: x :: scrR bc bt bg [] s) := by
  refine ⟨bc, _, bt, _, _, x :: scrR bc bt bg [] s, .refl _, .inr ⟨bg, 0, _, rfl⟩, ?_, ?_, ?_⟩
  · rw [h1]; exact frz_row (.there _ _ _ _ _ (.here _ _ _)) _ (by simp)
  · rw [h2]; exact frz_row (.there _ _ _ _ _ (.there _ _ _ _ _ (.here _ _ _))) _ (by simp)
  · rw [h3]; exact frz_row (l := s.gone.map encRow) (.there _ _ _ _ _ (.there _ _ _ _ _ (.there _ _ _ _ _ (.here _ _ _)))) _ (by simp)
/-- What comes of a change. -/
def moveE (s s' : Scr) : Scr × Int := if checkS s = 0 then (s', 0) else (Scr.none, checkS s)
theorem done_plain2 (b bc bt bg : Nat) (s s' : Scr) (h1 : s'.g.cs = s.g.cs) (h2 : s'.tabs = s.tabs) (h3 : s'.gone = s.gone) (x y : Blk) :
    Done b s' (scrB b bc s.g.cs.length (.rsl bt 1 0 s.tabs.length) (.rsl bg 1 0 s.gone.length) s' :: x :: y :: scrR bc bt bg [] s) := by
  refine ⟨bc, _, bt, _, _, x :: y :: scrR bc bt bg [] s, .refl _, .inr ⟨bg, 0, _, rfl⟩, ?_, ?_, ?_⟩
  · rw [h1]; exact frz_row (.there _ _ _ _ _ (.there _ _ _ _ _ (.here _ _ _))) _ (by simp)
  · rw [h2]; exact frz_row (.there _ _ _ _ _ (.there _ _ _ _ _ (.there _ _ _ _ _ (.here _ _ _)))) _ (by simp)
  · rw [h3]; exact frz_row (l := s.gone.map encRow) (.there _ _ _ _ _ (.there _ _ _ _ _ (.there _ _ _ _ _ (.there _ _ _ _ _ (.here _ _ _))))) _ (by simp)
end Go.Eng.YtphoefglfbifdaaDoor
end

/- Screens: what is moved is a screen. -/
section
namespace Go.Eng.YtphoefglfbifdaaDoor
open Go Go.Eng Go.Proofs
variable (W : World)
set_option linter.unusedSimpArgs false
set_option maxRecDepth 100000
set_option linter.unusedVariables false
set_option maxHeartbeats 8000000
theorem check_at {s : Scr} (h0 : checkS s = 0) (x y : Int) : checkS (atS s x y) = 0 := by
  obtain ⟨w, h, hr⟩ := right_of h0
  have hw1 := hr.fit.w1
  have hh1 := hr.fit.h1
  have hgw := hr.fit.ew
  have hgh := hr.fit.eh
  have hx : 0 ≤ min (max x 0) (s.g.w - 1) ∧ min (max x 0) (s.g.w - 1) < s.g.w := by omega
  have hy : 0 ≤ min (max y 0) (s.g.h - 1) ∧ min (max y 0) (s.g.h - 1) < s.g.h := by omega
  rw [checkS] at h0 ⊢
  rw [atS]
  dsimp only
  generalize min (max x 0) (s.g.w - 1) = X at *
  generalize min (max y 0) (s.g.h - 1) = Y at *
  clear hr
  grind
theorem atS_okS {s : Scr} (h : s.ok) (x y : Int) (hw : 1 ≤ s.g.w ∧ s.g.w ≤ 120) (hh : 1 ≤ s.g.h ∧ s.g.h ≤ 60) : (atS s x y).ok := by
  obtain ⟨h1, h2, h3, h4, h5, h6, h7, h8, h9, h10, h11, h12, h13, h14, h15⟩ := h
  exact ⟨h1, by show i64ok (min (max x 0) (s.g.w - 1)); unfold i64ok; omega, by show i64ok (min (max y 0) (s.g.h - 1)); unfold i64ok; omega, h4, h5, h6, h7, h8, h9, h10, h11, h12, h13, h14, h15⟩
end Go.Eng.YtphoefglfbifdaaDoor
end

/- The law MoveBack. -/
section
namespace Go.Eng.YtphoefglfbifdaaDoor
open Go Go.Eng Go.Proofs
variable (W : World)
set_option linter.unusedSimpArgs false
set_option maxRecDepth 100000
set_option linter.unusedVariables false
set_option maxHeartbeats 8000000
end Go.Eng.YtphoefglfbifdaaDoor
end
