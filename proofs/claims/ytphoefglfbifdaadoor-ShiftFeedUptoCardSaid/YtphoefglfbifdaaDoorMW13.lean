/- Texts put together: ScrK. -/
import Derived.Test.YtphoefglfbifdaaDoorMW7
import Derived.Test.YtphoefglfbifdaaDoorME9
/- Screens of the call's own: package mode's Save and Restore; with nothing of the desks. -/
section
namespace Go.Eng.YtphoefglfbifdaaDoor
open Go Go.Eng Go.Proofs
variable (W : World)
set_option linter.unusedSimpArgs false
set_option maxRecDepth 100000
set_option linter.unusedVariables false
set_option maxHeartbeats 8000000
theorem scrB_eqK (b bc N : Nat) (tv gv : PV) (gw gh : Int) (cs : List Cell) (x y : Int) (late : Bool) (f ba bi top bottom modes : Int) (tabs : List Bool) (kx ky f2 b2 bi2 km last : Int) (title : List UInt8) (gone : List (List Cell)) :
    scrB b bc N tv gv ⟨⟨gw, gh, cs⟩, x, y, late, ⟨f, ba, bi⟩, top, bottom, modes, tabs, kx, ky, ⟨f2, b2, bi2⟩, km, last, title, gone⟩ = ⟨b, .row 22 [.agg [.int .i64 gw, .int .i64 gh, .rsl bc 4 0 N, .int .i64 x, .int .i64 y, .bool late, .int .i64 f, .int .i64 ba, .int .i64 bi, .int .i64 top, .int .i64 bottom, .int .i64 modes, tv, .int .i64 kx, .int .i64 ky, .int .i64 f2, .int .i64 b2, .int .i64 bi2, .int .i64 km, .int .i32 last, .str title, gv]] 0⟩ := rfl
theorem done_plain0K (b bc bt bg : Nat) (s s' : Scr) (h1 : s'.g.cs = s.g.cs) (h2 : s'.tabs = s.tabs) (h3 : s'.gone = s.gone) :
    Done b s' (scrB b bc s.g.cs.length (.rsl bt 1 0 s.tabs.length) (.rsl bg 1 0 s.gone.length) s' :: scrR bc bt bg [] s) := by
  refine ⟨bc, _, bt, _, _, scrR bc bt bg [] s, .refl _, .inr ⟨bg, 0, _, rfl⟩, ?_, ?_, ?_⟩
  · rw [h1]; exact frz_row (.here _ _ _) _ (by simp)
  · rw [h2]; exact frz_row (.there _ _ _ _ _ (.here _ _ _)) _ (by simp)
  · rw [h3]; exact frz_row (l := s.gone.map encRow) (.there _ _ _ _ _ (.there _ _ _ _ _ (.here _ _ _))) _ (by simp)
theorem done_plainLK (b bc bt bg : Nat) (s s' : Scr) (h1 : s'.g.cs = s.g.cs) (h2 : s'.tabs = s.tabs) (h3 : s'.gone = s.gone) (τ : Mem) :
    Done b s' (scrB b bc s.g.cs.length (.rsl bt 1 0 s.tabs.length) (.rsl bg 1 0 s.gone.length) s' :: (τ ++ scrR bc bt bg [] s)) := by
  refine ⟨bc, _, bt, _, _, τ ++ scrR bc bt bg [] s, .refl _, .inr ⟨bg, 0, _, rfl⟩, ?_, ?_, ?_⟩
  · rw [h1]; exact frz_row (Look.app (.here _ _ _) τ) _ (by simp)
  · rw [h2]; exact frz_row (Look.app (.there _ _ _ _ _ (.here _ _ _)) τ) _ (by simp)
  · rw [h3]; exact frz_row (l := s.gone.map encRow) (Look.app (.there _ _ _ _ _ (.there _ _ _ _ _ (.here _ _ _))) τ) _ (by simp)
def saveK (s : Scr) : Scr := { s with kx := s.x, ky := s.y, ks := s.look, km := bitop .and .i64 s.modes 6 }
def restoreK (s : Scr) : Scr := { s with x := s.kx, y := s.ky, look := s.ks, late := false, modes := bitop .or .i64 (bitop .andNot .i64 s.modes 6) s.km }
theorem km_bitsK : ((List.range 64).all fun m => (List.range 64).all fun k => !decide (bitop .and .i64 (k : Int) 57 = 0) || (decide (bitop .and .i64 (m : Int) 57 + (k : Int) = bitop .or .i64 (bitop .andNot .i64 (m : Int) 6) (k : Int)) && decide (0 ≤ bitop .and .i64 (m : Int) 57 + (k : Int)) && decide (bitop .and .i64 (m : Int) 57 + (k : Int) ≤ 63))) = true := by decide +kernel
theorem km_atK {m k : Int} (hm : 0 ≤ m ∧ m ≤ 63) (hk : bitop .andNot .i64 k 6 = 0) (hok : i64ok k) : bitop .and .i64 m 57 + k = bitop .or .i64 (bitop .andNot .i64 m 6) k ∧ 0 ≤ bitop .and .i64 m 57 + k ∧ bitop .and .i64 m 57 + k ≤ 63 := by
  have h57 := and57 k hok
  by_cases hc : k < 0 ∨ bitop .and .i64 k 57 ≠ 0 ∨ 63 < k
  · exact absurd hk (h57.2 hc)
  · have h1 : 0 ≤ k := by omega
    have h2 : k ≤ 63 := by omega
    have h3 : bitop .and .i64 k 57 = 0 := Decidable.not_not.1 fun h => hc (.inr (.inl h))
    obtain ⟨m, rfl⟩ := Int.eq_ofNat_of_zero_le hm.1
    obtain ⟨k, rfl⟩ := Int.eq_ofNat_of_zero_le h1
    have g1 := List.all_eq_true.1 km_bitsK m (List.mem_range.2 (by omega))
    have g2 := List.all_eq_true.1 g1 k (List.mem_range.2 (by omega))
    simp only [Bool.or_eq_true, Bool.not_eq_true', decide_eq_false_iff_not, Bool.and_eq_true, decide_eq_true_eq] at g2
    rcases g2 with g2 | g2
    · exact absurd h3 g2
    · exact ⟨g2.1.1, g2.1.2, g2.2⟩
theorem and6K (x : Int) : i64ok (bitop .and .i64 x 6) := by
  have h : ((BitVec.ofInt 64 x) &&& (BitVec.ofInt 64 6)).toNat ≤ 6 := by
    rw [BitVec.toNat_and]
    exact Nat.and_le_right
  show i64ok (IntKind.i64.wrap ((BitVec.ofInt 64 x &&& BitVec.ofInt 64 6).toNat : Int))
  generalize (BitVec.ofInt 64 x &&& BitVec.ofInt 64 6).toNat = n at *
  rw [IntKind.wrap_i64]
  unfold i64ok; omega
theorem saveK_ok {s : Scr} (h : s.ok) : (saveK s).ok := by
  obtain ⟨h1, h2, h3, h4, h5, h6, h7, h8, h9, h10, h11, h12, h13, h14, h15⟩ := h
  exact ⟨h1, h2, h3, h4, h5, h6, h7, h8, h2, h3, h4, and6K s.modes, h13, h14, h15⟩
theorem restoreK_ok {s : Scr} (h : s.ok) (h0 : checkS s = 0) : (restoreK s).ok := by
  have hR := (check_iff s).1 h0
  have hk := km_atK hR.modes hR.km h.km
  obtain ⟨h1, h2, h3, h4, h5, h6, h7, h8, h9, h10, h11, h12, h13, h14, h15⟩ := h
  refine ⟨h1, h9, h10, h11, h5, h6, ?_, h8, h9, h10, h11, h12, h13, h14, h15⟩
  show i64ok (bitop .or .i64 (bitop .andNot .i64 s.modes 6) s.km)
  rw [← hk.1]
  unfold i64ok; omega
abbrev strB (b : Nat) (t : List UInt8) : Blk := ⟨b, .row 1 [.str t] 0⟩
end Go.Eng.YtphoefglfbifdaaDoor
end
