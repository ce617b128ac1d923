/- Texts put together: Scr5. -/
import Derived.Test.YtphoefglfbifdaaDoorMW1
/- Screens of the call's own: rows that scroll down. -/
section
namespace Go.Eng.YtphoefglfbifdaaDoor
open Go Go.Eng Go.Proofs
variable (W : World)
set_option linter.unusedSimpArgs false
set_option maxRecDepth 100000
set_option linter.unusedVariables false
set_option maxHeartbeats 8000000
theorem down_ok (b bc : Nat) (tv gv : PV) (s : Scr) {w h : Nat} {L : List (List Cell)} (f : RowsOk L w h) (hw : s.g.w = w) (hh : s.g.h = h) (top bottom n : Nat) (htb : top ≤ bottom) (hbh : bottom < h) (hbo : s.bottom = bottom) (hn : n ≤ 10000) :
    ACalls Tryd.prog W 41 [.bref b 0, .int .i64 top, .int .i64 n] [scrB b bc (h * w) tv gv s, ⟨bc, .row 4 (L.flatten.map encCell) 0⟩]
      (Gives (fun _ : Unit => .tup []) (fun _ => [scrB b bc (h * w) tv gv s, ⟨bc, .row 4 ((iterF (downR s.look.back w top bottom) (min n (bottom - top + 1)) L).flatten.map encCell) 0⟩]) (fun _ => True)) := by
  have hck := fun {L' : List (List Cell)} (f' : RowsOk L' w h) {row : List Cell} (hrow : L'[top]? = some row) => clear_ok W b bc tv gv s f' hw hh top 0 w hrow (by omega) (by have := f.w2; omega)
  have hsm := f.small
  have hh2 := f.h2
  have hw1 := f.w1
  have hw2 := f.w2
  obtain ⟨⟨gw, gh, cs⟩, X, Y, late, ⟨fo, ba, bi⟩, tp, bo, modes, tabs, kx, ky, ⟨f2, b2, bi2⟩, km, last, title, gone⟩ := s
  dsimp only at *
  subst hw hh hbo
  rw [show scrB b bc (h * w) tv gv ⟨⟨w, h, cs⟩, X, Y, late, ⟨fo, ba, bi⟩, tp, bottom, modes, tabs, kx, ky, ⟨f2, b2, bi2⟩, km, last, title, gone⟩ = ⟨b, .row 22 [.agg [.int .i64 w, .int .i64 h, .rsl bc 4 0 (h * w), .int .i64 X, .int .i64 Y, .bool late, .int .i64 fo, .int .i64 ba, .int .i64 bi, .int .i64 tp, .int .i64 bottom, .int .i64 modes, tv, .int .i64 kx, .int .i64 ky, .int .i64 f2, .int .i64 b2, .int .i64 bi2, .int .i64 km, .int .i32 last, .str title, gv]] 0⟩ from rfl] at *
  have hb1 : (bottom + 1) * w ≤ h * w := Nat.mul_le_mul_right _ (by omega)
  have hb2 : (top + 1) * w ≤ (bottom + 1) * w := Nat.mul_le_mul_right _ (by omega)
  have hb3 : top * w ≤ bottom * w := Nat.mul_le_mul_right _ (by omega)
  have hb4 : bottom * w ≤ (bottom + 1) * w := Nat.mul_le_mul_right _ (by omega)
  have ib1 : ((bottom : Int) + 1) * w ≤ h * w := by exact_mod_cast hb1
  have ib2 : ((top : Int) + 1) * w ≤ (bottom + 1) * w := by exact_mod_cast hb2
  have ib3 : (top : Int) * w ≤ bottom * w := by exact_mod_cast hb3
  have ib4 : (bottom : Int) * w ≤ (bottom + 1) * w := by exact_mod_cast hb4
  have ib5 : (h : Int) * w ≤ 7200 := by exact_mod_cast hsm
  have ib6 : 0 ≤ (top : Int) * w := Int.mul_nonneg (by omega) (by omega)
  have ib7 : (top : Int) * w ≤ (top + 1) * w := Int.mul_le_mul_of_nonneg_right (by omega) (by omega)
  obtain ⟨K, hK⟩ : ∃ K, K = min n (bottom - top + 1) := ⟨_, rfl⟩
  rw [← hK]
  refine acalls_of_vc (drawOk W) Tryd.func41 rfl (by decide) (by decide) rfl ?_
  refine g0_ ?_
  refine' loopI (α := Nat × (List (List Cell))) (fun (i, L') => [(15, .int .i64 i)]) [(0, _), (1, _), (14, _)] (fun (i, L') => [⟨b, .row 22 [.agg [.int .i64 w, .int .i64 h, .rsl bc 4 0 (h * w), .int .i64 X, .int .i64 Y, .bool late, .int .i64 fo, .int .i64 ba, .int .i64 bi, .int .i64 tp, .int .i64 bottom, .int .i64 modes, tv, .int .i64 kx, .int .i64 ky, .int .i64 f2, .int .i64 b2, .int .i64 bi2, .int .i64 km, .int .i32 last, .str title, gv]] 0⟩, ⟨bc, .row 4 (L'.flatten.map encCell) 0⟩]) (fun (i, L') => RowsOk L' w h ∧ i ≤ K ∧ iterF (downR ba w top bottom) (K - i) L' = iterF (downR ba w top bottom) K L) (fun (i, L') => K - i) (0, L) ?_ ?_
  · exact ⟨f, Nat.zero_le _, rfl⟩
  rintro ⟨i, L'⟩ ⟨f', hi, hit⟩
  refine g0_ ?_
  refine brec ?_; intro c_ h1; (try rw [h1]); cases c_ <;> replace h1 := nm_ h1
  · have e : i = K := by split at h1 <;> omega
    rw [e, Nat.sub_self, iterF] at hit
    refine g0_ ?_
    refine ⟨(), trivial, rfl, ?_⟩
    rw [← hit]
    (first | exact ⟨_, .refl _⟩ | exact wkMem.rfl' | exact ⟨_, .swap _ _ _⟩ | (repeat (first | exact wkMem.nil _ | exact wkMem.rfl' | exact wk_snoc _ _ _ | exact wk_fam (by assumption) _ _ _ | exact wk_famN (by assumption) _ _ _ | (apply wkMem.cons; (case' hl => (repeat (first | exact .here _ _ _ | apply Look.there)))) | apply wkMem.skip)))
  · have hfl := f'.flat
    have hiK : i < K := by split at h1 <;> omega
    refine g0_ ?_
    refine head_ ?_; refine g0_ ?_
    refine need.mk (by rw [List.length_map, hfl, Nat.zero_add]; exact seg_le hb3 (Nat.le_trans hb4 hb1)) ?_
    refine g0_ ?_
    refine need.mk ⟨by rw [List.length_map, hfl, Nat.zero_add]; exact seg_le hb2 hb1, ?_, by omega⟩ ?_
    · rw [← List.map_drop, ← List.map_take]; exact cells_all _
    simp only [Nat.zero_add]
    rw [down_copy f' htb hbh]
    have f2' := f'.mid2 htb hbh
    obtain ⟨row, hrow, hrl⟩ := f2'.at (y := top) (by omega)
    have hcl := hck f2' hrow
    have e2 : (mid2R top bottom L').set top (clearR ba 0 w row) = downR ba w top bottom L' := by rw [clear_all ba (by omega), hrl]; rfl
    rw [e2] at hcl
    refine g0_ ?_
    refine ACalls.lend hcl (r := []) (by first | exact .refl _ | exact .swap _ _ _) ?_
    rintro _ -
    refine g0_ ?_
    refine nx_ (i + 1, downR ba w top bottom L') ?_ ?_
    · refine ⟨f'.down htb hbh ba, by omega, ?_⟩
      rw [← hit, show K - i = (K - (i + 1)) + 1 by omega]
      rfl
    · show K - (i + 1) < K - i
      omega
end Go.Eng.YtphoefglfbifdaaDoor
end
