/- Texts put together: Dsk7. -/
import Derived.Test.YtgpkedepboenpaaDoorMK3
/- The rows that scroll are chosen: package shift's Region, the desk's; the law ShiftRegion. -/
section
namespace Go.Eng.YtgpkedepboenpaaDoor
open Go Go.Eng Go.Proofs
variable (W : World)
set_option linter.unusedSimpArgs false
set_option maxRecDepth 100000
set_option linter.unusedVariables false
set_option maxHeartbeats 8000000
/-- What is done changes no cells, no tabs, and not what is gone; these blocks are held. -/
theorem done_plainL (b bc bt bg : Nat) (s s' : Scr) (h1 : s'.g.cs = s.g.cs) (h2 : s'.tabs = s.tabs) (h3 : s'.gone = s.gone) (τ : Mem) :
    Done b s' (scrB b bc s.g.cs.length (.rsl bt 1 0 s.tabs.length) (.rsl bg 1 0 s.gone.length) s' :: (τ ++ scrR bc bt bg [] s)) := by
  refine ⟨bc, _, bt, _, _, τ ++ scrR bc bt bg [] s, .refl _, .inr ⟨bg, 0, _, rfl⟩, ?_, ?_, ?_⟩
  · rw [h1]; exact frz_row (Look.app (.here _ _ _) τ) _ (by simp)
  · rw [h2]; exact frz_row (Look.app (.there _ _ _ _ _ (.here _ _ _)) τ) _ (by simp)
  · rw [h3]; exact frz_row (l := s.gone.map encRow) (Look.app (.there _ _ _ _ _ (.there _ _ _ _ _ (.here _ _ _))) τ) _ (by simp)
def regA (t : Int) : Int := max t 1 - 1
def regB (h b : Int) : Int := if b ≤ 0 ∨ h < b then h - 1 else b - 1
def regionS (s : Scr) (t b : Int) : Scr :=
  if regA t < regB s.g.h b ∨ (s.g.h = 1 ∧ regA t = regB s.g.h b) then { s with top := regA t, bottom := regB s.g.h b, x := 0, y := if bitop .and .i64 s.modes 2 = 0 then 0 else regA t, late := false } else s
theorem region1_ok (b bc N b1 b2 : Nat) (tv gv : PV) (s : Scr) (t bb : Int) (ht : i64ok t) (hbb : i64ok bb) (h0 : checkS s = 0) : ACalls Tryd.prog W 104 [.bref b 0, .bref b1 0, .bref b2 0] [scrB b bc N tv gv s, numB b2 bb, numB b1 t] (Gives (fun _ : Unit => .tup []) (fun _ => [scrB b bc N tv gv (regionS s t bb), numB b2 bb, numB b1 t]) (fun _ => True)) := by
  unfold i64ok at ht hbb
  obtain ⟨q1, q2, q3, q4, q5, q6, q7, q8, q9, q10, q11⟩ := right_sizes h0
  clear h0
  by_cases hb : bb ≤ 0
  · have hB : regB s.g.h bb = s.g.h - 1 := if_pos (.inl hb)
    by_cases hmin : bb = -9223372036854775808
    · by_cases hc : regA t < regB s.g.h bb ∨ (s.g.h = 1 ∧ regA t = regB s.g.h bb)
      · by_cases hm : bitop .and .i64 s.modes 2 = 0
        · rw [regionS, if_pos hc, if_pos hm]
          rw [hB] at *
          simp only [regA] at *
          clear hB
          obtain ⟨⟨gw, gh, cs⟩, X, Y, late, ⟨fo, ba, bi⟩, tp, bo, modes, tabs, kx, ky, ⟨f2, b2, bi2⟩, km, last, title, gone⟩ := s
          dsimp only at *
          rw [scrB_eq]
          refine acalls_of_vc (DL_ok (by decide)) Tryd.func104 rfl (by decide) (by decide) rfl ?_
          (refine g0_ ?_; repeat ((first | refine n1_ fun b_ => ?_ | refine n2_ fun b_ => ?_ | refine n3_ fun b_ pre_ => ?_ | refine Nat1.mk fun q_ hq_ => ?_ | refine em_ fun x_ hx_ => ?_ | refine Elem1.mk fun e_ he_ => ?_); refine g0_ ?_))
          simp only [ifmax]
          (refine g1_ ?_; repeat ((first | refine n1_ fun b_ => ?_ | refine n2_ fun b_ => ?_ | refine n3_ fun b_ pre_ => ?_ | refine Nat1.mk fun q_ hq_ => ?_ | refine em_ fun x_ hx_ => ?_ | refine Elem1.mk fun e_ he_ => ?_); refine g1_ ?_))
          (try (refine Fits.wrap ?_; (refine g1_ ?_; repeat ((first | refine n1_ fun b_ => ?_ | refine n2_ fun b_ => ?_ | refine n3_ fun b_ pre_ => ?_ | refine Nat1.mk fun q_ hq_ => ?_ | refine em_ fun x_ hx_ => ?_ | refine Elem1.mk fun e_ he_ => ?_); refine g1_ ?_))))
          skip
          refine headL_ (head_ ?_); (refine g0_ ?_; repeat ((first | refine n1_ fun b_ => ?_ | refine n2_ fun b_ => ?_ | refine n3_ fun b_ pre_ => ?_ | refine Nat1.mk fun q_ hq_ => ?_ | refine em_ fun x_ hx_ => ?_ | refine Elem1.mk fun e_ he_ => ?_); refine g0_ ?_))
          (refine g1_ ?_; repeat ((first | refine n1_ fun b_ => ?_ | refine n2_ fun b_ => ?_ | refine n3_ fun b_ pre_ => ?_ | refine Nat1.mk fun q_ hq_ => ?_ | refine em_ fun x_ hx_ => ?_ | refine Elem1.mk fun e_ he_ => ?_); refine g1_ ?_))
          exact ⟨(), trivial, rfl, by (first | exact ⟨_, .refl _⟩ | exact wkMem.rfl' | exact ⟨_, .swap _ _ _⟩ | (repeat (first | exact wkMem.nil _ | exact wkMem.rfl' | exact wk_snoc _ _ _ | exact wk_fam (by assumption) _ _ _ | exact wk_famN (by assumption) _ _ _ | (apply wkMem.cons; (case' hl => (repeat (first | exact .here _ _ _ | apply Look.there)))) | apply wkMem.skip)))⟩
        · rw [regionS, if_pos hc, if_neg hm]
          rw [hB] at *
          simp only [regA] at *
          clear hB
          obtain ⟨⟨gw, gh, cs⟩, X, Y, late, ⟨fo, ba, bi⟩, tp, bo, modes, tabs, kx, ky, ⟨f2, b2, bi2⟩, km, last, title, gone⟩ := s
          dsimp only at *
          rw [scrB_eq]
          refine acalls_of_vc (DL_ok (by decide)) Tryd.func104 rfl (by decide) (by decide) rfl ?_
          (refine g0_ ?_; repeat ((first | refine n1_ fun b_ => ?_ | refine n2_ fun b_ => ?_ | refine n3_ fun b_ pre_ => ?_ | refine Nat1.mk fun q_ hq_ => ?_ | refine em_ fun x_ hx_ => ?_ | refine Elem1.mk fun e_ he_ => ?_); refine g0_ ?_))
          simp only [ifmax]
          (refine g1_ ?_; repeat ((first | refine n1_ fun b_ => ?_ | refine n2_ fun b_ => ?_ | refine n3_ fun b_ pre_ => ?_ | refine Nat1.mk fun q_ hq_ => ?_ | refine em_ fun x_ hx_ => ?_ | refine Elem1.mk fun e_ he_ => ?_); refine g1_ ?_))
          (try (refine Fits.wrap ?_; (refine g1_ ?_; repeat ((first | refine n1_ fun b_ => ?_ | refine n2_ fun b_ => ?_ | refine n3_ fun b_ pre_ => ?_ | refine Nat1.mk fun q_ hq_ => ?_ | refine em_ fun x_ hx_ => ?_ | refine Elem1.mk fun e_ he_ => ?_); refine g1_ ?_))))
          skip
          refine headL_ (head_ ?_); (refine g0_ ?_; repeat ((first | refine n1_ fun b_ => ?_ | refine n2_ fun b_ => ?_ | refine n3_ fun b_ pre_ => ?_ | refine Nat1.mk fun q_ hq_ => ?_ | refine em_ fun x_ hx_ => ?_ | refine Elem1.mk fun e_ he_ => ?_); refine g0_ ?_))
          (refine g1_ ?_; repeat ((first | refine n1_ fun b_ => ?_ | refine n2_ fun b_ => ?_ | refine n3_ fun b_ pre_ => ?_ | refine Nat1.mk fun q_ hq_ => ?_ | refine em_ fun x_ hx_ => ?_ | refine Elem1.mk fun e_ he_ => ?_); refine g1_ ?_))
          exact ⟨(), trivial, rfl, by (first | exact ⟨_, .refl _⟩ | exact wkMem.rfl' | exact ⟨_, .swap _ _ _⟩ | (repeat (first | exact wkMem.nil _ | exact wkMem.rfl' | exact wk_snoc _ _ _ | exact wk_fam (by assumption) _ _ _ | exact wk_famN (by assumption) _ _ _ | (apply wkMem.cons; (case' hl => (repeat (first | exact .here _ _ _ | apply Look.there)))) | apply wkMem.skip)))⟩
      · rw [regionS, if_neg hc]
        rw [hB] at hc
        simp only [regA] at *
        clear hB
        obtain ⟨⟨gw, gh, cs⟩, X, Y, late, ⟨fo, ba, bi⟩, tp, bo, modes, tabs, kx, ky, ⟨f2, b2, bi2⟩, km, last, title, gone⟩ := s
        dsimp only at *
        rw [scrB_eq]
        refine acalls_of_vc (DL_ok (by decide)) Tryd.func104 rfl (by decide) (by decide) rfl ?_
        (refine g0_ ?_; repeat ((first | refine n1_ fun b_ => ?_ | refine n2_ fun b_ => ?_ | refine n3_ fun b_ pre_ => ?_ | refine Nat1.mk fun q_ hq_ => ?_ | refine em_ fun x_ hx_ => ?_ | refine Elem1.mk fun e_ he_ => ?_); refine g0_ ?_))
        simp only [ifmax]
        (refine g1_ ?_; repeat ((first | refine n1_ fun b_ => ?_ | refine n2_ fun b_ => ?_ | refine n3_ fun b_ pre_ => ?_ | refine Nat1.mk fun q_ hq_ => ?_ | refine em_ fun x_ hx_ => ?_ | refine Elem1.mk fun e_ he_ => ?_); refine g1_ ?_))
        (try (refine Fits.wrap ?_; (refine g1_ ?_; repeat ((first | refine n1_ fun b_ => ?_ | refine n2_ fun b_ => ?_ | refine n3_ fun b_ pre_ => ?_ | refine Nat1.mk fun q_ hq_ => ?_ | refine em_ fun x_ hx_ => ?_ | refine Elem1.mk fun e_ he_ => ?_); refine g1_ ?_))))
        skip
        refine headL_ (head_ ?_); (refine g0_ ?_; repeat ((first | refine n1_ fun b_ => ?_ | refine n2_ fun b_ => ?_ | refine n3_ fun b_ pre_ => ?_ | refine Nat1.mk fun q_ hq_ => ?_ | refine em_ fun x_ hx_ => ?_ | refine Elem1.mk fun e_ he_ => ?_); refine g0_ ?_))
        (refine g1_ ?_; repeat ((first | refine n1_ fun b_ => ?_ | refine n2_ fun b_ => ?_ | refine n3_ fun b_ pre_ => ?_ | refine Nat1.mk fun q_ hq_ => ?_ | refine em_ fun x_ hx_ => ?_ | refine Elem1.mk fun e_ he_ => ?_); refine g1_ ?_))
        exact ⟨(), trivial, rfl, by (first | exact ⟨_, .refl _⟩ | exact wkMem.rfl' | exact ⟨_, .swap _ _ _⟩ | (repeat (first | exact wkMem.nil _ | exact wkMem.rfl' | exact wk_snoc _ _ _ | exact wk_fam (by assumption) _ _ _ | exact wk_famN (by assumption) _ _ _ | (apply wkMem.cons; (case' hl => (repeat (first | exact .here _ _ _ | apply Look.there)))) | apply wkMem.skip)))⟩
    · by_cases hc : regA t < regB s.g.h bb ∨ (s.g.h = 1 ∧ regA t = regB s.g.h bb)
      · by_cases hm : bitop .and .i64 s.modes 2 = 0
        · rw [regionS, if_pos hc, if_pos hm]
          rw [hB] at *
          simp only [regA] at *
          clear hB
          obtain ⟨⟨gw, gh, cs⟩, X, Y, late, ⟨fo, ba, bi⟩, tp, bo, modes, tabs, kx, ky, ⟨f2, b2, bi2⟩, km, last, title, gone⟩ := s
          dsimp only at *
          rw [scrB_eq]
          refine acalls_of_vc (DL_ok (by decide)) Tryd.func104 rfl (by decide) (by decide) rfl ?_
          (refine g0_ ?_; repeat ((first | refine n1_ fun b_ => ?_ | refine n2_ fun b_ => ?_ | refine n3_ fun b_ pre_ => ?_ | refine Nat1.mk fun q_ hq_ => ?_ | refine em_ fun x_ hx_ => ?_ | refine Elem1.mk fun e_ he_ => ?_); refine g0_ ?_))
          simp only [ifmax]
          (refine g1_ ?_; repeat ((first | refine n1_ fun b_ => ?_ | refine n2_ fun b_ => ?_ | refine n3_ fun b_ pre_ => ?_ | refine Nat1.mk fun q_ hq_ => ?_ | refine em_ fun x_ hx_ => ?_ | refine Elem1.mk fun e_ he_ => ?_); refine g1_ ?_))
          (try (refine Fits.wrap ?_; (refine g1_ ?_; repeat ((first | refine n1_ fun b_ => ?_ | refine n2_ fun b_ => ?_ | refine n3_ fun b_ pre_ => ?_ | refine Nat1.mk fun q_ hq_ => ?_ | refine em_ fun x_ hx_ => ?_ | refine Elem1.mk fun e_ he_ => ?_); refine g1_ ?_))))
          skip
          refine headL_ (head_ ?_); (refine g0_ ?_; repeat ((first | refine n1_ fun b_ => ?_ | refine n2_ fun b_ => ?_ | refine n3_ fun b_ pre_ => ?_ | refine Nat1.mk fun q_ hq_ => ?_ | refine em_ fun x_ hx_ => ?_ | refine Elem1.mk fun e_ he_ => ?_); refine g0_ ?_))
          (refine g1_ ?_; repeat ((first | refine n1_ fun b_ => ?_ | refine n2_ fun b_ => ?_ | refine n3_ fun b_ pre_ => ?_ | refine Nat1.mk fun q_ hq_ => ?_ | refine em_ fun x_ hx_ => ?_ | refine Elem1.mk fun e_ he_ => ?_); refine g1_ ?_))
          exact ⟨(), trivial, rfl, by (first | exact ⟨_, .refl _⟩ | exact wkMem.rfl' | exact ⟨_, .swap _ _ _⟩ | (repeat (first | exact wkMem.nil _ | exact wkMem.rfl' | exact wk_snoc _ _ _ | exact wk_fam (by assumption) _ _ _ | exact wk_famN (by assumption) _ _ _ | (apply wkMem.cons; (case' hl => (repeat (first | exact .here _ _ _ | apply Look.there)))) | apply wkMem.skip)))⟩
        · rw [regionS, if_pos hc, if_neg hm]
          rw [hB] at *
          simp only [regA] at *
          clear hB
          obtain ⟨⟨gw, gh, cs⟩, X, Y, late, ⟨fo, ba, bi⟩, tp, bo, modes, tabs, kx, ky, ⟨f2, b2, bi2⟩, km, last, title, gone⟩ := s
          dsimp only at *
          rw [scrB_eq]
          refine acalls_of_vc (DL_ok (by decide)) Tryd.func104 rfl (by decide) (by decide) rfl ?_
          (refine g0_ ?_; repeat ((first | refine n1_ fun b_ => ?_ | refine n2_ fun b_ => ?_ | refine n3_ fun b_ pre_ => ?_ | refine Nat1.mk fun q_ hq_ => ?_ | refine em_ fun x_ hx_ => ?_ | refine Elem1.mk fun e_ he_ => ?_); refine g0_ ?_))
          simp only [ifmax]
          (refine g1_ ?_; repeat ((first | refine n1_ fun b_ => ?_ | refine n2_ fun b_ => ?_ | refine n3_ fun b_ pre_ => ?_ | refine Nat1.mk fun q_ hq_ => ?_ | refine em_ fun x_ hx_ => ?_ | refine Elem1.mk fun e_ he_ => ?_); refine g1_ ?_))
          (try (refine Fits.wrap ?_; (refine g1_ ?_; repeat ((first | refine n1_ fun b_ => ?_ | refine n2_ fun b_ => ?_ | refine n3_ fun b_ pre_ => ?_ | refine Nat1.mk fun q_ hq_ => ?_ | refine em_ fun x_ hx_ => ?_ | refine Elem1.mk fun e_ he_ => ?_); refine g1_ ?_))))
          skip
          refine headL_ (head_ ?_); (refine g0_ ?_; repeat ((first | refine n1_ fun b_ => ?_ | refine n2_ fun b_ => ?_ | refine n3_ fun b_ pre_ => ?_ | refine Nat1.mk fun q_ hq_ => ?_ | refine em_ fun x_ hx_ => ?_ | refine Elem1.mk fun e_ he_ => ?_); refine g0_ ?_))
          (refine g1_ ?_; repeat ((first | refine n1_ fun b_ => ?_ | refine n2_ fun b_ => ?_ | refine n3_ fun b_ pre_ => ?_ | refine Nat1.mk fun q_ hq_ => ?_ | refine em_ fun x_ hx_ => ?_ | refine Elem1.mk fun e_ he_ => ?_); refine g1_ ?_))
          exact ⟨(), trivial, rfl, by (first | exact ⟨_, .refl _⟩ | exact wkMem.rfl' | exact ⟨_, .swap _ _ _⟩ | (repeat (first | exact wkMem.nil _ | exact wkMem.rfl' | exact wk_snoc _ _ _ | exact wk_fam (by assumption) _ _ _ | exact wk_famN (by assumption) _ _ _ | (apply wkMem.cons; (case' hl => (repeat (first | exact .here _ _ _ | apply Look.there)))) | apply wkMem.skip)))⟩
      · rw [regionS, if_neg hc]
        rw [hB] at hc
        simp only [regA] at *
        clear hB
        obtain ⟨⟨gw, gh, cs⟩, X, Y, late, ⟨fo, ba, bi⟩, tp, bo, modes, tabs, kx, ky, ⟨f2, b2, bi2⟩, km, last, title, gone⟩ := s
        dsimp only at *
        rw [scrB_eq]
        refine acalls_of_vc (DL_ok (by decide)) Tryd.func104 rfl (by decide) (by decide) rfl ?_
        (refine g0_ ?_; repeat ((first | refine n1_ fun b_ => ?_ | refine n2_ fun b_ => ?_ | refine n3_ fun b_ pre_ => ?_ | refine Nat1.mk fun q_ hq_ => ?_ | refine em_ fun x_ hx_ => ?_ | refine Elem1.mk fun e_ he_ => ?_); refine g0_ ?_))
        simp only [ifmax]
        (refine g1_ ?_; repeat ((first | refine n1_ fun b_ => ?_ | refine n2_ fun b_ => ?_ | refine n3_ fun b_ pre_ => ?_ | refine Nat1.mk fun q_ hq_ => ?_ | refine em_ fun x_ hx_ => ?_ | refine Elem1.mk fun e_ he_ => ?_); refine g1_ ?_))
        (try (refine Fits.wrap ?_; (refine g1_ ?_; repeat ((first | refine n1_ fun b_ => ?_ | refine n2_ fun b_ => ?_ | refine n3_ fun b_ pre_ => ?_ | refine Nat1.mk fun q_ hq_ => ?_ | refine em_ fun x_ hx_ => ?_ | refine Elem1.mk fun e_ he_ => ?_); refine g1_ ?_))))
        skip
        refine headL_ (head_ ?_); (refine g0_ ?_; repeat ((first | refine n1_ fun b_ => ?_ | refine n2_ fun b_ => ?_ | refine n3_ fun b_ pre_ => ?_ | refine Nat1.mk fun q_ hq_ => ?_ | refine em_ fun x_ hx_ => ?_ | refine Elem1.mk fun e_ he_ => ?_); refine g0_ ?_))
        (refine g1_ ?_; repeat ((first | refine n1_ fun b_ => ?_ | refine n2_ fun b_ => ?_ | refine n3_ fun b_ pre_ => ?_ | refine Nat1.mk fun q_ hq_ => ?_ | refine em_ fun x_ hx_ => ?_ | refine Elem1.mk fun e_ he_ => ?_); refine g1_ ?_))
        exact ⟨(), trivial, rfl, by (first | exact ⟨_, .refl _⟩ | exact wkMem.rfl' | exact ⟨_, .swap _ _ _⟩ | (repeat (first | exact wkMem.nil _ | exact wkMem.rfl' | exact wk_snoc _ _ _ | exact wk_fam (by assumption) _ _ _ | exact wk_famN (by assumption) _ _ _ | (apply wkMem.cons; (case' hl => (repeat (first | exact .here _ _ _ | apply Look.there)))) | apply wkMem.skip)))⟩
  · by_cases hb2 : s.g.h < bb
    · have hB : regB s.g.h bb = s.g.h - 1 := if_pos (.inr hb2)
      by_cases hc : regA t < regB s.g.h bb ∨ (s.g.h = 1 ∧ regA t = regB s.g.h bb)
      · by_cases hm : bitop .and .i64 s.modes 2 = 0
        · rw [regionS, if_pos hc, if_pos hm]
          rw [hB] at *
          simp only [regA] at *
          clear hB
          obtain ⟨⟨gw, gh, cs⟩, X, Y, late, ⟨fo, ba, bi⟩, tp, bo, modes, tabs, kx, ky, ⟨f2, b2, bi2⟩, km, last, title, gone⟩ := s
          dsimp only at *
          rw [scrB_eq]
          refine acalls_of_vc (DL_ok (by decide)) Tryd.func104 rfl (by decide) (by decide) rfl ?_
          (refine g0_ ?_; repeat ((first | refine n1_ fun b_ => ?_ | refine n2_ fun b_ => ?_ | refine n3_ fun b_ pre_ => ?_ | refine Nat1.mk fun q_ hq_ => ?_ | refine em_ fun x_ hx_ => ?_ | refine Elem1.mk fun e_ he_ => ?_); refine g0_ ?_))
          simp only [ifmax]
          (refine g1_ ?_; repeat ((first | refine n1_ fun b_ => ?_ | refine n2_ fun b_ => ?_ | refine n3_ fun b_ pre_ => ?_ | refine Nat1.mk fun q_ hq_ => ?_ | refine em_ fun x_ hx_ => ?_ | refine Elem1.mk fun e_ he_ => ?_); refine g1_ ?_))
          (try (refine Fits.wrap ?_; (refine g1_ ?_; repeat ((first | refine n1_ fun b_ => ?_ | refine n2_ fun b_ => ?_ | refine n3_ fun b_ pre_ => ?_ | refine Nat1.mk fun q_ hq_ => ?_ | refine em_ fun x_ hx_ => ?_ | refine Elem1.mk fun e_ he_ => ?_); refine g1_ ?_))))
          skip
          refine headL_ (head_ ?_); (refine g0_ ?_; repeat ((first | refine n1_ fun b_ => ?_ | refine n2_ fun b_ => ?_ | refine n3_ fun b_ pre_ => ?_ | refine Nat1.mk fun q_ hq_ => ?_ | refine em_ fun x_ hx_ => ?_ | refine Elem1.mk fun e_ he_ => ?_); refine g0_ ?_))
          (refine g1_ ?_; repeat ((first | refine n1_ fun b_ => ?_ | refine n2_ fun b_ => ?_ | refine n3_ fun b_ pre_ => ?_ | refine Nat1.mk fun q_ hq_ => ?_ | refine em_ fun x_ hx_ => ?_ | refine Elem1.mk fun e_ he_ => ?_); refine g1_ ?_))
          exact ⟨(), trivial, rfl, by (first | exact ⟨_, .refl _⟩ | exact wkMem.rfl' | exact ⟨_, .swap _ _ _⟩ | (repeat (first | exact wkMem.nil _ | exact wkMem.rfl' | exact wk_snoc _ _ _ | exact wk_fam (by assumption) _ _ _ | exact wk_famN (by assumption) _ _ _ | (apply wkMem.cons; (case' hl => (repeat (first | exact .here _ _ _ | apply Look.there)))) | apply wkMem.skip)))⟩
        · rw [regionS, if_pos hc, if_neg hm]
          rw [hB] at *
          simp only [regA] at *
          clear hB
          obtain ⟨⟨gw, gh, cs⟩, X, Y, late, ⟨fo, ba, bi⟩, tp, bo, modes, tabs, kx, ky, ⟨f2, b2, bi2⟩, km, last, title, gone⟩ := s
          dsimp only at *
          rw [scrB_eq]
          refine acalls_of_vc (DL_ok (by decide)) Tryd.func104 rfl (by decide) (by decide) rfl ?_
          (refine g0_ ?_; repeat ((first | refine n1_ fun b_ => ?_ | refine n2_ fun b_ => ?_ | refine n3_ fun b_ pre_ => ?_ | refine Nat1.mk fun q_ hq_ => ?_ | refine em_ fun x_ hx_ => ?_ | refine Elem1.mk fun e_ he_ => ?_); refine g0_ ?_))
          simp only [ifmax]
          (refine g1_ ?_; repeat ((first | refine n1_ fun b_ => ?_ | refine n2_ fun b_ => ?_ | refine n3_ fun b_ pre_ => ?_ | refine Nat1.mk fun q_ hq_ => ?_ | refine em_ fun x_ hx_ => ?_ | refine Elem1.mk fun e_ he_ => ?_); refine g1_ ?_))
          (try (refine Fits.wrap ?_; (refine g1_ ?_; repeat ((first | refine n1_ fun b_ => ?_ | refine n2_ fun b_ => ?_ | refine n3_ fun b_ pre_ => ?_ | refine Nat1.mk fun q_ hq_ => ?_ | refine em_ fun x_ hx_ => ?_ | refine Elem1.mk fun e_ he_ => ?_); refine g1_ ?_))))
          skip
          refine headL_ (head_ ?_); (refine g0_ ?_; repeat ((first | refine n1_ fun b_ => ?_ | refine n2_ fun b_ => ?_ | refine n3_ fun b_ pre_ => ?_ | refine Nat1.mk fun q_ hq_ => ?_ | refine em_ fun x_ hx_ => ?_ | refine Elem1.mk fun e_ he_ => ?_); refine g0_ ?_))
          (refine g1_ ?_; repeat ((first | refine n1_ fun b_ => ?_ | refine n2_ fun b_ => ?_ | refine n3_ fun b_ pre_ => ?_ | refine Nat1.mk fun q_ hq_ => ?_ | refine em_ fun x_ hx_ => ?_ | refine Elem1.mk fun e_ he_ => ?_); refine g1_ ?_))
          exact ⟨(), trivial, rfl, by (first | exact ⟨_, .refl _⟩ | exact wkMem.rfl' | exact ⟨_, .swap _ _ _⟩ | (repeat (first | exact wkMem.nil _ | exact wkMem.rfl' | exact wk_snoc _ _ _ | exact wk_fam (by assumption) _ _ _ | exact wk_famN (by assumption) _ _ _ | (apply wkMem.cons; (case' hl => (repeat (first | exact .here _ _ _ | apply Look.there)))) | apply wkMem.skip)))⟩
      · rw [regionS, if_neg hc]
        rw [hB] at hc
        simp only [regA] at *
        clear hB
        obtain ⟨⟨gw, gh, cs⟩, X, Y, late, ⟨fo, ba, bi⟩, tp, bo, modes, tabs, kx, ky, ⟨f2, b2, bi2⟩, km, last, title, gone⟩ := s
        dsimp only at *
        rw [scrB_eq]
        refine acalls_of_vc (DL_ok (by decide)) Tryd.func104 rfl (by decide) (by decide) rfl ?_
        (refine g0_ ?_; repeat ((first | refine n1_ fun b_ => ?_ | refine n2_ fun b_ => ?_ | refine n3_ fun b_ pre_ => ?_ | refine Nat1.mk fun q_ hq_ => ?_ | refine em_ fun x_ hx_ => ?_ | refine Elem1.mk fun e_ he_ => ?_); refine g0_ ?_))
        simp only [ifmax]
        (refine g1_ ?_; repeat ((first | refine n1_ fun b_ => ?_ | refine n2_ fun b_ => ?_ | refine n3_ fun b_ pre_ => ?_ | refine Nat1.mk fun q_ hq_ => ?_ | refine em_ fun x_ hx_ => ?_ | refine Elem1.mk fun e_ he_ => ?_); refine g1_ ?_))
        (try (refine Fits.wrap ?_; (refine g1_ ?_; repeat ((first | refine n1_ fun b_ => ?_ | refine n2_ fun b_ => ?_ | refine n3_ fun b_ pre_ => ?_ | refine Nat1.mk fun q_ hq_ => ?_ | refine em_ fun x_ hx_ => ?_ | refine Elem1.mk fun e_ he_ => ?_); refine g1_ ?_))))
        skip
        refine headL_ (head_ ?_); (refine g0_ ?_; repeat ((first | refine n1_ fun b_ => ?_ | refine n2_ fun b_ => ?_ | refine n3_ fun b_ pre_ => ?_ | refine Nat1.mk fun q_ hq_ => ?_ | refine em_ fun x_ hx_ => ?_ | refine Elem1.mk fun e_ he_ => ?_); refine g0_ ?_))
        (refine g1_ ?_; repeat ((first | refine n1_ fun b_ => ?_ | refine n2_ fun b_ => ?_ | refine n3_ fun b_ pre_ => ?_ | refine Nat1.mk fun q_ hq_ => ?_ | refine em_ fun x_ hx_ => ?_ | refine Elem1.mk fun e_ he_ => ?_); refine g1_ ?_))
        exact ⟨(), trivial, rfl, by (first | exact ⟨_, .refl _⟩ | exact wkMem.rfl' | exact ⟨_, .swap _ _ _⟩ | (repeat (first | exact wkMem.nil _ | exact wkMem.rfl' | exact wk_snoc _ _ _ | exact wk_fam (by assumption) _ _ _ | exact wk_famN (by assumption) _ _ _ | (apply wkMem.cons; (case' hl => (repeat (first | exact .here _ _ _ | apply Look.there)))) | apply wkMem.skip)))⟩
    · have hB : regB s.g.h bb = bb - 1 := if_neg (by omega)
      by_cases hc : regA t < regB s.g.h bb ∨ (s.g.h = 1 ∧ regA t = regB s.g.h bb)
      · by_cases hm : bitop .and .i64 s.modes 2 = 0
        · rw [regionS, if_pos hc, if_pos hm]
          rw [hB] at *
          simp only [regA] at *
          clear hB
          obtain ⟨⟨gw, gh, cs⟩, X, Y, late, ⟨fo, ba, bi⟩, tp, bo, modes, tabs, kx, ky, ⟨f2, b2, bi2⟩, km, last, title, gone⟩ := s
          dsimp only at *
          rw [scrB_eq]
          refine acalls_of_vc (DL_ok (by decide)) Tryd.func104 rfl (by decide) (by decide) rfl ?_
          (refine g0_ ?_; repeat ((first | refine n1_ fun b_ => ?_ | refine n2_ fun b_ => ?_ | refine n3_ fun b_ pre_ => ?_ | refine Nat1.mk fun q_ hq_ => ?_ | refine em_ fun x_ hx_ => ?_ | refine Elem1.mk fun e_ he_ => ?_); refine g0_ ?_))
          simp only [ifmax]
          (refine g1_ ?_; repeat ((first | refine n1_ fun b_ => ?_ | refine n2_ fun b_ => ?_ | refine n3_ fun b_ pre_ => ?_ | refine Nat1.mk fun q_ hq_ => ?_ | refine em_ fun x_ hx_ => ?_ | refine Elem1.mk fun e_ he_ => ?_); refine g1_ ?_))
          (try (refine Fits.wrap ?_; (refine g1_ ?_; repeat ((first | refine n1_ fun b_ => ?_ | refine n2_ fun b_ => ?_ | refine n3_ fun b_ pre_ => ?_ | refine Nat1.mk fun q_ hq_ => ?_ | refine em_ fun x_ hx_ => ?_ | refine Elem1.mk fun e_ he_ => ?_); refine g1_ ?_))))
          skip
          refine headL_ (head_ ?_); (refine g0_ ?_; repeat ((first | refine n1_ fun b_ => ?_ | refine n2_ fun b_ => ?_ | refine n3_ fun b_ pre_ => ?_ | refine Nat1.mk fun q_ hq_ => ?_ | refine em_ fun x_ hx_ => ?_ | refine Elem1.mk fun e_ he_ => ?_); refine g0_ ?_))
          (refine g1_ ?_; repeat ((first | refine n1_ fun b_ => ?_ | refine n2_ fun b_ => ?_ | refine n3_ fun b_ pre_ => ?_ | refine Nat1.mk fun q_ hq_ => ?_ | refine em_ fun x_ hx_ => ?_ | refine Elem1.mk fun e_ he_ => ?_); refine g1_ ?_))
          exact ⟨(), trivial, rfl, by (first | exact ⟨_, .refl _⟩ | exact wkMem.rfl' | exact ⟨_, .swap _ _ _⟩ | (repeat (first | exact wkMem.nil _ | exact wkMem.rfl' | exact wk_snoc _ _ _ | exact wk_fam (by assumption) _ _ _ | exact wk_famN (by assumption) _ _ _ | (apply wkMem.cons; (case' hl => (repeat (first | exact .here _ _ _ | apply Look.there)))) | apply wkMem.skip)))⟩
        · rw [regionS, if_pos hc, if_neg hm]
          rw [hB] at *
          simp only [regA] at *
          clear hB
          obtain ⟨⟨gw, gh, cs⟩, X, Y, late, ⟨fo, ba, bi⟩, tp, bo, modes, tabs, kx, ky, ⟨f2, b2, bi2⟩, km, last, title, gone⟩ := s
          dsimp only at *
          rw [scrB_eq]
          refine acalls_of_vc (DL_ok (by decide)) Tryd.func104 rfl (by decide) (by decide) rfl ?_
          (refine g0_ ?_; repeat ((first | refine n1_ fun b_ => ?_ | refine n2_ fun b_ => ?_ | refine n3_ fun b_ pre_ => ?_ | refine Nat1.mk fun q_ hq_ => ?_ | refine em_ fun x_ hx_ => ?_ | refine Elem1.mk fun e_ he_ => ?_); refine g0_ ?_))
          simp only [ifmax]
          (refine g1_ ?_; repeat ((first | refine n1_ fun b_ => ?_ | refine n2_ fun b_ => ?_ | refine n3_ fun b_ pre_ => ?_ | refine Nat1.mk fun q_ hq_ => ?_ | refine em_ fun x_ hx_ => ?_ | refine Elem1.mk fun e_ he_ => ?_); refine g1_ ?_))
          (try (refine Fits.wrap ?_; (refine g1_ ?_; repeat ((first | refine n1_ fun b_ => ?_ | refine n2_ fun b_ => ?_ | refine n3_ fun b_ pre_ => ?_ | refine Nat1.mk fun q_ hq_ => ?_ | refine em_ fun x_ hx_ => ?_ | refine Elem1.mk fun e_ he_ => ?_); refine g1_ ?_))))
          skip
          refine headL_ (head_ ?_); (refine g0_ ?_; repeat ((first | refine n1_ fun b_ => ?_ | refine n2_ fun b_ => ?_ | refine n3_ fun b_ pre_ => ?_ | refine Nat1.mk fun q_ hq_ => ?_ | refine em_ fun x_ hx_ => ?_ | refine Elem1.mk fun e_ he_ => ?_); refine g0_ ?_))
          (refine g1_ ?_; repeat ((first | refine n1_ fun b_ => ?_ | refine n2_ fun b_ => ?_ | refine n3_ fun b_ pre_ => ?_ | refine Nat1.mk fun q_ hq_ => ?_ | refine em_ fun x_ hx_ => ?_ | refine Elem1.mk fun e_ he_ => ?_); refine g1_ ?_))
          exact ⟨(), trivial, rfl, by (first | exact ⟨_, .refl _⟩ | exact wkMem.rfl' | exact ⟨_, .swap _ _ _⟩ | (repeat (first | exact wkMem.nil _ | exact wkMem.rfl' | exact wk_snoc _ _ _ | exact wk_fam (by assumption) _ _ _ | exact wk_famN (by assumption) _ _ _ | (apply wkMem.cons; (case' hl => (repeat (first | exact .here _ _ _ | apply Look.there)))) | apply wkMem.skip)))⟩
      · rw [regionS, if_neg hc]
        rw [hB] at hc
        simp only [regA] at *
        clear hB
        obtain ⟨⟨gw, gh, cs⟩, X, Y, late, ⟨fo, ba, bi⟩, tp, bo, modes, tabs, kx, ky, ⟨f2, b2, bi2⟩, km, last, title, gone⟩ := s
        dsimp only at *
        rw [scrB_eq]
        refine acalls_of_vc (DL_ok (by decide)) Tryd.func104 rfl (by decide) (by decide) rfl ?_
        (refine g0_ ?_; repeat ((first | refine n1_ fun b_ => ?_ | refine n2_ fun b_ => ?_ | refine n3_ fun b_ pre_ => ?_ | refine Nat1.mk fun q_ hq_ => ?_ | refine em_ fun x_ hx_ => ?_ | refine Elem1.mk fun e_ he_ => ?_); refine g0_ ?_))
        simp only [ifmax]
        (refine g1_ ?_; repeat ((first | refine n1_ fun b_ => ?_ | refine n2_ fun b_ => ?_ | refine n3_ fun b_ pre_ => ?_ | refine Nat1.mk fun q_ hq_ => ?_ | refine em_ fun x_ hx_ => ?_ | refine Elem1.mk fun e_ he_ => ?_); refine g1_ ?_))
        (try (refine Fits.wrap ?_; (refine g1_ ?_; repeat ((first | refine n1_ fun b_ => ?_ | refine n2_ fun b_ => ?_ | refine n3_ fun b_ pre_ => ?_ | refine Nat1.mk fun q_ hq_ => ?_ | refine em_ fun x_ hx_ => ?_ | refine Elem1.mk fun e_ he_ => ?_); refine g1_ ?_))))
        skip
        refine headL_ (head_ ?_); (refine g0_ ?_; repeat ((first | refine n1_ fun b_ => ?_ | refine n2_ fun b_ => ?_ | refine n3_ fun b_ pre_ => ?_ | refine Nat1.mk fun q_ hq_ => ?_ | refine em_ fun x_ hx_ => ?_ | refine Elem1.mk fun e_ he_ => ?_); refine g0_ ?_))
        (refine g1_ ?_; repeat ((first | refine n1_ fun b_ => ?_ | refine n2_ fun b_ => ?_ | refine n3_ fun b_ pre_ => ?_ | refine Nat1.mk fun q_ hq_ => ?_ | refine em_ fun x_ hx_ => ?_ | refine Elem1.mk fun e_ he_ => ?_); refine g1_ ?_))
        exact ⟨(), trivial, rfl, by (first | exact ⟨_, .refl _⟩ | exact wkMem.rfl' | exact ⟨_, .swap _ _ _⟩ | (repeat (first | exact wkMem.nil _ | exact wkMem.rfl' | exact wk_snoc _ _ _ | exact wk_fam (by assumption) _ _ _ | exact wk_famN (by assumption) _ _ _ | (apply wkMem.cons; (case' hl => (repeat (first | exact .here _ _ _ | apply Look.there)))) | apply wkMem.skip)))⟩
theorem actRegion_ok (s : Scr) (t bb : Int) (ht : i64ok t) (hbb : i64ok bb) (h0 : checkS s = 0) (d : Nat) (cv tv gv lv : PV) : ACalls Tryd.prog W 75 (actArgs [114, 101, 103, 105, 111, 110] t bb d) [dskB d cv tv gv lv s] (Gives (fun _ : Unit => .tup []) (fun _ => [dskB d cv tv gv lv (regionS s t bb)]) (fun _ => True)) := by
  unfold i64ok at ht hbb
  obtain ⟨q1, q2, q3, q4, q5, q6, q7, q8, q9, q10, q11⟩ := right_sizes h0
  clear h0
  by_cases hb : bb ≤ 0
  · have hB : regB s.g.h bb = s.g.h - 1 := if_pos (.inl hb)
    by_cases hmin : bb = -9223372036854775808
    · by_cases hc : regA t < regB s.g.h bb ∨ (s.g.h = 1 ∧ regA t = regB s.g.h bb)
      · by_cases hm : bitop .and .i64 s.modes 2 = 0
        · rw [regionS, if_pos hc, if_pos hm]
          rw [hB] at *
          simp only [regA] at *
          clear hB
          obtain ⟨⟨gw, gh, cs⟩, X, Y, late, ⟨fo, ba, bi⟩, tp, bo, modes, tabs, kx, ky, ⟨f2, b2, bi2⟩, km, last, title, gone⟩ := s
          dsimp only at *
          rw [dskB_eq]
          refine acalls_of_vc (DL_ok (by decide)) Tryd.func75 rfl (by decide) (by decide) rfl ?_
          (refine g0_ ?_; repeat ((first | refine n1_ fun b_ => ?_ | refine n2_ fun b_ => ?_ | refine n3_ fun b_ pre_ => ?_ | refine Nat1.mk fun q_ hq_ => ?_ | refine em_ fun x_ hx_ => ?_ | refine Elem1.mk fun e_ he_ => ?_); refine g0_ ?_))
          simp only [ifmax]
          (refine g1_ ?_; repeat ((first | refine n1_ fun b_ => ?_ | refine n2_ fun b_ => ?_ | refine n3_ fun b_ pre_ => ?_ | refine Nat1.mk fun q_ hq_ => ?_ | refine em_ fun x_ hx_ => ?_ | refine Elem1.mk fun e_ he_ => ?_); refine g1_ ?_))
          (try (refine Fits.wrap ?_; (refine g1_ ?_; repeat ((first | refine n1_ fun b_ => ?_ | refine n2_ fun b_ => ?_ | refine n3_ fun b_ pre_ => ?_ | refine Nat1.mk fun q_ hq_ => ?_ | refine em_ fun x_ hx_ => ?_ | refine Elem1.mk fun e_ he_ => ?_); refine g1_ ?_))))
          skip
          exact ⟨(), trivial, rfl, by (first | exact ⟨_, .refl _⟩ | exact wkMem.rfl' | exact ⟨_, .swap _ _ _⟩ | (repeat (first | exact wkMem.nil _ | exact wkMem.rfl' | exact wk_snoc _ _ _ | exact wk_fam (by assumption) _ _ _ | exact wk_famN (by assumption) _ _ _ | (apply wkMem.cons; (case' hl => (repeat (first | exact .here _ _ _ | apply Look.there)))) | apply wkMem.skip)))⟩
        · rw [regionS, if_pos hc, if_neg hm]
          rw [hB] at *
          simp only [regA] at *
          clear hB
          obtain ⟨⟨gw, gh, cs⟩, X, Y, late, ⟨fo, ba, bi⟩, tp, bo, modes, tabs, kx, ky, ⟨f2, b2, bi2⟩, km, last, title, gone⟩ := s
          dsimp only at *
          rw [dskB_eq]
          refine acalls_of_vc (DL_ok (by decide)) Tryd.func75 rfl (by decide) (by decide) rfl ?_
          (refine g0_ ?_; repeat ((first | refine n1_ fun b_ => ?_ | refine n2_ fun b_ => ?_ | refine n3_ fun b_ pre_ => ?_ | refine Nat1.mk fun q_ hq_ => ?_ | refine em_ fun x_ hx_ => ?_ | refine Elem1.mk fun e_ he_ => ?_); refine g0_ ?_))
          simp only [ifmax]
          (refine g1_ ?_; repeat ((first | refine n1_ fun b_ => ?_ | refine n2_ fun b_ => ?_ | refine n3_ fun b_ pre_ => ?_ | refine Nat1.mk fun q_ hq_ => ?_ | refine em_ fun x_ hx_ => ?_ | refine Elem1.mk fun e_ he_ => ?_); refine g1_ ?_))
          (try (refine Fits.wrap ?_; (refine g1_ ?_; repeat ((first | refine n1_ fun b_ => ?_ | refine n2_ fun b_ => ?_ | refine n3_ fun b_ pre_ => ?_ | refine Nat1.mk fun q_ hq_ => ?_ | refine em_ fun x_ hx_ => ?_ | refine Elem1.mk fun e_ he_ => ?_); refine g1_ ?_))))
          skip
          exact ⟨(), trivial, rfl, by (first | exact ⟨_, .refl _⟩ | exact wkMem.rfl' | exact ⟨_, .swap _ _ _⟩ | (repeat (first | exact wkMem.nil _ | exact wkMem.rfl' | exact wk_snoc _ _ _ | exact wk_fam (by assumption) _ _ _ | exact wk_famN (by assumption) _ _ _ | (apply wkMem.cons; (case' hl => (repeat (first | exact .here _ _ _ | apply Look.there)))) | apply wkMem.skip)))⟩
      · rw [regionS, if_neg hc]
        rw [hB] at hc
        simp only [regA] at *
        clear hB
        obtain ⟨⟨gw, gh, cs⟩, X, Y, late, ⟨fo, ba, bi⟩, tp, bo, modes, tabs, kx, ky, ⟨f2, b2, bi2⟩, km, last, title, gone⟩ := s
        dsimp only at *
        rw [dskB_eq]
        refine acalls_of_vc (DL_ok (by decide)) Tryd.func75 rfl (by decide) (by decide) rfl ?_
        (refine g0_ ?_; repeat ((first | refine n1_ fun b_ => ?_ | refine n2_ fun b_ => ?_ | refine n3_ fun b_ pre_ => ?_ | refine Nat1.mk fun q_ hq_ => ?_ | refine em_ fun x_ hx_ => ?_ | refine Elem1.mk fun e_ he_ => ?_); refine g0_ ?_))
        simp only [ifmax]
        (refine g1_ ?_; repeat ((first | refine n1_ fun b_ => ?_ | refine n2_ fun b_ => ?_ | refine n3_ fun b_ pre_ => ?_ | refine Nat1.mk fun q_ hq_ => ?_ | refine em_ fun x_ hx_ => ?_ | refine Elem1.mk fun e_ he_ => ?_); refine g1_ ?_))
        (try (refine Fits.wrap ?_; (refine g1_ ?_; repeat ((first | refine n1_ fun b_ => ?_ | refine n2_ fun b_ => ?_ | refine n3_ fun b_ pre_ => ?_ | refine Nat1.mk fun q_ hq_ => ?_ | refine em_ fun x_ hx_ => ?_ | refine Elem1.mk fun e_ he_ => ?_); refine g1_ ?_))))
        skip
        exact ⟨(), trivial, rfl, by (first | exact ⟨_, .refl _⟩ | exact wkMem.rfl' | exact ⟨_, .swap _ _ _⟩ | (repeat (first | exact wkMem.nil _ | exact wkMem.rfl' | exact wk_snoc _ _ _ | exact wk_fam (by assumption) _ _ _ | exact wk_famN (by assumption) _ _ _ | (apply wkMem.cons; (case' hl => (repeat (first | exact .here _ _ _ | apply Look.there)))) | apply wkMem.skip)))⟩
    · by_cases hc : regA t < regB s.g.h bb ∨ (s.g.h = 1 ∧ regA t = regB s.g.h bb)
      · by_cases hm : bitop .and .i64 s.modes 2 = 0
        · rw [regionS, if_pos hc, if_pos hm]
          rw [hB] at *
          simp only [regA] at *
          clear hB
          obtain ⟨⟨gw, gh, cs⟩, X, Y, late, ⟨fo, ba, bi⟩, tp, bo, modes, tabs, kx, ky, ⟨f2, b2, bi2⟩, km, last, title, gone⟩ := s
          dsimp only at *
          rw [dskB_eq]
          refine acalls_of_vc (DL_ok (by decide)) Tryd.func75 rfl (by decide) (by decide) rfl ?_
          (refine g0_ ?_; repeat ((first | refine n1_ fun b_ => ?_ | refine n2_ fun b_ => ?_ | refine n3_ fun b_ pre_ => ?_ | refine Nat1.mk fun q_ hq_ => ?_ | refine em_ fun x_ hx_ => ?_ | refine Elem1.mk fun e_ he_ => ?_); refine g0_ ?_))
          simp only [ifmax]
          (refine g1_ ?_; repeat ((first | refine n1_ fun b_ => ?_ | refine n2_ fun b_ => ?_ | refine n3_ fun b_ pre_ => ?_ | refine Nat1.mk fun q_ hq_ => ?_ | refine em_ fun x_ hx_ => ?_ | refine Elem1.mk fun e_ he_ => ?_); refine g1_ ?_))
          (try (refine Fits.wrap ?_; (refine g1_ ?_; repeat ((first | refine n1_ fun b_ => ?_ | refine n2_ fun b_ => ?_ | refine n3_ fun b_ pre_ => ?_ | refine Nat1.mk fun q_ hq_ => ?_ | refine em_ fun x_ hx_ => ?_ | refine Elem1.mk fun e_ he_ => ?_); refine g1_ ?_))))
          skip
          exact ⟨(), trivial, rfl, by (first | exact ⟨_, .refl _⟩ | exact wkMem.rfl' | exact ⟨_, .swap _ _ _⟩ | (repeat (first | exact wkMem.nil _ | exact wkMem.rfl' | exact wk_snoc _ _ _ | exact wk_fam (by assumption) _ _ _ | exact wk_famN (by assumption) _ _ _ | (apply wkMem.cons; (case' hl => (repeat (first | exact .here _ _ _ | apply Look.there)))) | apply wkMem.skip)))⟩
        · rw [regionS, if_pos hc, if_neg hm]
          rw [hB] at *
          simp only [regA] at *
          clear hB
          obtain ⟨⟨gw, gh, cs⟩, X, Y, late, ⟨fo, ba, bi⟩, tp, bo, modes, tabs, kx, ky, ⟨f2, b2, bi2⟩, km, last, title, gone⟩ := s
          dsimp only at *
          rw [dskB_eq]
          refine acalls_of_vc (DL_ok (by decide)) Tryd.func75 rfl (by decide) (by decide) rfl ?_
          (refine g0_ ?_; repeat ((first | refine n1_ fun b_ => ?_ | refine n2_ fun b_ => ?_ | refine n3_ fun b_ pre_ => ?_ | refine Nat1.mk fun q_ hq_ => ?_ | refine em_ fun x_ hx_ => ?_ | refine Elem1.mk fun e_ he_ => ?_); refine g0_ ?_))
          simp only [ifmax]
          (refine g1_ ?_; repeat ((first | refine n1_ fun b_ => ?_ | refine n2_ fun b_ => ?_ | refine n3_ fun b_ pre_ => ?_ | refine Nat1.mk fun q_ hq_ => ?_ | refine em_ fun x_ hx_ => ?_ | refine Elem1.mk fun e_ he_ => ?_); refine g1_ ?_))
          (try (refine Fits.wrap ?_; (refine g1_ ?_; repeat ((first | refine n1_ fun b_ => ?_ | refine n2_ fun b_ => ?_ | refine n3_ fun b_ pre_ => ?_ | refine Nat1.mk fun q_ hq_ => ?_ | refine em_ fun x_ hx_ => ?_ | refine Elem1.mk fun e_ he_ => ?_); refine g1_ ?_))))
          skip
          exact ⟨(), trivial, rfl, by (first | exact ⟨_, .refl _⟩ | exact wkMem.rfl' | exact ⟨_, .swap _ _ _⟩ | (repeat (first | exact wkMem.nil _ | exact wkMem.rfl' | exact wk_snoc _ _ _ | exact wk_fam (by assumption) _ _ _ | exact wk_famN (by assumption) _ _ _ | (apply wkMem.cons; (case' hl => (repeat (first | exact .here _ _ _ | apply Look.there)))) | apply wkMem.skip)))⟩
      · rw [regionS, if_neg hc]
        rw [hB] at hc
        simp only [regA] at *
        clear hB
        obtain ⟨⟨gw, gh, cs⟩, X, Y, late, ⟨fo, ba, bi⟩, tp, bo, modes, tabs, kx, ky, ⟨f2, b2, bi2⟩, km, last, title, gone⟩ := s
        dsimp only at *
        rw [dskB_eq]
        refine acalls_of_vc (DL_ok (by decide)) Tryd.func75 rfl (by decide) (by decide) rfl ?_
        (refine g0_ ?_; repeat ((first | refine n1_ fun b_ => ?_ | refine n2_ fun b_ => ?_ | refine n3_ fun b_ pre_ => ?_ | refine Nat1.mk fun q_ hq_ => ?_ | refine em_ fun x_ hx_ => ?_ | refine Elem1.mk fun e_ he_ => ?_); refine g0_ ?_))
        simp only [ifmax]
        (refine g1_ ?_; repeat ((first | refine n1_ fun b_ => ?_ | refine n2_ fun b_ => ?_ | refine n3_ fun b_ pre_ => ?_ | refine Nat1.mk fun q_ hq_ => ?_ | refine em_ fun x_ hx_ => ?_ | refine Elem1.mk fun e_ he_ => ?_); refine g1_ ?_))
        (try (refine Fits.wrap ?_; (refine g1_ ?_; repeat ((first | refine n1_ fun b_ => ?_ | refine n2_ fun b_ => ?_ | refine n3_ fun b_ pre_ => ?_ | refine Nat1.mk fun q_ hq_ => ?_ | refine em_ fun x_ hx_ => ?_ | refine Elem1.mk fun e_ he_ => ?_); refine g1_ ?_))))
        skip
        exact ⟨(), trivial, rfl, by (first | exact ⟨_, .refl _⟩ | exact wkMem.rfl' | exact ⟨_, .swap _ _ _⟩ | (repeat (first | exact wkMem.nil _ | exact wkMem.rfl' | exact wk_snoc _ _ _ | exact wk_fam (by assumption) _ _ _ | exact wk_famN (by assumption) _ _ _ | (apply wkMem.cons; (case' hl => (repeat (first | exact .here _ _ _ | apply Look.there)))) | apply wkMem.skip)))⟩
  · by_cases hb2 : s.g.h < bb
    · have hB : regB s.g.h bb = s.g.h - 1 := if_pos (.inr hb2)
      by_cases hc : regA t < regB s.g.h bb ∨ (s.g.h = 1 ∧ regA t = regB s.g.h bb)
      · by_cases hm : bitop .and .i64 s.modes 2 = 0
        · rw [regionS, if_pos hc, if_pos hm]
          rw [hB] at *
          simp only [regA] at *
          clear hB
          obtain ⟨⟨gw, gh, cs⟩, X, Y, late, ⟨fo, ba, bi⟩, tp, bo, modes, tabs, kx, ky, ⟨f2, b2, bi2⟩, km, last, title, gone⟩ := s
          dsimp only at *
          rw [dskB_eq]
          refine acalls_of_vc (DL_ok (by decide)) Tryd.func75 rfl (by decide) (by decide) rfl ?_
          (refine g0_ ?_; repeat ((first | refine n1_ fun b_ => ?_ | refine n2_ fun b_ => ?_ | refine n3_ fun b_ pre_ => ?_ | refine Nat1.mk fun q_ hq_ => ?_ | refine em_ fun x_ hx_ => ?_ | refine Elem1.mk fun e_ he_ => ?_); refine g0_ ?_))
          simp only [ifmax]
          (refine g1_ ?_; repeat ((first | refine n1_ fun b_ => ?_ | refine n2_ fun b_ => ?_ | refine n3_ fun b_ pre_ => ?_ | refine Nat1.mk fun q_ hq_ => ?_ | refine em_ fun x_ hx_ => ?_ | refine Elem1.mk fun e_ he_ => ?_); refine g1_ ?_))
          (try (refine Fits.wrap ?_; (refine g1_ ?_; repeat ((first | refine n1_ fun b_ => ?_ | refine n2_ fun b_ => ?_ | refine n3_ fun b_ pre_ => ?_ | refine Nat1.mk fun q_ hq_ => ?_ | refine em_ fun x_ hx_ => ?_ | refine Elem1.mk fun e_ he_ => ?_); refine g1_ ?_))))
          skip
          exact ⟨(), trivial, rfl, by (first | exact ⟨_, .refl _⟩ | exact wkMem.rfl' | exact ⟨_, .swap _ _ _⟩ | (repeat (first | exact wkMem.nil _ | exact wkMem.rfl' | exact wk_snoc _ _ _ | exact wk_fam (by assumption) _ _ _ | exact wk_famN (by assumption) _ _ _ | (apply wkMem.cons; (case' hl => (repeat (first | exact .here _ _ _ | apply Look.there)))) | apply wkMem.skip)))⟩
        · rw [regionS, if_pos hc, if_neg hm]
          rw [hB] at *
          simp only [regA] at *
          clear hB
          obtain ⟨⟨gw, gh, cs⟩, X, Y, late, ⟨fo, ba, bi⟩, tp, bo, modes, tabs, kx, ky, ⟨f2, b2, bi2⟩, km, last, title, gone⟩ := s
          dsimp only at *
          rw [dskB_eq]
          refine acalls_of_vc (DL_ok (by decide)) Tryd.func75 rfl (by decide) (by decide) rfl ?_
          (refine g0_ ?_; repeat ((first | refine n1_ fun b_ => ?_ | refine n2_ fun b_ => ?_ | refine n3_ fun b_ pre_ => ?_ | refine Nat1.mk fun q_ hq_ => ?_ | refine em_ fun x_ hx_ => ?_ | refine Elem1.mk fun e_ he_ => ?_); refine g0_ ?_))
          simp only [ifmax]
          (refine g1_ ?_; repeat ((first | refine n1_ fun b_ => ?_ | refine n2_ fun b_ => ?_ | refine n3_ fun b_ pre_ => ?_ | refine Nat1.mk fun q_ hq_ => ?_ | refine em_ fun x_ hx_ => ?_ | refine Elem1.mk fun e_ he_ => ?_); refine g1_ ?_))
          (try (refine Fits.wrap ?_; (refine g1_ ?_; repeat ((first | refine n1_ fun b_ => ?_ | refine n2_ fun b_ => ?_ | refine n3_ fun b_ pre_ => ?_ | refine Nat1.mk fun q_ hq_ => ?_ | refine em_ fun x_ hx_ => ?_ | refine Elem1.mk fun e_ he_ => ?_); refine g1_ ?_))))
          skip
          exact ⟨(), trivial, rfl, by (first | exact ⟨_, .refl _⟩ | exact wkMem.rfl' | exact ⟨_, .swap _ _ _⟩ | (repeat (first | exact wkMem.nil _ | exact wkMem.rfl' | exact wk_snoc _ _ _ | exact wk_fam (by assumption) _ _ _ | exact wk_famN (by assumption) _ _ _ | (apply wkMem.cons; (case' hl => (repeat (first | exact .here _ _ _ | apply Look.there)))) | apply wkMem.skip)))⟩
      · rw [regionS, if_neg hc]
        rw [hB] at hc
        simp only [regA] at *
        clear hB
        obtain ⟨⟨gw, gh, cs⟩, X, Y, late, ⟨fo, ba, bi⟩, tp, bo, modes, tabs, kx, ky, ⟨f2, b2, bi2⟩, km, last, title, gone⟩ := s
        dsimp only at *
        rw [dskB_eq]
        refine acalls_of_vc (DL_ok (by decide)) Tryd.func75 rfl (by decide) (by decide) rfl ?_
        (refine g0_ ?_; repeat ((first | refine n1_ fun b_ => ?_ | refine n2_ fun b_ => ?_ | refine n3_ fun b_ pre_ => ?_ | refine Nat1.mk fun q_ hq_ => ?_ | refine em_ fun x_ hx_ => ?_ | refine Elem1.mk fun e_ he_ => ?_); refine g0_ ?_))
        simp only [ifmax]
        (refine g1_ ?_; repeat ((first | refine n1_ fun b_ => ?_ | refine n2_ fun b_ => ?_ | refine n3_ fun b_ pre_ => ?_ | refine Nat1.mk fun q_ hq_ => ?_ | refine em_ fun x_ hx_ => ?_ | refine Elem1.mk fun e_ he_ => ?_); refine g1_ ?_))
        (try (refine Fits.wrap ?_; (refine g1_ ?_; repeat ((first | refine n1_ fun b_ => ?_ | refine n2_ fun b_ => ?_ | refine n3_ fun b_ pre_ => ?_ | refine Nat1.mk fun q_ hq_ => ?_ | refine em_ fun x_ hx_ => ?_ | refine Elem1.mk fun e_ he_ => ?_); refine g1_ ?_))))
        skip
        exact ⟨(), trivial, rfl, by (first | exact ⟨_, .refl _⟩ | exact wkMem.rfl' | exact ⟨_, .swap _ _ _⟩ | (repeat (first | exact wkMem.nil _ | exact wkMem.rfl' | exact wk_snoc _ _ _ | exact wk_fam (by assumption) _ _ _ | exact wk_famN (by assumption) _ _ _ | (apply wkMem.cons; (case' hl => (repeat (first | exact .here _ _ _ | apply Look.there)))) | apply wkMem.skip)))⟩
    · have hB : regB s.g.h bb = bb - 1 := if_neg (by omega)
      by_cases hc : regA t < regB s.g.h bb ∨ (s.g.h = 1 ∧ regA t = regB s.g.h bb)
      · by_cases hm : bitop .and .i64 s.modes 2 = 0
        · rw [regionS, if_pos hc, if_pos hm]
          rw [hB] at *
          simp only [regA] at *
          clear hB
          obtain ⟨⟨gw, gh, cs⟩, X, Y, late, ⟨fo, ba, bi⟩, tp, bo, modes, tabs, kx, ky, ⟨f2, b2, bi2⟩, km, last, title, gone⟩ := s
          dsimp only at *
          rw [dskB_eq]
          refine acalls_of_vc (DL_ok (by decide)) Tryd.func75 rfl (by decide) (by decide) rfl ?_
          (refine g0_ ?_; repeat ((first | refine n1_ fun b_ => ?_ | refine n2_ fun b_ => ?_ | refine n3_ fun b_ pre_ => ?_ | refine Nat1.mk fun q_ hq_ => ?_ | refine em_ fun x_ hx_ => ?_ | refine Elem1.mk fun e_ he_ => ?_); refine g0_ ?_))
          simp only [ifmax]
          (refine g1_ ?_; repeat ((first | refine n1_ fun b_ => ?_ | refine n2_ fun b_ => ?_ | refine n3_ fun b_ pre_ => ?_ | refine Nat1.mk fun q_ hq_ => ?_ | refine em_ fun x_ hx_ => ?_ | refine Elem1.mk fun e_ he_ => ?_); refine g1_ ?_))
          (try (refine Fits.wrap ?_; (refine g1_ ?_; repeat ((first | refine n1_ fun b_ => ?_ | refine n2_ fun b_ => ?_ | refine n3_ fun b_ pre_ => ?_ | refine Nat1.mk fun q_ hq_ => ?_ | refine em_ fun x_ hx_ => ?_ | refine Elem1.mk fun e_ he_ => ?_); refine g1_ ?_))))
          skip
          exact ⟨(), trivial, rfl, by (first | exact ⟨_, .refl _⟩ | exact wkMem.rfl' | exact ⟨_, .swap _ _ _⟩ | (repeat (first | exact wkMem.nil _ | exact wkMem.rfl' | exact wk_snoc _ _ _ | exact wk_fam (by assumption) _ _ _ | exact wk_famN (by assumption) _ _ _ | (apply wkMem.cons; (case' hl => (repeat (first | exact .here _ _ _ | apply Look.there)))) | apply wkMem.skip)))⟩
        · rw [regionS, if_pos hc, if_neg hm]
          rw [hB] at *
          simp only [regA] at *
          clear hB
          obtain ⟨⟨gw, gh, cs⟩, X, Y, late, ⟨fo, ba, bi⟩, tp, bo, modes, tabs, kx, ky, ⟨f2, b2, bi2⟩, km, last, title, gone⟩ := s
          dsimp only at *
          rw [dskB_eq]
          refine acalls_of_vc (DL_ok (by decide)) Tryd.func75 rfl (by decide) (by decide) rfl ?_
          (refine g0_ ?_; repeat ((first | refine n1_ fun b_ => ?_ | refine n2_ fun b_ => ?_ | refine n3_ fun b_ pre_ => ?_ | refine Nat1.mk fun q_ hq_ => ?_ | refine em_ fun x_ hx_ => ?_ | refine Elem1.mk fun e_ he_ => ?_); refine g0_ ?_))
          simp only [ifmax]
          (refine g1_ ?_; repeat ((first | refine n1_ fun b_ => ?_ | refine n2_ fun b_ => ?_ | refine n3_ fun b_ pre_ => ?_ | refine Nat1.mk fun q_ hq_ => ?_ | refine em_ fun x_ hx_ => ?_ | refine Elem1.mk fun e_ he_ => ?_); refine g1_ ?_))
          (try (refine Fits.wrap ?_; (refine g1_ ?_; repeat ((first | refine n1_ fun b_ => ?_ | refine n2_ fun b_ => ?_ | refine n3_ fun b_ pre_ => ?_ | refine Nat1.mk fun q_ hq_ => ?_ | refine em_ fun x_ hx_ => ?_ | refine Elem1.mk fun e_ he_ => ?_); refine g1_ ?_))))
          skip
          exact ⟨(), trivial, rfl, by (first | exact ⟨_, .refl _⟩ | exact wkMem.rfl' | exact ⟨_, .swap _ _ _⟩ | (repeat (first | exact wkMem.nil _ | exact wkMem.rfl' | exact wk_snoc _ _ _ | exact wk_fam (by assumption) _ _ _ | exact wk_famN (by assumption) _ _ _ | (apply wkMem.cons; (case' hl => (repeat (first | exact .here _ _ _ | apply Look.there)))) | apply wkMem.skip)))⟩
      · rw [regionS, if_neg hc]
        rw [hB] at hc
        simp only [regA] at *
        clear hB
        obtain ⟨⟨gw, gh, cs⟩, X, Y, late, ⟨fo, ba, bi⟩, tp, bo, modes, tabs, kx, ky, ⟨f2, b2, bi2⟩, km, last, title, gone⟩ := s
        dsimp only at *
        rw [dskB_eq]
        refine acalls_of_vc (DL_ok (by decide)) Tryd.func75 rfl (by decide) (by decide) rfl ?_
        (refine g0_ ?_; repeat ((first | refine n1_ fun b_ => ?_ | refine n2_ fun b_ => ?_ | refine n3_ fun b_ pre_ => ?_ | refine Nat1.mk fun q_ hq_ => ?_ | refine em_ fun x_ hx_ => ?_ | refine Elem1.mk fun e_ he_ => ?_); refine g0_ ?_))
        simp only [ifmax]
        (refine g1_ ?_; repeat ((first | refine n1_ fun b_ => ?_ | refine n2_ fun b_ => ?_ | refine n3_ fun b_ pre_ => ?_ | refine Nat1.mk fun q_ hq_ => ?_ | refine em_ fun x_ hx_ => ?_ | refine Elem1.mk fun e_ he_ => ?_); refine g1_ ?_))
        (try (refine Fits.wrap ?_; (refine g1_ ?_; repeat ((first | refine n1_ fun b_ => ?_ | refine n2_ fun b_ => ?_ | refine n3_ fun b_ pre_ => ?_ | refine Nat1.mk fun q_ hq_ => ?_ | refine em_ fun x_ hx_ => ?_ | refine Elem1.mk fun e_ he_ => ?_); refine g1_ ?_))))
        skip
        exact ⟨(), trivial, rfl, by (first | exact ⟨_, .refl _⟩ | exact wkMem.rfl' | exact ⟨_, .swap _ _ _⟩ | (repeat (first | exact wkMem.nil _ | exact wkMem.rfl' | exact wk_snoc _ _ _ | exact wk_fam (by assumption) _ _ _ | exact wk_famN (by assumption) _ _ _ | (apply wkMem.cons; (case' hl => (repeat (first | exact .here _ _ _ | apply Look.there)))) | apply wkMem.skip)))⟩
theorem regionS_tabs (s : Scr) (t b : Int) : (regionS s t b).tabs = s.tabs := by unfold regionS; split <;> rfl
theorem regionS_gone (s : Scr) (t b : Int) : (regionS s t b).gone = s.gone := by unfold regionS; split <;> rfl
theorem regionS_g (s : Scr) (t b : Int) : (regionS s t b).g = s.g := by unfold regionS; split <;> rfl
theorem regionS_ok {s : Scr} (h : s.ok) (h0 : checkS s = 0) (t b : Int) (ht : i64ok t) (hb : i64ok b) : (regionS s t b).ok := by
  obtain ⟨q1, q2, q3, q4, q5, q6, q7, q8, q9, q10, q11⟩ := right_sizes h0
  have hA : i64ok (regA t) := by unfold i64ok regA at *; omega
  have hB : i64ok (regB s.g.h b) := by unfold i64ok regB at *; split <;> omega
  have z : i64ok 0 := by unfold i64ok; omega
  unfold regionS
  split
  · obtain ⟨h1, h2, h3, h4, h5, h6, h7, h8, h9, h10, h11, h12, h13, h14, h15⟩ := h
    refine ⟨h1, z, ?_, h4, hA, hB, h7, h8, h9, h10, h11, h12, h13, h14, h15⟩
    show i64ok (if bitop .and .i64 s.modes 2 = 0 then 0 else regA t)
    split
    · exact z
    · exact hA
  · exact h
theorem shiftRegionF_ok (hT : Tabs W) (s : Scr) (hok : s.ok) (t bb : Int) (ht : i64ok t) (hbb : i64ok bb) : Pure Tryd.prog W 43 [encScr s, .int .i64 t, .int .i64 bb] (.tup [encScr (moveE s (regionS s t bb)).1, .int .i64 (moveE s (regionS s t bb)).2]) := by
  by_cases h0 : checkS s = 0
  · rw [moveE, if_pos h0]
    refine Pure.of (acalls_of_vc (drawOk W) Tryd.func43 rfl (by decide) (by decide) rfl ?_)
    (refine g0_ ?_; repeat ((first | refine n1_ fun b_ => ?_ | refine n2_ fun b_ => ?_ | refine n3_ fun b_ pre_ => ?_ | refine Nat1.mk fun q_ hq_ => ?_ | refine em_ fun x_ hx_ => ?_ | refine Elem1.mk fun e_ he_ => ?_); refine g0_ ?_))
    rename_i bs b1 b2
    refine ACalls.lendF (change_ok W hT s hok h0 104 [.bref b1 0, .bref b2 0] [numB b2 bb, numB b1 t] (regionS s t bb) (fun b bc bt bg => ?_)) (List.Perm.append_right [_] (List.perm_append_comm (l₁ := [_]) (l₂ := [_, _]))) ?_
    · refine ACalls.lend (region1_ok W b bc s.g.cs.length b1 b2 (.rsl bt 1 0 s.tabs.length) (.rsl bg 1 0 s.gone.length) s t bb ht hbb h0) (r := scrR bc bt bg [] s) ?_ ?_
      · exact (List.perm_append_comm (l₁ := scrR bc bt bg [] s) (l₂ := [numB b2 bb, numB b1 t])).cons _
      · rintro _ -
        exact ⟨rfl, done_plainL b bc bt bg s (regionS s t bb) (by rw [regionS_g]) (regionS_tabs s t bb) (regionS_gone s t bb) [numB b2 bb, numB b1 t]⟩
    · (refine g0_ ?_; repeat ((first | refine n1_ fun b_ => ?_ | refine n2_ fun b_ => ?_ | refine n3_ fun b_ pre_ => ?_ | refine Nat1.mk fun q_ hq_ => ?_ | refine em_ fun x_ hx_ => ?_ | refine Elem1.mk fun e_ he_ => ?_); refine g0_ ?_))
      exact .refl _
  · rw [moveE, if_neg h0]
    have hb := change_bad W hT s hok h0
    refine Pure.of (acalls_of_vc (drawOk W) Tryd.func43 rfl (by decide) (by decide) rfl ?_)
    (refine g0_ ?_; repeat ((first | refine n1_ fun b_ => ?_ | refine n2_ fun b_ => ?_ | refine n3_ fun b_ pre_ => ?_ | refine Nat1.mk fun q_ hq_ => ?_ | refine em_ fun x_ hx_ => ?_ | refine Elem1.mk fun e_ he_ => ?_); refine g0_ ?_))
    rename_i bs b1 b2
    refine (hb 104 [.bref b1 0, .bref b2 0]).use ?_
    (refine g0_ ?_; repeat ((first | refine n1_ fun b_ => ?_ | refine n2_ fun b_ => ?_ | refine n3_ fun b_ pre_ => ?_ | refine Nat1.mk fun q_ hq_ => ?_ | refine em_ fun x_ hx_ => ?_ | refine Elem1.mk fun e_ he_ => ?_); refine g0_ ?_))
    exact .refl _
theorem shiftRegion1_ok (hT : Tabs W) (s : Scr) (hs : s.ok) (t bb : Int) (ht : i64ok t) (hbb : i64ok bb) (b1 b2 : Nat) : ACalls Tryd.prog W 42 [encScr s, .bref b1 0, .bref b2 0] [numB b2 bb, numB b1 t] fun v σ' => Frz σ' v (.tup [encScr (moveE s (regionS s t bb)).1, .int .i64 (moveE s (regionS s t bb)).2]) := by
  have h := shiftRegionF_ok W hT s hs t bb ht hbb
  refine acalls_of_vc (drawOk W) Tryd.func42 rfl (by decide) (by decide) rfl ?_
  (refine g0_ ?_; repeat ((first | refine n1_ fun b_ => ?_ | refine n2_ fun b_ => ?_ | refine n3_ fun b_ pre_ => ?_ | refine Nat1.mk fun q_ hq_ => ?_ | refine em_ fun x_ hx_ => ?_ | refine Elem1.mk fun e_ he_ => ?_); refine g0_ ?_))
  refine (h).use ?_; (refine g0_ ?_; repeat ((first | refine n1_ fun b_ => ?_ | refine n2_ fun b_ => ?_ | refine n3_ fun b_ pre_ => ?_ | refine Nat1.mk fun q_ hq_ => ?_ | refine em_ fun x_ hx_ => ?_ | refine Elem1.mk fun e_ he_ => ?_); refine g0_ ?_))
  exact .refl _
theorem shiftRegion_ok (hT : Tabs W) (s : Scr) (hs : s.ok) (t : Int) (ht : -9223372036854775808 ≤ t ∧ t ≤ 9223372036854775807) (bb : Int) (hb : -9223372036854775808 ≤ bb ∧ bb ≤ 9223372036854775807) :
    Pure Tryd.prog W 9 [encScr s, .int .i64 t, .int .i64 bb] (.bool true) := by
  have h3 := fun b1 b2 => acts_ok W hT s hs 42 [.bref b1 0, .bref b2 0] [numB b2 bb, numB b1 t] _ _ (moveE_ok hs fun h0 => regionS_ok hs h0 t bb ht hb) [114, 101, 103, 105, 111, 110] t bb (shiftRegion1_ok W hT s hs t bb ht hb b1 b2) (actOp_block W (s' := regionS s t bb) _ t bb (regionS_tabs s t bb) (regionS_gone s t bb) (regionS_g s t bb) fun h0 => actRegion_ok W s t bb ht hb h0)
  refine Pure.of (acalls_of_vc (drawOk W) Tryd.func9 rfl (by decide) (by decide) rfl ?_)
  (refine g0_ ?_; repeat ((first | refine n1_ fun b_ => ?_ | refine n2_ fun b_ => ?_ | refine n3_ fun b_ pre_ => ?_ | refine Nat1.mk fun q_ hq_ => ?_ | refine em_ fun x_ hx_ => ?_ | refine Elem1.mk fun e_ he_ => ?_); refine g0_ ?_))
  rename_i b1 b2
  refine ACalls.lendW (h3 b2 b_) (ρ := [⟨b1, .row 22 [encScr s] 0⟩]) (.refl _) ?_
  rintro v σ1 rfl
  refine ⟨σ1, ⟨_, .refl _⟩, ?_⟩
  (refine g0_ ?_; repeat ((first | refine n1_ fun b_ => ?_ | refine n2_ fun b_ => ?_ | refine n3_ fun b_ pre_ => ?_ | refine Nat1.mk fun q_ hq_ => ?_ | refine em_ fun x_ hx_ => ?_ | refine Elem1.mk fun e_ he_ => ?_); refine g0_ ?_))
  exact .refl _
end Go.Eng.YtgpkedepboenpaaDoor
end
