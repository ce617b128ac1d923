/- Texts put together: Dsk24. -/
import Derived.Test.YtphoefglfbifdaaDoorMK14
import Derived.Test.YtphoefglfbifdaaDoorMW6
import Derived.Test.YtphoefglfbifdaaDoorMW9
import Derived.Test.YtphoefglfbifdaaDoorMW20
/- A desk: rows put in, taken out, rolled (b_). -/
section
namespace Go.Eng.YtphoefglfbifdaaDoor
open Go Go.Eng Go.Proofs
variable (W : World)
set_option linter.unusedSimpArgs false
set_option maxRecDepth 100000
set_option linter.unusedVariables false
set_option maxHeartbeats 8000000
def putX (p : Wk) : Scr := p.1.put p.2.1 p.2.2
def cntY (s : Scr) (n : Int) : Nat := min (timesL n).toNat (s.bottom.toNat - s.y.toNat + 1)
/-- Rows put in where the cursor is. -/
def insW (n : Int) (p : Wk) : Wk := if p.1.top ≤ p.1.y ∧ p.1.y ≤ p.1.bottom then ({ p.1 with x := 0, late := false }, iterF (downR p.1.look.back p.1.g.w.toNat p.1.y.toNat p.1.bottom.toNat) (cntY p.1 n) p.2.1, p.2.2) else p
/-- Rows taken out where the cursor is. -/
def delW (n : Int) (p : Wk) : Wk := if p.1.top ≤ p.1.y ∧ p.1.y ≤ p.1.bottom then ({ p.1 with x := 0, late := false }, iterF (upR p.1.look.back p.1.g.w.toNat p.1.y.toNat p.1.bottom.toNat) (cntY p.1 n) p.2.1, p.2.2) else p
def rupW (n : Int) (p : Wk) : Wk := (p.1, iterF (stepU p.1.look.back p.1.g.w.toNat p.1.top.toNat p.1.bottom.toNat) (cntS p.1 n) p.2)
def rdownW (n : Int) (p : Wk) : Wk := (p.1, iterF (downR p.1.look.back p.1.g.w.toNat p.1.top.toNat p.1.bottom.toNat) (cntS p.1 n) p.2.1, p.2.2)
theorem RowsR.ups {w h : Nat} {top bottom : Nat} (h1 : top ≤ bottom) (h2 : bottom < h) {st : Style} (hs : checkStyle st = true) : ∀ (n : Nat) {L : List (List Cell)}, RowsR L w h → RowsR (iterF (upR st.back w top bottom) n L) w h
  | 0, _, f => f
  | n + 1, _, f => RowsR.ups h1 h2 hs n (f.up h1 h2 hs)
theorem insW_right {p : Wk} {w h : Nat} (n : Int) (f : WkR p w h) : WkR (insW n p) w h := by
  have hx := f.R.xy
  have ht := f.R.tb
  have hw := f.ew
  have hh := f.eh
  have w1 := f.rows.ok.w1
  have w2 := f.rows.ok.w2
  have h2 := f.rows.ok.h2
  unfold insW
  split
  · refine ⟨R_at f.R 0 p.1.y (by omega) (by omega), ok_at f.ok 0 p.1.y false (by unfold i64ok; omega) f.ok.y, hw, hh, ?_, f.gone⟩
    rw [hw, Int.toNat_natCast]
    exact RowsR.downs (by omega) (by omega) f.R.look _ f.rows
  · exact f
theorem delW_right {p : Wk} {w h : Nat} (n : Int) (f : WkR p w h) : WkR (delW n p) w h := by
  have hx := f.R.xy
  have ht := f.R.tb
  have hw := f.ew
  have hh := f.eh
  have w1 := f.rows.ok.w1
  have w2 := f.rows.ok.w2
  have h2 := f.rows.ok.h2
  unfold delW
  split
  · refine ⟨R_at f.R 0 p.1.y (by omega) (by omega), ok_at f.ok 0 p.1.y false (by unfold i64ok; omega) f.ok.y, hw, hh, ?_, f.gone⟩
    rw [hw, Int.toNat_natCast]
    exact RowsR.ups (by omega) (by omega) f.R.look _ f.rows
  · exact f
theorem rupW_right {p : Wk} {w h : Nat} (n : Int) (f : WkR p w h) : WkR (rupW n p) w h := by
  have ht := f.R.tb
  have hh := f.eh
  have hw := f.ew
  have hs := ups_right (w := w) (h := h) (top := p.1.top.toNat) (bottom := p.1.bottom.toNat) (by omega) (by omega) f.R.look (cntS p.1 n) (p := p.2) f.rows f.gone
  rw [rupW, hw, Int.toNat_natCast]
  exact ⟨f.R, f.ok, hw, hh, hs.1, hs.2⟩
theorem rdownW_right {p : Wk} {w h : Nat} (n : Int) (f : WkR p w h) : WkR (rdownW n p) w h := by
  have ht := f.R.tb
  have hh := f.eh
  have hw := f.ew
  rw [rdownW, hw, Int.toNat_natCast]
  exact ⟨f.R, f.ok, hw, hh, RowsR.downs (by omega) (by omega) f.R.look _ f.rows, f.gone⟩
theorem iter_stepK (keep : Bool) (back : Int) (w top bottom : Nat) (h : ¬ (top = 0 ∧ keep = true)) : ∀ (n : Nat) (p : List (List Cell) × List (List Cell)), iterF (stepK keep back w top bottom) n p = (iterF (upR back w top bottom) n p.1, p.2)
  | 0, _ => rfl
  | n + 1, p => by
    show iterF (stepK keep back w top bottom) n (stepK keep back w top bottom p) = _
    rw [iter_stepK keep back w top bottom h n, stepK, if_neg h]; rfl
theorem actRollup_ok (d : Nat) (cv tv : PV) (p : Wk) (x : RolS) {w h : Nat} (hk : WkR p w h) (hx : DkOk x p.2.1 p.2.2) (n m : Int) :
    ACalls Tryd.prog W 48 (actArgs [114, 111, 108, 108, 117, 112] n m d) (rolX d cv tv x p.1)
      (Gives (fun _ : RolS => .tup []) (fun x' => rolX d cv tv x' (rupW n p).1) (fun x' => DkOk x' (rupW n p).2.1 (rupW n p).2.2)) := by
  have hxy := hk.R.xy
  have htb := hk.R.tb
  have ew := hk.ew
  have eh := hk.eh
  have f := hk.rows.ok
  have hh2 := f.h2
  have hgl := hk.gone.len
  have htm : 1 ≤ timesL n ∧ timesL n ≤ 9999 := by unfold timesL; omega
  have hof := often_ok W n
  clear hk
  obtain ⟨q, bo, l, g⟩ := x
  obtain ⟨s, L, G⟩ := p
  obtain ⟨hl, hgo⟩ := hx
  dsimp only at *
  subst hl
  obtain ⟨top, hto⟩ := Int.eq_ofNat_of_zero_le (show 0 ≤ s.top by omega)
  obtain ⟨bottom, hbo⟩ := Int.eq_ofNat_of_zero_le (show 0 ≤ s.bottom by omega)
  have hr := droll_ok W d cv tv s ew top bottom (by omega) (by omega) hbo (timesL n) true q bo l g G f hgo hgl _ rfl
  rw [if_pos (by omega), stepK_true, show min (timesL n).toNat (bottom - top + 1) = cntS s n by rw [cntS, hbo, hto]; rfl] at hr
  rw [rupW]
  dsimp only
  rw [ew, hto, hbo, Int.toNat_natCast, Int.toNat_natCast, Int.toNat_natCast]
  generalize iterF (stepU s.look.back w top bottom) (cntS s n) (l.map Prod.snd, G) = F at *
  obtain ⟨⟨gw, gh, cs⟩, X, Y, late, ⟨fo, ba, bi⟩, tp, bo_, modes, tabs, kx, ky, ⟨f2, b2, bi2⟩, km, last, title, gn⟩ := s
  dsimp only at *
  subst hto hbo
  simp only [rolX, rolM, dskB_eq] at *
  refine acalls_of_vc (DM_ok (by decide)) Tryd.func48 rfl (by decide) (by decide) rfl ?_
  (refine g0_ ?_; repeat ((first | refine n1_ fun b_ => ?_ | refine n2_ fun b_ => ?_); refine g0_ ?_))
  refine headT_ (Draws.head ⟨8, by decide +kernel, ?_⟩); (refine g0_ ?_; repeat ((first | refine n1_ fun b_ => ?_ | refine n2_ fun b_ => ?_); refine g0_ ?_))
  refine ⟨_, (hof).quiet, ?_⟩; (refine g0_ ?_; repeat ((first | refine n1_ fun b_ => ?_ | refine n2_ fun b_ => ?_); refine g0_ ?_))
  refine ACalls.lendW hr (ρ := []) (List.Perm.of_eq (List.append_nil _).symm) ?_
  rintro v σ1 ⟨x', hx', rfl, hm⟩
  refine ⟨_, (List.append_nil σ1).symm ▸ hm, ?_⟩
  (refine g0_ ?_; repeat ((first | refine n1_ fun b_ => ?_ | refine n2_ fun b_ => ?_); refine g0_ ?_))
  exact ⟨x', hx', rfl, wkMem.rfl'⟩
theorem actRolldown_ok (d : Nat) (cv tv : PV) (p : Wk) (x : RolS) {w h : Nat} (hk : WkR p w h) (hx : DkOk x p.2.1 p.2.2) (n m : Int) :
    ACalls Tryd.prog W 48 (actArgs [114, 111, 108, 108, 100, 111, 119, 110] n m d) (rolX d cv tv x p.1)
      (Gives (fun _ : RolS => .tup []) (fun x' => rolX d cv tv x' (rdownW n p).1) (fun x' => DkOk x' (rdownW n p).2.1 (rdownW n p).2.2)) := by
  have hxy := hk.R.xy
  have htb := hk.R.tb
  have ew := hk.ew
  have eh := hk.eh
  have f := hk.rows.ok
  have hh2 := f.h2
  have hgl := hk.gone.len
  have htm : 1 ≤ timesL n ∧ timesL n ≤ 9999 := by unfold timesL; omega
  have hof := often_ok W n
  clear hk
  obtain ⟨q, bo, l, g⟩ := x
  obtain ⟨s, L, G⟩ := p
  obtain ⟨hl, hgo⟩ := hx
  dsimp only at *
  subst hl
  obtain ⟨top, hto⟩ := Int.eq_ofNat_of_zero_le (show 0 ≤ s.top by omega)
  obtain ⟨bottom, hbo⟩ := Int.eq_ofNat_of_zero_le (show 0 ≤ s.bottom by omega)
  have hr := droll_ok W d cv tv s ew top bottom (by omega) (by omega) hbo (0 - timesL n) true q bo l g G f hgo hgl _ rfl
  rw [if_neg (by omega), show min (-(0 - timesL n)).toNat (bottom - top + 1) = cntS s n by rw [cntS, hbo, hto, show -(0 - timesL n) = timesL n by omega]; rfl] at hr
  rw [rdownW]
  dsimp only
  rw [ew, hto, hbo, Int.toNat_natCast, Int.toNat_natCast, Int.toNat_natCast]
  generalize iterF (downR s.look.back w top bottom) (cntS s n) (l.map Prod.snd) = F at *
  obtain ⟨⟨gw, gh, cs⟩, X, Y, late, ⟨fo, ba, bi⟩, tp, bo_, modes, tabs, kx, ky, ⟨f2, b2, bi2⟩, km, last, title, gn⟩ := s
  dsimp only at *
  subst hto hbo
  simp only [rolX, rolM, dskB_eq] at *
  refine acalls_of_vc (DM_ok (by decide)) Tryd.func48 rfl (by decide) (by decide) rfl ?_
  (refine g0_ ?_; repeat ((first | refine n1_ fun b_ => ?_ | refine n2_ fun b_ => ?_); refine g0_ ?_))
  refine headT_ (Draws.head ⟨9, by decide +kernel, ?_⟩); (refine g0_ ?_; repeat ((first | refine n1_ fun b_ => ?_ | refine n2_ fun b_ => ?_); refine g0_ ?_))
  refine ⟨_, (hof).quiet, ?_⟩; (refine g0_ ?_; repeat ((first | refine n1_ fun b_ => ?_ | refine n2_ fun b_ => ?_); refine g0_ ?_))
  refine ACalls.lendW hr (ρ := []) (List.Perm.of_eq (List.append_nil _).symm) ?_
  rintro v σ1 ⟨x', hx', rfl, hm⟩
  refine ⟨_, (List.append_nil σ1).symm ▸ hm, ?_⟩
  (refine g0_ ?_; repeat ((first | refine n1_ fun b_ => ?_ | refine n2_ fun b_ => ?_); refine g0_ ?_))
  exact ⟨x', hx', rfl, wkMem.rfl'⟩
theorem actInsl_ok (d : Nat) (cv tv : PV) (p : Wk) (x : RolS) {w h : Nat} (hk : WkR p w h) (hx : DkOk x p.2.1 p.2.2) (n m : Int) :
    ACalls Tryd.prog W 48 (actArgs [105, 110, 115, 101, 114, 116, 108, 105, 110, 101, 115] n m d) (rolX d cv tv x p.1)
      (Gives (fun _ : RolS => .tup []) (fun x' => rolX d cv tv x' (insW n p).1) (fun x' => DkOk x' (insW n p).2.1 (insW n p).2.2)) := by
  have hxy := hk.R.xy
  have htb := hk.R.tb
  have ew := hk.ew
  have eh := hk.eh
  have f := hk.rows.ok
  have hh2 := f.h2
  have hgl := hk.gone.len
  have htm : 1 ≤ timesL n ∧ timesL n ≤ 9999 := by unfold timesL; omega
  have hof := often_ok W n
  clear hk
  obtain ⟨q, bo, l, g⟩ := x
  obtain ⟨s, L, G⟩ := p
  obtain ⟨hl, hgo⟩ := hx
  dsimp only at *
  subst hl
  rw [insW]
  dsimp only
  by_cases hs : s.top ≤ s.y ∧ s.y ≤ s.bottom
  · rw [if_pos hs]
    dsimp only
    obtain ⟨y, hy⟩ := Int.eq_ofNat_of_zero_le (show 0 ≤ s.y by omega)
    obtain ⟨bottom, hbo⟩ := Int.eq_ofNat_of_zero_le (show 0 ≤ s.bottom by omega)
    have hr := droll_ok W d cv tv { s with x := 0, late := false } ew y bottom (by omega) (by omega) hbo (0 - timesL n) false q bo l g G f hgo hgl _ rfl
    rw [if_neg (by omega), show min (-(0 - timesL n)).toNat (bottom - y + 1) = cntY s n by rw [cntY, hbo, hy, show -(0 - timesL n) = timesL n by omega]; rfl] at hr
    dsimp only at hr
    rw [ew, hy, hbo, Int.toNat_natCast, Int.toNat_natCast, Int.toNat_natCast]
    generalize iterF (downR s.look.back w y bottom) (cntY s n) (l.map Prod.snd) = F at *
    obtain ⟨⟨gw, gh, cs⟩, X, Y, late, ⟨fo, ba, bi⟩, tp, bo_, modes, tabs, kx, ky, ⟨f2, b2, bi2⟩, km, last, title, gn⟩ := s
    dsimp only at *
    subst hy hbo
    simp only [rolX, rolM, dskB_eq] at *
    refine acalls_of_vc (DM_ok (by decide)) Tryd.func48 rfl (by decide) (by decide) rfl ?_
    (refine g0_ ?_; repeat ((first | refine n1_ fun b_ => ?_ | refine n2_ fun b_ => ?_); refine g0_ ?_))
    refine headT_ (head_ ?_); (refine g0_ ?_; repeat ((first | refine n1_ fun b_ => ?_ | refine n2_ fun b_ => ?_); refine g0_ ?_))
    (refine g1_ ?_; repeat ((first | refine n1_ fun b_ => ?_ | refine n2_ fun b_ => ?_); refine g1_ ?_))
    refine (hof).use ?_; (refine g0_ ?_; repeat ((first | refine n1_ fun b_ => ?_ | refine n2_ fun b_ => ?_); refine g0_ ?_))
    refine ACalls.lendW hr (ρ := []) (List.Perm.of_eq (List.append_nil _).symm) ?_
    rintro v σ1 ⟨x', hx', rfl, hm⟩
    refine ⟨_, (List.append_nil σ1).symm ▸ hm, ?_⟩
    (refine g0_ ?_; repeat ((first | refine n1_ fun b_ => ?_ | refine n2_ fun b_ => ?_); refine g0_ ?_))
    exact ⟨x', hx', rfl, wkMem.rfl'⟩
  · rw [if_neg hs]
    obtain ⟨⟨gw, gh, cs⟩, X, Y, late, ⟨fo, ba, bi⟩, tp, bo_, modes, tabs, kx, ky, ⟨f2, b2, bi2⟩, km, last, title, gn⟩ := s
    dsimp only at *
    simp only [rolX, rolM, dskB_eq] at *
    by_cases h1 : tp ≤ Y
    · have h2 : ¬ Y ≤ bo_ := fun h => hs ⟨h1, h⟩
      clear hs
      refine acalls_of_vc (DM_ok (by decide)) Tryd.func48 rfl (by decide) (by decide) rfl ?_
      (refine g0_ ?_; repeat ((first | refine n1_ fun b_ => ?_ | refine n2_ fun b_ => ?_); refine g0_ ?_))
      refine headT_ (head_ ?_); (refine g0_ ?_; repeat ((first | refine n1_ fun b_ => ?_ | refine n2_ fun b_ => ?_); refine g0_ ?_))
      (refine g1_ ?_; repeat ((first | refine n1_ fun b_ => ?_ | refine n2_ fun b_ => ?_); refine g1_ ?_))
      exact ⟨(q, bo, l, g), ⟨rfl, hgo⟩, (by first | rfl | trivial), wkMem.rfl'⟩
    · clear hs
      refine acalls_of_vc (DM_ok (by decide)) Tryd.func48 rfl (by decide) (by decide) rfl ?_
      (refine g0_ ?_; repeat ((first | refine n1_ fun b_ => ?_ | refine n2_ fun b_ => ?_); refine g0_ ?_))
      refine headT_ (head_ ?_); (refine g0_ ?_; repeat ((first | refine n1_ fun b_ => ?_ | refine n2_ fun b_ => ?_); refine g0_ ?_))
      (refine g1_ ?_; repeat ((first | refine n1_ fun b_ => ?_ | refine n2_ fun b_ => ?_); refine g1_ ?_))
      exact ⟨(q, bo, l, g), ⟨rfl, hgo⟩, (by first | rfl | trivial), wkMem.rfl'⟩
theorem actDell_ok (d : Nat) (cv tv : PV) (p : Wk) (x : RolS) {w h : Nat} (hk : WkR p w h) (hx : DkOk x p.2.1 p.2.2) (n m : Int) :
    ACalls Tryd.prog W 48 (actArgs [100, 101, 108, 101, 116, 101, 108, 105, 110, 101, 115] n m d) (rolX d cv tv x p.1)
      (Gives (fun _ : RolS => .tup []) (fun x' => rolX d cv tv x' (delW n p).1) (fun x' => DkOk x' (delW n p).2.1 (delW n p).2.2)) := by
  have hxy := hk.R.xy
  have htb := hk.R.tb
  have ew := hk.ew
  have eh := hk.eh
  have f := hk.rows.ok
  have hh2 := f.h2
  have hgl := hk.gone.len
  have htm : 1 ≤ timesL n ∧ timesL n ≤ 9999 := by unfold timesL; omega
  have hof := often_ok W n
  clear hk
  obtain ⟨q, bo, l, g⟩ := x
  obtain ⟨s, L, G⟩ := p
  obtain ⟨hl, hgo⟩ := hx
  dsimp only at *
  subst hl
  rw [delW]
  dsimp only
  by_cases hs : s.top ≤ s.y ∧ s.y ≤ s.bottom
  · rw [if_pos hs]
    dsimp only
    obtain ⟨y, hy⟩ := Int.eq_ofNat_of_zero_le (show 0 ≤ s.y by omega)
    obtain ⟨bottom, hbo⟩ := Int.eq_ofNat_of_zero_le (show 0 ≤ s.bottom by omega)
    have hr := droll_ok W d cv tv { s with x := 0, late := false } ew y bottom (by omega) (by omega) hbo (timesL n) false q bo l g G f hgo hgl _ rfl
    rw [if_pos (by omega), iter_stepK false _ _ _ _ (by simp), show min (timesL n).toNat (bottom - y + 1) = cntY s n by rw [cntY, hbo, hy]; rfl] at hr
    dsimp only at hr
    rw [ew, hy, hbo, Int.toNat_natCast, Int.toNat_natCast, Int.toNat_natCast]
    generalize iterF (upR s.look.back w y bottom) (cntY s n) (l.map Prod.snd) = F at *
    obtain ⟨⟨gw, gh, cs⟩, X, Y, late, ⟨fo, ba, bi⟩, tp, bo_, modes, tabs, kx, ky, ⟨f2, b2, bi2⟩, km, last, title, gn⟩ := s
    dsimp only at *
    subst hy hbo
    simp only [rolX, rolM, dskB_eq] at *
    refine acalls_of_vc (DM_ok (by decide)) Tryd.func48 rfl (by decide) (by decide) rfl ?_
    (refine g0_ ?_; repeat ((first | refine n1_ fun b_ => ?_ | refine n2_ fun b_ => ?_); refine g0_ ?_))
    refine headT_ (head_ ?_); (refine g0_ ?_; repeat ((first | refine n1_ fun b_ => ?_ | refine n2_ fun b_ => ?_); refine g0_ ?_))
    (refine g1_ ?_; repeat ((first | refine n1_ fun b_ => ?_ | refine n2_ fun b_ => ?_); refine g1_ ?_))
    refine (hof).use ?_; (refine g0_ ?_; repeat ((first | refine n1_ fun b_ => ?_ | refine n2_ fun b_ => ?_); refine g0_ ?_))
    refine ACalls.lendW hr (ρ := []) (List.Perm.of_eq (List.append_nil _).symm) ?_
    rintro v σ1 ⟨x', hx', rfl, hm⟩
    refine ⟨_, (List.append_nil σ1).symm ▸ hm, ?_⟩
    (refine g0_ ?_; repeat ((first | refine n1_ fun b_ => ?_ | refine n2_ fun b_ => ?_); refine g0_ ?_))
    exact ⟨x', hx', rfl, wkMem.rfl'⟩
  · rw [if_neg hs]
    obtain ⟨⟨gw, gh, cs⟩, X, Y, late, ⟨fo, ba, bi⟩, tp, bo_, modes, tabs, kx, ky, ⟨f2, b2, bi2⟩, km, last, title, gn⟩ := s
    dsimp only at *
    simp only [rolX, rolM, dskB_eq] at *
    by_cases h1 : tp ≤ Y
    · have h2 : ¬ Y ≤ bo_ := fun h => hs ⟨h1, h⟩
      clear hs
      refine acalls_of_vc (DM_ok (by decide)) Tryd.func48 rfl (by decide) (by decide) rfl ?_
      (refine g0_ ?_; repeat ((first | refine n1_ fun b_ => ?_ | refine n2_ fun b_ => ?_); refine g0_ ?_))
      refine headT_ (head_ ?_); (refine g0_ ?_; repeat ((first | refine n1_ fun b_ => ?_ | refine n2_ fun b_ => ?_); refine g0_ ?_))
      (refine g1_ ?_; repeat ((first | refine n1_ fun b_ => ?_ | refine n2_ fun b_ => ?_); refine g1_ ?_))
      exact ⟨(q, bo, l, g), ⟨rfl, hgo⟩, (by first | rfl | trivial), wkMem.rfl'⟩
    · clear hs
      refine acalls_of_vc (DM_ok (by decide)) Tryd.func48 rfl (by decide) (by decide) rfl ?_
      (refine g0_ ?_; repeat ((first | refine n1_ fun b_ => ?_ | refine n2_ fun b_ => ?_); refine g0_ ?_))
      refine headT_ (head_ ?_); (refine g0_ ?_; repeat ((first | refine n1_ fun b_ => ?_ | refine n2_ fun b_ => ?_); refine g0_ ?_))
      (refine g1_ ?_; repeat ((first | refine n1_ fun b_ => ?_ | refine n2_ fun b_ => ?_); refine g1_ ?_))
      exact ⟨(q, bo, l, g), ⟨rfl, hgo⟩, (by first | rfl | trivial), wkMem.rfl'⟩
theorem scrolls_ok (b bc N : Nat) (tv gv : PV) (s : Scr) : ACalls Tryd.prog W 40 [.bref b 0] [scrB b bc N tv gv s]
    (Gives (fun _ : Unit => .bool (decide (s.top ≤ s.y ∧ s.y ≤ s.bottom))) (fun _ => [scrB b bc N tv gv s]) (fun _ => True)) := by
  obtain ⟨⟨gw, gh, cs⟩, X, Y, late, ⟨fo, ba, bi⟩, tp, bo, modes, tabs, kx, ky, ⟨f2, b2, bi2⟩, km, last, title, gn⟩ := s
  dsimp only
  simp only [scrB_eq]
  by_cases h1 : tp ≤ Y
  · by_cases h2 : Y ≤ bo
    · rw [decide_eq_true (show tp ≤ Y ∧ Y ≤ bo from ⟨h1, h2⟩)]
      refine acalls_of_vc (DM_ok (by decide)) Tryd.func40 rfl (by decide) (by decide) rfl ?_
      (refine g0_ ?_; repeat ((first | refine n1_ fun b_ => ?_ | refine n2_ fun b_ => ?_); refine g0_ ?_))
      refine headT_ (head_ ?_); (refine g0_ ?_; repeat ((first | refine n1_ fun b_ => ?_ | refine n2_ fun b_ => ?_); refine g0_ ?_))
      (refine g1_ ?_; repeat ((first | refine n1_ fun b_ => ?_ | refine n2_ fun b_ => ?_); refine g1_ ?_))
      exact ⟨(), trivial, (by first | rfl | simp [h1, h2]), wkMem.rfl'⟩
    · rw [decide_eq_false (show ¬ (tp ≤ Y ∧ Y ≤ bo) from fun h => h2 h.2)]
      refine acalls_of_vc (DM_ok (by decide)) Tryd.func40 rfl (by decide) (by decide) rfl ?_
      (refine g0_ ?_; repeat ((first | refine n1_ fun b_ => ?_ | refine n2_ fun b_ => ?_); refine g0_ ?_))
      refine headT_ (head_ ?_); (refine g0_ ?_; repeat ((first | refine n1_ fun b_ => ?_ | refine n2_ fun b_ => ?_); refine g0_ ?_))
      (refine g1_ ?_; repeat ((first | refine n1_ fun b_ => ?_ | refine n2_ fun b_ => ?_); refine g1_ ?_))
      exact ⟨(), trivial, (by first | rfl | simp [h1, h2]), wkMem.rfl'⟩
  · rw [decide_eq_false (show ¬ (tp ≤ Y ∧ Y ≤ bo) from fun h => h1 h.1)]
    refine acalls_of_vc (DM_ok (by decide)) Tryd.func40 rfl (by decide) (by decide) rfl ?_
    (refine g0_ ?_; repeat ((first | refine n1_ fun b_ => ?_ | refine n2_ fun b_ => ?_); refine g0_ ?_))
    refine headT_ (head_ ?_); (refine g0_ ?_; repeat ((first | refine n1_ fun b_ => ?_ | refine n2_ fun b_ => ?_); refine g0_ ?_))
    (refine g1_ ?_; repeat ((first | refine n1_ fun b_ => ?_ | refine n2_ fun b_ => ?_); refine g1_ ?_))
    exact ⟨(), trivial, (by first | rfl | simp [h1]), wkMem.rfl'⟩
theorem insl1_ok (b bc bn : Nat) (tv gv : PV) (s : Scr) {w h : Nat} {L : List (List Cell)} (G : List (List Cell)) (f : RowsOk L w h) (hw : s.g.w = w) (hh : s.g.h = h) (hy : 0 ≤ s.y ∧ s.y < h) (htb : 0 ≤ s.top ∧ s.bottom < h) (n : Int) :
    ACalls Tryd.prog W 39 [.bref b 0, .bref bn 0] [scrB b bc (h * w) tv gv s, ⟨bc, .row 4 (L.flatten.map encCell) 0⟩, numB bn n]
      (Gives (fun _ : Unit => .tup []) (fun x => [scrB b bc (h * w) tv gv (insW n (s, L, G)).1, ⟨bc, .row 4 ((insW n (s, L, G)).2.1.flatten.map encCell) 0⟩, numB bn n]) (fun _ => True)) := by
  have ht : 1 ≤ timesL n ∧ timesL n ≤ 9999 := by unfold timesL; omega
  obtain ⟨t, hte⟩ := Int.eq_ofNat_of_zero_le (show 0 ≤ timesL n by omega)
  have hsc := scrolls_ok W b bc (h * w) tv gv s
  have hti := stimes_ok W n
  rw [hte] at hti
  rw [insW]
  dsimp only
  by_cases hs : s.top ≤ s.y ∧ s.y ≤ s.bottom
  · rw [if_pos hs]
    rw [decide_eq_true hs] at hsc
    dsimp only
    obtain ⟨y, hy'⟩ := Int.eq_ofNat_of_zero_le hy.1
    obtain ⟨bottom, hbo⟩ := Int.eq_ofNat_of_zero_le (show 0 ≤ s.bottom by omega)
    have hdn := down_ok W b bc tv gv { s with x := 0, late := false } f hw hh y bottom t (by omega) (by omega) hbo (by omega)
    rw [show min t (bottom - y + 1) = cntY s n by rw [cntY, hte, hbo, hy']; rfl] at hdn
    dsimp only at hdn
    rw [hw, hy', hbo, Int.toNat_natCast, Int.toNat_natCast, Int.toNat_natCast]
    generalize iterF (downR s.look.back w y bottom) (cntY s n) L = F at *
    obtain ⟨⟨gw, gh, cs⟩, X, Y, late, ⟨fo, ba, bi⟩, tp, bo, modes, tabs, kx, ky, ⟨f2, b2, bi2⟩, km, last, title, gn⟩ := s
    dsimp only at *
    subst hy' hbo
    simp only [scrB_eq] at *
    refine acalls_of_vc (DM_ok (by decide)) Tryd.func39 rfl (by decide) (by decide) rfl ?_
    (refine g0_ ?_; repeat ((first | refine n1_ fun b_ => ?_ | refine n2_ fun b_ => ?_); refine g0_ ?_))
    refine ACalls.lend hsc (r := [⟨bc, .row 4 (L.flatten.map encCell) 0⟩, numB bn n]) (.refl _) ?_
    rintro _ -
    (refine g0_ ?_; repeat ((first | refine n1_ fun b_ => ?_ | refine n2_ fun b_ => ?_); refine g0_ ?_))
    refine headT_ (Draws.head ⟨7, by decide +kernel, ?_⟩); (refine g0_ ?_; repeat ((first | refine n1_ fun b_ => ?_ | refine n2_ fun b_ => ?_); refine g0_ ?_))
    refine ⟨_, (hti).quiet, ?_⟩; (refine g0_ ?_; repeat ((first | refine n1_ fun b_ => ?_ | refine n2_ fun b_ => ?_); refine g0_ ?_))
    refine ACalls.lend hdn (r := [numB bn n]) (.refl _) ?_
    rintro x -
    (refine g0_ ?_; repeat ((first | refine n1_ fun b_ => ?_ | refine n2_ fun b_ => ?_); refine g0_ ?_))
    exact ⟨(), trivial, rfl, by (first | exact ⟨_, .refl _⟩ | exact wkMem.rfl' | exact ⟨_, .swap _ _ _⟩ | (repeat (first | exact wkMem.nil _ | exact wkMem.rfl' | exact wk_snoc _ _ _ | exact wk_fam (by assumption) _ _ _ | exact wk_famN (by assumption) _ _ _ | (apply wkMem.cons; (case' hl => (repeat (first | exact .here _ _ _ | apply Look.there)))) | apply wkMem.skip)))⟩
  · rw [if_neg hs]
    rw [decide_eq_false hs] at hsc
    obtain ⟨⟨gw, gh, cs⟩, X, Y, late, ⟨fo, ba, bi⟩, tp, bo, modes, tabs, kx, ky, ⟨f2, b2, bi2⟩, km, last, title, gn⟩ := s
    dsimp only at *
    simp only [scrB_eq] at *
    refine acalls_of_vc (DM_ok (by decide)) Tryd.func39 rfl (by decide) (by decide) rfl ?_
    (refine g0_ ?_; repeat ((first | refine n1_ fun b_ => ?_ | refine n2_ fun b_ => ?_); refine g0_ ?_))
    refine ACalls.lend hsc (r := [⟨bc, .row 4 (L.flatten.map encCell) 0⟩, numB bn n]) (.refl _) ?_
    rintro _ -
    (refine g0_ ?_; repeat ((first | refine n1_ fun b_ => ?_ | refine n2_ fun b_ => ?_); refine g0_ ?_))
    exact ⟨(), trivial, rfl, by (first | exact ⟨_, .refl _⟩ | exact wkMem.rfl' | exact ⟨_, .swap _ _ _⟩ | (repeat (first | exact wkMem.nil _ | exact wkMem.rfl' | exact wk_snoc _ _ _ | exact wk_fam (by assumption) _ _ _ | exact wk_famN (by assumption) _ _ _ | (apply wkMem.cons; (case' hl => (repeat (first | exact .here _ _ _ | apply Look.there)))) | apply wkMem.skip)))⟩
theorem dell1_ok (b bc bn : Nat) (tv : PV) (s : Scr) {w h : Nat} {L : List (List Cell)} (G : List (List Cell)) (f : RowsOk L w h) (hw : s.g.w = w) (hh : s.g.h = h) (hy : 0 ≤ s.y ∧ s.y < h) (htb : 0 ≤ s.top ∧ s.bottom < h) (n : Int)
    (bg : Nat) (l : List PV) (hl : l.all cellsB = true) (hl5 : l.length ≤ 50) :
    ACalls Tryd.prog W 43 [.bref b 0, .bref bn 0] [scrB b bc (h * w) tv (.rsl bg 1 0 l.length) s, ⟨bc, .row 4 (L.flatten.map encCell) 0⟩, ⟨bg, .row 1 l 0⟩, numB bn n]
      (Gives (fun _ : GonS => .tup []) (fun x => scrB b bc (h * w) tv (.rsl bg 1 0 l.length) (delW n (s, L, G)).1 :: ⟨bc, .row 4 ((delW n (s, L, G)).2.1.flatten.map encCell) 0⟩ :: (gonSM bg l x ++ [numB bn n])) (fun x => GonSOk l x)) := by
  have ht : 1 ≤ timesL n ∧ timesL n ≤ 9999 := by unfold timesL; omega
  obtain ⟨t, hte⟩ := Int.eq_ofNat_of_zero_le (show 0 ≤ timesL n by omega)
  have hsc := scrolls_ok W b bc (h * w) tv (.rsl bg 1 0 l.length) s
  have hti := stimes_ok W n
  rw [hte] at hti
  rw [delW]
  dsimp only
  by_cases hs : s.top ≤ s.y ∧ s.y ≤ s.bottom
  · rw [if_pos hs]
    rw [decide_eq_true hs] at hsc
    dsimp only
    obtain ⟨y, hy'⟩ := Int.eq_ofNat_of_zero_le hy.1
    obtain ⟨bottom, hbo⟩ := Int.eq_ofNat_of_zero_le (show 0 ≤ s.bottom by omega)
    have hup := upD_ok W b bc tv { s with x := 0, late := false } f hw hh y bottom t (by omega) (by omega) hbo (by omega) bg l hl hl5
    rw [show min t (bottom - y + 1) = cntY s n by rw [cntY, hte, hbo, hy']; rfl] at hup
    dsimp only at hup
    rw [hw, hy', hbo, Int.toNat_natCast, Int.toNat_natCast, Int.toNat_natCast]
    generalize iterF (upR s.look.back w y bottom) (cntY s n) L = F at *
    obtain ⟨⟨gw, gh, cs⟩, X, Y, late, ⟨fo, ba, bi⟩, tp, bo, modes, tabs, kx, ky, ⟨f2, b2, bi2⟩, km, last, title, gn⟩ := s
    dsimp only at *
    subst hy' hbo
    simp only [scrB_eq] at *
    refine acalls_of_vc (DM_ok (by decide)) Tryd.func43 rfl (by decide) (by decide) rfl ?_
    (refine g0_ ?_; repeat ((first | refine n1_ fun b_ => ?_ | refine n2_ fun b_ => ?_); refine g0_ ?_))
    refine ACalls.lend hsc (r := [⟨bc, .row 4 (L.flatten.map encCell) 0⟩, ⟨bg, .row 1 l 0⟩, numB bn n]) (.refl _) ?_
    rintro _ -
    (refine g0_ ?_; repeat ((first | refine n1_ fun b_ => ?_ | refine n2_ fun b_ => ?_); refine g0_ ?_))
    refine headT_ (Draws.head ⟨7, by decide +kernel, ?_⟩); (refine g0_ ?_; repeat ((first | refine n1_ fun b_ => ?_ | refine n2_ fun b_ => ?_); refine g0_ ?_))
    refine ⟨_, (hti).quiet, ?_⟩; (refine g0_ ?_; repeat ((first | refine n1_ fun b_ => ?_ | refine n2_ fun b_ => ?_); refine g0_ ?_))
    refine ACalls.lend hup (r := [numB bn n]) (.refl _) ?_
    rintro x hx
    (refine g0_ ?_; repeat ((first | refine n1_ fun b_ => ?_ | refine n2_ fun b_ => ?_); refine g0_ ?_))
    exact ⟨x, hx, rfl, wkMem.cons (.here _ _ _) (wkMem.cons (.here _ _ _) wkMem.rfl')⟩
  · rw [if_neg hs]
    rw [decide_eq_false hs] at hsc
    obtain ⟨⟨gw, gh, cs⟩, X, Y, late, ⟨fo, ba, bi⟩, tp, bo, modes, tabs, kx, ky, ⟨f2, b2, bi2⟩, km, last, title, gn⟩ := s
    dsimp only at *
    simp only [scrB_eq] at *
    refine acalls_of_vc (DM_ok (by decide)) Tryd.func43 rfl (by decide) (by decide) rfl ?_
    (refine g0_ ?_; repeat ((first | refine n1_ fun b_ => ?_ | refine n2_ fun b_ => ?_); refine g0_ ?_))
    refine ACalls.lend hsc (r := [⟨bc, .row 4 (L.flatten.map encCell) 0⟩, ⟨bg, .row 1 l 0⟩, numB bn n]) (.refl _) ?_
    rintro _ -
    (refine g0_ ?_; repeat ((first | refine n1_ fun b_ => ?_ | refine n2_ fun b_ => ?_); refine g0_ ?_))
    exact ⟨(none, [], l), ⟨hl, hl5, .inl rfl, fun _ => ⟨[], by simp⟩⟩, (by first | rfl | trivial), by (first | exact ⟨_, .refl _⟩ | exact wkMem.rfl' | exact ⟨_, .swap _ _ _⟩ | (repeat (first | exact wkMem.nil _ | exact wkMem.rfl' | exact wk_snoc _ _ _ | exact wk_fam (by assumption) _ _ _ | exact wk_famN (by assumption) _ _ _ | (apply wkMem.cons; (case' hl => (repeat (first | exact .here _ _ _ | apply Look.there)))) | apply wkMem.skip)))⟩
def insS2 (s : Scr) (n : Int) : Scr := putX (insW n (s, s.g.rows, s.gone))
def delS2 (s : Scr) (n : Int) : Scr := putX (delW n (s, s.g.rows, s.gone))
theorem insW_tabs (n : Int) (p : Wk) : (insW n p).1.tabs = p.1.tabs := by
  unfold insW; split <;> rfl
theorem delW_tabs (n : Int) (p : Wk) : (delW n p).1.tabs = p.1.tabs := by
  unfold delW; split <;> rfl
theorem insW_g (n : Int) (p : Wk) : (insW n p).1.g = p.1.g := by
  unfold insW; split <;> rfl
theorem delW_g (n : Int) (p : Wk) : (delW n p).1.g = p.1.g := by
  unfold delW; split <;> rfl
theorem insW_gone (n : Int) (p : Wk) : (insW n p).2.2 = p.2.2 := by
  unfold insW; split <;> rfl
theorem delW_gone (n : Int) (p : Wk) : (delW n p).2.2 = p.2.2 := by
  unfold delW; split <;> rfl
theorem shiftInsl_ok (hT : Tabs W) (s : Scr) (hok : s.ok) (n : Int) : Pure Tryd.prog W 16 [encScr s, .int .i64 n] (.tup [encScr (moveE s (insS2 s n)).1, .int .i64 (moveE s (insS2 s n)).2]) := by
  by_cases h0 : checkS s = 0
  · obtain ⟨w, h, hr⟩ := right_of h0
    have hk := wkR_of ((check_iff s).1 h0) hok hr.fit
    have hk2 := insW_right n hk
    have hxy : 0 ≤ s.x ∧ s.x < s.g.w ∧ 0 ≤ s.y ∧ s.y < s.g.h := hk.R.xy
    have htb : 0 ≤ s.top ∧ s.bottom < s.g.h ∧ s.top ≤ s.bottom ∧ (s.top = s.bottom → s.g.h ≤ 1) := hk.R.tb
    have eh : s.g.h = h := hk.eh
    have hI := fun b bc bn tv gv => insl1_ok W b bc bn tv gv s s.gone hk.rows.ok hk.ew hk.eh ⟨hxy.2.2.1, by omega⟩ ⟨htb.1, by omega⟩ n
    rw [moveE, if_pos h0]
    refine Pure.of (acalls_of_vc (drawOk W) Tryd.func16 rfl (by decide) (by decide) rfl ?_)
    (refine g0_ ?_; repeat ((first | refine n1_ fun b_ => ?_ | refine n2_ fun b_ => ?_); refine g0_ ?_))
    rename_i bn
    refine ACalls.lendF (change_rows W hT s hok h0 hr 39 [.bref bn 0] [numB bn n] (insW n (s, s.g.rows, s.gone)).1 (insW n (s, s.g.rows, s.gone)).2.1 (insW n (s, s.g.rows, s.gone)).2.2 (insW_tabs _ _) hk2.rows.ok.flat ?_) (.swap _ _ _) ?_
    · intro b bc tv bg
      rw [insW_gone]
      refine ACalls.lend (hI b bc bn tv (.rsl bg 1 0 s.gone.length)) (r := [gonB bg [] s.gone]) ?_ ?_
      · exact List.Perm.cons _ (List.Perm.cons _ (.swap _ _ _))
      · rintro _ -
        exact ⟨(bg, []), trivial, rfl, by (first | exact ⟨_, .refl _⟩ | exact wkMem.rfl' | exact ⟨_, .swap _ _ _⟩ | (repeat (first | exact wkMem.nil _ | exact wkMem.rfl' | exact wk_snoc _ _ _ | exact wk_fam (by assumption) _ _ _ | exact wk_famN (by assumption) _ _ _ | (apply wkMem.cons; (case' hl => (repeat (first | exact .here _ _ _ | apply Look.there)))) | apply wkMem.skip)))⟩
    · (refine g0_ ?_; repeat ((first | refine n1_ fun b_ => ?_ | refine n2_ fun b_ => ?_); refine g0_ ?_))
      exact .refl _
  · rw [moveE, if_neg h0]
    have hb := change_bad W hT s hok h0
    refine Pure.of (acalls_of_vc (drawOk W) Tryd.func16 rfl (by decide) (by decide) rfl ?_)
    (refine g0_ ?_; repeat ((first | refine n1_ fun b_ => ?_ | refine n2_ fun b_ => ?_); refine g0_ ?_))
    rename_i bn
    refine (hb 39 [.bref bn 0]).use ?_
    (refine g0_ ?_; repeat ((first | refine n1_ fun b_ => ?_ | refine n2_ fun b_ => ?_); refine g0_ ?_))
    exact .refl _
theorem shiftDell_ok (hT : Tabs W) (s : Scr) (hok : s.ok) (n : Int) : Pure Tryd.prog W 17 [encScr s, .int .i64 n] (.tup [encScr (moveE s (delS2 s n)).1, .int .i64 (moveE s (delS2 s n)).2]) := by
  by_cases h0 : checkS s = 0
  · obtain ⟨w, h, hr⟩ := right_of h0
    have hk := wkR_of ((check_iff s).1 h0) hok hr.fit
    have hk2 := delW_right n hk
    have hxy : 0 ≤ s.x ∧ s.x < s.g.w ∧ 0 ≤ s.y ∧ s.y < s.g.h := hk.R.xy
    have htb : 0 ≤ s.top ∧ s.bottom < s.g.h ∧ s.top ≤ s.bottom ∧ (s.top = s.bottom → s.g.h ≤ 1) := hk.R.tb
    have eh : s.g.h = h := hk.eh
    have hI := fun b bc bn tv bg => dell1_ok W b bc bn tv s s.gone hk.rows.ok hk.ew hk.eh ⟨hxy.2.2.1, by omega⟩ ⟨htb.1, by omega⟩ n bg (s.gone.map encRow) (rows_all _) (by rw [List.length_map]; exact hk.gone.len)
    rw [moveE, if_pos h0]
    refine Pure.of (acalls_of_vc (drawOk W) Tryd.func17 rfl (by decide) (by decide) rfl ?_)
    (refine g0_ ?_; repeat ((first | refine n1_ fun b_ => ?_ | refine n2_ fun b_ => ?_); refine g0_ ?_))
    rename_i bn
    refine ACalls.lendF (change_ok W hT s hok h0 43 [.bref bn 0] [numB bn n] (delS2 s n) (fun b bc bt bg => ?_)) (.swap _ _ _) ?_
    · have hx := hI b bc bn (.rsl bt 1 0 s.tabs.length) bg
      rw [hr.fit.flat, show h * w = s.g.cs.length by rw [hr.fit.len, Nat.mul_comm], List.length_map] at hx
      refine ACalls.lend hx (r := [⟨bt, .row 1 (s.tabs.map PV.bool) 0⟩]) ?_ ?_
      · refine List.Perm.cons _ (List.Perm.cons _ ?_)
        exact List.perm_append_comm (l₁ := [_]) (l₂ := [_, _])
      rintro x hxo
      refine ⟨rfl, bc, s.g.cs.length, bt, s.tabs.length, .rsl bg 1 0 s.gone.length, ⟨bc, .row 4 ((delW n (s, s.g.rows, s.gone)).2.1.flatten.map encCell) 0⟩ :: (gonSM bg (s.gone.map encRow) x ++ [numB bn n]) ++ [⟨bt, .row 1 (s.tabs.map PV.bool) 0⟩], ?_, .inr ⟨bg, 0, _, rfl⟩, ?_, ?_, ?_⟩
      · exact .refl _
      · exact frz_row (l := (delW n (s, s.g.rows, s.gone)).2.1.flatten.map encCell) (.here _ _ _) _ (by rw [List.length_map, hk2.rows.ok.flat, hr.fit.len, Nat.mul_comm])
      · have ht : (delS2 s n).tabs = s.tabs := delW_tabs n (s, s.g.rows, s.gone)
        rw [ht]
        exact frz_row (l := s.tabs.map PV.bool) (Look.app (.here _ _ _) _) _ (by simp)
      · have hgn : (delS2 s n).gone = s.gone := delW_gone n (s, s.g.rows, s.gone)
        rw [hgn]
        exact frz_sub (fun k hk => List.mem_append_left _ (List.mem_cons_of_mem _ (List.mem_append_left _ hk))) (hxo.frz (by rw [List.length_map]))
    · (refine g0_ ?_; repeat ((first | refine n1_ fun b_ => ?_ | refine n2_ fun b_ => ?_); refine g0_ ?_))
      exact .refl _
  · rw [moveE, if_neg h0]
    have hb := change_bad W hT s hok h0
    refine Pure.of (acalls_of_vc (drawOk W) Tryd.func17 rfl (by decide) (by decide) rfl ?_)
    (refine g0_ ?_; repeat ((first | refine n1_ fun b_ => ?_ | refine n2_ fun b_ => ?_); refine g0_ ?_))
    rename_i bn
    refine (hb 43 [.bref bn 0]).use ?_
    (refine g0_ ?_; repeat ((first | refine n1_ fun b_ => ?_ | refine n2_ fun b_ => ?_); refine g0_ ?_))
    exact .refl _
theorem inslOp_ok (s : Scr) (hs : s.ok) (n m : Int) : (moveE s (putX (insW n (s, s.g.rows, s.gone)))).1.ok ∧ ActOp W s (moveE s (putX (insW n (s, s.g.rows, s.gone)))).1 (moveE s (putX (insW n (s, s.g.rows, s.gone)))).2 [105, 110, 115, 101, 114, 116, 108, 105, 110, 101, 115] n m := by
  refine ⟨moveE_ok hs fun h0 => ?_, ?_⟩
  · obtain ⟨w, h, hr⟩ := right_of h0
    exact (insW_right n (wkR_of ((check_iff s).1 h0) hs hr.fit)).okS
  · refine deskOp_rol W (s1 := (insW n (s, s.g.rows, s.gone)).1) (L := (insW n (s, s.g.rows, s.gone)).2.1) (G := (insW n (s, s.g.rows, s.gone)).2.2) _ _ _ (insW_tabs _ _) (congrArg Grid.w (insW_g _ _)) (congrArg Grid.h (insW_g _ _)) (fun h0 w h hr => (insW_right n (wkR_of ((check_iff s).1 h0) hs hr.fit)).rows.ok) fun h0 w h hr d cv tv x hx => ?_
    rw [List.append_nil]
    have := actInsl_ok W d cv tv (s, s.g.rows, s.gone) x (wkR_of ((check_iff s).1 h0) hs hr.fit) hx n m
    exact this.mono fun v σ ⟨x', h1, h2, h3⟩ => ⟨x', h1, h2, by (show wkMem σ (rolX d cv tv x' _ ++ [])); rw [List.append_nil]; exact h3⟩
theorem dellOp_ok (s : Scr) (hs : s.ok) (n m : Int) : (moveE s (putX (delW n (s, s.g.rows, s.gone)))).1.ok ∧ ActOp W s (moveE s (putX (delW n (s, s.g.rows, s.gone)))).1 (moveE s (putX (delW n (s, s.g.rows, s.gone)))).2 [100, 101, 108, 101, 116, 101, 108, 105, 110, 101, 115] n m := by
  refine ⟨moveE_ok hs fun h0 => ?_, ?_⟩
  · obtain ⟨w, h, hr⟩ := right_of h0
    exact (delW_right n (wkR_of ((check_iff s).1 h0) hs hr.fit)).okS
  · refine deskOp_rol W (s1 := (delW n (s, s.g.rows, s.gone)).1) (L := (delW n (s, s.g.rows, s.gone)).2.1) (G := (delW n (s, s.g.rows, s.gone)).2.2) _ _ _ (delW_tabs _ _) (congrArg Grid.w (delW_g _ _)) (congrArg Grid.h (delW_g _ _)) (fun h0 w h hr => (delW_right n (wkR_of ((check_iff s).1 h0) hs hr.fit)).rows.ok) fun h0 w h hr d cv tv x hx => ?_
    rw [List.append_nil]
    have := actDell_ok W d cv tv (s, s.g.rows, s.gone) x (wkR_of ((check_iff s).1 h0) hs hr.fit) hx n m
    exact this.mono fun v σ ⟨x', h1, h2, h3⟩ => ⟨x', h1, h2, by (show wkMem σ (rolX d cv tv x' _ ++ [])); rw [List.append_nil]; exact h3⟩
theorem rupOp_ok (s : Scr) (hs : s.ok) (n m : Int) : (moveE s (putX (rupW n (s, s.g.rows, s.gone)))).1.ok ∧ ActOp W s (moveE s (putX (rupW n (s, s.g.rows, s.gone)))).1 (moveE s (putX (rupW n (s, s.g.rows, s.gone)))).2 [114, 111, 108, 108, 117, 112] n m := by
  refine ⟨moveE_ok hs fun h0 => ?_, ?_⟩
  · obtain ⟨w, h, hr⟩ := right_of h0
    exact (rupW_right n (wkR_of ((check_iff s).1 h0) hs hr.fit)).okS
  · refine deskOp_rol W (s1 := (rupW n (s, s.g.rows, s.gone)).1) (L := (rupW n (s, s.g.rows, s.gone)).2.1) (G := (rupW n (s, s.g.rows, s.gone)).2.2) _ _ _ (rfl) (congrArg Grid.w (rfl)) (congrArg Grid.h (rfl)) (fun h0 w h hr => (rupW_right n (wkR_of ((check_iff s).1 h0) hs hr.fit)).rows.ok) fun h0 w h hr d cv tv x hx => ?_
    rw [List.append_nil]
    have := actRollup_ok W d cv tv (s, s.g.rows, s.gone) x (wkR_of ((check_iff s).1 h0) hs hr.fit) hx n m
    exact this.mono fun v σ ⟨x', h1, h2, h3⟩ => ⟨x', h1, h2, by (show wkMem σ (rolX d cv tv x' _ ++ [])); rw [List.append_nil]; exact h3⟩
theorem rdownOp_ok (s : Scr) (hs : s.ok) (n m : Int) : (moveE s (putX (rdownW n (s, s.g.rows, s.gone)))).1.ok ∧ ActOp W s (moveE s (putX (rdownW n (s, s.g.rows, s.gone)))).1 (moveE s (putX (rdownW n (s, s.g.rows, s.gone)))).2 [114, 111, 108, 108, 100, 111, 119, 110] n m := by
  refine ⟨moveE_ok hs fun h0 => ?_, ?_⟩
  · obtain ⟨w, h, hr⟩ := right_of h0
    exact (rdownW_right n (wkR_of ((check_iff s).1 h0) hs hr.fit)).okS
  · refine deskOp_rol W (s1 := (rdownW n (s, s.g.rows, s.gone)).1) (L := (rdownW n (s, s.g.rows, s.gone)).2.1) (G := (rdownW n (s, s.g.rows, s.gone)).2.2) _ _ _ (rfl) (congrArg Grid.w (rfl)) (congrArg Grid.h (rfl)) (fun h0 w h hr => (rdownW_right n (wkR_of ((check_iff s).1 h0) hs hr.fit)).rows.ok) fun h0 w h hr d cv tv x hx => ?_
    rw [List.append_nil]
    have := actRolldown_ok W d cv tv (s, s.g.rows, s.gone) x (wkR_of ((check_iff s).1 h0) hs hr.fit) hx n m
    exact this.mono fun v σ ⟨x', h1, h2, h3⟩ => ⟨x', h1, h2, by (show wkMem σ (rolX d cv tv x' _ ++ [])); rw [List.append_nil]; exact h3⟩
theorem shiftLines_ok (hT : Tabs W) (s : Scr) (hs : s.ok) (n : Int) (hn : -9223372036854775808 ≤ n ∧ n ≤ 9223372036854775807) :
    Pure Tryd.prog W 5 [encScr s, .int .i64 n] (.bool true) := by
  have i1 := inslOp_ok W s hs n 0
  have i2 := dellOp_ok W s hs n 0
  have i3 := rupOp_ok W s hs n 0
  have i4 := rdownOp_ok W s hs n 0
  have h1 := one_ok W hT s hs 16 _ _ i1.1 [105, 110, 115, 101, 114, 116, 108, 105, 110, 101, 115] n (shiftInsl_ok W hT s hs n) i1.2
  have h2 := one_ok W hT s hs 17 _ _ i2.1 [100, 101, 108, 101, 116, 101, 108, 105, 110, 101, 115] n (shiftDell_ok W hT s hs n) i2.2
  have h3 := one_ok W hT s hs 18 _ _ i3.1 [114, 111, 108, 108, 117, 112] n (shiftUp_ok W hT s hs n) i3.2
  have h4 := one_ok W hT s hs 19 _ _ i4.1 [114, 111, 108, 108, 100, 111, 119, 110] n (shiftDown_ok W hT s hs n) i4.2
  clear i1 i2 i3 i4
  refine Pure.of (acalls_of_vc (drawOk W) Tryd.func5 rfl (by decide) (by decide) rfl ?_)
  (refine g0_ ?_; repeat ((first | refine n1_ fun b_ => ?_ | refine n2_ fun b_ => ?_); refine g0_ ?_))
  refine (h1).use ?_; (refine g0_ ?_; repeat ((first | refine n1_ fun b_ => ?_ | refine n2_ fun b_ => ?_); refine g0_ ?_))
  (refine g1_ ?_; repeat ((first | refine n1_ fun b_ => ?_ | refine n2_ fun b_ => ?_); refine g1_ ?_))
  refine (h2).use ?_; (refine g0_ ?_; repeat ((first | refine n1_ fun b_ => ?_ | refine n2_ fun b_ => ?_); refine g0_ ?_))
  (refine g1_ ?_; repeat ((first | refine n1_ fun b_ => ?_ | refine n2_ fun b_ => ?_); refine g1_ ?_))
  refine (h3).use ?_; (refine g0_ ?_; repeat ((first | refine n1_ fun b_ => ?_ | refine n2_ fun b_ => ?_); refine g0_ ?_))
  (refine g1_ ?_; repeat ((first | refine n1_ fun b_ => ?_ | refine n2_ fun b_ => ?_); refine g1_ ?_))
  refine (h4).use ?_; (refine g0_ ?_; repeat ((first | refine n1_ fun b_ => ?_ | refine n2_ fun b_ => ?_); refine g0_ ?_))
  exact .refl _
end Go.Eng.YtphoefglfbifdaaDoor
end
