/- Texts put together: Dsk23. -/
import Derived.Test.YtphoefglfbifdaaDoorMK14
import Derived.Test.YtphoefglfbifdaaDoorMW14
import Derived.Test.YtphoefglfbifdaaDoorMW6
import Derived.Test.YtphoefglfbifdaaDoorMK16
import Derived.Test.YtphoefglfbifdaaDoorMW9
/- A desk: one row down, or back (b_). -/
section
namespace Go.Eng.YtphoefglfbifdaaDoor
open Go Go.Eng Go.Proofs
variable (W : World)
set_option linter.unusedSimpArgs false
set_option maxRecDepth 100000
set_option linter.unusedVariables false
set_option maxHeartbeats 8000000
theorem actFeed_ok (d : Nat) (cv tv : PV) (p : Wk) (x : RolS) {w h : Nat} (hk : WkR p w h) (hx : DkOk x p.2.1 p.2.2) (n m : Int) :
    ACalls Tryd.prog W 48 (actArgs [102, 101, 101, 100] n m d) (rolX d cv tv x p.1)
      (Gives (fun _ : RolS => .tup []) (fun x' => rolX d cv tv x' (feedW p).1) (fun x' => DkOk x' (feedW p).2.1 (feedW p).2.2)) := by
  have hxy := hk.R.xy
  have htb := hk.R.tb
  have eh := hk.eh
  have h1 := dfeed_ok W d cv tv p x hk.ew hk.eh hk.rows.ok (by omega) (by omega) hk.gone.len hx
  refine acalls_of_vc (DM_ok (by decide)) Tryd.func48 rfl (by decide) (by decide) rfl ?_
  (refine g0_ ?_; repeat ((first | refine n1_ fun b_ => ?_ | refine n2_ fun b_ => ?_); refine g0_ ?_))
  refine ACalls.lendW h1 (ρ := []) (List.Perm.of_eq (List.append_nil _).symm) ?_
  rintro v σ1 ⟨x2, hx2, rfl, hm⟩
  refine ⟨_, (List.append_nil σ1).symm ▸ hm, ?_⟩
  (refine g0_ ?_; repeat ((first | refine n1_ fun b_ => ?_ | refine n2_ fun b_ => ?_); refine g0_ ?_))
  exact ⟨x2, hx2, rfl, wkMem.rfl'⟩
/-- One row back, or all down. -/
def backW (p : Wk) : Wk :=
  if p.1.y = p.1.top then ({ p.1 with late := false }, downR p.1.look.back p.1.g.w.toNat p.1.top.toNat p.1.bottom.toNat p.2.1, p.2.2)
  else ({ p.1 with y := max (p.1.y - 1) 0, late := false }, p.2)
theorem backW_right {p : Wk} {w h : Nat} (f : WkR p w h) : WkR (backW p) w h := by
  obtain ⟨hR, ho, hw, hh, hr, hg⟩ := f
  have hxy := hR.xy
  have htb := hR.tb
  have w2 := hr.ok.w2
  have h2 := hr.ok.h2
  have i1 : i64ok p.1.x := by unfold i64ok; omega
  unfold backW
  split
  · refine ⟨R_at hR p.1.x p.1.y (by omega) (by omega), ok_at ho p.1.x p.1.y false i1 ho.y, hw, hh, ?_, hg⟩
    rw [hw, Int.toNat_natCast]
    exact hr.down (by omega) (by omega) hR.look
  · have hy : 0 ≤ max (p.1.y - 1) 0 ∧ max (p.1.y - 1) 0 < p.1.g.h := by omega
    exact ⟨R_at hR p.1.x _ (by omega) hy, ok_at ho p.1.x _ false i1 (by unfold i64ok; omega), hw, hh, hr, hg⟩
theorem actBack_ok (d : Nat) (cv tv : PV) (p : Wk) (x : RolS) {w h : Nat} (hk : WkR p w h) (hx : DkOk x p.2.1 p.2.2) (n m : Int) :
    ACalls Tryd.prog W 48 (actArgs [98, 97, 99, 107] n m d) (rolX d cv tv x p.1)
      (Gives (fun _ : RolS => .tup []) (fun x' => rolX d cv tv x' (backW p).1) (fun x' => DkOk x' (backW p).2.1 (backW p).2.2)) := by
  have hxy := hk.R.xy
  have htb := hk.R.tb
  have ew := hk.ew
  have eh := hk.eh
  have f := hk.rows.ok
  have hh2 := f.h2
  have hgl := hk.gone.len
  clear hk
  obtain ⟨q, bo, l, g⟩ := x
  obtain ⟨s, L, G⟩ := p
  obtain ⟨hl, hgo⟩ := hx
  dsimp only at *
  subst hl
  obtain ⟨top, hto⟩ := Int.eq_ofNat_of_zero_le (show 0 ≤ s.top by omega)
  obtain ⟨bottom, hbo⟩ := Int.eq_ofNat_of_zero_le (show 0 ≤ s.bottom by omega)
  by_cases hyb : s.y = s.top
  · have e : backW (s, l.map Prod.snd, G) = ({ s with late := false }, downR s.look.back w top bottom (l.map Prod.snd), G) := by
      rw [backW]
      dsimp only
      rw [if_pos hyb, ew, hto, hbo, Int.toNat_natCast, Int.toNat_natCast, Int.toNat_natCast]
    rw [e]
    have hr := droll_ok W d cv tv { s with late := false } ew top bottom (by omega) (by omega) hbo (-1) true q bo l g G f hgo hgl _ rfl
    rw [if_neg (by omega), show min (-(-1 : Int)).toNat (bottom - top + 1) = 1 by omega, show ∀ (F : List (List Cell) → List (List Cell)) p, iterF F 1 p = F p from fun _ _ => rfl] at hr
    dsimp only at hr ⊢
    generalize downR s.look.back w top bottom (l.map Prod.snd) = F at *
    clear e
    obtain ⟨⟨gw, gh, cs⟩, X, Y, late, ⟨fo, ba, bi⟩, tp, bo_, modes, tabs, kx, ky, ⟨f2, b2, bi2⟩, km, last, title, gn⟩ := s
    dsimp only at *
    subst hto hbo hyb
    simp only [rolX, rolM, dskB_eq] at *
    refine acalls_of_vc (DM_ok (by decide)) Tryd.func48 rfl (by decide) (by decide) rfl ?_
    (refine g0_ ?_; repeat ((first | refine n1_ fun b_ => ?_ | refine n2_ fun b_ => ?_); refine g0_ ?_))
    refine headT_ (head_ ?_); (refine g0_ ?_; repeat ((first | refine n1_ fun b_ => ?_ | refine n2_ fun b_ => ?_); refine g0_ ?_))
    (refine g1_ ?_; repeat ((first | refine n1_ fun b_ => ?_ | refine n2_ fun b_ => ?_); refine g1_ ?_))
    refine ACalls.lendW hr (ρ := []) (List.Perm.of_eq (List.append_nil _).symm) ?_
    rintro v σ1 ⟨x', hx', rfl, hm⟩
    refine ⟨_, (List.append_nil σ1).symm ▸ hm, ?_⟩
    (refine g0_ ?_; repeat ((first | refine n1_ fun b_ => ?_ | refine n2_ fun b_ => ?_); refine g0_ ?_))
    exact ⟨x', hx', rfl, wkMem.rfl'⟩
  · have e : backW (s, l.map Prod.snd, G) = ({ s with y := max (s.y - 1) 0, late := false }, l.map Prod.snd, G) := by
      rw [backW]
      dsimp only
      rw [if_neg hyb]
    rw [e]
    clear e hgl
    obtain ⟨⟨gw, gh, cs⟩, X, Y, late, ⟨fo, ba, bi⟩, tp, bo_, modes, tabs, kx, ky, ⟨f2, b2, bi2⟩, km, last, title, gn⟩ := s
    dsimp only at *
    simp only [rolX, rolM, dskB_eq] at *
    refine acalls_of_vc (DM_ok (by decide)) Tryd.func48 rfl (by decide) (by decide) rfl ?_
    (refine g0_ ?_; repeat ((first | refine n1_ fun b_ => ?_ | refine n2_ fun b_ => ?_); refine g0_ ?_))
    refine headT_ (head_ ?_); (refine g0_ ?_; repeat ((first | refine n1_ fun b_ => ?_ | refine n2_ fun b_ => ?_); refine g0_ ?_))
    (refine g1_ ?_; repeat ((first | refine n1_ fun b_ => ?_ | refine n2_ fun b_ => ?_); refine g1_ ?_))
    simp only [ifmax]
    exact ⟨(q, bo, l, g), ⟨rfl, hgo⟩, (by first | rfl | trivial), by (first | exact ⟨_, .refl _⟩ | exact wkMem.rfl' | exact ⟨_, .swap _ _ _⟩ | (repeat (first | exact wkMem.nil _ | exact wkMem.rfl' | exact wk_snoc _ _ _ | exact wk_fam (by assumption) _ _ _ | exact wk_famN (by assumption) _ _ _ | (apply wkMem.cons; (case' hl => (repeat (first | exact .here _ _ _ | apply Look.there)))) | apply wkMem.skip)))⟩
theorem back1_ok (b bc : Nat) (tv gv : PV) (s : Scr) {w h : Nat} {L : List (List Cell)} (G : List (List Cell)) (f : RowsOk L w h) (hw : s.g.w = w) (hh : s.g.h = h) (top bottom : Nat) (htb : top ≤ bottom) (hbh : bottom < h) (hto : s.top = top) (hbo : s.bottom = bottom) (hy : 0 ≤ s.y ∧ s.y < h) :
    ACalls Tryd.prog W 50 [.bref b 0] [scrB b bc (h * w) tv gv s, ⟨bc, .row 4 (L.flatten.map encCell) 0⟩]
      (Gives (fun _ : Unit => .tup []) (fun x => [scrB b bc (h * w) tv gv (backW (s, L, G)).1, ⟨bc, .row 4 ((backW (s, L, G)).2.1.flatten.map encCell) 0⟩]) (fun _ => True)) := by
  have hh2 := f.h2
  by_cases hyb : s.y = s.top
  · have e : backW (s, L, G) = ({ s with late := false }, downR s.look.back w top bottom L, G) := by
      rw [backW]
      dsimp only
      rw [if_pos hyb, hw, hto, hbo, Int.toNat_natCast, Int.toNat_natCast, Int.toNat_natCast]
    rw [e]
    have hdn := down_ok W b bc tv gv { s with late := false } f hw hh top bottom 1 htb hbh hbo (by omega)
    rw [show min 1 (bottom - top + 1) = 1 by omega, show ∀ (F : List (List Cell) → List (List Cell)) p, iterF F 1 p = F p from fun _ _ => rfl] at hdn
    dsimp only at hdn ⊢
    generalize downR s.look.back w top bottom L = F at *
    clear e
    obtain ⟨⟨gw, gh, cs⟩, X, Y, late, ⟨fo, ba, bi⟩, tp, bo, modes, tabs, kx, ky, ⟨f2, b2, bi2⟩, km, last, title, gn⟩ := s
    dsimp only at *
    subst hto hbo hyb
    simp only [scrB_eq] at *
    refine acalls_of_vc (DL_ok (by decide)) Tryd.func50 rfl (by decide) (by decide) rfl ?_
    (refine g0_ ?_; repeat ((first | refine n1_ fun b_ => ?_ | refine n2_ fun b_ => ?_); refine g0_ ?_))
    refine headL_ (head_ ?_); (refine g0_ ?_; repeat ((first | refine n1_ fun b_ => ?_ | refine n2_ fun b_ => ?_); refine g0_ ?_))
    (refine g1_ ?_; repeat ((first | refine n1_ fun b_ => ?_ | refine n2_ fun b_ => ?_); refine g1_ ?_))
    refine ACalls.lend hdn (r := []) (.refl _) ?_
    rintro x -
    (refine g0_ ?_; repeat ((first | refine n1_ fun b_ => ?_ | refine n2_ fun b_ => ?_); refine g0_ ?_))
    exact ⟨(), trivial, rfl, by (first | exact ⟨_, .refl _⟩ | exact wkMem.rfl' | exact ⟨_, .swap _ _ _⟩ | (repeat (first | exact wkMem.nil _ | exact wkMem.rfl' | exact wk_snoc _ _ _ | exact wk_fam (by assumption) _ _ _ | exact wk_famN (by assumption) _ _ _ | (apply wkMem.cons; (case' hl => (repeat (first | exact .here _ _ _ | apply Look.there)))) | apply wkMem.skip)))⟩
  · have e : backW (s, L, G) = ({ s with y := max (s.y - 1) 0, late := false }, L, G) := by
      rw [backW]
      dsimp only
      rw [if_neg hyb]
    rw [e]
    clear e
    obtain ⟨⟨gw, gh, cs⟩, X, Y, late, ⟨fo, ba, bi⟩, tp, bo, modes, tabs, kx, ky, ⟨f2, b2, bi2⟩, km, last, title, gn⟩ := s
    dsimp only at *
    simp only [scrB_eq] at *
    by_cases h0 : Y = 0
    · rw [show max (Y - 1) 0 = Y by omega]
      refine acalls_of_vc (DL_ok (by decide)) Tryd.func50 rfl (by decide) (by decide) rfl ?_
      (refine g0_ ?_; repeat ((first | refine n1_ fun b_ => ?_ | refine n2_ fun b_ => ?_); refine g0_ ?_))
      refine headL_ (head_ ?_); (refine g0_ ?_; repeat ((first | refine n1_ fun b_ => ?_ | refine n2_ fun b_ => ?_); refine g0_ ?_))
      (refine g1_ ?_; repeat ((first | refine n1_ fun b_ => ?_ | refine n2_ fun b_ => ?_); refine g1_ ?_))
      exact ⟨(), trivial, rfl, by (first | exact ⟨_, .refl _⟩ | exact wkMem.rfl' | exact ⟨_, .swap _ _ _⟩ | (repeat (first | exact wkMem.nil _ | exact wkMem.rfl' | exact wk_snoc _ _ _ | exact wk_fam (by assumption) _ _ _ | exact wk_famN (by assumption) _ _ _ | (apply wkMem.cons; (case' hl => (repeat (first | exact .here _ _ _ | apply Look.there)))) | apply wkMem.skip)))⟩
    · rw [show max (Y - 1) 0 = Y - 1 by omega]
      refine acalls_of_vc (DL_ok (by decide)) Tryd.func50 rfl (by decide) (by decide) rfl ?_
      (refine g0_ ?_; repeat ((first | refine n1_ fun b_ => ?_ | refine n2_ fun b_ => ?_); refine g0_ ?_))
      refine headL_ (head_ ?_); (refine g0_ ?_; repeat ((first | refine n1_ fun b_ => ?_ | refine n2_ fun b_ => ?_); refine g0_ ?_))
      (refine g1_ ?_; repeat ((first | refine n1_ fun b_ => ?_ | refine n2_ fun b_ => ?_); refine g1_ ?_))
      exact ⟨(), trivial, rfl, by (first | exact ⟨_, .refl _⟩ | exact wkMem.rfl' | exact ⟨_, .swap _ _ _⟩ | (repeat (first | exact wkMem.nil _ | exact wkMem.rfl' | exact wk_snoc _ _ _ | exact wk_fam (by assumption) _ _ _ | exact wk_famN (by assumption) _ _ _ | (apply wkMem.cons; (case' hl => (repeat (first | exact .here _ _ _ | apply Look.there)))) | apply wkMem.skip)))⟩
def feedSw (s : Scr) : Scr := putW (feedW (s, s.g.rows, s.gone))
def backSw (s : Scr) : Scr := putW (backW (s, s.g.rows, s.gone))
theorem feedN_right {p : Wk} {w h : Nat} (f : WkR p w h) : WkR (feedW p) w h := by
  have hxy := f.R.xy
  have := f.ew
  exact feedW_right f p.1.x (by omega)
theorem feedW_tabs (p : Wk) : (feedW p).1.tabs = p.1.tabs := by
  unfold feedW; split <;> rfl
theorem backW_tabs (p : Wk) : (backW p).1.tabs = p.1.tabs := by
  unfold backW; split <;> rfl
theorem backW_g (p : Wk) : (backW p).1.g = p.1.g := by
  unfold backW; split <;> rfl
theorem backW_gone (p : Wk) : (backW p).2.2 = p.2.2 := by
  unfold backW; split <;> rfl
theorem shiftFeedP_ok (hT : Tabs W) (s : Scr) (hok : s.ok) : Pure Tryd.prog W 21 [encScr s] (.tup [encScr (moveE s (feedSw s)).1, .int .i64 (moveE s (feedSw s)).2]) := by
  by_cases h0 : checkS s = 0
  · obtain ⟨w, h, hr⟩ := right_of h0
    have hk := wkR_of ((check_iff s).1 h0) hok hr.fit
    have hk2 := feedN_right hk
    have hxy := hk.R.xy
    have htb := hk.R.tb
    have eh := hk.eh
    rw [moveE, if_pos h0]
    refine Pure.of (acalls_of_vc (drawOk W) Tryd.func21 rfl (by decide) (by decide) rfl ?_)
    (refine g0_ ?_; repeat ((first | refine n1_ fun b_ => ?_ | refine n2_ fun b_ => ?_); refine g0_ ?_))
    refine ACalls.lendF (change_rows W hT s hok h0 hr 49 [] [] (feedW (s, s.g.rows, s.gone)).1 (feedW (s, s.g.rows, s.gone)).2.1 (feedW (s, s.g.rows, s.gone)).2.2 (feedW_tabs _) hk2.rows.ok.flat ?_) (.refl _) ?_
    · intro b bc tv bg
      exact (feedW_ok W b bc tv (s, s.g.rows, s.gone) hk.ew hk.eh hk.rows.ok (by omega) (by omega) bg [] (.inl rfl) hk.gone.len).mono fun v σ ⟨x, hx, hv, hm⟩ => ⟨x, trivial, hv, hm⟩
    · (refine g0_ ?_; repeat ((first | refine n1_ fun b_ => ?_ | refine n2_ fun b_ => ?_); refine g0_ ?_))
      exact .refl _
  · have hb := change_bad W hT s hok h0
    rw [moveE, if_neg h0]
    refine Pure.of (acalls_of_vc (drawOk W) Tryd.func21 rfl (by decide) (by decide) rfl ?_)
    (refine g0_ ?_; repeat ((first | refine n1_ fun b_ => ?_ | refine n2_ fun b_ => ?_); refine g0_ ?_))
    refine (hb 49 []).use ?_
    (refine g0_ ?_; repeat ((first | refine n1_ fun b_ => ?_ | refine n2_ fun b_ => ?_); refine g0_ ?_))
    exact .refl _
theorem shiftBackP_ok (hT : Tabs W) (s : Scr) (hok : s.ok) : Pure Tryd.prog W 22 [encScr s] (.tup [encScr (moveE s (backSw s)).1, .int .i64 (moveE s (backSw s)).2]) := by
  by_cases h0 : checkS s = 0
  · obtain ⟨w, h, hr⟩ := right_of h0
    have hk := wkR_of ((check_iff s).1 h0) hok hr.fit
    have hk2 := backW_right hk
    have hxy := hk.R.xy
    have htb := hk.R.tb
    have eh : s.g.h = h := hk.eh
    obtain ⟨top, hto⟩ := Int.eq_ofNat_of_zero_le (show 0 ≤ s.top by exact htb.1)
    obtain ⟨bottom, hbo⟩ := Int.eq_ofNat_of_zero_le (show 0 ≤ s.bottom by have : s.top ≤ s.bottom := htb.2.2.1; omega)
    have hB := fun b bc tv gv => back1_ok W b bc tv gv s s.gone hk.rows.ok hk.ew hk.eh top bottom (by have : s.top ≤ s.bottom := htb.2.2.1; omega) (by have : s.bottom < s.g.h := htb.2.1; omega) hto hbo ⟨hxy.2.2.1, by have : s.y < s.g.h := hxy.2.2.2; omega⟩
    rw [moveE, if_pos h0]
    refine Pure.of (acalls_of_vc (drawOk W) Tryd.func22 rfl (by decide) (by decide) rfl ?_)
    (refine g0_ ?_; repeat ((first | refine n1_ fun b_ => ?_ | refine n2_ fun b_ => ?_); refine g0_ ?_))
    refine ACalls.lendF (change_rows W hT s hok h0 hr 50 [] [] (backW (s, s.g.rows, s.gone)).1 (backW (s, s.g.rows, s.gone)).2.1 (backW (s, s.g.rows, s.gone)).2.2 (backW_tabs _) hk2.rows.ok.flat ?_) (.refl _) ?_
    · intro b bc tv bg
      rw [backW_gone]
      refine ACalls.lend (hB b bc tv (.rsl bg 1 0 s.gone.length)) (r := [gonB bg [] s.gone]) (.refl _) ?_
      rintro _ -
      exact ⟨(bg, []), trivial, rfl, by (first | exact ⟨_, .refl _⟩ | exact wkMem.rfl' | exact ⟨_, .swap _ _ _⟩ | (repeat (first | exact wkMem.nil _ | exact wkMem.rfl' | exact wk_snoc _ _ _ | exact wk_fam (by assumption) _ _ _ | exact wk_famN (by assumption) _ _ _ | (apply wkMem.cons; (case' hl => (repeat (first | exact .here _ _ _ | apply Look.there)))) | apply wkMem.skip)))⟩
    · (refine g0_ ?_; repeat ((first | refine n1_ fun b_ => ?_ | refine n2_ fun b_ => ?_); refine g0_ ?_))
      exact .refl _
  · have hb := change_bad W hT s hok h0
    rw [moveE, if_neg h0]
    refine Pure.of (acalls_of_vc (drawOk W) Tryd.func22 rfl (by decide) (by decide) rfl ?_)
    (refine g0_ ?_; repeat ((first | refine n1_ fun b_ => ?_ | refine n2_ fun b_ => ?_); refine g0_ ?_))
    refine (hb 50 []).use ?_
    (refine g0_ ?_; repeat ((first | refine n1_ fun b_ => ?_ | refine n2_ fun b_ => ?_); refine g0_ ?_))
    exact .refl _
theorem feedOp_ok (s : Scr) (hs : s.ok) (n m : Int) : (moveE s (feedSw s)).1.ok ∧ ActOp W s (moveE s (feedSw s)).1 (moveE s (feedSw s)).2 [102, 101, 101, 100] n m := by
  refine ⟨moveE_ok hs fun h0 => ?_, ?_⟩
  · obtain ⟨w, h, hr⟩ := right_of h0
    exact (feedN_right (wkR_of ((check_iff s).1 h0) hs hr.fit)).okS
  · refine deskOp_rol W (s1 := (feedW (s, s.g.rows, s.gone)).1) (L := (feedW (s, s.g.rows, s.gone)).2.1) (G := (feedW (s, s.g.rows, s.gone)).2.2) _ _ _ (feedW_tabs _) (congrArg Grid.w (feedW_g _)) (congrArg Grid.h (feedW_g _)) (fun h0 w h hr => (feedN_right (wkR_of ((check_iff s).1 h0) hs hr.fit)).rows.ok) fun h0 w h hr d cv tv x hx => ?_
    rw [List.append_nil]
    have := actFeed_ok W d cv tv (s, s.g.rows, s.gone) x (wkR_of ((check_iff s).1 h0) hs hr.fit) hx n m
    exact this.mono fun v σ ⟨x', h1, h2, h3⟩ => ⟨x', h1, h2, by (show wkMem σ (rolX d cv tv x' _ ++ [])); rw [List.append_nil]; exact h3⟩
theorem backOp_ok (s : Scr) (hs : s.ok) (n m : Int) : (moveE s (backSw s)).1.ok ∧ ActOp W s (moveE s (backSw s)).1 (moveE s (backSw s)).2 [98, 97, 99, 107] n m := by
  refine ⟨moveE_ok hs fun h0 => ?_, ?_⟩
  · obtain ⟨w, h, hr⟩ := right_of h0
    exact (backW_right (wkR_of ((check_iff s).1 h0) hs hr.fit)).okS
  · refine deskOp_rol W (s1 := (backW (s, s.g.rows, s.gone)).1) (L := (backW (s, s.g.rows, s.gone)).2.1) (G := (backW (s, s.g.rows, s.gone)).2.2) _ _ _ (backW_tabs _) (congrArg Grid.w (backW_g _)) (congrArg Grid.h (backW_g _)) (fun h0 w h hr => (backW_right (wkR_of ((check_iff s).1 h0) hs hr.fit)).rows.ok) fun h0 w h hr d cv tv x hx => ?_
    rw [List.append_nil]
    have := actBack_ok W d cv tv (s, s.g.rows, s.gone) x (wkR_of ((check_iff s).1 h0) hs hr.fit) hx n m
    exact this.mono fun v σ ⟨x', h1, h2, h3⟩ => ⟨x', h1, h2, by (show wkMem σ (rolX d cv tv x' _ ++ [])); rw [List.append_nil]; exact h3⟩
theorem acts0F_ok (hT : Tabs W) (s : Scr) (hs : s.ok) (gc : Nat) (X : Scr) (E : Int) (hX : X.ok) (what : List UInt8) (n m : Int)
    (hcall : Pure Tryd.prog W gc [encScr s] (.tup [encScr X, .int .i64 E])) (h : ActOp W s X E what n m) :
    Pure Tryd.prog W 20 [encScr s, .fn gc [], .str what, .int .i64 n, .int .i64 m] (.bool true) :=
  Pure.of (ACalls.mono (acts_ok W hT s hs gc [] [] X E hX what n m (hcall.use (.refl _)) h) fun v σ' h => h ▸ .refl _)
theorem shiftFeed_ok (hT : Tabs W) (s : Scr) (hs : s.ok) : Pure Tryd.prog W 6 [encScr s] (.bool true) := by
  have i1 := feedOp_ok W s hs 0 0
  have i2 := backOp_ok W s hs 0 0
  have h1 := acts0F_ok W hT s hs 21 _ _ i1.1 [102, 101, 101, 100] 0 0 (shiftFeedP_ok W hT s hs) i1.2
  have h2 := acts0F_ok W hT s hs 22 _ _ i2.1 [98, 97, 99, 107] 0 0 (shiftBackP_ok W hT s hs) i2.2
  clear i1 i2
  refine Pure.of (acalls_of_vc (drawOk W) Tryd.func6 rfl (by decide) (by decide) rfl ?_)
  (refine g0_ ?_; repeat ((first | refine n1_ fun b_ => ?_ | refine n2_ fun b_ => ?_); refine g0_ ?_))
  refine (h1).use ?_; (refine g0_ ?_; repeat ((first | refine n1_ fun b_ => ?_ | refine n2_ fun b_ => ?_); refine g0_ ?_))
  (refine g1_ ?_; repeat ((first | refine n1_ fun b_ => ?_ | refine n2_ fun b_ => ?_); refine g1_ ?_))
  refine (h2).use ?_; (refine g0_ ?_; repeat ((first | refine n1_ fun b_ => ?_ | refine n2_ fun b_ => ?_); refine g0_ ?_))
  exact .refl _
end Go.Eng.YtphoefglfbifdaaDoor
end
