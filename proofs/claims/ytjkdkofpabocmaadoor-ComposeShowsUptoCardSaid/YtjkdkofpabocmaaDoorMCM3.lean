/- Texts put together: CmpD, CmpF, CmpE, CmpG, CmpH. -/
import Derived.Test.YtjkdkofpabocmaaDoorMCM2
import Derived.Test.YtjkdkofpabocmaaDoorMCM1
import Derived.Test.YtjkdkofpabocmaaDoorMW1
import Derived.Test.YtjkdkofpabocmaaDoorMG2
import Derived.Test.YtjkdkofpabocmaaDoorMT1
import Derived.Test.YtjkdkofpabocmaaDoorME9
/- Views: what they are (plain). -/
section
namespace Go.Eng.YtjkdkofpabocmaaDoor
open Go Go.Eng Go.Proofs
set_option linter.unusedSimpArgs false
set_option maxRecDepth 100000
set_option linter.unusedVariables false
/-- The cursor of a pane. -/
def curV (act : Int) (p : Plc) (s : Scr) (c : Int × Int) : Int × Int :=
  if (p.p = act ∧ bitop .and .i64 s.modes 8 = 0) ∧ (0 ≤ s.x ∧ s.x < p.w) ∧ 0 ≤ s.y ∧ s.y < p.h then (p.x + s.x, p.y + s.y) else c
/-- A pane's grid, in its place's size. -/
def partV (s : Scr) (p : Plc) : Grid := layG s.g (newG p.w p.h) 0 0
def scrZ : Scr := ⟨.none, 0, 0, false, ⟨0, 0, 0⟩, 0, 0, 0, [], 0, 0, ⟨0, 0, 0⟩, 0, 0, [], []⟩
def viewGo (panes : List Int) (scrs : List Scr) (act : Int) : List Plc → Grid → Int × Int → (Grid × Int × Int) × Int
  | [], g, c => ((g, c), 0)
  | p :: L, g, c =>
    if idxI panes p.p < 0 then ((.none, 0, 0), 6)
    else if checkG (scrs.getD (idxI panes p.p).toNat scrZ).g ≠ 0 then ((.none, 0, 0), checkG (scrs.getD (idxI panes p.p).toNat scrZ).g)
    else viewGo panes scrs act L (layG (partV (scrs.getD (idxI panes p.p).toNat scrZ) p) g p.x p.y) (curV act p (scrs.getD (idxI panes p.p).toNat scrZ) c)
/-- A state's row below. -/
def stateG (g : Grid) (w h : Int) (st : List UInt8) : Grid := writeG (fillG (layG g (newG w h) 0 0) ⟨0, h - 1, w, 1⟩ ⟨32, ⟨0, 0, 32⟩⟩) 0 (h - 1).toNat (cutL (cleanL st) w) ⟨0, 0, 32⟩
def oneT (t : Spl) (zoom : Bool) (act : Int) : Spl := if zoom then .mk 0 act 1 [] else t
def viewE (t : Spl) (zoom : Bool) (act : Int) (panes : List Int) (scrs : List Scr) (w h : Int) (st : List UInt8) : (Grid × Int × Int) × Int :=
  if panes.length ≠ scrs.length then ((.none, 0, 0), 2)
  else if w < 1 ∨ 120 < w ∨ h < 2 ∨ 60 < h then ((.none, 0, 0), 3)
  else if (frameE (oneT t zoom act) w (h - 1) act ⟨0, 0, 0⟩ ⟨3, 0, 0⟩).2 ≠ 0 then ((.none, 0, 0), (frameE (oneT t zoom act) w (h - 1) act ⟨0, 0, 0⟩ ⟨3, 0, 0⟩).2)
  else
    let r := viewGo panes scrs act (laysR (oneT t zoom act) w (h - 1)).1 (frameE (oneT t zoom act) w (h - 1) act ⟨0, 0, 0⟩ ⟨3, 0, 0⟩).1 (-1, -1)
    if r.2 ≠ 0 then r else ((stateG r.1.1 w h st, r.1.2), 0)
end Go.Eng.YtjkdkofpabocmaaDoor
end

/- Views: the panes stand in their places (plain). -/
section
namespace Go.Eng.YtjkdkofpabocmaaDoor
open Go Go.Eng Go.Proofs
set_option linter.unusedSimpArgs false
set_option maxRecDepth 100000
set_option linter.unusedVariables false
theorem check_ones {g : Grid} (hs : sizeB g.w g.h = true) (hl : (g.cs.length : Int) = g.w * g.h) (h : ∀ c ∈ g.cs, ¬ badCell c ∧ widthL c.r = 1) : checkG g = 0 := by
  rw [checkG, if_pos ⟨hs, hl⟩]
  refine (errFrom_iff _ _ _ _).2 fun k c hc => ?_
  obtain ⟨h1, h2⟩ := h c (List.mem_of_getElem? hc)
  refine ⟨h1, ?_⟩
  rintro (⟨h3, -⟩ | ⟨h3, -⟩)
  · rw [h3, w00] at h2; cases h2
  · omega
theorem borders_one : ∀ b ∈ borders, widthL b = 1 := by decide +kernel
theorem border_at (n : Int) (h : 0 ≤ n ∧ n ≤ 15) : widthL (borders.getD n.toNat 0) = 1 := by
  have hl : n.toNat < borders.length := by show n.toNat < 16; omega
  rw [List.getD_eq_getElem?_getD, List.getElem?_eq_getElem hl, Option.getD_some]
  exact borders_one _ (List.getElem_mem hl)
theorem blank_one : ¬ badCell blankC ∧ widthL blankC.r = 1 := by decide +kernel
theorem frameC_one (L : List Plc) (w h : Int) (r : Plc) {look lit : Style} (h1 : checkStyle look = true) (h2 : checkStyle lit = true) (x y : Int) : ¬ badCell (frameC L w h r look lit x y) ∧ widthL (frameC L w h r look lit x y).r = 1 := by
  unfold frameC
  split
  · have hb := border_at _ (wayN_bd L w h x y)
    refine ⟨?_, hb⟩
    rintro (⟨-, h3⟩ | h3)
    · rw [h3] at hb; cases hb
    · dsimp only at h3
      split at h3
      · rw [h2] at h3; cases h3
      · rw [h1] at h3; cases h3
  · exact blank_one
theorem frame_right (L : List Plc) {w h : Int} (r : Plc) {look lit : Style} (h1 : checkStyle look = true) (h2 : checkStyle lit = true) (hs : sizeB w h = true) : checkG (frameG L w h r look lit) = 0 := by
  have hs' := hs
  unfold sizeB at hs'
  simp only [Bool.and_eq_true, decide_eq_true_eq] at hs'
  exact check_ones hs (tab_of (by omega) (by omega) _).1 (tab_all (by omega) (by omega) fun x y _ _ _ _ => frameC_one L w h r h1 h2 x y)
theorem frame_fit (L : List Plc) {w h : Nat} (r : Plc) (look lit : Style) (h1 : 1 ≤ w) (h2 : w ≤ 120) (h3 : 1 ≤ h) (h4 : h ≤ 60) : (frameG L w h r look lit).fit w h :=
  ⟨rfl, rfl, h1, h2, h3, h4, by have := (tab_of (w := (w : Int)) (h := (h : Int)) (by omega) (by omega) (frameC L w h r look lit)).1; rw [frameG]; exact_mod_cast this⟩
theorem at_cell {g : Grid} {w h : Nat} (f : g.fit w h) {u v : Nat} (hu : u < w) (hv : v < h) : g.at_ u v = g.cs[v * w + u]? := by
  unfold Grid.at_
  rw [List.getElem?_eq_getElem (show v < g.rows.length by rw [f.rlen]; exact hv), Option.bind_some]
  exact at_row f (List.getElem?_eq_getElem _) hu
theorem frame_at (L : List Plc) {w h : Nat} (r : Plc) (look lit : Style) (h1 : 1 ≤ w) (h2 : w ≤ 120) (h3 : 1 ≤ h) (h4 : h ≤ 60) {u v : Nat} (hu : u < w) (hv : v < h) : (frameG L w h r look lit).at_ u v = some (frameC L w h r look lit u v) := by
  rw [at_cell (frame_fit L r look lit h1 h2 h3 h4) hu hv]
  have := (tab_of (w := (w : Int)) (h := (h : Int)) (by omega) (by omega) (frameC L w h r look lit)).2 u v (by omega) (by omega) (by omega) (by omega)
  rw [show ((v : Int) * w + u).toNat = v * w + u by rw [← Int.natCast_mul]; omega] at this
  exact this
def scrOf (panes : List Int) (scrs : List Scr) (p : Plc) : Scr := scrs.getD (idxI panes p.p).toNat scrZ
theorem partV_right {s : Scr} {p : Plc} (hg : checkG s.g = 0) {A B : Nat} (ha : p.w = A) (hb : p.h = B) (h1 : 1 ≤ A) (h2 : A ≤ 120) (h3 : 1 ≤ B) (h4 : B ≤ 60) : checkG (partV s p) = 0 ∧ (partV s p).fit A B := by
  have hs := sizeB_nat h1 h2 h3 h4
  unfold partV
  rw [ha, hb]
  refine ⟨lay_right hg (check_new hs) 0 0, ?_⟩
  have fn := new_fit h1 h2 h3 h4
  have hLr : ∀ q ∈ (newG (A : Int) B).rows.mapIdx (layQ s.g.rows s.g.w.toNat (newG (A : Int) B).w.toNat (clampL 0) (clampL 0)), q.length = A := fun q hq => by
    obtain ⟨k, hk⟩ := List.getElem?_of_mem hq
    rw [List.getElem?_mapIdx] at hk
    obtain ⟨row, hr, rfl⟩ := Option.map_eq_some_iff.1 hk
    rw [layQ_len]; exact fn.row row (List.mem_of_getElem? hr)
  exact (rows_with fn (by rw [List.length_mapIdx]; exact fn.rlen) hLr).1
/-- Laid one after the other. -/
theorem viewGo_shows (panes : List Int) (scrs : List Scr) (act : Int) {w k : Nat} {L : List Plc} (hw2 : w ≤ 120) (hk2 : k ≤ 60) (hf : Fills L 0 0 w k) : ∀ (R D : List Plc) (G : Grid) (c : Int × Int), D ++ R = L → checkG G = 0 → G.fit w k →
    (∀ q ∈ R, ∀ u v : Nat, q.has u v → G.at_ u v = some blankC) → (∀ q ∈ D, (0 ≤ idxI panes q.p ∧ checkG (scrOf panes scrs q).g = 0) ∧ ∀ u v : Nat, q.has u v → G.at_ u v = (partV (scrOf panes scrs q) q).at_ (u - q.x.toNat) (v - q.y.toNat)) →
    (viewGo panes scrs act R G c).2 = 0 → checkG (viewGo panes scrs act R G c).1.1 = 0 ∧ (viewGo panes scrs act R G c).1.1.fit w k ∧
      ∀ q ∈ L, (0 ≤ idxI panes q.p ∧ checkG (scrOf panes scrs q).g = 0) ∧ ∀ u v : Nat, q.has u v → (viewGo panes scrs act R G c).1.1.at_ u v = (partV (scrOf panes scrs q) q).at_ (u - q.x.toNat) (v - q.y.toNat)
  | [], D, G, c, hD, hg, f, hb, hd, _ => by
    rw [List.append_nil] at hD
    subst hD
    rw [viewGo]
    exact ⟨hg, f, hd⟩
  | p :: R, D, G, c, hD, hg, f, hb, hd, h0 => by
    rw [viewGo] at h0 ⊢
    by_cases e1 : idxI panes p.p < 0
    · rw [if_pos e1] at h0; exact absurd h0 (by decide)
    · rw [if_neg e1] at h0 ⊢
      by_cases e2 : checkG (scrs.getD (idxI panes p.p).toNat scrZ).g ≠ 0
      · rw [if_pos e2] at h0; exact absurd h0 e2
      · rw [if_neg e2] at h0 ⊢
        have hpm : p ∈ L := by rw [← hD]; simp
        obtain ⟨q1, q2, q3, q4, q5, q6⟩ := hf.within p hpm
        obtain ⟨X, hX⟩ := Int.eq_ofNat_of_zero_le q3
        obtain ⟨Y, hY⟩ := Int.eq_ofNat_of_zero_le q4
        obtain ⟨A, hA⟩ := Int.eq_ofNat_of_zero_le (show 0 ≤ p.w by omega)
        obtain ⟨B, hB⟩ := Int.eq_ofNat_of_zero_le (show 0 ≤ p.h by omega)
        have hs0 : checkG (scrOf panes scrs p).g = 0 := Decidable.not_not.1 e2
        obtain ⟨hp, fp⟩ := partV_right (p := p) hs0 hA hB (by omega) (by omega) (by omega) (by omega)
        obtain ⟨f1, hat⟩ := laid_at hp hg fp f (X := X) (Y := Y) (by omega) (by omega) (fun t u ht hu => by
          have := hb p (by simp) (X + u) (Y + t) (by unfold Plc.has; omega)
          exact this)
        have hr1 := lay_right hp hg (X : Int) (Y : Int)
        rw [← hX, ← hY] at hat hr1 f1
        have apart : ∀ q, (q ∈ D ∨ q ∈ R) → ∀ u v : Nat, q.has u v → ¬ (X ≤ u ∧ u < X + A ∧ Y ≤ v ∧ v < Y + B) := by
          intro q hq u v hqh hc
          have h1 := hf.one u v
          rw [← hD, show D ++ p :: R = D ++ ([p] ++ R) from rfl, cov_app, cov_app] at h1
          have h2 : 0 < covN [p] u v := cov_of (List.mem_singleton.2 rfl) (by unfold Plc.has; omega)
          rcases hq with hq | hq
          · have := cov_of hq hqh; omega
          · have := cov_of hq hqh; omega
        refine viewGo_shows panes scrs act hw2 hk2 hf R (D ++ [p]) _ _ (by rw [List.append_assoc]; exact hD) hr1 f1 (fun q hq u v hqh => ?_) (fun q hq => ?_) h0
        · refine (hat u v).trans ?_
          rw [if_neg (apart q (.inr hq) u v hqh)]
          exact hb q (List.mem_cons_of_mem _ hq) u v hqh
        · rcases List.mem_append.1 hq with hq | hq
          · refine ⟨(hd q hq).1, fun u v hqh => (hat u v).trans ?_⟩
            rw [if_neg (apart q (.inl hq) u v hqh)]
            exact (hd q hq).2 u v hqh
          · obtain rfl := List.mem_singleton.1 hq
            refine ⟨⟨by omega, hs0⟩, fun u v hqh => (hat u v).trans ?_⟩
            unfold Plc.has at hqh
            rw [if_pos (by omega), hX, hY]
            rfl
/-- A right grid holds fair numbers. -/
theorem right_ok {g : Grid} (h : checkG g = 0) : g.ok := by
  obtain ⟨w, k, f⟩ := fit_of h
  have hs := f.small
  have := f.ew
  have := f.eh
  have := f.w2
  have := f.h2
  refine ⟨by unfold i64ok; omega, by unfold i64ok; omega, fun c hc => ?_, by rw [f.len]; omega⟩
  have hb := good_cell h hc
  unfold badCell at hb
  have h1 : checkStyle c.s = true := by
    cases hq : checkStyle c.s with
    | true => rfl
    | false => exact absurd (.inr hq) hb
  unfold checkStyle at h1
  simp only [Bool.and_eq_true, decide_eq_true_eq] at h1
  refine ⟨?_, ?_⟩
  · unfold i32ok
    by_cases h0 : c.r = 0
    · omega
    · have hw : widthL c.r ≠ 0 := fun hw => hb (.inl ⟨h0, hw⟩)
      have := valid_of_width (r := c.r) (by omega)
      unfold validR at this
      omega
  · unfold Style.ok i64ok
    omega
end Go.Eng.YtjkdkofpabocmaaDoor
end

/- Views: compose.View, nothing zoomed (b_ x_ q_ e_). -/
section
namespace Go.Eng.YtjkdkofpabocmaaDoor
open Go Go.Eng Go.Proofs
variable (W : World)
set_option linter.unusedSimpArgs false
set_option maxRecDepth 100000
set_option linter.unusedVariables false
set_option maxHeartbeats 8000000
theorem idxI_bd (l : List Int) (x : Int) : -1 ≤ idxI l x ∧ idxI l x < l.length := by
  unfold idxI
  split
  · rename_i h
    have := List.idxOf_lt_length_of_mem h
    omega
  · omega
theorem lay_fit {g on : Grid} {w h : Nat} (f : on.fit w h) (x y : Int) : (layG g on x y).fit w h := by
  refine (rows_with f (by rw [List.length_mapIdx]; exact f.rlen) (fun q hq => ?_)).1
  obtain ⟨k, hk⟩ := List.getElem?_of_mem hq
  rw [List.getElem?_mapIdx] at hk
  obtain ⟨row, hr, rfl⟩ := Option.map_eq_some_iff.1 hk
  rw [layQ_len]; exact f.row row (List.mem_of_getElem? hr)
theorem frz_v0 {σ : Mem} {e : Int} : Frz σ (.tup [.agg [.int .i64 0, .int .i64 0, .nils], .int .i64 0, .int .i64 0, .int .i64 e]) (.tup [encGrid .none, .int .i64 0, .int .i64 0, .int .i64 e]) :=
  .tup _ _ rfl fun j hj => by
    match j, hj with
    | 0, _ => exact frz_none
    | 1, _ => exact .refl _
    | 2, _ => exact .refl _
    | 3, _ => exact .refl _
theorem view_ok (hT : Tabs W) (t : Spl) (ht : t.ok) (act : Int) (panes : List Int) (hpl : panes.length ≤ 140737488355328) (scrs : List Scr) (hsl : scrs.length ≤ 140737488355328) (hso : ∀ s ∈ scrs, s.ok) (w h : Int) (st : List UInt8) (hst : st.length ≤ 1048576) :
    Pure Tryd.prog W 9 [encSpl t, .bool false, .int .i64 act, .sl 1 (panes.map (PV.int .i64)), .sl 22 (scrs.map encScr), .int .i64 w, .int .i64 h, .str st]
      (.tup [encGrid (viewE t false act panes scrs w h st).1.1, .int .i64 (viewE t false act panes scrs w h st).1.2.1, .int .i64 (viewE t false act panes scrs w h st).1.2.2, .int .i64 (viewE t false act panes scrs w h st).2]) := by
  have hpm : (panes.map (PV.int .i64)).length = panes.length := List.length_map _
  have hsm : (scrs.map encScr).length = scrs.length := List.length_map _
  unfold viewE oneT
  rw [if_neg (show ¬ (false : Bool) = true by decide)]
  by_cases h1 : panes.length = scrs.length
  · rw [if_neg (by simpa using h1)]
    by_cases h2 : w < 1 ∨ 120 < w ∨ h < 2 ∨ 60 < h
    · rw [if_pos h2]
      obtain ⟨w', p, s, ks⟩ := t
      rw [encSpl_mk]
      refine Pure.of (acalls_of_vc (DL_ok (by decide)) Tryd.func9 rfl (by decide) (by decide) rfl ?_)
      (refine g0_ ?_; repeat ((first | refine n1_ fun b_ => ?_ | refine n2_ fun b_ => ?_ | refine Nat1.mk fun q_ hq_ => ?_ | refine em_ fun x_ hx_ => ?_ | refine Elem1.mk fun e_ he_ => ?_); refine g0_ ?_))
      (refine g1_ ?_; repeat ((first | refine n1_ fun b_ => ?_ | refine n2_ fun b_ => ?_ | refine Nat1.mk fun q_ hq_ => ?_ | refine em_ fun x_ hx_ => ?_ | refine Elem1.mk fun e_ he_ => ?_); refine g1_ ?_))
      exact frz_v0
    · rw [if_neg h2]
      have hfr := frame_ok W t ht w (h - 1) act ⟨0, 0, 0⟩ ⟨3, 0, 0⟩
      have hly := laysP_ok W t ht w (h - 1)
      have hz := @laysR_zero t w (h - 1)
      have hfz : (frameE t w (h - 1) act ⟨0, 0, 0⟩ ⟨3, 0, 0⟩).2 = 0 → (laysR t w (h - 1)).2 = 0 ∧ ∃ r, frameE t w (h - 1) act ⟨0, 0, 0⟩ ⟨3, 0, 0⟩ = (frameG (laysR t w (h - 1)).1 w (h - 1) r ⟨0, 0, 0⟩ ⟨3, 0, 0⟩, 0) := by
        intro h0
        unfold frameE at h0 ⊢
        by_cases g1 : (laysR t w (h - 1)).2 = 0
        · rw [if_neg (by simpa using g1)] at h0 ⊢
          rw [if_neg (by decide +kernel)] at h0 ⊢
          split at h0
          · exact absurd h0 (by decide)
          · rename_i g2
            rw [if_neg g2]
            exact ⟨g1, _, rfl⟩
        · rw [if_pos g1] at h0
          exact absurd h0 g1
      generalize frameE t w (h - 1) act ⟨0, 0, 0⟩ ⟨3, 0, 0⟩ = fe at *
      generalize laysR t w (h - 1) = lr at *
      obtain ⟨fg, fe⟩ := fe
      obtain ⟨L, le⟩ := lr
      dsimp only at *
      by_cases h3 : fe = 0
      · subst h3
        obtain ⟨g1, r, g2⟩ := hfz rfl
        subst g1
        obtain ⟨rfl, -⟩ := Prod.mk.inj g2
        obtain ⟨hf, hw1, hw2, hh1, hh2, hl⟩ := hz rfl
        rw [if_neg (show ¬ (0 : Int) ≠ 0 by decide)]
        obtain ⟨wn, rfl⟩ := Int.eq_ofNat_of_zero_le (show 0 ≤ w by omega)
        obtain ⟨kn, hk⟩ := Int.eq_ofNat_of_zero_le (show 0 ≤ h - 1 by omega)
        obtain rfl : h = ((kn + 1 : Nat) : Int) := by omega
        clear hfz
        rw [hk] at hf hh1 hh2
        have hG0 := frame_right L r (look := ⟨0, 0, 0⟩) (lit := ⟨3, 0, 0⟩) (by decide +kernel) (by decide +kernel) (sizeB_nat (w := wn) (h := kn) (by omega) (by omega) (by omega) (by omega))
        have hF0 := frame_fit L r ⟨0, 0, 0⟩ ⟨3, 0, 0⟩ (w := wn) (h := kn) (by omega) (by omega) (by omega) (by omega)
        rw [show frameG L wn (((kn + 1 : Nat) : Int) - 1) r ⟨0, 0, 0⟩ ⟨3, 0, 0⟩ = frameG L wn kn r ⟨0, 0, 0⟩ ⟨3, 0, 0⟩ from by rw [hk]] at hfr ⊢
        generalize frameG L wn kn r ⟨0, 0, 0⟩ ⟨3, 0, 0⟩ = G0 at *
        generalize hR : viewGo panes scrs act L G0 (-1, -1) = R at *
        have hix := fun x => indexI_ok W panes x (by omega)
        have hll : (plcsV L).length = L.length := List.length_map _
        obtain ⟨w', p, s, ks⟩ := t
        rw [encSpl_mk] at *
        refine Pure.of (acalls_of_vc (DL_ok (by decide)) Tryd.func9 rfl (by decide) (by decide) rfl ?_)
        (refine g0_ ?_; repeat ((first | refine n1_ fun b_ => ?_ | refine n2_ fun b_ => ?_ | refine Nat1.mk fun q_ hq_ => ?_ | refine em_ fun x_ hx_ => ?_ | refine Elem1.mk fun e_ he_ => ?_); refine g0_ ?_))
        (refine g1_ ?_; repeat ((first | refine n1_ fun b_ => ?_ | refine n2_ fun b_ => ?_ | refine Nat1.mk fun q_ hq_ => ?_ | refine em_ fun x_ hx_ => ?_ | refine Elem1.mk fun e_ he_ => ?_); refine g1_ ?_))
        refine (hfr).use ?_; (refine g0_ ?_; repeat ((first | refine n1_ fun b_ => ?_ | refine n2_ fun b_ => ?_ | refine Nat1.mk fun q_ hq_ => ?_ | refine em_ fun x_ hx_ => ?_ | refine Elem1.mk fun e_ he_ => ?_); refine g0_ ?_))
        (refine g1_ ?_; repeat ((first | refine n1_ fun b_ => ?_ | refine n2_ fun b_ => ?_ | refine Nat1.mk fun q_ hq_ => ?_ | refine em_ fun x_ hx_ => ?_ | refine Elem1.mk fun e_ he_ => ?_); refine g1_ ?_))
        refine (hly).use ?_; (refine g0_ ?_; repeat ((first | refine n1_ fun b_ => ?_ | refine n2_ fun b_ => ?_ | refine Nat1.mk fun q_ hq_ => ?_ | refine em_ fun x_ hx_ => ?_ | refine Elem1.mk fun e_ he_ => ?_); refine g0_ ?_))
        rename_i bs
        obtain ⟨bz, rfl⟩ : ∃ z, z = b_ := ⟨_, rfl⟩
        refine' loopI (α := Nat × Grid × Int × Int) (fun (i, G, cx, cy) => [(78, .int .i64 i), (17, .int .i64 cx), (18, .int .i64 cy)]) [(2, _), (3, _), (4, _), (5, _), (6, _), (7, _), (16, _), (76, _), (77, _)] (fun (i, G, cx, cy) => [⟨bz, .row 3 [encGrid G] 0⟩]) (fun (i, G, cx, cy) => i ≤ L.length ∧ viewGo panes scrs act (L.drop i) G (cx, cy) = R ∧ checkG G = 0 ∧ G.fit wn kn) (fun (i, G, cx, cy) => L.length - i) (0, G0, -1, -1) ?_ ?_
        · exact ⟨Nat.zero_le _, hR, hG0, hF0⟩
        rintro ⟨i, G, cx, cy⟩ ⟨hi, hv, hg, hfit⟩
        (refine g0_ ?_; repeat ((first | refine n1_ fun b_ => ?_ | refine n2_ fun b_ => ?_ | refine Nat1.mk fun q_ hq_ => ?_ | refine em_ fun x_ hx_ => ?_ | refine Elem1.mk fun e_ he_ => ?_); refine g0_ ?_))
        refine brec ?_; intro c_ hlt; (try rw [hlt]); cases c_ <;> replace hlt := nm_ hlt
        · have : i = L.length := by omega
          subst this
          rw [List.drop_length, viewGo] at hv
          subst hv
          have hsz := sizeB_nat (w := wn) (h := kn + 1) (by omega) (by omega) (by omega) (by omega)
          have hrs := resize_ok W G (right_ok hg) wn (kn + 1 : Nat)
          rw [resizeE, if_neg (by simpa using hg), if_pos hsz] at hrs
          have hg1 := lay_right hg (check_new hsz) 0 0
          obtain ⟨f1, -⟩ := grown_rows hg hfit (by omega)
          generalize hG1 : layG G (newG wn (kn + 1 : Nat)) 0 0 = G1 at *
          have hfl := fill_ok W G1 (right_ok hg1) ⟨0, ((kn + 1 : Nat) : Int) - 1, wn, 1⟩ ⟨32, ⟨0, 0, 32⟩⟩
          rw [fillE, if_neg (by simpa using hg1), if_neg (by decide +kernel)] at hfl
          have hg2 := fill_right hg1 ⟨0, ((kn + 1 : Nat) : Int) - 1, wn, 1⟩ (c := ⟨32, ⟨0, 0, 32⟩⟩) (by decide +kernel) (by decide +kernel)
          have hcl := clean_ok W hT st (by omega)
          have hlc := clean_len st
          have hcu := cut_ok W hT (cleanL st) wn (by omega)
          have hw2 : (fillG G1 ⟨0, ((kn + 1 : Nat) : Int) - 1, wn, 1⟩ ⟨32, ⟨0, 0, 32⟩⟩).w = wn := f1.ew
          have hh2 : (fillG G1 ⟨0, ((kn + 1 : Nat) : Int) - 1, wn, 1⟩ ⟨32, ⟨0, 0, 32⟩⟩).h = (kn + 1 : Nat) := f1.eh
          have hst : stateG G wn (kn + 1 : Nat) st = writeG (fillG G1 ⟨0, ((kn + 1 : Nat) : Int) - 1, wn, 1⟩ ⟨32, ⟨0, 0, 32⟩⟩) 0 (((kn + 1 : Nat) : Int) - 1).toNat (cutL (cleanL st) wn) ⟨0, 0, 32⟩ := by rw [stateG, hG1]
          generalize fillG G1 ⟨0, ((kn + 1 : Nat) : Int) - 1, wn, 1⟩ ⟨32, ⟨0, 0, 32⟩⟩ = G2 at *
          have hwr := gwrite_ok W hT G2 (right_ok hg2) 0 (((kn + 1 : Nat) : Int) - 1) (cutL (cleanL st) wn) ⟨0, 0, 32⟩
          rw [writeE, if_neg (by simpa using hg2), if_neg (by rw [hw2, hh2, show checkStyle ⟨0, 0, 32⟩ = true by decide +kernel]; simp; omega)] at hwr
          rw [if_neg (by simp), hst]
          (refine g0_ ?_; repeat ((first | refine n1_ fun b_ => ?_ | refine n2_ fun b_ => ?_ | refine Nat1.mk fun q_ hq_ => ?_ | refine em_ fun x_ hx_ => ?_ | refine Elem1.mk fun e_ he_ => ?_); refine g0_ ?_))
          refine (hrs).use ?_; (refine g0_ ?_; repeat ((first | refine n1_ fun b_ => ?_ | refine n2_ fun b_ => ?_ | refine Nat1.mk fun q_ hq_ => ?_ | refine em_ fun x_ hx_ => ?_ | refine Elem1.mk fun e_ he_ => ?_); refine g0_ ?_))
          (refine g0_ ?_; repeat ((first | refine n1_ fun b_ => ?_ | refine n2_ fun b_ => ?_ | refine Nat1.mk fun q_ hq_ => ?_ | refine em_ fun x_ hx_ => ?_ | refine Elem1.mk fun e_ he_ => ?_); refine g0_ ?_))
          refine (hfl).use ?_; (refine g0_ ?_; repeat ((first | refine n1_ fun b_ => ?_ | refine n2_ fun b_ => ?_ | refine Nat1.mk fun q_ hq_ => ?_ | refine em_ fun x_ hx_ => ?_ | refine Elem1.mk fun e_ he_ => ?_); refine g0_ ?_))
          (refine g0_ ?_; repeat ((first | refine n1_ fun b_ => ?_ | refine n2_ fun b_ => ?_ | refine Nat1.mk fun q_ hq_ => ?_ | refine em_ fun x_ hx_ => ?_ | refine Elem1.mk fun e_ he_ => ?_); refine g0_ ?_))
          refine Draws10.chain ⟨13, [.new, .new, .new, .new, .new, .new, .new, .new, .new, .new, .new, .new, .turn], [(12, [.keep, .keep, .keep, .keep, .keep, .keep, .keep, .keep, .keep, .keep, .keep, .again, .keep])], by decide +kernel, ?_⟩; (refine g0_ ?_; repeat ((first | refine n1_ fun b_ => ?_ | refine n2_ fun b_ => ?_ | refine Nat1.mk fun q_ hq_ => ?_ | refine em_ fun x_ hx_ => ?_ | refine Elem1.mk fun e_ he_ => ?_); refine g0_ ?_))
          refine ⟨_, (hcl).quiet, ?_⟩; (refine g0_ ?_; repeat ((first | refine n1_ fun b_ => ?_ | refine n2_ fun b_ => ?_ | refine Nat1.mk fun q_ hq_ => ?_ | refine em_ fun x_ hx_ => ?_ | refine Elem1.mk fun e_ he_ => ?_); refine g0_ ?_))
          refine ⟨_, (hcu).quiet, ?_⟩; (refine g0_ ?_; repeat ((first | refine n1_ fun b_ => ?_ | refine n2_ fun b_ => ?_ | refine Nat1.mk fun q_ hq_ => ?_ | refine em_ fun x_ hx_ => ?_ | refine Elem1.mk fun e_ he_ => ?_); refine g0_ ?_))
          refine ⟨_, (hwr).quiet, ?_⟩; (refine g0_ ?_; repeat ((first | refine n1_ fun b_ => ?_ | refine n2_ fun b_ => ?_ | refine Nat1.mk fun q_ hq_ => ?_ | refine em_ fun x_ hx_ => ?_ | refine Elem1.mk fun e_ he_ => ?_); refine g0_ ?_))
          exact .refl _
        · have hil : i < L.length := by omega
          have hxg := List.getElem?_eq_getElem hil
          have hxm := hf.within _ (List.getElem_mem hil)
          rw [List.drop_eq_getElem_cons hil, viewGo] at hv
          generalize L[i] = a at *
          have hx1 := hix a.p
          have hib := idxI_bd panes a.p
          by_cases hk0 : idxI panes a.p < 0
          · rw [if_pos hk0] at hv
            subst hv
            rw [if_pos (by decide)]
            (refine g0_ ?_; repeat ((first | refine n1_ fun b_ => ?_ | refine n2_ fun b_ => ?_ | refine Nat1.mk fun q_ hq_ => ?_ | refine em_ fun x_ hx_ => ?_ | refine Elem1.mk fun e_ he_ => ?_); refine g0_ ?_))
            refine (hx1).use ?_; (refine g0_ ?_; repeat ((first | refine n1_ fun b_ => ?_ | refine n2_ fun b_ => ?_ | refine Nat1.mk fun q_ hq_ => ?_ | refine em_ fun x_ hx_ => ?_ | refine Elem1.mk fun e_ he_ => ?_); refine g0_ ?_))
            (refine g1_ ?_; repeat ((first | refine n1_ fun b_ => ?_ | refine n2_ fun b_ => ?_ | refine Nat1.mk fun q_ hq_ => ?_ | refine em_ fun x_ hx_ => ?_ | refine Elem1.mk fun e_ he_ => ?_); refine g1_ ?_))
            exact frz_v0
          · rw [if_neg hk0] at hv
            obtain ⟨k, hk1⟩ := Int.eq_ofNat_of_zero_le (show 0 ≤ idxI panes a.p by omega)
            rw [hk1] at hv hx1 hib
            rw [Int.toNat_natCast] at hv
            have hks : k < scrs.length := by omega
            have hs := List.getElem?_eq_getElem hks
            generalize scrs[k] = s at *
            have hsok := hso s (List.mem_of_getElem? hs)
            rw [show scrs.getD k scrZ = s by rw [List.getD_eq_getElem?_getD, hs]; rfl] at hv
            have hrz := resize_ok W s.g hsok.g a.w a.h
            rw [resizeE] at hrz
            by_cases hc : checkG s.g = 0
            · rw [if_neg (by simpa using hc)] at hrz hv
              obtain ⟨X, hX⟩ := Int.eq_ofNat_of_zero_le (show 0 ≤ a.w by omega)
              obtain ⟨Y, hY⟩ := Int.eq_ofNat_of_zero_le (show 0 ≤ a.h by omega)
              obtain ⟨hp, fp⟩ := partV_right (p := a) hc hX hY (by omega) (by omega) (by omega) (by omega)
              rw [if_pos (by rw [hX, hY]; exact sizeB_nat (by omega) (by omega) (by omega) (by omega))] at hrz
              have hla := lay_ok W (partV s a) G (right_ok hp) (right_ok hg) a.x a.y
              rw [layE, if_neg (by simpa using hp), if_neg (by simpa using hg)] at hla
              have hgn := lay_right hp hg a.x a.y
              have hfn := lay_fit (g := partV s a) hfit a.x a.y
              unfold partV at hla hgn hfn hv
              generalize layG (layG s.g (newG a.w a.h) 0 0) G a.x a.y = G' at *
              generalize layG s.g (newG a.w a.h) 0 0 = P at *
              by_cases hcu : (a.p = act ∧ bitop .and .i64 s.modes 8 = 0) ∧ (0 ≤ s.x ∧ s.x < a.w) ∧ 0 ≤ s.y ∧ s.y < a.h
              · rw [curV, if_pos hcu] at hv
                (refine g0_ ?_; repeat ((first | refine n1_ fun b_ => ?_ | refine n2_ fun b_ => ?_ | refine Nat1.mk fun q_ hq_ => ?_ | refine em_ fun x_ hx_ => ?_ | refine Elem1.mk fun e_ he_ => ?_); refine g0_ ?_))
                refine (hx1).use ?_; (refine g0_ ?_; repeat ((first | refine n1_ fun b_ => ?_ | refine n2_ fun b_ => ?_ | refine Nat1.mk fun q_ hq_ => ?_ | refine em_ fun x_ hx_ => ?_ | refine Elem1.mk fun e_ he_ => ?_); refine g0_ ?_))
                (refine g1_ ?_; repeat ((first | refine n1_ fun b_ => ?_ | refine n2_ fun b_ => ?_ | refine Nat1.mk fun q_ hq_ => ?_ | refine em_ fun x_ hx_ => ?_ | refine Elem1.mk fun e_ he_ => ?_); refine g1_ ?_))
                refine Draws10.chain ⟨17, [.new, .new, .new, .new, .new, .new, .new, .new, .new, .new, .new, .new, .new, .new, .new, .turn, .skip], [(15, [.again, .again, .again, .again, .again, .again, .again, .again, .again, .again, .again, .again, .again, .again, .again, .keep, .turn]), (16, [.keep, .keep, .keep, .keep, .keep, .keep, .keep, .keep, .keep, .keep, .keep, .keep, .keep, .keep, .again, .keep, .keep])], by decide +kernel, ?_⟩; (refine g0_ ?_; repeat ((first | refine n1_ fun b_ => ?_ | refine n2_ fun b_ => ?_ | refine Nat1.mk fun q_ hq_ => ?_ | refine em_ fun x_ hx_ => ?_ | refine Elem1.mk fun e_ he_ => ?_); refine g0_ ?_))
                refine ⟨_, (hrz).quiet, ?_⟩; (refine g0_ ?_; repeat ((first | refine n1_ fun b_ => ?_ | refine n2_ fun b_ => ?_ | refine Nat1.mk fun q_ hq_ => ?_ | refine em_ fun x_ hx_ => ?_ | refine Elem1.mk fun e_ he_ => ?_); refine g0_ ?_))
                refine ⟨_, (hrz).quiet, ?_⟩; (refine g0_ ?_; repeat ((first | refine n1_ fun b_ => ?_ | refine n2_ fun b_ => ?_ | refine Nat1.mk fun q_ hq_ => ?_ | refine em_ fun x_ hx_ => ?_ | refine Elem1.mk fun e_ he_ => ?_); refine g0_ ?_))
                (refine g1_ ?_; repeat ((first | refine n1_ fun b_ => ?_ | refine n2_ fun b_ => ?_ | refine Nat1.mk fun q_ hq_ => ?_ | refine em_ fun x_ hx_ => ?_ | refine Elem1.mk fun e_ he_ => ?_); refine g1_ ?_))
                refine (hla).use ?_; (refine g0_ ?_; repeat ((first | refine n1_ fun b_ => ?_ | refine n2_ fun b_ => ?_ | refine Nat1.mk fun q_ hq_ => ?_ | refine em_ fun x_ hx_ => ?_ | refine Elem1.mk fun e_ he_ => ?_); refine g0_ ?_))
                (refine g1_ ?_; repeat ((first | refine n1_ fun b_ => ?_ | refine n2_ fun b_ => ?_ | refine Nat1.mk fun q_ hq_ => ?_ | refine em_ fun x_ hx_ => ?_ | refine Elem1.mk fun e_ he_ => ?_); refine g1_ ?_))
                refine headL_ (head_ ?_); (refine g0_ ?_; repeat ((first | refine n1_ fun b_ => ?_ | refine n2_ fun b_ => ?_ | refine Nat1.mk fun q_ hq_ => ?_ | refine em_ fun x_ hx_ => ?_ | refine Elem1.mk fun e_ he_ => ?_); refine g0_ ?_))
                refine nx_ (i + 1, G', a.x + s.x, a.y + s.y) ?_ ?_
                · exact ⟨hil, hv, hgn, hfn⟩
                · ((try dsimp only); (try simp only [List.length_drop, List.length_take, List.length_append, List.length_cons, List.length_nil, List.length_map] at *); omega)
              · rw [curV, if_neg hcu] at hv
                (refine g0_ ?_; repeat ((first | refine n1_ fun b_ => ?_ | refine n2_ fun b_ => ?_ | refine Nat1.mk fun q_ hq_ => ?_ | refine em_ fun x_ hx_ => ?_ | refine Elem1.mk fun e_ he_ => ?_); refine g0_ ?_))
                refine (hx1).use ?_; (refine g0_ ?_; repeat ((first | refine n1_ fun b_ => ?_ | refine n2_ fun b_ => ?_ | refine Nat1.mk fun q_ hq_ => ?_ | refine em_ fun x_ hx_ => ?_ | refine Elem1.mk fun e_ he_ => ?_); refine g0_ ?_))
                (refine g1_ ?_; repeat ((first | refine n1_ fun b_ => ?_ | refine n2_ fun b_ => ?_ | refine Nat1.mk fun q_ hq_ => ?_ | refine em_ fun x_ hx_ => ?_ | refine Elem1.mk fun e_ he_ => ?_); refine g1_ ?_))
                refine Draws10.chain ⟨17, [.new, .new, .new, .new, .new, .new, .new, .new, .new, .new, .new, .new, .new, .new, .new, .turn, .skip], [(15, [.again, .again, .again, .again, .again, .again, .again, .again, .again, .again, .again, .again, .again, .again, .again, .keep, .turn]), (16, [.keep, .keep, .keep, .keep, .keep, .keep, .keep, .keep, .keep, .keep, .keep, .keep, .keep, .keep, .again, .keep, .keep])], by decide +kernel, ?_⟩; (refine g0_ ?_; repeat ((first | refine n1_ fun b_ => ?_ | refine n2_ fun b_ => ?_ | refine Nat1.mk fun q_ hq_ => ?_ | refine em_ fun x_ hx_ => ?_ | refine Elem1.mk fun e_ he_ => ?_); refine g0_ ?_))
                refine ⟨_, (hrz).quiet, ?_⟩; (refine g0_ ?_; repeat ((first | refine n1_ fun b_ => ?_ | refine n2_ fun b_ => ?_ | refine Nat1.mk fun q_ hq_ => ?_ | refine em_ fun x_ hx_ => ?_ | refine Elem1.mk fun e_ he_ => ?_); refine g0_ ?_))
                refine ⟨_, (hrz).quiet, ?_⟩; (refine g0_ ?_; repeat ((first | refine n1_ fun b_ => ?_ | refine n2_ fun b_ => ?_ | refine Nat1.mk fun q_ hq_ => ?_ | refine em_ fun x_ hx_ => ?_ | refine Elem1.mk fun e_ he_ => ?_); refine g0_ ?_))
                (refine g1_ ?_; repeat ((first | refine n1_ fun b_ => ?_ | refine n2_ fun b_ => ?_ | refine Nat1.mk fun q_ hq_ => ?_ | refine em_ fun x_ hx_ => ?_ | refine Elem1.mk fun e_ he_ => ?_); refine g1_ ?_))
                refine (hla).use ?_; (refine g0_ ?_; repeat ((first | refine n1_ fun b_ => ?_ | refine n2_ fun b_ => ?_ | refine Nat1.mk fun q_ hq_ => ?_ | refine em_ fun x_ hx_ => ?_ | refine Elem1.mk fun e_ he_ => ?_); refine g0_ ?_))
                (refine g1_ ?_; repeat ((first | refine n1_ fun b_ => ?_ | refine n2_ fun b_ => ?_ | refine Nat1.mk fun q_ hq_ => ?_ | refine em_ fun x_ hx_ => ?_ | refine Elem1.mk fun e_ he_ => ?_); refine g1_ ?_))
                refine nx_ (i + 1, G', cx, cy) ?_ ?_
                · exact ⟨hil, hv, hgn, hfn⟩
                · ((try dsimp only); (try simp only [List.length_drop, List.length_take, List.length_append, List.length_cons, List.length_nil, List.length_map] at *); omega)
            · rw [if_pos (by simpa using hc)] at hrz hv
              subst hv
              rw [if_pos (by simpa using hc)]
              (refine g0_ ?_; repeat ((first | refine n1_ fun b_ => ?_ | refine n2_ fun b_ => ?_ | refine Nat1.mk fun q_ hq_ => ?_ | refine em_ fun x_ hx_ => ?_ | refine Elem1.mk fun e_ he_ => ?_); refine g0_ ?_))
              refine (hx1).use ?_; (refine g0_ ?_; repeat ((first | refine n1_ fun b_ => ?_ | refine n2_ fun b_ => ?_ | refine Nat1.mk fun q_ hq_ => ?_ | refine em_ fun x_ hx_ => ?_ | refine Elem1.mk fun e_ he_ => ?_); refine g0_ ?_))
              (refine g1_ ?_; repeat ((first | refine n1_ fun b_ => ?_ | refine n2_ fun b_ => ?_ | refine Nat1.mk fun q_ hq_ => ?_ | refine em_ fun x_ hx_ => ?_ | refine Elem1.mk fun e_ he_ => ?_); refine g1_ ?_))
              refine Draws10.chain ⟨17, [.new, .new, .new, .new, .new, .new, .new, .new, .new, .new, .new, .new, .new, .new, .new, .turn, .skip], [(15, [.again, .again, .again, .again, .again, .again, .again, .again, .again, .again, .again, .again, .again, .again, .again, .keep, .turn]), (16, [.keep, .keep, .keep, .keep, .keep, .keep, .keep, .keep, .keep, .keep, .keep, .keep, .keep, .keep, .again, .keep, .keep])], by decide +kernel, ?_⟩; (refine g0_ ?_; repeat ((first | refine n1_ fun b_ => ?_ | refine n2_ fun b_ => ?_ | refine Nat1.mk fun q_ hq_ => ?_ | refine em_ fun x_ hx_ => ?_ | refine Elem1.mk fun e_ he_ => ?_); refine g0_ ?_))
              refine ⟨_, (hrz).quiet, ?_⟩; (refine g0_ ?_; repeat ((first | refine n1_ fun b_ => ?_ | refine n2_ fun b_ => ?_ | refine Nat1.mk fun q_ hq_ => ?_ | refine em_ fun x_ hx_ => ?_ | refine Elem1.mk fun e_ he_ => ?_); refine g0_ ?_))
              refine ⟨_, (hrz).quiet, ?_⟩; (refine g0_ ?_; repeat ((first | refine n1_ fun b_ => ?_ | refine n2_ fun b_ => ?_ | refine Nat1.mk fun q_ hq_ => ?_ | refine em_ fun x_ hx_ => ?_ | refine Elem1.mk fun e_ he_ => ?_); refine g0_ ?_))
              (refine g1_ ?_; repeat ((first | refine n1_ fun b_ => ?_ | refine n2_ fun b_ => ?_ | refine Nat1.mk fun q_ hq_ => ?_ | refine em_ fun x_ hx_ => ?_ | refine Elem1.mk fun e_ he_ => ?_); refine g1_ ?_))
              exact frz_v0
      · rw [if_pos h3]
        obtain ⟨w', p, s, ks⟩ := t
        rw [encSpl_mk] at *
        refine Pure.of (acalls_of_vc (DL_ok (by decide)) Tryd.func9 rfl (by decide) (by decide) rfl ?_)
        (refine g0_ ?_; repeat ((first | refine n1_ fun b_ => ?_ | refine n2_ fun b_ => ?_ | refine Nat1.mk fun q_ hq_ => ?_ | refine em_ fun x_ hx_ => ?_ | refine Elem1.mk fun e_ he_ => ?_); refine g0_ ?_))
        (refine g1_ ?_; repeat ((first | refine n1_ fun b_ => ?_ | refine n2_ fun b_ => ?_ | refine Nat1.mk fun q_ hq_ => ?_ | refine em_ fun x_ hx_ => ?_ | refine Elem1.mk fun e_ he_ => ?_); refine g1_ ?_))
        refine (hfr).use ?_; (refine g0_ ?_; repeat ((first | refine n1_ fun b_ => ?_ | refine n2_ fun b_ => ?_ | refine Nat1.mk fun q_ hq_ => ?_ | refine em_ fun x_ hx_ => ?_ | refine Elem1.mk fun e_ he_ => ?_); refine g0_ ?_))
        (refine g1_ ?_; repeat ((first | refine n1_ fun b_ => ?_ | refine n2_ fun b_ => ?_ | refine Nat1.mk fun q_ hq_ => ?_ | refine em_ fun x_ hx_ => ?_ | refine Elem1.mk fun e_ he_ => ?_); refine g1_ ?_))
        exact frz_v0
  · rw [if_pos h1]
    obtain ⟨w', p, s, ks⟩ := t
    rw [encSpl_mk]
    refine Pure.of (acalls_of_vc (DL_ok (by decide)) Tryd.func9 rfl (by decide) (by decide) rfl ?_)
    (refine g0_ ?_; repeat ((first | refine n1_ fun b_ => ?_ | refine n2_ fun b_ => ?_ | refine Nat1.mk fun q_ hq_ => ?_ | refine em_ fun x_ hx_ => ?_ | refine Elem1.mk fun e_ he_ => ?_); refine g0_ ?_))
    (refine g1_ ?_; repeat ((first | refine n1_ fun b_ => ?_ | refine n2_ fun b_ => ?_ | refine Nat1.mk fun q_ hq_ => ?_ | refine em_ fun x_ hx_ => ?_ | refine Elem1.mk fun e_ he_ => ?_); refine g1_ ?_))
    exact frz_v0
end Go.Eng.YtjkdkofpabocmaaDoor
end

/- Views: what a view shows (plain). -/
section
namespace Go.Eng.YtjkdkofpabocmaaDoor
open Go Go.Eng Go.Proofs
set_option linter.unusedSimpArgs false
set_option maxRecDepth 100000
set_option linter.unusedVariables false
theorem view_shows {t : Spl} {act : Int} {panes : List Int} {scrs : List Scr} {w h : Int} {st : List UInt8} (he : (viewE t false act panes scrs w h st).2 = 0) :
    (laysR t w (h - 1)).2 = 0 ∧ panes.length = scrs.length ∧ checkG (viewE t false act panes scrs w h st).1.1 = 0 ∧ ∀ p ∈ (laysR t w (h - 1)).1, (0 ≤ idxI panes p.p ∧ checkG (scrOf panes scrs p).g = 0) ∧
      (resizeE (scrOf panes scrs p).g p.w p.h = (partV (scrOf panes scrs p) p, 0) ∧ checkG (partV (scrOf panes scrs p) p) = 0) ∧ partE (viewE t false act panes scrs w h st).1.1 ⟨p.x, p.y, p.w, p.h⟩ = (partV (scrOf panes scrs p) p, 0) := by
  have hz := @laysR_zero t w (h - 1)
  unfold viewE oneT at he ⊢
  rw [if_neg (show ¬ (false : Bool) = true by decide)] at he ⊢
  by_cases h1 : panes.length = scrs.length
  · rw [if_neg (by simpa using h1)] at he ⊢
    by_cases h2 : w < 1 ∨ 120 < w ∨ h < 2 ∨ 60 < h
    · rw [if_pos h2] at he; exact absurd he (by decide)
    · rw [if_neg h2] at he ⊢
      by_cases h3 : (frameE t w (h - 1) act ⟨0, 0, 0⟩ ⟨3, 0, 0⟩).2 = 0
      · rw [if_neg (by simpa using h3)] at he ⊢
        have hfz : (laysR t w (h - 1)).2 = 0 ∧ ∃ r, frameE t w (h - 1) act ⟨0, 0, 0⟩ ⟨3, 0, 0⟩ = (frameG (laysR t w (h - 1)).1 w (h - 1) r ⟨0, 0, 0⟩ ⟨3, 0, 0⟩, 0) := by
          unfold frameE at h3 ⊢
          by_cases g1 : (laysR t w (h - 1)).2 = 0
          · rw [if_neg (by simpa using g1)] at h3 ⊢
            rw [if_neg (by decide +kernel)] at h3 ⊢
            split at h3
            · exact absurd h3 (by decide)
            · rename_i g2
              rw [if_neg g2]
              exact ⟨g1, _, rfl⟩
          · rw [if_pos g1] at h3
            exact absurd h3 g1
        obtain ⟨g1, r, g2⟩ := hfz
        rw [g2] at he ⊢
        obtain ⟨hf, hw1, hw2, hh1, hh2, hl⟩ := hz g1
        generalize (laysR t w (h - 1)).1 = L at *
        obtain ⟨wn, rfl⟩ := Int.eq_ofNat_of_zero_le (show 0 ≤ w by omega)
        obtain ⟨kn, hk⟩ := Int.eq_ofNat_of_zero_le (show 0 ≤ h - 1 by omega)
        obtain rfl : h = ((kn + 1 : Nat) : Int) := by omega
        rw [hk] at hf hh1 hh2 he g1 ⊢
        have hG0 := frame_right L r (look := ⟨0, 0, 0⟩) (lit := ⟨3, 0, 0⟩) (by decide +kernel) (by decide +kernel) (sizeB_nat (w := wn) (h := kn) (by omega) (by omega) (by omega) (by omega))
        have hF0 := frame_fit L r ⟨0, 0, 0⟩ ⟨3, 0, 0⟩ (w := wn) (h := kn) (by omega) (by omega) (by omega) (by omega)
        have hB0 : ∀ q ∈ L, ∀ u v : Nat, q.has u v → (frameG L wn kn r ⟨0, 0, 0⟩ ⟨3, 0, 0⟩).at_ u v = some blankC := fun q hq u v hqh => by
          have hqw := hf.within q hq
          have hcv := cov_of hq hqh
          unfold Plc.has at hqh
          rw [frame_at L r _ _ (by omega) (by omega) (by omega) (by omega) (by omega) (by omega), frameC, if_neg (by omega)]
        generalize frameG L wn kn r ⟨0, 0, 0⟩ ⟨3, 0, 0⟩ = G0 at *
        have hvs := viewGo_shows panes scrs act (L := L) (w := wn) (k := kn) (by omega) (by omega) hf L [] G0 (-1, -1) rfl hG0 hF0 hB0 (fun q hq => by cases hq)
        dsimp only at he ⊢
        generalize viewGo panes scrs act L G0 (-1, -1) = R at *
        by_cases h4 : R.2 = 0
        · obtain ⟨v1, v2, v3⟩ := hvs h4
          rw [if_neg (by simpa using h4)]
          obtain ⟨⟨G, c⟩, e⟩ := R
          dsimp only at v1 v2 v3 ⊢
          obtain ⟨b1, S, b2⟩ := below_rows v1 v2 (by omega) ⟨32, ⟨0, 0, 32⟩⟩ (by decide +kernel) (by decide +kernel) (cutL (cleanL st) wn) ⟨0, 0, 32⟩
          have hsg : stateG G wn (kn + 1 : Nat) st = writeG (fillG (layG G (newG wn (kn + 1 : Nat)) 0 0) ⟨0, kn, wn, 1⟩ ⟨32, ⟨0, 0, 32⟩⟩) 0 kn (cutL (cleanL st) wn) ⟨0, 0, 32⟩ := by
            rw [stateG, hk, Int.toNat_natCast]
          have hsz := sizeB_nat (w := wn) (h := kn + 1) (by omega) (by omega) (by omega) (by omega)
          have hr1 := lay_right v1 (check_new hsz) 0 0
          have hr2 := fill_right hr1 ⟨0, kn, wn, 1⟩ (c := ⟨32, ⟨0, 0, 32⟩⟩) (by decide +kernel) (by decide +kernel)
          have hr3 := write_right hr2 0 kn (cutL (cleanL st) wn) (look := ⟨0, 0, 32⟩) (by decide +kernel) (fun row _ => writeRs_len _ _ _ _ _)
          rw [← hsg] at b1 b2 hr3
          generalize stateG G wn (kn + 1 : Nat) st = V at *
          refine ⟨g1, h1, hr3, fun p hp => ?_⟩
          obtain ⟨q1, q2, q3, q4, q5, q6⟩ := hf.within p hp
          obtain ⟨⟨i1, i2⟩, i3⟩ := v3 p hp
          obtain ⟨X, hX⟩ := Int.eq_ofNat_of_zero_le q3
          obtain ⟨Y, hY⟩ := Int.eq_ofNat_of_zero_le q4
          obtain ⟨A, hA⟩ := Int.eq_ofNat_of_zero_le (show 0 ≤ p.w by omega)
          obtain ⟨B, hB⟩ := Int.eq_ofNat_of_zero_le (show 0 ≤ p.h by omega)
          obtain ⟨hpr, fp⟩ := partV_right (p := p) i2 hA hB (by omega) (by omega) (by omega) (by omega)
          refine ⟨⟨i1, i2⟩, ⟨?_, hpr⟩, ?_⟩
          · rw [resizeE, if_neg (by simpa using i2), if_pos (by rw [hA, hB]; exact sizeB_nat (by omega) (by omega) (by omega) (by omega))]
            rfl
          · have hpi := part_is b1 hpr fp (X := X) (Y := Y) (by omega) (by omega) (fun u v hu hv => by
              have := i3 (X + u) (Y + v) (by unfold Plc.has; omega)
              rw [show X + u - p.x.toNat = u by omega, show Y + v - p.y.toNat = v by omega] at this
              rw [← this]
              unfold Grid.at_
              rw [b2, List.getElem?_append_left (by rw [v2.rlen]; omega)])
            have hin : inG V ⟨p.x, p.y, p.w, p.h⟩ := by
              unfold inG
              have := b1.ew
              have := b1.eh
              dsimp only
              omega
            rw [partE, if_neg (by simpa using hr3), if_pos hin, hX, hY, hA, hB]
            rw [show (partG V ⟨(X : Int), Y, A, B⟩) = _ from hpi]
        · rw [if_pos h4] at he
          exact absurd he h4
      · rw [if_pos h3] at he
        exact absurd he h3
  · rw [if_pos h1] at he
    exact absurd he (by decide)
end Go.Eng.YtjkdkofpabocmaaDoor
end

/- The law ComposeShows (b_ x_ q_ e_). -/
section
namespace Go.Eng.YtjkdkofpabocmaaDoor
open Go Go.Eng Go.Proofs
variable (W : World)
set_option linter.unusedSimpArgs false
set_option maxRecDepth 100000
set_option linter.unusedVariables false
set_option maxHeartbeats 8000000
def frT : Spl := .mk 1 0 1 [.mk 0 1 1 [], .mk 0 2 1 []]
def frB : Cell := ⟨9474, ⟨3, 0, 0⟩⟩
def frG : Grid := ⟨3, 2, [blankC, frB, blankC, blankC, frB, blankC]⟩
theorem frT_ok : frT.ok := by
  simp [frT, Spl.ok, Spls.ok, i64ok]
theorem frE : frameE frT 3 2 1 ⟨0, 0, 0⟩ ⟨3, 0, 0⟩ = (frG, 0) := by decide +kernel
theorem frLi : linesE frG = ([[32, 226, 148, 130], [32, 226, 148, 130]], 0) := by decide +kernel
theorem frV : encSpl frT = .agg [.int .i64 1, .int .i64 0, .int .i64 1, .sl 4 [.agg [.int .i64 0, .int .i64 1, .int .i64 1, .sl 4 []], .agg [.int .i64 0, .int .i64 2, .int .i64 1, .sl 4 []]]] := by
  simp only [frT, encSpl_mk, List.map_cons, List.map_nil]
theorem frz_leafN {σ : Mem} (p s : Int) : Frz σ (.agg [.int .i64 0, .int .i64 p, .int .i64 s, .nils]) (.agg [.int .i64 0, .int .i64 p, .int .i64 s, .sl 4 []]) :=
  .agg _ _ rfl fun j hj => by
    match j, hj with
    | 0, _ => exact .refl _
    | 1, _ => exact .refl _
    | 2, _ => exact .refl _
    | 3, _ => exact .nils 4
theorem framed_ok : Pure Tryd.prog W 10 [] (.bool true) := by
  have h1 := frame_ok W frT frT_ok 3 2 1 ⟨0, 0, 0⟩ ⟨3, 0, 0⟩
  rw [frE, frV] at h1
  have hc1 : frG.cs[1]? = some frB := rfl
  have hcl : (frG.cs.map encCell).length = 6 := rfl
  have h2 := lines_ok W frG (right_ok (by decide +kernel))
  rw [frLi] at h2
  dsimp only at h1 h2
  have h3 := equal_strs W [[32, 226, 148, 130], [32, 226, 148, 130]] [[32, 226, 148, 130], [32, 226, 148, 130]] (by decide)
  rw [decide_eq_true rfl] at h3
  refine Pure.of (acalls_of_vc (drawOk W) Tryd.func10 rfl (by decide) (by decide) rfl ?_)
  (refine g0_ ?_; repeat ((first | refine n1_ fun b_ => ?_ | refine n2_ fun b_ => ?_ | refine Nat1.mk fun q_ hq_ => ?_ | refine em_ fun x_ hx_ => ?_ | refine Elem1.mk fun e_ he_ => ?_); refine g0_ ?_))
  refine .inr ?_
  (refine g0_ ?_; repeat ((first | refine n1_ fun b_ => ?_ | refine n2_ fun b_ => ?_ | refine Nat1.mk fun q_ hq_ => ?_ | refine em_ fun x_ hx_ => ?_ | refine Elem1.mk fun e_ he_ => ?_); refine g0_ ?_))
  refine h1.giveUp (τ := [_]) (ρ := [_]) rfl (.refl _) (fun j hj => ?_) ?_
  · match j, hj with
    | 0, _ =>
      refine .agg _ _ rfl fun j hj => ?_
      match j, hj with
      | 0, _ => exact .refl _
      | 1, _ => exact .refl _
      | 2, _ => exact .refl _
      | 3, _ =>
        refine .rsl _ _ _ _ _ _ _ _ (.here _ _ _) (by decide) rfl fun j hj => ?_
        match j, hj with
        | 0, _ => exact frz_leafN _ _
        | 1, _ => exact frz_leafN _ _
    | 1, _ => exact .refl _
    | 2, _ => exact .refl _
    | 3, _ => exact .refl _
    | 4, _ => exact .refl _
    | 5, _ => exact .refl _
  (refine g0_ ?_; repeat ((first | refine n1_ fun b_ => ?_ | refine n2_ fun b_ => ?_ | refine Nat1.mk fun q_ hq_ => ?_ | refine em_ fun x_ hx_ => ?_ | refine Elem1.mk fun e_ he_ => ?_); refine g0_ ?_))
  refine (h2).use ?_; (refine g0_ ?_; repeat ((first | refine n1_ fun b_ => ?_ | refine n2_ fun b_ => ?_ | refine Nat1.mk fun q_ hq_ => ?_ | refine em_ fun x_ hx_ => ?_ | refine Elem1.mk fun e_ he_ => ?_); refine g0_ ?_))
  (refine g1_ ?_; repeat ((first | refine n1_ fun b_ => ?_ | refine n2_ fun b_ => ?_ | refine Nat1.mk fun q_ hq_ => ?_ | refine em_ fun x_ hx_ => ?_ | refine Elem1.mk fun e_ he_ => ?_); refine g1_ ?_))
  refine .inl ?_
  (refine g0_ ?_; repeat ((first | refine n1_ fun b_ => ?_ | refine n2_ fun b_ => ?_ | refine Nat1.mk fun q_ hq_ => ?_ | refine em_ fun x_ hx_ => ?_ | refine Elem1.mk fun e_ he_ => ?_); refine g0_ ?_))
  refine (h3).use ?_; (refine g0_ ?_; repeat ((first | refine n1_ fun b_ => ?_ | refine n2_ fun b_ => ?_ | refine Nat1.mk fun q_ hq_ => ?_ | refine em_ fun x_ hx_ => ?_ | refine Elem1.mk fun e_ he_ => ?_); refine g0_ ?_))
  exact .refl _
theorem composeShows_ok (hT : Tabs W) (t : Spl) (ht : t.ok) (act : Int) (_ : i64ok act) (panes : List Int) (_ : ∀ n ∈ panes, i64ok n) (hpl : panes.length ≤ 1048576) (scrs : List Scr) (hsl : scrs.length ≤ 140737488355328) (hso : ∀ s ∈ scrs, s.ok) (w : Int) (_ : i64ok w) (h : Int) (_ : i64ok h) (st : List UInt8) (hst : st.length ≤ 1048576) :
    Pure Tryd.prog W 3 [encSpl t, .int .i64 act, .sl 1 (panes.map (PV.int .i64)), .sl 22 (scrs.map encScr), .int .i64 w, .int .i64 h, .str st] (.bool true) := by
  have hfm := framed_ok W
  have hvw := view_ok W hT t ht act panes (by omega) scrs (by omega) hso w h st hst
  have hvs := @view_shows t act panes scrs w h st
  have hly := laysP_ok W t ht w (h - 1)
  have hz := @laysR_zero t w (h - 1)
  generalize viewE t false act panes scrs w h st = V at *
  generalize laysR t w (h - 1) = lr at *
  obtain ⟨⟨G, cx, cy⟩, e⟩ := V
  obtain ⟨L, le⟩ := lr
  obtain ⟨w', p, s, ks⟩ := t
  rw [encSpl_mk] at *
  dsimp only at *
  by_cases h0 : e = 0
  · subst h0
    obtain ⟨g1, g2, g3, g4⟩ := hvs rfl
    subst g1
    obtain ⟨hf, hw1, hw2, hh1, hh2, hl⟩ := hz rfl
    have hck := check_ok W G (right_ok g3)
    rw [g3] at hck
    have hll : (plcsV L).length = L.length := List.length_map _
    have hpm : (panes.map (PV.int .i64)).length = panes.length := List.length_map _
    have hsm : (scrs.map encScr).length = scrs.length := List.length_map _
    refine Pure.of (acalls_of_vc (DL_ok (by decide)) Tryd.func3 rfl (by decide) (by decide) rfl ?_)
    (refine g0_ ?_; repeat ((first | refine n1_ fun b_ => ?_ | refine n2_ fun b_ => ?_ | refine Nat1.mk fun q_ hq_ => ?_ | refine em_ fun x_ hx_ => ?_ | refine Elem1.mk fun e_ he_ => ?_); refine g0_ ?_))
    refine (hvw).use ?_; (refine g0_ ?_; repeat ((first | refine n1_ fun b_ => ?_ | refine n2_ fun b_ => ?_ | refine Nat1.mk fun q_ hq_ => ?_ | refine em_ fun x_ hx_ => ?_ | refine Elem1.mk fun e_ he_ => ?_); refine g0_ ?_))
    (refine g1_ ?_; repeat ((first | refine n1_ fun b_ => ?_ | refine n2_ fun b_ => ?_ | refine Nat1.mk fun q_ hq_ => ?_ | refine em_ fun x_ hx_ => ?_ | refine Elem1.mk fun e_ he_ => ?_); refine g1_ ?_))
    refine (hfm).use ?_; (refine g0_ ?_; repeat ((first | refine n1_ fun b_ => ?_ | refine n2_ fun b_ => ?_ | refine Nat1.mk fun q_ hq_ => ?_ | refine em_ fun x_ hx_ => ?_ | refine Elem1.mk fun e_ he_ => ?_); refine g0_ ?_))
    (refine g1_ ?_; repeat ((first | refine n1_ fun b_ => ?_ | refine n2_ fun b_ => ?_ | refine Nat1.mk fun q_ hq_ => ?_ | refine em_ fun x_ hx_ => ?_ | refine Elem1.mk fun e_ he_ => ?_); refine g1_ ?_))
    refine (hly).use ?_; (refine g0_ ?_; repeat ((first | refine n1_ fun b_ => ?_ | refine n2_ fun b_ => ?_ | refine Nat1.mk fun q_ hq_ => ?_ | refine em_ fun x_ hx_ => ?_ | refine Elem1.mk fun e_ he_ => ?_); refine g0_ ?_))
    (refine g1_ ?_; repeat ((first | refine n1_ fun b_ => ?_ | refine n2_ fun b_ => ?_ | refine Nat1.mk fun q_ hq_ => ?_ | refine em_ fun x_ hx_ => ?_ | refine Elem1.mk fun e_ he_ => ?_); refine g1_ ?_))
    refine (hck).use ?_; (refine g0_ ?_; repeat ((first | refine n1_ fun b_ => ?_ | refine n2_ fun b_ => ?_ | refine Nat1.mk fun q_ hq_ => ?_ | refine em_ fun x_ hx_ => ?_ | refine Elem1.mk fun e_ he_ => ?_); refine g0_ ?_))
    (refine g1_ ?_; repeat ((first | refine n1_ fun b_ => ?_ | refine n2_ fun b_ => ?_ | refine Nat1.mk fun q_ hq_ => ?_ | refine em_ fun x_ hx_ => ?_ | refine Elem1.mk fun e_ he_ => ?_); refine g1_ ?_))
    rename_i bt
    obtain ⟨bg, rfl⟩ : ∃ z, z = b_ := ⟨_, rfl⟩
    refine' loopI (α := Nat) (fun i => [(63, .int .i64 i)]) [(2, _), (3, _), (15, _), (61, _), (62, _)] (fun i => [⟨bg, .row 3 [encGrid G] 0⟩]) (fun i => i ≤ L.length) (fun i => L.length - i) 0 ?_ ?_
    · exact Nat.zero_le _
    rintro i hi
    (refine g0_ ?_; repeat ((first | refine n1_ fun b_ => ?_ | refine n2_ fun b_ => ?_ | refine Nat1.mk fun q_ hq_ => ?_ | refine em_ fun x_ hx_ => ?_ | refine Elem1.mk fun e_ he_ => ?_); refine g0_ ?_))
    refine brec ?_; intro c_ hlt; (try rw [hlt]); cases c_ <;> replace hlt := nm_ hlt
    · (refine g0_ ?_; repeat ((first | refine n1_ fun b_ => ?_ | refine n2_ fun b_ => ?_ | refine Nat1.mk fun q_ hq_ => ?_ | refine em_ fun x_ hx_ => ?_ | refine Elem1.mk fun e_ he_ => ?_); refine g0_ ?_))
      exact .refl _
    · have hil : i < L.length := by omega
      have hxg := List.getElem?_eq_getElem hil
      have hxm := hf.within _ (List.getElem_mem hil)
      obtain ⟨⟨i1, i2⟩, ⟨i3, i4⟩, i5⟩ := g4 _ (List.getElem_mem hil)
      generalize L[i] = a at *
      have hpa := part_ok W G (right_ok g3) ⟨a.x, a.y, a.w, a.h⟩ (by unfold Rect.ok i64ok; dsimp only; omega)
      rw [i5] at hpa
      have hx1 := indexI_ok W panes a.p (by omega)
      have hib := idxI_bd panes a.p
      have hsg : scrs[(idxI panes a.p).toNat]? = some (scrOf panes scrs a) := by
        rw [scrOf, List.getD_eq_getElem?_getD, List.getElem?_eq_getElem (by omega)]; rfl
      have hsok := hso _ (List.mem_of_getElem? hsg)
      obtain ⟨k, hk1⟩ := Int.eq_ofNat_of_zero_le i1
      rw [hk1] at hx1 hib
      rw [hk1, Int.toNat_natCast] at hsg
      have hrz := resize_ok W _ hsok.g a.w a.h
      rw [i3] at hrz
      have hsame := same_refl W _ (right_ok i4)
      generalize partV (scrOf panes scrs a) a = P at *
      generalize scrOf panes scrs a = s at *
      (refine g0_ ?_; repeat ((first | refine n1_ fun b_ => ?_ | refine n2_ fun b_ => ?_ | refine Nat1.mk fun q_ hq_ => ?_ | refine em_ fun x_ hx_ => ?_ | refine Elem1.mk fun e_ he_ => ?_); refine g0_ ?_))
      refine (hpa).use ?_; (refine g0_ ?_; repeat ((first | refine n1_ fun b_ => ?_ | refine n2_ fun b_ => ?_ | refine Nat1.mk fun q_ hq_ => ?_ | refine em_ fun x_ hx_ => ?_ | refine Elem1.mk fun e_ he_ => ?_); refine g0_ ?_))
      refine Draws10.chain ⟨20, [.new, .new, .new, .new, .new, .new, .new, .new, .new, .new, .new, .new, .new, .new, .new, .new, .new, .new, .turn, .skip], [(18, [.again, .again, .again, .again, .again, .again, .again, .again, .again, .again, .again, .again, .again, .again, .again, .again, .again, .again, .keep, .turn]), (19, [.keep, .keep, .keep, .keep, .keep, .keep, .keep, .keep, .keep, .keep, .keep, .keep, .keep, .keep, .keep, .keep, .keep, .again, .keep, .keep])], by decide +kernel, ?_⟩; (refine g0_ ?_; repeat ((first | refine n1_ fun b_ => ?_ | refine n2_ fun b_ => ?_ | refine Nat1.mk fun q_ hq_ => ?_ | refine em_ fun x_ hx_ => ?_ | refine Elem1.mk fun e_ he_ => ?_); refine g0_ ?_))
      refine ⟨_, (hx1).quiet, ?_⟩; (refine g0_ ?_; repeat ((first | refine n1_ fun b_ => ?_ | refine n2_ fun b_ => ?_ | refine Nat1.mk fun q_ hq_ => ?_ | refine em_ fun x_ hx_ => ?_ | refine Elem1.mk fun e_ he_ => ?_); refine g0_ ?_))
      refine ⟨_, (hrz).quiet, ?_⟩; (refine g0_ ?_; repeat ((first | refine n1_ fun b_ => ?_ | refine n2_ fun b_ => ?_ | refine Nat1.mk fun q_ hq_ => ?_ | refine em_ fun x_ hx_ => ?_ | refine Elem1.mk fun e_ he_ => ?_); refine g0_ ?_))
      refine ⟨_, (hx1).quiet, ?_⟩; (refine g0_ ?_; repeat ((first | refine n1_ fun b_ => ?_ | refine n2_ fun b_ => ?_ | refine Nat1.mk fun q_ hq_ => ?_ | refine em_ fun x_ hx_ => ?_ | refine Elem1.mk fun e_ he_ => ?_); refine g0_ ?_))
      refine ⟨_, (hrz).quiet, ?_⟩; (refine g0_ ?_; repeat ((first | refine n1_ fun b_ => ?_ | refine n2_ fun b_ => ?_ | refine Nat1.mk fun q_ hq_ => ?_ | refine em_ fun x_ hx_ => ?_ | refine Elem1.mk fun e_ he_ => ?_); refine g0_ ?_))
      (refine g1_ ?_; repeat ((first | refine n1_ fun b_ => ?_ | refine n2_ fun b_ => ?_ | refine Nat1.mk fun q_ hq_ => ?_ | refine em_ fun x_ hx_ => ?_ | refine Elem1.mk fun e_ he_ => ?_); refine g1_ ?_))
      refine (hsame).use ?_; (refine g0_ ?_; repeat ((first | refine n1_ fun b_ => ?_ | refine n2_ fun b_ => ?_ | refine Nat1.mk fun q_ hq_ => ?_ | refine em_ fun x_ hx_ => ?_ | refine Elem1.mk fun e_ he_ => ?_); refine g0_ ?_))
      (refine g1_ ?_; repeat ((first | refine n1_ fun b_ => ?_ | refine n2_ fun b_ => ?_ | refine Nat1.mk fun q_ hq_ => ?_ | refine em_ fun x_ hx_ => ?_ | refine Elem1.mk fun e_ he_ => ?_); refine g1_ ?_))
      refine nx_ (i + 1) ?_ ?_
      · exact hil
      · ((try dsimp only); (try simp only [List.length_drop, List.length_take, List.length_append, List.length_cons, List.length_nil, List.length_map] at *); omega)
  · refine Pure.of (acalls_of_vc (DL_ok (by decide)) Tryd.func3 rfl (by decide) (by decide) rfl ?_)
    (refine g0_ ?_; repeat ((first | refine n1_ fun b_ => ?_ | refine n2_ fun b_ => ?_ | refine Nat1.mk fun q_ hq_ => ?_ | refine em_ fun x_ hx_ => ?_ | refine Elem1.mk fun e_ he_ => ?_); refine g0_ ?_))
    refine (hvw).use ?_; (refine g0_ ?_; repeat ((first | refine n1_ fun b_ => ?_ | refine n2_ fun b_ => ?_ | refine Nat1.mk fun q_ hq_ => ?_ | refine em_ fun x_ hx_ => ?_ | refine Elem1.mk fun e_ he_ => ?_); refine g0_ ?_))
    (refine g1_ ?_; repeat ((first | refine n1_ fun b_ => ?_ | refine n2_ fun b_ => ?_ | refine Nat1.mk fun q_ hq_ => ?_ | refine em_ fun x_ hx_ => ?_ | refine Elem1.mk fun e_ he_ => ?_); refine g1_ ?_))
    refine (hfm).use ?_; (refine g0_ ?_; repeat ((first | refine n1_ fun b_ => ?_ | refine n2_ fun b_ => ?_ | refine Nat1.mk fun q_ hq_ => ?_ | refine em_ fun x_ hx_ => ?_ | refine Elem1.mk fun e_ he_ => ?_); refine g0_ ?_))
    (refine g1_ ?_; repeat ((first | refine n1_ fun b_ => ?_ | refine n2_ fun b_ => ?_ | refine Nat1.mk fun q_ hq_ => ?_ | refine em_ fun x_ hx_ => ?_ | refine Elem1.mk fun e_ he_ => ?_); refine g1_ ?_))
    refine (hfm).use ?_; (refine g0_ ?_; repeat ((first | refine n1_ fun b_ => ?_ | refine n2_ fun b_ => ?_ | refine Nat1.mk fun q_ hq_ => ?_ | refine em_ fun x_ hx_ => ?_ | refine Elem1.mk fun e_ he_ => ?_); refine g0_ ?_))
    exact .refl _
end Go.Eng.YtjkdkofpabocmaaDoor
end
