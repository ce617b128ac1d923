/- Texts put together: CmpL, CmpR, CmpS. -/
import Derived.Test.YtjkdkofpabocmaaDoorMSK
import Derived.Test.YtjkdkofpabocmaaDoorMG3
import Derived.Test.YtjkdkofpabocmaaDoorMG5
/- Frames: tables of cells (plain). -/
section
namespace Go.Eng.YtjkdkofpabocmaaDoor
open Go Go.Eng Go.Proofs
set_option linter.unusedSimpArgs false
set_option maxRecDepth 100000
set_option linter.unusedVariables false
variable {α : Type}
/-- What stands at each column and row. -/
def Tab (w h : Int) (l : List α) (f : Int → Int → α) : Prop :=
  (l.length : Int) = w * h ∧ ∀ x y, 0 ≤ x → x < w → 0 ≤ y → y < h → l[(y * w + x).toNat]? = some (f x y)
theorem tab_bd {w h x y : Int} (hx : 0 ≤ x) (hx2 : x < w) (hy : 0 ≤ y) (hy2 : y < h) : 0 ≤ y * w ∧ y * w + x < w * h ∧ y * w + w ≤ w * h := by
  have h1 : 0 ≤ y * w := Int.mul_nonneg hy (by omega)
  have h2 : y * w ≤ (h - 1) * w := Int.mul_le_mul_of_nonneg_right (by omega) (by omega)
  rw [Int.sub_mul, Int.one_mul, Int.mul_comm h w] at h2
  omega
theorem tab_eq {w x y a b : Int} (hx : 0 ≤ x) (hx2 : x < w) (ha : 0 ≤ a) (ha2 : a < w) (h : y * w + x = b * w + a) : x = a ∧ y = b := by
  have h1 : (x + y * w) / w = x / w + y := Int.add_mul_ediv_right _ _ (by omega)
  have h2 : (a + b * w) / w = a / w + b := Int.add_mul_ediv_right _ _ (by omega)
  rw [Int.ediv_eq_zero_of_lt hx hx2] at h1
  rw [Int.ediv_eq_zero_of_lt ha ha2] at h2
  rw [Int.add_comm x, h, Int.add_comm (b * w)] at h1
  have hyb : y = b := by omega
  subst hyb
  exact ⟨by omega, rfl⟩
theorem tab_rep {w h : Int} (hw : 0 ≤ w) (hh : 0 ≤ h) (q : Nat) (hq : w * h = q) (c : α) : Tab w h (List.replicate q c) fun _ _ => c := by
  refine ⟨by rw [List.length_replicate, hq], fun x y h1 h2 h3 h4 => ?_⟩
  have := tab_bd h1 h2 h3 h4
  rw [List.getElem?_replicate, if_pos (by omega)]
theorem tab_set {w h : Int} {l : List α} {f : Int → Int → α} (hc : Tab w h l f) {x y : Int} (hx : 0 ≤ x) (hx2 : x < w) (hy : 0 ≤ y) (hy2 : y < h) (q : Nat) (hq : y * w + x = q) (v : α) : Tab w h (l.set q v) fun a b => if a = x ∧ b = y then v else f a b := by
  refine ⟨by rw [List.length_set]; exact hc.1, fun a b h1 h2 h3 h4 => ?_⟩
  have g1 := tab_bd hx hx2 hy hy2
  have g2 := tab_bd h1 h2 h3 h4
  have g3 := hc.2 a b h1 h2 h3 h4
  have g4 := hc.1
  rw [List.getElem?_set]
  by_cases hh : a = x ∧ b = y
  · obtain ⟨rfl, rfl⟩ := hh
    rw [if_pos (by omega), if_pos (by omega)]; simp
  · rw [if_neg, g3]
    · simp [hh]
    intro e
    apply hh
    exact tab_eq h1 h2 hx hx2 (by omega)
theorem tab_congr {w h : Int} {l : List α} {f g : Int → Int → α} (hc : Tab w h l f) (e : ∀ x y, 0 ≤ x → x < w → 0 ≤ y → y < h → f x y = g x y) : Tab w h l g :=
  ⟨hc.1, fun x y h1 h2 h3 h4 => by rw [hc.2 x y h1 h2 h3 h4, e x y h1 h2 h3 h4]⟩
/-- The table of a function. -/
def tabL (w h : Int) (f : Int → Int → α) : List α := (List.range (w * h).toNat).map fun (k : Nat) => f ((k : Int) % w) ((k : Int) / w)
theorem tab_at {w h : Int} {k : Nat} (hw : 0 < w) (hk : (k : Int) < w * h) : 0 ≤ (k : Int) % w ∧ (k : Int) % w < w ∧ 0 ≤ (k : Int) / w ∧ (k : Int) / w < h ∧ (k : Int) / w * w + (k : Int) % w = k := by
  refine ⟨Int.emod_nonneg _ (by omega), Int.emod_lt_of_pos _ hw, Int.ediv_nonneg (by omega) (by omega), ?_, ?_⟩
  · refine Int.ediv_lt_of_lt_mul hw ?_
    rw [Int.mul_comm]
    exact hk
  · have := Int.mul_ediv_add_emod (k : Int) w
    rw [Int.mul_comm] at this
    exact this
theorem tab_is {w h : Int} {l : List α} {f : Int → Int → α} (hc : Tab w h l f) (hw : 0 < w) : l = tabL w h f := by
  have hl := hc.1
  refine List.ext_getElem? fun k => ?_
  unfold tabL
  rw [List.getElem?_map]
  by_cases hk : k < l.length
  · obtain ⟨h1, h2, h3, h4, h5⟩ := tab_at (w := w) (h := h) (k := k) hw (by omega)
    have := hc.2 _ _ h1 h2 h3 h4
    rw [h5, Int.toNat_natCast] at this
    rw [this, List.getElem?_range (by omega)]
    rfl
  · rw [List.getElem?_eq_none (by omega), List.getElem?_eq_none (by rw [List.length_range]; omega)]
    rfl
theorem tab_of {w h : Int} (hw : 0 < w) (hh : 0 ≤ h) (f : Int → Int → α) : Tab w h (tabL w h f) f := by
  have h0 : 0 ≤ w * h := Int.mul_nonneg (by omega) hh
  refine ⟨by unfold tabL; rw [List.length_map, List.length_range]; omega, fun x y h1 h2 h3 h4 => ?_⟩
  have hb := tab_bd h1 h2 h3 h4
  obtain ⟨g1, g2, g3, g4, g5⟩ := tab_at (w := w) (h := h) (k := (y * w + x).toNat) hw (by omega)
  unfold tabL
  rw [List.getElem?_map, List.getElem?_range (by omega)]
  obtain ⟨e1, e2⟩ := tab_eq (w := w) g1 g2 h1 h2 (y := ((y * w + x).toNat : Int) / w) (b := y) (by omega)
  rw [Option.map_some, e1, e2]
theorem tab_all {w h : Int} (hw : 0 < w) (hh : 0 ≤ h) {f : Int → Int → α} {p : α → Prop} (hp : ∀ x y, 0 ≤ x → x < w → 0 ≤ y → y < h → p (f x y)) : ∀ c ∈ tabL w h f, p c := by
  intro c hc
  obtain ⟨k, hk, rfl⟩ := List.mem_map.1 hc
  have h0 : 0 ≤ w * h := Int.mul_nonneg (by omega) hh
  obtain ⟨h1, h2, h3, h4, h5⟩ := tab_at (w := w) (h := h) (k := k) hw (by have := List.mem_range.1 hk; omega)
  exact hp _ _ h1 h2 h3 h4
/-- In which ways a border's cell goes on. -/
def openB (L : List Plc) (w h x y : Int) : Bool := decide (0 ≤ x ∧ x < w ∧ 0 ≤ y ∧ y < h ∧ covN L x y = 0)
def bitB (b : Bool) (k : Int) : Int := if b then k else 0
def wayN (L : List Plc) (w h x y : Int) : Int := bitB (openB L w h x (y - 1)) 1 + bitB (openB L w h x (y + 1)) 2 + bitB (openB L w h (x - 1) y) 4 + bitB (openB L w h (x + 1) y) 8
theorem wayN_bd (L : List Plc) (w h x y : Int) : 0 ≤ wayN L w h x y ∧ wayN L w h x y ≤ 15 := by
  unfold wayN bitB
  (repeat' split) <;> omega
def borders : List Int := [32, 9474, 9474, 9474, 9472, 9496, 9488, 9508, 9472, 9492, 9484, 9500, 9472, 9524, 9516, 9532]
def besideB (r : Plc) (x y : Int) : Bool := decide (r.x - 1 ≤ x ∧ x ≤ r.x + r.w ∧ r.y - 1 ≤ y ∧ y ≤ r.y + r.h)
def frameC (L : List Plc) (w h : Int) (r : Plc) (look lit : Style) (x y : Int) : Cell :=
  if covN L x y = 0 then ⟨borders.getD (wayN L w h x y).toNat 0, if besideB r x y then lit else look⟩ else blankC
def frameG (L : List Plc) (w h : Int) (r : Plc) (look lit : Style) : Grid := ⟨w, h, tabL w h (frameC L w h r look lit)⟩
end Go.Eng.YtjkdkofpabocmaaDoor
end

/- Views: a row below a grid (plain). -/
section
namespace Go.Eng.YtjkdkofpabocmaaDoor
open Go Go.Eng Go.Proofs
set_option linter.unusedSimpArgs false
set_option maxRecDepth 100000
set_option linter.unusedVariables false
theorem new_rows (w h : Nat) : (newG w h).rows = List.replicate h (List.replicate w blankC) := by
  have h1 : ((List.replicate h (List.replicate w blankC))).flatten = List.replicate (w * h) blankC := by
    rw [List.flatten_replicate_replicate, Nat.mul_comm]
  have h2 := flat_rowsOf w (List.replicate h (List.replicate w blankC)) (fun r hr => by rw [(List.mem_replicate.1 hr).2, List.length_replicate])
  rw [h1, List.length_replicate] at h2
  unfold newG Grid.rows
  dsimp only
  rw [show ((w : Int) * h).toNat = w * h from by rw [← Int.natCast_mul]; rfl, Int.toNat_natCast, Int.toNat_natCast]
  exact h2
theorem new_fit {w h : Nat} (h1 : 1 ≤ w) (h2 : w ≤ 120) (h3 : 1 ≤ h) (h4 : h ≤ 60) : (newG w h).fit w h := by
  refine ⟨rfl, rfl, h1, h2, h3, h4, ?_⟩
  unfold newG
  dsimp only
  rw [List.length_replicate, ← Int.natCast_mul]; rfl
theorem sizeB_nat {w h : Nat} (h1 : 1 ≤ w) (h2 : w ≤ 120) (h3 : 1 ≤ h) (h4 : h ≤ 60) : sizeB w h = true := by
  unfold sizeB
  simp only [Bool.and_eq_true, decide_eq_true_eq]
  omega
/-- A part laid where nothing is cut: the rows. -/
theorem laid_rows {g on : Grid} {gw gh w h : Nat} (fg : g.fit gw gh) (f : on.fit w h) {X Y : Nat} (hX : X + gw ≤ w) (hY : Y + gh ≤ h)
    (hm : ∀ j row a, j < gh → on.rows[Y + j]? = some row → g.rows[j]? = some a → goodI (row.take X ++ a ++ row.drop (X + gw))) :
    (layG g on X Y).fit w h ∧ ∀ v : Nat, (layG g on X Y).rows[v]? = (on.rows[v]?).map fun row => if Y ≤ v ∧ v < Y + gh then row.take X ++ g.rows.getD (v - Y) [] ++ row.drop (X + gw) else row := by
  have hw2 := f.w2
  have hh2 := f.h2
  have hgw := fg.w1
  have hLl : (on.rows.mapIdx (layQ g.rows g.w.toNat on.w.toNat (clampL X) (clampL Y))).length = h := by rw [List.length_mapIdx]; exact f.rlen
  have hLr : ∀ q ∈ on.rows.mapIdx (layQ g.rows g.w.toNat on.w.toNat (clampL X) (clampL Y)), q.length = w := fun q hq => by
    obtain ⟨k, hk⟩ := List.getElem?_of_mem hq
    rw [List.getElem?_mapIdx] at hk
    obtain ⟨row, hr, rfl⟩ := Option.map_eq_some_iff.1 hk
    rw [layQ_len]; exact f.row row (List.mem_of_getElem? hr)
  obtain ⟨f1, h1⟩ := rows_with f hLl hLr
  refine ⟨f1, fun v => ?_⟩
  show ((on.withRows _).rows)[v]? = _
  rw [h1, List.getElem?_mapIdx, clamp_small X (by omega), clamp_small Y (by omega), fg.ew, f.ew]
  cases hv : on.rows[v]? with
  | none => rfl
  | some row =>
    rw [Option.map_some, Option.map_some, Option.some.injEq]
    have hrl := f.row row (List.mem_of_getElem? hv)
    unfold layQ
    by_cases hc : Y ≤ v ∧ v < Y + gh
    · obtain ⟨a, ha⟩ : ∃ a, g.rows[v - Y]? = some a := ⟨_, List.getElem?_eq_getElem (by rw [fg.rlen]; omega)⟩
      have hal := fg.row a (List.mem_of_getElem? ha)
      rw [if_pos hc, if_pos (by rw [fg.rlen]; unfold inB meets; simp; omega), show ((v : Int) - (Y : Int)).toNat = v - Y by omega, List.getD_eq_getElem?_getD, ha, Option.getD_some]
      rw [lay_row_mid (by omega), hal]
      exact mendL_same (hm (v - Y) row a (by omega) (by rw [show Y + (v - Y) = v by omega]; exact hv) ha)
    · rw [if_neg hc, if_neg (by rw [fg.rlen]; unfold inB; simp; omega)]
/-- A grid with one row more, which is blank. -/
theorem grown_rows {g : Grid} {w k : Nat} (hg : checkG g = 0) (f : g.fit w k) (hk : k + 1 ≤ 60) : (layG g (newG w (k + 1 : Nat)) 0 0).fit w (k + 1) ∧ (layG g (newG w (k + 1 : Nat)) 0 0).rows = g.rows ++ [List.replicate w blankC] := by
  have fn := new_fit (w := w) (h := k + 1) f.w1 f.w2 (by omega) hk
  have hnr := new_rows w (k + 1)
  obtain ⟨f1, h1⟩ := laid_rows (g := g) (on := newG w (k + 1 : Nat)) f fn (X := 0) (Y := 0) (by omega) (by omega) (fun j row a hj hr ha => by
    rw [hnr] at hr
    have := (List.mem_replicate.1 (List.mem_of_getElem? hr)).2
    subst this
    rw [List.take_zero, List.nil_append, List.drop_of_length_le (by rw [List.length_replicate]; omega), List.append_nil]
    exact rows_good f hg (List.mem_of_getElem? ha))
  refine ⟨f1, List.ext_getElem? fun v => ?_⟩
  have h2 := h1 v
  refine Eq.trans h2 ?_
  rw [hnr]
  by_cases h3 : v < k
  · rw [List.getElem?_replicate, if_pos (by omega), Option.map_some, if_pos (by omega), List.getElem?_append_left (by rw [f.rlen]; exact h3), List.take_zero, List.nil_append, List.drop_of_length_le (by rw [List.length_replicate]; omega), List.append_nil, Nat.sub_zero, List.getD_eq_getElem?_getD, List.getElem?_eq_getElem (by rw [f.rlen]; exact h3)]
    rfl
  · by_cases h4 : v = k
    · subst h4
      rw [List.getElem?_replicate, if_pos (by omega), Option.map_some, if_neg (by omega), List.getElem?_append_right (by rw [f.rlen]; omega), f.rlen, Nat.sub_self]
      rfl
    · rw [List.getElem?_replicate, if_neg (by omega), List.getElem?_eq_none (by rw [List.length_append, f.rlen]; simp; omega)]
      rfl
theorem rep_good (n : Nat) {c : Cell} (hb : ¬ badCell c) (h1 : widthL c.r = 1) : goodI (List.replicate n c) := by
  have h0 : c.r ≠ 0 := by rintro h0; rw [h0, w00] at h1; cases h1
  induction n with
  | zero => exact .nil
  | succ n ih => rw [List.replicate_succ]; exact goodI.cons hb h0 (by omega) ih
/-- A text in a row of its own below. -/
theorem below_rows {g : Grid} {w k : Nat} (hg : checkG g = 0) (f : g.fit w k) (hk : k + 1 ≤ 60) (c : Cell) (hc : ¬ badCell c) (hc1 : widthL c.r = 1) (s : List UInt8) (look : Style) :
    (writeG (fillG (layG g (newG w (k + 1 : Nat)) 0 0) ⟨0, k, w, 1⟩ c) 0 k s look).fit w (k + 1) ∧ ∃ R, (writeG (fillG (layG g (newG w (k + 1 : Nat)) 0 0) ⟨0, k, w, 1⟩ c) 0 k s look).rows = g.rows ++ [R] := by
  have hw2 := f.w2
  obtain ⟨f1, h1⟩ := grown_rows hg f hk
  generalize hG : layG g (newG w (k + 1 : Nat)) 0 0 = G at *
  have hrg := rep_good w hc hc1
  have ex1 : clampL (w : Int) = w := clamp_small w (by omega)
  have ex2 : clampL (k : Int) = k := clamp_small k (by omega)
  have ex0 : clampL 0 = 0 := by decide
  have exo : clampL 1 = 1 := by decide
  have fr : ∀ row : List Cell, row.length = w → fillRow c 0 w row = List.replicate w c := fun row hl => by
    refine List.ext_getElem? fun i => ?_
    rw [fillRow, List.getElem?_mapIdx, List.getElem?_replicate]
    by_cases hi : i < w
    · rw [if_pos hi, List.getElem?_eq_getElem (by omega), Option.map_some, fillP, if_pos (by unfold inB; simp; omega)]
    · rw [if_neg hi, List.getElem?_eq_none (by omega)]; rfl
  have hA : G.rows.mapIdx (fillQ c 0 w k (k + 1)) = g.rows ++ [List.replicate w c] := by
    rw [h1]
    refine List.ext_getElem? fun v => ?_
    rw [List.getElem?_mapIdx]
    by_cases h3 : v < k
    · rw [List.getElem?_append_left (by rw [f.rlen]; exact h3), List.getElem?_append_left (by rw [f.rlen]; exact h3), List.getElem?_eq_getElem (by rw [f.rlen]; exact h3), Option.map_some, fillQ, if_neg (by unfold inB; simp; omega)]
    · by_cases h4 : v = k
      · subst h4
        rw [List.getElem?_append_right (by rw [f.rlen]; omega), List.getElem?_append_right (by rw [f.rlen]; omega), f.rlen, Nat.sub_self]
        show some _ = some _
        rw [fillQ, if_pos (by unfold inB; simp; omega), fr _ (by simp), mendL_same hrg]
      · rw [List.getElem?_eq_none (by rw [List.length_append, f.rlen]; simp; omega), List.getElem?_eq_none (by rw [List.length_append, f.rlen]; simp; omega)]
        rfl
  have hF : fillG G ⟨0, k, w, 1⟩ c = G.withRows (g.rows ++ [List.replicate w c]) := by
    rw [fillG]
    unfold Rect.x0 Rect.x1 Rect.y0 Rect.y1
    dsimp only
    rw [ex1, ex2, ex0, exo, show (0 : Int) + max (w : Int) 0 = w by omega, show (k : Int) + max (1 : Int) 0 = k + 1 by omega, hA]
  have hlen : ∀ r ∈ g.rows ++ [List.replicate w c], r.length = w := fun r hr => by
    rcases List.mem_append.1 hr with hr | hr
    · exact f.row r hr
    · rw [List.mem_singleton.1 hr, List.length_replicate]
  obtain ⟨f2, r2⟩ := rows_with f1 (L := g.rows ++ [List.replicate w c]) (by rw [List.length_append, f.rlen]; rfl) hlen
  rw [hF, writeG, r2, f2.ew, Int.toNat_natCast]
  have hwl : (mendL (writeRs w look 0 (runes s) (List.replicate w c))).length = w := by rw [mendL_len, writeRs_len, List.length_replicate]
  have hm1 : (g.rows ++ [List.replicate w c]).modify k (fun row => mendL (writeRs w look 0 (runes s) row)) = g.rows ++ [mendL (writeRs w look 0 (runes s) (List.replicate w c))] := by
    rw [modify_set (r := List.replicate w c) (by rw [List.getElem?_append_right (by rw [f.rlen]; omega), f.rlen, Nat.sub_self]; rfl), List.set_append_right _ _ (by rw [f.rlen]; omega), f.rlen, Nat.sub_self]
    rfl
  rw [hm1]
  generalize mendL (writeRs w look 0 (runes s) (List.replicate w c)) = R at *
  obtain ⟨f3, r3⟩ := rows_with f2 (L := g.rows ++ [R]) (by rw [List.length_append, f.rlen]; rfl) (fun r hr => by
    rcases List.mem_append.1 hr with hr | hr
    · exact f.row r hr
    · rw [List.mem_singleton.1 hr, hwl])
  exact ⟨f3, R, r3⟩
end Go.Eng.YtjkdkofpabocmaaDoor
end

/- Views: what is laid side by side stands there (plain). -/
section
namespace Go.Eng.YtjkdkofpabocmaaDoor
open Go Go.Eng Go.Proofs
set_option linter.unusedSimpArgs false
set_option maxRecDepth 100000
set_option linter.unusedVariables false
theorem goodI.append {a b : List Cell} (ha : goodI a) (hb : goodI b) : goodI (a ++ b) := by
  intro k c hk
  by_cases h : k < a.length
  · rw [List.getElem?_append_left h] at hk
    obtain ⟨h1, h2, h3⟩ := ha k c hk
    refine ⟨h1, fun h0 => ?_, fun h0 => ?_⟩
    · obtain ⟨j, p, rfl, hj, h4⟩ := h2 h0
      exact ⟨j, p, rfl, by rw [List.getElem?_append_left (by omega)]; exact hj, h4⟩
    · obtain ⟨d, hd, h4⟩ := h3 h0
      exact ⟨d, by rw [List.getElem?_append_left (lt_of_at hd)]; exact hd, h4⟩
  · rw [List.getElem?_append_right (by omega)] at hk
    obtain ⟨h1, h2, h3⟩ := hb _ c hk
    refine ⟨h1, fun h0 => ?_, fun h0 => ?_⟩
    · obtain ⟨j, p, hj0, hj, h4⟩ := h2 h0
      exact ⟨a.length + j, p, by omega, by rw [List.getElem?_append_right (by omega), Nat.add_sub_cancel_left]; exact hj, h4⟩
    · obtain ⟨d, hd, h4⟩ := h3 h0
      exact ⟨d, by rw [List.getElem?_append_right (by omega), show k + 1 - a.length = k - a.length + 1 by omega]; exact hd, h4⟩
theorem goodI.takeN {row : List Cell} (h : goodI row) {n : Nat} (hn : ∀ d, row[n]? = some d → d.r ≠ 0) : goodI (row.take n) := by
  intro k c hk
  rw [List.getElem?_take] at hk
  split at hk
  · rename_i hkn
    obtain ⟨h1, h2, h3⟩ := h k c hk
    refine ⟨h1, fun h0 => ?_, fun h0 => ?_⟩
    · obtain ⟨j, p, rfl, hj, h4⟩ := h2 h0
      exact ⟨j, p, rfl, by rw [List.getElem?_take, if_pos (by omega)]; exact hj, h4⟩
    · obtain ⟨d, hd, h4⟩ := h3 h0
      by_cases e : k + 1 = n
      · subst e; exact absurd h4 (hn d hd)
      · exact ⟨d, by rw [List.getElem?_take, if_pos (by omega)]; exact hd, h4⟩
  · cases hk
theorem goodI.dropN {row : List Cell} (h : goodI row) {n : Nat} (hn : ∀ d, row[n]? = some d → d.r ≠ 0) : goodI (row.drop n) := by
  intro k c hk
  rw [List.getElem?_drop] at hk
  obtain ⟨h1, h2, h3⟩ := h _ c hk
  refine ⟨h1, fun h0 => ?_, fun h0 => ?_⟩
  · obtain ⟨j, p, hj0, hj, h4⟩ := h2 h0
    rcases Nat.eq_zero_or_pos k with rfl | hk0
    · rw [Nat.add_zero] at hk; exact absurd h0 (hn c hk)
    · exact ⟨k - 1, p, by omega, by rw [List.getElem?_drop, show n + (k - 1) = j by omega]; exact hj, h4⟩
  · obtain ⟨d, hd, h4⟩ := h3 h0
    exact ⟨d, by rw [List.getElem?_drop, ← Nat.add_assoc]; exact hd, h4⟩
/-- A cell of a grid. -/
def Grid.at_ (g : Grid) (u v : Nat) : Option Cell := (g.rows[v]?).bind fun row => row[u]?
theorem at_some {g : Grid} {w h : Nat} (f : g.fit w h) {u v : Nat} (hu : u < w) (hv : v < h) : ∃ c, g.at_ u v = some c := by
  unfold Grid.at_
  rw [List.getElem?_eq_getElem (show v < g.rows.length by rw [f.rlen]; exact hv)]
  have := f.row _ (List.getElem_mem (show v < g.rows.length by rw [f.rlen]; exact hv))
  exact ⟨_, List.getElem?_eq_getElem (by omega)⟩
/-- A part laid upon blanks: the cells. -/
theorem laid_at {g on : Grid} {gw gh w h : Nat} (hg : checkG g = 0) (ho : checkG on = 0) (fg : g.fit gw gh) (f : on.fit w h) {X Y : Nat} (hX : X + gw ≤ w) (hY : Y + gh ≤ h)
    (hb : ∀ t u, t < gh → u < gw → on.at_ (X + u) (Y + t) = some blankC) :
    (layG g on X Y).fit w h ∧ ∀ u v : Nat, (layG g on X Y).at_ u v = if X ≤ u ∧ u < X + gw ∧ Y ≤ v ∧ v < Y + gh then g.at_ (u - X) (v - Y) else on.at_ u v := by
  have hgw := fg.w1
  have hw1 : widthL blankC.r = 1 := by decide +kernel
  obtain ⟨f1, h1⟩ := laid_rows fg f hX hY (fun j row a hj hr ha => by
    have hgr := rows_good f ho (List.mem_of_getElem? hr)
    have hga := rows_good fg hg (List.mem_of_getElem? ha)
    have hbl : ∀ u, u < gw → row[X + u]? = some blankC := fun u hu => by
      have := hb j u hj hu
      unfold Grid.at_ at this
      rw [hr] at this
      exact this
    refine ((hgr.takeN fun d hd => ?_).append hga).append (hgr.dropN fun d hd => ?_)
    · have := hbl 0 (by omega)
      rw [Nat.add_zero, hd, Option.some.injEq] at this
      subst this
      decide
    · intro h0
      obtain ⟨j', p, hj0, hp, h4, -⟩ := (hgr _ d hd).2.1 h0
      have := hbl (gw - 1) (by omega)
      rw [show X + (gw - 1) = j' by omega, hp, Option.some.injEq] at this
      subst this
      rw [hw1] at h4
      cases h4)
  refine ⟨f1, fun u v => ?_⟩
  unfold Grid.at_
  rw [h1 v]
  cases hr : on.rows[v]? with
  | none =>
    have : h ≤ v := by
      rw [← f.rlen]
      exact List.getElem?_eq_none_iff.1 hr
    rw [if_neg (by omega)]; rfl
  | some row =>
    have hrl := f.row row (List.mem_of_getElem? hr)
    rw [Option.map_some, Option.bind_some, Option.bind_some]
    by_cases hv : Y ≤ v ∧ v < Y + gh
    · obtain ⟨a, ha⟩ : ∃ a, g.rows[v - Y]? = some a := ⟨_, List.getElem?_eq_getElem (by rw [fg.rlen]; omega)⟩
      have hal := fg.row a (List.mem_of_getElem? ha)
      rw [if_pos hv, List.getD_eq_getElem?_getD, ha, Option.getD_some, Option.bind_some]
      by_cases h2 : u < X
      · rw [if_neg (by omega), List.append_assoc, List.getElem?_append_left (by rw [List.length_take]; omega), List.getElem?_take, if_pos h2]
      · by_cases h3 : u < X + gw
        · rw [if_pos (by omega), List.append_assoc, List.getElem?_append_right (by rw [List.length_take]; omega), List.length_take, Nat.min_eq_left (by omega), List.getElem?_append_left (by omega)]
        · rw [if_neg (by omega), List.getElem?_append_right (by rw [List.length_append, List.length_take]; omega), List.length_append, List.length_take, Nat.min_eq_left (by omega), hal, List.getElem?_drop, show X + gw + (u - (X + gw)) = u by omega]
    · rw [if_neg hv, if_neg (by omega)]
/-- A part that stands so. -/
theorem part_is {G P : Grid} {w h A B : Nat} (f : G.fit w h) (hp : checkG P = 0) (fp : P.fit A B) {X Y : Nat} (hX : X + A ≤ w) (hY : Y + B ≤ h)
    (ha : ∀ u v : Nat, u < A → v < B → G.at_ (X + u) (Y + v) = P.at_ u v) : partG G ⟨X, Y, A, B⟩ = P := by
  obtain ⟨f2, h2⟩ := part_rows f X Y A B hX hY fp.w1 fp.h1
  have h3 : (partG G ⟨X, Y, A, B⟩).rows = P.rows := by
    refine Eq.trans h2 (List.ext_getElem? fun i => ?_)
    rw [List.getElem?_map, List.getElem?_take]
    by_cases hi : i < B
    · obtain ⟨a, hpa⟩ : ∃ a, P.rows[i]? = some a := ⟨_, List.getElem?_eq_getElem (by rw [fp.rlen]; exact hi)⟩
      obtain ⟨row, hr⟩ : ∃ r, G.rows[Y + i]? = some r := ⟨_, List.getElem?_eq_getElem (by rw [f.rlen]; omega)⟩
      have hal := fp.row a (List.mem_of_getElem? hpa)
      have hrl := f.row row (List.mem_of_getElem? hr)
      rw [if_pos hi, List.getElem?_drop, hr, hpa, Option.map_some, Option.some.injEq, partRow]
      have : (row.drop X).take A = a := by
        refine List.ext_getElem? fun u => ?_
        rw [List.getElem?_take]
        by_cases hu : u < A
        · have := ha u i hu hi
          unfold Grid.at_ at this
          rw [hr, hpa, Option.bind_some, Option.bind_some] at this
          rw [if_pos hu, List.getElem?_drop, this]
        · rw [if_neg hu, List.getElem?_eq_none (by omega)]
      rw [this]
      exact mendL_same (rows_good fp hp (List.mem_of_getElem? hpa))
    · rw [if_neg hi, List.getElem?_eq_none (by rw [fp.rlen]; omega)]; rfl
  have e1 := f2.flat
  rw [h3, fp.flat] at e1
  obtain ⟨pw, ph, pc⟩ := P
  obtain rfl : pw = A := fp.ew
  obtain rfl : ph = B := fp.eh
  unfold partG at e1 ⊢
  dsimp only at e1 ⊢
  rw [← e1]
end Go.Eng.YtjkdkofpabocmaaDoor
end
