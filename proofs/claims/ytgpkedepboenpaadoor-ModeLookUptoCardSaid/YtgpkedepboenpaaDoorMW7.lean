/- Texts put together: ScrR. -/
import Derived.Test.YtgpkedepboenpaaDoorMW6
import Derived.Test.YtgpkedepboenpaaDoorMG3
/- Screens that are right: what is made of their rows is; plain. -/
section
namespace Go.Eng.YtgpkedepboenpaaDoor
open Go Go.Eng Go.Proofs
set_option linter.unusedSimpArgs false
set_option linter.unusedVariables false
structure Scr.R (s : Scr) : Prop where
  g : checkG s.g = 0
  xy : 0 ≤ s.x ∧ s.x < s.g.w ∧ 0 ≤ s.y ∧ s.y < s.g.h
  kxy : 0 ≤ s.kx ∧ s.kx < s.g.w ∧ 0 ≤ s.ky ∧ s.ky < s.g.h
  tb : 0 ≤ s.top ∧ s.bottom < s.g.h ∧ s.top ≤ s.bottom ∧ (s.top = s.bottom → s.g.h ≤ 1)
  late : s.late = true → s.x = s.g.w - 1 ∧ bitop .and .i64 s.modes 4 ≠ 0
  look : checkStyle s.look = true
  ks : checkStyle s.ks = true
  modes : 0 ≤ s.modes ∧ s.modes ≤ 63
  km : bitop .andNot .i64 s.km 6 = 0
  tabs : (s.tabs.length : Int) = s.g.w
  last : s.last ≠ 0 → widthL s.last ≠ 0
  title : cleanL s.title = s.title ∧ (runes s.title).length ≤ 20
  gone : s.gone.length ≤ 50 ∧ ∀ r ∈ s.gone, checkG (rowG r) = 0
theorem goneB_iff (l : List (List Cell)) : goneB l = true ↔ ∀ r ∈ l, checkG (rowG r) = 0 := by
  rw [goneB, List.all_eq_true]
  simp only [decide_eq_true_eq]
theorem check_iff (s : Scr) : checkS s = 0 ↔ s.R := by
  have hg := goneB_iff s.gone
  constructor
  · intro hc
    rw [checkS] at hc
    split at hc
    · exact absurd hc ‹_›
    split at hc
    · cases hc
    split at hc
    · cases hc
    split at hc
    · cases hc
    split at hc
    · cases hc
    split at hc
    · cases hc
    split at hc
    · cases hc
    split at hc
    · rename_i c1 c2 c3 c4 c5 c6 c7 c8
      refine ⟨Decidable.not_not.1 c1, by omega, by omega, by omega, fun hl => ?_, ?_, ?_, by omega, ?_, ?_, fun h0 hw => ?_, ⟨?_, by omega⟩, by omega, hg.1 c8⟩
      · grind
      · grind
      · grind
      · grind
      · grind
      · grind
      · grind
    · cases hc
  · rintro ⟨h1, h2, h3, h4, h5, h6, h7, h8, h9, h10, h11, h12, h13, h14⟩
    rw [checkS, if_neg (by simpa using h1), if_neg (by omega), if_neg (by omega), if_neg (by grind), if_neg (by grind), if_neg (by grind), if_neg (by omega), if_pos (hg.2 h14)]
/-- Rows that are right. -/
structure RowsR (L : List (List Cell)) (w h : Nat) : Prop where
  ok : RowsOk L w h
  good : ∀ r ∈ L, goodI r
  cok : ∀ r ∈ L, ∀ c ∈ r, c.ok
theorem RowsR.fit {L : List (List Cell)} {w h : Nat} (f : RowsR L w h) : (Grid.mk w h L.flatten).fit w h := by
  refine ⟨rfl, rfl, f.ok.w1, f.ok.w2, f.ok.h1, f.ok.h2, ?_⟩
  show L.flatten.length = _
  rw [f.ok.flat, Nat.mul_comm]
theorem RowsR.rows {L : List (List Cell)} {w h : Nat} (f : RowsR L w h) : (Grid.mk w h L.flatten).rows = L := by
  rw [f.fit.rows]
  show rowsOf w h L.flatten = L
  rw [← f.ok.len]
  exact flat_rowsOf w L f.ok.row
theorem RowsR.check {L : List (List Cell)} {w h : Nat} (f : RowsR L w h) : checkG ⟨w, h, L.flatten⟩ = 0 :=
  check_rows f.fit fun r hr => f.good r (by rwa [f.rows] at hr)
theorem RowsR.set {L : List (List Cell)} {w h : Nat} (f : RowsR L w h) (y : Nat) {r : List Cell} (h1 : r.length = w) (h2 : goodI r) (h3 : ∀ c ∈ r, c.ok) : RowsR (L.set y r) w h :=
  ⟨f.ok.set y h1, fun q hq => (List.mem_or_eq_of_mem_set hq).elim (f.good q) fun e => e ▸ h2, fun q hq => (List.mem_or_eq_of_mem_set hq).elim (f.cok q) fun e => e ▸ h3⟩
theorem rowsR_of {g : Grid} {w h : Nat} (f : g.fit w h) (hg : checkG g = 0) (ho : g.ok) : RowsR g.rows w h := by
  refine ⟨⟨f.rlen, f.row, f.w1, f.w2, f.h1, f.h2⟩, fun r hr => rows_good f hg hr, fun r hr c hc => ho.2.2.1 c ?_⟩
  rw [← f.flat]
  exact List.mem_flatten.2 ⟨r, hr, hc⟩
theorem row_fit {r : List Cell} (h1 : 1 ≤ r.length) (h2 : r.length ≤ 120) : (rowG r).fit r.length 1 := ⟨rfl, rfl, h1, h2, by omega, by omega, by show r.length = _; omega⟩
theorem row_rows {r : List Cell} (h1 : 1 ≤ r.length) (h2 : r.length ≤ 120) : (rowG r).rows = [r] := by
  rw [(row_fit h1 h2).rows]
  show rowsOf r.length 1 r = [r]
  have := flat_rowsOf r.length [r] (by simp)
  simpa using this
theorem row_check {r : List Cell} (h1 : 1 ≤ r.length) (h2 : r.length ≤ 120) (hg : goodI r) : checkG (rowG r) = 0 := by
  refine check_rows (row_fit h1 h2) fun q hq => ?_
  rw [row_rows h1 h2, List.mem_singleton] at hq
  exact hq ▸ hg
/-! ### Blanks -/
theorem style_blank {st : Style} (h : checkStyle st = true) : checkStyle ⟨0, st.back, 0⟩ = true := by
  simp only [checkStyle, Bool.and_eq_true, decide_eq_true_eq] at h ⊢
  omega
theorem blankB_ok {st : Style} (h : checkStyle st = true) : (blankB st.back).ok := by
  simp only [checkStyle, Bool.and_eq_true, decide_eq_true_eq] at h
  exact ⟨by show i32ok 32; unfold i32ok; omega, by show i64ok 0; unfold i64ok; omega, by show i64ok st.back; unfold i64ok; omega, by show i64ok 0; unfold i64ok; omega⟩
theorem clear_good {st : Style} (hs : checkStyle st = true) (x n : Nat) {row : List Cell} (hg : goodI row) : goodI (clearR st.back x n row) :=
  mendL_good (fill_pair hg wblank (style_blank hs))
theorem clear_cok {st : Style} (hs : checkStyle st = true) (x n : Nat) {row : List Cell} (ho : ∀ c ∈ row, c.ok) : ∀ c ∈ clearR st.back x n row, c.ok := by
  refine mendL_ok (P := Cell.ok) (fun c hc => blank_ok hc) fun c hc => ?_
  obtain ⟨k, hk⟩ := List.getElem?_of_mem hc
  rw [fillRow, List.getElem?_mapIdx] at hk
  obtain ⟨d, hd, rfl⟩ := Option.map_eq_some_iff.1 hk
  unfold fillP
  split
  · exact blankB_ok hs
  · exact ho d (List.mem_of_getElem? hd)
theorem blanks_good {st : Style} (hs : checkStyle st = true) (w : Nat) : goodI (List.replicate w (blankB st.back)) := by
  intro k c hc
  obtain rfl := List.eq_of_mem_replicate (List.mem_of_getElem? hc)
  refine ⟨?_, fun h => ?_, fun h => ?_⟩
  · rintro (⟨_, h⟩ | h)
    · exact absurd h (by show ¬ widthL 32 = 0; rw [wblank]; omega)
    · rw [show (blankB st.back).s = ⟨0, st.back, 0⟩ from rfl, style_blank hs] at h; cases h
  · exact absurd h (by show ¬ (32 : Int) = 0; omega)
  · exact absurd h (by show ¬ widthL 32 = 2; rw [wblank]; omega)
theorem blanks_cok {st : Style} (hs : checkStyle st = true) (w : Nat) : ∀ c ∈ List.replicate w (blankB st.back), c.ok := fun c hc => by
  rw [List.eq_of_mem_replicate hc]; exact blankB_ok hs
/-- Blank once is blank twice. -/
theorem clear_twice {st : Style} (hs : checkStyle st = true) (x n : Nat) {row : List Cell} (hg : goodI row) : clearR st.back x n (clearR st.back x n row) = clearR st.back x n row := by
  have hc := clear_good hs x n hg
  have e : fillRow (blankB st.back) x (x + n : Nat) (clearR st.back x n row) = clearR st.back x n row := by
    refine List.ext_getElem? fun k => ?_
    rw [fillRow, List.getElem?_mapIdx]
    cases hk : (clearR st.back x n row)[k]? with
    | none => rfl
    | some d =>
      rw [Option.map_some, fillP]
      split
      · rename_i hin
        rw [clearR] at hk
        have hl : k < (fillRow (blankB st.back) x (x + n : Nat) row).length := by
          have := lt_of_at hk
          rwa [mendL_len] at this
        have ht : mendL (fillRow (blankB st.back) x (x + n : Nat) row) = mendL ((fillRow (blankB st.back) x (x + n : Nat) row).take k ++ [blankB st.back] ++ (fillRow (blankB st.back) x (x + n : Nat) row).drop (k + 1)) := by
          congr 1
          have hq : (fillRow (blankB st.back) x (x + n : Nat) row)[k] = blankB st.back := by
            simp only [fillRow, List.getElem_mapIdx, fillP]
            rw [if_pos hin]
          conv => lhs; rw [← List.take_append_drop k (fillRow (blankB st.back) x (x + n : Nat) row), List.drop_eq_getElem_cons hl, hq]
          simp
        have hm := mendL_mid (pre := (fillRow (blankB st.back) x (x + n : Nat) row).take k) (a := [blankB st.back]) (post := (fillRow (blankB st.back) x (x + n : Nat) row).drop (k + 1)) (blanks_good hs 1) (by simp)
        rw [← ht, List.length_take, Nat.min_eq_left (by omega)] at hm
        have h3 := congrArg (fun l => l[0]?) hm
        simp only [List.getElem?_take, List.getElem?_drop, List.length_singleton] at h3
        simp only [Nat.lt_irrefl, Nat.zero_lt_one, if_true, Nat.add_zero, hk] at h3
        simpa using h3.symm
      · rfl
  conv => lhs; rw [clearR, e]
  exact mendL_same hc
/-! ### Rows that scroll -/
theorem RowsR.mem {L L' : List (List Cell)} {w h : Nat} (f : RowsR L w h) (f' : RowsOk L' w h) (hm : ∀ r ∈ L', r ∈ L) : RowsR L' w h := ⟨f', fun r hr => f.good r (hm r hr), fun r hr => f.cok r (hm r hr)⟩
theorem mid_mem (top bottom : Nat) (L : List (List Cell)) : ∀ r ∈ midR top bottom L, r ∈ L := fun r hr => by
  simp only [midR, List.mem_append] at hr
  rcases hr with (hr | hr) | hr
  · exact List.mem_of_mem_take hr
  · exact List.mem_of_mem_drop (List.mem_of_mem_take hr)
  · exact List.mem_of_mem_drop hr
theorem mid2_mem (top bottom : Nat) (L : List (List Cell)) : ∀ r ∈ mid2R top bottom L, r ∈ L := fun r hr => by
  simp only [mid2R, List.mem_append] at hr
  rcases hr with (hr | hr) | hr
  · exact List.mem_of_mem_take hr
  · exact List.mem_of_mem_drop (List.mem_of_mem_take hr)
  · exact List.mem_of_mem_drop hr
theorem RowsR.up {L : List (List Cell)} {w h : Nat} (f : RowsR L w h) {top bottom : Nat} (h1 : top ≤ bottom) (h2 : bottom < h) {st : Style} (hs : checkStyle st = true) : RowsR (upR st.back w top bottom L) w h :=
  (f.mem (f.ok.mid h1 h2) (mid_mem top bottom L)).set _ (by simp) (blanks_good hs w) (blanks_cok hs w)
theorem RowsR.down {L : List (List Cell)} {w h : Nat} (f : RowsR L w h) {top bottom : Nat} (h1 : top ≤ bottom) (h2 : bottom < h) {st : Style} (hs : checkStyle st = true) : RowsR (downR st.back w top bottom L) w h :=
  (f.mem (f.ok.mid2 h1 h2) (mid2_mem top bottom L)).set _ (by simp) (blanks_good hs w) (blanks_cok hs w)
theorem RowsR.downs {w h : Nat} {top bottom : Nat} (h1 : top ≤ bottom) (h2 : bottom < h) {st : Style} (hs : checkStyle st = true) : ∀ (n : Nat) {L : List (List Cell)}, RowsR L w h → RowsR (iterF (downR st.back w top bottom) n L) w h
  | 0, _, f => f
  | n + 1, _, f => RowsR.downs h1 h2 hs n (f.down h1 h2 hs)
/-- What is gone is right. -/
structure GoneR (G : List (List Cell)) : Prop where
  len : G.length ≤ 50
  row : ∀ r ∈ G, 1 ≤ r.length ∧ r.length ≤ 120 ∧ goodI r ∧ ∀ c ∈ r, c.ok
theorem GoneR.check {G : List (List Cell)} (h : GoneR G) : G.length ≤ 50 ∧ ∀ r ∈ G, checkG (rowG r) = 0 := ⟨h.len, fun r hr => row_check (h.row r hr).1 (h.row r hr).2.1 (h.row r hr).2.2.1⟩
theorem goneR_mem {G : List (List Cell)} : ∀ r ∈ goneR G, r ∈ G := fun r hr => by
  unfold goneR at hr
  split at hr
  · exact List.mem_of_mem_drop hr
  · exact hr
theorem GoneR.add {G : List (List Cell)} (h : GoneR G) {r : List Cell} (h1 : 1 ≤ r.length) (h2 : r.length ≤ 120) (h3 : goodI r) (h4 : ∀ c ∈ r, c.ok) : GoneR (goneR (G ++ [r])) := by
  refine ⟨?_, fun q hq => ?_⟩
  · have := h.len
    unfold goneR
    split
    · simp; omega
    · simp at *; omega
  · have := goneR_mem q hq
    rcases List.mem_append.1 this with hm | hm
    · exact h.row q hm
    · rw [List.mem_singleton] at hm
      exact hm ▸ ⟨h1, h2, h3, h4⟩
theorem stepU_right {w h top bottom : Nat} (h1 : top ≤ bottom) (h2 : bottom < h) {st : Style} (hs : checkStyle st = true) {p : List (List Cell) × List (List Cell)} (f : RowsR p.1 w h) (g : GoneR p.2) : RowsR (stepU st.back w top bottom p).1 w h ∧ GoneR (stepU st.back w top bottom p).2 := by
  refine ⟨f.up h1 h2 hs, ?_⟩
  show GoneR (if top = 0 then goneR (p.2 ++ p.1.take 1) else p.2)
  split
  · obtain ⟨r, hr, hl⟩ := f.ok.at (y := 0) (by omega)
    have e : p.1.take 1 = [r] := by
      cases hp : p.1 with
      | nil => rw [hp] at hr; cases hr
      | cons a t => rw [hp] at hr; obtain rfl := Option.some.inj hr; rfl
    rw [e]
    have hm := List.mem_of_getElem? hr
    have := f.ok.w1
    have := f.ok.w2
    exact g.add (by omega) (by omega) (f.good r hm) (f.cok r hm)
  · exact g
theorem ups_right {w h top bottom : Nat} (h1 : top ≤ bottom) (h2 : bottom < h) {st : Style} (hs : checkStyle st = true) : ∀ (n : Nat) {p : List (List Cell) × List (List Cell)}, RowsR p.1 w h → GoneR p.2 → RowsR (iterF (stepU st.back w top bottom) n p).1 w h ∧ GoneR (iterF (stepU st.back w top bottom) n p).2
  | 0, _, f, g => ⟨f, g⟩
  | n + 1, _, f, g => ups_right h1 h2 hs n (stepU_right h1 h2 hs f g).1 (stepU_right h1 h2 hs f g).2
theorem goneR_of {s : Scr} (h : s.R) (ho : s.ok) : GoneR s.gone := by
  refine ⟨h.gone.1, fun r hr => ?_⟩
  have hc := h.gone.2 r hr
  obtain ⟨w, h', f⟩ := fit_of hc
  have e : ((r.length : Nat) : Int) = w := f.ew
  have h1 := f.w1
  have h2 := f.w2
  have hl : 1 ≤ r.length ∧ r.length ≤ 120 := by omega
  have hg := rows_good (row_fit hl.1 hl.2) hc (row := r) (by rw [row_rows hl.1 hl.2]; exact List.mem_singleton.2 rfl)
  exact ⟨hl.1, hl.2, hg, (ho.gone.2 r hr).2⟩
/-- The screen with these rows, and these that are gone. -/
def Scr.put (s : Scr) (L gone : List (List Cell)) : Scr := { s with g := { s.g with cs := L.flatten }, gone := gone }
theorem put_right {s : Scr} (h : s.R) {w h' : Nat} (hw : s.g.w = w) (hh : s.g.h = h') {L G : List (List Cell)} (f : RowsR L w h') (g : GoneR G) : (s.put L G).R := by
  obtain ⟨h1, h2, h3, h4, h5, h6, h7, h8, h9, h10, h11, h12, h13, h14⟩ := h
  refine ⟨?_, h2, h3, h4, h5, h6, h7, h8, h9, h10, h11, h12, g.check⟩
  show checkG ⟨s.g.w, s.g.h, L.flatten⟩ = 0
  rw [hw, hh]
  exact f.check
theorem put_ok {s : Scr} (h : s.ok) {w h' : Nat} (hw : s.g.w = w) (hh : s.g.h = h') {L G : List (List Cell)} (f : RowsR L w h') (g : GoneR G) : (s.put L G).ok := by
  obtain ⟨h1, h2, h3, h4, h5, h6, h7, h8, h9, h10, h11, h12, h13, h14, h15⟩ := h
  refine ⟨⟨h1.1, h1.2.1, fun c hc => ?_, ?_⟩, h2, h3, h4, h5, h6, h7, h8, h9, h10, h11, h12, h13, h14, ?_, fun r hr => ?_⟩
  · obtain ⟨r, hr, hcr⟩ := List.mem_flatten.1 hc
    exact f.cok r hr c hcr
  · have := f.ok.flat
    have := f.ok.small
    show L.flatten.length * 32 ≤ _
    omega
  · have := g.len
    show G.length * 24 ≤ _
    omega
  · obtain ⟨_, h2, _, h4⟩ := g.row r hr
    exact ⟨by omega, h4⟩
end Go.Eng.YtgpkedepboenpaaDoor
end
