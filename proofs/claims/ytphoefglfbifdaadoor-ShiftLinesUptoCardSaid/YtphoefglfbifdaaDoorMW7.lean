/- Texts put together: ScrR, ScrP, ScrC. -/
import Derived.Test.YtphoefglfbifdaaDoorMW6
import Derived.Test.YtphoefglfbifdaaDoorMG3
import Derived.Test.YtphoefglfbifdaaDoorMW2
import Derived.Test.YtphoefglfbifdaaDoorMW5
/- Screens that are right: what is made of their rows is; plain. -/
section
namespace Go.Eng.YtphoefglfbifdaaDoor
open Go Go.Eng Go.Proofs
set_option linter.unusedSimpArgs false
set_option linter.unusedVariables false
structure Scr.R (s : Scr) : Prop where
  g : checkG s.g = 0
  xy : 0 ≤ s.x ∧ s.x < s.g.w ∧ 0 ≤ s.y ∧ s.y < s.g.h
  kxy : 0 ≤ s.kx ∧ s.kx < s.g.w ∧ 0 ≤ s.ky ∧ s.ky < s.g.h
  tb : 0 ≤ s.top ∧ s.bottom < s.g.h ∧ s.top ≤ s.bottom ∧ (s.top = s.bottom → s.g.h ≤ 1)
  late : s.late = true → s.x = s.g.w - 1 ∧ bitop .and .i64 s.modes 4 ≠ 0
  look : checkStyle s.look = true
  ks : checkStyle s.ks = true
  modes : 0 ≤ s.modes ∧ s.modes ≤ 63
  km : bitop .andNot .i64 s.km 6 = 0
  tabs : (s.tabs.length : Int) = s.g.w
  last : s.last ≠ 0 → widthL s.last ≠ 0
  title : cleanL s.title = s.title ∧ (runes s.title).length ≤ 20
  gone : s.gone.length ≤ 50 ∧ ∀ r ∈ s.gone, checkG (rowG r) = 0
theorem goneB_iff (l : List (List Cell)) : goneB l = true ↔ ∀ r ∈ l, checkG (rowG r) = 0 := by
  rw [goneB, List.all_eq_true]
  simp only [decide_eq_true_eq]
theorem check_iff (s : Scr) : checkS s = 0 ↔ s.R := by
  have hg := goneB_iff s.gone
  constructor
  · intro hc
    rw [checkS] at hc
    split at hc
    · exact absurd hc ‹_›
    split at hc
    · cases hc
    split at hc
    · cases hc
    split at hc
    · cases hc
    split at hc
    · cases hc
    split at hc
    · cases hc
    split at hc
    · cases hc
    split at hc
    · rename_i c1 c2 c3 c4 c5 c6 c7 c8
      refine ⟨Decidable.not_not.1 c1, by omega, by omega, by omega, fun hl => ?_, ?_, ?_, by omega, ?_, ?_, fun h0 hw => ?_, ⟨?_, by omega⟩, by omega, hg.1 c8⟩
      · grind
      · grind
      · grind
      · grind
      · grind
      · grind
      · grind
    · cases hc
  · rintro ⟨h1, h2, h3, h4, h5, h6, h7, h8, h9, h10, h11, h12, h13, h14⟩
    rw [checkS, if_neg (by simpa using h1), if_neg (by omega), if_neg (by omega), if_neg (by grind), if_neg (by grind), if_neg (by grind), if_neg (by omega), if_pos (hg.2 h14)]
/-- Rows that are right. -/
structure RowsR (L : List (List Cell)) (w h : Nat) : Prop where
  ok : RowsOk L w h
  good : ∀ r ∈ L, goodI r
  cok : ∀ r ∈ L, ∀ c ∈ r, c.ok
theorem RowsR.fit {L : List (List Cell)} {w h : Nat} (f : RowsR L w h) : (Grid.mk w h L.flatten).fit w h := by
  refine ⟨rfl, rfl, f.ok.w1, f.ok.w2, f.ok.h1, f.ok.h2, ?_⟩
  show L.flatten.length = _
  rw [f.ok.flat, Nat.mul_comm]
theorem RowsR.rows {L : List (List Cell)} {w h : Nat} (f : RowsR L w h) : (Grid.mk w h L.flatten).rows = L := by
  rw [f.fit.rows]
  show rowsOf w h L.flatten = L
  rw [← f.ok.len]
  exact flat_rowsOf w L f.ok.row
theorem RowsR.check {L : List (List Cell)} {w h : Nat} (f : RowsR L w h) : checkG ⟨w, h, L.flatten⟩ = 0 :=
  check_rows f.fit fun r hr => f.good r (by rwa [f.rows] at hr)
theorem RowsR.set {L : List (List Cell)} {w h : Nat} (f : RowsR L w h) (y : Nat) {r : List Cell} (h1 : r.length = w) (h2 : goodI r) (h3 : ∀ c ∈ r, c.ok) : RowsR (L.set y r) w h :=
  ⟨f.ok.set y h1, fun q hq => (List.mem_or_eq_of_mem_set hq).elim (f.good q) fun e => e ▸ h2, fun q hq => (List.mem_or_eq_of_mem_set hq).elim (f.cok q) fun e => e ▸ h3⟩
theorem rowsR_of {g : Grid} {w h : Nat} (f : g.fit w h) (hg : checkG g = 0) (ho : g.ok) : RowsR g.rows w h := by
  refine ⟨⟨f.rlen, f.row, f.w1, f.w2, f.h1, f.h2⟩, fun r hr => rows_good f hg hr, fun r hr c hc => ho.2.2.1 c ?_⟩
  rw [← f.flat]
  exact List.mem_flatten.2 ⟨r, hr, hc⟩
theorem row_fit {r : List Cell} (h1 : 1 ≤ r.length) (h2 : r.length ≤ 120) : (rowG r).fit r.length 1 := ⟨rfl, rfl, h1, h2, by omega, by omega, by show r.length = _; omega⟩
theorem row_rows {r : List Cell} (h1 : 1 ≤ r.length) (h2 : r.length ≤ 120) : (rowG r).rows = [r] := by
  rw [(row_fit h1 h2).rows]
  show rowsOf r.length 1 r = [r]
  have := flat_rowsOf r.length [r] (by simp)
  simpa using this
theorem row_check {r : List Cell} (h1 : 1 ≤ r.length) (h2 : r.length ≤ 120) (hg : goodI r) : checkG (rowG r) = 0 := by
  refine check_rows (row_fit h1 h2) fun q hq => ?_
  rw [row_rows h1 h2, List.mem_singleton] at hq
  exact hq ▸ hg
/-! ### Blanks -/
theorem style_blank {st : Style} (h : checkStyle st = true) : checkStyle ⟨0, st.back, 0⟩ = true := by
  simp only [checkStyle, Bool.and_eq_true, decide_eq_true_eq] at h ⊢
  omega
theorem blankB_ok {st : Style} (h : checkStyle st = true) : (blankB st.back).ok := by
  simp only [checkStyle, Bool.and_eq_true, decide_eq_true_eq] at h
  exact ⟨by show i32ok 32; unfold i32ok; omega, by show i64ok 0; unfold i64ok; omega, by show i64ok st.back; unfold i64ok; omega, by show i64ok 0; unfold i64ok; omega⟩
theorem clear_good {st : Style} (hs : checkStyle st = true) (x n : Nat) {row : List Cell} (hg : goodI row) : goodI (clearR st.back x n row) :=
  mendL_good (fill_pair hg wblank (style_blank hs))
theorem clear_cok {st : Style} (hs : checkStyle st = true) (x n : Nat) {row : List Cell} (ho : ∀ c ∈ row, c.ok) : ∀ c ∈ clearR st.back x n row, c.ok := by
  refine mendL_ok (P := Cell.ok) (fun c hc => blank_ok hc) fun c hc => ?_
  obtain ⟨k, hk⟩ := List.getElem?_of_mem hc
  rw [fillRow, List.getElem?_mapIdx] at hk
  obtain ⟨d, hd, rfl⟩ := Option.map_eq_some_iff.1 hk
  unfold fillP
  split
  · exact blankB_ok hs
  · exact ho d (List.mem_of_getElem? hd)
theorem blanks_good {st : Style} (hs : checkStyle st = true) (w : Nat) : goodI (List.replicate w (blankB st.back)) := by
  intro k c hc
  obtain rfl := List.eq_of_mem_replicate (List.mem_of_getElem? hc)
  refine ⟨?_, fun h => ?_, fun h => ?_⟩
  · rintro (⟨_, h⟩ | h)
    · exact absurd h (by show ¬ widthL 32 = 0; rw [wblank]; omega)
    · rw [show (blankB st.back).s = ⟨0, st.back, 0⟩ from rfl, style_blank hs] at h; cases h
  · exact absurd h (by show ¬ (32 : Int) = 0; omega)
  · exact absurd h (by show ¬ widthL 32 = 2; rw [wblank]; omega)
theorem blanks_cok {st : Style} (hs : checkStyle st = true) (w : Nat) : ∀ c ∈ List.replicate w (blankB st.back), c.ok := fun c hc => by
  rw [List.eq_of_mem_replicate hc]; exact blankB_ok hs
/-- Blank once is blank twice. -/
theorem clear_twice {st : Style} (hs : checkStyle st = true) (x n : Nat) {row : List Cell} (hg : goodI row) : clearR st.back x n (clearR st.back x n row) = clearR st.back x n row := by
  have hc := clear_good hs x n hg
  have e : fillRow (blankB st.back) x (x + n : Nat) (clearR st.back x n row) = clearR st.back x n row := by
    refine List.ext_getElem? fun k => ?_
    rw [fillRow, List.getElem?_mapIdx]
    cases hk : (clearR st.back x n row)[k]? with
    | none => rfl
    | some d =>
      rw [Option.map_some, fillP]
      split
      · rename_i hin
        rw [clearR] at hk
        have hl : k < (fillRow (blankB st.back) x (x + n : Nat) row).length := by
          have := lt_of_at hk
          rwa [mendL_len] at this
        have ht : mendL (fillRow (blankB st.back) x (x + n : Nat) row) = mendL ((fillRow (blankB st.back) x (x + n : Nat) row).take k ++ [blankB st.back] ++ (fillRow (blankB st.back) x (x + n : Nat) row).drop (k + 1)) := by
          congr 1
          have hq : (fillRow (blankB st.back) x (x + n : Nat) row)[k] = blankB st.back := by
            simp only [fillRow, List.getElem_mapIdx, fillP]
            rw [if_pos hin]
          conv => lhs; rw [← List.take_append_drop k (fillRow (blankB st.back) x (x + n : Nat) row), List.drop_eq_getElem_cons hl, hq]
          simp
        have hm := mendL_mid (pre := (fillRow (blankB st.back) x (x + n : Nat) row).take k) (a := [blankB st.back]) (post := (fillRow (blankB st.back) x (x + n : Nat) row).drop (k + 1)) (blanks_good hs 1) (by simp)
        rw [← ht, List.length_take, Nat.min_eq_left (by omega)] at hm
        have h3 := congrArg (fun l => l[0]?) hm
        simp only [List.getElem?_take, List.getElem?_drop, List.length_singleton] at h3
        simp only [Nat.lt_irrefl, Nat.zero_lt_one, if_true, Nat.add_zero, hk] at h3
        simpa using h3.symm
      · rfl
  conv => lhs; rw [clearR, e]
  exact mendL_same hc
/-! ### Rows that scroll -/
theorem RowsR.mem {L L' : List (List Cell)} {w h : Nat} (f : RowsR L w h) (f' : RowsOk L' w h) (hm : ∀ r ∈ L', r ∈ L) : RowsR L' w h := ⟨f', fun r hr => f.good r (hm r hr), fun r hr => f.cok r (hm r hr)⟩
theorem mid_mem (top bottom : Nat) (L : List (List Cell)) : ∀ r ∈ midR top bottom L, r ∈ L := fun r hr => by
  simp only [midR, List.mem_append] at hr
  rcases hr with (hr | hr) | hr
  · exact List.mem_of_mem_take hr
  · exact List.mem_of_mem_drop (List.mem_of_mem_take hr)
  · exact List.mem_of_mem_drop hr
theorem mid2_mem (top bottom : Nat) (L : List (List Cell)) : ∀ r ∈ mid2R top bottom L, r ∈ L := fun r hr => by
  simp only [mid2R, List.mem_append] at hr
  rcases hr with (hr | hr) | hr
  · exact List.mem_of_mem_take hr
  · exact List.mem_of_mem_drop (List.mem_of_mem_take hr)
  · exact List.mem_of_mem_drop hr
theorem RowsR.up {L : List (List Cell)} {w h : Nat} (f : RowsR L w h) {top bottom : Nat} (h1 : top ≤ bottom) (h2 : bottom < h) {st : Style} (hs : checkStyle st = true) : RowsR (upR st.back w top bottom L) w h :=
  (f.mem (f.ok.mid h1 h2) (mid_mem top bottom L)).set _ (by simp) (blanks_good hs w) (blanks_cok hs w)
theorem RowsR.down {L : List (List Cell)} {w h : Nat} (f : RowsR L w h) {top bottom : Nat} (h1 : top ≤ bottom) (h2 : bottom < h) {st : Style} (hs : checkStyle st = true) : RowsR (downR st.back w top bottom L) w h :=
  (f.mem (f.ok.mid2 h1 h2) (mid2_mem top bottom L)).set _ (by simp) (blanks_good hs w) (blanks_cok hs w)
theorem RowsR.downs {w h : Nat} {top bottom : Nat} (h1 : top ≤ bottom) (h2 : bottom < h) {st : Style} (hs : checkStyle st = true) : ∀ (n : Nat) {L : List (List Cell)}, RowsR L w h → RowsR (iterF (downR st.back w top bottom) n L) w h
  | 0, _, f => f
  | n + 1, _, f => RowsR.downs h1 h2 hs n (f.down h1 h2 hs)
/-- What is gone is right. -/
structure GoneR (G : List (List Cell)) : Prop where
  len : G.length ≤ 50
  row : ∀ r ∈ G, 1 ≤ r.length ∧ r.length ≤ 120 ∧ goodI r ∧ ∀ c ∈ r, c.ok
theorem GoneR.check {G : List (List Cell)} (h : GoneR G) : G.length ≤ 50 ∧ ∀ r ∈ G, checkG (rowG r) = 0 := ⟨h.len, fun r hr => row_check (h.row r hr).1 (h.row r hr).2.1 (h.row r hr).2.2.1⟩
theorem goneR_mem {G : List (List Cell)} : ∀ r ∈ goneR G, r ∈ G := fun r hr => by
  unfold goneR at hr
  split at hr
  · exact List.mem_of_mem_drop hr
  · exact hr
theorem GoneR.add {G : List (List Cell)} (h : GoneR G) {r : List Cell} (h1 : 1 ≤ r.length) (h2 : r.length ≤ 120) (h3 : goodI r) (h4 : ∀ c ∈ r, c.ok) : GoneR (goneR (G ++ [r])) := by
  refine ⟨?_, fun q hq => ?_⟩
  · have := h.len
    unfold goneR
    split
    · simp; omega
    · simp at *; omega
  · have := goneR_mem q hq
    rcases List.mem_append.1 this with hm | hm
    · exact h.row q hm
    · rw [List.mem_singleton] at hm
      exact hm ▸ ⟨h1, h2, h3, h4⟩
theorem stepU_right {w h top bottom : Nat} (h1 : top ≤ bottom) (h2 : bottom < h) {st : Style} (hs : checkStyle st = true) {p : List (List Cell) × List (List Cell)} (f : RowsR p.1 w h) (g : GoneR p.2) : RowsR (stepU st.back w top bottom p).1 w h ∧ GoneR (stepU st.back w top bottom p).2 := by
  refine ⟨f.up h1 h2 hs, ?_⟩
  show GoneR (if top = 0 then goneR (p.2 ++ p.1.take 1) else p.2)
  split
  · obtain ⟨r, hr, hl⟩ := f.ok.at (y := 0) (by omega)
    have e : p.1.take 1 = [r] := by
      cases hp : p.1 with
      | nil => rw [hp] at hr; cases hr
      | cons a t => rw [hp] at hr; obtain rfl := Option.some.inj hr; rfl
    rw [e]
    have hm := List.mem_of_getElem? hr
    have := f.ok.w1
    have := f.ok.w2
    exact g.add (by omega) (by omega) (f.good r hm) (f.cok r hm)
  · exact g
theorem ups_right {w h top bottom : Nat} (h1 : top ≤ bottom) (h2 : bottom < h) {st : Style} (hs : checkStyle st = true) : ∀ (n : Nat) {p : List (List Cell) × List (List Cell)}, RowsR p.1 w h → GoneR p.2 → RowsR (iterF (stepU st.back w top bottom) n p).1 w h ∧ GoneR (iterF (stepU st.back w top bottom) n p).2
  | 0, _, f, g => ⟨f, g⟩
  | n + 1, _, f, g => ups_right h1 h2 hs n (stepU_right h1 h2 hs f g).1 (stepU_right h1 h2 hs f g).2
theorem goneR_of {s : Scr} (h : s.R) (ho : s.ok) : GoneR s.gone := by
  refine ⟨h.gone.1, fun r hr => ?_⟩
  have hc := h.gone.2 r hr
  obtain ⟨w, h', f⟩ := fit_of hc
  have e : ((r.length : Nat) : Int) = w := f.ew
  have h1 := f.w1
  have h2 := f.w2
  have hl : 1 ≤ r.length ∧ r.length ≤ 120 := by omega
  have hg := rows_good (row_fit hl.1 hl.2) hc (row := r) (by rw [row_rows hl.1 hl.2]; exact List.mem_singleton.2 rfl)
  exact ⟨hl.1, hl.2, hg, (ho.gone.2 r hr).2⟩
/-- The screen with these rows, and these that are gone. -/
def Scr.put (s : Scr) (L gone : List (List Cell)) : Scr := { s with g := { s.g with cs := L.flatten }, gone := gone }
theorem put_right {s : Scr} (h : s.R) {w h' : Nat} (hw : s.g.w = w) (hh : s.g.h = h') {L G : List (List Cell)} (f : RowsR L w h') (g : GoneR G) : (s.put L G).R := by
  obtain ⟨h1, h2, h3, h4, h5, h6, h7, h8, h9, h10, h11, h12, h13, h14⟩ := h
  refine ⟨?_, h2, h3, h4, h5, h6, h7, h8, h9, h10, h11, h12, g.check⟩
  show checkG ⟨s.g.w, s.g.h, L.flatten⟩ = 0
  rw [hw, hh]
  exact f.check
theorem put_ok {s : Scr} (h : s.ok) {w h' : Nat} (hw : s.g.w = w) (hh : s.g.h = h') {L G : List (List Cell)} (f : RowsR L w h') (g : GoneR G) : (s.put L G).ok := by
  obtain ⟨h1, h2, h3, h4, h5, h6, h7, h8, h9, h10, h11, h12, h13, h14, h15⟩ := h
  refine ⟨⟨h1.1, h1.2.1, fun c hc => ?_, ?_⟩, h2, h3, h4, h5, h6, h7, h8, h9, h10, h11, h12, h13, h14, ?_, fun r hr => ?_⟩
  · obtain ⟨r, hr, hcr⟩ := List.mem_flatten.1 hc
    exact f.cok r hr c hcr
  · have := f.ok.flat
    have := f.ok.small
    show L.flatten.length * 32 ≤ _
    omega
  · have := g.len
    show G.length * 24 ≤ _
    omega
  · obtain ⟨_, h2, _, h4⟩ := g.row r hr
    exact ⟨by omega, h4⟩
end Go.Eng.YtphoefglfbifdaaDoor
end

/- Screens under way: what is printed; it stays right; plain. -/
section
namespace Go.Eng.YtphoefglfbifdaaDoor
open Go Go.Eng Go.Proofs
set_option linter.unusedSimpArgs false
set_option linter.unusedVariables false
/-- A screen under way: itself, its rows, what is gone. -/
abbrev Wk := Scr × List (List Cell) × List (List Cell)
def feedW (p : Wk) : Wk :=
  if p.1.y = p.1.bottom then ({ p.1 with late := false }, stepU p.1.look.back p.1.g.w.toNat p.1.top.toNat p.1.bottom.toNat p.2)
  else (feedY p.1, p.2)
def beforeW (p : Wk) (k : Int) : Wk := if leaves p.1 k then feedW ({ p.1 with x := 0 }, p.2) else p
def insR (x k : Nat) (row : List Cell) : List Cell := row.take (x + k) ++ (row.drop x).take (row.length - (x + k))
def insB (s : Scr) : Bool := decide ¬bitop .and .i64 s.modes 1 = 0
def putI (ins : Bool) (look : Style) (r : Int) (x : Nat) (row : List Cell) : List Cell := putR look r x (if ins then insR x (widthL r) row else row)
def afterW (q : Wk) (r : Int) : Wk :=
  if q.1.g.w < q.1.x + widthL r then q
  else (behind q.1 r, q.2.1.set q.1.y.toNat (putI (insB q.1) q.1.look r q.1.x.toNat (q.2.1.getD q.1.y.toNat [])), q.2.2)
def printW (p : Wk) (r : Int) : Wk := if widthL r = 0 ∨ p.1.g.w < widthL r then p else afterW (beforeW p (widthL r)) r
theorem insR_len {x k : Nat} {row : List Cell} (h : x + k ≤ row.length) : (insR x k row).length = row.length := by
  simp [insR]; omega
theorem putR_len (look : Style) (r : Int) (x : Nat) (row : List Cell) : (putR look r x row).length = row.length := by
  rw [putR, mendL_len]; split <;> simp
theorem putI_len (ins : Bool) (look : Style) (r : Int) (x : Nat) {row : List Cell} (h : x + widthL r ≤ row.length) : (putI ins look r x row).length = row.length := by
  rw [putI, putR_len]; split
  · exact insR_len h
  · rfl
/-- A screen under way that is right. -/
structure WkR (p : Wk) (w h : Nat) : Prop where
  R : p.1.R
  ok : p.1.ok
  ew : p.1.g.w = w
  eh : p.1.g.h = h
  rows : RowsR p.2.1 w h
  gone : GoneR p.2.2
theorem WkR.right {p : Wk} {w h : Nat} (f : WkR p w h) : (p.1.put p.2.1 p.2.2).R := put_right f.R f.ew f.eh f.rows f.gone
theorem WkR.okS {p : Wk} {w h : Nat} (f : WkR p w h) : (p.1.put p.2.1 p.2.2).ok := put_ok f.ok f.ew f.eh f.rows f.gone
theorem wkR_of {s : Scr} (h0 : s.R) (ho : s.ok) {w h : Nat} (f : s.g.fit w h) : WkR (s, s.g.rows, s.gone) w h := ⟨h0, ho, f.ew, f.eh, rowsR_of f h0.g ho.g, goneR_of h0 ho⟩
theorem R_at {s : Scr} (h : s.R) (x y : Int) (hx : 0 ≤ x ∧ x < s.g.w) (hy : 0 ≤ y ∧ y < s.g.h) : ({ s with x := x, y := y, late := false } : Scr).R := by
  obtain ⟨h1, h2, h3, h4, h5, h6, h7, h8, h9, h10, h11, h12, h13⟩ := h
  exact ⟨h1, ⟨hx.1, hx.2, hy.1, hy.2⟩, h3, h4, (fun h => by cases h), h6, h7, h8, h9, h10, h11, h12, h13⟩
theorem ok_at {s : Scr} (h : s.ok) (x y : Int) (l : Bool) (hx : i64ok x) (hy : i64ok y) : ({ s with x := x, y := y, late := l } : Scr).ok := by
  obtain ⟨h1, h2, h3, h4, h5, h6, h7, h8, h9, h10, h11, h12, h13, h14, h15⟩ := h
  exact ⟨h1, hx, hy, h4, h5, h6, h7, h8, h9, h10, h11, h12, h13, h14, h15⟩
theorem R_sizes {s : Scr} {w h : Nat} (hR : s.R) (hw : s.g.w = w) (hh : s.g.h = h) (f1 : w ≤ 120) (f2 : h ≤ 60) : i64ok s.x ∧ i64ok s.y := by
  have := hR.xy
  unfold i64ok; omega
theorem feedW_right {p : Wk} {w h : Nat} (f : WkR p w h) (x : Int) (hx : 0 ≤ x ∧ x < w) : WkR (feedW ({ p.1 with x := x }, p.2)) w h := by
  obtain ⟨hR, ho, hw, hh, hr, hg⟩ := f
  have hxy := hR.xy
  have htb := hR.tb
  have w2 := hr.ok.w2
  have h2 := hr.ok.h2
  have i1 : i64ok x := by unfold i64ok; omega
  unfold feedW
  dsimp only
  split
  · have hs := stepU_right (w := w) (h := h) (top := p.1.top.toNat) (bottom := p.1.bottom.toNat) (by omega) (by omega) hR.look (p := p.2) hr hg
    rw [hw, Int.toNat_natCast]
    exact ⟨R_at hR x p.1.y (by omega) (by omega), ok_at ho x p.1.y false i1 ho.y, hw, hh, hs.1, hs.2⟩
  · have hy : 0 ≤ (if p.1.y < p.1.g.h - 1 then p.1.y + 1 else p.1.y) ∧ (if p.1.y < p.1.g.h - 1 then p.1.y + 1 else p.1.y) < p.1.g.h := by split <;> omega
    generalize hY : (if p.1.y < p.1.g.h - 1 then p.1.y + 1 else p.1.y) = Y at hy
    have e : feedY { p.1 with x := x } = { p.1 with x := x, y := Y, late := false } := by rw [← hY]; rfl
    rw [e]
    exact ⟨R_at hR x Y (by omega) hy, ok_at ho x Y false i1 (by unfold i64ok; omega), hw, hh, hr, hg⟩
theorem feedW_late (p : Wk) : (feedW p).1.late = false := by
  unfold feedW; split <;> rfl
theorem feedW_modes (p : Wk) : (feedW p).1.modes = p.1.modes := by
  unfold feedW; split <;> rfl
theorem feedW_x (p : Wk) : (feedW p).1.x = p.1.x := by
  unfold feedW; split <;> rfl
theorem beforeW_right {p : Wk} {w h : Nat} (f : WkR p w h) (k : Int) : WkR (beforeW p k) w h ∧ (beforeW p k).1.late = false := by
  unfold beforeW
  split
  · have := f.rows.ok.w1
    exact ⟨feedW_right f 0 (by omega), feedW_late _⟩
  · rename_i hl
    refine ⟨f, ?_⟩
    cases hq : p.1.late with
    | false => rfl
    | true => exact absurd (Or.inl hq) hl
theorem put_pair {l : List Cell} {x : Nat} {r : Int} {look : Style} (h0 : widthL r ≠ 0) (hs : checkStyle look = true) (h1 : ∀ c ∈ l, ¬ badCell c)
    (h2 : ∀ (j : Nat) c d, j + 1 ≠ x + widthL r → l[j]? = some c → l[j + 1]? = some d → widthL c.r = 2 → d.r = 0 → c.s = d.s) :
    pairL (if widthL r = 2 then (l.set x ⟨r, look⟩).set (x + 1) ⟨0, look⟩ else l.set x ⟨r, look⟩) := by
  have hr0 : r ≠ 0 := fun h => h0 (by rw [h]; exact w0)
  have hww := widthL_le r
  have b1 : ¬ badCell ⟨r, look⟩ := by
    rintro (⟨_, h⟩ | h)
    · exact h0 h
    · rw [hs] at h; cases h
  have b2 : ¬ badCell ⟨0, look⟩ := by
    rintro (⟨h, _⟩ | h)
    · exact h rfl
    · rw [hs] at h; cases h
  split
  · rename_i hw
    rw [hw] at h2
    refine ⟨fun c hc => ?_, fun k c d hc hd h3 h4 => ?_⟩
    · rcases List.mem_or_eq_of_mem_set hc with hc | rfl
      · rcases List.mem_or_eq_of_mem_set hc with hc | rfl
        · exact h1 c hc
        · exact b1
      · exact b2
    · rw [List.getElem?_set, List.getElem?_set] at hc hd
      simp only [List.length_set] at hc hd
      by_cases e1 : k = x + 1
      · subst e1
        rw [if_pos rfl] at hc
        split at hc
        · obtain rfl := Option.some.inj hc
          rw [show (Cell.mk 0 look).r = 0 from rfl, w0] at h3; cases h3
        · cases hc
      rw [if_neg (by omega)] at hc
      by_cases e2 : k = x
      · subst e2
        rw [if_pos rfl] at hc
        split at hc
        · obtain rfl := Option.some.inj hc
          rw [if_pos rfl] at hd
          split at hd
          · obtain rfl := Option.some.inj hd; rfl
          · cases hd
        · cases hc
      rw [if_neg (by omega)] at hc
      rw [if_neg (by omega)] at hd
      by_cases e3 : k + 1 = x
      · rw [if_pos e3.symm] at hd
        split at hd
        · obtain rfl := Option.some.inj hd; exact absurd h4 hr0
        · cases hd
      rw [if_neg (by omega)] at hd
      exact h2 k c d (by omega) hc hd h3 h4
  · rename_i hw
    have hw1 : widthL r = 1 := by omega
    rw [hw1] at h2
    refine ⟨fun c hc => ?_, fun k c d hc hd h3 h4 => ?_⟩
    · rcases List.mem_or_eq_of_mem_set hc with hc | rfl
      · exact h1 c hc
      · exact b1
    · rw [List.getElem?_set] at hc hd
      by_cases e2 : k = x
      · subst e2
        rw [if_pos rfl] at hc
        split at hc
        · obtain rfl := Option.some.inj hc
          exact absurd h3 hw
        · cases hc
      rw [if_neg (by omega)] at hc
      by_cases e3 : k + 1 = x
      · rw [if_pos e3.symm] at hd
        split at hd
        · obtain rfl := Option.some.inj hd; exact absurd h4 hr0
        · cases hd
      rw [if_neg (by omega)] at hd
      exact h2 k c d (by omega) hc hd h3 h4
theorem ins_get {x k : Nat} {row : List Cell} (h : x + k ≤ row.length) (j : Nat) : (insR x k row)[j]? = if j < x + k then row[j]? else if j < row.length then row[j - k]? else none := by
  rw [insR, List.getElem?_append, List.length_take, Nat.min_eq_left h]
  split
  · rw [List.getElem?_take, if_pos ‹_›]
  · rw [List.getElem?_take, List.getElem?_drop]
    by_cases hj : j < row.length
    · rw [if_pos hj, if_pos (by omega)]; congr 1; omega
    · rw [if_neg hj, if_neg (by omega)]
theorem putI_good {ins : Bool} {look : Style} {r : Int} {x : Nat} {row : List Cell} (hg : goodI row) (h0 : widthL r ≠ 0) (hx : x + widthL r ≤ row.length) (hs : checkStyle look = true) : goodI (putI ins look r x row) := by
  have hww := widthL_le r
  have hp := hg.pair
  rw [putI, putR]
  refine mendL_good (put_pair h0 hs ?_ ?_)
  · split
    · intro c hc
      obtain ⟨j, hj⟩ := List.getElem?_of_mem hc
      rw [ins_get hx] at hj
      split at hj
      · exact hp.1 c (List.mem_of_getElem? hj)
      · split at hj
        · exact hp.1 c (List.mem_of_getElem? hj)
        · cases hj
    · exact hp.1
  · intro j c d hne hc hd
    split at hc
    · rename_i hi
      rw [if_pos hi] at hd
      rw [ins_get hx] at hc hd
      by_cases hj : j + 1 < x + widthL r
      · rw [if_pos (by omega)] at hc
        rw [if_pos hj] at hd
        exact hp.2 j c d hc hd
      · rw [if_neg (by omega)] at hc hd
        split at hc
        · split at hd
          · rw [show j + 1 - widthL r = j - widthL r + 1 by omega] at hd
            exact hp.2 _ c d hc hd
          · cases hd
        · cases hc
    · rename_i hi
      rw [if_neg hi] at hd
      exact hp.2 j c d hc hd
theorem putI_cok {ins : Bool} {look : Style} {r : Int} {x : Nat} {row : List Cell} (ho : ∀ c ∈ row, c.ok) (hr : i32ok r) (hl : look.ok) : ∀ c ∈ putI ins look r x row, c.ok := by
  rw [putI, putR]
  have h1 : ∀ c ∈ (if ins then insR x (widthL r) row else row), c.ok := by
    split
    · intro c hc
      rw [insR] at hc
      rcases List.mem_append.1 hc with hc | hc
      · exact ho c (List.mem_of_mem_take hc)
      · exact ho c (List.mem_of_mem_drop (List.mem_of_mem_take hc))
    · exact ho
  refine mendL_ok (P := Cell.ok) (fun c hc => blank_ok hc) fun c hc => ?_
  split at hc
  · rcases List.mem_or_eq_of_mem_set hc with hc | rfl
    · rcases List.mem_or_eq_of_mem_set hc with hc | rfl
      · exact h1 c hc
      · exact ⟨hr, hl⟩
    · exact ⟨by show i32ok 0; unfold i32ok; omega, hl⟩
  · rcases List.mem_or_eq_of_mem_set hc with hc | rfl
    · exact h1 c hc
    · exact ⟨hr, hl⟩
theorem afterW_right {q : Wk} {w h : Nat} (f : WkR q w h) (hl : q.1.late = false) {r : Int} (hr : i32ok r) (h0 : widthL r ≠ 0) : WkR (afterW q r) w h := by
  unfold afterW
  split
  · exact f
  rename_i hb
  obtain ⟨hR, ho, hw, hh, hrw, hg⟩ := f
  have hxy := hR.xy
  have w2 := hrw.ok.w2
  have hww := widthL_le r
  obtain ⟨row, hrow, hrl⟩ := hrw.ok.at (y := q.1.y.toNat) (by omega)
  have hm := List.mem_of_getElem? hrow
  rw [List.getD_eq_getElem?_getD, hrow, Option.getD_some]
  have hx : q.1.x.toNat + widthL r ≤ row.length := by omega
  refine ⟨?_, ?_, ?_, ?_, hrw.set _ (by rw [putI_len _ _ _ _ hx, hrl]) (putI_good (hrw.good row hm) h0 hx hR.look) (putI_cok (hrw.cok row hm) hr ho.look), hg⟩
  · obtain ⟨h1, h2, h3, h4, h5, h6, h7, h8, h9, h10, h11, h12, h13⟩ := hR
    show (behind q.1 r).R
    unfold behind
    split
    · exact ⟨h1, (show 0 ≤ q.1.x + widthL r ∧ q.1.x + widthL r < q.1.g.w ∧ 0 ≤ q.1.y ∧ q.1.y < q.1.g.h by omega), h3, h4, (fun h => by rw [show ({ q.1 with x := q.1.x + widthL r, last := r } : Scr).late = q.1.late from rfl, hl] at h; cases h), h6, h7, h8, h9, h10, fun _ => h0, h12, h13⟩
    · refine ⟨h1, (show 0 ≤ q.1.g.w - 1 ∧ q.1.g.w - 1 < q.1.g.w ∧ 0 ≤ q.1.y ∧ q.1.y < q.1.g.h by omega), h3, h4, (fun h => ⟨rfl, ?_⟩), h6, h7, h8, h9, h10, fun _ => h0, h12, h13⟩
      have h' : wrapB q.1 = true := h
      simpa [wrapB] using h'
  · obtain ⟨h1, h2, h3, h4, h5, h6, h7, h8, h9, h10, h11, h12, h13, h14, h15⟩ := ho
    show (behind q.1 r).ok
    unfold behind
    split
    · exact ⟨h1, by show i64ok (q.1.x + widthL r); unfold i64ok; omega, h3, h4, h5, h6, h7, h8, h9, h10, h11, h12, hr, h14, h15⟩
    · exact ⟨h1, by show i64ok (q.1.g.w - 1); unfold i64ok; omega, h3, h4, h5, h6, h7, h8, h9, h10, h11, h12, hr, h14, h15⟩
  · show (behind q.1 r).g.w = w
    unfold behind; split <;> exact hw
  · show (behind q.1 r).g.h = h
    unfold behind; split <;> exact hh
theorem printW_right {p : Wk} {w h : Nat} (f : WkR p w h) {r : Int} (hr : i32ok r) : WkR (printW p r) w h := by
  unfold printW
  split
  · exact f
  · rename_i h0
    obtain ⟨f', hl⟩ := beforeW_right f (widthL r)
    exact afterW_right f' hl hr (fun h => h0 (.inl h))
theorem printsW_right {w h : Nat} : ∀ (l : List Int) {p : Wk}, WkR p w h → (∀ r ∈ l, i32ok r) → WkR (l.foldl printW p) w h
  | [], _, f, _ => f
  | r :: l, _, f, hl => printsW_right l (printW_right f (hl r (List.mem_cons_self))) fun q hq => hl q (List.mem_cons_of_mem _ hq)
end Go.Eng.YtphoefglfbifdaaDoor
end

/- Screens: Change, where rows and what is gone are other ones then. -/
section
namespace Go.Eng.YtphoefglfbifdaaDoor
open Go Go.Eng Go.Proofs
variable (W : World)
set_option linter.unusedSimpArgs false
set_option maxRecDepth 100000
set_option linter.unusedVariables false
set_option maxHeartbeats 8000000
theorem frz_rowI {σ r : Mem} {b sz fz : Nat} {pre l : List PV} (h : Look σ b (.row sz (pre ++ l) fz) r) (n : Nat) (hn : n = l.length) : Frz σ (.rsl b sz pre.length n) (.sl sz l) := by
  subst hn
  exact .rsl b sz _ _ (pre ++ l) l fz r h (by simp) rfl fun j hj => by
    rw [show (pre ++ l).getD (pre.length + j) .dead = l.getD j .dead by simp [List.getD_eq_getElem?_getD, List.getElem?_append_right]]
    exact .refl _
theorem done_rows (b bc bt bg : Nat) (pre : List PV) (s : Scr) (L G : List (List Cell)) (N : Nat) (hN : N = L.flatten.length) (τ : Mem) :
    Done b (s.put L G) (scrB b bc N (.rsl bt 1 0 s.tabs.length) (.rsl bg 1 pre.length G.length) s :: ⟨bc, .row 4 (L.flatten.map encCell) 0⟩ :: gonB bg pre G :: ⟨bt, .row 1 (s.tabs.map PV.bool) 0⟩ :: τ) := by
  refine ⟨bc, N, bt, s.tabs.length, _, _, .refl _, .inr ⟨bg, pre.length, G.length, rfl⟩, ?_, ?_, ?_⟩
  · exact frz_row (l := L.flatten.map encCell) (.here _ _ _) _ (by rw [List.length_map]; exact hN)
  · exact frz_row (l := s.tabs.map PV.bool) (.there _ _ _ _ _ (.there _ _ _ _ _ (.here _ _ _))) _ (by simp)
  · exact frz_rowI (l := G.map encRow) (.there _ _ _ _ _ (.here _ _ _)) _ (by simp)
theorem change_rows (hT : Tabs W) (s : Scr) (hok : s.ok) (hb : checkS s = 0) {w h : Nat} (hr : s.right w h) (g : Nat) (cap : List PV) (τ : Mem) (s1 : Scr) (L G : List (List Cell)) (hs1 : s1.tabs = s.tabs) (hL : L.flatten.length = h * w)
    (hg : ∀ b bc tv bg, ACalls Tryd.prog W g (.bref b 0 :: cap) (scrB b bc (h * w) tv (.rsl bg 1 0 s.gone.length) s :: ⟨bc, .row 4 (s.g.rows.flatten.map encCell) 0⟩ :: gonB bg [] s.gone :: τ)
      (Gives (fun _ : Nat × List PV => .tup []) (fun x => scrB b bc (h * w) tv (.rsl x.1 1 x.2.length G.length) s1 :: ⟨bc, .row 4 (L.flatten.map encCell) 0⟩ :: gonB x.1 x.2 G :: τ) (fun _ => True))) :
    ACalls Tryd.prog W 23 [encScr s, .fn g cap] τ fun v σ' => Frz σ' v (.tup [encScr (s1.put L G), .int .i64 0]) := by
  refine change_ok W hT s hok hb g cap τ (s1.put L G) (fun b bc bt bg => ?_)
  have hx := hg b bc (.rsl bt 1 0 s.tabs.length) bg
  rw [hr.fit.flat, show h * w = s.g.cs.length by rw [hr.fit.len, Nat.mul_comm]] at hx
  refine ACalls.lend hx (r := [⟨bt, .row 1 (s.tabs.map PV.bool) 0⟩]) ?_ ?_
  · refine List.Perm.cons _ (List.Perm.cons _ ?_)
    exact List.perm_append_comm (l₁ := [_]) (l₂ := gonB bg [] s.gone :: τ)
  rintro ⟨bg', pre⟩ -
  refine ⟨rfl, ?_⟩
  have hd := done_rows b bc bt bg' pre s1 L G s.g.cs.length (by rw [hL, hr.fit.len, Nat.mul_comm]) τ
  obtain ⟨c, n1, t, n2, gv, ρ, hp, h2, h3, h4, h5⟩ := hd
  refine ⟨c, n1, t, n2, gv, ρ, List.Perm.trans ?_ hp, h2, h3, h4, h5⟩
  rw [hs1]
  refine List.Perm.cons _ (List.Perm.cons _ (List.Perm.cons _ ?_))
  exact List.perm_append_comm (l₁ := τ) (l₂ := [_])
end Go.Eng.YtphoefglfbifdaaDoor
end
