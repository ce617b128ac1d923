/- Texts put together: Cell, CellClone, MendL, Mend, Grid, CheckL, GridL. -/
import Derived.Test.YtecafnhnkklboaaDoorMS1
import Derived.Test.YtecafnhnkklboaaDoorME3
import Derived.Test.YtecafnhnkklboaaDoorMT1
/- Cells: compared, copied. -/
section
namespace Go.Eng.YtecafnhnkklboaaDoor
open Go Go.Eng Go.Proofs
variable (W : World)
set_option linter.unusedSimpArgs false
set_option maxRecDepth 100000
set_option linter.unusedVariables false
set_option maxHeartbeats 4000000
structure Cell where
  r : Int
  s : Style
  deriving DecidableEq
def i32ok (n : Int) : Prop := -2147483648 ≤ n ∧ n ≤ 2147483647
def Cell.ok (c : Cell) : Prop := i32ok c.r ∧ c.s.ok
def encCell (c : Cell) : PV := .agg [.int .i32 c.r, .int .i64 c.s.fore, .int .i64 c.s.back, .int .i64 c.s.bits]
theorem wf_of_ok32 {n : Int} (h : i32ok n) : (Lit.int .i32 n).wf = true := by
  simp [Lit.wf, IntKind.min, IntKind.max, IntKind.signed, IntKind.bits]; exact h
theorem cells_i32 : Tryd.prog.cellsOf 21 = 1 := by kernel_rfl
def litsCell (c : Cell) : List Lit := .int .i32 c.r :: litsStyle c.s
def encCells (l : List Cell) : PV := .sl 4 (l.map encCell)
end Go.Eng.YtecafnhnkklboaaDoor
end

/- Cells copied; grids: the law's own copies. -/
section
namespace Go.Eng.YtecafnhnkklboaaDoor
open Go Go.Eng Go.Proofs
variable (W : World)
set_option linter.unusedSimpArgs false
set_option maxRecDepth 100000
set_option linter.unusedVariables false
set_option maxHeartbeats 4000000
/-- A row that the call made, of as many elements. -/
abbrev GivesRow (sz : Nat) (l : List PV) : PV → Mem → Prop := Gives (fun b : Nat => .rsl b sz 0 l.length) (fun b => [⟨b, .row sz l 0⟩]) (fun _ => True)
theorem GivesRow.mk {sz : Nat} {l : List PV} {σ : Mem} (b : Nat) {n : Nat} (hn : n = l.length) (hm : wkMem σ [⟨b, .row sz l 0⟩]) : GivesRow sz l (.rsl b sz 0 n) σ := ⟨b, trivial, by rw [hn], hm⟩
theorem GivesRow.pure {P : Program} {f : FuncId} {args : List PV} {sz : Nat} {l : List PV} (h : ACalls P W f args [] (GivesRow sz l)) : Pure P W f args (.sl sz l) :=
  Pure.of (ACalls.weak (h.mono fun v σ' ⟨b, _, hv, hm⟩ => ⟨_, hv ▸ frz_row (.here _ _ _) _ rfl, hm⟩))
theorem cells_all (l : List Cell) : (l.map encCell).all cellsB = true := by simp [cellsB, PV.flat, cellB, encCell]
end Go.Eng.YtecafnhnkklboaaDoor
end

/- Rows mended: the plain law. -/
section
namespace Go.Eng.YtecafnhnkklboaaDoor
open Go Go.Eng Go.Proofs
def Cell.blank (c : Cell) : Cell := { c with r := 32 }
/-- In place: from left to right; p: a wide rune stands before. -/
def mendP : Bool → List Cell → List Cell
  | _, [] => []
  | p, [c] => if widthL c.r = 2 then [c.blank] else if c.r = 0 ∧ p = false then [c.blank] else [c]
  | p, c :: d :: r =>
    if widthL c.r = 2 ∧ d.r ≠ 0 then c.blank :: mendP false (d :: r)
    else if c.r = 0 ∧ p = false then c.blank :: mendP false (d :: r)
    else c :: mendP (decide (widthL c.r = 2)) (d :: r)
def mendL (l : List Cell) : List Cell := mendP false l
end Go.Eng.YtecafnhnkklboaaDoor
end

/- Grids: rows mended in place. -/
section
namespace Go.Eng.YtecafnhnkklboaaDoor
open Go Go.Eng Go.Proofs
variable (W : World)
set_option linter.unusedSimpArgs false
set_option maxRecDepth 100000
set_option linter.unusedVariables false
set_option maxHeartbeats 4000000
theorem set_blank (pre d r post : List Cell) (c : Cell) : (List.map encCell (pre ++ d ++ c :: r ++ post)).set (pre.length + d.length) (.agg [.int .i32 32, .int .i64 c.s.fore, .int .i64 c.s.back, .int .i64 c.s.bits]) = List.map encCell (pre ++ (d ++ [c.blank]) ++ r ++ post) := by
  rw [show (.agg [.int .i32 32, .int .i64 c.s.fore, .int .i64 c.s.back, .int .i64 c.s.bits] : PV) = encCell c.blank from rfl, ← List.map_set]
  congr 1
  rw [List.append_assoc (pre ++ d), List.set_append_right _ _ (by simp)]
  simp
theorem shift_mid (pre d r post : List Cell) (c : Cell) : pre ++ d ++ c :: r ++ post = pre ++ (d ++ [c]) ++ r ++ post := by simp
theorem last_at {pre d r post : List Cell} {q : Nat} {x : Cell} (h : (pre ++ d ++ r ++ post)[pre.length + q]? = some x) (hq : q + 1 = d.length) : ∃ d', d = d' ++ [x] := by
  rcases List.eq_nil_or_concat d with rfl | ⟨d', y, rfl⟩
  · simp at hq
  · simp only [List.concat_eq_append, List.length_append, List.length_cons, List.length_nil] at hq h
    have : q = d'.length := by omega
    subst this
    simp at h
    exact ⟨d', by simp [h]⟩
theorem w32 : widthL 32 = 1 := by decide +kernel
theorem w0 : widthL 0 = 0 := by decide +kernel
theorem mendP_keep {p : Bool} {c : Cell} {r : List Cell} (h1 : widthL c.r ≠ 2) (h2 : ¬ (c.r = 0 ∧ p = false)) : mendP p (c :: r) = c :: mendP false r := by
  cases r <;> simp only [mendP, h1, false_and, if_false, h2, decide_false]
theorem mendP_blank0 {p : Bool} {c : Cell} {r : List Cell} (h1 : c.r = 0) (h2 : p = false) : mendP p (c :: r) = c.blank :: mendP false r := by
  have : ¬ widthL c.r = 2 := by rw [h1, w0]; decide
  rw [h1] at this
  cases r <;> simp only [mendP, this, false_and, if_false, h1, h2, true_and, if_true]
theorem mendP_blank2 {p : Bool} {c : Cell} {r : List Cell} (h1 : widthL c.r = 2) (h2 : ∀ d, r[0]? = some d → d.r ≠ 0) : mendP p (c :: r) = c.blank :: mendP false r := by
  cases r with
  | nil => simp only [mendP, h1, if_true]
  | cons d r => simp only [mendP, h1, true_and, ne_eq, h2 d rfl, not_false_eq_true, if_true]
theorem mendP_wide {p : Bool} {c d : Cell} {r : List Cell} (h1 : widthL c.r = 2) (h2 : d.r = 0) : mendP p (c :: d :: r) = c :: mendP true (d :: r) := by
  have : ¬ c.r = 0 := fun e => by rw [e, w0] at h1; cases h1
  simp only [mendP, h1, true_and, ne_eq, h2, not_true_eq_false, if_false, this, false_and, decide_true]
end Go.Eng.YtecafnhnkklboaaDoor
end

/- Grids: the law's own copies, compared; rows of a grid. -/
section
namespace Go.Eng.YtecafnhnkklboaaDoor
open Go Go.Eng Go.Proofs
variable (W : World)
set_option linter.unusedSimpArgs false
set_option maxRecDepth 100000
set_option linter.unusedVariables false
set_option maxHeartbeats 4000000
structure Grid where
  w : Int
  h : Int
  cs : List Cell
  deriving DecidableEq
def Grid.ok (g : Grid) : Prop := i64ok g.w ∧ i64ok g.h ∧ (∀ c ∈ g.cs, c.ok) ∧ g.cs.length * 32 ≤ 140737488355328
def encGrid (g : Grid) : PV := .agg [.int .i64 g.w, .int .i64 g.h, .sl 4 (g.cs.map encCell)]
def Grid.none : Grid := ⟨0, 0, []⟩
def clampL (x : Int) : Int := min (max x (-1000)) 1000
def sizeB (w h : Int) : Bool := decide (1 ≤ w) && decide (w ≤ 120) && decide (1 ≤ h) && decide (h ≤ 60)
end Go.Eng.YtecafnhnkklboaaDoor
end

/- Grids checked: what is answered. -/
section
namespace Go.Eng.YtecafnhnkklboaaDoor
open Go Go.Eng Go.Proofs
def badCell (c : Cell) : Prop := (c.r ≠ 0 ∧ widthL c.r = 0) ∨ checkStyle c.s = false
instance (c : Cell) : Decidable (badCell c) := inferInstanceAs (Decidable (_ ∨ _))
def leftOk (cs : List Cell) (i : Nat) (c : Cell) : Prop := match cs[i - 1]? with | some p => widthL p.r = 2 ∧ p.s = c.s | none => False
def rightOk (cs : List Cell) (i : Nat) : Prop := match cs[i + 1]? with | some d => d.r = 0 | none => False
instance (cs : List Cell) (i : Nat) (c : Cell) : Decidable (leftOk cs i c) := by unfold leftOk; split <;> infer_instance
instance (cs : List Cell) (i : Nat) : Decidable (rightOk cs i) := by unfold rightOk; split <;> infer_instance
/-- Half a rune. -/
def halfCell (w : Nat) (cs : List Cell) (i : Nat) (c : Cell) : Prop := (c.r = 0 ∧ (i % w = 0 ∨ ¬ leftOk cs i c)) ∨ (widthL c.r = 2 ∧ (i % w = w - 1 ∨ ¬ rightOk cs i))
instance (w : Nat) (cs : List Cell) (i : Nat) (c : Cell) : Decidable (halfCell w cs i c) := inferInstanceAs (Decidable (_ ∨ _))
def errFrom (w : Nat) (cs : List Cell) : Nat → List Cell → Int
  | _, [] => 0
  | i, c :: r => if badCell c then 4 else if halfCell w cs i c then 5 else errFrom w cs (i + 1) r
/-- What a grid's check answers. -/
def checkG (g : Grid) : Int := if sizeB g.w g.h = true ∧ (g.cs.length : Int) = g.w * g.h then errFrom g.w.toNat g.cs 0 g.cs else 3
theorem last_mod {w h i : Nat} (hi : i < w * h) (h2 : ¬ i + 1 < w * h) : i % w = w - 1 := by
  rcases h with _ | k
  · simp at hi
  have hw : 0 < w := by rcases w with _ | w <;> simp at hi ⊢
  have : i = w * k + (w - 1) := by rw [Nat.mul_succ] at hi h2; omega
  rw [this, Nat.mul_add_mod, Nat.mod_eq_of_lt (by omega)]
theorem tmod_nat (i w : Nat) : (i : Int).tmod w = ((i % w : Nat) : Int) := (Int.ofNat_tmod i w).symm
end Go.Eng.YtecafnhnkklboaaDoor
end

/- Grids as rows: what is made of them; plain. -/
section
namespace Go.Eng.YtecafnhnkklboaaDoor
open Go Go.Eng Go.Proofs
/-! ### Something done to one element after the other -/
section
variable {α : Type}
/-- Done to the first n. -/
def upto (p : Nat → α → α) (n : Nat) (l : List α) : List α := l.mapIdx fun k d => if k < n then p k d else d
theorem upto_len (p : Nat → α → α) (n : Nat) (l : List α) : (upto p n l).length = l.length := by simp [upto]
theorem upto_get (p : Nat → α → α) (n : Nat) (l : List α) (k : Nat) : (upto p n l)[k]? = (l[k]?).map fun d => if k < n then p k d else d := by simp [upto, List.getElem?_mapIdx]
theorem upto_from {p : Nat → α → α} {n : Nat} {l : List α} (h : ∀ k d, l[k]? = some d → k < n → p k d = d) : upto p n l = l := by
  refine List.ext_getElem? fun k => ?_
  rw [upto_get]
  cases hk : l[k]? with
  | none => rfl
  | some d =>
    simp only [Option.map_some, Option.some.injEq]
    split
    · exact h k d hk ‹_›
    · rfl
theorem upto_zero (p : Nat → α → α) (l : List α) : upto p 0 l = l := upto_from fun _ _ _ h => by omega
theorem upto_all {p : Nat → α → α} {n : Nat} {l : List α} (h : ∀ k d, l[k]? = some d → n ≤ k → p k d = d) : upto p n l = l.mapIdx p := by
  refine List.ext_getElem? fun k => ?_
  rw [upto_get, List.getElem?_mapIdx]
  cases hk : l[k]? with
  | none => rfl
  | some d =>
    simp only [Option.map_some, Option.some.injEq]
    split
    · rfl
    · exact (h k d hk (by omega)).symm
theorem upto_end {p : Nat → α → α} {n : Nat} {l : List α} (h : l.length ≤ n) : upto p n l = l.mapIdx p :=
  upto_all fun k d hk hn => by have := lt_of_at hk; omega
theorem upto_same {p : Nat → α → α} {n : Nat} {l : List α} {d : α} (h : l[n]? = some d) (hp : p n d = d) : upto p (n + 1) l = upto p n l := by
  refine List.ext_getElem? fun k => ?_
  rw [upto_get, upto_get]
  cases hk : l[k]? with
  | none => rfl
  | some e =>
    simp only [Option.map_some, Option.some.injEq]
    by_cases e1 : k = n
    · subst e1
      rw [h] at hk
      obtain rfl := Option.some.inj hk
      simp [hp]
    · by_cases h1 : k < n
      · rw [if_pos (by omega), if_pos h1]
      · rw [if_neg (by omega), if_neg h1]
theorem upto_set {p : Nat → α → α} {n : Nat} {l : List α} {d : α} (h : l[n]? = some d) : upto p (n + 1) l = (upto p n l).set n (p n d) := by
  have hn := lt_of_at h
  refine List.ext_getElem? fun k => ?_
  rw [upto_get, List.getElem?_set, upto_len]
  by_cases e1 : n = k
  · subst e1
    rw [if_pos rfl, if_pos hn, h]
    simp
  · rw [if_neg e1, upto_get]
    cases hk : l[k]? with
    | none => rfl
    | some e =>
      simp only [Option.map_some, Option.some.injEq]
      by_cases h1 : k < n
      · rw [if_pos (by omega), if_pos h1]
      · rw [if_neg (by omega), if_neg h1]
theorem upto_at (p : Nat → α → α) {n : Nat} {l : List α} {d : α} (h : l[n]? = some d) : (upto p n l)[n]? = some d := by
  rw [upto_get, h]; simp
end
/-! ### Mended as the document mends -/
def mendR : List Cell → List Cell
  | [] => []
  | [c] => if widthL c.r = 2 then [c.blank] else if c.r = 0 then [c.blank] else [c]
  | c :: d :: r => if widthL c.r = 2 then (if d.r = 0 then c :: d :: mendR r else c.blank :: mendR (d :: r)) else if c.r = 0 then c.blank :: mendR (d :: r) else c :: mendR (d :: r)
theorem w00 : widthL 0 = 0 := by decide +kernel
theorem mendP_R : ∀ (n : Nat) (l : List Cell), l.length ≤ n → mendP false l = mendR l
  | 0, l, h => by rw [List.eq_nil_of_length_eq_zero (by omega : l.length = 0)]; rfl
  | n + 1, [], _ => rfl
  | n + 1, [c], _ => by simp [mendP, mendR]
  | n + 1, c :: d :: r, h => by
    simp only [List.length_cons] at h
    have i1 := mendP_R n (d :: r) (by simp; omega)
    have i2 := mendP_R n r (by omega)
    by_cases h1 : widthL c.r = 2
    · by_cases h2 : d.r = 0
      · have h3 : ¬ widthL d.r = 2 := by rw [h2, w00]; decide
        rw [mendR, if_pos h1, if_pos h2, ← i2]
        cases r with
        | nil => simp [mendP, h1, h2, w00, show ¬ c.r = 0 from fun e => by rw [e, w00] at h1; cases h1]
        | cons e r => simp [mendP, h1, h2, w00, show ¬ c.r = 0 from fun e => by rw [e, w00] at h1; cases h1]
      · rw [mendR, if_pos h1, if_neg h2, ← i1]
        simp [mendP, h1, h2]
    · rw [mendR, if_neg h1]
      by_cases h2 : c.r = 0
      · rw [if_pos h2, ← i1]
        simp [mendP, h1, h2, w00]
      · rw [if_neg h2, ← i1]
        simp [mendP, h1, h2]
theorem mendL_R (l : List Cell) : mendL l = mendR l := mendP_R _ l (Nat.le_refl _)
theorem mendP_len : ∀ (l : List Cell) (p : Bool), (mendP p l).length = l.length
  | [], _ => rfl
  | [c], p => by unfold mendP; (repeat' split) <;> rfl
  | c :: d :: r, p => by
    have h1 := mendP_len (d :: r)
    unfold mendP
    (repeat' split) <;> simp [h1]
theorem mendL_len (l : List Cell) : (mendL l).length = l.length := mendP_len l false
theorem mendP_ok {P : Cell → Prop} (hb : ∀ c, P c → P c.blank) : ∀ (l : List Cell) (p : Bool), (∀ c ∈ l, P c) → ∀ c ∈ mendP p l, P c
  | [], _, _, c, hc => by cases hc
  | [d], p, h, c, hc => by
    have hd := h d (by simp)
    unfold mendP at hc
    (repeat' split at hc) <;> (simp at hc; subst hc; first | exact hd | exact hb _ hd)
  | d :: e :: r, p, h, c, hc => by
    have hd := h d (by simp)
    have h1 := fun q => mendP_ok hb (e :: r) q (fun c hc => h c (List.mem_cons_of_mem _ hc))
    unfold mendP at hc
    (repeat' split at hc) <;> (rcases List.mem_cons.1 hc with rfl | hc <;> first | exact hd | exact hb _ hd | exact h1 _ c hc)
theorem mendL_ok {P : Cell → Prop} (hb : ∀ c, P c → P c.blank) {l : List Cell} (h : ∀ c ∈ l, P c) : ∀ c ∈ mendL l, P c := mendP_ok hb l false h
theorem blank_ok {c : Cell} (h : c.ok) : c.blank.ok := ⟨by show i32ok 32; unfold i32ok; omega, h.2⟩
/-! ### Rows -/
def rowsOf (w : Nat) : Nat → List Cell → List (List Cell)
  | 0, _ => []
  | h + 1, cs => cs.take w :: rowsOf w h (cs.drop w)
theorem rowsOf_len (w : Nat) : ∀ (h : Nat) (cs : List Cell), (rowsOf w h cs).length = h
  | 0, _ => rfl
  | h + 1, cs => by simp [rowsOf, rowsOf_len w h]
theorem rowsOf_get (w : Nat) : ∀ (h : Nat) (cs : List Cell) (y : Nat), y < h → (rowsOf w h cs)[y]? = some ((cs.drop (y * w)).take w)
  | 0, _, _, hy => by omega
  | h + 1, cs, 0, _ => by simp [rowsOf]
  | h + 1, cs, y + 1, hy => by
    rw [rowsOf, List.getElem?_cons_succ, rowsOf_get w h _ y (by omega), List.drop_drop, Nat.succ_mul, Nat.add_comm w]
theorem rowsOf_flat (w : Nat) : ∀ (h : Nat) (cs : List Cell), cs.length = w * h → (rowsOf w h cs).flatten = cs
  | 0, cs, hl => by
    have : cs = [] := List.eq_nil_of_length_eq_zero (by simpa using hl)
    subst this; rfl
  | h + 1, cs, hl => by
    rw [rowsOf, List.flatten_cons, rowsOf_flat w h _ (by rw [List.length_drop, hl, Nat.mul_succ]; omega), List.take_append_drop]
theorem rowsOf_row (w h : Nat) (cs : List Cell) (hl : cs.length = w * h) : ∀ r ∈ rowsOf w h cs, r.length = w := by
  intro r hr
  obtain ⟨y, hy⟩ := List.getElem?_of_mem hr
  have hlt := lt_of_at hy
  rw [rowsOf_len] at hlt
  rw [rowsOf_get w h cs y hlt] at hy
  obtain rfl := Option.some.inj hy
  have : (y + 1) * w ≤ h * w := Nat.mul_le_mul_right w hlt
  rw [Nat.succ_mul] at this
  rw [List.length_take, List.length_drop, hl, Nat.mul_comm w h]
  omega
theorem flat_rowsOf (w : Nat) : ∀ (L : List (List Cell)), (∀ r ∈ L, r.length = w) → rowsOf w L.length L.flatten = L
  | [], _ => rfl
  | r :: L, h => by
    have h0 := h r (by simp)
    rw [List.length_cons, rowsOf, List.flatten_cons, List.take_left' h0, List.drop_left' h0, flat_rowsOf w L fun r hr => h r (by simp [hr])]
theorem flat_len (w : Nat) : ∀ (L : List (List Cell)), (∀ r ∈ L, r.length = w) → L.flatten.length = L.length * w
  | [], _ => by simp
  | r :: L, h => by
    rw [List.flatten_cons, List.length_append, h r (by simp), flat_len w L fun r hr => h r (by simp [hr]), List.length_cons, Nat.succ_mul]; omega
/-- One row among the others. -/
theorem flat_at {L : List (List Cell)} {y : Nat} {r : List Cell} (h : L[y]? = some r) : L.flatten = (L.take y).flatten ++ r ++ (L.drop (y + 1)).flatten := by
  conv => lhs; rw [← List.take_append_drop y L, drop_cons_of h]
  simp
theorem flat_set {L : List (List Cell)} {y : Nat} {r : List Cell} (h : L[y]? = some r) (r' : List Cell) : (L.set y r').flatten = (L.take y).flatten ++ r' ++ (L.drop (y + 1)).flatten := by
  have hy := lt_of_at h
  rw [List.set_eq_take_append_cons_drop, if_pos hy]
  simp
theorem take_flat_len {w : Nat} {L : List (List Cell)} (hL : ∀ r ∈ L, r.length = w) {y : Nat} (hy : y ≤ L.length) : (L.take y).flatten.length = y * w := by
  rw [flat_len w _ fun r hr => hL r (List.mem_of_mem_take hr), List.length_take, Nat.min_eq_left hy]
/-! ### What is made of a grid, as rows -/
structure Rect where
  x : Int
  y : Int
  w : Int
  h : Int
def encRect (r : Rect) : PV := .agg [.int .i64 r.x, .int .i64 r.y, .int .i64 r.w, .int .i64 r.h]
def Rect.ok (r : Rect) : Prop := i64ok r.x ∧ i64ok r.y ∧ i64ok r.w ∧ i64ok r.h
theorem clampL_le (x : Int) : -1000 ≤ clampL x ∧ clampL x ≤ 1000 := by unfold clampL; omega
def Grid.rows (g : Grid) : List (List Cell) := rowsOf g.w.toNat g.h.toNat g.cs
/-- a right size, the cells as many -/
structure Grid.fit (g : Grid) (w h : Nat) : Prop where
  ew : g.w = w
  eh : g.h = h
  w1 : 1 ≤ w
  w2 : w ≤ 120
  h1 : 1 ≤ h
  h2 : h ≤ 60
  len : g.cs.length = w * h
theorem fit_of {g : Grid} (h : checkG g = 0) : ∃ w h, g.fit w h := by
  unfold checkG at h
  split at h
  · rename_i h1
    simp only [sizeB, Bool.and_eq_true, decide_eq_true_eq] at h1
    obtain ⟨w, hw⟩ := Int.eq_ofNat_of_zero_le (show 0 ≤ g.w by omega)
    obtain ⟨k, hk⟩ := Int.eq_ofNat_of_zero_le (show 0 ≤ g.h by omega)
    exact ⟨w, k, hw, hk, by omega, by omega, by omega, by omega, by have := h1.2; rw [hw, hk] at this; exact_mod_cast this⟩
  · cases h
theorem Grid.fit.rows {g : Grid} {w h : Nat} (f : g.fit w h) : g.rows = rowsOf w h g.cs := by rw [Grid.rows, f.ew, f.eh]; rfl
theorem Grid.fit.rlen {g : Grid} {w h : Nat} (f : g.fit w h) : g.rows.length = h := by rw [f.rows, rowsOf_len]
theorem Grid.fit.row {g : Grid} {w h : Nat} (f : g.fit w h) : ∀ r ∈ g.rows, r.length = w := by rw [f.rows]; exact rowsOf_row w h g.cs f.len
theorem Grid.fit.flat {g : Grid} {w h : Nat} (f : g.fit w h) : g.rows.flatten = g.cs := by rw [f.rows]; exact rowsOf_flat w h g.cs f.len
theorem Grid.fit.small {g : Grid} {w h : Nat} (f : g.fit w h) : w * h ≤ 7200 := Nat.mul_le_mul f.w2 f.h2
def Grid.withRows (g : Grid) (L : List (List Cell)) : Grid := { g with cs := L.flatten }
/-- Is a place in a span? -/
def inB (a b : Int) (k : Nat) : Bool := decide (a ≤ k) && decide ((k : Int) < b)
def fillP (c : Cell) (a b : Int) (k : Nat) (d : Cell) : Cell := if inB a b k then c else d
def fillRow (c : Cell) (a b : Int) (row : List Cell) : List Cell := row.mapIdx (fillP c a b)
def fillQ (c : Cell) (a b a' b' : Int) (k : Nat) (row : List Cell) : List Cell := if inB a' b' k then mendL (fillRow c a b row) else row
def Rect.x0 (r : Rect) : Int := clampL r.x
def Rect.x1 (r : Rect) : Int := clampL r.x + max (clampL r.w) 0
def Rect.y0 (r : Rect) : Int := clampL r.y
def Rect.y1 (r : Rect) : Int := clampL r.y + max (clampL r.h) 0
def fillG (g : Grid) (r : Rect) (c : Cell) : Grid := g.withRows (g.rows.mapIdx (fillQ c r.x0 r.x1 r.y0 r.y1))
def layP (a : List Cell) (x : Int) (u : Nat) (d : Cell) : Cell := if inB x (x + a.length) u then a.getD ((u : Int) - x).toNat d else d
def layRow (a : List Cell) (x : Int) (row : List Cell) : List Cell := row.mapIdx (layP a x)
/-- Does a span of so many cells from x on meet a row? -/
def meets (x : Int) (n w : Nat) : Bool := decide (x < w) && decide (0 < x + n)
def layQ (A : List (List Cell)) (n w : Nat) (x y : Int) (v : Nat) (row : List Cell) : List Cell := if inB y (y + A.length) v && meets x n w then mendL (layRow (A.getD ((v : Int) - y).toNat []) x row) else row
def layG (g on : Grid) (x y : Int) : Grid := on.withRows (on.rows.mapIdx (layQ g.rows g.w.toNat on.w.toNat (clampL x) (clampL y)))
def partG (g : Grid) (r : Rect) : Grid := ⟨r.w, r.h, (((g.rows.drop r.y.toNat).take r.h.toNat).map fun row => mendL ((row.drop r.x.toNat).take r.w.toNat)).flatten⟩
def blankC : Cell := ⟨32, ⟨0, 0, 0⟩⟩
def newG (w h : Int) : Grid := ⟨w, h, List.replicate (w * h).toNat blankC⟩
end Go.Eng.YtecafnhnkklboaaDoor
end
