/- Texts put together: ScrS. -/
import Derived.Test.YtphoefglfbifdaaDoorMW7
/- Screens: rows that scroll up and down; package shift's Up and Down. -/
section
namespace Go.Eng.YtphoefglfbifdaaDoor
open Go Go.Eng Go.Proofs
variable (W : World)
set_option linter.unusedSimpArgs false
set_option maxRecDepth 100000
set_option linter.unusedVariables false
set_option maxHeartbeats 8000000
/-! ### Which row stands where -/
theorem upR_get (back : Int) (w : Nat) {top bottom : Nat} {L : List (List Cell)} (h1 : top ≤ bottom) (h2 : bottom < L.length) (k : Nat) :
    (upR back w top bottom L)[k]? = if k < top ∨ bottom < k then L[k]? else if k < bottom then L[k + 1]? else some (List.replicate w (blankB back)) := by
  have hm : ∀ k, k ≠ bottom → (midR top bottom L)[k]? = if k < top ∨ bottom < k then L[k]? else L[k + 1]? := fun k hk => by
    rw [midR, List.append_assoc, List.getElem?_append, List.length_take, Nat.min_eq_left (by omega)]
    by_cases e1 : k < top
    · rw [if_pos e1, if_pos (.inl e1), List.getElem?_take, if_pos e1]
    · rw [if_neg e1, List.getElem?_append, List.length_take, List.length_drop, Nat.min_eq_left (by omega)]
      by_cases e2 : k - top < bottom - top
      · rw [if_pos e2, if_neg (by omega), List.getElem?_take, if_pos e2, List.getElem?_drop]
        congr 1; omega
      · rw [if_neg e2, if_pos (by omega), List.getElem?_drop]
        congr 1; omega
  have hl : (midR top bottom L).length = L.length := by simp [midR]; omega
  rw [upR, List.getElem?_set]
  by_cases e : bottom = k
  · subst e
    rw [if_pos rfl, if_pos (by omega), if_neg (by omega), if_neg (by omega)]
  · rw [if_neg e, hm k (by omega)]
    by_cases e1 : k < top ∨ bottom < k
    · rw [if_pos e1, if_pos e1]
    · rw [if_neg e1, if_neg e1, if_pos (by omega)]
theorem downR_get (back : Int) (w : Nat) {top bottom : Nat} {L : List (List Cell)} (h1 : top ≤ bottom) (h2 : bottom < L.length) (k : Nat) :
    (downR back w top bottom L)[k]? = if k < top ∨ bottom < k then L[k]? else if k = top then some (List.replicate w (blankB back)) else L[k - 1]? := by
  have hm : ∀ k, k ≠ top → (mid2R top bottom L)[k]? = if k < top ∨ bottom < k then L[k]? else L[k - 1]? := fun k hk => by
    rw [mid2R, List.append_assoc, List.getElem?_append, List.length_take, Nat.min_eq_left (by omega)]
    by_cases e1 : k < top + 1
    · rw [if_pos e1, if_pos (.inl (by omega)), List.getElem?_take, if_pos e1]
    · rw [if_neg e1, List.getElem?_append, List.length_take, List.length_drop, Nat.min_eq_left (by omega)]
      by_cases e2 : k - (top + 1) < bottom - top
      · rw [if_pos e2, if_neg (by omega), List.getElem?_take, if_pos e2, List.getElem?_drop]
        congr 1; omega
      · rw [if_neg e2, if_pos (by omega), List.getElem?_drop]
        congr 1; omega
  have hl : (mid2R top bottom L).length = L.length := by simp [mid2R]; omega
  rw [downR, List.getElem?_set]
  by_cases e : top = k
  · subst e
    rw [if_pos rfl, if_pos (by omega), if_neg (by omega), if_pos rfl]
  · rw [if_neg e, hm k (by omega)]
    by_cases e1 : k < top ∨ bottom < k
    · rw [if_pos e1, if_pos e1]
    · rw [if_neg e1, if_neg e1, if_neg (by omega)]
theorem upR_length (back : Int) (w : Nat) {top bottom : Nat} {L : List (List Cell)} (h1 : top ≤ bottom) (h2 : bottom < L.length) : (upR back w top bottom L).length = L.length := by
  simp [upR, midR]; omega
theorem downR_length (back : Int) (w : Nat) {top bottom : Nat} {L : List (List Cell)} (h1 : top ≤ bottom) (h2 : bottom < L.length) : (downR back w top bottom L).length = L.length := by
  simp [downR, mid2R]; omega
theorem ups_fst (back : Int) (w top bottom : Nat) : ∀ (n : Nat) (p : List (List Cell) × List (List Cell)), (iterF (stepU back w top bottom) n p).1 = iterF (upR back w top bottom) n p.1
  | 0, _ => rfl
  | n + 1, p => ups_fst back w top bottom n (stepU back w top bottom p)
theorem ups_get (back : Int) (w : Nat) {top bottom : Nat} (h1 : top ≤ bottom) (k : Nat) : ∀ (n : Nat) (L : List (List Cell)), bottom < L.length →
    (iterF (upR back w top bottom) n L)[k]? = if k < top ∨ bottom < k then L[k]? else if k + n ≤ bottom then L[k + n]? else some (List.replicate w (blankB back))
  | 0, L, h2 => by
    show L[k]? = _
    split
    · rfl
    · rw [if_pos (by omega)]; rfl
  | n + 1, L, h2 => by
    show (iterF (upR back w top bottom) n (upR back w top bottom L))[k]? = _
    rw [ups_get back w h1 k n _ (by rw [upR_length back w h1 h2]; exact h2), upR_get back w h1 h2, upR_get back w h1 h2]
    by_cases e : k < top ∨ bottom < k
    · rw [if_pos e, if_pos e, if_pos e]
    · rw [if_neg e, if_neg e]
      by_cases e2 : k + (n + 1) ≤ bottom
      · rw [if_pos (by omega), if_neg (by omega), if_pos (by omega), if_pos e2]; rfl
      · rw [if_neg e2]
        by_cases e3 : k + n ≤ bottom
        · rw [if_pos e3, if_neg (by omega), if_neg (by omega)]
        · rw [if_neg e3]
theorem downs_get (back : Int) (w : Nat) {top bottom : Nat} (h1 : top ≤ bottom) (k : Nat) : ∀ (n : Nat) (L : List (List Cell)), bottom < L.length →
    (iterF (downR back w top bottom) n L)[k]? = if k < top ∨ bottom < k then L[k]? else if top + n ≤ k then L[k - n]? else some (List.replicate w (blankB back))
  | 0, L, h2 => by
    show L[k]? = _
    split
    · rfl
    · rw [if_pos (by omega)]; rfl
  | n + 1, L, h2 => by
    show (iterF (downR back w top bottom) n (downR back w top bottom L))[k]? = _
    rw [downs_get back w h1 k n _ (by rw [downR_length back w h1 h2]; exact h2), downR_get back w h1 h2, downR_get back w h1 h2]
    by_cases e : k < top ∨ bottom < k
    · rw [if_pos e, if_pos e, if_pos e]
    · rw [if_neg e, if_neg e]
      by_cases e2 : top + (n + 1) ≤ k
      · rw [if_pos (by omega), if_neg (by omega), if_neg (by omega), if_pos e2, Nat.sub_sub]
      · rw [if_neg e2]
        by_cases e3 : top + n ≤ k
        · rw [if_pos e3, if_neg (by omega), if_pos (by omega)]
        · rw [if_neg e3]
/-! ### What is gone -/
def lastN (l : List (List Cell)) : List (List Cell) := l.drop (l.length - 50)
theorem goneR_last {l : List (List Cell)} (h : l.length ≤ 51) : goneR l = lastN l := by
  unfold goneR lastN
  split
  · rw [show l.length - 50 = 1 by omega]
  · rw [show l.length - 50 = 0 by omega]; rfl
theorem lastN_app (a b : List (List Cell)) : lastN (lastN a ++ b) = lastN (a ++ b) := by
  unfold lastN
  rw [List.length_append, List.length_append, List.length_drop]
  by_cases e : a.length ≤ 50
  · rw [show a.length - 50 = 0 by omega]; simp
  · rw [show a.length - (a.length - 50) + b.length - 50 = b.length by omega]
    by_cases e2 : b.length ≤ 50
    · rw [List.drop_append, List.drop_append, List.drop_drop, List.length_drop]
      congr 1
      · congr 1; omega
      · congr 1; omega
    · rw [List.drop_append, List.drop_append, List.length_drop, List.drop_of_length_le (by simp; omega), List.drop_of_length_le (l := a) (by omega)]
      congr 2; omega
theorem ups_gone (back : Int) (w bottom : Nat) : ∀ (n : Nat) (L G : List (List Cell)), bottom < L.length → n ≤ bottom + 1 → G.length ≤ 50 → (iterF (stepU back w 0 bottom) n (L, G)).2 = lastN (G ++ L.take n)
  | 0, L, G, _, _, hG => by
    show G = lastN (G ++ [])
    rw [List.append_nil, lastN, show G.length - 50 = 0 by omega]; rfl
  | n + 1, L, G, h2, hn, hG => by
    show (iterF (stepU back w 0 bottom) n (upR back w 0 bottom L, if 0 = 0 then goneR (G ++ L.take 1) else G)).2 = _
    rw [if_pos rfl]
    have hl : (goneR (G ++ L.take 1)).length ≤ 50 := by
      unfold goneR
      split <;> simp at * <;> omega
    rw [ups_gone back w bottom n _ _ (by rw [upR_length back w (Nat.zero_le _) h2]; exact h2) (by omega) hl, goneR_last (by simp; omega), lastN_app, List.append_assoc]
    congr 2
    refine List.ext_getElem? fun k => ?_
    cases k with
    | zero =>
      have : L.take 1 = [L[0]] := by rw [List.take_one, List.head?_eq_getElem?, List.getElem?_eq_getElem (by omega)]; rfl
      rw [this]; simp
    | succ k =>
      have : (L.take 1).length = 1 := by simp; omega
      rw [List.getElem?_append_right (by omega), this, List.getElem?_take, List.getElem?_take, Nat.add_sub_cancel]
      by_cases e : k < n
      · rw [if_pos e, if_pos (by omega), upR_get back w (Nat.zero_le _) h2, if_neg (by omega), if_pos (by omega)]
      · rw [if_neg e, if_neg (by omega)]
/-! ### Package shift -/
theorem stimes_ok (n : Int) : Pure Tryd.prog W 42 [.int .i64 n] (.int .i64 (timesL n)) := by
  refine Pure.of (acalls_of_vc (drawOk W) Tryd.func42 rfl (by decide) (by decide) rfl ?_)
  (refine g0_ ?_; repeat ((first | refine n1_ fun b_ => ?_ | refine n2_ fun b_ => ?_); refine g0_ ?_))
  simp only [ifmin, ifmax]
  exact .refl _
/-- How often rows go. -/
def cntS (s : Scr) (n : Int) : Nat := min (timesL n).toNat (s.bottom.toNat - s.top.toNat + 1)
def upsP (s : Scr) (n : Int) : List (List Cell) × List (List Cell) := iterF (stepU s.look.back s.g.w.toNat s.top.toNat s.bottom.toNat) (cntS s n) (s.g.rows, s.gone)
def shiftUpS (s : Scr) (n : Int) : Scr := s.put (upsP s n).1 (upsP s n).2
def downsP (s : Scr) (n : Int) : List (List Cell) := iterF (downR s.look.back s.g.w.toNat s.top.toNat s.bottom.toNat) (cntS s n) s.g.rows
def shiftDownS (s : Scr) (n : Int) : Scr := s.put (downsP s n) s.gone
theorem ups_ok {w h top bottom : Nat} (h1 : top ≤ bottom) (h2 : bottom < h) (back : Int) : ∀ (n : Nat) {p : List (List Cell) × List (List Cell)}, RowsOk p.1 w h → RowsOk (iterF (stepU back w top bottom) n p).1 w h
  | 0, _, f => f
  | n + 1, _, f => ups_ok h1 h2 back n (p := stepU back w top bottom _) (f.up h1 h2 back)
theorem downs_ok {w h top bottom : Nat} (h1 : top ≤ bottom) (h2 : bottom < h) (back : Int) : ∀ (n : Nat) {L : List (List Cell)}, RowsOk L w h → RowsOk (iterF (downR back w top bottom) n L) w h
  | 0, _, f => f
  | n + 1, _, f => downs_ok h1 h2 back n (f.down h1 h2 back)
theorem sup1_ok (b bc bn : Nat) (tv : PV) (s : Scr) {w h : Nat} {L : List (List Cell)} (f : RowsOk L w h) (hw : s.g.w = w) (hh : s.g.h = h) (top bottom : Nat) (htb : top ≤ bottom) (hbh : bottom < h) (hto : s.top = top) (hbo : s.bottom = bottom) (n : Int)
    (bg : Nat) (gone : List (List Cell)) (hg : gone.length ≤ 50) :
    ACalls Tryd.prog W 45 [.bref b 0, .bref bn 0] [scrB b bc (h * w) tv (.rsl bg 1 0 gone.length) s, ⟨bc, .row 4 (L.flatten.map encCell) 0⟩, gonB bg [] gone, numB bn n]
      (Gives (fun _ : Nat × List PV => .tup []) (fun x => [scrB b bc (h * w) tv (.rsl x.1 1 x.2.length (iterF (stepU s.look.back w top bottom) (cntS s n) (L, gone)).2.length) s,
        ⟨bc, .row 4 ((iterF (stepU s.look.back w top bottom) (cntS s n) (L, gone)).1.flatten.map encCell) 0⟩, gonB x.1 x.2 (iterF (stepU s.look.back w top bottom) (cntS s n) (L, gone)).2, numB bn n]) (fun _ => True)) := by
  have ht : 1 ≤ timesL n ∧ timesL n ≤ 9999 := by unfold timesL; omega
  obtain ⟨t, hte⟩ := Int.eq_ofNat_of_zero_le (show 0 ≤ timesL n by omega)
  have hup := up_ok W b bc tv s f hw hh top bottom t htb hbh hbo (by omega) bg [] gone (.inl rfl) hg
  rw [show min t (bottom - top + 1) = cntS s n by rw [cntS, hte, hbo, hto]; rfl] at hup
  have hti := stimes_ok W n
  rw [hte] at hti
  generalize iterF (stepU s.look.back w top bottom) (cntS s n) (L, gone) = F at *
  refine acalls_of_vc (drawOk W) Tryd.func45 rfl (by decide) (by decide) rfl ?_
  (refine g0_ ?_; repeat ((first | refine n1_ fun b_ => ?_ | refine n2_ fun b_ => ?_); refine g0_ ?_))
  refine Draws.head ⟨7, by decide +kernel, ?_⟩
  (refine g0_ ?_; repeat ((first | refine n1_ fun b_ => ?_ | refine n2_ fun b_ => ?_); refine g0_ ?_))
  refine ⟨_, (hti).quiet, ?_⟩; (refine g0_ ?_; repeat ((first | refine n1_ fun b_ => ?_ | refine n2_ fun b_ => ?_); refine g0_ ?_))
  rw [hto]
  refine ACalls.lend hup (r := [numB bn n]) (.refl _) ?_
  rintro x -
  (refine g0_ ?_; repeat ((first | refine n1_ fun b_ => ?_ | refine n2_ fun b_ => ?_); refine g0_ ?_))
  exact ⟨x, trivial, rfl, by (first | exact ⟨_, .refl _⟩ | exact wkMem.rfl' | exact ⟨_, .swap _ _ _⟩ | (repeat (first | exact wkMem.nil _ | exact wkMem.rfl' | exact wk_snoc _ _ _ | exact wk_fam (by assumption) _ _ _ | exact wk_famN (by assumption) _ _ _ | (apply wkMem.cons; (case' hl => (repeat (first | exact .here _ _ _ | apply Look.there)))) | apply wkMem.skip)))⟩
theorem sdown1_ok (b bc bn : Nat) (tv gv : PV) (s : Scr) {w h : Nat} {L : List (List Cell)} (f : RowsOk L w h) (hw : s.g.w = w) (hh : s.g.h = h) (top bottom : Nat) (htb : top ≤ bottom) (hbh : bottom < h) (hto : s.top = top) (hbo : s.bottom = bottom) (n : Int) :
    ACalls Tryd.prog W 46 [.bref b 0, .bref bn 0] [scrB b bc (h * w) tv gv s, ⟨bc, .row 4 (L.flatten.map encCell) 0⟩, numB bn n]
      (Gives (fun _ : Unit => .tup []) (fun x => [scrB b bc (h * w) tv gv s, ⟨bc, .row 4 ((iterF (downR s.look.back w top bottom) (cntS s n) L).flatten.map encCell) 0⟩, numB bn n]) (fun _ => True)) := by
  have ht : 1 ≤ timesL n ∧ timesL n ≤ 9999 := by unfold timesL; omega
  obtain ⟨t, hte⟩ := Int.eq_ofNat_of_zero_le (show 0 ≤ timesL n by omega)
  have hdn := down_ok W b bc tv gv s f hw hh top bottom t htb hbh hbo (by omega)
  rw [show min t (bottom - top + 1) = cntS s n by rw [cntS, hte, hbo, hto]; rfl] at hdn
  have hti := stimes_ok W n
  rw [hte] at hti
  generalize iterF (downR s.look.back w top bottom) (cntS s n) L = F at *
  refine acalls_of_vc (drawOk W) Tryd.func46 rfl (by decide) (by decide) rfl ?_
  (refine g0_ ?_; repeat ((first | refine n1_ fun b_ => ?_ | refine n2_ fun b_ => ?_); refine g0_ ?_))
  refine Draws.head ⟨7, by decide +kernel, ?_⟩
  (refine g0_ ?_; repeat ((first | refine n1_ fun b_ => ?_ | refine n2_ fun b_ => ?_); refine g0_ ?_))
  refine ⟨_, (hti).quiet, ?_⟩; (refine g0_ ?_; repeat ((first | refine n1_ fun b_ => ?_ | refine n2_ fun b_ => ?_); refine g0_ ?_))
  rw [hto]
  refine ACalls.lend hdn (r := [numB bn n]) (.refl _) ?_
  rintro x -
  (refine g0_ ?_; repeat ((first | refine n1_ fun b_ => ?_ | refine n2_ fun b_ => ?_); refine g0_ ?_))
  exact ⟨(), trivial, rfl, by (first | exact ⟨_, .refl _⟩ | exact wkMem.rfl' | exact ⟨_, .swap _ _ _⟩ | (repeat (first | exact wkMem.nil _ | exact wkMem.rfl' | exact wk_snoc _ _ _ | exact wk_fam (by assumption) _ _ _ | exact wk_famN (by assumption) _ _ _ | (apply wkMem.cons; (case' hl => (repeat (first | exact .here _ _ _ | apply Look.there)))) | apply wkMem.skip)))⟩
theorem rowsOk_of' {s : Scr} {w h : Nat} (hr : s.right w h) : RowsOk s.g.rows w h := ⟨hr.fit.rlen, hr.fit.row, hr.fit.w1, hr.fit.w2, hr.fit.h1, hr.fit.h2⟩
theorem shiftUp_ok (hT : Tabs W) (s : Scr) (hok : s.ok) (n : Int) : Pure Tryd.prog W 18 [encScr s, .int .i64 n] (.tup [encScr (moveE s (shiftUpS s n)).1, .int .i64 (moveE s (shiftUpS s n)).2]) := by
  by_cases h0 : checkS s = 0
  · obtain ⟨w, h, hr⟩ := right_of h0
    have f := rowsOk_of' hr
    have ht := hr.top
    obtain ⟨top, hto⟩ := Int.eq_ofNat_of_zero_le ht.1
    obtain ⟨bottom, hbo⟩ := Int.eq_ofNat_of_zero_le (show 0 ≤ s.bottom by omega)
    have hup := fun b bc bn tv bg => sup1_ok W b bc bn tv s f hr.fit.ew hr.fit.eh top bottom (by omega) (by omega) hto hbo n bg s.gone hr.gone
    have e : iterF (stepU s.look.back w top bottom) (cntS s n) (s.g.rows, s.gone) = upsP s n := by rw [upsP, hr.fit.ew, hto, hbo]; rfl
    have fo := ups_ok (w := w) (h := h) (top := top) (bottom := bottom) (by omega) (by omega) s.look.back (cntS s n) (p := (s.g.rows, s.gone)) f
    rw [e] at hup fo
    rw [moveE, if_pos h0, shiftUpS]
    generalize upsP s n = F at *
    refine Pure.of (acalls_of_vc (drawOk W) Tryd.func18 rfl (by decide) (by decide) rfl ?_)
    (refine g0_ ?_; repeat ((first | refine n1_ fun b_ => ?_ | refine n2_ fun b_ => ?_); refine g0_ ?_))
    rename_i bn
    refine ACalls.lendF (change_rows W hT s hok h0 hr 45 [.bref bn 0] [numB bn n] s F.1 F.2 rfl fo.flat (fun b bc tv bg => (hup b bc bn tv bg))) (.swap _ _ _) ?_
    (refine g0_ ?_; repeat ((first | refine n1_ fun b_ => ?_ | refine n2_ fun b_ => ?_); refine g0_ ?_))
    exact .refl _
  · rw [moveE, if_neg h0]
    have hb := change_bad W hT s hok h0
    refine Pure.of (acalls_of_vc (drawOk W) Tryd.func18 rfl (by decide) (by decide) rfl ?_)
    (refine g0_ ?_; repeat ((first | refine n1_ fun b_ => ?_ | refine n2_ fun b_ => ?_); refine g0_ ?_))
    rename_i bn
    refine (hb 45 [.bref bn 0]).use ?_
    (refine g0_ ?_; repeat ((first | refine n1_ fun b_ => ?_ | refine n2_ fun b_ => ?_); refine g0_ ?_))
    exact .refl _
theorem shiftDown_ok (hT : Tabs W) (s : Scr) (hok : s.ok) (n : Int) : Pure Tryd.prog W 19 [encScr s, .int .i64 n] (.tup [encScr (moveE s (shiftDownS s n)).1, .int .i64 (moveE s (shiftDownS s n)).2]) := by
  by_cases h0 : checkS s = 0
  · obtain ⟨w, h, hr⟩ := right_of h0
    have f := rowsOk_of' hr
    have ht := hr.top
    obtain ⟨top, hto⟩ := Int.eq_ofNat_of_zero_le ht.1
    obtain ⟨bottom, hbo⟩ := Int.eq_ofNat_of_zero_le (show 0 ≤ s.bottom by omega)
    have hdn := fun b bc bn tv gv => sdown1_ok W b bc bn tv gv s f hr.fit.ew hr.fit.eh top bottom (by omega) (by omega) hto hbo n
    have e : iterF (downR s.look.back w top bottom) (cntS s n) s.g.rows = downsP s n := by rw [downsP, hr.fit.ew, hto, hbo]; rfl
    have fo := downs_ok (w := w) (h := h) (top := top) (bottom := bottom) (by omega) (by omega) s.look.back (cntS s n) (L := s.g.rows) f
    rw [e] at hdn fo
    rw [moveE, if_pos h0, shiftDownS]
    generalize downsP s n = F at *
    refine Pure.of (acalls_of_vc (drawOk W) Tryd.func19 rfl (by decide) (by decide) rfl ?_)
    (refine g0_ ?_; repeat ((first | refine n1_ fun b_ => ?_ | refine n2_ fun b_ => ?_); refine g0_ ?_))
    rename_i bn
    refine ACalls.lendF (change_rows W hT s hok h0 hr 46 [.bref bn 0] [numB bn n] s F s.gone rfl fo.flat (fun b bc tv bg => ?_)) (.swap _ _ _) ?_
    · refine ACalls.lend (hdn b bc bn tv (.rsl bg 1 0 s.gone.length)) (r := [gonB bg [] s.gone]) ?_ ?_
      · exact List.Perm.cons _ (List.Perm.cons _ (.swap _ _ _))
      · rintro _ -
        exact ⟨(bg, []), trivial, rfl, by (first | exact ⟨_, .refl _⟩ | exact wkMem.rfl' | exact ⟨_, .swap _ _ _⟩ | (repeat (first | exact wkMem.nil _ | exact wkMem.rfl' | exact wk_snoc _ _ _ | exact wk_fam (by assumption) _ _ _ | exact wk_famN (by assumption) _ _ _ | (apply wkMem.cons; (case' hl => (repeat (first | exact .here _ _ _ | apply Look.there)))) | apply wkMem.skip)))⟩
    · (refine g0_ ?_; repeat ((first | refine n1_ fun b_ => ?_ | refine n2_ fun b_ => ?_); refine g0_ ?_))
      exact .refl _
  · rw [moveE, if_neg h0]
    have hb := change_bad W hT s hok h0
    refine Pure.of (acalls_of_vc (drawOk W) Tryd.func19 rfl (by decide) (by decide) rfl ?_)
    (refine g0_ ?_; repeat ((first | refine n1_ fun b_ => ?_ | refine n2_ fun b_ => ?_); refine g0_ ?_))
    rename_i bn
    refine (hb 46 [.bref bn 0]).use ?_
    (refine g0_ ?_; repeat ((first | refine n1_ fun b_ => ?_ | refine n2_ fun b_ => ?_); refine g0_ ?_))
    exact .refl _
end Go.Eng.YtphoefglfbifdaaDoor
end
