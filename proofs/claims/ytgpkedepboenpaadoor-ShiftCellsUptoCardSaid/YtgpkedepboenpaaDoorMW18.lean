/- Texts put together: ScrI, ScrI2. -/
import Derived.Test.YtgpkedepboenpaaDoorMK10
/- Package shift's Insert and Delete: cells put in and taken out of a row. -/
section
namespace Go.Eng.YtgpkedepboenpaaDoor
open Go Go.Eng Go.Proofs
variable (W : World)
set_option linter.unusedSimpArgs false
set_option maxRecDepth 100000
set_option linter.unusedVariables false
set_option maxHeartbeats 8000000
theorem stimesI_ok (n : Int) : Pure Tryd.prog W 86 [.int .i64 n] (.int .i64 (timesL n)) := by
  refine Pure.of (acalls_of_vc (drawOk W) Tryd.func86 rfl (by decide) (by decide) rfl ?_)
  (refine g0_ ?_; repeat ((first | refine n1_ fun b_ => ?_ | refine n2_ fun b_ => ?_ | refine n3_ fun b_ pre_ => ?_ | refine Nat1.mk fun q_ hq_ => ?_ | refine em_ fun x_ hx_ => ?_ | refine Elem1.mk fun e_ he_ => ?_); refine g0_ ?_))
  simp only [ifmin, ifmax]
  exact .refl _
/-- A row whose cells were moved right, or left. -/
def movR (x k : Nat) (row : List Cell) : List Cell := row.take (x + k) ++ (row.drop x).take (row.length - (x + k))
def movD (x k : Nat) (row : List Cell) : List Cell := row.take x ++ row.drop (x + k) ++ row.drop (row.length - k)
theorem movR_len {x k : Nat} {row : List Cell} (h : x + k ≤ row.length) : (movR x k row).length = row.length := by simp [movR]; omega
theorem movD_len {x k : Nat} {row : List Cell} (h : x + k ≤ row.length) : (movD x k row).length = row.length := by simp [movD]; omega
theorem fill_get (c : Cell) (a b : Int) (row : List Cell) (j : Nat) : (fillRow c a b row)[j]? = (row[j]?).map fun d => if a ≤ j ∧ (j : Int) < b then c else d := by
  rw [fillRow, List.getElem?_mapIdx]
  congr 1
  funext d
  rw [fillP, inB]
  simp only [Bool.and_eq_true, decide_eq_true_eq]
theorem fill_movR (B : Cell) {x k : Nat} {row : List Cell} (h : x + k ≤ row.length) : fillRow B x ((x + k : Nat) : Int) (movR x k row) = insRow B x k row := by
  refine List.ext_getElem? fun j => ?_
  rw [fill_get, movR, insRow, List.getElem?_take, List.append_assoc, List.getElem?_append, List.getElem?_append, List.getElem?_append, List.getElem?_take, List.getElem?_take, List.getElem?_take, List.getElem?_drop, List.getElem?_replicate]
  simp only [List.length_take, List.length_replicate, List.getElem?_drop]
  by_cases h1 : j < x
  · rw [if_pos (by omega), if_pos (by omega), if_pos (by omega), if_pos (by omega), if_pos h1]
    rw [List.getElem?_eq_getElem (by omega), Option.map_some, if_neg (by omega)]
  · by_cases h2 : j < x + k
    · rw [if_pos (by omega), if_pos (by omega), if_pos (by omega), if_neg (by omega), if_pos (by omega), if_pos (by omega)]
      rw [List.getElem?_eq_getElem (by omega), Option.map_some, if_pos (by omega)]
    · rw [if_neg (by omega)]
      by_cases h3 : j < row.length
      · rw [if_pos (by omega), if_pos h3, if_neg (by omega), if_neg (by omega)]
        rw [show x + (j - min (x + k) row.length) = x + (j - min x row.length - k) by omega]
        rw [List.getElem?_eq_getElem (by omega), Option.map_some, if_neg (by omega)]
      · rw [if_neg (by omega), if_neg h3]; rfl
theorem fill_movD (B : Cell) {x k : Nat} {row : List Cell} (h : x + k ≤ row.length) : fillRow B ((row.length - k : Nat) : Int) ((row.length - k + k : Nat) : Int) (movD x k row) = delRow B x k row := by
  refine List.ext_getElem? fun j => ?_
  rw [fill_get, movD, delRow, List.append_assoc, List.append_assoc, List.getElem?_append, List.getElem?_append, List.getElem?_append, List.getElem?_append]
  simp only [List.length_take, List.length_drop, List.getElem?_drop, List.getElem?_take, List.getElem?_replicate]
  by_cases h1 : j < x
  · simp only [if_pos (show j < min x row.length by omega), if_pos h1, List.getElem?_eq_getElem (show j < row.length by omega), Option.map_some]
    rw [if_neg (by omega)]
  · have n1 : ¬ j < min x row.length := by omega
    by_cases h2 : j < row.length - k
    · simp only [if_neg n1, if_pos (show j - min x row.length < row.length - (x + k) by omega), List.getElem?_eq_getElem (show x + k + (j - min x row.length) < row.length by omega), Option.map_some]
      rw [if_neg (by omega)]
    · have n2 : ¬ j - min x row.length < row.length - (x + k) := by omega
      by_cases h3 : j < row.length
      · simp only [if_neg n1, if_neg n2, if_pos (show j - min x row.length - (row.length - (x + k)) < k by omega), List.getElem?_eq_getElem (show row.length - k + (j - min x row.length - (row.length - (x + k))) < row.length by omega), Option.map_some]
        rw [if_pos (by omega)]
      · simp only [if_neg n1, if_neg n2, if_neg (show ¬ j - min x row.length - (row.length - (x + k)) < k by omega), List.getElem?_eq_none (show row.length ≤ row.length - k + (j - min x row.length - (row.length - (x + k))) by omega), Option.map_none]
theorem clear_movR (back : Int) {x k : Nat} {row : List Cell} (h : x + k ≤ row.length) : clearR back x k (movR x k row) = mendL (insRow (blankB back) x k row) := by rw [clearR, fill_movR _ h]
theorem clear_movD (back : Int) {x k : Nat} {row : List Cell} (h : x + k ≤ row.length) : clearR back (row.length - k) k (movD x k row) = mendL (delRow (blankB back) x k row) := by rw [clearR, fill_movD _ h]
theorem movR_copy {pre row post : List Cell} {a x k w : Nat} (ha : a = pre.length) (hr : row.length = w) (hx : x + k ≤ w) {n m : Nat} (hn : n = w - (x + k)) (hm : m = w - x) :
    ((pre ++ row ++ post).map encCell).take (a + (x + k)) ++ ((((pre ++ row ++ post).drop (a + x)).take m).map encCell).take n ++ ((pre ++ row ++ post).map encCell).drop (a + (x + k) + min n ((((pre ++ row ++ post).drop (a + x)).take m).map encCell).length) = (pre ++ movR x k row ++ post).map encCell := by
  subst ha hr hn hm
  have e1 : ((pre ++ row ++ post).drop (pre.length + x)).take (row.length - x) = row.drop x := by
    rw [List.append_assoc, ← List.drop_drop, List.drop_left, List.drop_append_of_le_length (by omega), List.take_append_of_le_length (by simp), List.take_of_length_le (by simp)]
  rw [e1, List.length_map, List.length_drop, Nat.min_eq_left (by omega)]
  simp only [← List.map_drop, ← List.map_take, ← List.map_append]
  congr 1
  rw [show pre.length + (x + k) + (row.length - (x + k)) = (pre ++ row).length by simp; omega, List.drop_left, List.append_assoc pre row post, List.take_length_add_append, List.take_append_of_le_length hx, movR]
  simp only [List.append_assoc]
theorem movD_copy {pre row post : List Cell} {a x k w : Nat} (ha : a = pre.length) (hr : row.length = w) (hx : x + k ≤ w) {n m : Nat} (hn : n = w - x) (hm : m = w - (x + k)) :
    ((pre ++ row ++ post).map encCell).take (a + x) ++ ((((pre ++ row ++ post).map encCell).drop (a + (x + k))).take m).take n ++ ((pre ++ row ++ post).map encCell).drop (a + x + min n ((((pre ++ row ++ post).map encCell).drop (a + (x + k))).take m).length) = (pre ++ movD x k row ++ post).map encCell := by
  subst ha hr hn hm
  have e1 : ((pre ++ row ++ post).drop (pre.length + (x + k))).take (row.length - (x + k)) = row.drop (x + k) := by
    rw [List.append_assoc, ← List.drop_drop, List.drop_left, List.drop_append_of_le_length (by omega), List.take_append_of_le_length (by simp), List.take_of_length_le (by simp)]
  have e2 : (row.drop (x + k)).take (row.length - x) = row.drop (x + k) := List.take_of_length_le (by simp; omega)
  simp only [← List.map_drop, ← List.map_take, ← List.map_append]
  rw [e1, List.length_map, List.length_drop, Nat.min_eq_right (by omega), e2]
  congr 1
  rw [show pre.length + x + (row.length - (x + k)) = pre.length + (row.length - k) by omega, List.append_assoc pre row post, List.take_length_add_append, List.take_append_of_le_length (by omega), ← List.drop_drop (i := row.length - k) (j := pre.length), List.drop_left, List.drop_append_of_le_length (by omega), movD]
  simp only [List.append_assoc]
theorem sins1_ok (b bc bn : Nat) (tv gv : PV) (s : Scr) {w h : Nat} {L : List (List Cell)} (f : RowsOk L w h) (hw : s.g.w = w) (hh : s.g.h = h) (n : Int) (hx : 0 ≤ s.x ∧ s.x < w) (hy : 0 ≤ s.y ∧ s.y < h) {row : List Cell} (hrow : L[s.y.toNat]? = some row) :
    ACalls Tryd.prog W 111 [.bref b 0, .bref bn 0] [scrB b bc (h * w) tv gv s, ⟨bc, .row 4 (L.flatten.map encCell) 0⟩, numB bn n]
      (Gives (fun _ : Unit => .tup []) (fun _ => [scrB b bc (h * w) tv gv { s with late := false }, ⟨bc, .row 4 ((L.set s.y.toNat (mendL (insRow (blankB s.look.back) s.x.toNat (shiftK s n) row))).flatten.map encCell) 0⟩, numB bn n]) (fun _ => True)) := by
  have hw1 := f.w1
  have hw2 := f.w2
  have hh2 := f.h2
  have hsm := f.small
  have hti := stimesI_ok W n
  have htl : 1 ≤ timesL n ∧ timesL n ≤ 9999 := by unfold timesL; omega
  obtain ⟨⟨gw, gh, cs⟩, X, Y, lt, ⟨fo, ba, bi⟩, tp, bo, modes, tabs, kx, ky, ⟨f2, b2, bi2⟩, km, last, title, gone⟩ := s
  dsimp only [shiftK] at *
  subst hw hh
  obtain ⟨x, rfl⟩ := Int.eq_ofNat_of_zero_le hx.1
  obtain ⟨y, rfl⟩ := Int.eq_ofNat_of_zero_le hy.1
  obtain ⟨k, hk⟩ : ∃ k : Nat, (k : Int) = min (timesL n) ((w : Int) - x) := ⟨(min (timesL n) ((w : Int) - x)).toNat, by omega⟩
  rw [show (min (timesL n) ((w : Int) - x)).toNat = k by omega, Int.toNat_natCast, Int.toNat_natCast]
  rw [Int.toNat_natCast] at hrow
  have hyw : (y + 1) * w ≤ h * w := Nat.mul_le_mul_right _ (by omega)
  have hyw2 : y * w + w ≤ h * w := by rw [← Nat.succ_mul]; exact hyw
  have hrl := f.row row (List.mem_of_getElem? hrow)
  have hpre := take_flat_len f.row (y := y) (by rw [f.len]; omega)
  have hflS : ∀ R, (L.set y R).flatten = (L.take y).flatten ++ R ++ (L.drop (y + 1)).flatten := fun R => flat_set hrow R
  have hflL := flat_at hrow
  have hfl := f.flat
  have hly : y < L.length := lt_of_at hrow
  rw [← clear_movR ba (by omega)]
  have hR : (L.set y (movR x k row))[y]? = some (movR x k row) := by rw [List.getElem?_set_self hly]
  have hc := clear_ok W b bc tv gv ⟨⟨w, h, cs⟩, x, y, false, ⟨fo, ba, bi⟩, tp, bo, modes, tabs, kx, ky, ⟨f2, b2, bi2⟩, km, last, title, gone⟩ (f.set y (by rw [movR_len (by omega), hrl])) rfl rfl y x k hR (by omega) (by omega)
  rw [List.set_set] at hc
  dsimp only at hc
  rw [hflS (movR x k row)] at hc
  rw [hflL] at hfl ⊢
  rw [scrB_eq]
  refine acalls_of_vc (DL_ok (by decide)) Tryd.func111 rfl (by decide) (by decide) rfl ?_
  (refine g0_ ?_; repeat ((first | refine n1_ fun b_ => ?_ | refine n2_ fun b_ => ?_ | refine n3_ fun b_ pre_ => ?_ | refine Nat1.mk fun q_ hq_ => ?_ | refine em_ fun x_ hx_ => ?_ | refine Elem1.mk fun e_ he_ => ?_); refine g0_ ?_))
  refine headL_ (head_ ?_); (refine g0_ ?_; repeat ((first | refine n1_ fun b_ => ?_ | refine n2_ fun b_ => ?_ | refine n3_ fun b_ pre_ => ?_ | refine Nat1.mk fun q_ hq_ => ?_ | refine em_ fun x_ hx_ => ?_ | refine Elem1.mk fun e_ he_ => ?_); refine g0_ ?_))
  refine ⟨_, (rowOwn_ok W bc (h * w) w y h hyw (by omega) (by omega) (by omega)).quiet, ?_⟩; (refine g0_ ?_; repeat ((first | refine n1_ fun b_ => ?_ | refine n2_ fun b_ => ?_ | refine n3_ fun b_ pre_ => ?_ | refine Nat1.mk fun q_ hq_ => ?_ | refine em_ fun x_ hx_ => ?_ | refine Elem1.mk fun e_ he_ => ?_); refine g0_ ?_))
  (refine g0_ ?_; repeat ((first | refine n1_ fun b_ => ?_ | refine n2_ fun b_ => ?_ | refine n3_ fun b_ pre_ => ?_ | refine Nat1.mk fun q_ hq_ => ?_ | refine em_ fun x_ hx_ => ?_ | refine Elem1.mk fun e_ he_ => ?_); refine g0_ ?_))
  refine headL_ (head_ ?_); (refine g0_ ?_; repeat ((first | refine n1_ fun b_ => ?_ | refine n2_ fun b_ => ?_ | refine n3_ fun b_ pre_ => ?_ | refine Nat1.mk fun q_ hq_ => ?_ | refine em_ fun x_ hx_ => ?_ | refine Elem1.mk fun e_ he_ => ?_); refine g0_ ?_))
  refine ⟨_, (hti).quiet, ?_⟩; (refine g0_ ?_; repeat ((first | refine n1_ fun b_ => ?_ | refine n2_ fun b_ => ?_ | refine n3_ fun b_ pre_ => ?_ | refine Nat1.mk fun q_ hq_ => ?_ | refine em_ fun x_ hx_ => ?_ | refine Elem1.mk fun e_ he_ => ?_); refine g0_ ?_))
  (refine g0_ ?_; repeat ((first | refine n1_ fun b_ => ?_ | refine n2_ fun b_ => ?_ | refine n3_ fun b_ pre_ => ?_ | refine Nat1.mk fun q_ hq_ => ?_ | refine em_ fun x_ hx_ => ?_ | refine Elem1.mk fun e_ he_ => ?_); refine g0_ ?_))
  simp only [ifmin]
  rw [← hk]
  refine headL_ (head_ ?_); (refine g0_ ?_; repeat ((first | refine n1_ fun b_ => ?_ | refine n2_ fun b_ => ?_ | refine n3_ fun b_ pre_ => ?_ | refine Nat1.mk fun q_ hq_ => ?_ | refine em_ fun x_ hx_ => ?_ | refine Elem1.mk fun e_ he_ => ?_); refine g0_ ?_))
  refine ⟨_, cloneQ_cells W bc (y * w + x) (w - x) ((L.take y).flatten ++ row ++ (L.drop (y + 1)).flatten) (by omega) (by rw [hfl]; omega) (by omega) (by repeat (first | exact .here _ _ _ | apply Look.there)), ?_⟩
  (refine g0_ ?_; repeat ((first | refine n1_ fun b_ => ?_ | refine n2_ fun b_ => ?_ | refine n3_ fun b_ pre_ => ?_ | refine Nat1.mk fun q_ hq_ => ?_ | refine em_ fun x_ hx_ => ?_ | refine Elem1.mk fun e_ he_ => ?_); refine g0_ ?_))
  refine need.mk ⟨by rw [List.length_map, hfl]; omega, cells_all _, Nat.zero_le _⟩ ?_
  rw [movR_copy (a := y * w) (w := w) hpre.symm hrl (by omega) rfl rfl]
  (refine g0_ ?_; repeat ((first | refine n1_ fun b_ => ?_ | refine n2_ fun b_ => ?_ | refine n3_ fun b_ pre_ => ?_ | refine Nat1.mk fun q_ hq_ => ?_ | refine em_ fun x_ hx_ => ?_ | refine Elem1.mk fun e_ he_ => ?_); refine g0_ ?_))
  refine headL_ (Draws.head ⟨10, by decide +kernel, ?_⟩); (refine g0_ ?_; repeat ((first | refine n1_ fun b_ => ?_ | refine n2_ fun b_ => ?_ | refine n3_ fun b_ pre_ => ?_ | refine Nat1.mk fun q_ hq_ => ?_ | refine em_ fun x_ hx_ => ?_ | refine Elem1.mk fun e_ he_ => ?_); refine g0_ ?_))
  refine ACalls.lend hc (r := [numB bn n]) (.swap _ _ _) ?_
  rintro _ -
  (refine g0_ ?_; repeat ((first | refine n1_ fun b_ => ?_ | refine n2_ fun b_ => ?_ | refine n3_ fun b_ pre_ => ?_ | refine Nat1.mk fun q_ hq_ => ?_ | refine em_ fun x_ hx_ => ?_ | refine Elem1.mk fun e_ he_ => ?_); refine g0_ ?_))
  exact ⟨(), trivial, rfl, wkMem.rfl'⟩
theorem sdel1_ok (b bc bn : Nat) (tv gv : PV) (s : Scr) {w h : Nat} {L : List (List Cell)} (f : RowsOk L w h) (hw : s.g.w = w) (hh : s.g.h = h) (n : Int) (hx : 0 ≤ s.x ∧ s.x < w) (hy : 0 ≤ s.y ∧ s.y < h) {row : List Cell} (hrow : L[s.y.toNat]? = some row) :
    ACalls Tryd.prog W 113 [.bref b 0, .bref bn 0] [scrB b bc (h * w) tv gv s, ⟨bc, .row 4 (L.flatten.map encCell) 0⟩, numB bn n]
      (Gives (fun _ : Unit => .tup []) (fun _ => [scrB b bc (h * w) tv gv { s with late := false }, ⟨bc, .row 4 ((L.set s.y.toNat (mendL (delRow (blankB s.look.back) s.x.toNat (shiftK s n) row))).flatten.map encCell) 0⟩, numB bn n]) (fun _ => True)) := by
  have hw1 := f.w1
  have hw2 := f.w2
  have hh2 := f.h2
  have hsm := f.small
  have hti := stimesI_ok W n
  have htl : 1 ≤ timesL n ∧ timesL n ≤ 9999 := by unfold timesL; omega
  obtain ⟨⟨gw, gh, cs⟩, X, Y, lt, ⟨fo, ba, bi⟩, tp, bo, modes, tabs, kx, ky, ⟨f2, b2, bi2⟩, km, last, title, gone⟩ := s
  dsimp only [shiftK] at *
  subst hw hh
  obtain ⟨x, rfl⟩ := Int.eq_ofNat_of_zero_le hx.1
  obtain ⟨y, rfl⟩ := Int.eq_ofNat_of_zero_le hy.1
  obtain ⟨k, hk⟩ : ∃ k : Nat, (k : Int) = min (timesL n) ((w : Int) - x) := ⟨(min (timesL n) ((w : Int) - x)).toNat, by omega⟩
  rw [show (min (timesL n) ((w : Int) - x)).toNat = k by omega, Int.toNat_natCast, Int.toNat_natCast]
  rw [Int.toNat_natCast] at hrow
  have hyw : (y + 1) * w ≤ h * w := Nat.mul_le_mul_right _ (by omega)
  have hyw2 : y * w + w ≤ h * w := by rw [← Nat.succ_mul]; exact hyw
  have hrl := f.row row (List.mem_of_getElem? hrow)
  have hpre := take_flat_len f.row (y := y) (by rw [f.len]; omega)
  have hflS : ∀ R, (L.set y R).flatten = (L.take y).flatten ++ R ++ (L.drop (y + 1)).flatten := fun R => flat_set hrow R
  have hflL := flat_at hrow
  have hfl := f.flat
  have hly : y < L.length := lt_of_at hrow
  rw [← clear_movD ba (by omega), hrl]
  have hR : (L.set y (movD x k row))[y]? = some (movD x k row) := by rw [List.getElem?_set_self hly]
  have hc := clear_ok W b bc tv gv ⟨⟨w, h, cs⟩, x, y, false, ⟨fo, ba, bi⟩, tp, bo, modes, tabs, kx, ky, ⟨f2, b2, bi2⟩, km, last, title, gone⟩ (f.set y (by rw [movD_len (by omega), hrl])) rfl rfl y (w - k) k hR (by omega) (by omega)
  rw [List.set_set, show ((w - k : Nat) : Int) = (w : Int) - k by omega] at hc
  dsimp only at hc
  rw [hflS (movD x k row)] at hc
  rw [hflL] at hfl ⊢
  rw [scrB_eq]
  refine acalls_of_vc (DL_ok (by decide)) Tryd.func113 rfl (by decide) (by decide) rfl ?_
  (refine g0_ ?_; repeat ((first | refine n1_ fun b_ => ?_ | refine n2_ fun b_ => ?_ | refine n3_ fun b_ pre_ => ?_ | refine Nat1.mk fun q_ hq_ => ?_ | refine em_ fun x_ hx_ => ?_ | refine Elem1.mk fun e_ he_ => ?_); refine g0_ ?_))
  refine headL_ (head_ ?_); (refine g0_ ?_; repeat ((first | refine n1_ fun b_ => ?_ | refine n2_ fun b_ => ?_ | refine n3_ fun b_ pre_ => ?_ | refine Nat1.mk fun q_ hq_ => ?_ | refine em_ fun x_ hx_ => ?_ | refine Elem1.mk fun e_ he_ => ?_); refine g0_ ?_))
  refine ⟨_, (rowOwn_ok W bc (h * w) w y h hyw (by omega) (by omega) (by omega)).quiet, ?_⟩; (refine g0_ ?_; repeat ((first | refine n1_ fun b_ => ?_ | refine n2_ fun b_ => ?_ | refine n3_ fun b_ pre_ => ?_ | refine Nat1.mk fun q_ hq_ => ?_ | refine em_ fun x_ hx_ => ?_ | refine Elem1.mk fun e_ he_ => ?_); refine g0_ ?_))
  (refine g0_ ?_; repeat ((first | refine n1_ fun b_ => ?_ | refine n2_ fun b_ => ?_ | refine n3_ fun b_ pre_ => ?_ | refine Nat1.mk fun q_ hq_ => ?_ | refine em_ fun x_ hx_ => ?_ | refine Elem1.mk fun e_ he_ => ?_); refine g0_ ?_))
  refine headL_ (head_ ?_); (refine g0_ ?_; repeat ((first | refine n1_ fun b_ => ?_ | refine n2_ fun b_ => ?_ | refine n3_ fun b_ pre_ => ?_ | refine Nat1.mk fun q_ hq_ => ?_ | refine em_ fun x_ hx_ => ?_ | refine Elem1.mk fun e_ he_ => ?_); refine g0_ ?_))
  refine ⟨_, (hti).quiet, ?_⟩; (refine g0_ ?_; repeat ((first | refine n1_ fun b_ => ?_ | refine n2_ fun b_ => ?_ | refine n3_ fun b_ pre_ => ?_ | refine Nat1.mk fun q_ hq_ => ?_ | refine em_ fun x_ hx_ => ?_ | refine Elem1.mk fun e_ he_ => ?_); refine g0_ ?_))
  (refine g0_ ?_; repeat ((first | refine n1_ fun b_ => ?_ | refine n2_ fun b_ => ?_ | refine n3_ fun b_ pre_ => ?_ | refine Nat1.mk fun q_ hq_ => ?_ | refine em_ fun x_ hx_ => ?_ | refine Elem1.mk fun e_ he_ => ?_); refine g0_ ?_))
  simp only [ifmin]
  rw [← hk]
  refine headL_ (head_ ?_); (refine g0_ ?_; repeat ((first | refine n1_ fun b_ => ?_ | refine n2_ fun b_ => ?_ | refine n3_ fun b_ pre_ => ?_ | refine Nat1.mk fun q_ hq_ => ?_ | refine em_ fun x_ hx_ => ?_ | refine Elem1.mk fun e_ he_ => ?_); refine g0_ ?_))
  (refine g0_ ?_; repeat ((first | refine n1_ fun b_ => ?_ | refine n2_ fun b_ => ?_ | refine n3_ fun b_ pre_ => ?_ | refine Nat1.mk fun q_ hq_ => ?_ | refine em_ fun x_ hx_ => ?_ | refine Elem1.mk fun e_ he_ => ?_); refine g0_ ?_))
  refine need.mk (by rw [List.length_map, hfl]; omega) ?_
  (refine g0_ ?_; repeat ((first | refine n1_ fun b_ => ?_ | refine n2_ fun b_ => ?_ | refine n3_ fun b_ pre_ => ?_ | refine Nat1.mk fun q_ hq_ => ?_ | refine em_ fun x_ hx_ => ?_ | refine Elem1.mk fun e_ he_ => ?_); refine g0_ ?_))
  refine need.mk ⟨by rw [List.length_map, hfl]; omega, by rw [← List.map_drop, ← List.map_take]; exact cells_all _, Nat.zero_le _⟩ ?_
  rw [movD_copy (a := y * w) (w := w) hpre.symm hrl (by omega) rfl rfl]
  (refine g0_ ?_; repeat ((first | refine n1_ fun b_ => ?_ | refine n2_ fun b_ => ?_ | refine n3_ fun b_ pre_ => ?_ | refine Nat1.mk fun q_ hq_ => ?_ | refine em_ fun x_ hx_ => ?_ | refine Elem1.mk fun e_ he_ => ?_); refine g0_ ?_))
  refine headL_ (Draws.head ⟨13, by decide +kernel, ?_⟩); (refine g0_ ?_; repeat ((first | refine n1_ fun b_ => ?_ | refine n2_ fun b_ => ?_ | refine n3_ fun b_ pre_ => ?_ | refine Nat1.mk fun q_ hq_ => ?_ | refine em_ fun x_ hx_ => ?_ | refine Elem1.mk fun e_ he_ => ?_); refine g0_ ?_))
  refine ACalls.lend hc (r := [numB bn n]) (.swap _ _ _) ?_
  rintro _ -
  (refine g0_ ?_; repeat ((first | refine n1_ fun b_ => ?_ | refine n2_ fun b_ => ?_ | refine n3_ fun b_ pre_ => ?_ | refine Nat1.mk fun q_ hq_ => ?_ | refine em_ fun x_ hx_ => ?_ | refine Elem1.mk fun e_ he_ => ?_); refine g0_ ?_))
  exact ⟨(), trivial, rfl, wkMem.rfl'⟩
theorem insRow_len {B : Cell} {x k : Nat} {row : List Cell} (h : x + k ≤ row.length) : (insRow B x k row).length = row.length := by simp [insRow]; omega
theorem delRow_len {B : Cell} {x k : Nat} {row : List Cell} (h : x + k ≤ row.length) : (delRow B x k row).length = row.length := by simp [delRow]; omega
theorem shiftK_le {s : Scr} {w h : Nat} (hr : s.right w h) (n : Int) {row : List Cell} (hrl : row.length = w) : s.x.toNat + shiftK s n ≤ row.length := by
  have := hr.x
  have := hr.fit.ew
  rw [shiftK]; omega
def insS (s : Scr) (n : Int) : Scr := ({ s with late := false } : Scr).put (s.g.rows.modify s.y.toNat fun row => mendL (insRow (blankB s.look.back) s.x.toNat (shiftK s n) row)) s.gone
theorem shiftInsert_ok (hT : Tabs W) (s : Scr) (hok : s.ok) (n : Int) : Pure Tryd.prog W 49 [encScr s, .int .i64 n] (.tup [encScr (moveE s (insS s n)).1, .int .i64 (moveE s (insS s n)).2]) := by
  by_cases h0 : checkS s = 0
  · obtain ⟨w, h, hr⟩ := right_of h0
    have f := rowsOk_of hr
    obtain ⟨row, hrow, hrl⟩ := at_rows f hr.y
    have e : insS s n = ({ s with late := false } : Scr).put (s.g.rows.set s.y.toNat (mendL (insRow (blankB s.look.back) s.x.toNat (shiftK s n) row))) s.gone := by
      rw [insS, modify_set hrow]
    have fl := (f.set s.y.toNat (r := mendL (insRow (blankB s.look.back) s.x.toNat (shiftK s n) row)) (by rw [mendL_len, insRow_len (shiftK_le hr n hrl), hrl])).flat
    rw [moveE, if_pos h0, e]
    refine Pure.of (acalls_of_vc (drawOk W) Tryd.func49 rfl (by decide) (by decide) rfl ?_)
    (refine g0_ ?_; repeat ((first | refine n1_ fun b_ => ?_ | refine n2_ fun b_ => ?_ | refine n3_ fun b_ pre_ => ?_ | refine Nat1.mk fun q_ hq_ => ?_ | refine em_ fun x_ hx_ => ?_ | refine Elem1.mk fun e_ he_ => ?_); refine g0_ ?_))
    rename_i bn
    refine ACalls.lendF (change_rows W hT s hok h0 hr 111 [.bref bn 0] [numB bn n] { s with late := false } (s.g.rows.set s.y.toNat (mendL (insRow (blankB s.look.back) s.x.toNat (shiftK s n) row))) s.gone rfl fl (fun b bc tv bg => ?_)) (.swap _ _ _) ?_
    · refine ACalls.lend (sins1_ok W b bc bn tv (.rsl bg 1 0 s.gone.length) s f hr.fit.ew hr.fit.eh n hr.x hr.y hrow) (r := [gonB bg [] s.gone]) ?_ ?_
      · exact List.Perm.cons _ (List.Perm.cons _ (.swap _ _ _))
      · rintro _ -
        exact ⟨(bg, []), trivial, rfl, by (first | exact ⟨_, .refl _⟩ | exact wkMem.rfl' | exact ⟨_, .swap _ _ _⟩ | (repeat (first | exact wkMem.nil _ | exact wkMem.rfl' | exact wk_snoc _ _ _ | exact wk_fam (by assumption) _ _ _ | exact wk_famN (by assumption) _ _ _ | (apply wkMem.cons; (case' hl => (repeat (first | exact .here _ _ _ | apply Look.there)))) | apply wkMem.skip)))⟩
    · (refine g0_ ?_; repeat ((first | refine n1_ fun b_ => ?_ | refine n2_ fun b_ => ?_ | refine n3_ fun b_ pre_ => ?_ | refine Nat1.mk fun q_ hq_ => ?_ | refine em_ fun x_ hx_ => ?_ | refine Elem1.mk fun e_ he_ => ?_); refine g0_ ?_))
      exact .refl _
  · rw [moveE, if_neg h0]
    have hb := change_bad W hT s hok h0
    refine Pure.of (acalls_of_vc (drawOk W) Tryd.func49 rfl (by decide) (by decide) rfl ?_)
    (refine g0_ ?_; repeat ((first | refine n1_ fun b_ => ?_ | refine n2_ fun b_ => ?_ | refine n3_ fun b_ pre_ => ?_ | refine Nat1.mk fun q_ hq_ => ?_ | refine em_ fun x_ hx_ => ?_ | refine Elem1.mk fun e_ he_ => ?_); refine g0_ ?_))
    rename_i bn
    refine (hb 111 [.bref bn 0]).use ?_
    (refine g0_ ?_; repeat ((first | refine n1_ fun b_ => ?_ | refine n2_ fun b_ => ?_ | refine n3_ fun b_ pre_ => ?_ | refine Nat1.mk fun q_ hq_ => ?_ | refine em_ fun x_ hx_ => ?_ | refine Elem1.mk fun e_ he_ => ?_); refine g0_ ?_))
    exact .refl _
def delS (s : Scr) (n : Int) : Scr := ({ s with late := false } : Scr).put (s.g.rows.modify s.y.toNat fun row => mendL (delRow (blankB s.look.back) s.x.toNat (shiftK s n) row)) s.gone
theorem shiftDelete_ok (hT : Tabs W) (s : Scr) (hok : s.ok) (n : Int) : Pure Tryd.prog W 50 [encScr s, .int .i64 n] (.tup [encScr (moveE s (delS s n)).1, .int .i64 (moveE s (delS s n)).2]) := by
  by_cases h0 : checkS s = 0
  · obtain ⟨w, h, hr⟩ := right_of h0
    have f := rowsOk_of hr
    obtain ⟨row, hrow, hrl⟩ := at_rows f hr.y
    have e : delS s n = ({ s with late := false } : Scr).put (s.g.rows.set s.y.toNat (mendL (delRow (blankB s.look.back) s.x.toNat (shiftK s n) row))) s.gone := by
      rw [delS, modify_set hrow]
    have fl := (f.set s.y.toNat (r := mendL (delRow (blankB s.look.back) s.x.toNat (shiftK s n) row)) (by rw [mendL_len, delRow_len (shiftK_le hr n hrl), hrl])).flat
    rw [moveE, if_pos h0, e]
    refine Pure.of (acalls_of_vc (drawOk W) Tryd.func50 rfl (by decide) (by decide) rfl ?_)
    (refine g0_ ?_; repeat ((first | refine n1_ fun b_ => ?_ | refine n2_ fun b_ => ?_ | refine n3_ fun b_ pre_ => ?_ | refine Nat1.mk fun q_ hq_ => ?_ | refine em_ fun x_ hx_ => ?_ | refine Elem1.mk fun e_ he_ => ?_); refine g0_ ?_))
    rename_i bn
    refine ACalls.lendF (change_rows W hT s hok h0 hr 113 [.bref bn 0] [numB bn n] { s with late := false } (s.g.rows.set s.y.toNat (mendL (delRow (blankB s.look.back) s.x.toNat (shiftK s n) row))) s.gone rfl fl (fun b bc tv bg => ?_)) (.swap _ _ _) ?_
    · refine ACalls.lend (sdel1_ok W b bc bn tv (.rsl bg 1 0 s.gone.length) s f hr.fit.ew hr.fit.eh n hr.x hr.y hrow) (r := [gonB bg [] s.gone]) ?_ ?_
      · exact List.Perm.cons _ (List.Perm.cons _ (.swap _ _ _))
      · rintro _ -
        exact ⟨(bg, []), trivial, rfl, by (first | exact ⟨_, .refl _⟩ | exact wkMem.rfl' | exact ⟨_, .swap _ _ _⟩ | (repeat (first | exact wkMem.nil _ | exact wkMem.rfl' | exact wk_snoc _ _ _ | exact wk_fam (by assumption) _ _ _ | exact wk_famN (by assumption) _ _ _ | (apply wkMem.cons; (case' hl => (repeat (first | exact .here _ _ _ | apply Look.there)))) | apply wkMem.skip)))⟩
    · (refine g0_ ?_; repeat ((first | refine n1_ fun b_ => ?_ | refine n2_ fun b_ => ?_ | refine n3_ fun b_ pre_ => ?_ | refine Nat1.mk fun q_ hq_ => ?_ | refine em_ fun x_ hx_ => ?_ | refine Elem1.mk fun e_ he_ => ?_); refine g0_ ?_))
      exact .refl _
  · rw [moveE, if_neg h0]
    have hb := change_bad W hT s hok h0
    refine Pure.of (acalls_of_vc (drawOk W) Tryd.func50 rfl (by decide) (by decide) rfl ?_)
    (refine g0_ ?_; repeat ((first | refine n1_ fun b_ => ?_ | refine n2_ fun b_ => ?_ | refine n3_ fun b_ pre_ => ?_ | refine Nat1.mk fun q_ hq_ => ?_ | refine em_ fun x_ hx_ => ?_ | refine Elem1.mk fun e_ he_ => ?_); refine g0_ ?_))
    rename_i bn
    refine (hb 113 [.bref bn 0]).use ?_
    (refine g0_ ?_; repeat ((first | refine n1_ fun b_ => ?_ | refine n2_ fun b_ => ?_ | refine n3_ fun b_ pre_ => ?_ | refine Nat1.mk fun q_ hq_ => ?_ | refine em_ fun x_ hx_ => ?_ | refine Elem1.mk fun e_ he_ => ?_); refine g0_ ?_))
    exact .refl _
end Go.Eng.YtgpkedepboenpaaDoor
end

/- The law ShiftCells. -/
section
namespace Go.Eng.YtgpkedepboenpaaDoor
open Go Go.Eng Go.Proofs
variable (W : World)
set_option linter.unusedSimpArgs false
set_option maxRecDepth 100000
set_option linter.unusedVariables false
set_option maxHeartbeats 8000000
theorem ins_cok {B : Cell} (hB : B.ok) {row : List Cell} (ho : ∀ c ∈ row, c.ok) (x k : Nat) : ∀ c ∈ mendL (insRow B x k row), c.ok := by
  refine mendL_ok (P := Cell.ok) (fun c hc => blank_ok hc) fun c hc => ?_
  rw [insRow] at hc
  have hc := List.mem_of_mem_take hc
  rcases List.mem_append.1 hc with hc | hc
  · rcases List.mem_append.1 hc with hc | hc
    · exact ho c (List.mem_of_mem_take hc)
    · rw [List.eq_of_mem_replicate hc]; exact hB
  · exact ho c (List.mem_of_mem_drop hc)
theorem del_cok {B : Cell} (hB : B.ok) {row : List Cell} (ho : ∀ c ∈ row, c.ok) (x k : Nat) : ∀ c ∈ mendL (delRow B x k row), c.ok := by
  refine mendL_ok (P := Cell.ok) (fun c hc => blank_ok hc) fun c hc => ?_
  rw [delRow] at hc
  rcases List.mem_append.1 hc with hc | hc
  · rcases List.mem_append.1 hc with hc | hc
    · exact ho c (List.mem_of_mem_take hc)
    · exact ho c (List.mem_of_mem_drop hc)
  · rw [List.eq_of_mem_replicate hc]; exact hB
theorem insOp_ok (s : Scr) (hs : s.ok) (n m : Int) : (moveE s (insS s n)).1.ok ∧ ActOp W s (moveE s (insS s n)).1 (moveE s (insS s n)).2 [105, 110, 115, 101, 114, 116] n m := by
  by_cases h0 : checkS s = 0
  · obtain ⟨w, h, hr⟩ := right_of h0
    have f := rowsOk_of hr
    obtain ⟨row, hrow, hrl⟩ := at_rows f hr.y
    have hR := (check_iff s).1 h0
    have hc := rows_cok hs h0 hr
    have e : insS s n = ({ s with late := false } : Scr).put (s.g.rows.set s.y.toNat (mendL (insRow (blankB s.look.back) s.x.toNat (shiftK s n) row))) s.gone := by
      rw [insS, modify_set hrow]
    rw [e]
    refine ⟨moveE_ok hs fun _ => put_okC (late_okS hs) (f.set _ (by rw [mendL_len, insRow_len (shiftK_le hr n hrl), hrl])) (set_cok hc (ins_cok (blankB_ok hR.look) (hc row (List.mem_of_getElem? hrow)) _ _)), actOp_rows W (s1 := { s with late := false }) _ n m rfl rfl rfl rfl (fun w' h' hr' => ?_) fun _ w' h' hr' d cv tv gv bo l hl => actInsert_ok W s n m hr' hrow d cv tv gv bo l hl⟩
    have f' := rowsOk_of hr'
    obtain ⟨row', hrow', hrl'⟩ := at_rows f' hr'.y
    rw [hrow] at hrow'
    cases hrow'
    exact f'.set _ (by rw [mendL_len, insRow_len (shiftK_le hr' n hrl'), hrl'])
  · have e : moveE s (insS s n) = (Scr.none, checkS s) := by rw [moveE, if_neg h0]
    rw [e]
    exact ⟨noneS_ok, fun _ => ⟨rfl, rfl⟩, fun h => absurd h h0⟩
theorem delOp_ok (s : Scr) (hs : s.ok) (n m : Int) : (moveE s (delS s n)).1.ok ∧ ActOp W s (moveE s (delS s n)).1 (moveE s (delS s n)).2 [100, 101, 108, 101, 116, 101] n m := by
  by_cases h0 : checkS s = 0
  · obtain ⟨w, h, hr⟩ := right_of h0
    have f := rowsOk_of hr
    obtain ⟨row, hrow, hrl⟩ := at_rows f hr.y
    have hR := (check_iff s).1 h0
    have hc := rows_cok hs h0 hr
    have e : delS s n = ({ s with late := false } : Scr).put (s.g.rows.set s.y.toNat (mendL (delRow (blankB s.look.back) s.x.toNat (shiftK s n) row))) s.gone := by
      rw [delS, modify_set hrow]
    rw [e]
    refine ⟨moveE_ok hs fun _ => put_okC (late_okS hs) (f.set _ (by rw [mendL_len, delRow_len (shiftK_le hr n hrl), hrl])) (set_cok hc (del_cok (blankB_ok hR.look) (hc row (List.mem_of_getElem? hrow)) _ _)), actOp_rows W (s1 := { s with late := false }) _ n m rfl rfl rfl rfl (fun w' h' hr' => ?_) fun _ w' h' hr' d cv tv gv bo l hl => actDelete_ok W s n m hr' hrow d cv tv gv bo l hl⟩
    have f' := rowsOk_of hr'
    obtain ⟨row', hrow', hrl'⟩ := at_rows f' hr'.y
    rw [hrow] at hrow'
    cases hrow'
    exact f'.set _ (by rw [mendL_len, delRow_len (shiftK_le hr' n hrl'), hrl'])
  · have e : moveE s (delS s n) = (Scr.none, checkS s) := by rw [moveE, if_neg h0]
    rw [e]
    exact ⟨noneS_ok, fun _ => ⟨rfl, rfl⟩, fun h => absurd h h0⟩
theorem shiftCells_ok (hT : Tabs W) (s : Scr) (hs : s.ok) (n : Int) (hn : -9223372036854775808 ≤ n ∧ n ≤ 9223372036854775807) :
    Pure Tryd.prog W 12 [encScr s, .int .i64 n] (.bool true) := by
  have i1 := insOp_ok W s hs n 0
  have i2 := delOp_ok W s hs n 0
  have h1 := one_ok W hT s hs 49 _ _ i1.1 [105, 110, 115, 101, 114, 116] n (shiftInsert_ok W hT s hs n) i1.2
  have h2 := one_ok W hT s hs 50 _ _ i2.1 [100, 101, 108, 101, 116, 101] n (shiftDelete_ok W hT s hs n) i2.2
  clear i1 i2
  refine Pure.of (acalls_of_vc (drawOk W) Tryd.func12 rfl (by decide) (by decide) rfl ?_)
  (refine g0_ ?_; repeat ((first | refine n1_ fun b_ => ?_ | refine n2_ fun b_ => ?_ | refine n3_ fun b_ pre_ => ?_ | refine Nat1.mk fun q_ hq_ => ?_ | refine em_ fun x_ hx_ => ?_ | refine Elem1.mk fun e_ he_ => ?_); refine g0_ ?_))
  refine (h1).use ?_; (refine g0_ ?_; repeat ((first | refine n1_ fun b_ => ?_ | refine n2_ fun b_ => ?_ | refine n3_ fun b_ pre_ => ?_ | refine Nat1.mk fun q_ hq_ => ?_ | refine em_ fun x_ hx_ => ?_ | refine Elem1.mk fun e_ he_ => ?_); refine g0_ ?_))
  (refine g1_ ?_; repeat ((first | refine n1_ fun b_ => ?_ | refine n2_ fun b_ => ?_ | refine n3_ fun b_ pre_ => ?_ | refine Nat1.mk fun q_ hq_ => ?_ | refine em_ fun x_ hx_ => ?_ | refine Elem1.mk fun e_ he_ => ?_); refine g1_ ?_))
  refine (h2).use ?_; (refine g0_ ?_; repeat ((first | refine n1_ fun b_ => ?_ | refine n2_ fun b_ => ?_ | refine n3_ fun b_ pre_ => ?_ | refine Nat1.mk fun q_ hq_ => ?_ | refine em_ fun x_ hx_ => ?_ | refine Elem1.mk fun e_ he_ => ?_); refine g0_ ?_))
  exact .refl _
end Go.Eng.YtgpkedepboenpaaDoor
end
