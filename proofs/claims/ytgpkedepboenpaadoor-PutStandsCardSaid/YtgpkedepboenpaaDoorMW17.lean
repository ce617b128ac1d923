/- Texts put together: StandL, StandL2, Stand. -/
import Derived.Test.YtgpkedepboenpaaDoorMW14
import Derived.Test.YtgpkedepboenpaaDoorMG2
import Derived.Test.YtgpkedepboenpaaDoorMT1
import Derived.Test.YtgpkedepboenpaaDoorMV1
/- What is printed on an empty row stands there: plain laws. -/
section
namespace Go.Eng.YtgpkedepboenpaaDoor
open Go Go.Eng Go.Proofs
set_option linter.unusedSimpArgs false
set_option linter.unusedVariables false
def encQ : List Nat → List UInt8
  | [] => []
  | r :: l => Lib.encodeRune r ++ encQ l
def wideQ : List Nat → Nat
  | [] => 0
  | r :: l => widthL r + wideQ l
/-- Runes that take cells. -/
def okQ (l : List Nat) : Prop := ∀ r ∈ l, 0 < widthL (r : Int)
def cellQ (r : Nat) : List Cell := if widthL (r : Int) = 2 then [⟨r, ⟨0, 0, 0⟩⟩, ⟨0, ⟨0, 0, 0⟩⟩] else [⟨r, ⟨0, 0, 0⟩⟩]
def rowQ : List Nat → List Cell
  | [] => []
  | r :: l => cellQ r ++ rowQ l
theorem cellQ_len {r : Nat} (h : 0 < widthL (r : Int)) : (cellQ r).length = widthL (r : Int) := by
  have := widthL_le (r : Int)
  unfold cellQ
  split
  · rename_i h2; rw [h2]; rfl
  · show 1 = _; omega
theorem okQ.tail {r : Nat} {l : List Nat} (h : okQ (r :: l)) : okQ l := fun q hq => h q (List.mem_cons_of_mem _ hq)
theorem okQ.head {r : Nat} {l : List Nat} (h : okQ (r :: l)) : 0 < widthL (r : Int) := h r List.mem_cons_self
theorem rowQ_len : ∀ {l : List Nat}, okQ l → (rowQ l).length = wideQ l
  | [], _ => rfl
  | r :: l, h => by rw [rowQ, List.length_append, cellQ_len h.head, rowQ_len h.tail, wideQ]
theorem rowQ_app : ∀ (l m : List Nat), rowQ (l ++ m) = rowQ l ++ rowQ m
  | [], _ => rfl
  | r :: l, m => by rw [List.cons_append, rowQ, rowQ_app l m, rowQ, List.append_assoc]
theorem wideQ_app : ∀ (l m : List Nat), wideQ (l ++ m) = wideQ l + wideQ m
  | [], m => by rw [List.nil_append, wideQ, Nat.zero_add]
  | r :: l, m => by rw [List.cons_append, wideQ, wideQ_app l m, wideQ, Nat.add_assoc]
theorem mendR_one {c : Cell} (h : widthL c.r ≠ 2) (h0 : c.r ≠ 0) (r : List Cell) : mendR (c :: r) = c :: mendR r := by
  cases r with
  | nil =>
    show (if widthL c.r = 2 then [c.blank] else if c.r = 0 then [c.blank] else [c]) = [c]
    rw [if_neg h, if_neg h0]
  | cons d r => rw [mendR, if_neg h, if_neg h0]
theorem mendR_two {c d : Cell} (h : widthL c.r = 2) (h0 : d.r = 0) (r : List Cell) : mendR (c :: d :: r) = c :: d :: mendR r := by
  rw [mendR, if_pos h, if_pos h0]
theorem mendR_blank : ∀ k : Nat, mendR (List.replicate k blankC) = List.replicate k blankC
  | 0 => rfl
  | k + 1 => by rw [List.replicate_succ, mendR_one (by decide +kernel) (by decide), mendR_blank k]
theorem zero_of_width {r : Int} (h : 0 < widthL r) : r ≠ 0 := fun e => by rw [e, w00] at h; omega
theorem mendR_row (k : Nat) : ∀ {l : List Nat}, okQ l → mendR (rowQ l ++ List.replicate k blankC) = rowQ l ++ List.replicate k blankC
  | [], _ => mendR_blank k
  | r :: l, h => by
    have ih := mendR_row k h.tail
    have h0 := zero_of_width h.head
    rw [rowQ, List.append_assoc]
    unfold cellQ
    split
    · rename_i h2
      rw [List.cons_append, List.cons_append, List.nil_append, mendR_two (by exact h2) rfl, ih]
    · rename_i h2
      rw [List.cons_append, List.nil_append, mendR_one (by exact h2) (by exact h0), ih]
theorem lineFrom_app : ∀ (l m : List Cell), lineFrom (l ++ m) = lineFrom l ++ lineFrom m
  | [], _ => rfl
  | c :: l, m => by
    rw [List.cons_append, lineFrom, lineFrom_app l m, lineFrom]
    split
    · rfl
    · rw [List.append_assoc]
theorem lineFrom_blank : ∀ k : Nat, lineFrom (List.replicate k blankC) = List.replicate k 32
  | 0 => rfl
  | k + 1 => by
    rw [List.replicate_succ, lineFrom, if_neg (by decide), lineFrom_blank k, List.replicate_succ]
    rw [show Lib.encodeRune blankC.r = [32] by decide +kernel]; rfl
theorem lineFrom_row : ∀ {l : List Nat}, okQ l → lineFrom (rowQ l) = encQ l
  | [], _ => rfl
  | r :: l, h => by
    have h0 := zero_of_width h.head
    rw [rowQ, lineFrom_app, lineFrom_row h.tail, encQ]
    congr 1
    unfold cellQ
    split
    · rw [lineFrom, if_neg (by exact h0), lineFrom, if_pos rfl]; simp [lineFrom]
    · rw [lineFrom, if_neg (by exact h0)]; simp [lineFrom]
theorem trim_rep (a : List UInt8) : ∀ k : Nat, Lib.trimRightB (a ++ List.replicate k 32) 32 = Lib.trimRightB a 32
  | 0 => by rw [List.replicate_zero, List.append_nil]
  | k + 1 => by
    rw [List.replicate_succ', ← List.append_assoc]
    have := trim_rep a k
    unfold Lib.trimRightB at *
    rw [List.reverse_append]
    simp [this]
theorem trim_snoc (a : List UInt8) (x : UInt8) : Lib.trimRightB (a ++ [x]) 32 = if x = 32 then Lib.trimRightB a 32 else a ++ [x] := by
  unfold Lib.trimRightB
  rw [List.reverse_append, List.reverse_singleton, List.singleton_append, List.dropWhile_cons]
  split
  · rename_i h; rw [if_pos (by simpa using h)]
  · rename_i h; rw [if_neg (by simpa using h)]; simp
theorem lineL_row {l : List Nat} (h : okQ l) (k : Nat) : lineL (rowQ l ++ List.replicate k blankC) = Lib.trimRightB (encQ l) 32 := by
  rw [lineL, lineFrom_app, lineFrom_row h, lineFrom_blank, trim_rep]
/-- The screen behind what was printed. -/
def lastQ (l : List Nat) : Int := match l.getLast? with | some r => r | none => 0
def stQ (w : Nat) (l : List Nat) : Wk := ({ newS w 1 with x := if wideQ l < w then (wideQ l : Int) else (w : Int) - 1, late := decide (¬ wideQ l < w), last := lastQ l }, [rowQ l ++ List.replicate (w - wideQ l) blankC], [])
theorem set_row (a : List Cell) (c : Cell) (k : Nat) (hk : 0 < k) (x : Nat) (hx : x = a.length) : (a ++ List.replicate k blankC).set x c = (a ++ [c]) ++ List.replicate (k - 1) blankC := by
  obtain ⟨k, rfl⟩ : ∃ j, k = j + 1 := ⟨k - 1, by omega⟩
  subst hx
  rw [List.set_append_right _ _ (Nat.le_refl _), Nat.sub_self, List.replicate_succ, List.set_cons_zero, List.append_assoc]; rfl
theorem print_stQ {w : Nat} (hw : 2 ≤ w) {l : List Nat} (hl : okQ l) {r : Nat} (hr : 0 < widthL (r : Int)) (hf : wideQ l + widthL (r : Int) ≤ w) : printW (stQ w l) r = stQ w (l ++ [r]) := by
  have hww := widthL_le (r : Int)
  have hlt : wideQ l < w := by omega
  have hx : (stQ w l).1.x = wideQ l := by show (if wideQ l < w then (wideQ l : Int) else (w : Int) - 1) = _; rw [if_pos hlt]
  have hlate : (stQ w l).1.late = false := by show decide (¬ wideQ l < w) = false; simp [hlt]
  have hgw : (stQ w l).1.g.w = w := rfl
  have hwr : wideQ (l ++ [r]) = wideQ l + widthL (r : Int) := by rw [wideQ_app, wideQ, wideQ, Nat.add_zero]
  have hln := rowQ_len hl
  have hok : okQ (l ++ [r]) := by
    intro q hq
    rcases List.mem_append.1 hq with hq | hq
    · exact hl q hq
    · rw [List.mem_singleton.1 hq]; exact hr
  have hb : beforeW (stQ w l) (widthL (r : Int)) = stQ w l := by
    unfold beforeW
    rw [if_neg]
    rintro (h | ⟨h, _⟩)
    · rw [hlate] at h; cases h
    · rw [hgw, hx] at h; omega
  have hput : putI (insB (stQ w l).1) (stQ w l).1.look r (stQ w l).1.x.toNat (rowQ l ++ List.replicate (w - wideQ l) blankC) = rowQ (l ++ [r]) ++ List.replicate (w - wideQ (l ++ [r])) blankC := by
    have hi : insB (stQ w l).1 = false := by show decide (¬ bitop .and .i64 4 1 = 0) = false; decide +kernel
    rw [hi, hx, Int.toNat_natCast, putI, putR]
    simp only [Bool.false_eq_true, ↓reduceIte]
    have key : (if widthL (r : Int) = 2 then ((rowQ l ++ List.replicate (w - wideQ l) blankC).set (wideQ l) ⟨r, (stQ w l).1.look⟩).set (wideQ l + 1) ⟨0, (stQ w l).1.look⟩ else (rowQ l ++ List.replicate (w - wideQ l) blankC).set (wideQ l) ⟨r, (stQ w l).1.look⟩) = rowQ (l ++ [r]) ++ List.replicate (w - wideQ (l ++ [r])) blankC := by
      rw [rowQ_app, rowQ, rowQ, List.append_nil, hwr]
      unfold cellQ
      split
      · rename_i h2
        rw [set_row _ _ _ (by omega) _ hln.symm, set_row _ _ _ (by omega) _ (by rw [List.length_append, hln]; rfl), h2, show w - wideQ l - 1 - 1 = w - (wideQ l + 2) by omega, List.append_assoc (rowQ l)]
        rfl
      · rename_i h2
        rw [set_row _ _ _ (by omega) _ hln.symm, show w - wideQ l - 1 = w - (wideQ l + widthL (r : Int)) by omega]
        rfl
    rw [key, mendL_R]
    exact mendR_row _ hok
  unfold printW
  rw [if_neg (by rw [hgw]; omega), hb]
  unfold afterW
  rw [if_neg (by rw [hgw, hx]; omega)]
  refine Prod.ext ?_ (Prod.ext ?_ rfl)
  · show behind (stQ w l).1 r = (stQ w (l ++ [r])).1
    have hlast : lastQ (l ++ [r]) = r := by unfold lastQ; simp
    unfold behind
    by_cases hq : wideQ l + widthL (r : Int) < w
    · rw [if_pos (by rw [hgw, hx]; omega), hx]
      unfold stQ
      simp only [hwr, hlast, hlt, not_true_eq_false, decide_false, hq, if_true, Int.natCast_add]
    · rw [if_neg (by rw [hgw, hx]; omega)]
      have hwrap : wrapB (stQ w l).1 = true := by show decide (¬ bitop .and .i64 4 4 = 0) = true; decide +kernel
      rw [hwrap]
      unfold stQ
      simp only [hwr, hlast, hq, not_false_eq_true, decide_true, if_false]
      rfl
  · show (stQ w l).2.1.set (stQ w l).1.y.toNat (putI (insB (stQ w l).1) (stQ w l).1.look r (stQ w l).1.x.toNat ((stQ w l).2.1.getD (stQ w l).1.y.toNat [])) = (stQ w (l ++ [r])).2.1
    rw [show (stQ w l).1.y.toNat = 0 from rfl, show (stQ w l).2.1.getD 0 [] = rowQ l ++ List.replicate (w - wideQ l) blankC from rfl, hput]
    rfl
theorem prints_stQ {w : Nat} (hw : 2 ≤ w) : ∀ (m : List (Nat × Nat)) {l : List Nat}, okQ l → okQ (m.map Prod.fst) → wideQ l + wideQ (m.map Prod.fst) ≤ w → printT (stQ w l) m = stQ w (l ++ m.map Prod.fst)
  | [], l, _, _, _ => by rw [List.map_nil, List.append_nil]; rfl
  | q :: m, l, hl, hm, hf => by
    rw [List.map_cons] at hm hf
    rw [wideQ] at hf
    have hok : okQ (l ++ [q.1]) := by
      intro r hr
      rcases List.mem_append.1 hr with hr | hr
      · exact hl r hr
      · rw [List.mem_singleton.1 hr]; exact hm.head
    show printT (printW (stQ w l) q.1) m = _
    rw [print_stQ hw hl hm.head (by omega), prints_stQ hw m hok hm.tail (by rw [wideQ_app, wideQ, wideQ]; omega), List.map_cons, List.append_assoc]
    rfl
end Go.Eng.YtgpkedepboenpaaDoor
end

/- What is printed on an empty row stands there: plain laws, of texts. -/
section
namespace Go.Eng.YtgpkedepboenpaaDoor
open Go Go.Eng Go.Proofs
set_option linter.unusedSimpArgs false
set_option linter.unusedVariables false
theorem encQ_len : ∀ l : List Nat, (encQ l).length ≤ 4 * l.length
  | [] => Nat.le_refl _
  | r :: l => by
    have h1 := encQ_len l
    have h2 := enc_le (r : Int)
    rw [encQ, List.length_append, List.length_cons]; omega
theorem encQ_app : ∀ (l m : List Nat), encQ (l ++ m) = encQ l ++ encQ m
  | [], _ => rfl
  | r :: l, m => by rw [List.cons_append, encQ, encQ_app l m, encQ, List.append_assoc]
theorem runes_encQ : ∀ (l : List Nat), okQ l → runes (encQ l) = l.map fun r : Nat => (r, (Lib.encodeRune (r : Int)).length)
  | [], _ => runes_nil
  | r :: l, h => by rw [encQ, runes_enc r (valid_of_width h.head), runes_encQ l h.tail]; rfl
theorem cleanRs_encQ : ∀ l : List (Nat × Nat), ∃ m, okQ m ∧ cleanRs l = encQ m
  | [] => ⟨[], (fun r hr => by cases hr), rfl⟩
  | p :: l => by
    obtain ⟨m, h1, h2⟩ := cleanRs_encQ l
    rw [cleanRs]
    split
    · rename_i h
      refine ⟨p.1 :: m, fun r hr => ?_, by rw [encQ, h2]⟩
      rcases List.mem_cons.1 hr with rfl | hr
      · exact h
      · exact h1 r hr
    · exact ⟨m, h1, h2⟩
theorem sizes_encQ : ∀ (l : List Nat), sizes (l.map fun r : Nat => (r, (Lib.encodeRune (r : Int)).length)) = (encQ l).length
  | [] => rfl
  | r :: l => by rw [List.map_cons, sizes, sizes_encQ l, encQ, List.length_append]
theorem cut_encQ {l : List Nat} (h : okQ l) (n : Int) : ∃ m, okQ m ∧ cutL (encQ l) n = encQ m := by
  refine ⟨l.take (cutN n 0 (runes (encQ l))), fun r hr => h r (List.mem_of_mem_take hr), ?_⟩
  generalize hk : cutN n 0 (runes (encQ l)) = k
  rw [cutL, cutAt_sizes, hk, runes_encQ l h, ← List.map_take, sizes_encQ]
  conv => lhs; rw [← List.take_append_drop k l, encQ_app, List.take_append_drop k l]
  rw [List.take_left]
theorem wide_encQ {l : List Nat} (h : okQ l) : wideL (encQ l) = wideQ l := by
  rw [wideL, runes_encQ l h]
  clear h
  induction l with
  | nil => rfl
  | cons r l ih => rw [List.map_cons, wideRs, wideQ, ih]
theorem len_wideQ : ∀ {l : List Nat}, okQ l → l.length ≤ wideQ l
  | [], _ => Nat.le_refl _
  | r :: l, h => by
    have := len_wideQ h.tail
    have := h.head
    rw [List.length_cons, wideQ]; omega
theorem map_fst_encQ (l : List Nat) : (l.map fun r : Nat => (r, (Lib.encodeRune (r : Int)).length)).map Prod.fst = l := by
  rw [List.map_map]; exact List.map_id' l
/-- A text that is clean and cut. -/
theorem clean_cut (t : List UInt8) {w : Nat} : ∃ l, okQ l ∧ cutL (cleanL t) w = encQ l ∧ wideQ l ≤ w := by
  obtain ⟨m, h1, h2⟩ := cleanRs_encQ (runes t)
  obtain ⟨l, h3, h4⟩ := cut_encQ h1 w
  refine ⟨l, h3, by rw [cleanL, h2, h4], ?_⟩
  have h5 := wide_cutL (encQ m) w (by omega)
  rw [h4, wide_encQ h3] at h5
  omega
theorem newS_R {w h : Nat} (h1 : 1 ≤ w) (h2 : w ≤ 120) (h3 : 1 ≤ h) (h4 : h ≤ 60) : (newS w h).R := by
  have hz : sizeB w h = true := by simp only [sizeB, Bool.and_eq_true, decide_eq_true_eq]; omega
  refine ⟨check_new hz, ?_, ?_, ?_, (fun h => by cases h), by show checkStyle ⟨0, 0, 0⟩ = true; decide +kernel, by show checkStyle ⟨0, 0, 0⟩ = true; decide +kernel, ?_, by show bitop .andNot .i64 4 6 = 0; decide +kernel, ?_, (fun h => absurd rfl h), ⟨cleanL_nil, ?_⟩, ?_⟩
  · show 0 ≤ (0 : Int) ∧ (0 : Int) < w ∧ 0 ≤ (0 : Int) ∧ (0 : Int) < h; omega
  · show 0 ≤ (0 : Int) ∧ (0 : Int) < w ∧ 0 ≤ (0 : Int) ∧ (0 : Int) < h; omega
  · show 0 ≤ (0 : Int) ∧ (h : Int) - 1 < h ∧ (0 : Int) ≤ (h : Int) - 1 ∧ ((0 : Int) = (h : Int) - 1 → (h : Int) ≤ 1); omega
  · show 0 ≤ (4 : Int) ∧ (4 : Int) ≤ 63; omega
  · show ((tabsN w w).length : Int) = w; rw [tabs_len]
  · show (runes []).length ≤ 20; rw [runes_nil]; exact Nat.zero_le _
  · exact ⟨Nat.zero_le _, fun r hr => by cases hr⟩
theorem newS_st {w : Nat} (hw : 2 ≤ w) : ((newS w 1, (newS w 1).g.rows, (newS w 1).gone) : Wk) = stQ w [] := by
  have h1 : (newS w 1).g.rows = [List.replicate w blankC] := by
    show rowsOf (w : Int).toNat (1 : Int).toNat (List.replicate ((w : Int) * (1 : Int)).toNat blankC) = _
    rw [Int.mul_one, Int.toNat_natCast]
    have := flat_rowsOf w [List.replicate w blankC] (by intro r hr; rw [List.mem_singleton.1 hr, List.length_replicate])
    rw [List.flatten_cons, List.flatten_nil, List.append_nil] at this
    exact this
  rw [h1]
  have h2 : (0 : Nat) < w := by omega
  unfold stQ
  simp only [wideQ, rowQ, lastQ, h2, if_true, not_true_eq_false, decide_false, Nat.sub_zero, List.nil_append, List.getLast?_nil]
  rfl
theorem textS_new {w : Nat} (hw : 2 ≤ w) {l : List Nat} (h : okQ l) (hl : wideQ l ≤ w) : textS (newS w 1) (encQ l) = putW (stQ w l) := by
  rw [textS, newS_st hw, runes_encQ l h, prints_stQ hw _ (fun r hr => by cases hr) (by rw [map_fst_encQ]; exact h) (by rw [map_fst_encQ, wideQ]; omega), map_fst_encQ, List.nil_append]
theorem cells_new (w : Nat) (l : List Nat) : (putW (stQ w l)).g.cs = rowQ l ++ List.replicate (w - wideQ l) blankC := by
  show [rowQ l ++ List.replicate (w - wideQ l) blankC].flatten = _
  rw [List.flatten_cons, List.flatten_nil, List.append_nil]
theorem rowQ_r : ∀ (l : List Nat), ∀ c ∈ rowQ l, 0 ≤ c.r
  | [], c, hc => by cases hc
  | r :: l, c, hc => by
    rw [rowQ] at hc
    rcases List.mem_append.1 hc with hc | hc
    · unfold cellQ at hc
      split at hc
      · rcases List.mem_cons.1 hc with rfl | hc
        · show (0 : Int) ≤ r; omega
        · rw [List.mem_singleton.1 hc]; show (0 : Int) ≤ 0; omega
      · rw [List.mem_singleton.1 hc]; show (0 : Int) ≤ r; omega
    · exact rowQ_r l c hc
end Go.Eng.YtgpkedepboenpaaDoor
end

/- The law PutStands. -/
section
namespace Go.Eng.YtgpkedepboenpaaDoor
open Go Go.Eng Go.Proofs
variable (W : World)
set_option linter.unusedSimpArgs false
set_option maxRecDepth 100000
set_option linter.unusedVariables false
set_option maxHeartbeats 8000000
theorem newSE_one {w : Nat} (h1 : 1 ≤ w) (h2 : w ≤ 120) : newSE w 1 = (newS w 1, 0) := by
  rw [newSE, if_pos (by simp only [sizeB, Bool.and_eq_true, decide_eq_true_eq]; omega), Int.toNat_natCast]; rfl
theorem trimmed_ok (s : List UInt8) (hs : s.length ≤ 1048576) : Pure Tryd.prog W 64 [.str s] (.str (Lib.trimRightB s 32)) := by
  refine Pure.of (acalls_of_vc (drawOk W) Tryd.func64 rfl (by decide) (by decide) rfl ?_)
  (refine g0_ ?_; repeat ((first | refine n1_ fun b_ => ?_ | refine n2_ fun b_ => ?_ | refine n3_ fun b_ pre_ => ?_ | refine Nat1.mk fun q_ hq_ => ?_ | refine em_ fun x_ hx_ => ?_ | refine Elem1.mk fun e_ he_ => ?_); refine g0_ ?_))
  refine' loopI (α := (List UInt8)) (fun r => [(0, .str r)]) [] (fun r => []) (fun r => Lib.trimRightB r 32 = Lib.trimRightB s 32 ∧ r.length ≤ s.length) (fun r => r.length) s ?_ ?_
  · exact ⟨rfl, Nat.le_refl _⟩
  rintro r ⟨hr, hl⟩
  rcases List.eq_nil_or_concat r with rfl | ⟨q, x, rfl⟩
  · (refine g1_ ?_; repeat ((first | refine n1_ fun b_ => ?_ | refine n2_ fun b_ => ?_ | refine n3_ fun b_ pre_ => ?_ | refine Nat1.mk fun q_ hq_ => ?_ | refine em_ fun x_ hx_ => ?_ | refine Elem1.mk fun e_ he_ => ?_); refine g1_ ?_))
    rw [← hr]
    exact .refl _
  · rw [List.concat_eq_append] at *
    have hlen : (q ++ [x]).length = q.length + 1 := by simp
    rw [trim_snoc] at hr
    (refine g1_ ?_; repeat ((first | refine n1_ fun b_ => ?_ | refine n2_ fun b_ => ?_ | refine n3_ fun b_ pre_ => ?_ | refine Nat1.mk fun q_ hq_ => ?_ | refine em_ fun x_ hx_ => ?_ | refine Elem1.mk fun e_ he_ => ?_); refine g1_ ?_))
    obtain rfl : q_ = q.length := by omega
    obtain rfl : e_ = x := by simpa using he_.symm
    refine brec ?_; intro c_ hc; (try rw [hc]); cases c_ <;> replace hc := nm_ hc
    · have hx : ¬ e_ = 32 := fun e => hc (by rw [e]; rfl)
      rw [if_neg hx] at hr
      (refine g0_ ?_; repeat ((first | refine n1_ fun b_ => ?_ | refine n2_ fun b_ => ?_ | refine n3_ fun b_ pre_ => ?_ | refine Nat1.mk fun q_ hq_ => ?_ | refine em_ fun x_ hx_ => ?_ | refine Elem1.mk fun e_ he_ => ?_); refine g0_ ?_))
      rw [← hr]
      exact .refl _
    · have hx : e_ = 32 := UInt8.toNat_inj.1 (by rw [show (32 : UInt8).toNat = 32 from rfl]; omega)
      rw [if_pos hx] at hr
      (refine g0_ ?_; repeat ((first | refine n1_ fun b_ => ?_ | refine n2_ fun b_ => ?_ | refine n3_ fun b_ pre_ => ?_ | refine Nat1.mk fun q_ hq_ => ?_ | refine em_ fun x_ hx_ => ?_ | refine Elem1.mk fun e_ he_ => ?_); refine g0_ ?_))
      have hq9 : List.take q_ (q ++ [e_]) = q := by
        rw [show q_ = q.length by omega]
        exact List.take_left ..
      rw [hq9]
      refine nx_ q ?_ ?_
      · exact ⟨hr, by omega⟩
      · omega
theorem putStands_ok (hT : Tabs W) (w : Int) (hw : -9223372036854775808 ≤ w ∧ w ≤ 9223372036854775807) (t : List UInt8) (ht : t.length ≤ 140737488355328) :
    Pure Tryd.prog W 14 [.int .i64 w, .str t] (.bool true) := by
  have hp := printed_ok W hT
  have hn := putNew_ok W w 1
  have hv := valid_ok W hT t ht
  by_cases hz : sizeB w 1 = true
  · have hz' := hz
    simp only [sizeB, Bool.and_eq_true, decide_eq_true_eq] at hz'
    obtain ⟨w, rfl⟩ := Int.eq_ofNat_of_zero_le (show 0 ≤ w by omega)
    rw [show newSE (w : Int) 1 = (newS w 1, 0) from newSE_one (by omega) (by omega)] at hn
    dsimp only at hn
    by_cases hgo : Lib.validD t = true ∧ t.length ≤ 4000 ∧ 2 ≤ w
    · obtain ⟨g1, g2, g3⟩ := hgo
      rw [g1] at hv
      obtain ⟨l, q1, q2, q3⟩ := clean_cut t (w := w)
      have hcl := clean_ok W hT t (by omega)
      have hcu := cut_ok W hT (cleanL t) w (by have := clean_len t; omega)
      rw [q2] at hcu
      have hNR := newS_R (w := w) (h := 1) (by omega) (by omega) (by omega) (by omega)
      have hNC := (check_iff _).2 hNR
      have hNO := newS_ok w 1 (by omega) (by omega)
      have hel := encQ_len l
      have hll := len_wideQ q1
      have hx := putText_ok W hT _ hNO (encQ l) (by omega)
      rw [moveE, if_pos hNC, textS_new g3 q1 q3] at hx
      dsimp only at hx
      have hrl := rowQ_len q1
      have hlo := lineOf_ok W (rowQ l ++ List.replicate (w - wideQ l) blankC) (by simp; omega) (fun c hc => by
        rcases List.mem_append.1 hc with hc | hc
        · exact rowQ_r l c hc
        · rw [List.eq_of_mem_replicate hc]; decide)
      rw [lineL_row q1, ← cells_new] at hlo
      have htr := trimmed_ok W (encQ l) (by omega)
      have hwi := wide_ok W hT (encQ l) (by omega)
      rw [wide_encQ q1] at hwi
      have hlate : (putW (stQ w l)).late = decide (¬ wideQ l < w) := rfl
      generalize putW (stQ w l) = X at *
      generalize encQ l = c at *
      generalize Lib.trimRightB c 32 = c' at *
      generalize newS w 1 = N at *
      refine Pure.of (acalls_of_vc (drawOk W) Tryd.func14 rfl (by decide) (by decide) rfl ?_)
      (refine g0_ ?_; repeat ((first | refine n1_ fun b_ => ?_ | refine n2_ fun b_ => ?_ | refine n3_ fun b_ pre_ => ?_ | refine Nat1.mk fun q_ hq_ => ?_ | refine em_ fun x_ hx_ => ?_ | refine Elem1.mk fun e_ he_ => ?_); refine g0_ ?_))
      refine (hn).use ?_; (refine g0_ ?_; repeat ((first | refine n1_ fun b_ => ?_ | refine n2_ fun b_ => ?_ | refine n3_ fun b_ pre_ => ?_ | refine Nat1.mk fun q_ hq_ => ?_ | refine em_ fun x_ hx_ => ?_ | refine Elem1.mk fun e_ he_ => ?_); refine g0_ ?_))
      (refine g1_ ?_; repeat ((first | refine n1_ fun b_ => ?_ | refine n2_ fun b_ => ?_ | refine n3_ fun b_ pre_ => ?_ | refine Nat1.mk fun q_ hq_ => ?_ | refine em_ fun x_ hx_ => ?_ | refine Elem1.mk fun e_ he_ => ?_); refine g1_ ?_))
      refine (hp).use ?_; (refine g0_ ?_; repeat ((first | refine n1_ fun b_ => ?_ | refine n2_ fun b_ => ?_ | refine n3_ fun b_ pre_ => ?_ | refine Nat1.mk fun q_ hq_ => ?_ | refine em_ fun x_ hx_ => ?_ | refine Elem1.mk fun e_ he_ => ?_); refine g0_ ?_))
      (refine g1_ ?_; repeat ((first | refine n1_ fun b_ => ?_ | refine n2_ fun b_ => ?_ | refine n3_ fun b_ pre_ => ?_ | refine Nat1.mk fun q_ hq_ => ?_ | refine em_ fun x_ hx_ => ?_ | refine Elem1.mk fun e_ he_ => ?_); refine g1_ ?_))
      refine (hv).use ?_; (refine g0_ ?_; repeat ((first | refine n1_ fun b_ => ?_ | refine n2_ fun b_ => ?_ | refine n3_ fun b_ pre_ => ?_ | refine Nat1.mk fun q_ hq_ => ?_ | refine em_ fun x_ hx_ => ?_ | refine Elem1.mk fun e_ he_ => ?_); refine g0_ ?_))
      (refine g1_ ?_; repeat ((first | refine n1_ fun b_ => ?_ | refine n2_ fun b_ => ?_ | refine n3_ fun b_ pre_ => ?_ | refine Nat1.mk fun q_ hq_ => ?_ | refine em_ fun x_ hx_ => ?_ | refine Elem1.mk fun e_ he_ => ?_); refine g1_ ?_))
      refine (hcl).use ?_; (refine g0_ ?_; repeat ((first | refine n1_ fun b_ => ?_ | refine n2_ fun b_ => ?_ | refine n3_ fun b_ pre_ => ?_ | refine Nat1.mk fun q_ hq_ => ?_ | refine em_ fun x_ hx_ => ?_ | refine Elem1.mk fun e_ he_ => ?_); refine g0_ ?_))
      (refine g1_ ?_; repeat ((first | refine n1_ fun b_ => ?_ | refine n2_ fun b_ => ?_ | refine n3_ fun b_ pre_ => ?_ | refine Nat1.mk fun q_ hq_ => ?_ | refine em_ fun x_ hx_ => ?_ | refine Elem1.mk fun e_ he_ => ?_); refine g1_ ?_))
      refine (hcu).use ?_; (refine g0_ ?_; repeat ((first | refine n1_ fun b_ => ?_ | refine n2_ fun b_ => ?_ | refine n3_ fun b_ pre_ => ?_ | refine Nat1.mk fun q_ hq_ => ?_ | refine em_ fun x_ hx_ => ?_ | refine Elem1.mk fun e_ he_ => ?_); refine g0_ ?_))
      (refine g1_ ?_; repeat ((first | refine n1_ fun b_ => ?_ | refine n2_ fun b_ => ?_ | refine n3_ fun b_ pre_ => ?_ | refine Nat1.mk fun q_ hq_ => ?_ | refine em_ fun x_ hx_ => ?_ | refine Elem1.mk fun e_ he_ => ?_); refine g1_ ?_))
      refine (hx).use ?_; (refine g0_ ?_; repeat ((first | refine n1_ fun b_ => ?_ | refine n2_ fun b_ => ?_ | refine n3_ fun b_ pre_ => ?_ | refine Nat1.mk fun q_ hq_ => ?_ | refine em_ fun x_ hx_ => ?_ | refine Elem1.mk fun e_ he_ => ?_); refine g0_ ?_))
      (refine g1_ ?_; repeat ((first | refine n1_ fun b_ => ?_ | refine n2_ fun b_ => ?_ | refine n3_ fun b_ pre_ => ?_ | refine Nat1.mk fun q_ hq_ => ?_ | refine em_ fun x_ hx_ => ?_ | refine Elem1.mk fun e_ he_ => ?_); refine g1_ ?_))
      refine head_ ?_; (refine g0_ ?_; repeat ((first | refine n1_ fun b_ => ?_ | refine n2_ fun b_ => ?_ | refine n3_ fun b_ pre_ => ?_ | refine Nat1.mk fun q_ hq_ => ?_ | refine em_ fun x_ hx_ => ?_ | refine Elem1.mk fun e_ he_ => ?_); refine g0_ ?_))
      (refine g1_ ?_; repeat ((first | refine n1_ fun b_ => ?_ | refine n2_ fun b_ => ?_ | refine n3_ fun b_ pre_ => ?_ | refine Nat1.mk fun q_ hq_ => ?_ | refine em_ fun x_ hx_ => ?_ | refine Elem1.mk fun e_ he_ => ?_); refine g1_ ?_))
      refine ⟨_, (hlo).quiet, ?_⟩; (refine g0_ ?_; repeat ((first | refine n1_ fun b_ => ?_ | refine n2_ fun b_ => ?_ | refine n3_ fun b_ pre_ => ?_ | refine Nat1.mk fun q_ hq_ => ?_ | refine em_ fun x_ hx_ => ?_ | refine Elem1.mk fun e_ he_ => ?_); refine g0_ ?_))
      (refine g1_ ?_; repeat ((first | refine n1_ fun b_ => ?_ | refine n2_ fun b_ => ?_ | refine n3_ fun b_ pre_ => ?_ | refine Nat1.mk fun q_ hq_ => ?_ | refine em_ fun x_ hx_ => ?_ | refine Elem1.mk fun e_ he_ => ?_); refine g1_ ?_))
      refine ⟨_, (htr).quiet, ?_⟩; (refine g0_ ?_; repeat ((first | refine n1_ fun b_ => ?_ | refine n2_ fun b_ => ?_ | refine n3_ fun b_ pre_ => ?_ | refine Nat1.mk fun q_ hq_ => ?_ | refine em_ fun x_ hx_ => ?_ | refine Elem1.mk fun e_ he_ => ?_); refine g0_ ?_))
      (refine g1_ ?_; repeat ((first | refine n1_ fun b_ => ?_ | refine n2_ fun b_ => ?_ | refine n3_ fun b_ pre_ => ?_ | refine Nat1.mk fun q_ hq_ => ?_ | refine em_ fun x_ hx_ => ?_ | refine Elem1.mk fun e_ he_ => ?_); refine g1_ ?_))
      refine ⟨_, (hwi).quiet, ?_⟩; (refine g0_ ?_; repeat ((first | refine n1_ fun b_ => ?_ | refine n2_ fun b_ => ?_ | refine n3_ fun b_ pre_ => ?_ | refine Nat1.mk fun q_ hq_ => ?_ | refine em_ fun x_ hx_ => ?_ | refine Elem1.mk fun e_ he_ => ?_); refine g0_ ?_))
      (refine g1_ ?_; repeat ((first | refine n1_ fun b_ => ?_ | refine n2_ fun b_ => ?_ | refine n3_ fun b_ pre_ => ?_ | refine Nat1.mk fun q_ hq_ => ?_ | refine em_ fun x_ hx_ => ?_ | refine Elem1.mk fun e_ he_ => ?_); refine g1_ ?_))
      have hfin : decide (X.late = decide ((wideQ l : Int) = w)) = true := decide_eq_true (by rw [hlate, decide_eq_decide]; omega)
      exact Frz.of_eq (by rw [hfin])
    · by_cases g1 : Lib.validD t = true
      · rw [g1] at hv
        have hgo' : ¬ (t.length ≤ 4000 ∧ 2 ≤ w) := fun h => hgo ⟨g1, h⟩
        clear hgo g1
        by_cases g2 : t.length ≤ 4000
        · have g3 : ¬ 2 ≤ w := fun h => hgo' ⟨g2, h⟩
          refine Pure.of (acalls_of_vc (drawOk W) Tryd.func14 rfl (by decide) (by decide) rfl ?_)
          (refine g0_ ?_; repeat ((first | refine n1_ fun b_ => ?_ | refine n2_ fun b_ => ?_ | refine n3_ fun b_ pre_ => ?_ | refine Nat1.mk fun q_ hq_ => ?_ | refine em_ fun x_ hx_ => ?_ | refine Elem1.mk fun e_ he_ => ?_); refine g0_ ?_))
          refine (hn).use ?_; (refine g0_ ?_; repeat ((first | refine n1_ fun b_ => ?_ | refine n2_ fun b_ => ?_ | refine n3_ fun b_ pre_ => ?_ | refine Nat1.mk fun q_ hq_ => ?_ | refine em_ fun x_ hx_ => ?_ | refine Elem1.mk fun e_ he_ => ?_); refine g0_ ?_))
          (refine g1_ ?_; repeat ((first | refine n1_ fun b_ => ?_ | refine n2_ fun b_ => ?_ | refine n3_ fun b_ pre_ => ?_ | refine Nat1.mk fun q_ hq_ => ?_ | refine em_ fun x_ hx_ => ?_ | refine Elem1.mk fun e_ he_ => ?_); refine g1_ ?_))
          refine (hp).use ?_; (refine g0_ ?_; repeat ((first | refine n1_ fun b_ => ?_ | refine n2_ fun b_ => ?_ | refine n3_ fun b_ pre_ => ?_ | refine Nat1.mk fun q_ hq_ => ?_ | refine em_ fun x_ hx_ => ?_ | refine Elem1.mk fun e_ he_ => ?_); refine g0_ ?_))
          (refine g1_ ?_; repeat ((first | refine n1_ fun b_ => ?_ | refine n2_ fun b_ => ?_ | refine n3_ fun b_ pre_ => ?_ | refine Nat1.mk fun q_ hq_ => ?_ | refine em_ fun x_ hx_ => ?_ | refine Elem1.mk fun e_ he_ => ?_); refine g1_ ?_))
          refine (hv).use ?_; (refine g0_ ?_; repeat ((first | refine n1_ fun b_ => ?_ | refine n2_ fun b_ => ?_ | refine n3_ fun b_ pre_ => ?_ | refine Nat1.mk fun q_ hq_ => ?_ | refine em_ fun x_ hx_ => ?_ | refine Elem1.mk fun e_ he_ => ?_); refine g0_ ?_))
          (refine g1_ ?_; repeat ((first | refine n1_ fun b_ => ?_ | refine n2_ fun b_ => ?_ | refine n3_ fun b_ pre_ => ?_ | refine Nat1.mk fun q_ hq_ => ?_ | refine em_ fun x_ hx_ => ?_ | refine Elem1.mk fun e_ he_ => ?_); refine g1_ ?_))
          refine (hp).use ?_; (refine g0_ ?_; repeat ((first | refine n1_ fun b_ => ?_ | refine n2_ fun b_ => ?_ | refine n3_ fun b_ pre_ => ?_ | refine Nat1.mk fun q_ hq_ => ?_ | refine em_ fun x_ hx_ => ?_ | refine Elem1.mk fun e_ he_ => ?_); refine g0_ ?_))
          exact .refl _
        · refine Pure.of (acalls_of_vc (drawOk W) Tryd.func14 rfl (by decide) (by decide) rfl ?_)
          (refine g0_ ?_; repeat ((first | refine n1_ fun b_ => ?_ | refine n2_ fun b_ => ?_ | refine n3_ fun b_ pre_ => ?_ | refine Nat1.mk fun q_ hq_ => ?_ | refine em_ fun x_ hx_ => ?_ | refine Elem1.mk fun e_ he_ => ?_); refine g0_ ?_))
          refine (hn).use ?_; (refine g0_ ?_; repeat ((first | refine n1_ fun b_ => ?_ | refine n2_ fun b_ => ?_ | refine n3_ fun b_ pre_ => ?_ | refine Nat1.mk fun q_ hq_ => ?_ | refine em_ fun x_ hx_ => ?_ | refine Elem1.mk fun e_ he_ => ?_); refine g0_ ?_))
          (refine g1_ ?_; repeat ((first | refine n1_ fun b_ => ?_ | refine n2_ fun b_ => ?_ | refine n3_ fun b_ pre_ => ?_ | refine Nat1.mk fun q_ hq_ => ?_ | refine em_ fun x_ hx_ => ?_ | refine Elem1.mk fun e_ he_ => ?_); refine g1_ ?_))
          refine (hp).use ?_; (refine g0_ ?_; repeat ((first | refine n1_ fun b_ => ?_ | refine n2_ fun b_ => ?_ | refine n3_ fun b_ pre_ => ?_ | refine Nat1.mk fun q_ hq_ => ?_ | refine em_ fun x_ hx_ => ?_ | refine Elem1.mk fun e_ he_ => ?_); refine g0_ ?_))
          (refine g1_ ?_; repeat ((first | refine n1_ fun b_ => ?_ | refine n2_ fun b_ => ?_ | refine n3_ fun b_ pre_ => ?_ | refine Nat1.mk fun q_ hq_ => ?_ | refine em_ fun x_ hx_ => ?_ | refine Elem1.mk fun e_ he_ => ?_); refine g1_ ?_))
          refine (hv).use ?_; (refine g0_ ?_; repeat ((first | refine n1_ fun b_ => ?_ | refine n2_ fun b_ => ?_ | refine n3_ fun b_ pre_ => ?_ | refine Nat1.mk fun q_ hq_ => ?_ | refine em_ fun x_ hx_ => ?_ | refine Elem1.mk fun e_ he_ => ?_); refine g0_ ?_))
          (refine g1_ ?_; repeat ((first | refine n1_ fun b_ => ?_ | refine n2_ fun b_ => ?_ | refine n3_ fun b_ pre_ => ?_ | refine Nat1.mk fun q_ hq_ => ?_ | refine em_ fun x_ hx_ => ?_ | refine Elem1.mk fun e_ he_ => ?_); refine g1_ ?_))
          refine (hp).use ?_; (refine g0_ ?_; repeat ((first | refine n1_ fun b_ => ?_ | refine n2_ fun b_ => ?_ | refine n3_ fun b_ pre_ => ?_ | refine Nat1.mk fun q_ hq_ => ?_ | refine em_ fun x_ hx_ => ?_ | refine Elem1.mk fun e_ he_ => ?_); refine g0_ ?_))
          exact .refl _
      · rw [show Lib.validD t = false by simpa using g1] at hv
        clear hgo g1
        refine Pure.of (acalls_of_vc (drawOk W) Tryd.func14 rfl (by decide) (by decide) rfl ?_)
        (refine g0_ ?_; repeat ((first | refine n1_ fun b_ => ?_ | refine n2_ fun b_ => ?_ | refine n3_ fun b_ pre_ => ?_ | refine Nat1.mk fun q_ hq_ => ?_ | refine em_ fun x_ hx_ => ?_ | refine Elem1.mk fun e_ he_ => ?_); refine g0_ ?_))
        refine (hn).use ?_; (refine g0_ ?_; repeat ((first | refine n1_ fun b_ => ?_ | refine n2_ fun b_ => ?_ | refine n3_ fun b_ pre_ => ?_ | refine Nat1.mk fun q_ hq_ => ?_ | refine em_ fun x_ hx_ => ?_ | refine Elem1.mk fun e_ he_ => ?_); refine g0_ ?_))
        (refine g1_ ?_; repeat ((first | refine n1_ fun b_ => ?_ | refine n2_ fun b_ => ?_ | refine n3_ fun b_ pre_ => ?_ | refine Nat1.mk fun q_ hq_ => ?_ | refine em_ fun x_ hx_ => ?_ | refine Elem1.mk fun e_ he_ => ?_); refine g1_ ?_))
        refine (hp).use ?_; (refine g0_ ?_; repeat ((first | refine n1_ fun b_ => ?_ | refine n2_ fun b_ => ?_ | refine n3_ fun b_ pre_ => ?_ | refine Nat1.mk fun q_ hq_ => ?_ | refine em_ fun x_ hx_ => ?_ | refine Elem1.mk fun e_ he_ => ?_); refine g0_ ?_))
        (refine g1_ ?_; repeat ((first | refine n1_ fun b_ => ?_ | refine n2_ fun b_ => ?_ | refine n3_ fun b_ pre_ => ?_ | refine Nat1.mk fun q_ hq_ => ?_ | refine em_ fun x_ hx_ => ?_ | refine Elem1.mk fun e_ he_ => ?_); refine g1_ ?_))
        refine (hv).use ?_; (refine g0_ ?_; repeat ((first | refine n1_ fun b_ => ?_ | refine n2_ fun b_ => ?_ | refine n3_ fun b_ pre_ => ?_ | refine Nat1.mk fun q_ hq_ => ?_ | refine em_ fun x_ hx_ => ?_ | refine Elem1.mk fun e_ he_ => ?_); refine g0_ ?_))
        (refine g1_ ?_; repeat ((first | refine n1_ fun b_ => ?_ | refine n2_ fun b_ => ?_ | refine n3_ fun b_ pre_ => ?_ | refine Nat1.mk fun q_ hq_ => ?_ | refine em_ fun x_ hx_ => ?_ | refine Elem1.mk fun e_ he_ => ?_); refine g1_ ?_))
        refine (hp).use ?_; (refine g0_ ?_; repeat ((first | refine n1_ fun b_ => ?_ | refine n2_ fun b_ => ?_ | refine n3_ fun b_ pre_ => ?_ | refine Nat1.mk fun q_ hq_ => ?_ | refine em_ fun x_ hx_ => ?_ | refine Elem1.mk fun e_ he_ => ?_); refine g0_ ?_))
        exact .refl _
  · rw [newSE, if_neg hz] at hn
    dsimp only at hn
    refine Pure.of (acalls_of_vc (drawOk W) Tryd.func14 rfl (by decide) (by decide) rfl ?_)
    (refine g0_ ?_; repeat ((first | refine n1_ fun b_ => ?_ | refine n2_ fun b_ => ?_ | refine n3_ fun b_ pre_ => ?_ | refine Nat1.mk fun q_ hq_ => ?_ | refine em_ fun x_ hx_ => ?_ | refine Elem1.mk fun e_ he_ => ?_); refine g0_ ?_))
    refine (hn).use ?_; (refine g0_ ?_; repeat ((first | refine n1_ fun b_ => ?_ | refine n2_ fun b_ => ?_ | refine n3_ fun b_ pre_ => ?_ | refine Nat1.mk fun q_ hq_ => ?_ | refine em_ fun x_ hx_ => ?_ | refine Elem1.mk fun e_ he_ => ?_); refine g0_ ?_))
    (refine g1_ ?_; repeat ((first | refine n1_ fun b_ => ?_ | refine n2_ fun b_ => ?_ | refine n3_ fun b_ pre_ => ?_ | refine Nat1.mk fun q_ hq_ => ?_ | refine em_ fun x_ hx_ => ?_ | refine Elem1.mk fun e_ he_ => ?_); refine g1_ ?_))
    refine (hp).use ?_; (refine g0_ ?_; repeat ((first | refine n1_ fun b_ => ?_ | refine n2_ fun b_ => ?_ | refine n3_ fun b_ pre_ => ?_ | refine Nat1.mk fun q_ hq_ => ?_ | refine em_ fun x_ hx_ => ?_ | refine Elem1.mk fun e_ he_ => ?_); refine g0_ ?_))
    (refine g1_ ?_; repeat ((first | refine n1_ fun b_ => ?_ | refine n2_ fun b_ => ?_ | refine n3_ fun b_ pre_ => ?_ | refine Nat1.mk fun q_ hq_ => ?_ | refine em_ fun x_ hx_ => ?_ | refine Elem1.mk fun e_ he_ => ?_); refine g1_ ?_))
    refine (hp).use ?_; (refine g0_ ?_; repeat ((first | refine n1_ fun b_ => ?_ | refine n2_ fun b_ => ?_ | refine n3_ fun b_ pre_ => ?_ | refine Nat1.mk fun q_ hq_ => ?_ | refine em_ fun x_ hx_ => ?_ | refine Elem1.mk fun e_ he_ => ?_); refine g0_ ?_))
    exact .refl _
end Go.Eng.YtgpkedepboenpaaDoor
end
