/- Texts put together: GridG, GridH, GridT, GridQ, GridU, GridV. -/
import Derived.Test.YtjkdkofpabocmaaDoorMG2
/- Grids: the fact that the laws look at first; the laws GridFill, GridWrite, GridLay, GridLines. -/
section
namespace Go.Eng.YtjkdkofpabocmaaDoor
open Go Go.Eng Go.Proofs
variable (W : World)
set_option linter.unusedSimpArgs false
set_option maxRecDepth 100000
set_option linter.unusedVariables false
set_option maxHeartbeats 4000000
def g2 : Grid := ⟨3, 1, [⟨26085, ⟨0, 0, 0⟩⟩, ⟨0, ⟨0, 0, 0⟩⟩, ⟨120, ⟨0, 0, 0⟩⟩]⟩
def g3 : Grid := ⟨3, 1, [⟨32, ⟨0, 0, 0⟩⟩, ⟨122, ⟨0, 0, 0⟩⟩, ⟨120, ⟨0, 0, 0⟩⟩]⟩
theorem step1 : newE 3 1 = (newG 3 1, 0) := by decide +kernel
theorem step2 : writeE (newG 3 1) 0 0 [230, 151, 165, 120] ⟨0, 0, 0⟩ = (g2, 0) := by
  unfold writeE writeG
  rw [runes_F 4 _ (by decide)]
  decide +kernel
theorem step3 : fillE g2 ⟨1, 0, 1, 1⟩ ⟨122, ⟨0, 0, 0⟩⟩ = (g3, 0) := by decide +kernel
theorem step4 : linesE g3 = ([[32, 122, 120]], 0) := by decide +kernel
theorem ok_newG : (newG 3 1).ok := by
  refine ⟨by unfold i64ok newG; decide, by unfold i64ok newG; decide, fun c hc => ?_, by decide +kernel⟩
  rw [newG] at hc
  obtain rfl := (List.mem_replicate.1 hc).2
  exact ⟨by unfold i32ok blankC; decide, by unfold Style.ok i64ok blankC; decide⟩
instance (n : Int) : Decidable (i32ok n) := inferInstanceAs (Decidable (_ ∧ _))
instance (c : Cell) : Decidable c.ok := inferInstanceAs (Decidable (_ ∧ _))
instance (g : Grid) : Decidable g.ok := inferInstanceAs (Decidable (_ ∧ _ ∧ _ ∧ _))
/-! ### What is made is of right numbers -/
theorem withRows_ok {g : Grid} {w h : Nat} (f : g.fit w h) (hg : g.ok) {L : List (List Cell)} (hl : L.length = h) (hr : ∀ r ∈ L, r.length = w) (hc : ∀ r ∈ L, ∀ c ∈ r, c.ok) : (g.withRows L).ok := by
  refine ⟨hg.1, hg.2.1, fun c hcm => ?_, ?_⟩
  · obtain ⟨r, h1, h2⟩ := List.mem_flatten.1 hcm
    exact hc r h1 c h2
  · have := f.small
    have h2 := flat_len w L hr
    rw [hl, Nat.mul_comm] at h2
    show L.flatten.length * 32 ≤ _
    omega
theorem mapIdx_cells {P : Nat → List Cell → List Cell} {L : List (List Cell)} (hL : ∀ r ∈ L, ∀ c ∈ r, c.ok) (hP : ∀ k r, (∀ c ∈ r, c.ok) → ∀ c ∈ P k r, c.ok) : ∀ r ∈ L.mapIdx P, ∀ c ∈ r, c.ok := by
  intro r hr
  obtain ⟨k, hk⟩ := List.getElem?_of_mem hr
  rw [List.getElem?_mapIdx] at hk
  cases hg : L[k]? with
  | none => rw [hg] at hk; cases hk
  | some d =>
    rw [hg] at hk
    obtain rfl := Option.some.inj hk
    exact hP k d (hL d (List.mem_of_getElem? hg))
theorem mapIdx_cell {P : Nat → Cell → Cell} {r : List Cell} (h : ∀ c ∈ r, c.ok) (hP : ∀ k c, c.ok → (P k c).ok) : ∀ c ∈ r.mapIdx P, c.ok := by
  intro c hc
  obtain ⟨k, hk⟩ := List.getElem?_of_mem hc
  rw [List.getElem?_mapIdx] at hk
  cases hg : r[k]? with
  | none => rw [hg] at hk; cases hk
  | some d =>
    rw [hg] at hk
    obtain rfl := Option.some.inj hk
    exact hP k d (h d (List.mem_of_getElem? hg))
theorem rows_ok {g : Grid} {w h : Nat} (f : g.fit w h) (hg : g.ok) : ∀ r ∈ g.rows, ∀ c ∈ r, c.ok := fun r hr c hc => hg.2.2.1 c (rows_mem f hr hc)
theorem fillG_ok {g : Grid} {w h : Nat} (f : g.fit w h) (hg : g.ok) (r : Rect) {c : Cell} (hc : c.ok) : (fillG g r c).ok := by
  refine withRows_ok f hg (by rw [List.length_mapIdx, f.rlen]) (mapIdx_row (fillQ_len c _ _ _ _) f.row) (mapIdx_cells (rows_ok f hg) fun k row h => ?_)
  unfold fillQ
  split
  · refine mendL_ok (P := Cell.ok) (fun c h => blank_ok h) (mapIdx_cell h fun k d hd => ?_)
    unfold fillP
    split
    · exact hc
    · exact hd
  · exact h
theorem getD_ok {G : List (List Cell)} (hG : ∀ r ∈ G, ∀ c ∈ r, c.ok) (i : Nat) : ∀ c ∈ G.getD i [], c.ok := by
  rw [List.getD_eq_getElem?_getD]
  cases h : G[i]? with
  | none => intro c hc; cases hc
  | some r => exact hG r (List.mem_of_getElem? h)
theorem layG_ok {g on : Grid} {gw gh w h : Nat} (f : g.fit gw gh) (k : on.fit w h) (hg : g.ok) (ho : on.ok) (x y : Int) : (layG g on x y).ok := by
  refine withRows_ok k ho (by rw [List.length_mapIdx, k.rlen]) (mapIdx_row (layQ_len _ _ _ _ _) k.row) (mapIdx_cells (rows_ok k ho) fun v row h => ?_)
  unfold layQ
  split
  · refine mendL_ok (P := Cell.ok) (fun c h => blank_ok h) (mapIdx_cell h fun u d hd => ?_)
    unfold layP
    split
    · rw [List.getD_eq_getElem?_getD]
      generalize ((u : Int) - clampL x).toNat = i
      have := getD_ok (rows_ok f hg) ((v : Int) - clampL y).toNat
      cases hi : (g.rows.getD ((v : Int) - clampL y).toNat [])[i]? with
      | none => exact hd
      | some e => exact this e (List.mem_of_getElem? hi)
    · exact hd
  · exact h
theorem set_cells {r : List Cell} (h : ∀ c ∈ r, c.ok) (i : Nat) {c : Cell} (hc : c.ok) : ∀ d ∈ r.set i c, d.ok := fun d hd => by
  rcases List.mem_or_eq_of_mem_set hd with h1 | h1
  · exact h d h1
  · rw [h1]; exact hc
theorem writeRs_cells (w : Nat) {look : Style} (hlk : look.ok) : ∀ (l : List (Nat × Nat)) (x : Nat) (row : List Cell), (∀ p ∈ l, p.1 ≤ 1114111) → (∀ c ∈ row, c.ok) → ∀ c ∈ writeRs w look x l row, c.ok
  | [], _, _, _, h => h
  | p :: l, x, row, hp, h => by
    have h1 := fun x row => writeRs_cells w hlk l x row (fun q hq => hp q (List.mem_cons_of_mem _ hq))
    have hc : (⟨p.1, look⟩ : Cell).ok := ⟨by have := hp p List.mem_cons_self; show i32ok (p.1 : Int); unfold i32ok; omega, hlk⟩
    have h0 : (⟨0, look⟩ : Cell).ok := ⟨by show i32ok 0; unfold i32ok; omega, hlk⟩
    rw [writeRs]
    split
    · exact h1 _ _ h
    · split
      · exact h
      · refine h1 _ _ ?_
        split
        · exact set_cells (set_cells h _ hc) _ h0
        · exact set_cells h _ hc
theorem runes_range : ∀ s : List UInt8, ∀ p ∈ runes s, p.1 ≤ 1114111 := by
  refine runes_ind (by rw [runes_nil]; intro p hp; cases hp) fun s h ih p hp => ?_
  rw [runes_cons h] at hp
  rcases List.mem_cons.1 hp with rfl | hp
  · exact dec_range s
  · exact ih p hp
theorem writeG_ok {g : Grid} {w h : Nat} (f : g.fit w h) (hg : g.ok) (x y : Nat) (s : List UInt8) {look : Style} (hlk : look.ok) : (writeG g x y s look).ok := by
  have hmod : ∀ r ∈ g.rows.modify y fun row => mendL (writeRs g.w.toNat look x (runes s) row), r ∈ g.rows ∨ ∃ q ∈ g.rows, r = mendL (writeRs g.w.toNat look x (runes s) q) := fun r hr => by
    obtain ⟨k, hk⟩ := List.getElem?_of_mem hr
    rw [List.getElem?_modify] at hk
    cases hq : g.rows[k]? with
    | none => rw [hq] at hk; cases hk
    | some q =>
      rw [hq] at hk
      have hqm := List.mem_of_getElem? hq
      change some _ = some r at hk
      split at hk
      · exact .inr ⟨q, hqm, (Option.some.inj hk).symm⟩
      · exact .inl (by rw [← Option.some.inj hk]; exact hqm)
  refine withRows_ok f hg (by rw [List.length_modify, f.rlen]) (fun r hr => ?_) fun r hr => ?_
  · rcases hmod r hr with h1 | ⟨q, h1, rfl⟩
    · exact f.row r h1
    · rw [mendL_len, writeRs_len]; exact f.row q h1
  · rcases hmod r hr with h1 | ⟨q, h1, rfl⟩
    · exact rows_ok f hg r h1
    · exact mendL_ok (P := Cell.ok) (fun c h => blank_ok h) (writeRs_cells _ hlk _ _ _ (runes_range s) (rows_ok f hg q h1))
/-! ### The laws -/
theorem same_refl (g : Grid) (hg : g.ok) : Pure Tryd.prog W 16 [encGrid g, encGrid g] (.bool true) := by
  have := sameGrid_ok W g g hg hg
  rwa [show decide (g = g) = true by simp] at this
end Go.Eng.YtjkdkofpabocmaaDoor
end

/- The laws GridWrite, GridLay, GridLines. -/
section
namespace Go.Eng.YtjkdkofpabocmaaDoor
open Go Go.Eng Go.Proofs
variable (W : World)
set_option linter.unusedSimpArgs false
set_option maxRecDepth 100000
set_option linter.unusedVariables false
set_option maxHeartbeats 4000000
theorem errFrom_iff (w : Nat) (cs : List Cell) : ∀ (l : List Cell) (i : Nat), errFrom w cs i l = 0 ↔ ∀ k c, l[k]? = some c → ¬ badCell c ∧ ¬ halfCell w cs (i + k) c
  | [], i => by simp [errFrom]
  | c :: l, i => by
    have ih := errFrom_iff w cs l (i + 1)
    rw [errFrom]
    constructor
    · intro h k d hd
      split at h
      · cases h
      · split at h
        · cases h
        · rename_i h1 h2
          cases k with
          | zero =>
            simp only [List.getElem?_cons_zero, Option.some.injEq] at hd
            subst hd
            exact ⟨h1, h2⟩
          | succ k =>
            simp only [List.getElem?_cons_succ] at hd
            have := ih.1 h k d hd
            rwa [show i + 1 + k = i + (k + 1) by omega] at this
    · intro h
      have h0 := h 0 c rfl
      rw [if_neg h0.1, if_neg (by simpa using h0.2)]
      refine ih.2 fun k d hd => ?_
      have := h (k + 1) d (by simpa using hd)
      rwa [show i + (k + 1) = i + 1 + k by omega] at this
theorem good_cell {g : Grid} (h : checkG g = 0) {c : Cell} (hc : c ∈ g.cs) : ¬ badCell c := by
  obtain ⟨w, k, f⟩ := fit_of h
  unfold checkG at h
  split at h
  · obtain ⟨i, hi⟩ := List.getElem?_of_mem hc
    exact ((errFrom_iff _ _ _ _).1 h i c hi).1
  · cases h
theorem good_nonneg {g : Grid} (h : checkG g = 0) {c : Cell} (hc : c ∈ g.cs) : 0 ≤ c.r := by
  have hb := good_cell h hc
  unfold badCell at hb
  by_cases h0 : c.r = 0
  · omega
  · have hw : widthL c.r ≠ 0 := fun hw => hb (.inl ⟨h0, hw⟩)
    have := valid_of_width (r := c.r) (by omega)
    unfold validR at this
    omega
end Go.Eng.YtjkdkofpabocmaaDoor
end

/- Grids: parts, other sizes; checked. -/
section
namespace Go.Eng.YtjkdkofpabocmaaDoor
open Go Go.Eng Go.Proofs
variable (W : World)
set_option linter.unusedSimpArgs false
set_option maxRecDepth 100000
set_option linter.unusedVariables false
set_option maxHeartbeats 4000000
theorem newG_ok {w h : Int} (hs : sizeB w h = true) : (newG w h).ok := by
  unfold sizeB at hs
  simp only [Bool.and_eq_true, decide_eq_true_eq] at hs
  obtain ⟨a, rfl⟩ := Int.eq_ofNat_of_zero_le (show 0 ≤ w by omega)
  obtain ⟨b, rfl⟩ := Int.eq_ofNat_of_zero_le (show 0 ≤ h by omega)
  have hsm : a * b ≤ 120 * 60 := Nat.mul_le_mul (by omega) (by omega)
  refine ⟨by show i64ok (a : Int); unfold i64ok; omega, by show i64ok (b : Int); unfold i64ok; omega, fun c hc => ?_, ?_⟩
  · rw [newG] at hc
    obtain rfl := (List.mem_replicate.1 hc).2
    exact ⟨by show i32ok 32; unfold i32ok; decide, by unfold Style.ok i64ok blankC; decide⟩
  · rw [newG, List.length_replicate, show ((a : Int) * b).toNat = a * b from Int.toNat_natCast _]
    omega
theorem check_new {w h : Int} (hs : sizeB w h = true) : checkG (newG w h) = 0 := by
  have hs' := hs
  unfold sizeB at hs'
  simp only [Bool.and_eq_true, decide_eq_true_eq] at hs'
  have hw : widthL 32 = 1 := by decide +kernel
  rw [checkG, if_pos ⟨hs, by
    rw [newG, List.length_replicate]
    have : 0 ≤ w * h := Int.mul_nonneg (by omega) (by omega)
    exact Int.toNat_of_nonneg this⟩]
  refine (errFrom_iff _ _ _ _).2 fun k c hc => ?_
  obtain rfl : c = blankC := (List.mem_replicate.1 (List.mem_of_getElem? hc)).2
  constructor
  · rintro (⟨h1, h2⟩ | h)
    · rw [show blankC.r = 32 from rfl, hw] at h2; cases h2
    · exact absurd h (by decide)
  · rintro (⟨h, -⟩ | ⟨h, -⟩)
    · exact absurd h (by decide)
    · rw [show blankC.r = 32 from rfl, hw] at h; cases h
def resizeE (g : Grid) (w h : Int) : Grid × Int := if checkG g ≠ 0 then (.none, checkG g) else if sizeB w h = true then (layG g (newG w h) 0 0, 0) else (.none, 3)
theorem resize_ok (g : Grid) (hg : g.ok) (w h : Int) : Pure Tryd.prog W 14 [encGrid g, .int .i64 w, .int .i64 h] (.tup [encGrid (resizeE g w h).1, .int .i64 (resizeE g w h).2]) := by
  by_cases h1 : checkG g = 0
  · by_cases hs : sizeB w h = true
    · have hE : resizeE g w h = (layG g (newG w h) 0 0, 0) := by rw [resizeE, if_neg (by simpa using h1), if_pos hs]
      have hN : newE w h = (newG w h, 0) := by rw [newE, if_pos hs]
      have hlay := lay_ok W g (newG w h) hg (newG_ok hs) 0 0
      have hLE : layE g (newG w h) 0 0 = (layG g (newG w h) 0 0, 0) := by rw [layE, if_neg (by simpa using h1), if_neg (by simpa using check_new hs)]
      rw [hE]
      refine Pure.of (acalls_of_vc (drawOk W) Tryd.func14 rfl (by decide) (by decide) rfl ?_)
      (refine g0_ ?_; repeat ((first | refine n1_ fun b_ => ?_ | refine n2_ fun b_ => ?_); refine g0_ ?_))
      refine (check_ok W g hg).use ?_; (refine g0_ ?_; repeat ((first | refine n1_ fun b_ => ?_ | refine n2_ fun b_ => ?_); refine g0_ ?_))
      rw [h1]
      (refine g0_ ?_; repeat ((first | refine n1_ fun b_ => ?_ | refine n2_ fun b_ => ?_); refine g0_ ?_))
      refine (new_ok W w h).use ?_; (refine g0_ ?_; repeat ((first | refine n1_ fun b_ => ?_ | refine n2_ fun b_ => ?_); refine g0_ ?_))
      rw [hN]
      (refine g0_ ?_; repeat ((first | refine n1_ fun b_ => ?_ | refine n2_ fun b_ => ?_); refine g0_ ?_))
      refine (hlay).use ?_; (refine g0_ ?_; repeat ((first | refine n1_ fun b_ => ?_ | refine n2_ fun b_ => ?_); refine g0_ ?_))
      rw [hLE]
      (refine g0_ ?_; repeat ((first | refine n1_ fun b_ => ?_ | refine n2_ fun b_ => ?_); refine g0_ ?_))
      exact .refl _
    · have hE : resizeE g w h = (.none, 3) := by rw [resizeE, if_neg (by simpa using h1), if_neg hs]
      have hN : newE w h = (.none, 3) := by rw [newE, if_neg hs]
      rw [hE]
      refine Pure.of (acalls_of_vc (drawOk W) Tryd.func14 rfl (by decide) (by decide) rfl ?_)
      (refine g0_ ?_; repeat ((first | refine n1_ fun b_ => ?_ | refine n2_ fun b_ => ?_); refine g0_ ?_))
      refine (check_ok W g hg).use ?_; (refine g0_ ?_; repeat ((first | refine n1_ fun b_ => ?_ | refine n2_ fun b_ => ?_); refine g0_ ?_))
      rw [h1]
      (refine g0_ ?_; repeat ((first | refine n1_ fun b_ => ?_ | refine n2_ fun b_ => ?_); refine g0_ ?_))
      refine (new_ok W w h).use ?_; (refine g0_ ?_; repeat ((first | refine n1_ fun b_ => ?_ | refine n2_ fun b_ => ?_); refine g0_ ?_))
      rw [hN]
      (refine g0_ ?_; repeat ((first | refine n1_ fun b_ => ?_ | refine n2_ fun b_ => ?_); refine g0_ ?_))
      exact frz_tup2 frz_none (.refl _)
  · have hE : resizeE g w h = (.none, checkG g) := by rw [resizeE, if_pos h1]
    rw [hE]
    refine Pure.of (acalls_of_vc (drawOk W) Tryd.func14 rfl (by decide) (by decide) rfl ?_)
    (refine g0_ ?_; repeat ((first | refine n1_ fun b_ => ?_ | refine n2_ fun b_ => ?_); refine g0_ ?_))
    refine (check_ok W g hg).use ?_; (refine g0_ ?_; repeat ((first | refine n1_ fun b_ => ?_ | refine n2_ fun b_ => ?_); refine g0_ ?_))
    (refine g1_ ?_; repeat ((first | refine n1_ fun b_ => ?_ | refine n2_ fun b_ => ?_); refine g1_ ?_))
    exact frz_tup2 frz_none (.refl _)
/-- Is a part wholly in a grid? -/
def inG (g : Grid) (r : Rect) : Prop := 0 ≤ r.x ∧ 0 ≤ r.y ∧ 1 ≤ r.w ∧ 1 ≤ r.h ∧ r.x < g.w ∧ r.y < g.h ∧ r.w ≤ g.w - r.x ∧ r.h ≤ g.h - r.y
instance (g : Grid) (r : Rect) : Decidable (inG g r) := inferInstanceAs (Decidable (_ ∧ _))
def partE (g : Grid) (r : Rect) : Grid × Int := if checkG g ≠ 0 then (.none, checkG g) else if inG g r then (partG g r, 0) else (.none, 4)
def partRow (X A : Nat) (row : List Cell) : List Cell := mendL ((row.drop X).take A)
theorem part_ok (g : Grid) (hg : g.ok) (r : Rect) (hr : r.ok) : Pure Tryd.prog W 13 [encGrid g, encRect r] (.tup [encGrid (partE g r).1, .int .i64 (partE g r).2]) := by
  obtain ⟨rx, ry, rw_, rh⟩ := r
  obtain ⟨hr1, hr2, hr3, hr4⟩ := hr
  unfold i64ok at hr1 hr2 hr3 hr4
  dsimp only at hr1 hr2 hr3 hr4
  by_cases h1 : checkG g = 0
  · obtain ⟨w, h, f⟩ := fit_of h1
    have hgw := f.ew
    have hgh := f.eh
    have hw2 := f.w2
    have hh2 := f.h2
    have hsm := f.small
    have hcl := f.len
    by_cases h2 : inG g ⟨rx, ry, rw_, rh⟩
    · have hE : partE g ⟨rx, ry, rw_, rh⟩ = (partG g ⟨rx, ry, rw_, rh⟩, 0) := by rw [partE, if_neg (by simpa using h1), if_pos h2]
      obtain ⟨i1, i2, i3, i4, i5, i6, i7, i8⟩ := h2
      dsimp only at i1 i2 i3 i4 i5 i6 i7 i8
      obtain ⟨X, rfl⟩ := Int.eq_ofNat_of_zero_le i1
      obtain ⟨Y, rfl⟩ := Int.eq_ofNat_of_zero_le i2
      obtain ⟨A, rfl⟩ := Int.eq_ofNat_of_zero_le (show 0 ≤ rw_ by omega)
      obtain ⟨B, rfl⟩ := Int.eq_ofNat_of_zero_le (show 0 ≤ rh by omega)
      have hA1 : 1 ≤ A := by omega
      have hB1 : 1 ≤ B := by omega
      obtain ⟨L, hLd⟩ : ∃ L, L = g.rows.drop Y := ⟨_, rfl⟩
      have hLl : L.length = h - Y := by rw [hLd, List.length_drop, f.rlen]
      have hLr : ∀ r ∈ L, r.length = w := fun r hr => f.row r (by rw [hLd] at hr; exact List.mem_of_mem_drop hr)
      have hpr : ∀ r ∈ L, (partRow X A r).length = A := fun r hr => by
        rw [partRow, mendL_len, List.length_take, List.length_drop, hLr r hr]; omega
      have hPG : partG g ⟨X, Y, A, B⟩ = ⟨A, B, ((L.take B).map (partRow X A)).flatten⟩ := by rw [hLd]; rfl
      rw [hE, encRect]
      dsimp only
      refine Pure.of (acalls_of_vc (drawOk W) Tryd.func13 rfl (by decide) (by decide) rfl ?_)
      (refine g0_ ?_; repeat ((first | refine n1_ fun b_ => ?_ | refine n2_ fun b_ => ?_); refine g0_ ?_))
      refine (check_ok W g hg).use ?_; (refine g0_ ?_; repeat ((first | refine n1_ fun b_ => ?_ | refine n2_ fun b_ => ?_); refine g0_ ?_))
      rw [h1, hgw, hgh]
      (refine g0_ ?_; repeat ((first | refine n1_ fun b_ => ?_ | refine n2_ fun b_ => ?_); refine g0_ ?_))
      (refine g1_ ?_; repeat ((first | refine n1_ fun b_ => ?_ | refine n2_ fun b_ => ?_); refine g1_ ?_))
      rename_i b1 b2 b3
      obtain ⟨b4, rfl⟩ : ∃ b4, b4 = b_ := ⟨_, rfl⟩
      refine' loopI (α := Nat × Nat × (List PV)) (fun (i, b, o) => [(76, .int .i64 i)]) [(2, _), (3, _), (4, _), (7, _), (75, _)] (fun (i, b, o) => accM b 4 o ++ [⟨b4, .row 3 [.agg [.int .i64 A, .int .i64 B, accV b 4 o]] 0⟩, ⟨b3, .row 3 [.agg [.int .i64 0, .int .i64 0, .nils]] 0⟩, ⟨b2, .row 4 [.agg [.int .i64 X, .int .i64 Y, .int .i64 A, .int .i64 B]] 0⟩, ⟨b1, .row 3 [.agg [.int .i64 w, .int .i64 h, .sl 4 (g.cs.map encCell)]] 0⟩]) (fun (i, b, o) => i ≤ B ∧ o = ((L.take i).map (partRow X A)).flatten.map encCell) (fun (i, b, o) => B - i) (0, 0, []) ?_ ?_
      · exact ⟨Nat.zero_le _, rfl⟩
      rintro ⟨i, b, o⟩ ⟨hi, ho⟩
      rcases o with _ | ⟨p, o⟩
      · (refine g0_ ?_; repeat ((first | refine n1_ fun b_ => ?_ | refine n2_ fun b_ => ?_); refine g0_ ?_))
        refine brec ?_; intro c_ h3; (try rw [h3]); cases c_ <;> replace h3 := nm_ h3
        · have : i = B := by omega
          subst this
          have hoE : [] = ((L.take i).map (partRow X A)).flatten.map encCell := by rw [ho]
          have hol := congrArg List.length ho
          have hfl := flat_len A ((L.take i).map (partRow X A)) (fun r hr => by
            obtain ⟨q, hq, rfl⟩ := List.mem_map.1 hr
            exact hpr q (List.mem_of_mem_take hq))
          rw [List.length_map, List.length_take, Nat.min_eq_left (by omega)] at hfl
          have h11 : 1 * 1 ≤ i * A := Nat.mul_le_mul hB1 hA1
          simp only [List.length_map, List.length_cons, List.length_nil] at hol
          (refine g0_ ?_; repeat ((first | refine n1_ fun b_ => ?_ | refine n2_ fun b_ => ?_); refine g0_ ?_))
          first
            | (exfalso; omega)
            | (refine frz_tup2 ?_ (.refl _)
               rw [hPG]
               exact frz_grid (by rw [← hoE]; repeat (first | exact .here _ _ _ | apply Look.there)) (by omega))
        · obtain ⟨row, hr⟩ : ∃ r, L[i]? = some r := ⟨L[i]'(by omega), List.getElem?_eq_getElem _⟩
          have hrm := List.mem_of_getElem? hr
          have hrl := hLr row hrm
          have hgr : g.rows[Y + i]? = some row := by
            have := hr
            rw [hLd, List.getElem?_drop] at this
            exact this
          have hgr2 := hgr
          rw [f.rows, rowsOf_get w h g.cs (Y + i) (by omega)] at hgr2
          have hgr3 := Option.some.inj hgr2
          have hyw : (Y + i + 1) * w ≤ h * w := Nat.mul_le_mul_right w (by omega)
          rw [Nat.mul_comm h w, ← f.len] at hyw
          have hol := congrArg List.length ho
          have hfl := flat_len A ((L.take i).map (partRow X A)) (fun r hr => by
            obtain ⟨q, hq, rfl⟩ := List.mem_map.1 hr
            exact hpr q (List.mem_of_mem_take hq))
          rw [List.length_map, List.length_take, Nat.min_eq_left (by omega)] at hfl
          have hsmall : i * A ≤ 60 * 120 := Nat.mul_le_mul (by omega) (by omega)
          simp only [List.length_map, List.length_cons, List.length_nil] at hol
          (refine g0_ ?_; repeat ((first | refine n1_ fun b_ => ?_ | refine n2_ fun b_ => ?_); refine g0_ ?_))
          refine Draws.head ⟨14, by decide +kernel, ?_⟩; (refine g0_ ?_; repeat ((first | refine n1_ fun b_ => ?_ | refine n2_ fun b_ => ?_); refine g0_ ?_))
          rw [show ((Y : Int) + i) = ((Y + i : Nat) : Int) by push_cast; rfl]
          refine ⟨_, (row_ok W w (Y + i) h g.cs hyw (by omega) (by omega) (by omega)).quiet, ?_⟩; (refine g0_ ?_; repeat ((first | refine n1_ fun b_ => ?_ | refine n2_ fun b_ => ?_); refine g0_ ?_))
          rw [hgr3]
          have hsg : (row.take (X + A)).drop X = (row.drop X).take A := by rw [List.drop_take]; congr 1; omega
          have hsl : ((row.drop X).take A).length = A := by rw [List.length_take, List.length_drop]; omega
          obtain ⟨seg, hseg⟩ : ∃ seg, seg = (row.drop X).take A := ⟨_, rfl⟩
          have hpq : (partRow X A row).length = A := hpr row hrm
          have hca := cells_all (partRow X A row)
          rw [← hseg] at hsg hsl
          have hpe : partRow X A row = mendL seg := by rw [partRow, hseg]
          (refine g0_ ?_; repeat ((first | refine n1_ fun b_ => ?_ | refine n2_ fun b_ => ?_); refine g0_ ?_))
          first | rw [hsg] | rw [← List.map_take, ← List.map_drop, hsg]
          refine ACalls.giveE (cloneG_cells W seg (by rintro rfl; simp at hsl; omega) (by omega)) ?_
          rintro b' -
          (refine g0_ ?_; repeat ((first | refine n1_ fun b_ => ?_ | refine n2_ fun b_ => ?_); refine g0_ ?_))
          have hmk := mend_ok W b' [] seg [] (by omega)
          rw [List.nil_append, List.append_nil, List.nil_append, List.append_nil, ← hpe] at hmk
          rw [List.length_map]
          dsimp only
          refine ACalls.lend1 hmk (by repeat (first | exact .here _ _ _ | apply Look.there)) ?_
          rintro _ -
          have hp1 : ∃ c r', partRow X A row = c :: r' := by cases hq : partRow X A row with | nil => (rw [hq] at hpq; simp at hpq; omega) | cons c r' => exact ⟨_, _, rfl⟩
          obtain ⟨c, r', hcr⟩ := hp1
          rw [hcr] at hca ⊢
          have hrl2 : ((c :: r').map encCell).length = A := by rw [← hcr, List.length_map]; exact hpq
          have hrl3 : r'.length + 1 = A := by simpa using hrl2
          have htk : List.take seg.length (List.drop 0 (List.map encCell (c :: r'))) = List.map encCell (c :: r') := by rw [List.drop_zero, hsl, ← hrl2, List.take_length]
          (refine g0_ ?_; repeat ((first | refine n1_ fun b_ => ?_ | refine n2_ fun b_ => ?_); refine g0_ ?_))
          rw [htk]
          (refine g0_ ?_; repeat ((first | refine n1_ fun b_ => ?_ | refine n2_ fun b_ => ?_); refine g0_ ?_))
          (try rw [show o.length + 1 + ((c :: r').map encCell).length = (o ++ (c :: r').map encCell).length + 1 by simp; omega])
          refine nx_ (i + 1, b_, [] ++ (c :: r').map encCell) ?_ ?_
          · exact ⟨by omega, by rw [take_snoc_of hr, List.map_append, List.flatten_append, List.map_append, ← ho]; simp [hcr]⟩
          · ((try dsimp only); (try simp only [List.length_drop, List.length_take, List.length_append, List.length_cons, List.length_nil, List.length_map] at *); omega)
      · (refine g0_ ?_; repeat ((first | refine n1_ fun b_ => ?_ | refine n2_ fun b_ => ?_); refine g0_ ?_))
        refine brec ?_; intro c_ h3; (try rw [h3]); cases c_ <;> replace h3 := nm_ h3
        · have : i = B := by omega
          subst this
          have hoE : (p :: o) = ((L.take i).map (partRow X A)).flatten.map encCell := by rw [ho]
          have hol := congrArg List.length ho
          have hfl := flat_len A ((L.take i).map (partRow X A)) (fun r hr => by
            obtain ⟨q, hq, rfl⟩ := List.mem_map.1 hr
            exact hpr q (List.mem_of_mem_take hq))
          rw [List.length_map, List.length_take, Nat.min_eq_left (by omega)] at hfl
          have h11 : 1 * 1 ≤ i * A := Nat.mul_le_mul hB1 hA1
          simp only [List.length_map, List.length_cons, List.length_nil] at hol
          (refine g0_ ?_; repeat ((first | refine n1_ fun b_ => ?_ | refine n2_ fun b_ => ?_); refine g0_ ?_))
          first
            | (exfalso; omega)
            | (refine frz_tup2 ?_ (.refl _)
               rw [hPG]
               exact frz_grid (by rw [← hoE]; repeat (first | exact .here _ _ _ | apply Look.there)) (by omega))
        · obtain ⟨row, hr⟩ : ∃ r, L[i]? = some r := ⟨L[i]'(by omega), List.getElem?_eq_getElem _⟩
          have hrm := List.mem_of_getElem? hr
          have hrl := hLr row hrm
          have hgr : g.rows[Y + i]? = some row := by
            have := hr
            rw [hLd, List.getElem?_drop] at this
            exact this
          have hgr2 := hgr
          rw [f.rows, rowsOf_get w h g.cs (Y + i) (by omega)] at hgr2
          have hgr3 := Option.some.inj hgr2
          have hyw : (Y + i + 1) * w ≤ h * w := Nat.mul_le_mul_right w (by omega)
          rw [Nat.mul_comm h w, ← f.len] at hyw
          have hol := congrArg List.length ho
          have hfl := flat_len A ((L.take i).map (partRow X A)) (fun r hr => by
            obtain ⟨q, hq, rfl⟩ := List.mem_map.1 hr
            exact hpr q (List.mem_of_mem_take hq))
          rw [List.length_map, List.length_take, Nat.min_eq_left (by omega)] at hfl
          have hsmall : i * A ≤ 60 * 120 := Nat.mul_le_mul (by omega) (by omega)
          simp only [List.length_map, List.length_cons, List.length_nil] at hol
          (refine g0_ ?_; repeat ((first | refine n1_ fun b_ => ?_ | refine n2_ fun b_ => ?_); refine g0_ ?_))
          refine Draws.head ⟨14, by decide +kernel, ?_⟩; (refine g0_ ?_; repeat ((first | refine n1_ fun b_ => ?_ | refine n2_ fun b_ => ?_); refine g0_ ?_))
          rw [show ((Y : Int) + i) = ((Y + i : Nat) : Int) by push_cast; rfl]
          refine ⟨_, (row_ok W w (Y + i) h g.cs hyw (by omega) (by omega) (by omega)).quiet, ?_⟩; (refine g0_ ?_; repeat ((first | refine n1_ fun b_ => ?_ | refine n2_ fun b_ => ?_); refine g0_ ?_))
          rw [hgr3]
          have hsg : (row.take (X + A)).drop X = (row.drop X).take A := by rw [List.drop_take]; congr 1; omega
          have hsl : ((row.drop X).take A).length = A := by rw [List.length_take, List.length_drop]; omega
          obtain ⟨seg, hseg⟩ : ∃ seg, seg = (row.drop X).take A := ⟨_, rfl⟩
          have hpq : (partRow X A row).length = A := hpr row hrm
          have hca := cells_all (partRow X A row)
          rw [← hseg] at hsg hsl
          have hpe : partRow X A row = mendL seg := by rw [partRow, hseg]
          (refine g0_ ?_; repeat ((first | refine n1_ fun b_ => ?_ | refine n2_ fun b_ => ?_); refine g0_ ?_))
          first | rw [hsg] | rw [← List.map_take, ← List.map_drop, hsg]
          refine ACalls.giveE (cloneG_cells W seg (by rintro rfl; simp at hsl; omega) (by omega)) ?_
          rintro b' -
          (refine g0_ ?_; repeat ((first | refine n1_ fun b_ => ?_ | refine n2_ fun b_ => ?_); refine g0_ ?_))
          have hmk := mend_ok W b' [] seg [] (by omega)
          rw [List.nil_append, List.append_nil, List.nil_append, List.append_nil, ← hpe] at hmk
          rw [List.length_map]
          dsimp only
          refine ACalls.lend1 hmk (by repeat (first | exact .here _ _ _ | apply Look.there)) ?_
          rintro _ -
          have hp1 : ∃ c r', partRow X A row = c :: r' := by cases hq : partRow X A row with | nil => (rw [hq] at hpq; simp at hpq; omega) | cons c r' => exact ⟨_, _, rfl⟩
          obtain ⟨c, r', hcr⟩ := hp1
          rw [hcr] at hca ⊢
          have hrl2 : ((c :: r').map encCell).length = A := by rw [← hcr, List.length_map]; exact hpq
          have hrl3 : r'.length + 1 = A := by simpa using hrl2
          have htk : List.take seg.length (List.drop 0 (List.map encCell (c :: r'))) = List.map encCell (c :: r') := by rw [List.drop_zero, hsl, ← hrl2, List.take_length]
          (refine g0_ ?_; repeat ((first | refine n1_ fun b_ => ?_ | refine n2_ fun b_ => ?_); refine g0_ ?_))
          rw [htk]
          (refine g0_ ?_; repeat ((first | refine n1_ fun b_ => ?_ | refine n2_ fun b_ => ?_); refine g0_ ?_))
          (try rw [show o.length + 1 + ((c :: r').map encCell).length = (o ++ (c :: r').map encCell).length + 1 by simp; omega])
          refine nx_ (i + 1, b_, (p :: o) ++ (c :: r').map encCell) ?_ ?_
          · exact ⟨by omega, by rw [take_snoc_of hr, List.map_append, List.flatten_append, List.map_append, ← ho]; simp [hcr]⟩
          · ((try dsimp only); (try simp only [List.length_drop, List.length_take, List.length_append, List.length_cons, List.length_nil, List.length_map] at *); omega)
    · have hE : partE g ⟨rx, ry, rw_, rh⟩ = (.none, 4) := by rw [partE, if_neg (by simpa using h1), if_neg h2]
      unfold inG at h2
      dsimp only at h2
      rw [hE, encRect]
      dsimp only
      refine Pure.of (acalls_of_vc (drawOk W) Tryd.func13 rfl (by decide) (by decide) rfl ?_)
      (refine g0_ ?_; repeat ((first | refine n1_ fun b_ => ?_ | refine n2_ fun b_ => ?_); refine g0_ ?_))
      refine (check_ok W g hg).use ?_; (refine g0_ ?_; repeat ((first | refine n1_ fun b_ => ?_ | refine n2_ fun b_ => ?_); refine g0_ ?_))
      rw [h1, hgw, hgh]
      by_cases h3 : rx < 0 ∨ ry < 0 ∨ rw_ < 1 ∨ rh < 1 ∨ (w : Int) ≤ rx ∨ (h : Int) ≤ ry
      · (refine g0_ ?_; repeat ((first | refine n1_ fun b_ => ?_ | refine n2_ fun b_ => ?_); refine g0_ ?_))
        (refine g1_ ?_; repeat ((first | refine n1_ fun b_ => ?_ | refine n2_ fun b_ => ?_); refine g1_ ?_))
        exact frz_tup2 frz_none (.refl _)
      · (refine g0_ ?_; repeat ((first | refine n1_ fun b_ => ?_ | refine n2_ fun b_ => ?_); refine g0_ ?_))
        (refine g1_ ?_; repeat ((first | refine n1_ fun b_ => ?_ | refine n2_ fun b_ => ?_); refine g1_ ?_))
        exact frz_tup2 frz_none (.refl _)
  · have hE : partE g ⟨rx, ry, rw_, rh⟩ = (.none, checkG g) := by rw [partE, if_pos h1]
    rw [hE]
    refine Pure.of (acalls_of_vc (drawOk W) Tryd.func13 rfl (by decide) (by decide) rfl ?_)
    (refine g0_ ?_; repeat ((first | refine n1_ fun b_ => ?_ | refine n2_ fun b_ => ?_); refine g0_ ?_))
    refine (check_ok W g hg).use ?_; (refine g0_ ?_; repeat ((first | refine n1_ fun b_ => ?_ | refine n2_ fun b_ => ?_); refine g0_ ?_))
    (refine g1_ ?_; repeat ((first | refine n1_ fun b_ => ?_ | refine n2_ fun b_ => ?_); refine g1_ ?_))
    exact frz_tup2 frz_none (.refl _)
end Go.Eng.YtjkdkofpabocmaaDoor
end

/- Grids that are right: rows mended are; plain. -/
section
namespace Go.Eng.YtjkdkofpabocmaaDoor
open Go Go.Eng Go.Proofs
set_option linter.unusedSimpArgs false
set_option linter.unusedVariables false
/-- Nothing of a row is half a rune. -/
def goodI (row : List Cell) : Prop := ∀ k c, row[k]? = some c → ¬ badCell c ∧ (c.r = 0 → ∃ j p, k = j + 1 ∧ row[j]? = some p ∧ widthL p.r = 2 ∧ p.s = c.s) ∧ (widthL c.r = 2 → ∃ d, row[k + 1]? = some d ∧ d.r = 0)
/-- What stands behind a wide rune is of its look. -/
def pairL (l : List Cell) : Prop := (∀ c ∈ l, ¬ badCell c) ∧ ∀ (k : Nat) c d, l[k]? = some c → l[k + 1]? = some d → widthL c.r = 2 → d.r = 0 → c.s = d.s
theorem pairL.tail {c : Cell} {l : List Cell} (h : pairL (c :: l)) : pairL l :=
  ⟨fun d hd => h.1 d (List.mem_cons_of_mem _ hd), fun k a b ha hb => h.2 (k + 1) a b (by simpa using ha) (by simpa using hb)⟩
theorem goodI.pair {l : List Cell} (h : goodI l) : pairL l :=
  ⟨fun c hc => by
    obtain ⟨k, hk⟩ := List.getElem?_of_mem hc
    exact (h k c hk).1, fun k c d hc hd hw h0 => by
    obtain ⟨j, p, hj, hp, _, hs⟩ := (h _ d hd).2.1 h0
    obtain rfl : j = k := by omega
    rw [hc] at hp
    obtain rfl := Option.some.inj hp
    exact hs⟩
theorem blank_bad {c : Cell} (h : ¬ badCell c) : ¬ badCell c.blank := by
  unfold badCell at *
  rintro (⟨_, h2⟩ | h2)
  · rw [show c.blank.r = 32 from rfl, w32] at h2; cases h2
  · exact h (.inr h2)
theorem goodI.cons {c : Cell} {l : List Cell} (h1 : ¬ badCell c) (h2 : c.r ≠ 0) (h3 : widthL c.r ≠ 2) (h : goodI l) : goodI (c :: l) := by
  intro k d hd
  cases k with
  | zero =>
    obtain rfl := Option.some.inj hd
    exact ⟨h1, fun h => absurd h h2, fun h => absurd h h3⟩
  | succ k =>
    rw [List.getElem?_cons_succ] at hd
    obtain ⟨a, b, e⟩ := h k d hd
    refine ⟨a, fun h0 => ?_, fun hw => ?_⟩
    · obtain ⟨j, p, rfl, hp, q⟩ := b h0
      exact ⟨j + 1, p, rfl, by simpa using hp, q⟩
    · obtain ⟨d', hd', q⟩ := e hw
      exact ⟨d', by simpa using hd', q⟩
theorem goodI.cons2 {c d : Cell} {l : List Cell} (h1 : ¬ badCell c) (h2 : ¬ badCell d) (h3 : widthL c.r = 2) (h4 : d.r = 0) (h5 : c.s = d.s) (h : goodI l) : goodI (c :: d :: l) := by
  intro k e he
  match k, he with
  | 0, he =>
    obtain rfl := Option.some.inj he
    exact ⟨h1, (fun h => by rw [h, w0] at h3; cases h3), fun _ => ⟨d, rfl, h4⟩⟩
  | 1, he =>
    obtain rfl := Option.some.inj he
    exact ⟨h2, fun _ => ⟨0, c, rfl, rfl, h3, h5⟩, fun h => by rw [h4, w0] at h; cases h⟩
  | k + 2, he =>
    rw [List.getElem?_cons_succ, List.getElem?_cons_succ] at he
    obtain ⟨a, b, f⟩ := h k e he
    refine ⟨a, fun h0 => ?_, fun hw => ?_⟩
    · obtain ⟨j, p, rfl, hp, q⟩ := b h0
      exact ⟨j + 2, p, rfl, by simpa using hp, q⟩
    · obtain ⟨d', hd', q⟩ := f hw
      exact ⟨d', by simpa using hd', q⟩
theorem goodI.nil : goodI [] := fun k c h => by simp at h
theorem blank_r (c : Cell) : c.blank.r = 32 := rfl
theorem goodI.blank {c : Cell} {l : List Cell} (h1 : ¬ badCell c) (h : goodI l) : goodI (c.blank :: l) :=
  .cons (blank_bad h1) (by rw [blank_r]; decide) (by rw [blank_r, w32]; decide) h
/-- Mended, nothing is half a rune. -/
theorem mendR_good : ∀ (n : Nat) (l : List Cell), l.length ≤ n → pairL l → goodI (mendR l)
  | 0, l, h, _ => by rw [List.eq_nil_of_length_eq_zero (by omega : l.length = 0)]; exact .nil
  | n + 1, [], _, _ => .nil
  | n + 1, [c], _, hp => by
    have hc := hp.1 c (by simp)
    rw [mendR]
    split
    · exact .blank hc .nil
    · split
      · exact .blank hc .nil
      · exact .cons hc ‹_› ‹_› .nil
  | n + 1, c :: d :: r, h, hp => by
    simp only [List.length_cons] at h
    have hc := hp.1 c (by simp)
    have hd := hp.1 d (by simp)
    have i1 := mendR_good n (d :: r) (by simp; omega) hp.tail
    have i2 := mendR_good n r (by omega) hp.tail.tail
    rw [mendR]
    split
    · split
      · exact .cons2 hc hd ‹_› ‹_› (hp.2 0 c d rfl rfl ‹_› ‹_›) i2
      · exact .blank hc i1
    · split
      · exact .blank hc i1
      · exact .cons hc ‹_› ‹_› i1
theorem mendL_good {l : List Cell} (h : pairL l) : goodI (mendL l) := by rw [mendL_R]; exact mendR_good _ l (Nat.le_refl _) h
/-- A row that is right stays so, before whatever. -/
theorem goodI.drop1 {c : Cell} {l : List Cell} (h : goodI (c :: l)) (hw : widthL c.r ≠ 2) : goodI l := by
  intro k d hd
  obtain ⟨a, b, e⟩ := h (k + 1) d (by simpa using hd)
  refine ⟨a, fun h0 => ?_, fun hw => ?_⟩
  · obtain ⟨j, p, hj, hp, q⟩ := b h0
    obtain rfl : j = k := by omega
    cases j with
    | zero =>
      obtain rfl := Option.some.inj hp
      exact absurd q.1 hw
    | succ j => exact ⟨j, p, rfl, by simpa using hp, q⟩
  · obtain ⟨d', hd', q⟩ := e hw
    exact ⟨d', by simpa using hd', q⟩
theorem goodI.head {c : Cell} {l : List Cell} (h : goodI (c :: l)) : c.r ≠ 0 := fun h0 => by
  obtain ⟨j, p, hj, _⟩ := (h 0 c rfl).2.1 h0
  omega
theorem mendR_keep : ∀ (n : Nat) (l post : List Cell), l.length ≤ n → goodI l → mendR (l ++ post) = l ++ mendR post
  | 0, l, post, h, _ => by rw [List.eq_nil_of_length_eq_zero (by omega : l.length = 0)]; rfl
  | n + 1, [], post, _, _ => rfl
  | n + 1, [c], post, _, hg => by
    have h0 := hg.head
    have hw : widthL c.r ≠ 2 := fun hw => by
      obtain ⟨d, hd, _⟩ := (hg 0 c rfl).2.2 hw
      simp at hd
    cases post with
    | nil => simp [mendR, h0, hw]
    | cons d post => simp [mendR, h0, hw]
  | n + 1, c :: d :: r, post, h, hg => by
    simp only [List.length_cons] at h
    have h0 := hg.head
    by_cases hw : widthL c.r = 2
    · obtain ⟨d', hd, hd0⟩ := (hg 0 c rfl).2.2 hw
      obtain rfl := Option.some.inj hd
      have hd2 : widthL d.r ≠ 2 := by rw [hd0, w0]; decide
      have i2 := mendR_keep n r post (by omega) (fun k e he => by
        obtain ⟨a, b, f⟩ := hg (k + 2) e (by simpa using he)
        refine ⟨a, fun h0 => ?_, fun hw => ?_⟩
        · obtain ⟨j, p, hj, hp, q⟩ := b h0
          obtain rfl : j = k + 1 := by omega
          cases k with
          | zero =>
            obtain rfl := Option.some.inj hp
            exact absurd q.1 hd2
          | succ k => exact ⟨k, p, rfl, by simpa using hp, q⟩
        · obtain ⟨d', hd', q⟩ := f hw
          exact ⟨d', by simpa using hd', q⟩)
      rw [List.cons_append, List.cons_append, mendR, if_pos hw, if_pos hd0, i2]; rfl
    · have i1 := mendR_keep n (d :: r) post (by simp; omega) (hg.drop1 hw)
      rw [List.cons_append, List.cons_append, mendR, if_neg hw, if_neg h0]
      rw [← List.cons_append, i1]; rfl
theorem mendR_split : ∀ (n : Nat) (l : List Cell) (c : Cell) (r : List Cell), l.length ≤ n → c.r ≠ 0 → ∃ l', l'.length = l.length ∧ mendR (l ++ c :: r) = l' ++ mendR (c :: r)
  | 0, l, c, r, h, _ => ⟨[], by simp; omega, by rw [List.eq_nil_of_length_eq_zero (by omega : l.length = 0)]; rfl⟩
  | n + 1, [], c, r, _, _ => ⟨[], rfl, rfl⟩
  | n + 1, [a], c, r, _, h0 => by
    rw [List.cons_append, List.nil_append, mendR, if_neg h0]
    split
    · exact ⟨[a.blank], rfl, rfl⟩
    · split
      · exact ⟨[a.blank], rfl, rfl⟩
      · exact ⟨[a], rfl, rfl⟩
  | n + 1, a :: b :: l, c, r, h, h0 => by
    simp only [List.length_cons] at h
    obtain ⟨l1, h1, e1⟩ := mendR_split n (b :: l) c r (by simp; omega) h0
    obtain ⟨l2, h2, e2⟩ := mendR_split n l c r (by omega) h0
    simp only [List.cons_append] at e1 ⊢
    rw [mendR]
    split
    · split
      · rw [e2]; exact ⟨a :: b :: l2, by simp [h2], rfl⟩
      · rw [e1]; exact ⟨a.blank :: l1, by simpa using h1, rfl⟩
    · split
      · rw [e1]; exact ⟨a.blank :: l1, by simpa using h1, rfl⟩
      · rw [e1]; exact ⟨a :: l1, by simpa using h1, rfl⟩
theorem mendL_mid {pre a post : List Cell} (hg : goodI a) (h0 : a ≠ []) : ((mendL (pre ++ a ++ post)).drop pre.length).take a.length = a := by
  obtain ⟨c, r, rfl⟩ : ∃ c r, a = c :: r := by cases a with | nil => exact absurd rfl h0 | cons c r => exact ⟨_, _, rfl⟩
  obtain ⟨l', h1, h2⟩ := mendR_split _ pre c (r ++ post) (Nat.le_refl _) hg.head
  have h3 := mendR_keep _ (c :: r) post (Nat.le_refl _) hg
  rw [List.cons_append] at h3
  rw [mendL_R, List.append_assoc, List.cons_append, h2, h3, ← h1, List.drop_left, List.take_left]
theorem mendL_same {a : List Cell} (hg : goodI a) : mendL a = a := by
  have := mendR_keep _ a [] (Nat.le_refl _) hg
  rw [mendL_R]
  simpa [mendR] using this
/-! ### A grid is right just if its rows are -/
theorem at_row {g : Grid} {w h : Nat} (f : g.fit w h) {y x : Nat} {row : List Cell} (hr : g.rows[y]? = some row) (hx : x < w) : row[x]? = g.cs[y * w + x]? := by
  have hy := lt_of_at hr
  rw [f.rlen] at hy
  rw [f.rows, rowsOf_get w h g.cs y hy] at hr
  obtain rfl := Option.some.inj hr
  rw [List.getElem?_take, if_pos hx, List.getElem?_drop]
theorem rows_good {g : Grid} {w h : Nat} (f : g.fit w h) (hg : checkG g = 0) {row : List Cell} (hr : row ∈ g.rows) : goodI row := by
  unfold checkG at hg
  split at hg
  case isFalse => cases hg
  have hE := (errFrom_iff _ _ _ _).1 hg
  rw [f.ew, Int.toNat_natCast] at hE
  obtain ⟨y, hy⟩ := List.getElem?_of_mem hr
  have hlen := f.row row hr
  intro x c hc
  have hx := lt_of_at hc
  rw [hlen] at hx
  have hc' := hc
  rw [at_row f hy hx] at hc'
  obtain ⟨h1, h2⟩ := hE _ c hc'
  rw [Nat.zero_add] at h2
  have hm : (y * w + x) % w = x := by rw [Nat.mul_comm, Nat.mul_add_mod, Nat.mod_eq_of_lt hx]
  unfold halfCell at h2
  rw [hm] at h2
  refine ⟨h1, fun h0 => ?_, fun hw => ?_⟩
  · have hlo : ¬ (x = 0 ∨ ¬ leftOk g.cs (y * w + x) c) := fun h => h2 (.inl ⟨h0, h⟩)
    have hx0 : x ≠ 0 := fun h => hlo (.inl h)
    have hl : leftOk g.cs (y * w + x) c := Decidable.byContradiction fun h => hlo (.inr h)
    obtain ⟨j, rfl⟩ : ∃ j, x = j + 1 := ⟨x - 1, by omega⟩
    unfold leftOk at hl
    rw [show y * w + (j + 1) - 1 = y * w + j by omega, ← at_row f hy (by omega)] at hl
    split at hl
    · exact ⟨j, _, rfl, ‹_›, hl⟩
    · exact hl.elim
  · have hlo : ¬ (x = w - 1 ∨ ¬ rightOk g.cs (y * w + x)) := fun h => h2 (.inr ⟨hw, h⟩)
    have hx0 : x ≠ w - 1 := fun h => hlo (.inl h)
    have hl : rightOk g.cs (y * w + x) := Decidable.byContradiction fun h => hlo (.inr h)
    unfold rightOk at hl
    rw [show y * w + x + 1 = y * w + (x + 1) by omega, ← at_row f hy (by omega)] at hl
    split at hl
    · exact ⟨_, ‹_›, hl⟩
    · exact hl.elim
theorem check_rows {g : Grid} {w h : Nat} (f : g.fit w h) (hg : ∀ row ∈ g.rows, goodI row) : checkG g = 0 := by
  have hw1 := f.w1
  have hw2 := f.w2
  have hh1 := f.h1
  have hh2 := f.h2
  have hl := f.len
  rw [checkG, if_pos ⟨by rw [f.ew, f.eh]; unfold sizeB; simp only [Bool.and_eq_true, decide_eq_true_eq]; omega, by rw [f.ew, f.eh, hl]; push_cast; rfl⟩]
  refine (errFrom_iff _ _ _ _).2 fun i c hc => ?_
  rw [f.ew, Int.toNat_natCast, Nat.zero_add]
  have hi := lt_of_at hc
  rw [hl] at hi
  obtain ⟨y, x, rfl, hx⟩ : ∃ y x, i = y * w + x ∧ x < w := ⟨i / w, i % w, by rw [Nat.mul_comm]; exact (Nat.div_add_mod i w).symm, Nat.mod_lt _ (by omega)⟩
  have hy : y < h := by
    refine Nat.lt_of_mul_lt_mul_right (a := w) ?_
    rw [Nat.mul_comm h w]; omega
  obtain ⟨row, hr⟩ : ∃ row, g.rows[y]? = some row := ⟨_, List.getElem?_eq_getElem (by rw [f.rlen]; exact hy)⟩
  have hrow := hg row (List.mem_of_getElem? hr)
  have hrl := f.row row (List.mem_of_getElem? hr)
  have hm : (y * w + x) % w = x := by rw [Nat.mul_comm, Nat.mul_add_mod, Nat.mod_eq_of_lt hx]
  have hc' := hc
  rw [← at_row f hr hx] at hc'
  obtain ⟨h1, h2, h3⟩ := hrow x c hc'
  refine ⟨h1, ?_⟩
  unfold halfCell
  rw [hm]
  rintro (⟨h0, h⟩ | ⟨h0, h⟩)
  · obtain ⟨j, p, rfl, hp, hq⟩ := h2 h0
    rcases h with h | h
    · omega
    · refine h ?_
      unfold leftOk
      rw [show y * w + (j + 1) - 1 = y * w + j by omega, ← at_row f hr (by omega), hp]
      exact hq
  · obtain ⟨d, hd, hd0⟩ := h3 h0
    have := lt_of_at hd
    rcases h with h | h
    · omega
    · refine h ?_
      unfold rightOk
      rw [show y * w + x + 1 = y * w + (x + 1) by omega, ← at_row f hr (by omega), hd]
      exact hd0
end Go.Eng.YtjkdkofpabocmaaDoor
end

/- What is made of grids is right; plain. -/
section
namespace Go.Eng.YtjkdkofpabocmaaDoor
open Go Go.Eng Go.Proofs
set_option linter.unusedSimpArgs false
set_option linter.unusedVariables false
theorem rows_with {g : Grid} {w h : Nat} (f : g.fit w h) {L : List (List Cell)} (hl : L.length = h) (hr : ∀ r ∈ L, r.length = w) : (g.withRows L).fit w h ∧ (g.withRows L).rows = L := by
  have f' : (g.withRows L).fit w h := ⟨f.ew, f.eh, f.w1, f.w2, f.h1, f.h2, by rw [Grid.withRows]; show L.flatten.length = _; rw [flat_len w L hr, hl, Nat.mul_comm]⟩
  refine ⟨f', ?_⟩
  rw [f'.rows]
  show rowsOf w h L.flatten = L
  rw [← hl]
  exact flat_rowsOf w L hr
theorem with_right {g : Grid} {w h : Nat} (f : g.fit w h) {L : List (List Cell)} (hl : L.length = h) (hr : ∀ r ∈ L, r.length = w) (hg : ∀ r ∈ L, goodI r) : checkG (g.withRows L) = 0 := by
  obtain ⟨f', hL⟩ := rows_with f hl hr
  exact check_rows f' fun r hr' => hg r (by rwa [hL] at hr')
theorem pair_mapIdx {p : Nat → Cell → Cell} {row : List Cell} (hb : ∀ k c, row[k]? = some c → ¬ badCell (p k c)) (h : ∀ (k : Nat) c d, row[k]? = some c → row[k + 1]? = some d → widthL (p k c).r = 2 → (p (k + 1) d).r = 0 → (p k c).s = (p (k + 1) d).s) : pairL (row.mapIdx p) := by
  refine ⟨fun c hc => ?_, fun k c d hc hd => ?_⟩
  · obtain ⟨k, hk⟩ := List.getElem?_of_mem hc
    rw [List.getElem?_mapIdx] at hk
    obtain ⟨x, hx, rfl⟩ := Option.map_eq_some_iff.1 hk
    exact hb k x hx
  · rw [List.getElem?_mapIdx] at hc hd
    obtain ⟨x, hx, rfl⟩ := Option.map_eq_some_iff.1 hc
    obtain ⟨y, hy, rfl⟩ := Option.map_eq_some_iff.1 hd
    exact h k x y hx hy
theorem fill_pair {c : Cell} {a b : Int} {row : List Cell} (hg : goodI row) (hw : widthL c.r = 1) (hs : checkStyle c.s = true) : pairL (fillRow c a b row) := by
  have hp := hg.pair
  have hc0 : c.r ≠ 0 := fun h => by rw [h, w0] at hw; cases hw
  refine pair_mapIdx (fun k d hd => ?_) fun k d e hd he => ?_
  · unfold fillP
    split
    · rintro (⟨_, h⟩ | h)
      · rw [hw] at h; cases h
      · rw [hs] at h; cases h
    · exact (hg k d hd).1
  · unfold fillP
    split
    · intro h; rw [hw] at h; cases h
    · split
      · intro _ h; exact absurd h hc0
      · exact hp.2 k d e hd he
theorem lay_pair {a row : List Cell} {x : Int} (ha : goodI a) (hg : goodI row) : pairL (layRow a x row) := by
  have hp := hg.pair
  have hq := ha.pair
  have at_a : ∀ (k : Nat) (d : Cell), inB x (x + a.length) k = true → ∃ j e, (k : Int) - x = (j : Nat) ∧ a[j]? = some e ∧ layP a x k d = e := fun k d h => by
    have h' := h
    unfold inB at h'
    simp only [Bool.and_eq_true, decide_eq_true_eq] at h'
    have hj : ((k : Int) - x).toNat < a.length := by omega
    refine ⟨((k : Int) - x).toNat, a[((k : Int) - x).toNat], by omega, List.getElem?_eq_getElem hj, ?_⟩
    rw [layP, if_pos h, List.getD_eq_getElem?_getD, List.getElem?_eq_getElem hj]; rfl
  refine pair_mapIdx (fun k d hd => ?_) fun k d e hd he => ?_
  · by_cases h : inB x (x + a.length) k = true
    · obtain ⟨j, e, _, he, hl⟩ := at_a k d h
      rw [hl]
      exact (ha j e he).1
    · rw [layP, if_neg h]
      exact (hg k d hd).1
  · by_cases h : inB x (x + a.length) k = true
    · obtain ⟨j, c1, hj, hc1, hl⟩ := at_a k d h
      rw [hl]
      by_cases h' : inB x (x + a.length) (k + 1 : Nat) = true
      · obtain ⟨j', c2, hj', hc2, hl'⟩ := at_a (k + 1) e h'
        rw [hl']
        obtain rfl : j' = j + 1 := by omega
        exact hq.2 j c1 c2 hc1 hc2
      · intro hw
        obtain ⟨d', hd', _⟩ := (ha j c1 hc1).2.2 hw
        have h1 := lt_of_at hd'
        unfold inB at h h'
        simp only [Bool.and_eq_true, decide_eq_true_eq] at h h'
        omega
    · rw [layP, if_neg h]
      by_cases h' : inB x (x + a.length) (k + 1 : Nat) = true
      · obtain ⟨j', c2, hj', hc2, hl'⟩ := at_a (k + 1) e h'
        rw [hl']
        intro _ h0
        obtain ⟨j, p, rfl, hp', _⟩ := (ha j' c2 hc2).2.1 h0
        unfold inB at h h'
        simp only [Bool.and_eq_true, decide_eq_true_eq] at h h'
        omega
      · rw [layP, if_neg h']
        exact hp.2 k d e hd he
theorem pair_set1 {row : List Cell} {x : Nat} {c : Cell} (h : pairL row) (hb : ¬ badCell c) (h1 : widthL c.r ≠ 2) (h2 : c.r ≠ 0) : pairL (row.set x c) := by
  refine ⟨fun d hd => ?_, fun k d e hd he => ?_⟩
  · rcases List.mem_or_eq_of_mem_set hd with hd | rfl
    · exact h.1 d hd
    · exact hb
  · rw [List.getElem?_set] at hd he
    split at hd
    · split at hd
      · obtain rfl := Option.some.inj hd
        intro hw; exact absurd hw h1
      · cases hd
    · split at he
      · split at he
        · obtain rfl := Option.some.inj he
          intro _ h0; exact absurd h0 h2
        · cases he
      · exact h.2 k d e hd he
theorem pair_set2 {row : List Cell} {x : Nat} {c d : Cell} (h : pairL row) (hb : ¬ badCell c) (hb2 : ¬ badCell d) (h1 : widthL c.r = 2) (h2 : d.r = 0) (h3 : c.s = d.s) : pairL ((row.set x c).set (x + 1) d) := by
  have hc0 : c.r ≠ 0 := fun h => by rw [h, w0] at h1; cases h1
  have hd2 : widthL d.r ≠ 2 := by rw [h2, w0]; decide
  refine ⟨fun e he => ?_, fun k a b ha hb => ?_⟩
  · rcases List.mem_or_eq_of_mem_set he with he | rfl
    · rcases List.mem_or_eq_of_mem_set he with he | rfl
      · exact h.1 e he
      · exact hb
    · exact hb2
  · rw [List.getElem?_set, List.getElem?_set, List.length_set] at ha hb
    by_cases e1 : x + 1 = k
    · rw [if_pos e1] at ha
      split at ha
      · obtain rfl := Option.some.inj ha
        intro hw; exact absurd hw hd2
      · cases ha
    · rw [if_neg e1] at ha
      by_cases e2 : x = k
      · subst e2
        rw [if_pos rfl] at ha
        rw [if_pos rfl] at hb
        split at ha
        · split at hb
          · obtain rfl := Option.some.inj ha
            obtain rfl := Option.some.inj hb
            exact fun _ _ => h3
          · cases hb
        · cases ha
      · rw [if_neg e2] at ha
        rw [if_neg (by omega)] at hb
        by_cases e3 : x = k + 1
        · rw [if_pos e3] at hb
          split at hb
          · obtain rfl := Option.some.inj hb
            intro _ h0; exact absurd h0 hc0
          · cases hb
        · rw [if_neg e3] at hb
          exact h.2 k a b ha hb
theorem write_pair (w : Nat) (look : Style) (hs : checkStyle look = true) : ∀ (l : List (Nat × Nat)) (x : Nat) (row : List Cell), pairL row → pairL (writeRs w look x l row)
  | [], _, _, h => h
  | p :: l, x, row, h => by
    rw [writeRs]
    split
    · exact write_pair w look hs l x row h
    · rename_i h0
      have hp0 : (p.1 : Int) ≠ 0 := fun e => h0 (by rw [e, w0])
      have hb : ¬ badCell ⟨p.1, look⟩ := by
        rintro (⟨_, h⟩ | h)
        · exact h0 h
        · rw [show (Cell.mk p.1 look).s = look from rfl, hs] at h; cases h
      have hb2 : ¬ badCell ⟨0, look⟩ := by
        rintro (⟨h, _⟩ | h)
        · exact h rfl
        · rw [show (Cell.mk 0 look).s = look from rfl, hs] at h; cases h
      split
      · exact h
      · refine write_pair w look hs l _ _ ?_
        split
        · exact pair_set2 h hb hb2 ‹_› rfl rfl
        · exact pair_set1 h hb ‹_› hp0
theorem part_pair {row : List Cell} (h : goodI row) (x n : Nat) : pairL ((row.drop x).take n) := by
  have hp := h.pair
  refine ⟨fun c hc => hp.1 c (List.mem_of_mem_drop (List.mem_of_mem_take hc)), fun k c d hc hd => ?_⟩
  rw [List.getElem?_take, List.getElem?_drop] at hc hd
  split at hc
  · split at hd
    · exact hp.2 (x + k) c d hc (by rwa [show x + k + 1 = x + (k + 1) by omega])
    · cases hd
  · cases hc
/-! ### What the operations give is right -/
theorem fill_right {g : Grid} (hg : checkG g = 0) (r : Rect) {c : Cell} (hw : widthL c.r = 1) (hs : checkStyle c.s = true) : checkG (fillG g r c) = 0 := by
  obtain ⟨w, h, f⟩ := fit_of hg
  refine with_right f (by rw [List.length_mapIdx]; exact f.rlen) (fun q hq => ?_) fun q hq => ?_
  all_goals
    obtain ⟨k, hk⟩ := List.getElem?_of_mem hq
    rw [List.getElem?_mapIdx] at hk
    obtain ⟨row, hr, rfl⟩ := Option.map_eq_some_iff.1 hk
    have hm := List.mem_of_getElem? hr
    unfold fillQ
    split
  · rw [mendL_len, fillRow, List.length_mapIdx]; exact f.row row hm
  · exact f.row row hm
  · exact mendL_good (fill_pair (rows_good f hg hm) hw hs)
  · exact rows_good f hg hm
theorem write_right {g : Grid} (hg : checkG g = 0) (x y : Nat) (s : List UInt8) {look : Style} (hs : checkStyle look = true) (hlen : ∀ row ∈ g.rows, (writeRs g.w.toNat look x (runes s) row).length = row.length) : checkG (writeG g x y s look) = 0 := by
  obtain ⟨w, h, f⟩ := fit_of hg
  have key : ∀ q ∈ g.rows.modify y (fun row => mendL (writeRs g.w.toNat look x (runes s) row)), q ∈ g.rows ∨ ∃ row ∈ g.rows, q = mendL (writeRs g.w.toNat look x (runes s) row) := fun q hq => by
    obtain ⟨k, hk⟩ := List.getElem?_of_mem hq
    rw [List.getElem?_modify] at hk
    obtain ⟨row, hr, rfl⟩ := Option.map_eq_some_iff.1 hk
    split
    · exact .inr ⟨row, List.mem_of_getElem? hr, rfl⟩
    · exact .inl (List.mem_of_getElem? hr)
  refine with_right f (by rw [List.length_modify]; exact f.rlen) (fun q hq => ?_) fun q hq => ?_
  · rcases key q hq with h | ⟨row, hr, rfl⟩
    · exact f.row q h
    · rw [mendL_len, hlen row hr]; exact f.row row hr
  · rcases key q hq with h | ⟨row, hr, rfl⟩
    · exact rows_good f hg h
    · exact mendL_good (write_pair _ _ hs _ _ _ (rows_good f hg hr).pair)
theorem getD_rows {g : Grid} {w h : Nat} (f : g.fit w h) (hg : checkG g = 0) (j : Nat) : goodI (g.rows.getD j []) := by
  rw [List.getD_eq_getElem?_getD]
  cases hj : g.rows[j]? with
  | none => exact .nil
  | some r => exact rows_good f hg (List.mem_of_getElem? hj)
theorem lay_right {g on : Grid} (hg : checkG g = 0) (ho : checkG on = 0) (x y : Int) : checkG (layG g on x y) = 0 := by
  obtain ⟨gw, gh, fg⟩ := fit_of hg
  obtain ⟨w, h, f⟩ := fit_of ho
  refine with_right f (by rw [List.length_mapIdx]; exact f.rlen) (fun q hq => ?_) fun q hq => ?_
  all_goals
    obtain ⟨k, hk⟩ := List.getElem?_of_mem hq
    rw [List.getElem?_mapIdx] at hk
    obtain ⟨row, hr, rfl⟩ := Option.map_eq_some_iff.1 hk
    have hm := List.mem_of_getElem? hr
    unfold layQ
    split
  · rw [mendL_len, layRow, List.length_mapIdx]; exact f.row row hm
  · exact f.row row hm
  · exact mendL_good (lay_pair (getD_rows fg hg _) (rows_good f ho hm))
  · exact rows_good f ho hm
theorem part_rows {g : Grid} {w h : Nat} (f : g.fit w h) (X Y A B : Nat) (hX : X + A ≤ w) (hY : Y + B ≤ h) (hA : 1 ≤ A) (hB : 1 ≤ B) : (partG g ⟨X, Y, A, B⟩).fit A B ∧ (partG g ⟨X, Y, A, B⟩).rows = ((g.rows.drop Y).take B).map (partRow X A) := by
  have hl : (((g.rows.drop Y).take B).map (partRow X A)).length = B := by rw [List.length_map, List.length_take, List.length_drop, f.rlen]; omega
  have hr : ∀ q ∈ ((g.rows.drop Y).take B).map (partRow X A), q.length = A := fun q hq => by
    obtain ⟨row, hm, rfl⟩ := List.mem_map.1 hq
    rw [partRow, mendL_len, List.length_take, List.length_drop, f.row row (List.mem_of_mem_drop (List.mem_of_mem_take hm))]; omega
  have hw2 := f.w2
  have hh2 := f.h2
  have hE : partG g ⟨X, Y, A, B⟩ = ⟨A, B, (((g.rows.drop Y).take B).map (partRow X A)).flatten⟩ := rfl
  rw [hE]
  have f' : Grid.fit ⟨A, B, (((g.rows.drop Y).take B).map (partRow X A)).flatten⟩ A B := ⟨rfl, rfl, hA, by omega, hB, by omega, by
    show (((g.rows.drop Y).take B).map (partRow X A)).flatten.length = _
    rw [flat_len A _ hr, hl, Nat.mul_comm]⟩
  refine ⟨f', ?_⟩
  rw [f'.rows]
  show rowsOf A B (((g.rows.drop Y).take B).map (partRow X A)).flatten = _
  have := flat_rowsOf A _ hr
  rwa [hl] at this
theorem in_nat {g : Grid} {w h : Nat} (f : g.fit w h) {r : Rect} (hi : inG g r) : ∃ X Y A B : Nat, r = ⟨X, Y, A, B⟩ ∧ X + A ≤ w ∧ Y + B ≤ h ∧ 1 ≤ A ∧ 1 ≤ B := by
  obtain ⟨rx, ry, rw_, rh⟩ := r
  obtain ⟨i1, i2, i3, i4, i5, i6, i7, i8⟩ := hi
  dsimp only at i1 i2 i3 i4 i5 i6 i7 i8
  rw [f.ew] at i5 i7
  rw [f.eh] at i6 i8
  obtain ⟨X, rfl⟩ := Int.eq_ofNat_of_zero_le i1
  obtain ⟨Y, rfl⟩ := Int.eq_ofNat_of_zero_le i2
  obtain ⟨A, rfl⟩ := Int.eq_ofNat_of_zero_le (show 0 ≤ rw_ by omega)
  obtain ⟨B, rfl⟩ := Int.eq_ofNat_of_zero_le (show 0 ≤ rh by omega)
  exact ⟨X, Y, A, B, rfl, by omega, by omega, by omega, by omega⟩
theorem part_right {g : Grid} (hg : checkG g = 0) {r : Rect} (hi : inG g r) : checkG (partG g r) = 0 := by
  obtain ⟨w, h, f⟩ := fit_of hg
  obtain ⟨X, Y, A, B, rfl, hX, hY, hA, hB⟩ := in_nat f hi
  obtain ⟨f', hr⟩ := part_rows f X Y A B hX hY hA hB
  refine check_rows f' fun q hq => ?_
  rw [hr] at hq
  obtain ⟨row, hm, rfl⟩ := List.mem_map.1 hq
  exact mendL_good (part_pair (rows_good f hg (List.mem_of_mem_drop (List.mem_of_mem_take hm))) X A)
/-! ### A part of what was laid -/
theorem lay_row_mid {a row : List Cell} {x : Nat} (h : x + a.length ≤ row.length) : layRow a x row = row.take x ++ a ++ row.drop (x + a.length) := by
  refine List.ext_getElem? fun k => ?_
  rw [layRow, List.getElem?_mapIdx]
  by_cases h1 : k < x
  · rw [List.append_assoc, List.getElem?_append_left (by simp; omega), List.getElem?_take, if_pos h1, List.getElem?_eq_getElem (by omega)]
    rw [Option.map_some, layP, if_neg (by unfold inB; simp; omega)]
  · by_cases h2 : k < x + a.length
    · rw [List.getElem?_append_left (by simp; omega), List.getElem?_append_right (by simp; omega), List.getElem?_eq_getElem (show k < row.length by omega)]
      rw [Option.map_some, layP, if_pos (by unfold inB; simp; omega), List.length_take, Nat.min_eq_left (by omega), List.getD_eq_getElem?_getD, show ((k : Int) - x).toNat = k - x by omega, List.getElem?_eq_getElem (show k - x < a.length by omega)]
      rfl
    · rw [List.getElem?_append_right (by simp; omega), List.getElem?_drop]
      have e : x + a.length + (k - (row.take x ++ a).length) = k := by simp; omega
      rw [e]
      cases hk : row[k]? with
      | none => rfl
      | some d => rw [Option.map_some, layP, if_neg (by unfold inB; simp; omega)]
theorem part_of_laid {g on : Grid} (hg : checkG g = 0) (ho : checkG on = 0) {gw gh w h : Nat} (fg : g.fit gw gh) (f : on.fit w h) {X Y : Nat} (hX : X + gw ≤ w) (hY : Y + gh ≤ h) : partG (layG g on X Y) ⟨X, Y, gw, gh⟩ = g := by
  have hw2 := f.w2
  have hh2 := f.h2
  have hLl : (on.rows.mapIdx (layQ g.rows g.w.toNat on.w.toNat (clampL X) (clampL Y))).length = h := by rw [List.length_mapIdx]; exact f.rlen
  have hLr : ∀ q ∈ on.rows.mapIdx (layQ g.rows g.w.toNat on.w.toNat (clampL X) (clampL Y)), q.length = w := fun q hq => by
    obtain ⟨k, hk⟩ := List.getElem?_of_mem hq
    rw [List.getElem?_mapIdx] at hk
    obtain ⟨row, hr, rfl⟩ := Option.map_eq_some_iff.1 hk
    rw [layQ_len]; exact f.row row (List.mem_of_getElem? hr)
  obtain ⟨f1, h1⟩ := rows_with f hLl hLr
  obtain ⟨f2, h2⟩ := part_rows f1 X Y gw gh hX hY fg.w1 fg.h1
  have h3 : (partG (layG g on X Y) ⟨X, Y, gw, gh⟩).rows = g.rows := by
    refine Eq.trans h2 ?_
    rw [h1, clamp_small X (by omega), clamp_small Y (by omega)]
    refine List.ext_getElem? fun i => ?_
    rw [List.getElem?_map, List.getElem?_take]
    by_cases hi : i < gh
    · rw [if_pos hi, List.getElem?_drop, List.getElem?_mapIdx]
      obtain ⟨a, ha⟩ : ∃ a, g.rows[i]? = some a := ⟨_, List.getElem?_eq_getElem (by rw [fg.rlen]; exact hi)⟩
      obtain ⟨row, hr⟩ : ∃ r, on.rows[Y + i]? = some r := ⟨_, List.getElem?_eq_getElem (by rw [f.rlen]; omega)⟩
      have hal := fg.row a (List.mem_of_getElem? ha)
      have hrl := f.row row (List.mem_of_getElem? hr)
      have hgw1 := fg.w1
      rw [ha, hr, Option.map_some, Option.map_some, Option.some.injEq, layQ, if_pos (by
        rw [fg.rlen, fg.ew, f.ew]
        unfold inB meets
        simp
        omega), show (((Y + i : Nat) : Int) - (Y : Int)).toNat = i by omega, List.getD_eq_getElem?_getD, ha]
      show partRow X gw (mendL (layRow a X row)) = a
      have hga := rows_good fg hg (List.mem_of_getElem? ha)
      have hmid := mendL_mid (pre := row.take X) (a := a) (post := row.drop (X + a.length)) hga (by rintro rfl; simp at hal; omega)
      rw [show (row.take X).length = X by rw [List.length_take]; omega, hal] at hmid
      rw [lay_row_mid (by omega), partRow, hal, hmid, mendL_same hga]
    · rw [if_neg hi, List.getElem?_eq_none (by rw [fg.rlen]; omega)]; rfl
  have e1 := f2.flat
  have e2 := fg.flat
  rw [show (partG ((on.withRows (on.rows.mapIdx (layQ g.rows g.w.toNat on.w.toNat (clampL X) (clampL Y))))) ⟨X, Y, gw, gh⟩).rows = g.rows from h3, e2] at e1
  have e3 := f2.ew
  have e4 := f2.eh
  have := fg.ew
  have := fg.eh
  obtain ⟨gw', gh', gc⟩ := g
  show Grid.mk _ _ _ = _
  dsimp only at *
  subst_vars
  congr 1
  exact e1.symm
end Go.Eng.YtjkdkofpabocmaaDoor
end

/- The laws GridRight, GridBack. -/
section
namespace Go.Eng.YtjkdkofpabocmaaDoor
open Go Go.Eng Go.Proofs
variable (W : World)
set_option linter.unusedSimpArgs false
set_option maxRecDepth 100000
set_option linter.unusedVariables false
set_option maxHeartbeats 4000000
theorem layE_right (g on : Grid) (x y : Int) : (layE g on x y).2 = 0 → checkG (layE g on x y).1 = 0 := by
  rw [layE]
  split
  · exact fun h => absurd h ‹_›
  · split
    · exact fun h => absurd h ‹_›
    · exact fun _ => lay_right (by simpa using ‹¬ checkG g ≠ 0›) (by simpa using ‹¬ checkG on ≠ 0›) x y
theorem fillE_right (g : Grid) (r : Rect) (c : Cell) : (fillE g r c).2 = 0 → checkG (fillE g r c).1 = 0 := by
  rw [fillE]
  split
  · exact fun h => absurd h ‹_›
  · split
    · exact fun h => by cases h
    · rename_i h1 h2
      have h3 : widthL c.r = 1 := Decidable.byContradiction fun h => h2 (.inl h)
      have h4 : checkStyle c.s = true := by
        cases h : checkStyle c.s with
        | true => rfl
        | false => exact absurd (.inr h) h2
      exact fun _ => fill_right (by simpa using h1) r h3 h4
theorem writeE_right (g : Grid) (x y : Int) (s : List UInt8) (look : Style) : (writeE g x y s look).2 = 0 → checkG (writeE g x y s look).1 = 0 := by
  rw [writeE]
  split
  · exact fun h => absurd h ‹_›
  · split
    · exact fun h => by cases h
    · rename_i h1 h2
      have h4 : checkStyle look = true := by
        cases h : checkStyle look with
        | true => rfl
        | false => exact absurd (.inr (.inr (.inr (.inr h)))) h2
      exact fun _ => write_right (by simpa using h1) _ _ s h4 fun row _ => writeRs_len _ _ _ _ _
theorem partE_right (g : Grid) (r : Rect) : (partE g r).2 = 0 → checkG (partE g r).1 = 0 := by
  rw [partE]
  split
  · exact fun h => absurd h ‹_›
  · split
    · rename_i h1 h2
      exact fun _ => part_right (by simpa using h1) h2
    · exact fun h => by cases h
theorem resizeE_right (g : Grid) (w h : Int) : (resizeE g w h).2 = 0 → checkG (resizeE g w h).1 = 0 := by
  rw [resizeE]
  split
  · exact fun h => absurd h ‹_›
  · split
    · rename_i h1 h2
      exact fun _ => lay_right (by simpa using h1) (check_new h2) 0 0
    · exact fun h => by cases h
theorem nogrid_ok : Grid.none.ok := ⟨by show i64ok 0; unfold i64ok; decide, by show i64ok 0; unfold i64ok; decide, (fun c h => by cases h), by decide⟩
theorem fillE_ok {g : Grid} (hg : g.ok) (r : Rect) {c : Cell} (hc : c.ok) : (fillE g r c).1.ok := by
  rw [fillE]
  split
  · exact nogrid_ok
  · split
    · exact nogrid_ok
    · obtain ⟨w, h, f⟩ := fit_of (g := g) (by simpa using ‹¬ checkG g ≠ 0›)
      exact fillG_ok f hg r hc
theorem writeE_ok {g : Grid} (hg : g.ok) (x y : Int) (s : List UInt8) {look : Style} (hl : look.ok) : (writeE g x y s look).1.ok := by
  rw [writeE]
  split
  · exact nogrid_ok
  · split
    · exact nogrid_ok
    · obtain ⟨w, h, f⟩ := fit_of (g := g) (by simpa using ‹¬ checkG g ≠ 0›)
      exact writeG_ok f hg _ _ s hl
theorem layE_ok {g on : Grid} (hg : g.ok) (ho : on.ok) (x y : Int) : (layE g on x y).1.ok := by
  rw [layE]
  split
  · exact nogrid_ok
  · split
    · exact nogrid_ok
    · obtain ⟨w, h, f⟩ := fit_of (g := g) (by simpa using ‹¬ checkG g ≠ 0›)
      obtain ⟨w', h', f'⟩ := fit_of (g := on) (by simpa using ‹¬ checkG on ≠ 0›)
      exact layG_ok f f' hg ho x y
theorem partE_ok {g : Grid} (hg : g.ok) (r : Rect) : (partE g r).1.ok := by
  rw [partE]
  split
  · exact nogrid_ok
  · split
    · obtain ⟨w, h, f⟩ := fit_of (g := g) (by simpa using ‹¬ checkG g ≠ 0›)
      obtain ⟨X, Y, A, B, rfl, hX, hY, hA, hB⟩ := in_nat f ‹_›
      obtain ⟨f', hr⟩ := part_rows f X Y A B hX hY hA hB
      have hw2 := f'.w2
      have hh2 := f'.h2
      have hsm := f'.small
      refine ⟨by rw [f'.ew]; unfold i64ok; omega, by rw [f'.eh]; unfold i64ok; omega, fun c hc => ?_, by rw [f'.len]; omega⟩
      rw [← f'.flat, hr] at hc
      obtain ⟨q, hq, hcq⟩ := List.mem_flatten.1 hc
      obtain ⟨row, hm, rfl⟩ := List.mem_map.1 hq
      refine mendL_ok (fun c h => blank_ok h) (fun d hd => ?_) c hcq
      exact rows_ok f hg row (List.mem_of_mem_drop (List.mem_of_mem_take hm)) d (List.mem_of_mem_drop (List.mem_of_mem_take hd))
    · exact nogrid_ok
theorem resizeE_ok {g : Grid} (hg : g.ok) (w h : Int) : (resizeE g w h).1.ok := by
  rw [resizeE]
  split
  · exact nogrid_ok
  · split
    · obtain ⟨w', h', f⟩ := fit_of (g := g) (by simpa using ‹¬ checkG g ≠ 0›)
      obtain ⟨w2, h2, f2⟩ := fit_of (check_new ‹sizeB w h = true›)
      exact layG_ok f f2 hg (newG_ok ‹_›) 0 0
    · exact nogrid_ok
end Go.Eng.YtjkdkofpabocmaaDoor
end
