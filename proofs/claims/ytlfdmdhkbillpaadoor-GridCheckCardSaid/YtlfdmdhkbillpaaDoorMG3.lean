/- Texts put together: GridG, GridH, GridT. -/
import Derived.Test.YtlfdmdhkbillpaaDoorMG2
/- Grids: the fact that the laws look at first; the laws GridFill, GridWrite, GridLay, GridLines. -/
section
namespace Go.Eng.YtlfdmdhkbillpaaDoor
open Go Go.Eng Go.Proofs
variable (W : World)
set_option linter.unusedSimpArgs false
set_option maxRecDepth 100000
set_option linter.unusedVariables false
set_option maxHeartbeats 4000000
def g2 : Grid := ⟨3, 1, [⟨26085, ⟨0, 0, 0⟩⟩, ⟨0, ⟨0, 0, 0⟩⟩, ⟨120, ⟨0, 0, 0⟩⟩]⟩
def g3 : Grid := ⟨3, 1, [⟨32, ⟨0, 0, 0⟩⟩, ⟨122, ⟨0, 0, 0⟩⟩, ⟨120, ⟨0, 0, 0⟩⟩]⟩
theorem step1 : newE 3 1 = (newG 3 1, 0) := by decide +kernel
theorem step2 : writeE (newG 3 1) 0 0 [230, 151, 165, 120] ⟨0, 0, 0⟩ = (g2, 0) := by
  unfold writeE writeG
  rw [runes_F 4 _ (by decide)]
  decide +kernel
theorem step3 : fillE g2 ⟨1, 0, 1, 1⟩ ⟨122, ⟨0, 0, 0⟩⟩ = (g3, 0) := by decide +kernel
theorem step4 : linesE g3 = ([[32, 122, 120]], 0) := by decide +kernel
theorem ok_newG : (newG 3 1).ok := by
  refine ⟨by unfold i64ok newG; decide, by unfold i64ok newG; decide, fun c hc => ?_, by decide +kernel⟩
  rw [newG] at hc
  obtain rfl := (List.mem_replicate.1 hc).2
  exact ⟨by unfold i32ok blankC; decide, by unfold Style.ok i64ok blankC; decide⟩
instance (n : Int) : Decidable (i32ok n) := inferInstanceAs (Decidable (_ ∧ _))
instance (c : Cell) : Decidable c.ok := inferInstanceAs (Decidable (_ ∧ _))
instance (g : Grid) : Decidable g.ok := inferInstanceAs (Decidable (_ ∧ _ ∧ _ ∧ _))
theorem gridded_ok (hT : Tabs W) : Pure Tryd.prog W 32 [] (.bool true) := by
  refine Pure.of (acalls_of_vc (drawOk W) Tryd.func32 rfl (by decide) (by decide) rfl ?_)
  (refine g0_ ?_; repeat ((first | refine n1_ fun b_ => ?_ | refine n2_ fun b_ => ?_ | refine Nat1.mk fun q_ hq_ => ?_ | refine em_ fun x_ hx_ => ?_ | refine Elem1.mk fun e_ he_ => ?_); refine g0_ ?_))
  refine (new_ok W 3 1).use ?_; (refine g0_ ?_; repeat ((first | refine n1_ fun b_ => ?_ | refine n2_ fun b_ => ?_ | refine Nat1.mk fun q_ hq_ => ?_ | refine em_ fun x_ hx_ => ?_ | refine Elem1.mk fun e_ he_ => ?_); refine g0_ ?_))
  rw [step1]
  (refine g0_ ?_; repeat ((first | refine n1_ fun b_ => ?_ | refine n2_ fun b_ => ?_ | refine Nat1.mk fun q_ hq_ => ?_ | refine em_ fun x_ hx_ => ?_ | refine Elem1.mk fun e_ he_ => ?_); refine g0_ ?_))
  refine (write_ok W hT (newG 3 1) ok_newG 0 0 [230, 151, 165, 120] ⟨0, 0, 0⟩).use ?_
  rw [step2]
  (refine g0_ ?_; repeat ((first | refine n1_ fun b_ => ?_ | refine n2_ fun b_ => ?_ | refine Nat1.mk fun q_ hq_ => ?_ | refine em_ fun x_ hx_ => ?_ | refine Elem1.mk fun e_ he_ => ?_); refine g0_ ?_))
  refine (fill_ok W g2 (by decide +kernel) ⟨1, 0, 1, 1⟩ ⟨122, ⟨0, 0, 0⟩⟩).use ?_
  rw [step3]
  (refine g0_ ?_; repeat ((first | refine n1_ fun b_ => ?_ | refine n2_ fun b_ => ?_ | refine Nat1.mk fun q_ hq_ => ?_ | refine em_ fun x_ hx_ => ?_ | refine Elem1.mk fun e_ he_ => ?_); refine g0_ ?_))
  refine (lines_ok W g3 (by decide +kernel)).use ?_
  rw [step4]
  (refine g0_ ?_; repeat ((first | refine n1_ fun b_ => ?_ | refine n2_ fun b_ => ?_ | refine Nat1.mk fun q_ hq_ => ?_ | refine em_ fun x_ hx_ => ?_ | refine Elem1.mk fun e_ he_ => ?_); refine g0_ ?_))
  refine .inl ?_
  (refine g0_ ?_; repeat ((first | refine n1_ fun b_ => ?_ | refine n2_ fun b_ => ?_ | refine Nat1.mk fun q_ hq_ => ?_ | refine em_ fun x_ hx_ => ?_ | refine Elem1.mk fun e_ he_ => ?_); refine g0_ ?_))
  refine (equal_strs W [[32, 122, 120]] [[32, 122, 120]] (by decide)).use ?_
  (refine Frz.of_eq ?_; (conv => lhs; whnf))
  simp
/-! ### What is made is of right numbers -/
theorem withRows_ok {g : Grid} {w h : Nat} (f : g.fit w h) (hg : g.ok) {L : List (List Cell)} (hl : L.length = h) (hr : ∀ r ∈ L, r.length = w) (hc : ∀ r ∈ L, ∀ c ∈ r, c.ok) : (g.withRows L).ok := by
  refine ⟨hg.1, hg.2.1, fun c hcm => ?_, ?_⟩
  · obtain ⟨r, h1, h2⟩ := List.mem_flatten.1 hcm
    exact hc r h1 c h2
  · have := f.small
    have h2 := flat_len w L hr
    rw [hl, Nat.mul_comm] at h2
    show L.flatten.length * 32 ≤ _
    omega
theorem mapIdx_cells {P : Nat → List Cell → List Cell} {L : List (List Cell)} (hL : ∀ r ∈ L, ∀ c ∈ r, c.ok) (hP : ∀ k r, (∀ c ∈ r, c.ok) → ∀ c ∈ P k r, c.ok) : ∀ r ∈ L.mapIdx P, ∀ c ∈ r, c.ok := by
  intro r hr
  obtain ⟨k, hk⟩ := List.getElem?_of_mem hr
  rw [List.getElem?_mapIdx] at hk
  cases hg : L[k]? with
  | none => rw [hg] at hk; cases hk
  | some d =>
    rw [hg] at hk
    obtain rfl := Option.some.inj hk
    exact hP k d (hL d (List.mem_of_getElem? hg))
theorem mapIdx_cell {P : Nat → Cell → Cell} {r : List Cell} (h : ∀ c ∈ r, c.ok) (hP : ∀ k c, c.ok → (P k c).ok) : ∀ c ∈ r.mapIdx P, c.ok := by
  intro c hc
  obtain ⟨k, hk⟩ := List.getElem?_of_mem hc
  rw [List.getElem?_mapIdx] at hk
  cases hg : r[k]? with
  | none => rw [hg] at hk; cases hk
  | some d =>
    rw [hg] at hk
    obtain rfl := Option.some.inj hk
    exact hP k d (h d (List.mem_of_getElem? hg))
theorem rows_ok {g : Grid} {w h : Nat} (f : g.fit w h) (hg : g.ok) : ∀ r ∈ g.rows, ∀ c ∈ r, c.ok := fun r hr c hc => hg.2.2.1 c (rows_mem f hr hc)
theorem fillG_ok {g : Grid} {w h : Nat} (f : g.fit w h) (hg : g.ok) (r : Rect) {c : Cell} (hc : c.ok) : (fillG g r c).ok := by
  refine withRows_ok f hg (by rw [List.length_mapIdx, f.rlen]) (mapIdx_row (fillQ_len c _ _ _ _) f.row) (mapIdx_cells (rows_ok f hg) fun k row h => ?_)
  unfold fillQ
  split
  · refine mendL_ok (P := Cell.ok) (fun c h => blank_ok h) (mapIdx_cell h fun k d hd => ?_)
    unfold fillP
    split
    · exact hc
    · exact hd
  · exact h
theorem getD_ok {G : List (List Cell)} (hG : ∀ r ∈ G, ∀ c ∈ r, c.ok) (i : Nat) : ∀ c ∈ G.getD i [], c.ok := by
  rw [List.getD_eq_getElem?_getD]
  cases h : G[i]? with
  | none => intro c hc; cases hc
  | some r => exact hG r (List.mem_of_getElem? h)
theorem layG_ok {g on : Grid} {gw gh w h : Nat} (f : g.fit gw gh) (k : on.fit w h) (hg : g.ok) (ho : on.ok) (x y : Int) : (layG g on x y).ok := by
  refine withRows_ok k ho (by rw [List.length_mapIdx, k.rlen]) (mapIdx_row (layQ_len _ _ _ _ _) k.row) (mapIdx_cells (rows_ok k ho) fun v row h => ?_)
  unfold layQ
  split
  · refine mendL_ok (P := Cell.ok) (fun c h => blank_ok h) (mapIdx_cell h fun u d hd => ?_)
    unfold layP
    split
    · rw [List.getD_eq_getElem?_getD]
      generalize ((u : Int) - clampL x).toNat = i
      have := getD_ok (rows_ok f hg) ((v : Int) - clampL y).toNat
      cases hi : (g.rows.getD ((v : Int) - clampL y).toNat [])[i]? with
      | none => exact hd
      | some e => exact this e (List.mem_of_getElem? hi)
    · exact hd
  · exact h
theorem set_cells {r : List Cell} (h : ∀ c ∈ r, c.ok) (i : Nat) {c : Cell} (hc : c.ok) : ∀ d ∈ r.set i c, d.ok := fun d hd => by
  rcases List.mem_or_eq_of_mem_set hd with h1 | h1
  · exact h d h1
  · rw [h1]; exact hc
theorem writeRs_cells (w : Nat) {look : Style} (hlk : look.ok) : ∀ (l : List (Nat × Nat)) (x : Nat) (row : List Cell), (∀ p ∈ l, p.1 ≤ 1114111) → (∀ c ∈ row, c.ok) → ∀ c ∈ writeRs w look x l row, c.ok
  | [], _, _, _, h => h
  | p :: l, x, row, hp, h => by
    have h1 := fun x row => writeRs_cells w hlk l x row (fun q hq => hp q (List.mem_cons_of_mem _ hq))
    have hc : (⟨p.1, look⟩ : Cell).ok := ⟨by have := hp p List.mem_cons_self; show i32ok (p.1 : Int); unfold i32ok; omega, hlk⟩
    have h0 : (⟨0, look⟩ : Cell).ok := ⟨by show i32ok 0; unfold i32ok; omega, hlk⟩
    rw [writeRs]
    split
    · exact h1 _ _ h
    · split
      · exact h
      · refine h1 _ _ ?_
        split
        · exact set_cells (set_cells h _ hc) _ h0
        · exact set_cells h _ hc
theorem runes_range : ∀ s : List UInt8, ∀ p ∈ runes s, p.1 ≤ 1114111 := by
  refine runes_ind (by rw [runes_nil]; intro p hp; cases hp) fun s h ih p hp => ?_
  rw [runes_cons h] at hp
  rcases List.mem_cons.1 hp with rfl | hp
  · exact dec_range s
  · exact ih p hp
theorem writeG_ok {g : Grid} {w h : Nat} (f : g.fit w h) (hg : g.ok) (x y : Nat) (s : List UInt8) {look : Style} (hlk : look.ok) : (writeG g x y s look).ok := by
  have hmod : ∀ r ∈ g.rows.modify y fun row => mendL (writeRs g.w.toNat look x (runes s) row), r ∈ g.rows ∨ ∃ q ∈ g.rows, r = mendL (writeRs g.w.toNat look x (runes s) q) := fun r hr => by
    obtain ⟨k, hk⟩ := List.getElem?_of_mem hr
    rw [List.getElem?_modify] at hk
    cases hq : g.rows[k]? with
    | none => rw [hq] at hk; cases hk
    | some q =>
      rw [hq] at hk
      have hqm := List.mem_of_getElem? hq
      change some _ = some r at hk
      split at hk
      · exact .inr ⟨q, hqm, (Option.some.inj hk).symm⟩
      · exact .inl (by rw [← Option.some.inj hk]; exact hqm)
  refine withRows_ok f hg (by rw [List.length_modify, f.rlen]) (fun r hr => ?_) fun r hr => ?_
  · rcases hmod r hr with h1 | ⟨q, h1, rfl⟩
    · exact f.row r h1
    · rw [mendL_len, writeRs_len]; exact f.row q h1
  · rcases hmod r hr with h1 | ⟨q, h1, rfl⟩
    · exact rows_ok f hg r h1
    · exact mendL_ok (P := Cell.ok) (fun c h => blank_ok h) (writeRs_cells _ hlk _ _ _ (runes_range s) (rows_ok f hg q h1))
/-! ### The laws -/
theorem same_refl (g : Grid) (hg : g.ok) : Pure Tryd.prog W 33 [encGrid g, encGrid g] (.bool true) := by
  have := sameGrid_ok W g g hg hg
  rwa [show decide (g = g) = true by simp] at this
theorem none_no : Pure Tryd.prog W 34 [encGrid .none] (.bool true) := noGrid_ok W .none
theorem gridFill_ok (hT : Tabs W) (g : Grid) (hg : g.ok) (r : Rect) (hr : r.ok) (c : Cell) (hc : c.ok) : Pure Tryd.prog W 6 [encGrid g, encRect r, encCell c] (.bool true) := by
  refine Pure.of (acalls_of_vc (drawOk W) Tryd.func6 rfl (by decide) (by decide) rfl ?_)
  (refine g0_ ?_; repeat ((first | refine n1_ fun b_ => ?_ | refine n2_ fun b_ => ?_ | refine Nat1.mk fun q_ hq_ => ?_ | refine em_ fun x_ hx_ => ?_ | refine Elem1.mk fun e_ he_ => ?_); refine g0_ ?_))
  refine (own_ok W g hg).use ?_; (refine g0_ ?_; repeat ((first | refine n1_ fun b_ => ?_ | refine n2_ fun b_ => ?_ | refine Nat1.mk fun q_ hq_ => ?_ | refine em_ fun x_ hx_ => ?_ | refine Elem1.mk fun e_ he_ => ?_); refine g0_ ?_))
  refine (fill_ok W g hg r c).use ?_
  (refine g0_ ?_; repeat ((first | refine n1_ fun b_ => ?_ | refine n2_ fun b_ => ?_ | refine Nat1.mk fun q_ hq_ => ?_ | refine em_ fun x_ hx_ => ?_ | refine Elem1.mk fun e_ he_ => ?_); refine g0_ ?_))
  refine (checkGrid_ok W g hg).use ?_; (refine g0_ ?_; repeat ((first | refine n1_ fun b_ => ?_ | refine n2_ fun b_ => ?_ | refine Nat1.mk fun q_ hq_ => ?_ | refine em_ fun x_ hx_ => ?_ | refine Elem1.mk fun e_ he_ => ?_); refine g0_ ?_))
  have hgr := gridded_ok W hT
  have hsm := same_refl W g hg
  refine brec ?_; intro c_ h1; (try rw [h1]); cases c_ <;> replace h1 := nm_ h1
  · have hE : fillE g r c = (.none, checkG g) := by rw [fillE, if_pos h1]
    rw [hE]
    (refine g0_ ?_; repeat ((first | refine n1_ fun b_ => ?_ | refine n2_ fun b_ => ?_ | refine Nat1.mk fun q_ hq_ => ?_ | refine em_ fun x_ hx_ => ?_ | refine Elem1.mk fun e_ he_ => ?_); refine g0_ ?_))
    (refine g1_ ?_; repeat ((first | refine n1_ fun b_ => ?_ | refine n2_ fun b_ => ?_ | refine Nat1.mk fun q_ hq_ => ?_ | refine em_ fun x_ hx_ => ?_ | refine Elem1.mk fun e_ he_ => ?_); refine g1_ ?_))
    refine (hgr).use ?_; (refine g0_ ?_; repeat ((first | refine n1_ fun b_ => ?_ | refine n2_ fun b_ => ?_ | refine Nat1.mk fun q_ hq_ => ?_ | refine em_ fun x_ hx_ => ?_ | refine Elem1.mk fun e_ he_ => ?_); refine g0_ ?_))
    refine (hsm).use ?_; (refine g0_ ?_; repeat ((first | refine n1_ fun b_ => ?_ | refine n2_ fun b_ => ?_ | refine Nat1.mk fun q_ hq_ => ?_ | refine em_ fun x_ hx_ => ?_ | refine Elem1.mk fun e_ he_ => ?_); refine g0_ ?_))
    (refine g1_ ?_; repeat ((first | refine n1_ fun b_ => ?_ | refine n2_ fun b_ => ?_ | refine Nat1.mk fun q_ hq_ => ?_ | refine em_ fun x_ hx_ => ?_ | refine Elem1.mk fun e_ he_ => ?_); refine g1_ ?_))
    refine (hgr).use ?_; (refine g0_ ?_; repeat ((first | refine n1_ fun b_ => ?_ | refine n2_ fun b_ => ?_ | refine Nat1.mk fun q_ hq_ => ?_ | refine em_ fun x_ hx_ => ?_ | refine Elem1.mk fun e_ he_ => ?_); refine g0_ ?_))
    refine (hsm).use ?_; (refine g0_ ?_; repeat ((first | refine n1_ fun b_ => ?_ | refine n2_ fun b_ => ?_ | refine Nat1.mk fun q_ hq_ => ?_ | refine em_ fun x_ hx_ => ?_ | refine Elem1.mk fun e_ he_ => ?_); refine g0_ ?_))
    (refine g1_ ?_; repeat ((first | refine n1_ fun b_ => ?_ | refine n2_ fun b_ => ?_ | refine Nat1.mk fun q_ hq_ => ?_ | refine em_ fun x_ hx_ => ?_ | refine Elem1.mk fun e_ he_ => ?_); refine g1_ ?_))
    refine (none_no W).use ?_; (refine g0_ ?_; repeat ((first | refine n1_ fun b_ => ?_ | refine n2_ fun b_ => ?_ | refine Nat1.mk fun q_ hq_ => ?_ | refine em_ fun x_ hx_ => ?_ | refine Elem1.mk fun e_ he_ => ?_); refine g0_ ?_))
    (refine Frz.of_eq ?_; (conv => lhs; whnf))
    (try rfl)
  · obtain ⟨w, h, f⟩ := fit_of h1
    (refine g0_ ?_; repeat ((first | refine n1_ fun b_ => ?_ | refine n2_ fun b_ => ?_ | refine Nat1.mk fun q_ hq_ => ?_ | refine em_ fun x_ hx_ => ?_ | refine Elem1.mk fun e_ he_ => ?_); refine g0_ ?_))
    refine (widthOf_ok W c.r).use ?_; (refine g0_ ?_; repeat ((first | refine n1_ fun b_ => ?_ | refine n2_ fun b_ => ?_ | refine Nat1.mk fun q_ hq_ => ?_ | refine em_ fun x_ hx_ => ?_ | refine Elem1.mk fun e_ he_ => ?_); refine g0_ ?_))
    rw [← width_eq]
    (refine g0_ ?_; repeat ((first | refine n1_ fun b_ => ?_ | refine n2_ fun b_ => ?_ | refine Nat1.mk fun q_ hq_ => ?_ | refine em_ fun x_ hx_ => ?_ | refine Elem1.mk fun e_ he_ => ?_); refine g0_ ?_))
    refine brec ?_; intro c_ h2; (try rw [h2]); cases c_ <;> replace h2 := nm_ h2
    · (refine g0_ ?_; repeat ((first | refine n1_ fun b_ => ?_ | refine n2_ fun b_ => ?_ | refine Nat1.mk fun q_ hq_ => ?_ | refine em_ fun x_ hx_ => ?_ | refine Elem1.mk fun e_ he_ => ?_); refine g0_ ?_))
      refine (isStyle_ok W c.s).use ?_; (refine g0_ ?_; repeat ((first | refine n1_ fun b_ => ?_ | refine n2_ fun b_ => ?_ | refine Nat1.mk fun q_ hq_ => ?_ | refine em_ fun x_ hx_ => ?_ | refine Elem1.mk fun e_ he_ => ?_); refine g0_ ?_))
      (refine g0_ ?_; repeat ((first | refine n1_ fun b_ => ?_ | refine n2_ fun b_ => ?_ | refine Nat1.mk fun q_ hq_ => ?_ | refine em_ fun x_ hx_ => ?_ | refine Elem1.mk fun e_ he_ => ?_); refine g0_ ?_))
      (refine g1_ ?_; repeat ((first | refine n1_ fun b_ => ?_ | refine n2_ fun b_ => ?_ | refine Nat1.mk fun q_ hq_ => ?_ | refine em_ fun x_ hx_ => ?_ | refine Elem1.mk fun e_ he_ => ?_); refine g1_ ?_))
      by_cases h3 : checkStyle c.s = true
      · have hE : fillE g r c = (fillG g r c, 0) := by rw [fillE, if_neg (by simpa using h1), if_neg (fun h => h.elim (fun h => h (by omega)) (fun h => by rw [h] at h3; cases h3))]
        rw [hE, h3]
        have hsx := same_refl W (fillG g r c) (fillG_ok f hg r hc)
        (refine g0_ ?_; repeat ((first | refine n1_ fun b_ => ?_ | refine n2_ fun b_ => ?_ | refine Nat1.mk fun q_ hq_ => ?_ | refine em_ fun x_ hx_ => ?_ | refine Elem1.mk fun e_ he_ => ?_); refine g0_ ?_))
        (refine g1_ ?_; repeat ((first | refine n1_ fun b_ => ?_ | refine n2_ fun b_ => ?_ | refine Nat1.mk fun q_ hq_ => ?_ | refine em_ fun x_ hx_ => ?_ | refine Elem1.mk fun e_ he_ => ?_); refine g1_ ?_))
        refine (hgr).use ?_; (refine g0_ ?_; repeat ((first | refine n1_ fun b_ => ?_ | refine n2_ fun b_ => ?_ | refine Nat1.mk fun q_ hq_ => ?_ | refine em_ fun x_ hx_ => ?_ | refine Elem1.mk fun e_ he_ => ?_); refine g0_ ?_))
        refine (hsm).use ?_; (refine g0_ ?_; repeat ((first | refine n1_ fun b_ => ?_ | refine n2_ fun b_ => ?_ | refine Nat1.mk fun q_ hq_ => ?_ | refine em_ fun x_ hx_ => ?_ | refine Elem1.mk fun e_ he_ => ?_); refine g0_ ?_))
        (refine g1_ ?_; repeat ((first | refine n1_ fun b_ => ?_ | refine n2_ fun b_ => ?_ | refine Nat1.mk fun q_ hq_ => ?_ | refine em_ fun x_ hx_ => ?_ | refine Elem1.mk fun e_ he_ => ?_); refine g1_ ?_))
        refine head_ ?_; (refine g0_ ?_; repeat ((first | refine n1_ fun b_ => ?_ | refine n2_ fun b_ => ?_ | refine Nat1.mk fun q_ hq_ => ?_ | refine em_ fun x_ hx_ => ?_ | refine Elem1.mk fun e_ he_ => ?_); refine g0_ ?_))
        refine ⟨_, fillGrid_ok W g f r c, ?_⟩; (refine g0_ ?_; repeat ((first | refine n1_ fun b_ => ?_ | refine n2_ fun b_ => ?_ | refine Nat1.mk fun q_ hq_ => ?_ | refine em_ fun x_ hx_ => ?_ | refine Elem1.mk fun e_ he_ => ?_); refine g0_ ?_))
        refine ⟨_, hsx, ?_⟩; (refine g0_ ?_; repeat ((first | refine n1_ fun b_ => ?_ | refine n2_ fun b_ => ?_ | refine Nat1.mk fun q_ hq_ => ?_ | refine em_ fun x_ hx_ => ?_ | refine Elem1.mk fun e_ he_ => ?_); refine g0_ ?_))
        (refine Frz.of_eq ?_; (conv => lhs; whnf))
        (try rfl)
      · have hE : fillE g r c = (.none, 4) := by rw [fillE, if_neg (by simpa using h1), if_pos (.inr (by simpa using h3))]
        rw [hE, show checkStyle c.s = false by simpa using h3]
        (refine g0_ ?_; repeat ((first | refine n1_ fun b_ => ?_ | refine n2_ fun b_ => ?_ | refine Nat1.mk fun q_ hq_ => ?_ | refine em_ fun x_ hx_ => ?_ | refine Elem1.mk fun e_ he_ => ?_); refine g0_ ?_))
        (refine g1_ ?_; repeat ((first | refine n1_ fun b_ => ?_ | refine n2_ fun b_ => ?_ | refine Nat1.mk fun q_ hq_ => ?_ | refine em_ fun x_ hx_ => ?_ | refine Elem1.mk fun e_ he_ => ?_); refine g1_ ?_))
        refine (hgr).use ?_; (refine g0_ ?_; repeat ((first | refine n1_ fun b_ => ?_ | refine n2_ fun b_ => ?_ | refine Nat1.mk fun q_ hq_ => ?_ | refine em_ fun x_ hx_ => ?_ | refine Elem1.mk fun e_ he_ => ?_); refine g0_ ?_))
        refine (hsm).use ?_; (refine g0_ ?_; repeat ((first | refine n1_ fun b_ => ?_ | refine n2_ fun b_ => ?_ | refine Nat1.mk fun q_ hq_ => ?_ | refine em_ fun x_ hx_ => ?_ | refine Elem1.mk fun e_ he_ => ?_); refine g0_ ?_))
        (refine g1_ ?_; repeat ((first | refine n1_ fun b_ => ?_ | refine n2_ fun b_ => ?_ | refine Nat1.mk fun q_ hq_ => ?_ | refine em_ fun x_ hx_ => ?_ | refine Elem1.mk fun e_ he_ => ?_); refine g1_ ?_))
        refine (hgr).use ?_; (refine g0_ ?_; repeat ((first | refine n1_ fun b_ => ?_ | refine n2_ fun b_ => ?_ | refine Nat1.mk fun q_ hq_ => ?_ | refine em_ fun x_ hx_ => ?_ | refine Elem1.mk fun e_ he_ => ?_); refine g0_ ?_))
        refine (hsm).use ?_; (refine g0_ ?_; repeat ((first | refine n1_ fun b_ => ?_ | refine n2_ fun b_ => ?_ | refine Nat1.mk fun q_ hq_ => ?_ | refine em_ fun x_ hx_ => ?_ | refine Elem1.mk fun e_ he_ => ?_); refine g0_ ?_))
        (refine g1_ ?_; repeat ((first | refine n1_ fun b_ => ?_ | refine n2_ fun b_ => ?_ | refine Nat1.mk fun q_ hq_ => ?_ | refine em_ fun x_ hx_ => ?_ | refine Elem1.mk fun e_ he_ => ?_); refine g1_ ?_))
        refine (none_no W).use ?_; (refine g0_ ?_; repeat ((first | refine n1_ fun b_ => ?_ | refine n2_ fun b_ => ?_ | refine Nat1.mk fun q_ hq_ => ?_ | refine em_ fun x_ hx_ => ?_ | refine Elem1.mk fun e_ he_ => ?_); refine g0_ ?_))
        (refine Frz.of_eq ?_; (conv => lhs; whnf))
        (try rfl)
    · have hE : fillE g r c = (.none, 4) := by rw [fillE, if_neg (by simpa using h1), if_pos (.inl (by omega))]
      rw [hE]
      (refine g0_ ?_; repeat ((first | refine n1_ fun b_ => ?_ | refine n2_ fun b_ => ?_ | refine Nat1.mk fun q_ hq_ => ?_ | refine em_ fun x_ hx_ => ?_ | refine Elem1.mk fun e_ he_ => ?_); refine g0_ ?_))
      (refine g1_ ?_; repeat ((first | refine n1_ fun b_ => ?_ | refine n2_ fun b_ => ?_ | refine Nat1.mk fun q_ hq_ => ?_ | refine em_ fun x_ hx_ => ?_ | refine Elem1.mk fun e_ he_ => ?_); refine g1_ ?_))
      refine (hgr).use ?_; (refine g0_ ?_; repeat ((first | refine n1_ fun b_ => ?_ | refine n2_ fun b_ => ?_ | refine Nat1.mk fun q_ hq_ => ?_ | refine em_ fun x_ hx_ => ?_ | refine Elem1.mk fun e_ he_ => ?_); refine g0_ ?_))
      refine (hsm).use ?_; (refine g0_ ?_; repeat ((first | refine n1_ fun b_ => ?_ | refine n2_ fun b_ => ?_ | refine Nat1.mk fun q_ hq_ => ?_ | refine em_ fun x_ hx_ => ?_ | refine Elem1.mk fun e_ he_ => ?_); refine g0_ ?_))
      (refine g1_ ?_; repeat ((first | refine n1_ fun b_ => ?_ | refine n2_ fun b_ => ?_ | refine Nat1.mk fun q_ hq_ => ?_ | refine em_ fun x_ hx_ => ?_ | refine Elem1.mk fun e_ he_ => ?_); refine g1_ ?_))
      refine (hgr).use ?_; (refine g0_ ?_; repeat ((first | refine n1_ fun b_ => ?_ | refine n2_ fun b_ => ?_ | refine Nat1.mk fun q_ hq_ => ?_ | refine em_ fun x_ hx_ => ?_ | refine Elem1.mk fun e_ he_ => ?_); refine g0_ ?_))
      refine (hsm).use ?_; (refine g0_ ?_; repeat ((first | refine n1_ fun b_ => ?_ | refine n2_ fun b_ => ?_ | refine Nat1.mk fun q_ hq_ => ?_ | refine em_ fun x_ hx_ => ?_ | refine Elem1.mk fun e_ he_ => ?_); refine g0_ ?_))
      (refine g1_ ?_; repeat ((first | refine n1_ fun b_ => ?_ | refine n2_ fun b_ => ?_ | refine Nat1.mk fun q_ hq_ => ?_ | refine em_ fun x_ hx_ => ?_ | refine Elem1.mk fun e_ he_ => ?_); refine g1_ ?_))
      refine (none_no W).use ?_; (refine g0_ ?_; repeat ((first | refine n1_ fun b_ => ?_ | refine n2_ fun b_ => ?_ | refine Nat1.mk fun q_ hq_ => ?_ | refine em_ fun x_ hx_ => ?_ | refine Elem1.mk fun e_ he_ => ?_); refine g0_ ?_))
      (refine Frz.of_eq ?_; (conv => lhs; whnf))
      (try rfl)
end Go.Eng.YtlfdmdhkbillpaaDoor
end

/- The laws GridWrite, GridLay, GridLines. -/
section
namespace Go.Eng.YtlfdmdhkbillpaaDoor
open Go Go.Eng Go.Proofs
variable (W : World)
set_option linter.unusedSimpArgs false
set_option maxRecDepth 100000
set_option linter.unusedVariables false
set_option maxHeartbeats 4000000
theorem errFrom_iff (w : Nat) (cs : List Cell) : ∀ (l : List Cell) (i : Nat), errFrom w cs i l = 0 ↔ ∀ k c, l[k]? = some c → ¬ badCell c ∧ ¬ halfCell w cs (i + k) c
  | [], i => by simp [errFrom]
  | c :: l, i => by
    have ih := errFrom_iff w cs l (i + 1)
    rw [errFrom]
    constructor
    · intro h k d hd
      split at h
      · cases h
      · split at h
        · cases h
        · rename_i h1 h2
          cases k with
          | zero =>
            simp only [List.getElem?_cons_zero, Option.some.injEq] at hd
            subst hd
            exact ⟨h1, h2⟩
          | succ k =>
            simp only [List.getElem?_cons_succ] at hd
            have := ih.1 h k d hd
            rwa [show i + 1 + k = i + (k + 1) by omega] at this
    · intro h
      have h0 := h 0 c rfl
      rw [if_neg h0.1, if_neg (by simpa using h0.2)]
      refine ih.2 fun k d hd => ?_
      have := h (k + 1) d (by simpa using hd)
      rwa [show i + (k + 1) = i + 1 + k by omega] at this
theorem good_cell {g : Grid} (h : checkG g = 0) {c : Cell} (hc : c ∈ g.cs) : ¬ badCell c := by
  obtain ⟨w, k, f⟩ := fit_of h
  unfold checkG at h
  split at h
  · obtain ⟨i, hi⟩ := List.getElem?_of_mem hc
    exact ((errFrom_iff _ _ _ _).1 h i c hi).1
  · cases h
theorem good_nonneg {g : Grid} (h : checkG g = 0) {c : Cell} (hc : c ∈ g.cs) : 0 ≤ c.r := by
  have hb := good_cell h hc
  unfold badCell at hb
  by_cases h0 : c.r = 0
  · omega
  · have hw : widthL c.r ≠ 0 := fun hw => hb (.inl ⟨h0, hw⟩)
    have := valid_of_width (r := c.r) (by omega)
    unfold validR at this
    omega
theorem gridWrite_ok (hT : Tabs W) (g : Grid) (hg : g.ok) (x : Int) (hx : -9223372036854775808 ≤ x ∧ x ≤ 9223372036854775807) (y : Int) (hy : -9223372036854775808 ≤ y ∧ y ≤ 9223372036854775807) (s : List UInt8) (hs : s.length ≤ 140737488355328) (look : Style) (hlk : look.ok) :
    Pure Tryd.prog W 7 [encGrid g, .int .i64 x, .int .i64 y, .str s, encStyle look] (.bool true) := by
  have hgr := gridded_ok W hT
  have hsm := same_refl W g hg
  by_cases h1 : checkG g = 0
  · obtain ⟨w, h, f⟩ := fit_of h1
    have hgw := f.ew
    have hgh := f.eh
    by_cases h2 : x < 0 ∨ (w : Int) ≤ x ∨ y < 0 ∨ (h : Int) ≤ y
    · have hE : writeE g x y s look = (.none, 4) := by rw [writeE, if_neg (by simpa using h1), if_pos (by omega)]
      refine Pure.of (acalls_of_vc (drawOk W) Tryd.func7 rfl (by decide) (by decide) rfl ?_)
      (refine g0_ ?_; repeat ((first | refine n1_ fun b_ => ?_ | refine n2_ fun b_ => ?_ | refine Nat1.mk fun q_ hq_ => ?_ | refine em_ fun x_ hx_ => ?_ | refine Elem1.mk fun e_ he_ => ?_); refine g0_ ?_))
      refine (own_ok W g hg).use ?_; (refine g0_ ?_; repeat ((first | refine n1_ fun b_ => ?_ | refine n2_ fun b_ => ?_ | refine Nat1.mk fun q_ hq_ => ?_ | refine em_ fun x_ hx_ => ?_ | refine Elem1.mk fun e_ he_ => ?_); refine g0_ ?_))
      refine (write_ok W hT g hg x y s look).use ?_
      rw [hE]
      (refine g0_ ?_; repeat ((first | refine n1_ fun b_ => ?_ | refine n2_ fun b_ => ?_ | refine Nat1.mk fun q_ hq_ => ?_ | refine em_ fun x_ hx_ => ?_ | refine Elem1.mk fun e_ he_ => ?_); refine g0_ ?_))
      refine (checkGrid_ok W g hg).use ?_; (refine g0_ ?_; repeat ((first | refine n1_ fun b_ => ?_ | refine n2_ fun b_ => ?_ | refine Nat1.mk fun q_ hq_ => ?_ | refine em_ fun x_ hx_ => ?_ | refine Elem1.mk fun e_ he_ => ?_); refine g0_ ?_))
      rw [h1]
      (refine g0_ ?_; repeat ((first | refine n1_ fun b_ => ?_ | refine n2_ fun b_ => ?_ | refine Nat1.mk fun q_ hq_ => ?_ | refine em_ fun x_ hx_ => ?_ | refine Elem1.mk fun e_ he_ => ?_); refine g0_ ?_))
      (refine g1_ ?_; repeat ((first | refine n1_ fun b_ => ?_ | refine n2_ fun b_ => ?_ | refine Nat1.mk fun q_ hq_ => ?_ | refine em_ fun x_ hx_ => ?_ | refine Elem1.mk fun e_ he_ => ?_); refine g1_ ?_))
      refine (hgr).use ?_; (refine g0_ ?_; repeat ((first | refine n1_ fun b_ => ?_ | refine n2_ fun b_ => ?_ | refine Nat1.mk fun q_ hq_ => ?_ | refine em_ fun x_ hx_ => ?_ | refine Elem1.mk fun e_ he_ => ?_); refine g0_ ?_))
      refine (hsm).use ?_; (refine g0_ ?_; repeat ((first | refine n1_ fun b_ => ?_ | refine n2_ fun b_ => ?_ | refine Nat1.mk fun q_ hq_ => ?_ | refine em_ fun x_ hx_ => ?_ | refine Elem1.mk fun e_ he_ => ?_); refine g0_ ?_))
      (refine g1_ ?_; repeat ((first | refine n1_ fun b_ => ?_ | refine n2_ fun b_ => ?_ | refine Nat1.mk fun q_ hq_ => ?_ | refine em_ fun x_ hx_ => ?_ | refine Elem1.mk fun e_ he_ => ?_); refine g1_ ?_))
      refine (hgr).use ?_; (refine g0_ ?_; repeat ((first | refine n1_ fun b_ => ?_ | refine n2_ fun b_ => ?_ | refine Nat1.mk fun q_ hq_ => ?_ | refine em_ fun x_ hx_ => ?_ | refine Elem1.mk fun e_ he_ => ?_); refine g0_ ?_))
      refine (hsm).use ?_; (refine g0_ ?_; repeat ((first | refine n1_ fun b_ => ?_ | refine n2_ fun b_ => ?_ | refine Nat1.mk fun q_ hq_ => ?_ | refine em_ fun x_ hx_ => ?_ | refine Elem1.mk fun e_ he_ => ?_); refine g0_ ?_))
      (refine g1_ ?_; repeat ((first | refine n1_ fun b_ => ?_ | refine n2_ fun b_ => ?_ | refine Nat1.mk fun q_ hq_ => ?_ | refine em_ fun x_ hx_ => ?_ | refine Elem1.mk fun e_ he_ => ?_); refine g1_ ?_))
      refine (none_no W).use ?_; (refine g0_ ?_; repeat ((first | refine n1_ fun b_ => ?_ | refine n2_ fun b_ => ?_ | refine Nat1.mk fun q_ hq_ => ?_ | refine em_ fun x_ hx_ => ?_ | refine Elem1.mk fun e_ he_ => ?_); refine g0_ ?_))
      (refine Frz.of_eq ?_; (conv => lhs; whnf))
      (try rfl)
    · by_cases h3 : checkStyle look = true
      · have hE : writeE g x y s look = (writeG g x.toNat y.toNat s look, 0) := by rw [writeE, if_neg (by simpa using h1), if_neg (by rintro (h | h | h | h | h) <;> first | omega | (rw [h] at h3; cases h3))]
        obtain ⟨X, rfl⟩ := Int.eq_ofNat_of_zero_le (show 0 ≤ x by omega)
        obtain ⟨Y, rfl⟩ := Int.eq_ofNat_of_zero_le (show 0 ≤ y by omega)
        rw [Int.toNat_natCast, Int.toNat_natCast] at hE
        have hsx := same_refl W (writeG g X Y s look) (writeG_ok f hg X Y s hlk)
        refine Pure.of (acalls_of_vc (drawOk W) Tryd.func7 rfl (by decide) (by decide) rfl ?_)
        (refine g0_ ?_; repeat ((first | refine n1_ fun b_ => ?_ | refine n2_ fun b_ => ?_ | refine Nat1.mk fun q_ hq_ => ?_ | refine em_ fun x_ hx_ => ?_ | refine Elem1.mk fun e_ he_ => ?_); refine g0_ ?_))
        refine (own_ok W g hg).use ?_; (refine g0_ ?_; repeat ((first | refine n1_ fun b_ => ?_ | refine n2_ fun b_ => ?_ | refine Nat1.mk fun q_ hq_ => ?_ | refine em_ fun x_ hx_ => ?_ | refine Elem1.mk fun e_ he_ => ?_); refine g0_ ?_))
        refine (write_ok W hT g hg X Y s look).use ?_
        rw [hE]
        (refine g0_ ?_; repeat ((first | refine n1_ fun b_ => ?_ | refine n2_ fun b_ => ?_ | refine Nat1.mk fun q_ hq_ => ?_ | refine em_ fun x_ hx_ => ?_ | refine Elem1.mk fun e_ he_ => ?_); refine g0_ ?_))
        refine (checkGrid_ok W g hg).use ?_; (refine g0_ ?_; repeat ((first | refine n1_ fun b_ => ?_ | refine n2_ fun b_ => ?_ | refine Nat1.mk fun q_ hq_ => ?_ | refine em_ fun x_ hx_ => ?_ | refine Elem1.mk fun e_ he_ => ?_); refine g0_ ?_))
        rw [h1]
        (refine g0_ ?_; repeat ((first | refine n1_ fun b_ => ?_ | refine n2_ fun b_ => ?_ | refine Nat1.mk fun q_ hq_ => ?_ | refine em_ fun x_ hx_ => ?_ | refine Elem1.mk fun e_ he_ => ?_); refine g0_ ?_))
        (refine g1_ ?_; repeat ((first | refine n1_ fun b_ => ?_ | refine n2_ fun b_ => ?_ | refine Nat1.mk fun q_ hq_ => ?_ | refine em_ fun x_ hx_ => ?_ | refine Elem1.mk fun e_ he_ => ?_); refine g1_ ?_))
        refine (isStyle_ok W look).use ?_; (refine g0_ ?_; repeat ((first | refine n1_ fun b_ => ?_ | refine n2_ fun b_ => ?_ | refine Nat1.mk fun q_ hq_ => ?_ | refine em_ fun x_ hx_ => ?_ | refine Elem1.mk fun e_ he_ => ?_); refine g0_ ?_))
        rw [h3]
        (refine g0_ ?_; repeat ((first | refine n1_ fun b_ => ?_ | refine n2_ fun b_ => ?_ | refine Nat1.mk fun q_ hq_ => ?_ | refine em_ fun x_ hx_ => ?_ | refine Elem1.mk fun e_ he_ => ?_); refine g0_ ?_))
        (refine g1_ ?_; repeat ((first | refine n1_ fun b_ => ?_ | refine n2_ fun b_ => ?_ | refine Nat1.mk fun q_ hq_ => ?_ | refine em_ fun x_ hx_ => ?_ | refine Elem1.mk fun e_ he_ => ?_); refine g1_ ?_))
        refine (hgr).use ?_; (refine g0_ ?_; repeat ((first | refine n1_ fun b_ => ?_ | refine n2_ fun b_ => ?_ | refine Nat1.mk fun q_ hq_ => ?_ | refine em_ fun x_ hx_ => ?_ | refine Elem1.mk fun e_ he_ => ?_); refine g0_ ?_))
        refine (hsm).use ?_; (refine g0_ ?_; repeat ((first | refine n1_ fun b_ => ?_ | refine n2_ fun b_ => ?_ | refine Nat1.mk fun q_ hq_ => ?_ | refine em_ fun x_ hx_ => ?_ | refine Elem1.mk fun e_ he_ => ?_); refine g0_ ?_))
        (refine g1_ ?_; repeat ((first | refine n1_ fun b_ => ?_ | refine n2_ fun b_ => ?_ | refine Nat1.mk fun q_ hq_ => ?_ | refine em_ fun x_ hx_ => ?_ | refine Elem1.mk fun e_ he_ => ?_); refine g1_ ?_))
        refine head_ ?_; (refine g0_ ?_; repeat ((first | refine n1_ fun b_ => ?_ | refine n2_ fun b_ => ?_ | refine Nat1.mk fun q_ hq_ => ?_ | refine em_ fun x_ hx_ => ?_ | refine Elem1.mk fun e_ he_ => ?_); refine g0_ ?_))
        refine ⟨_, writeGrid_ok W g f X Y (by omega) (by omega) s (by omega) look, ?_⟩; (refine g0_ ?_; repeat ((first | refine n1_ fun b_ => ?_ | refine n2_ fun b_ => ?_ | refine Nat1.mk fun q_ hq_ => ?_ | refine em_ fun x_ hx_ => ?_ | refine Elem1.mk fun e_ he_ => ?_); refine g0_ ?_))
        refine ⟨_, hsx, ?_⟩; (refine g0_ ?_; repeat ((first | refine n1_ fun b_ => ?_ | refine n2_ fun b_ => ?_ | refine Nat1.mk fun q_ hq_ => ?_ | refine em_ fun x_ hx_ => ?_ | refine Elem1.mk fun e_ he_ => ?_); refine g0_ ?_))
        (refine Frz.of_eq ?_; (conv => lhs; whnf))
        (try rfl)
      · have hE : writeE g x y s look = (.none, 4) := by rw [writeE, if_neg (by simpa using h1), if_pos (.inr (.inr (.inr (.inr (by simpa using h3)))))]
        refine Pure.of (acalls_of_vc (drawOk W) Tryd.func7 rfl (by decide) (by decide) rfl ?_)
        (refine g0_ ?_; repeat ((first | refine n1_ fun b_ => ?_ | refine n2_ fun b_ => ?_ | refine Nat1.mk fun q_ hq_ => ?_ | refine em_ fun x_ hx_ => ?_ | refine Elem1.mk fun e_ he_ => ?_); refine g0_ ?_))
        refine (own_ok W g hg).use ?_; (refine g0_ ?_; repeat ((first | refine n1_ fun b_ => ?_ | refine n2_ fun b_ => ?_ | refine Nat1.mk fun q_ hq_ => ?_ | refine em_ fun x_ hx_ => ?_ | refine Elem1.mk fun e_ he_ => ?_); refine g0_ ?_))
        refine (write_ok W hT g hg x y s look).use ?_
        rw [hE]
        (refine g0_ ?_; repeat ((first | refine n1_ fun b_ => ?_ | refine n2_ fun b_ => ?_ | refine Nat1.mk fun q_ hq_ => ?_ | refine em_ fun x_ hx_ => ?_ | refine Elem1.mk fun e_ he_ => ?_); refine g0_ ?_))
        refine (checkGrid_ok W g hg).use ?_; (refine g0_ ?_; repeat ((first | refine n1_ fun b_ => ?_ | refine n2_ fun b_ => ?_ | refine Nat1.mk fun q_ hq_ => ?_ | refine em_ fun x_ hx_ => ?_ | refine Elem1.mk fun e_ he_ => ?_); refine g0_ ?_))
        rw [h1]
        (refine g0_ ?_; repeat ((first | refine n1_ fun b_ => ?_ | refine n2_ fun b_ => ?_ | refine Nat1.mk fun q_ hq_ => ?_ | refine em_ fun x_ hx_ => ?_ | refine Elem1.mk fun e_ he_ => ?_); refine g0_ ?_))
        (refine g1_ ?_; repeat ((first | refine n1_ fun b_ => ?_ | refine n2_ fun b_ => ?_ | refine Nat1.mk fun q_ hq_ => ?_ | refine em_ fun x_ hx_ => ?_ | refine Elem1.mk fun e_ he_ => ?_); refine g1_ ?_))
        refine (isStyle_ok W look).use ?_; (refine g0_ ?_; repeat ((first | refine n1_ fun b_ => ?_ | refine n2_ fun b_ => ?_ | refine Nat1.mk fun q_ hq_ => ?_ | refine em_ fun x_ hx_ => ?_ | refine Elem1.mk fun e_ he_ => ?_); refine g0_ ?_))
        rw [show checkStyle look = false by simpa using h3]
        (refine g0_ ?_; repeat ((first | refine n1_ fun b_ => ?_ | refine n2_ fun b_ => ?_ | refine Nat1.mk fun q_ hq_ => ?_ | refine em_ fun x_ hx_ => ?_ | refine Elem1.mk fun e_ he_ => ?_); refine g0_ ?_))
        (refine g1_ ?_; repeat ((first | refine n1_ fun b_ => ?_ | refine n2_ fun b_ => ?_ | refine Nat1.mk fun q_ hq_ => ?_ | refine em_ fun x_ hx_ => ?_ | refine Elem1.mk fun e_ he_ => ?_); refine g1_ ?_))
        refine (hgr).use ?_; (refine g0_ ?_; repeat ((first | refine n1_ fun b_ => ?_ | refine n2_ fun b_ => ?_ | refine Nat1.mk fun q_ hq_ => ?_ | refine em_ fun x_ hx_ => ?_ | refine Elem1.mk fun e_ he_ => ?_); refine g0_ ?_))
        refine (hsm).use ?_; (refine g0_ ?_; repeat ((first | refine n1_ fun b_ => ?_ | refine n2_ fun b_ => ?_ | refine Nat1.mk fun q_ hq_ => ?_ | refine em_ fun x_ hx_ => ?_ | refine Elem1.mk fun e_ he_ => ?_); refine g0_ ?_))
        (refine g1_ ?_; repeat ((first | refine n1_ fun b_ => ?_ | refine n2_ fun b_ => ?_ | refine Nat1.mk fun q_ hq_ => ?_ | refine em_ fun x_ hx_ => ?_ | refine Elem1.mk fun e_ he_ => ?_); refine g1_ ?_))
        refine (hgr).use ?_; (refine g0_ ?_; repeat ((first | refine n1_ fun b_ => ?_ | refine n2_ fun b_ => ?_ | refine Nat1.mk fun q_ hq_ => ?_ | refine em_ fun x_ hx_ => ?_ | refine Elem1.mk fun e_ he_ => ?_); refine g0_ ?_))
        refine (hsm).use ?_; (refine g0_ ?_; repeat ((first | refine n1_ fun b_ => ?_ | refine n2_ fun b_ => ?_ | refine Nat1.mk fun q_ hq_ => ?_ | refine em_ fun x_ hx_ => ?_ | refine Elem1.mk fun e_ he_ => ?_); refine g0_ ?_))
        (refine g1_ ?_; repeat ((first | refine n1_ fun b_ => ?_ | refine n2_ fun b_ => ?_ | refine Nat1.mk fun q_ hq_ => ?_ | refine em_ fun x_ hx_ => ?_ | refine Elem1.mk fun e_ he_ => ?_); refine g1_ ?_))
        refine (none_no W).use ?_; (refine g0_ ?_; repeat ((first | refine n1_ fun b_ => ?_ | refine n2_ fun b_ => ?_ | refine Nat1.mk fun q_ hq_ => ?_ | refine em_ fun x_ hx_ => ?_ | refine Elem1.mk fun e_ he_ => ?_); refine g0_ ?_))
        (refine Frz.of_eq ?_; (conv => lhs; whnf))
        (try rfl)
  · have hE : writeE g x y s look = (.none, checkG g) := by rw [writeE, if_pos h1]
    refine Pure.of (acalls_of_vc (drawOk W) Tryd.func7 rfl (by decide) (by decide) rfl ?_)
    (refine g0_ ?_; repeat ((first | refine n1_ fun b_ => ?_ | refine n2_ fun b_ => ?_ | refine Nat1.mk fun q_ hq_ => ?_ | refine em_ fun x_ hx_ => ?_ | refine Elem1.mk fun e_ he_ => ?_); refine g0_ ?_))
    refine (own_ok W g hg).use ?_; (refine g0_ ?_; repeat ((first | refine n1_ fun b_ => ?_ | refine n2_ fun b_ => ?_ | refine Nat1.mk fun q_ hq_ => ?_ | refine em_ fun x_ hx_ => ?_ | refine Elem1.mk fun e_ he_ => ?_); refine g0_ ?_))
    refine (write_ok W hT g hg x y s look).use ?_
    rw [hE]
    (refine g0_ ?_; repeat ((first | refine n1_ fun b_ => ?_ | refine n2_ fun b_ => ?_ | refine Nat1.mk fun q_ hq_ => ?_ | refine em_ fun x_ hx_ => ?_ | refine Elem1.mk fun e_ he_ => ?_); refine g0_ ?_))
    refine (checkGrid_ok W g hg).use ?_; (refine g0_ ?_; repeat ((first | refine n1_ fun b_ => ?_ | refine n2_ fun b_ => ?_ | refine Nat1.mk fun q_ hq_ => ?_ | refine em_ fun x_ hx_ => ?_ | refine Elem1.mk fun e_ he_ => ?_); refine g0_ ?_))
    (refine g0_ ?_; repeat ((first | refine n1_ fun b_ => ?_ | refine n2_ fun b_ => ?_ | refine Nat1.mk fun q_ hq_ => ?_ | refine em_ fun x_ hx_ => ?_ | refine Elem1.mk fun e_ he_ => ?_); refine g0_ ?_))
    (refine g1_ ?_; repeat ((first | refine n1_ fun b_ => ?_ | refine n2_ fun b_ => ?_ | refine Nat1.mk fun q_ hq_ => ?_ | refine em_ fun x_ hx_ => ?_ | refine Elem1.mk fun e_ he_ => ?_); refine g1_ ?_))
    refine (hgr).use ?_; (refine g0_ ?_; repeat ((first | refine n1_ fun b_ => ?_ | refine n2_ fun b_ => ?_ | refine Nat1.mk fun q_ hq_ => ?_ | refine em_ fun x_ hx_ => ?_ | refine Elem1.mk fun e_ he_ => ?_); refine g0_ ?_))
    refine (hsm).use ?_; (refine g0_ ?_; repeat ((first | refine n1_ fun b_ => ?_ | refine n2_ fun b_ => ?_ | refine Nat1.mk fun q_ hq_ => ?_ | refine em_ fun x_ hx_ => ?_ | refine Elem1.mk fun e_ he_ => ?_); refine g0_ ?_))
    (refine g1_ ?_; repeat ((first | refine n1_ fun b_ => ?_ | refine n2_ fun b_ => ?_ | refine Nat1.mk fun q_ hq_ => ?_ | refine em_ fun x_ hx_ => ?_ | refine Elem1.mk fun e_ he_ => ?_); refine g1_ ?_))
    refine (hgr).use ?_; (refine g0_ ?_; repeat ((first | refine n1_ fun b_ => ?_ | refine n2_ fun b_ => ?_ | refine Nat1.mk fun q_ hq_ => ?_ | refine em_ fun x_ hx_ => ?_ | refine Elem1.mk fun e_ he_ => ?_); refine g0_ ?_))
    refine (hsm).use ?_; (refine g0_ ?_; repeat ((first | refine n1_ fun b_ => ?_ | refine n2_ fun b_ => ?_ | refine Nat1.mk fun q_ hq_ => ?_ | refine em_ fun x_ hx_ => ?_ | refine Elem1.mk fun e_ he_ => ?_); refine g0_ ?_))
    (refine g1_ ?_; repeat ((first | refine n1_ fun b_ => ?_ | refine n2_ fun b_ => ?_ | refine Nat1.mk fun q_ hq_ => ?_ | refine em_ fun x_ hx_ => ?_ | refine Elem1.mk fun e_ he_ => ?_); refine g1_ ?_))
    refine (none_no W).use ?_; (refine g0_ ?_; repeat ((first | refine n1_ fun b_ => ?_ | refine n2_ fun b_ => ?_ | refine Nat1.mk fun q_ hq_ => ?_ | refine em_ fun x_ hx_ => ?_ | refine Elem1.mk fun e_ he_ => ?_); refine g0_ ?_))
    (refine Frz.of_eq ?_; (conv => lhs; whnf))
    (try rfl)
theorem gridLines_ok (hT : Tabs W) (g : Grid) (hg : g.ok) : Pure Tryd.prog W 8 [encGrid g] (.bool true) := by
  have hgr := gridded_ok W hT
  by_cases h1 : checkG g = 0
  · obtain ⟨w, h, f⟩ := fit_of h1
    have hE : linesE g = (linesL g, 0) := by rw [linesE, if_neg (by simpa using h1)]
    have hok : ∀ r ∈ g.rows, ∀ c ∈ r, 0 ≤ c.r := fun r hr c hc => by
      exact good_nonneg h1 (rows_mem f hr hc)
    have hll : (linesL g).length = h := by rw [linesL, List.length_map, f.rlen]
    have hh2 := f.h2
    refine Pure.of (acalls_of_vc (drawOk W) Tryd.func8 rfl (by decide) (by decide) rfl ?_)
    (refine g0_ ?_; repeat ((first | refine n1_ fun b_ => ?_ | refine n2_ fun b_ => ?_ | refine Nat1.mk fun q_ hq_ => ?_ | refine em_ fun x_ hx_ => ?_ | refine Elem1.mk fun e_ he_ => ?_); refine g0_ ?_))
    refine (lines_ok W g hg).use ?_
    rw [hE]
    (refine g0_ ?_; repeat ((first | refine n1_ fun b_ => ?_ | refine n2_ fun b_ => ?_ | refine Nat1.mk fun q_ hq_ => ?_ | refine em_ fun x_ hx_ => ?_ | refine Elem1.mk fun e_ he_ => ?_); refine g0_ ?_))
    refine (checkGrid_ok W g hg).use ?_; (refine g0_ ?_; repeat ((first | refine n1_ fun b_ => ?_ | refine n2_ fun b_ => ?_ | refine Nat1.mk fun q_ hq_ => ?_ | refine em_ fun x_ hx_ => ?_ | refine Elem1.mk fun e_ he_ => ?_); refine g0_ ?_))
    rw [h1]
    (refine g0_ ?_; repeat ((first | refine n1_ fun b_ => ?_ | refine n2_ fun b_ => ?_ | refine Nat1.mk fun q_ hq_ => ?_ | refine em_ fun x_ hx_ => ?_ | refine Elem1.mk fun e_ he_ => ?_); refine g0_ ?_))
    refine (hgr).use ?_; (refine g0_ ?_; repeat ((first | refine n1_ fun b_ => ?_ | refine n2_ fun b_ => ?_ | refine Nat1.mk fun q_ hq_ => ?_ | refine em_ fun x_ hx_ => ?_ | refine Elem1.mk fun e_ he_ => ?_); refine g0_ ?_))
    (refine g1_ ?_; repeat ((first | refine n1_ fun b_ => ?_ | refine n2_ fun b_ => ?_ | refine Nat1.mk fun q_ hq_ => ?_ | refine em_ fun x_ hx_ => ?_ | refine Elem1.mk fun e_ he_ => ?_); refine g1_ ?_))
    refine (linesOf_ok W g f hok).use ?_; (refine g0_ ?_; repeat ((first | refine n1_ fun b_ => ?_ | refine n2_ fun b_ => ?_ | refine Nat1.mk fun q_ hq_ => ?_ | refine em_ fun x_ hx_ => ?_ | refine Elem1.mk fun e_ he_ => ?_); refine g0_ ?_))
    refine (equal_strs W (linesL g) (linesL g) (by omega)).use ?_; (refine g0_ ?_; repeat ((first | refine n1_ fun b_ => ?_ | refine n2_ fun b_ => ?_ | refine Nat1.mk fun q_ hq_ => ?_ | refine em_ fun x_ hx_ => ?_ | refine Elem1.mk fun e_ he_ => ?_); refine g0_ ?_))
    (refine Frz.of_eq ?_; (conv => lhs; whnf))
    (try simp)
  · have hE : linesE g = ([], checkG g) := by rw [linesE, if_pos (by simpa using h1)]
    refine Pure.of (acalls_of_vc (drawOk W) Tryd.func8 rfl (by decide) (by decide) rfl ?_)
    (refine g0_ ?_; repeat ((first | refine n1_ fun b_ => ?_ | refine n2_ fun b_ => ?_ | refine Nat1.mk fun q_ hq_ => ?_ | refine em_ fun x_ hx_ => ?_ | refine Elem1.mk fun e_ he_ => ?_); refine g0_ ?_))
    refine (lines_ok W g hg).use ?_
    rw [hE]
    (refine g0_ ?_; repeat ((first | refine n1_ fun b_ => ?_ | refine n2_ fun b_ => ?_ | refine Nat1.mk fun q_ hq_ => ?_ | refine em_ fun x_ hx_ => ?_ | refine Elem1.mk fun e_ he_ => ?_); refine g0_ ?_))
    refine (checkGrid_ok W g hg).use ?_; (refine g0_ ?_; repeat ((first | refine n1_ fun b_ => ?_ | refine n2_ fun b_ => ?_ | refine Nat1.mk fun q_ hq_ => ?_ | refine em_ fun x_ hx_ => ?_ | refine Elem1.mk fun e_ he_ => ?_); refine g0_ ?_))
    refine (hgr).use ?_; (refine g0_ ?_; repeat ((first | refine n1_ fun b_ => ?_ | refine n2_ fun b_ => ?_ | refine Nat1.mk fun q_ hq_ => ?_ | refine em_ fun x_ hx_ => ?_ | refine Elem1.mk fun e_ he_ => ?_); refine g0_ ?_))
    (refine g1_ ?_; repeat ((first | refine n1_ fun b_ => ?_ | refine n2_ fun b_ => ?_ | refine Nat1.mk fun q_ hq_ => ?_ | refine em_ fun x_ hx_ => ?_ | refine Elem1.mk fun e_ he_ => ?_); refine g1_ ?_))
    refine (hgr).use ?_; (refine g0_ ?_; repeat ((first | refine n1_ fun b_ => ?_ | refine n2_ fun b_ => ?_ | refine Nat1.mk fun q_ hq_ => ?_ | refine em_ fun x_ hx_ => ?_ | refine Elem1.mk fun e_ he_ => ?_); refine g0_ ?_))
    (refine Frz.of_eq ?_; (conv => lhs; whnf))
    (try simp)
end Go.Eng.YtlfdmdhkbillpaaDoor
end

/- Grids: parts, other sizes; checked. -/
section
namespace Go.Eng.YtlfdmdhkbillpaaDoor
open Go Go.Eng Go.Proofs
variable (W : World)
set_option linter.unusedSimpArgs false
set_option maxRecDepth 100000
set_option linter.unusedVariables false
set_option maxHeartbeats 4000000
theorem newG_ok {w h : Int} (hs : sizeB w h = true) : (newG w h).ok := by
  unfold sizeB at hs
  simp only [Bool.and_eq_true, decide_eq_true_eq] at hs
  obtain ⟨a, rfl⟩ := Int.eq_ofNat_of_zero_le (show 0 ≤ w by omega)
  obtain ⟨b, rfl⟩ := Int.eq_ofNat_of_zero_le (show 0 ≤ h by omega)
  have hsm : a * b ≤ 120 * 60 := Nat.mul_le_mul (by omega) (by omega)
  refine ⟨by show i64ok (a : Int); unfold i64ok; omega, by show i64ok (b : Int); unfold i64ok; omega, fun c hc => ?_, ?_⟩
  · rw [newG] at hc
    obtain rfl := (List.mem_replicate.1 hc).2
    exact ⟨by show i32ok 32; unfold i32ok; decide, by unfold Style.ok i64ok blankC; decide⟩
  · rw [newG, List.length_replicate, show ((a : Int) * b).toNat = a * b from Int.toNat_natCast _]
    omega
theorem gridCheck_ok (hT : Tabs W) (g : Grid) (hg : g.ok) (w : Int) (hw : -9223372036854775808 ≤ w ∧ w ≤ 9223372036854775807) (h : Int) (hh : -9223372036854775808 ≤ h ∧ h ≤ 9223372036854775807) :
    Pure Tryd.prog W 12 [encGrid g, .int .i64 w, .int .i64 h] (.bool true) := by
  have hgr := gridded_ok W hT
  by_cases hs : sizeB w h = true
  · have hE : newE w h = (newG w h, 0) := by rw [newE, if_pos hs]
    have hsx := same_refl W (newG w h) (newG_ok hs)
    have hs' := hs
    unfold sizeB at hs'
    simp only [Bool.and_eq_true, decide_eq_true_eq] at hs'
    obtain ⟨a, rfl⟩ := Int.eq_ofNat_of_zero_le (show 0 ≤ w by omega)
    obtain ⟨b, rfl⟩ := Int.eq_ofNat_of_zero_le (show 0 ≤ h by omega)
    have hng := newGrid_ok W a b (by omega) (by omega) (by omega) (by omega)
    refine Pure.of (acalls_of_vc (drawOk W) Tryd.func12 rfl (by decide) (by decide) rfl ?_)
    (refine g0_ ?_; repeat ((first | refine n1_ fun b_ => ?_ | refine n2_ fun b_ => ?_ | refine Nat1.mk fun q_ hq_ => ?_ | refine em_ fun x_ hx_ => ?_ | refine Elem1.mk fun e_ he_ => ?_); refine g0_ ?_))
    refine (new_ok W a b).use ?_; (refine g0_ ?_; repeat ((first | refine n1_ fun b_ => ?_ | refine n2_ fun b_ => ?_ | refine Nat1.mk fun q_ hq_ => ?_ | refine em_ fun x_ hx_ => ?_ | refine Elem1.mk fun e_ he_ => ?_); refine g0_ ?_))
    rw [hE]
    (refine g0_ ?_; repeat ((first | refine n1_ fun b_ => ?_ | refine n2_ fun b_ => ?_ | refine Nat1.mk fun q_ hq_ => ?_ | refine em_ fun x_ hx_ => ?_ | refine Elem1.mk fun e_ he_ => ?_); refine g0_ ?_))
    refine head_ ?_; (refine g0_ ?_; repeat ((first | refine n1_ fun b_ => ?_ | refine n2_ fun b_ => ?_ | refine Nat1.mk fun q_ hq_ => ?_ | refine em_ fun x_ hx_ => ?_ | refine Elem1.mk fun e_ he_ => ?_); refine g0_ ?_))
    refine ⟨_, hgr, ?_⟩; (refine g0_ ?_; repeat ((first | refine n1_ fun b_ => ?_ | refine n2_ fun b_ => ?_ | refine Nat1.mk fun q_ hq_ => ?_ | refine em_ fun x_ hx_ => ?_ | refine Elem1.mk fun e_ he_ => ?_); refine g0_ ?_))
    refine ⟨_, check_ok W g hg, ?_⟩; (refine g0_ ?_; repeat ((first | refine n1_ fun b_ => ?_ | refine n2_ fun b_ => ?_ | refine Nat1.mk fun q_ hq_ => ?_ | refine em_ fun x_ hx_ => ?_ | refine Elem1.mk fun e_ he_ => ?_); refine g0_ ?_))
    refine ⟨_, checkGrid_ok W g hg, ?_⟩; (refine g0_ ?_; repeat ((first | refine n1_ fun b_ => ?_ | refine n2_ fun b_ => ?_ | refine Nat1.mk fun q_ hq_ => ?_ | refine em_ fun x_ hx_ => ?_ | refine Elem1.mk fun e_ he_ => ?_); refine g0_ ?_))
    (refine g1_ ?_; repeat ((first | refine n1_ fun b_ => ?_ | refine n2_ fun b_ => ?_ | refine Nat1.mk fun q_ hq_ => ?_ | refine em_ fun x_ hx_ => ?_ | refine Elem1.mk fun e_ he_ => ?_); refine g1_ ?_))
    refine (size_ok W a b).use ?_; (refine g0_ ?_; repeat ((first | refine n1_ fun b_ => ?_ | refine n2_ fun b_ => ?_ | refine Nat1.mk fun q_ hq_ => ?_ | refine em_ fun x_ hx_ => ?_ | refine Elem1.mk fun e_ he_ => ?_); refine g0_ ?_))
    rw [hs]
    (refine g0_ ?_; repeat ((first | refine n1_ fun b_ => ?_ | refine n2_ fun b_ => ?_ | refine Nat1.mk fun q_ hq_ => ?_ | refine em_ fun x_ hx_ => ?_ | refine Elem1.mk fun e_ he_ => ?_); refine g0_ ?_))
    refine head_ ?_; (refine g0_ ?_; repeat ((first | refine n1_ fun b_ => ?_ | refine n2_ fun b_ => ?_ | refine Nat1.mk fun q_ hq_ => ?_ | refine em_ fun x_ hx_ => ?_ | refine Elem1.mk fun e_ he_ => ?_); refine g0_ ?_))
    refine ⟨_, hng, ?_⟩; (refine g0_ ?_; repeat ((first | refine n1_ fun b_ => ?_ | refine n2_ fun b_ => ?_ | refine Nat1.mk fun q_ hq_ => ?_ | refine em_ fun x_ hx_ => ?_ | refine Elem1.mk fun e_ he_ => ?_); refine g0_ ?_))
    refine ⟨_, hsx, ?_⟩; (refine g0_ ?_; repeat ((first | refine n1_ fun b_ => ?_ | refine n2_ fun b_ => ?_ | refine Nat1.mk fun q_ hq_ => ?_ | refine em_ fun x_ hx_ => ?_ | refine Elem1.mk fun e_ he_ => ?_); refine g0_ ?_))
    (refine Frz.of_eq ?_; (conv => lhs; whnf))
    (try rfl)
  · have hE : newE w h = (.none, 3) := by rw [newE, if_neg hs]
    refine Pure.of (acalls_of_vc (drawOk W) Tryd.func12 rfl (by decide) (by decide) rfl ?_)
    (refine g0_ ?_; repeat ((first | refine n1_ fun b_ => ?_ | refine n2_ fun b_ => ?_ | refine Nat1.mk fun q_ hq_ => ?_ | refine em_ fun x_ hx_ => ?_ | refine Elem1.mk fun e_ he_ => ?_); refine g0_ ?_))
    refine (new_ok W w h).use ?_; (refine g0_ ?_; repeat ((first | refine n1_ fun b_ => ?_ | refine n2_ fun b_ => ?_ | refine Nat1.mk fun q_ hq_ => ?_ | refine em_ fun x_ hx_ => ?_ | refine Elem1.mk fun e_ he_ => ?_); refine g0_ ?_))
    rw [hE]
    (refine g0_ ?_; repeat ((first | refine n1_ fun b_ => ?_ | refine n2_ fun b_ => ?_ | refine Nat1.mk fun q_ hq_ => ?_ | refine em_ fun x_ hx_ => ?_ | refine Elem1.mk fun e_ he_ => ?_); refine g0_ ?_))
    refine head_ ?_; (refine g0_ ?_; repeat ((first | refine n1_ fun b_ => ?_ | refine n2_ fun b_ => ?_ | refine Nat1.mk fun q_ hq_ => ?_ | refine em_ fun x_ hx_ => ?_ | refine Elem1.mk fun e_ he_ => ?_); refine g0_ ?_))
    refine ⟨_, hgr, ?_⟩; (refine g0_ ?_; repeat ((first | refine n1_ fun b_ => ?_ | refine n2_ fun b_ => ?_ | refine Nat1.mk fun q_ hq_ => ?_ | refine em_ fun x_ hx_ => ?_ | refine Elem1.mk fun e_ he_ => ?_); refine g0_ ?_))
    refine ⟨_, check_ok W g hg, ?_⟩; (refine g0_ ?_; repeat ((first | refine n1_ fun b_ => ?_ | refine n2_ fun b_ => ?_ | refine Nat1.mk fun q_ hq_ => ?_ | refine em_ fun x_ hx_ => ?_ | refine Elem1.mk fun e_ he_ => ?_); refine g0_ ?_))
    refine ⟨_, checkGrid_ok W g hg, ?_⟩; (refine g0_ ?_; repeat ((first | refine n1_ fun b_ => ?_ | refine n2_ fun b_ => ?_ | refine Nat1.mk fun q_ hq_ => ?_ | refine em_ fun x_ hx_ => ?_ | refine Elem1.mk fun e_ he_ => ?_); refine g0_ ?_))
    (refine g1_ ?_; repeat ((first | refine n1_ fun b_ => ?_ | refine n2_ fun b_ => ?_ | refine Nat1.mk fun q_ hq_ => ?_ | refine em_ fun x_ hx_ => ?_ | refine Elem1.mk fun e_ he_ => ?_); refine g1_ ?_))
    refine (size_ok W w h).use ?_; (refine g0_ ?_; repeat ((first | refine n1_ fun b_ => ?_ | refine n2_ fun b_ => ?_ | refine Nat1.mk fun q_ hq_ => ?_ | refine em_ fun x_ hx_ => ?_ | refine Elem1.mk fun e_ he_ => ?_); refine g0_ ?_))
    rw [show sizeB w h = false by simpa using hs]
    (refine g0_ ?_; repeat ((first | refine n1_ fun b_ => ?_ | refine n2_ fun b_ => ?_ | refine Nat1.mk fun q_ hq_ => ?_ | refine em_ fun x_ hx_ => ?_ | refine Elem1.mk fun e_ he_ => ?_); refine g0_ ?_))
    refine (none_no W).use ?_; (refine g0_ ?_; repeat ((first | refine n1_ fun b_ => ?_ | refine n2_ fun b_ => ?_ | refine Nat1.mk fun q_ hq_ => ?_ | refine em_ fun x_ hx_ => ?_ | refine Elem1.mk fun e_ he_ => ?_); refine g0_ ?_))
    (refine Frz.of_eq ?_; (conv => lhs; whnf))
    (try rfl)
theorem check_new {w h : Int} (hs : sizeB w h = true) : checkG (newG w h) = 0 := by
  have hs' := hs
  unfold sizeB at hs'
  simp only [Bool.and_eq_true, decide_eq_true_eq] at hs'
  have hw : widthL 32 = 1 := by decide +kernel
  rw [checkG, if_pos ⟨hs, by
    rw [newG, List.length_replicate]
    have : 0 ≤ w * h := Int.mul_nonneg (by omega) (by omega)
    exact Int.toNat_of_nonneg this⟩]
  refine (errFrom_iff _ _ _ _).2 fun k c hc => ?_
  obtain rfl : c = blankC := (List.mem_replicate.1 (List.mem_of_getElem? hc)).2
  constructor
  · rintro (⟨h1, h2⟩ | h)
    · rw [show blankC.r = 32 from rfl, hw] at h2; cases h2
    · exact absurd h (by decide)
  · rintro (⟨h, -⟩ | ⟨h, -⟩)
    · exact absurd h (by decide)
    · rw [show blankC.r = 32 from rfl, hw] at h; cases h
def resizeE (g : Grid) (w h : Int) : Grid × Int := if checkG g ≠ 0 then (.none, checkG g) else if sizeB w h = true then (layG g (newG w h) 0 0, 0) else (.none, 3)
theorem resize_ok (g : Grid) (hg : g.ok) (w h : Int) : Pure Tryd.prog W 46 [encGrid g, .int .i64 w, .int .i64 h] (.tup [encGrid (resizeE g w h).1, .int .i64 (resizeE g w h).2]) := by
  by_cases h1 : checkG g = 0
  · by_cases hs : sizeB w h = true
    · have hE : resizeE g w h = (layG g (newG w h) 0 0, 0) := by rw [resizeE, if_neg (by simpa using h1), if_pos hs]
      have hN : newE w h = (newG w h, 0) := by rw [newE, if_pos hs]
      have hlay := lay_ok W g (newG w h) hg (newG_ok hs) 0 0
      have hLE : layE g (newG w h) 0 0 = (layG g (newG w h) 0 0, 0) := by rw [layE, if_neg (by simpa using h1), if_neg (by simpa using check_new hs)]
      rw [hE]
      refine Pure.of (acalls_of_vc (drawOk W) Tryd.func46 rfl (by decide) (by decide) rfl ?_)
      (refine g0_ ?_; repeat ((first | refine n1_ fun b_ => ?_ | refine n2_ fun b_ => ?_ | refine Nat1.mk fun q_ hq_ => ?_ | refine em_ fun x_ hx_ => ?_ | refine Elem1.mk fun e_ he_ => ?_); refine g0_ ?_))
      refine (check_ok W g hg).use ?_; (refine g0_ ?_; repeat ((first | refine n1_ fun b_ => ?_ | refine n2_ fun b_ => ?_ | refine Nat1.mk fun q_ hq_ => ?_ | refine em_ fun x_ hx_ => ?_ | refine Elem1.mk fun e_ he_ => ?_); refine g0_ ?_))
      rw [h1]
      (refine g0_ ?_; repeat ((first | refine n1_ fun b_ => ?_ | refine n2_ fun b_ => ?_ | refine Nat1.mk fun q_ hq_ => ?_ | refine em_ fun x_ hx_ => ?_ | refine Elem1.mk fun e_ he_ => ?_); refine g0_ ?_))
      refine (new_ok W w h).use ?_; (refine g0_ ?_; repeat ((first | refine n1_ fun b_ => ?_ | refine n2_ fun b_ => ?_ | refine Nat1.mk fun q_ hq_ => ?_ | refine em_ fun x_ hx_ => ?_ | refine Elem1.mk fun e_ he_ => ?_); refine g0_ ?_))
      rw [hN]
      (refine g0_ ?_; repeat ((first | refine n1_ fun b_ => ?_ | refine n2_ fun b_ => ?_ | refine Nat1.mk fun q_ hq_ => ?_ | refine em_ fun x_ hx_ => ?_ | refine Elem1.mk fun e_ he_ => ?_); refine g0_ ?_))
      refine (hlay).use ?_; (refine g0_ ?_; repeat ((first | refine n1_ fun b_ => ?_ | refine n2_ fun b_ => ?_ | refine Nat1.mk fun q_ hq_ => ?_ | refine em_ fun x_ hx_ => ?_ | refine Elem1.mk fun e_ he_ => ?_); refine g0_ ?_))
      rw [hLE]
      (refine g0_ ?_; repeat ((first | refine n1_ fun b_ => ?_ | refine n2_ fun b_ => ?_ | refine Nat1.mk fun q_ hq_ => ?_ | refine em_ fun x_ hx_ => ?_ | refine Elem1.mk fun e_ he_ => ?_); refine g0_ ?_))
      exact .refl _
    · have hE : resizeE g w h = (.none, 3) := by rw [resizeE, if_neg (by simpa using h1), if_neg hs]
      have hN : newE w h = (.none, 3) := by rw [newE, if_neg hs]
      rw [hE]
      refine Pure.of (acalls_of_vc (drawOk W) Tryd.func46 rfl (by decide) (by decide) rfl ?_)
      (refine g0_ ?_; repeat ((first | refine n1_ fun b_ => ?_ | refine n2_ fun b_ => ?_ | refine Nat1.mk fun q_ hq_ => ?_ | refine em_ fun x_ hx_ => ?_ | refine Elem1.mk fun e_ he_ => ?_); refine g0_ ?_))
      refine (check_ok W g hg).use ?_; (refine g0_ ?_; repeat ((first | refine n1_ fun b_ => ?_ | refine n2_ fun b_ => ?_ | refine Nat1.mk fun q_ hq_ => ?_ | refine em_ fun x_ hx_ => ?_ | refine Elem1.mk fun e_ he_ => ?_); refine g0_ ?_))
      rw [h1]
      (refine g0_ ?_; repeat ((first | refine n1_ fun b_ => ?_ | refine n2_ fun b_ => ?_ | refine Nat1.mk fun q_ hq_ => ?_ | refine em_ fun x_ hx_ => ?_ | refine Elem1.mk fun e_ he_ => ?_); refine g0_ ?_))
      refine (new_ok W w h).use ?_; (refine g0_ ?_; repeat ((first | refine n1_ fun b_ => ?_ | refine n2_ fun b_ => ?_ | refine Nat1.mk fun q_ hq_ => ?_ | refine em_ fun x_ hx_ => ?_ | refine Elem1.mk fun e_ he_ => ?_); refine g0_ ?_))
      rw [hN]
      (refine g0_ ?_; repeat ((first | refine n1_ fun b_ => ?_ | refine n2_ fun b_ => ?_ | refine Nat1.mk fun q_ hq_ => ?_ | refine em_ fun x_ hx_ => ?_ | refine Elem1.mk fun e_ he_ => ?_); refine g0_ ?_))
      exact frz_tup2 frz_none (.refl _)
  · have hE : resizeE g w h = (.none, checkG g) := by rw [resizeE, if_pos h1]
    rw [hE]
    refine Pure.of (acalls_of_vc (drawOk W) Tryd.func46 rfl (by decide) (by decide) rfl ?_)
    (refine g0_ ?_; repeat ((first | refine n1_ fun b_ => ?_ | refine n2_ fun b_ => ?_ | refine Nat1.mk fun q_ hq_ => ?_ | refine em_ fun x_ hx_ => ?_ | refine Elem1.mk fun e_ he_ => ?_); refine g0_ ?_))
    refine (check_ok W g hg).use ?_; (refine g0_ ?_; repeat ((first | refine n1_ fun b_ => ?_ | refine n2_ fun b_ => ?_ | refine Nat1.mk fun q_ hq_ => ?_ | refine em_ fun x_ hx_ => ?_ | refine Elem1.mk fun e_ he_ => ?_); refine g0_ ?_))
    (refine g1_ ?_; repeat ((first | refine n1_ fun b_ => ?_ | refine n2_ fun b_ => ?_ | refine Nat1.mk fun q_ hq_ => ?_ | refine em_ fun x_ hx_ => ?_ | refine Elem1.mk fun e_ he_ => ?_); refine g1_ ?_))
    exact frz_tup2 frz_none (.refl _)
/-- Is a part wholly in a grid? -/
def inG (g : Grid) (r : Rect) : Prop := 0 ≤ r.x ∧ 0 ≤ r.y ∧ 1 ≤ r.w ∧ 1 ≤ r.h ∧ r.x < g.w ∧ r.y < g.h ∧ r.w ≤ g.w - r.x ∧ r.h ≤ g.h - r.y
instance (g : Grid) (r : Rect) : Decidable (inG g r) := inferInstanceAs (Decidable (_ ∧ _))
def partE (g : Grid) (r : Rect) : Grid × Int := if checkG g ≠ 0 then (.none, checkG g) else if inG g r then (partG g r, 0) else (.none, 4)
def partRow (X A : Nat) (row : List Cell) : List Cell := mendL ((row.drop X).take A)
theorem part_ok (g : Grid) (hg : g.ok) (r : Rect) (hr : r.ok) : Pure Tryd.prog W 43 [encGrid g, encRect r] (.tup [encGrid (partE g r).1, .int .i64 (partE g r).2]) := by
  obtain ⟨rx, ry, rw_, rh⟩ := r
  obtain ⟨hr1, hr2, hr3, hr4⟩ := hr
  unfold i64ok at hr1 hr2 hr3 hr4
  dsimp only at hr1 hr2 hr3 hr4
  by_cases h1 : checkG g = 0
  · obtain ⟨w, h, f⟩ := fit_of h1
    have hgw := f.ew
    have hgh := f.eh
    have hw2 := f.w2
    have hh2 := f.h2
    have hsm := f.small
    have hcl := f.len
    by_cases h2 : inG g ⟨rx, ry, rw_, rh⟩
    · have hE : partE g ⟨rx, ry, rw_, rh⟩ = (partG g ⟨rx, ry, rw_, rh⟩, 0) := by rw [partE, if_neg (by simpa using h1), if_pos h2]
      obtain ⟨i1, i2, i3, i4, i5, i6, i7, i8⟩ := h2
      dsimp only at i1 i2 i3 i4 i5 i6 i7 i8
      obtain ⟨X, rfl⟩ := Int.eq_ofNat_of_zero_le i1
      obtain ⟨Y, rfl⟩ := Int.eq_ofNat_of_zero_le i2
      obtain ⟨A, rfl⟩ := Int.eq_ofNat_of_zero_le (show 0 ≤ rw_ by omega)
      obtain ⟨B, rfl⟩ := Int.eq_ofNat_of_zero_le (show 0 ≤ rh by omega)
      have hA1 : 1 ≤ A := by omega
      have hB1 : 1 ≤ B := by omega
      obtain ⟨L, hLd⟩ : ∃ L, L = g.rows.drop Y := ⟨_, rfl⟩
      have hLl : L.length = h - Y := by rw [hLd, List.length_drop, f.rlen]
      have hLr : ∀ r ∈ L, r.length = w := fun r hr => f.row r (by rw [hLd] at hr; exact List.mem_of_mem_drop hr)
      have hpr : ∀ r ∈ L, (partRow X A r).length = A := fun r hr => by
        rw [partRow, mendL_len, List.length_take, List.length_drop, hLr r hr]; omega
      have hPG : partG g ⟨X, Y, A, B⟩ = ⟨A, B, ((L.take B).map (partRow X A)).flatten⟩ := by rw [hLd]; rfl
      rw [hE, encRect]
      dsimp only
      refine Pure.of (acalls_of_vc (drawOk W) Tryd.func43 rfl (by decide) (by decide) rfl ?_)
      (refine g0_ ?_; repeat ((first | refine n1_ fun b_ => ?_ | refine n2_ fun b_ => ?_ | refine Nat1.mk fun q_ hq_ => ?_ | refine em_ fun x_ hx_ => ?_ | refine Elem1.mk fun e_ he_ => ?_); refine g0_ ?_))
      refine (check_ok W g hg).use ?_; (refine g0_ ?_; repeat ((first | refine n1_ fun b_ => ?_ | refine n2_ fun b_ => ?_ | refine Nat1.mk fun q_ hq_ => ?_ | refine em_ fun x_ hx_ => ?_ | refine Elem1.mk fun e_ he_ => ?_); refine g0_ ?_))
      rw [h1, hgw, hgh]
      (refine g0_ ?_; repeat ((first | refine n1_ fun b_ => ?_ | refine n2_ fun b_ => ?_ | refine Nat1.mk fun q_ hq_ => ?_ | refine em_ fun x_ hx_ => ?_ | refine Elem1.mk fun e_ he_ => ?_); refine g0_ ?_))
      (refine g1_ ?_; repeat ((first | refine n1_ fun b_ => ?_ | refine n2_ fun b_ => ?_ | refine Nat1.mk fun q_ hq_ => ?_ | refine em_ fun x_ hx_ => ?_ | refine Elem1.mk fun e_ he_ => ?_); refine g1_ ?_))
      rename_i b1 b2 b3
      obtain ⟨b4, rfl⟩ : ∃ b4, b4 = b_ := ⟨_, rfl⟩
      refine' loopI (α := Nat × Nat × (List PV)) (fun (i, b, o) => [(76, .int .i64 i)]) [(2, _), (3, _), (4, _), (7, _), (75, _)] (fun (i, b, o) => accM b 4 o ++ [⟨b4, .row 3 [.agg [.int .i64 A, .int .i64 B, accV b 4 o]] 0⟩, ⟨b3, .row 3 [.agg [.int .i64 0, .int .i64 0, .nils]] 0⟩, ⟨b2, .row 4 [.agg [.int .i64 X, .int .i64 Y, .int .i64 A, .int .i64 B]] 0⟩, ⟨b1, .row 3 [.agg [.int .i64 w, .int .i64 h, .sl 4 (g.cs.map encCell)]] 0⟩]) (fun (i, b, o) => i ≤ B ∧ o = ((L.take i).map (partRow X A)).flatten.map encCell) (fun (i, b, o) => B - i) (0, 0, []) ?_ ?_
      · exact ⟨Nat.zero_le _, rfl⟩
      rintro ⟨i, b, o⟩ ⟨hi, ho⟩
      rcases o with _ | ⟨p, o⟩
      · (refine g0_ ?_; repeat ((first | refine n1_ fun b_ => ?_ | refine n2_ fun b_ => ?_ | refine Nat1.mk fun q_ hq_ => ?_ | refine em_ fun x_ hx_ => ?_ | refine Elem1.mk fun e_ he_ => ?_); refine g0_ ?_))
        refine brec ?_; intro c_ h3; (try rw [h3]); cases c_ <;> replace h3 := nm_ h3
        · have : i = B := by omega
          subst this
          have hoE : [] = ((L.take i).map (partRow X A)).flatten.map encCell := by rw [ho]
          have hol := congrArg List.length ho
          have hfl := flat_len A ((L.take i).map (partRow X A)) (fun r hr => by
            obtain ⟨q, hq, rfl⟩ := List.mem_map.1 hr
            exact hpr q (List.mem_of_mem_take hq))
          rw [List.length_map, List.length_take, Nat.min_eq_left (by omega)] at hfl
          have h11 : 1 * 1 ≤ i * A := Nat.mul_le_mul hB1 hA1
          simp only [List.length_map, List.length_cons, List.length_nil] at hol
          (refine g0_ ?_; repeat ((first | refine n1_ fun b_ => ?_ | refine n2_ fun b_ => ?_ | refine Nat1.mk fun q_ hq_ => ?_ | refine em_ fun x_ hx_ => ?_ | refine Elem1.mk fun e_ he_ => ?_); refine g0_ ?_))
          first
            | (exfalso; omega)
            | (refine frz_tup2 ?_ (.refl _)
               rw [hPG]
               exact frz_grid (by rw [← hoE]; repeat (first | exact .here _ _ _ | apply Look.there)) (by omega))
        · obtain ⟨row, hr⟩ : ∃ r, L[i]? = some r := ⟨L[i]'(by omega), List.getElem?_eq_getElem _⟩
          have hrm := List.mem_of_getElem? hr
          have hrl := hLr row hrm
          have hgr : g.rows[Y + i]? = some row := by
            have := hr
            rw [hLd, List.getElem?_drop] at this
            exact this
          have hgr2 := hgr
          rw [f.rows, rowsOf_get w h g.cs (Y + i) (by omega)] at hgr2
          have hgr3 := Option.some.inj hgr2
          have hyw : (Y + i + 1) * w ≤ h * w := Nat.mul_le_mul_right w (by omega)
          rw [Nat.mul_comm h w, ← f.len] at hyw
          have hol := congrArg List.length ho
          have hfl := flat_len A ((L.take i).map (partRow X A)) (fun r hr => by
            obtain ⟨q, hq, rfl⟩ := List.mem_map.1 hr
            exact hpr q (List.mem_of_mem_take hq))
          rw [List.length_map, List.length_take, Nat.min_eq_left (by omega)] at hfl
          have hsmall : i * A ≤ 60 * 120 := Nat.mul_le_mul (by omega) (by omega)
          simp only [List.length_map, List.length_cons, List.length_nil] at hol
          (refine g0_ ?_; repeat ((first | refine n1_ fun b_ => ?_ | refine n2_ fun b_ => ?_ | refine Nat1.mk fun q_ hq_ => ?_ | refine em_ fun x_ hx_ => ?_ | refine Elem1.mk fun e_ he_ => ?_); refine g0_ ?_))
          refine Draws.head ⟨14, by decide +kernel, ?_⟩; (refine g0_ ?_; repeat ((first | refine n1_ fun b_ => ?_ | refine n2_ fun b_ => ?_ | refine Nat1.mk fun q_ hq_ => ?_ | refine em_ fun x_ hx_ => ?_ | refine Elem1.mk fun e_ he_ => ?_); refine g0_ ?_))
          rw [show ((Y : Int) + i) = ((Y + i : Nat) : Int) by push_cast; rfl]
          refine ⟨_, row_ok W w (Y + i) h g.cs hyw (by omega) (by omega) (by omega), ?_⟩; (refine g0_ ?_; repeat ((first | refine n1_ fun b_ => ?_ | refine n2_ fun b_ => ?_ | refine Nat1.mk fun q_ hq_ => ?_ | refine em_ fun x_ hx_ => ?_ | refine Elem1.mk fun e_ he_ => ?_); refine g0_ ?_))
          rw [hgr3]
          have hsg : (row.take (X + A)).drop X = (row.drop X).take A := by rw [List.drop_take]; congr 1; omega
          have hsl : ((row.drop X).take A).length = A := by rw [List.length_take, List.length_drop]; omega
          obtain ⟨seg, hseg⟩ : ∃ seg, seg = (row.drop X).take A := ⟨_, rfl⟩
          have hpq : (partRow X A row).length = A := hpr row hrm
          have hca := cells_all (partRow X A row)
          rw [← hseg] at hsg hsl
          have hpe : partRow X A row = mendL seg := by rw [partRow, hseg]
          (refine g0_ ?_; repeat ((first | refine n1_ fun b_ => ?_ | refine n2_ fun b_ => ?_ | refine Nat1.mk fun q_ hq_ => ?_ | refine em_ fun x_ hx_ => ?_ | refine Elem1.mk fun e_ he_ => ?_); refine g0_ ?_))
          first | rw [hsg] | rw [← List.map_take, ← List.map_drop, hsg]
          refine ACalls.giveE (cloneG_cells W seg (by rintro rfl; simp at hsl; omega) (by omega)) ?_
          rintro b' -
          (refine g0_ ?_; repeat ((first | refine n1_ fun b_ => ?_ | refine n2_ fun b_ => ?_ | refine Nat1.mk fun q_ hq_ => ?_ | refine em_ fun x_ hx_ => ?_ | refine Elem1.mk fun e_ he_ => ?_); refine g0_ ?_))
          have hmk := mend_ok W b' [] seg [] (by omega)
          rw [List.nil_append, List.append_nil, List.nil_append, List.append_nil, ← hpe] at hmk
          rw [List.length_map]
          dsimp only
          refine ACalls.lend1 hmk (by repeat (first | exact .here _ _ _ | apply Look.there)) ?_
          rintro _ -
          have hp1 : ∃ c r', partRow X A row = c :: r' := by cases hq : partRow X A row with | nil => (rw [hq] at hpq; simp at hpq; omega) | cons c r' => exact ⟨_, _, rfl⟩
          obtain ⟨c, r', hcr⟩ := hp1
          rw [hcr] at hca ⊢
          have hrl2 : ((c :: r').map encCell).length = A := by rw [← hcr, List.length_map]; exact hpq
          have hrl3 : r'.length + 1 = A := by simpa using hrl2
          have htk : List.take seg.length (List.drop 0 (List.map encCell (c :: r'))) = List.map encCell (c :: r') := by rw [List.drop_zero, hsl, ← hrl2, List.take_length]
          (refine g0_ ?_; repeat ((first | refine n1_ fun b_ => ?_ | refine n2_ fun b_ => ?_ | refine Nat1.mk fun q_ hq_ => ?_ | refine em_ fun x_ hx_ => ?_ | refine Elem1.mk fun e_ he_ => ?_); refine g0_ ?_))
          rw [htk]
          (refine g0_ ?_; repeat ((first | refine n1_ fun b_ => ?_ | refine n2_ fun b_ => ?_ | refine Nat1.mk fun q_ hq_ => ?_ | refine em_ fun x_ hx_ => ?_ | refine Elem1.mk fun e_ he_ => ?_); refine g0_ ?_))
          (try rw [show o.length + 1 + ((c :: r').map encCell).length = (o ++ (c :: r').map encCell).length + 1 by simp; omega])
          refine nx_ (i + 1, b_, [] ++ (c :: r').map encCell) ?_ ?_
          · exact ⟨by omega, by rw [take_snoc_of hr, List.map_append, List.flatten_append, List.map_append, ← ho]; simp [hcr]⟩
          · ((try dsimp only); (try simp only [List.length_drop, List.length_take, List.length_append, List.length_cons, List.length_nil, List.length_map] at *); omega)
      · (refine g0_ ?_; repeat ((first | refine n1_ fun b_ => ?_ | refine n2_ fun b_ => ?_ | refine Nat1.mk fun q_ hq_ => ?_ | refine em_ fun x_ hx_ => ?_ | refine Elem1.mk fun e_ he_ => ?_); refine g0_ ?_))
        refine brec ?_; intro c_ h3; (try rw [h3]); cases c_ <;> replace h3 := nm_ h3
        · have : i = B := by omega
          subst this
          have hoE : (p :: o) = ((L.take i).map (partRow X A)).flatten.map encCell := by rw [ho]
          have hol := congrArg List.length ho
          have hfl := flat_len A ((L.take i).map (partRow X A)) (fun r hr => by
            obtain ⟨q, hq, rfl⟩ := List.mem_map.1 hr
            exact hpr q (List.mem_of_mem_take hq))
          rw [List.length_map, List.length_take, Nat.min_eq_left (by omega)] at hfl
          have h11 : 1 * 1 ≤ i * A := Nat.mul_le_mul hB1 hA1
          simp only [List.length_map, List.length_cons, List.length_nil] at hol
          (refine g0_ ?_; repeat ((first | refine n1_ fun b_ => ?_ | refine n2_ fun b_ => ?_ | refine Nat1.mk fun q_ hq_ => ?_ | refine em_ fun x_ hx_ => ?_ | refine Elem1.mk fun e_ he_ => ?_); refine g0_ ?_))
          first
            | (exfalso; omega)
            | (refine frz_tup2 ?_ (.refl _)
               rw [hPG]
               exact frz_grid (by rw [← hoE]; repeat (first | exact .here _ _ _ | apply Look.there)) (by omega))
        · obtain ⟨row, hr⟩ : ∃ r, L[i]? = some r := ⟨L[i]'(by omega), List.getElem?_eq_getElem _⟩
          have hrm := List.mem_of_getElem? hr
          have hrl := hLr row hrm
          have hgr : g.rows[Y + i]? = some row := by
            have := hr
            rw [hLd, List.getElem?_drop] at this
            exact this
          have hgr2 := hgr
          rw [f.rows, rowsOf_get w h g.cs (Y + i) (by omega)] at hgr2
          have hgr3 := Option.some.inj hgr2
          have hyw : (Y + i + 1) * w ≤ h * w := Nat.mul_le_mul_right w (by omega)
          rw [Nat.mul_comm h w, ← f.len] at hyw
          have hol := congrArg List.length ho
          have hfl := flat_len A ((L.take i).map (partRow X A)) (fun r hr => by
            obtain ⟨q, hq, rfl⟩ := List.mem_map.1 hr
            exact hpr q (List.mem_of_mem_take hq))
          rw [List.length_map, List.length_take, Nat.min_eq_left (by omega)] at hfl
          have hsmall : i * A ≤ 60 * 120 := Nat.mul_le_mul (by omega) (by omega)
          simp only [List.length_map, List.length_cons, List.length_nil] at hol
          (refine g0_ ?_; repeat ((first | refine n1_ fun b_ => ?_ | refine n2_ fun b_ => ?_ | refine Nat1.mk fun q_ hq_ => ?_ | refine em_ fun x_ hx_ => ?_ | refine Elem1.mk fun e_ he_ => ?_); refine g0_ ?_))
          refine Draws.head ⟨14, by decide +kernel, ?_⟩; (refine g0_ ?_; repeat ((first | refine n1_ fun b_ => ?_ | refine n2_ fun b_ => ?_ | refine Nat1.mk fun q_ hq_ => ?_ | refine em_ fun x_ hx_ => ?_ | refine Elem1.mk fun e_ he_ => ?_); refine g0_ ?_))
          rw [show ((Y : Int) + i) = ((Y + i : Nat) : Int) by push_cast; rfl]
          refine ⟨_, row_ok W w (Y + i) h g.cs hyw (by omega) (by omega) (by omega), ?_⟩; (refine g0_ ?_; repeat ((first | refine n1_ fun b_ => ?_ | refine n2_ fun b_ => ?_ | refine Nat1.mk fun q_ hq_ => ?_ | refine em_ fun x_ hx_ => ?_ | refine Elem1.mk fun e_ he_ => ?_); refine g0_ ?_))
          rw [hgr3]
          have hsg : (row.take (X + A)).drop X = (row.drop X).take A := by rw [List.drop_take]; congr 1; omega
          have hsl : ((row.drop X).take A).length = A := by rw [List.length_take, List.length_drop]; omega
          obtain ⟨seg, hseg⟩ : ∃ seg, seg = (row.drop X).take A := ⟨_, rfl⟩
          have hpq : (partRow X A row).length = A := hpr row hrm
          have hca := cells_all (partRow X A row)
          rw [← hseg] at hsg hsl
          have hpe : partRow X A row = mendL seg := by rw [partRow, hseg]
          (refine g0_ ?_; repeat ((first | refine n1_ fun b_ => ?_ | refine n2_ fun b_ => ?_ | refine Nat1.mk fun q_ hq_ => ?_ | refine em_ fun x_ hx_ => ?_ | refine Elem1.mk fun e_ he_ => ?_); refine g0_ ?_))
          first | rw [hsg] | rw [← List.map_take, ← List.map_drop, hsg]
          refine ACalls.giveE (cloneG_cells W seg (by rintro rfl; simp at hsl; omega) (by omega)) ?_
          rintro b' -
          (refine g0_ ?_; repeat ((first | refine n1_ fun b_ => ?_ | refine n2_ fun b_ => ?_ | refine Nat1.mk fun q_ hq_ => ?_ | refine em_ fun x_ hx_ => ?_ | refine Elem1.mk fun e_ he_ => ?_); refine g0_ ?_))
          have hmk := mend_ok W b' [] seg [] (by omega)
          rw [List.nil_append, List.append_nil, List.nil_append, List.append_nil, ← hpe] at hmk
          rw [List.length_map]
          dsimp only
          refine ACalls.lend1 hmk (by repeat (first | exact .here _ _ _ | apply Look.there)) ?_
          rintro _ -
          have hp1 : ∃ c r', partRow X A row = c :: r' := by cases hq : partRow X A row with | nil => (rw [hq] at hpq; simp at hpq; omega) | cons c r' => exact ⟨_, _, rfl⟩
          obtain ⟨c, r', hcr⟩ := hp1
          rw [hcr] at hca ⊢
          have hrl2 : ((c :: r').map encCell).length = A := by rw [← hcr, List.length_map]; exact hpq
          have hrl3 : r'.length + 1 = A := by simpa using hrl2
          have htk : List.take seg.length (List.drop 0 (List.map encCell (c :: r'))) = List.map encCell (c :: r') := by rw [List.drop_zero, hsl, ← hrl2, List.take_length]
          (refine g0_ ?_; repeat ((first | refine n1_ fun b_ => ?_ | refine n2_ fun b_ => ?_ | refine Nat1.mk fun q_ hq_ => ?_ | refine em_ fun x_ hx_ => ?_ | refine Elem1.mk fun e_ he_ => ?_); refine g0_ ?_))
          rw [htk]
          (refine g0_ ?_; repeat ((first | refine n1_ fun b_ => ?_ | refine n2_ fun b_ => ?_ | refine Nat1.mk fun q_ hq_ => ?_ | refine em_ fun x_ hx_ => ?_ | refine Elem1.mk fun e_ he_ => ?_); refine g0_ ?_))
          (try rw [show o.length + 1 + ((c :: r').map encCell).length = (o ++ (c :: r').map encCell).length + 1 by simp; omega])
          refine nx_ (i + 1, b_, (p :: o) ++ (c :: r').map encCell) ?_ ?_
          · exact ⟨by omega, by rw [take_snoc_of hr, List.map_append, List.flatten_append, List.map_append, ← ho]; simp [hcr]⟩
          · ((try dsimp only); (try simp only [List.length_drop, List.length_take, List.length_append, List.length_cons, List.length_nil, List.length_map] at *); omega)
    · have hE : partE g ⟨rx, ry, rw_, rh⟩ = (.none, 4) := by rw [partE, if_neg (by simpa using h1), if_neg h2]
      unfold inG at h2
      dsimp only at h2
      rw [hE, encRect]
      dsimp only
      refine Pure.of (acalls_of_vc (drawOk W) Tryd.func43 rfl (by decide) (by decide) rfl ?_)
      (refine g0_ ?_; repeat ((first | refine n1_ fun b_ => ?_ | refine n2_ fun b_ => ?_ | refine Nat1.mk fun q_ hq_ => ?_ | refine em_ fun x_ hx_ => ?_ | refine Elem1.mk fun e_ he_ => ?_); refine g0_ ?_))
      refine (check_ok W g hg).use ?_; (refine g0_ ?_; repeat ((first | refine n1_ fun b_ => ?_ | refine n2_ fun b_ => ?_ | refine Nat1.mk fun q_ hq_ => ?_ | refine em_ fun x_ hx_ => ?_ | refine Elem1.mk fun e_ he_ => ?_); refine g0_ ?_))
      rw [h1, hgw, hgh]
      by_cases h3 : rx < 0 ∨ ry < 0 ∨ rw_ < 1 ∨ rh < 1 ∨ (w : Int) ≤ rx ∨ (h : Int) ≤ ry
      · (refine g0_ ?_; repeat ((first | refine n1_ fun b_ => ?_ | refine n2_ fun b_ => ?_ | refine Nat1.mk fun q_ hq_ => ?_ | refine em_ fun x_ hx_ => ?_ | refine Elem1.mk fun e_ he_ => ?_); refine g0_ ?_))
        (refine g1_ ?_; repeat ((first | refine n1_ fun b_ => ?_ | refine n2_ fun b_ => ?_ | refine Nat1.mk fun q_ hq_ => ?_ | refine em_ fun x_ hx_ => ?_ | refine Elem1.mk fun e_ he_ => ?_); refine g1_ ?_))
        exact frz_tup2 frz_none (.refl _)
      · (refine g0_ ?_; repeat ((first | refine n1_ fun b_ => ?_ | refine n2_ fun b_ => ?_ | refine Nat1.mk fun q_ hq_ => ?_ | refine em_ fun x_ hx_ => ?_ | refine Elem1.mk fun e_ he_ => ?_); refine g0_ ?_))
        (refine g1_ ?_; repeat ((first | refine n1_ fun b_ => ?_ | refine n2_ fun b_ => ?_ | refine Nat1.mk fun q_ hq_ => ?_ | refine em_ fun x_ hx_ => ?_ | refine Elem1.mk fun e_ he_ => ?_); refine g1_ ?_))
        exact frz_tup2 frz_none (.refl _)
  · have hE : partE g ⟨rx, ry, rw_, rh⟩ = (.none, checkG g) := by rw [partE, if_pos h1]
    rw [hE]
    refine Pure.of (acalls_of_vc (drawOk W) Tryd.func43 rfl (by decide) (by decide) rfl ?_)
    (refine g0_ ?_; repeat ((first | refine n1_ fun b_ => ?_ | refine n2_ fun b_ => ?_ | refine Nat1.mk fun q_ hq_ => ?_ | refine em_ fun x_ hx_ => ?_ | refine Elem1.mk fun e_ he_ => ?_); refine g0_ ?_))
    refine (check_ok W g hg).use ?_; (refine g0_ ?_; repeat ((first | refine n1_ fun b_ => ?_ | refine n2_ fun b_ => ?_ | refine Nat1.mk fun q_ hq_ => ?_ | refine em_ fun x_ hx_ => ?_ | refine Elem1.mk fun e_ he_ => ?_); refine g0_ ?_))
    (refine g1_ ?_; repeat ((first | refine n1_ fun b_ => ?_ | refine n2_ fun b_ => ?_ | refine Nat1.mk fun q_ hq_ => ?_ | refine em_ fun x_ hx_ => ?_ | refine Elem1.mk fun e_ he_ => ?_); refine g1_ ?_))
    exact frz_tup2 frz_none (.refl _)
end Go.Eng.YtlfdmdhkbillpaaDoor
end
