/- Texts put together: Scr7, Scr9, Scr8, Scr10. -/
import Derived.Test.YtphoefglfbifdaaDoorMW1
import Derived.Test.YtphoefglfbifdaaDoorME7
import Derived.Test.YtphoefglfbifdaaDoorMG2
/- Screens: package put's New. -/
section
namespace Go.Eng.YtphoefglfbifdaaDoor
open Go Go.Eng Go.Proofs
variable (W : World)
set_option linter.unusedSimpArgs false
set_option maxRecDepth 100000
set_option linter.unusedVariables false
set_option maxHeartbeats 8000000
def tabsN (w : Nat) (i : Nat) : List Bool := (List.range w).map fun x => decide (0 < x ∧ x % 8 = 0 ∧ x < i)
def newS (w h : Nat) : Scr := ⟨newG w h, 0, 0, false, ⟨0, 0, 0⟩, 0, (h : Int) - 1, 4, tabsN w w, 0, 0, ⟨0, 0, 0⟩, 4, 0, [], []⟩
def newSE (w h : Int) : Scr × Int := if sizeB w h = true then (newS w.toNat h.toNat, 0) else (Scr.none, 3)
theorem tabs_len (w i : Nat) : (tabsN w i).length = w := by simp [tabsN]
theorem tabs_zero (w : Nat) : tabsN w 8 = List.replicate w false := by
  refine List.ext_getElem? fun k => ?_
  rw [tabsN, List.getElem?_map, List.getElem?_replicate]
  by_cases h : k < w
  · rw [List.getElem?_range h, if_pos h, Option.map_some]
    congr 1
    rw [decide_eq_false_iff_not]; omega
  · rw [List.getElem?_eq_none (by simp; omega), if_neg h]; rfl
theorem tabs_set (w i : Nat) (h8 : i % 8 = 0) (hi : 0 < i) (hw : i < w) : (tabsN w i).set i true = tabsN w (i + 8) := by
  refine List.ext_getElem? fun k => ?_
  rw [List.getElem?_set]
  by_cases h : k < w
  · rw [tabsN, tabsN, List.getElem?_map, List.getElem?_map, List.getElem?_range h, Option.map_some, Option.map_some]
    by_cases e : i = k
    · subst e
      rw [if_pos rfl, if_pos (by simp; exact hw)]
      congr 1
      symm
      rw [decide_eq_true_eq]; omega
    · rw [if_neg e]
      congr 1
      rw [decide_eq_decide]
      omega
  · rw [if_neg (by omega), List.getElem?_eq_none (by rw [tabs_len]; omega), List.getElem?_eq_none (by rw [tabs_len]; omega)]
theorem tabs_all (w i : Nat) (h : w ≤ i) : tabsN w i = tabsN w w := by
  rw [tabsN, tabsN]
  refine List.map_congr_left fun x hx => ?_
  have := List.mem_range.1 hx
  rw [decide_eq_decide]
  omega
theorem zero_bool : zeroV Tryd.prog 4 = PV.bool false := by kernel_rfl
inductive FrzL (σ : Mem) : List PV → List PV → Prop
  | nil : FrzL σ [] []
  | cons {a b : PV} {xs ys : List PV} (h : Frz σ a b) (t : FrzL σ xs ys) : FrzL σ (a :: xs) (b :: ys)
theorem FrzL.spec {σ : Mem} {xs ys : List PV} (h : FrzL σ xs ys) : xs.length = ys.length ∧ ∀ j, j < xs.length → Frz σ (xs.getD j .dead) (ys.getD j .dead) := by
  induction h with
  | nil => exact ⟨rfl, fun j hj => absurd hj (Nat.not_lt_zero _)⟩
  | cons h t ih =>
    refine ⟨by rw [List.length_cons, List.length_cons, ih.1], fun j hj => ?_⟩
    cases j with
    | zero => exact h
    | succ j => exact ih.2 j (by simpa using hj)
theorem FrzL.agg {σ : Mem} {xs ys : List PV} (h : FrzL σ xs ys) : Frz σ (.agg xs) (.agg ys) := .agg _ _ h.spec.1 h.spec.2
/-- A screen that is written no more. -/
theorem frz_scr {σ : Mem} {c c' t t' g g' : PV} {s : Scr} (hc : Frz σ c c') (ht : Frz σ t t') (hg : Frz σ g g') : Frz σ (.agg (scrA c t g s)) (.agg (scrA c' t' g' s)) := by
  refine FrzL.agg ?_
  unfold scrA
  refine .cons (.refl _) (.cons (.refl _) (.cons hc ?_))
  iterate 9 refine .cons (.refl _) ?_
  refine .cons ht ?_
  iterate 8 refine .cons (.refl _) ?_
  exact .cons hg .nil
theorem allocScr {o : Oper} (h1 : o.guard = none) (h2 : o.op = .alloc 32) : Grows Tryd.prog W o (fun b => .bref b 0) (fun b => .row 22 [.agg (scrA .nils .nils .nils Scr.none)] 0) :=
  ⟨h1, fun env σ k hk => by
    rw [h2]
    simp only [opV]
    refine wh ?_
    exact ⟨fun b _ => hk b⟩⟩
theorem putNew_ok (w0 h0 : Int) : Pure Tryd.prog W 27 [.int .i64 w0, .int .i64 h0] (.tup [encScr (newSE w0 h0).1, .int .i64 (newSE w0 h0).2]) := by
  refine Pure.of (acalls_of_vc (DI_ok (by decide)) Tryd.func27 rfl (by decide) (by decide) rfl ?_)
  have hne := new_ok W w0 h0
  rw [newE] at hne
  by_cases hs : sizeB w0 h0 = true
  · rw [if_pos hs] at hne
    dsimp only at hne
    rw [show newG w0 h0 = ⟨w0, h0, (newG w0 h0).cs⟩ from rfl] at hne
    rw [newSE, if_pos hs]
    have hs' := hs
    simp only [sizeB, Bool.and_eq_true, decide_eq_true_eq] at hs'
    obtain ⟨w, rfl⟩ := Int.eq_ofNat_of_zero_le (show 0 ≤ w0 by omega)
    obtain ⟨h, rfl⟩ := Int.eq_ofNat_of_zero_le (show 0 ≤ h0 by omega)
    (refine g0_ ?_; repeat ((first | refine n1_ fun b_ => ?_ | refine n2_ fun b_ => ?_ | refine n3_ fun b_ pre_ => ?_ | refine Nat1.mk fun q_ hq_ => ?_ | refine em_ fun x_ hx_ => ?_ | refine Elem1.mk fun e_ he_ => ?_); refine g0_ ?_))
    refine (hne).use ?_; (refine g0_ ?_; repeat ((first | refine n1_ fun b_ => ?_ | refine n2_ fun b_ => ?_ | refine n3_ fun b_ pre_ => ?_ | refine Nat1.mk fun q_ hq_ => ?_ | refine em_ fun x_ hx_ => ?_ | refine Elem1.mk fun e_ he_ => ?_); refine g0_ ?_))
    (refine g1_ ?_; repeat ((first | refine n1_ fun b_ => ?_ | refine n2_ fun b_ => ?_ | refine n3_ fun b_ pre_ => ?_ | refine Nat1.mk fun q_ hq_ => ?_ | refine em_ fun x_ hx_ => ?_ | refine Elem1.mk fun e_ he_ => ?_); refine g1_ ?_))
    refine Draws7.gap ⟨4, 6, _, _, _, _, by decide +kernel, rfl, rfl, allocScr W rfl rfl, ?_⟩
    (refine g0_ ?_; repeat ((first | refine n1_ fun b_ => ?_ | refine n2_ fun b_ => ?_ | refine n3_ fun b_ pre_ => ?_ | refine Nat1.mk fun q_ hq_ => ?_ | refine em_ fun x_ hx_ => ?_ | refine Elem1.mk fun e_ he_ => ?_); refine g0_ ?_))
    refine ⟨_, _, grows_make (n := w) rfl rfl Tryd.underlying27 (by kernel_rfl) rfl rfl (by rw [show Tryd.prog.bytesOf 4 = 1 by kernel_rfl]; omega) (by omega), ?_⟩
    intro bt
    (refine g0_ ?_; repeat ((first | refine n1_ fun b_ => ?_ | refine n2_ fun b_ => ?_ | refine n3_ fun b_ pre_ => ?_ | refine Nat1.mk fun q_ hq_ => ?_ | refine em_ fun x_ hx_ => ?_ | refine Elem1.mk fun e_ he_ => ?_); refine g0_ ?_))
    intro bs
    (refine g0_ ?_; repeat ((first | refine n1_ fun b_ => ?_ | refine n2_ fun b_ => ?_ | refine n3_ fun b_ pre_ => ?_ | refine Nat1.mk fun q_ hq_ => ?_ | refine em_ fun x_ hx_ => ?_ | refine Elem1.mk fun e_ he_ => ?_); refine g0_ ?_))
    rename_i b1
    rw [show List.replicate w (zeroV Tryd.prog 4) = (tabsN w 8).map PV.bool by rw [zero_bool, tabs_zero, List.map_replicate]]
    refine' loopI (α := Nat) (fun i => [(9, .int .i64 i)]) [(0, _), (4, _), (8, _)] (fun i => [⟨bs, .row 22 [.agg [.int .i64 w, .int .i64 h, .sl 4 ((newG w h).cs.map encCell), .int .i64 0, .int .i64 0, .bool false, .int .i64 0, .int .i64 0, .int .i64 0, .int .i64 0, .int .i64 ((h : Int) - 1), .int .i64 4, .rsl bt 1 0 w, .int .i64 0, .int .i64 0, .int .i64 0, .int .i64 0, .int .i64 0, .int .i64 0, .int .i32 0, .str [], .nils]] 0⟩, ⟨bt, .row 1 ((tabsN w i).map PV.bool) 0⟩, ⟨b_, .row 3 [.agg [.int .i64 w, .int .i64 h, .sl 4 ((newG w h).cs.map encCell)]] 0⟩, ⟨b1, .row 22 [.agg (scrA .nils .nils .nils Scr.none)] 0⟩]) (fun i => i % 8 = 0 ∧ 0 < i ∧ i ≤ 200) (fun i => 300 - i) 8 ?_ ?_
    · exact ⟨rfl, by omega, by omega⟩
    rintro i ⟨hi8, hi0, hi2⟩
    (refine g0_ ?_; repeat ((first | refine n1_ fun b_ => ?_ | refine n2_ fun b_ => ?_ | refine n3_ fun b_ pre_ => ?_ | refine Nat1.mk fun q_ hq_ => ?_ | refine em_ fun x_ hx_ => ?_ | refine Elem1.mk fun e_ he_ => ?_); refine g0_ ?_))
    refine brec ?_; intro c_ h1; (try rw [h1]); cases c_ <;> replace h1 := nm_ h1
    · (refine g0_ ?_; repeat ((first | refine n1_ fun b_ => ?_ | refine n2_ fun b_ => ?_ | refine n3_ fun b_ pre_ => ?_ | refine Nat1.mk fun q_ hq_ => ?_ | refine em_ fun x_ hx_ => ?_ | refine Elem1.mk fun e_ he_ => ?_); refine g0_ ?_))
      rw [tabs_all w i (by omega)]
      refine frz_tup2 ?_ (.refl _)
      exact frz_scr (s := newS w h) (.refl _) (frz_row (r := _) (by repeat (first | exact .here _ _ _ | apply Look.there)) w (by rw [List.length_map]; exact (tabs_len w w).symm)) (.nils _)
    · have htl : ((tabsN w i).map PV.bool).length = w := by rw [List.length_map, tabs_len]
      obtain ⟨d, hd⟩ : ∃ d, (tabsN w i)[i]? = some d := ⟨_, List.getElem?_eq_getElem (by rw [tabs_len]; omega)⟩
      (refine g0_ ?_; repeat ((first | refine n1_ fun b_ => ?_ | refine n2_ fun b_ => ?_ | refine n3_ fun b_ pre_ => ?_ | refine Nat1.mk fun q_ hq_ => ?_ | refine em_ fun x_ hx_ => ?_ | refine Elem1.mk fun e_ he_ => ?_); refine g0_ ?_))
      rw [show ((tabsN w i).map PV.bool).set (0 + i) (PV.bool true) = (tabsN w (i + 8)).map PV.bool by rw [Nat.zero_add, ← tabs_set w i hi8 hi0 (by omega), List.map_set]]
      refine nx_ (i + 8) ?_ ?_
      · exact ⟨by omega, by omega, by omega⟩
      · omega
  · rw [if_neg hs] at hne
    rw [newSE, if_neg hs]
    (refine g0_ ?_; repeat ((first | refine n1_ fun b_ => ?_ | refine n2_ fun b_ => ?_ | refine n3_ fun b_ pre_ => ?_ | refine Nat1.mk fun q_ hq_ => ?_ | refine em_ fun x_ hx_ => ?_ | refine Elem1.mk fun e_ he_ => ?_); refine g0_ ?_))
    refine (hne).use ?_; (refine g0_ ?_; repeat ((first | refine n1_ fun b_ => ?_ | refine n2_ fun b_ => ?_ | refine n3_ fun b_ pre_ => ?_ | refine Nat1.mk fun q_ hq_ => ?_ | refine em_ fun x_ hx_ => ?_ | refine Elem1.mk fun e_ he_ => ?_); refine g0_ ?_))
    (refine g1_ ?_; repeat ((first | refine n1_ fun b_ => ?_ | refine n2_ fun b_ => ?_ | refine n3_ fun b_ pre_ => ?_ | refine Nat1.mk fun q_ hq_ => ?_ | refine em_ fun x_ hx_ => ?_ | refine Elem1.mk fun e_ he_ => ?_); refine g1_ ?_))
    exact frz_tup2 (frz_scr (s := Scr.none) (.nils _) (.nils _) (.nils _)) (.refl _)
end Go.Eng.YtphoefglfbifdaaDoor
end

/- Screens: package put's Change, of whatever is done. -/
section
namespace Go.Eng
open Go
theorem Frz.cons {σ : Mem} (k : Blk) {p q : PV} (h : Frz σ p q) : Frz (k :: σ) p q := by
  induction h with
  | refl p => exact .refl p
  | nils sz => exact .nils sz
  | rsl b sz i n es es' fz r hl hi hn _ ih => exact .rsl b sz i n es es' fz (k :: r) (.there _ _ _ _ _ hl) hi hn ih
  | agg cs cs' hl _ ih => exact .agg cs cs' hl ih
  | tup cs cs' hl _ ih => exact .tup cs cs' hl ih
  | bref b f sz e fz r hl => exact .bref b f sz e fz (k :: r) (.there _ _ _ _ _ hl)
end Go.Eng
namespace Go.Eng.YtphoefglfbifdaaDoor
open Go Go.Eng Go.Proofs
variable (W : World)
set_option linter.unusedSimpArgs false
set_option maxRecDepth 100000
set_option linter.unusedVariables false
set_option maxHeartbeats 8000000
structure Scr.right (s : Scr) (w h : Nat) : Prop where
  fit : s.g.fit w h
  x : 0 ≤ s.x ∧ s.x < w
  y : 0 ≤ s.y ∧ s.y < h
  top : 0 ≤ s.top ∧ s.top ≤ s.bottom ∧ s.bottom < h
  tabs : s.tabs.length = w
  gone : s.gone.length ≤ 50
  rows : ∀ r ∈ s.gone, 1 ≤ r.length ∧ r.length ≤ 120
theorem right_of {s : Scr} (hc : checkS s = 0) : ∃ w h, s.right w h := by
  rw [checkS] at hc
  by_cases c1 : checkG s.g ≠ 0
  · rw [if_pos c1] at hc; exact absurd hc c1
  rw [if_neg c1] at hc
  split at hc
  · cases hc
  rename_i c2
  split at hc
  · cases hc
  rename_i c3
  split at hc
  · cases hc
  rename_i c4
  split at hc
  · cases hc
  rename_i c5
  split at hc
  · cases hc
  rename_i c6
  split at hc
  · cases hc
  rename_i c7
  split at hc
  · rename_i c8
    obtain ⟨w, h, f⟩ := fit_of (g := s.g) (Decidable.not_not.1 c1)
    have e1 := f.ew
    have e2 := f.eh
    refine ⟨w, h, f, by omega, by omega, by omega, by omega, by omega, fun r hr => ?_⟩
    have := List.all_eq_true.1 c8 r hr
    have h0 : checkG (rowG r) = 0 := by simpa using this
    obtain ⟨w', h', f'⟩ := fit_of h0
    have h1 : ((r.length : Nat) : Int) = w' := f'.ew
    have := f'.w1
    have := f'.w2
    omega
  · cases hc
theorem change_bad (hT : Tabs W) (s : Scr) (hok : s.ok) (hb : checkS s ≠ 0) (g : Nat) (cap : List PV) : Pure Tryd.prog W 23 [encScr s, .fn g cap] (.tup [encScr Scr.none, .int .i64 (checkS s)]) := by
  have hck := checkScr_ok W hT s hok
  generalize checkS s = E at *
  obtain ⟨⟨gw, gh, cs⟩, x, y, late, ⟨f, b, bi⟩, top, bottom, modes, tabs, kx, ky, ⟨f2, b2, bi2⟩, km, last, title, gone⟩ := s
  refine Pure.of (acalls_of_vc (drawOk W) Tryd.func23 rfl (by decide) (by decide) rfl ?_)
  (refine g0_ ?_; repeat ((first | refine n1_ fun b_ => ?_ | refine n2_ fun b_ => ?_); refine g0_ ?_))
  refine (hck).use ?_; (refine g0_ ?_; repeat ((first | refine n1_ fun b_ => ?_ | refine n2_ fun b_ => ?_); refine g0_ ?_))
  (refine g1_ ?_; repeat ((first | refine n1_ fun b_ => ?_ | refine n2_ fun b_ => ?_); refine g1_ ?_))
  exact frz_tup2 (frz_scr (s := Scr.none) (.nils _) (.nils _) (.nils _)) (.refl _)
/-- What is done to a screen: it is another one then. -/
def Done (b : Nat) (s : Scr) (σ : Mem) : Prop := ∃ bc n1 bt n2 gv ρ, σ.Perm (⟨b, .row 22 [.agg (scrA (.rsl bc 4 0 n1) (.rsl bt 1 0 n2) gv s)] 0⟩ :: ρ) ∧ (gv = .nils ∨ ∃ bg i n, gv = .rsl bg 1 i n) ∧
  Frz ρ (.rsl bc 4 0 n1) (.sl 4 (s.g.cs.map encCell)) ∧ Frz ρ (.rsl bt 1 0 n2) (.sl 1 (s.tabs.map PV.bool)) ∧ Frz ρ gv (.sl 1 (s.gone.map encRow))
theorem change_ok (hT : Tabs W) (s : Scr) (hok : s.ok) (hb : checkS s = 0) (g : Nat) (cap : List PV) (τ : Mem) (s' : Scr)
    (hg : ∀ b bc bt bg, ACalls Tryd.prog W g (.bref b 0 :: cap) (scrM b bc bt bg [] s ++ τ) fun v σ' => v = .tup [] ∧ Done b s' σ') :
    ACalls Tryd.prog W 23 [encScr s, .fn g cap] τ fun v σ' => Frz σ' v (.tup [encScr s', .int .i64 0]) := by
  have hck := checkScr_ok W hT s hok
  rw [hb] at hck
  obtain ⟨w, h, hr⟩ := right_of hb
  have hcs : s.g.cs.length ≤ 7200 := by rw [hr.fit.len]; exact hr.fit.small
  have hne : s.g.cs ≠ [] := by
    intro h0
    have h1 := hr.fit.len
    rw [h0] at h1
    have : 1 * 1 ≤ w * h := Nat.mul_le_mul hr.fit.w1 hr.fit.h1
    simp at h1; omega
  have htl := hr.tabs
  have hw1 := hr.fit.w1
  have hw2 := hr.fit.w2
  have hcp := putCopy_ok W s hne hcs (by intro h0; rw [h0] at htl; simp at htl; omega) (by omega) hr.gone (fun r hr' => (hr.rows r hr').2)
  refine acalls_of_vc (drawOk W) Tryd.func23 rfl (by decide) (by decide) rfl ?_
  (refine g0_ ?_; repeat ((first | refine n1_ fun b_ => ?_ | refine n2_ fun b_ => ?_); refine g0_ ?_))
  refine (hck).use ?_; (refine g0_ ?_; repeat ((first | refine n1_ fun b_ => ?_ | refine n2_ fun b_ => ?_); refine g0_ ?_))
  (refine g1_ ?_; repeat ((first | refine n1_ fun b_ => ?_ | refine n2_ fun b_ => ?_); refine g1_ ?_))
  refine ACalls.give hcp ?_
  rintro ⟨bc, bt, bg⟩ -
  (refine g0_ ?_; repeat ((first | refine n1_ fun b_ => ?_ | refine n2_ fun b_ => ?_); refine g0_ ?_))
  rw [forceL_eq]
  refine callV_of ?_
  rename_i b1
  obtain ⟨z, hz⟩ : ∃ z : Blk, z = ⟨b_, .row 22 [.agg (scrA .nils .nils .nils Scr.none)] 0⟩ := ⟨_, rfl⟩
  refine ACalls.weak ((((hg b1 bc bt bg).frame [z]).perm ?_).mono ?_)
  · rw [List.append_assoc, hz]
    exact List.Perm.append_left (scrM b1 bc bt bg [] s) (List.perm_append_comm (l₁ := [_]) (l₂ := τ))
  rintro v σ' ⟨σ1, ⟨rfl, bc', n1, bt', n2, gv, ρ, hp, hgv, f1, f2, f3⟩, rfl⟩
  refine ⟨⟨b1, .row 22 [.agg (scrA (.rsl bc' 4 0 n1) (.rsl bt' 1 0 n2) gv s')] 0⟩ :: z :: ρ, ?_, [], ?_⟩
  · subst hz
    rcases hgv with rfl | ⟨bg', i, n, rfl⟩
    · (refine g0_ ?_; repeat ((first | refine n1_ fun b_ => ?_ | refine n2_ fun b_ => ?_); refine g0_ ?_))
      exact frz_tup2 (a' := encScr s') (frz_scr (s := s') (f1.cons _ |>.cons _) (f2.cons _ |>.cons _) (f3.cons _ |>.cons _)) (.refl _)
    · (refine g0_ ?_; repeat ((first | refine n1_ fun b_ => ?_ | refine n2_ fun b_ => ?_); refine g0_ ?_))
      exact frz_tup2 (a' := encScr s') (frz_scr (s := s') (f1.cons _ |>.cons _) (f2.cons _ |>.cons _) (f3.cons _ |>.cons _)) (.refl _)
  · rw [List.append_nil]
    exact (hp.append_right [z]).trans (List.Perm.cons _ (List.perm_append_comm (l₁ := ρ) (l₂ := [z])))
end Go.Eng.YtphoefglfbifdaaDoor
end

/- Screens of the call's own: what is printed, where no row goes up and nothing is put in between. -/
section
namespace Go.Eng.YtphoefglfbifdaaDoor
open Go Go.Eng Go.Proofs
variable (W : World)
set_option linter.unusedSimpArgs false
set_option maxRecDepth 100000
set_option linter.unusedVariables false
set_option maxHeartbeats 8000000
def feedY (s : Scr) : Scr := { s with late := false, y := if s.y < s.g.h - 1 then s.y + 1 else s.y }
theorem feed1_ok (b bc N : Nat) (tv gv : PV) (s : Scr) (hy : s.y ≠ s.bottom) (hok : i64ok s.y) (hh : 1 ≤ s.g.h ∧ s.g.h ≤ 60) : ACalls Tryd.prog W 49 [.bref b 0] [scrB b bc N tv gv s]
    (Gives (fun _ : Unit => .tup []) (fun _ => [scrB b bc N tv gv (feedY s)]) (fun _ => True)) := by
  unfold i64ok at hok
  obtain ⟨⟨gw, gh, cs⟩, X, Y, late, ⟨fo, ba, bi⟩, tp, bo, modes, tabs, kx, ky, ⟨f2, b2, bi2⟩, km, last, title, gone⟩ := s
  dsimp only at *
  rw [feedY]
  dsimp only
  rw [show scrB b bc N tv gv ⟨⟨gw, gh, cs⟩, X, Y, late, ⟨fo, ba, bi⟩, tp, bo, modes, tabs, kx, ky, ⟨f2, b2, bi2⟩, km, last, title, gone⟩ = ⟨b, .row 22 [.agg [.int .i64 gw, .int .i64 gh, .rsl bc 4 0 N, .int .i64 X, .int .i64 Y, .bool late, .int .i64 fo, .int .i64 ba, .int .i64 bi, .int .i64 tp, .int .i64 bo, .int .i64 modes, tv, .int .i64 kx, .int .i64 ky, .int .i64 f2, .int .i64 b2, .int .i64 bi2, .int .i64 km, .int .i32 last, .str title, gv]] 0⟩ from rfl]
  refine acalls_of_vc (drawOk W) Tryd.func49 rfl (by decide) (by decide) rfl ?_
  (refine g0_ ?_; repeat ((first | refine n1_ fun b_ => ?_ | refine n2_ fun b_ => ?_ | refine n3_ fun b_ pre_ => ?_ | refine Nat1.mk fun q_ hq_ => ?_ | refine em_ fun x_ hx_ => ?_ | refine Elem1.mk fun e_ he_ => ?_); refine g0_ ?_))
  refine head_ ?_; (refine g0_ ?_; repeat ((first | refine n1_ fun b_ => ?_ | refine n2_ fun b_ => ?_ | refine n3_ fun b_ pre_ => ?_ | refine Nat1.mk fun q_ hq_ => ?_ | refine em_ fun x_ hx_ => ?_ | refine Elem1.mk fun e_ he_ => ?_); refine g0_ ?_))
  (refine g1_ ?_; repeat ((first | refine n1_ fun b_ => ?_ | refine n2_ fun b_ => ?_ | refine n3_ fun b_ pre_ => ?_ | refine Nat1.mk fun q_ hq_ => ?_ | refine em_ fun x_ hx_ => ?_ | refine Elem1.mk fun e_ he_ => ?_); refine g1_ ?_))
  refine head_ ?_; (refine g0_ ?_; repeat ((first | refine n1_ fun b_ => ?_ | refine n2_ fun b_ => ?_ | refine n3_ fun b_ pre_ => ?_ | refine Nat1.mk fun q_ hq_ => ?_ | refine em_ fun x_ hx_ => ?_ | refine Elem1.mk fun e_ he_ => ?_); refine g0_ ?_))
  refine brec ?_; intro c_ h1; (try rw [h1]); cases c_ <;> replace h1 := nm_ h1
  · rw [if_neg (by omega)]
    (refine g0_ ?_; repeat ((first | refine n1_ fun b_ => ?_ | refine n2_ fun b_ => ?_ | refine n3_ fun b_ pre_ => ?_ | refine Nat1.mk fun q_ hq_ => ?_ | refine em_ fun x_ hx_ => ?_ | refine Elem1.mk fun e_ he_ => ?_); refine g0_ ?_))
    exact ⟨(), trivial, rfl, wkMem.rfl'⟩
  · rw [if_pos (by omega)]
    (refine g0_ ?_; repeat ((first | refine n1_ fun b_ => ?_ | refine n2_ fun b_ => ?_ | refine n3_ fun b_ pre_ => ?_ | refine Nat1.mk fun q_ hq_ => ?_ | refine em_ fun x_ hx_ => ?_ | refine Elem1.mk fun e_ he_ => ?_); refine g0_ ?_))
    exact ⟨(), trivial, rfl, wkMem.rfl'⟩
def wrapB (s : Scr) : Bool := decide ¬bitop .and .i64 s.modes 4 = 0
/-- Before a rune is put: is the row left? -/
def leaves (s : Scr) (w : Int) : Prop := s.late = true ∨ (s.g.w < s.x + w ∧ wrapB s = true)
instance (s : Scr) (w : Int) : Decidable (leaves s w) := by unfold leaves; exact inferInstance
def before (s : Scr) (w : Int) : Scr := if leaves s w then feedY { s with x := 0 } else s
/-- A rune is put into a row. -/
def putR (look : Style) (r : Int) (x : Nat) (row : List Cell) : List Cell := mendL (if widthL r = 2 then (row.set x ⟨r, look⟩).set (x + 1) ⟨0, look⟩ else row.set x ⟨r, look⟩)
def behind (s : Scr) (r : Int) : Scr := if s.x + widthL r < s.g.w then { s with x := s.x + widthL r, last := r } else { s with x := s.g.w - 1, late := wrapB s, last := r }
def printP (p : Scr × List (List Cell)) (r : Int) : Scr × List (List Cell) :=
  if widthL r = 0 ∨ p.1.g.w < widthL r then p
  else if (before p.1 (widthL r)).g.w < (before p.1 (widthL r)).x + widthL r then (before p.1 (widthL r), p.2)
  else (behind (before p.1 (widthL r)) r, p.2.set (before p.1 (widthL r)).y.toNat (putR p.1.look r (before p.1 (widthL r)).x.toNat (p.2.getD (before p.1 (widthL r)).y.toNat [])))
theorem print1_ok (b bc : Nat) (tv gv : PV) (s : Scr) {w h : Nat} {L : List (List Cell)} (f : RowsOk L w h) (hw : s.g.w = w) (hh : s.g.h = h) (r : Int) (hr : i32ok r) (hx : 0 ≤ s.x ∧ s.x < w) (hy : 0 ≤ s.y ∧ s.y < h)
    (hins : bitop .and .i64 s.modes 1 = 0) (hup : leaves s (widthL r) → s.y ≠ s.bottom) :
    ACalls Tryd.prog W 26 [.bref b 0, .int .i32 r] [scrB b bc (h * w) tv gv s, ⟨bc, .row 4 (L.flatten.map encCell) 0⟩]
      (Gives (fun _ : Unit => .tup []) (fun _ => [scrB b bc (h * w) tv gv (printP (s, L) r).1, ⟨bc, .row 4 ((printP (s, L) r).2.flatten.map encCell) 0⟩]) (fun _ => True)) := by
  have hww := widthL_le r
  have hfw := f.w1
  have hfw2 := f.w2
  have hfh := f.h1
  have hfh2 := f.h2
  have hfl := f.flat
  have hsm := f.small
  obtain ⟨s1, hs1⟩ : ∃ s1, s1 = before s (widthL r) := ⟨_, rfl⟩
  generalize hP : printP (s, L) r = P
  obtain ⟨Ps, PL⟩ := P
  rw [printP] at hP
  dsimp only at hP
  rw [← hs1] at hP
  by_cases h0 : widthL r = 0 ∨ s.g.w < widthL r
  · rw [if_pos h0] at hP
    cases hP
    refine acalls_of_vc (drawOk W) Tryd.func26 rfl (by decide) (by decide) rfl ?_
    (refine g0_ ?_; repeat ((first | refine n1_ fun b_ => ?_ | refine n2_ fun b_ => ?_ | refine n3_ fun b_ pre_ => ?_ | refine Nat1.mk fun q_ hq_ => ?_ | refine em_ fun x_ hx_ => ?_ | refine Elem1.mk fun e_ he_ => ?_); refine g0_ ?_))
    refine (width_ok W r).use ?_; (refine g0_ ?_; repeat ((first | refine n1_ fun b_ => ?_ | refine n2_ fun b_ => ?_ | refine n3_ fun b_ pre_ => ?_ | refine Nat1.mk fun q_ hq_ => ?_ | refine em_ fun x_ hx_ => ?_ | refine Elem1.mk fun e_ he_ => ?_); refine g0_ ?_))
    refine brec ?_; intro c_ h1; (try rw [h1]); cases c_ <;> replace h1 := nm_ h1
    · exact absurd h0 (by omega)
    · (refine g0_ ?_; repeat ((first | refine n1_ fun b_ => ?_ | refine n2_ fun b_ => ?_ | refine n3_ fun b_ pre_ => ?_ | refine Nat1.mk fun q_ hq_ => ?_ | refine em_ fun x_ hx_ => ?_ | refine Elem1.mk fun e_ he_ => ?_); refine g0_ ?_))
      exact ⟨(), trivial, rfl, wkMem.rfl'⟩
  · rw [if_neg h0] at hP
    by_cases hl : leaves s (widthL r)
    · obtain ⟨⟨gw, gh, cs⟩, X, Y, lt, ⟨fo, ba, bi⟩, tp, bo, modes, tabs, kx, ky, ⟨f2, b2, bi2⟩, km, last, title, gone⟩ := s
      dsimp only at *
      subst hw hh
      obtain ⟨x, hx0⟩ : ∃ x : Nat, (x : Int) = 0 := ⟨0, rfl⟩
      obtain ⟨y, hye⟩ : ∃ y : Nat, (y : Int) = if Y < (h : Int) - 1 then Y + 1 else Y := by
        have : 0 ≤ (if Y < (h : Int) - 1 then Y + 1 else Y) := by split <;> omega
        obtain ⟨y, hy⟩ := Int.eq_ofNat_of_zero_le this
        exact ⟨y, hy.symm⟩
      have hyh : y < h := by split at hye <;> omega
      have e1 : feedY ⟨⟨w, h, cs⟩, 0, Y, lt, ⟨fo, ba, bi⟩, tp, bo, modes, tabs, kx, ky, ⟨f2, b2, bi2⟩, km, last, title, gone⟩ = ⟨⟨w, h, cs⟩, x, y, false, ⟨fo, ba, bi⟩, tp, bo, modes, tabs, kx, ky, ⟨f2, b2, bi2⟩, km, last, title, gone⟩ := by
        rw [feedY]
        dsimp only
        rw [hx0, hye]
      have hne := hup hl
      have hfeed := feed1_ok W b bc (h * w) tv gv ⟨⟨w, h, cs⟩, 0, Y, lt, ⟨fo, ba, bi⟩, tp, bo, modes, tabs, kx, ky, ⟨f2, b2, bi2⟩, km, last, title, gone⟩ hne (by show i64ok Y; unfold i64ok; omega) (by show 1 ≤ (h : Int) ∧ (h : Int) ≤ 60; omega)
      rw [before, if_pos hl] at hs1
      dsimp only at hs1
      rw [e1] at hs1 hfeed
      subst hs1
      dsimp only at hP
      have hyw : (y + 1) * w ≤ h * w := Nat.mul_le_mul_right _ (by omega)
      obtain ⟨row, hrow, hrl⟩ := f.at (y := y) (by omega)
      have hpre := take_flat_len f.row (y := y) (by rw [f.len]; omega)
      rw [Int.toNat_natCast, Int.toNat_natCast, List.getD_eq_getElem?_getD, hrow, Option.getD_some] at hP
      have hflS : ∀ R, (L.set y R).flatten = (L.take y).flatten ++ R ++ (L.drop (y + 1)).flatten := fun R => flat_set hrow R
      have hflL := flat_at hrow
      rw [flat_at hrow] at hfl
      rw [flat_at hrow]
      generalize (L.take y).flatten = pre at *
      generalize (L.drop (y + 1)).flatten = post at *
      have hB : ¬ (w : Int) < x + widthL r := by omega
      rw [if_neg hB] at hP
      rw [show scrB b bc (h * w) tv gv ⟨⟨w, h, cs⟩, X, Y, lt, ⟨fo, ba, bi⟩, tp, bo, modes, tabs, kx, ky, ⟨f2, b2, bi2⟩, km, last, title, gone⟩ = ⟨b, .row 22 [.agg [.int .i64 w, .int .i64 h, .rsl bc 4 0 (h * w), .int .i64 X, .int .i64 Y, .bool lt, .int .i64 fo, .int .i64 ba, .int .i64 bi, .int .i64 tp, .int .i64 bo, .int .i64 modes, tv, .int .i64 kx, .int .i64 ky, .int .i64 f2, .int .i64 b2, .int .i64 bi2, .int .i64 km, .int .i32 last, .str title, gv]] 0⟩ from rfl]
      rw [show scrB b bc (h * w) tv gv ⟨⟨w, h, cs⟩, x, y, false, ⟨fo, ba, bi⟩, tp, bo, modes, tabs, kx, ky, ⟨f2, b2, bi2⟩, km, last, title, gone⟩ = ⟨b, .row 22 [.agg [.int .i64 w, .int .i64 h, .rsl bc 4 0 (h * w), .int .i64 x, .int .i64 y, .bool false, .int .i64 fo, .int .i64 ba, .int .i64 bi, .int .i64 tp, .int .i64 bo, .int .i64 modes, tv, .int .i64 kx, .int .i64 ky, .int .i64 f2, .int .i64 b2, .int .i64 bi2, .int .i64 km, .int .i32 last, .str title, gv]] 0⟩ from rfl, show scrB b bc (h * w) tv gv ⟨⟨w, h, cs⟩, 0, Y, lt, ⟨fo, ba, bi⟩, tp, bo, modes, tabs, kx, ky, ⟨f2, b2, bi2⟩, km, last, title, gone⟩ = ⟨b, .row 22 [.agg [.int .i64 w, .int .i64 h, .rsl bc 4 0 (h * w), .int .i64 0, .int .i64 Y, .bool lt, .int .i64 fo, .int .i64 ba, .int .i64 bi, .int .i64 tp, .int .i64 bo, .int .i64 modes, tv, .int .i64 kx, .int .i64 ky, .int .i64 f2, .int .i64 b2, .int .i64 bi2, .int .i64 km, .int .i32 last, .str title, gv]] 0⟩ from rfl] at hfeed
      by_cases hA : lt = true
      · subst hA
        clear hl e1
        refine acalls_of_vc (drawOk W) Tryd.func26 rfl (by decide) (by decide) rfl ?_
        (refine g0_ ?_; repeat ((first | refine n1_ fun b_ => ?_ | refine n2_ fun b_ => ?_ | refine n3_ fun b_ pre_ => ?_ | refine Nat1.mk fun q_ hq_ => ?_ | refine em_ fun x_ hx_ => ?_ | refine Elem1.mk fun e_ he_ => ?_); refine g0_ ?_))
        refine (width_ok W r).use ?_; (refine g0_ ?_; repeat ((first | refine n1_ fun b_ => ?_ | refine n2_ fun b_ => ?_ | refine n3_ fun b_ pre_ => ?_ | refine Nat1.mk fun q_ hq_ => ?_ | refine em_ fun x_ hx_ => ?_ | refine Elem1.mk fun e_ he_ => ?_); refine g0_ ?_))
        (refine g1_ ?_; repeat ((first | refine n1_ fun b_ => ?_ | refine n2_ fun b_ => ?_ | refine n3_ fun b_ pre_ => ?_ | refine Nat1.mk fun q_ hq_ => ?_ | refine em_ fun x_ hx_ => ?_ | refine Elem1.mk fun e_ he_ => ?_); refine g1_ ?_))
        refine head_ ?_; (refine g0_ ?_; repeat ((first | refine n1_ fun b_ => ?_ | refine n2_ fun b_ => ?_ | refine n3_ fun b_ pre_ => ?_ | refine Nat1.mk fun q_ hq_ => ?_ | refine em_ fun x_ hx_ => ?_ | refine Elem1.mk fun e_ he_ => ?_); refine g0_ ?_))
        (refine g1_ ?_; repeat ((first | refine n1_ fun b_ => ?_ | refine n2_ fun b_ => ?_ | refine n3_ fun b_ pre_ => ?_ | refine Nat1.mk fun q_ hq_ => ?_ | refine em_ fun x_ hx_ => ?_ | refine Elem1.mk fun e_ he_ => ?_); refine g1_ ?_))
        refine ACalls.lend hfeed (r := [⟨bc, .row 4 ((pre ++ row ++ post).map encCell) 0⟩]) (.refl _) ?_
        rintro _ -
        (refine g0_ ?_; repeat ((first | refine n1_ fun b_ => ?_ | refine n2_ fun b_ => ?_ | refine n3_ fun b_ pre_ => ?_ | refine Nat1.mk fun q_ hq_ => ?_ | refine em_ fun x_ hx_ => ?_ | refine Elem1.mk fun e_ he_ => ?_); refine g0_ ?_))
        refine head_ ?_; (refine g0_ ?_; repeat ((first | refine n1_ fun b_ => ?_ | refine n2_ fun b_ => ?_ | refine n3_ fun b_ pre_ => ?_ | refine Nat1.mk fun q_ hq_ => ?_ | refine em_ fun x_ hx_ => ?_ | refine Elem1.mk fun e_ he_ => ?_); refine g0_ ?_))
        (refine g1_ ?_; repeat ((first | refine n1_ fun b_ => ?_ | refine n2_ fun b_ => ?_ | refine n3_ fun b_ pre_ => ?_ | refine Nat1.mk fun q_ hq_ => ?_ | refine em_ fun x_ hx_ => ?_ | refine Elem1.mk fun e_ he_ => ?_); refine g1_ ?_))
        refine head_ ?_; (refine g0_ ?_; repeat ((first | refine n1_ fun b_ => ?_ | refine n2_ fun b_ => ?_ | refine n3_ fun b_ pre_ => ?_ | refine Nat1.mk fun q_ hq_ => ?_ | refine em_ fun x_ hx_ => ?_ | refine Elem1.mk fun e_ he_ => ?_); refine g0_ ?_))
        refine ⟨_, (rowOwn_ok W bc (h * w) w y h hyw (by omega) (by omega) (by omega)).quiet, ?_⟩; (refine g0_ ?_; repeat ((first | refine n1_ fun b_ => ?_ | refine n2_ fun b_ => ?_ | refine n3_ fun b_ pre_ => ?_ | refine Nat1.mk fun q_ hq_ => ?_ | refine em_ fun x_ hx_ => ?_ | refine Elem1.mk fun e_ he_ => ?_); refine g0_ ?_))
        (refine g0_ ?_; repeat ((first | refine n1_ fun b_ => ?_ | refine n2_ fun b_ => ?_ | refine n3_ fun b_ pre_ => ?_ | refine Nat1.mk fun q_ hq_ => ?_ | refine em_ fun x_ hx_ => ?_ | refine Elem1.mk fun e_ he_ => ?_); refine g0_ ?_))
        (refine g1_ ?_; repeat ((first | refine n1_ fun b_ => ?_ | refine n2_ fun b_ => ?_ | refine n3_ fun b_ pre_ => ?_ | refine Nat1.mk fun q_ hq_ => ?_ | refine em_ fun x_ hx_ => ?_ | refine Elem1.mk fun e_ he_ => ?_); refine g1_ ?_))
        refine head_ ?_; (refine g0_ ?_; repeat ((first | refine n1_ fun b_ => ?_ | refine n2_ fun b_ => ?_ | refine n3_ fun b_ pre_ => ?_ | refine Nat1.mk fun q_ hq_ => ?_ | refine em_ fun x_ hx_ => ?_ | refine Elem1.mk fun e_ he_ => ?_); refine g0_ ?_))
        have hyw2 : y * w + w ≤ h * w := by rw [← Nat.succ_mul]; exact hyw
        have hxw : x + widthL r ≤ w := by omega
        rw [show (PV.agg [PV.int .i32 r, PV.int .i64 fo, PV.int .i64 ba, PV.int .i64 bi]) = .agg [.int .i32 (Cell.mk r ⟨fo, ba, bi⟩).r, .int .i64 (Cell.mk r ⟨fo, ba, bi⟩).s.fore, .int .i64 (Cell.mk r ⟨fo, ba, bi⟩).s.back, .int .i64 (Cell.mk r ⟨fo, ba, bi⟩).s.bits] from rfl, set_mid (by omega) (Cell.mk r ⟨fo, ba, bi⟩) hpre.symm]
        by_cases h2 : widthL r = 2
        · rw [putR, if_pos h2] at hP
          (refine g1_ ?_; repeat ((first | refine n1_ fun b_ => ?_ | refine n2_ fun b_ => ?_ | refine n3_ fun b_ pre_ => ?_ | refine Nat1.mk fun q_ hq_ => ?_ | refine em_ fun x_ hx_ => ?_ | refine Elem1.mk fun e_ he_ => ?_); refine g1_ ?_))
          refine head_ ?_; (refine g0_ ?_; repeat ((first | refine n1_ fun b_ => ?_ | refine n2_ fun b_ => ?_ | refine n3_ fun b_ pre_ => ?_ | refine Nat1.mk fun q_ hq_ => ?_ | refine em_ fun x_ hx_ => ?_ | refine Elem1.mk fun e_ he_ => ?_); refine g0_ ?_))
          rw [show (PV.agg [ofV1 (Value.int IntKind.i32 0), .int .i64 fo, .int .i64 ba, .int .i64 bi]) = .agg [.int .i32 (Cell.mk 0 ⟨fo, ba, bi⟩).r, .int .i64 (Cell.mk 0 ⟨fo, ba, bi⟩).s.fore, .int .i64 (Cell.mk 0 ⟨fo, ba, bi⟩).s.back, .int .i64 (Cell.mk 0 ⟨fo, ba, bi⟩).s.bits] from rfl, set_mid (x := x + 1) (by rw [List.length_set]; omega) (Cell.mk 0 ⟨fo, ba, bi⟩) hpre.symm]
          have hm := mend_ok W bc pre ((row.set x (Cell.mk r ⟨fo, ba, bi⟩)).set (x + 1) (Cell.mk 0 ⟨fo, ba, bi⟩)) post (by rw [List.length_set, List.length_set]; omega)
          rw [hpre, List.length_set, List.length_set, hrl] at hm
          refine ACalls.lend1 hm (by repeat (first | exact .here _ _ _ | apply Look.there)) ?_
          rintro _ -
          rw [← hflS] at *
          (refine g0_ ?_; repeat ((first | refine n1_ fun b_ => ?_ | refine n2_ fun b_ => ?_ | refine n3_ fun b_ pre_ => ?_ | refine Nat1.mk fun q_ hq_ => ?_ | refine em_ fun x_ hx_ => ?_ | refine Elem1.mk fun e_ he_ => ?_); refine g0_ ?_))
          refine head_ ?_; (refine g0_ ?_; repeat ((first | refine n1_ fun b_ => ?_ | refine n2_ fun b_ => ?_ | refine n3_ fun b_ pre_ => ?_ | refine Nat1.mk fun q_ hq_ => ?_ | refine em_ fun x_ hx_ => ?_ | refine Elem1.mk fun e_ he_ => ?_); refine g0_ ?_))
          rw [behind] at hP
          dsimp only at hP
          by_cases hE : (x : Int) + widthL r < w
          · rw [if_pos hE] at hP
            cases hP
            (refine g1_ ?_; repeat ((first | refine n1_ fun b_ => ?_ | refine n2_ fun b_ => ?_ | refine n3_ fun b_ pre_ => ?_ | refine Nat1.mk fun q_ hq_ => ?_ | refine em_ fun x_ hx_ => ?_ | refine Elem1.mk fun e_ he_ => ?_); refine g1_ ?_))
            exact ⟨(), trivial, rfl, by (first | exact ⟨_, .refl _⟩ | exact wkMem.rfl' | exact ⟨_, .swap _ _ _⟩ | (repeat (first | exact wkMem.nil _ | exact wkMem.rfl' | exact wk_snoc _ _ _ | exact wk_fam (by assumption) _ _ _ | exact wk_famN (by assumption) _ _ _ | (apply wkMem.cons; (case' hl => (repeat (first | exact .here _ _ _ | apply Look.there)))) | apply wkMem.skip)))⟩
          · rw [if_neg hE] at hP
            try simp only [wrapB, hC, not_false_eq_true, decide_true] at hP
            cases hP
            (refine g1_ ?_; repeat ((first | refine n1_ fun b_ => ?_ | refine n2_ fun b_ => ?_ | refine n3_ fun b_ pre_ => ?_ | refine Nat1.mk fun q_ hq_ => ?_ | refine em_ fun x_ hx_ => ?_ | refine Elem1.mk fun e_ he_ => ?_); refine g1_ ?_))
            exact ⟨(), trivial, rfl, by (first | exact ⟨_, .refl _⟩ | exact wkMem.rfl' | exact ⟨_, .swap _ _ _⟩ | (repeat (first | exact wkMem.nil _ | exact wkMem.rfl' | exact wk_snoc _ _ _ | exact wk_fam (by assumption) _ _ _ | exact wk_famN (by assumption) _ _ _ | (apply wkMem.cons; (case' hl => (repeat (first | exact .here _ _ _ | apply Look.there)))) | apply wkMem.skip)))⟩
        · first
            | (exfalso; omega)
            | (skip
               rw [putR, if_neg h2] at hP
               (refine g1_ ?_; repeat ((first | refine n1_ fun b_ => ?_ | refine n2_ fun b_ => ?_ | refine n3_ fun b_ pre_ => ?_ | refine Nat1.mk fun q_ hq_ => ?_ | refine em_ fun x_ hx_ => ?_ | refine Elem1.mk fun e_ he_ => ?_); refine g1_ ?_))
               have hm := mend_ok W bc pre (row.set x (Cell.mk r ⟨fo, ba, bi⟩)) post (by rw [List.length_set]; omega)
               rw [hpre, List.length_set, hrl] at hm
               refine ACalls.lend1 hm (by repeat (first | exact .here _ _ _ | apply Look.there)) ?_
               rintro _ -
               rw [← hflS] at *
               (refine g0_ ?_; repeat ((first | refine n1_ fun b_ => ?_ | refine n2_ fun b_ => ?_ | refine n3_ fun b_ pre_ => ?_ | refine Nat1.mk fun q_ hq_ => ?_ | refine em_ fun x_ hx_ => ?_ | refine Elem1.mk fun e_ he_ => ?_); refine g0_ ?_))
               refine head_ ?_; (refine g0_ ?_; repeat ((first | refine n1_ fun b_ => ?_ | refine n2_ fun b_ => ?_ | refine n3_ fun b_ pre_ => ?_ | refine Nat1.mk fun q_ hq_ => ?_ | refine em_ fun x_ hx_ => ?_ | refine Elem1.mk fun e_ he_ => ?_); refine g0_ ?_))
               rw [behind] at hP
               dsimp only at hP
               by_cases hE : (x : Int) + widthL r < w
               · rw [if_pos hE] at hP
                 cases hP
                 (refine g1_ ?_; repeat ((first | refine n1_ fun b_ => ?_ | refine n2_ fun b_ => ?_ | refine n3_ fun b_ pre_ => ?_ | refine Nat1.mk fun q_ hq_ => ?_ | refine em_ fun x_ hx_ => ?_ | refine Elem1.mk fun e_ he_ => ?_); refine g1_ ?_))
                 exact ⟨(), trivial, rfl, by (first | exact ⟨_, .refl _⟩ | exact wkMem.rfl' | exact ⟨_, .swap _ _ _⟩ | (repeat (first | exact wkMem.nil _ | exact wkMem.rfl' | exact wk_snoc _ _ _ | exact wk_fam (by assumption) _ _ _ | exact wk_famN (by assumption) _ _ _ | (apply wkMem.cons; (case' hl => (repeat (first | exact .here _ _ _ | apply Look.there)))) | apply wkMem.skip)))⟩
               · rw [if_neg hE] at hP
                 try simp only [wrapB, hC, not_false_eq_true, decide_true] at hP
                 cases hP
                 (refine g1_ ?_; repeat ((first | refine n1_ fun b_ => ?_ | refine n2_ fun b_ => ?_ | refine n3_ fun b_ pre_ => ?_ | refine Nat1.mk fun q_ hq_ => ?_ | refine em_ fun x_ hx_ => ?_ | refine Elem1.mk fun e_ he_ => ?_); refine g1_ ?_))
                 exact ⟨(), trivial, rfl, by (first | exact ⟨_, .refl _⟩ | exact wkMem.rfl' | exact ⟨_, .swap _ _ _⟩ | (repeat (first | exact wkMem.nil _ | exact wkMem.rfl' | exact wk_snoc _ _ _ | exact wk_fam (by assumption) _ _ _ | exact wk_famN (by assumption) _ _ _ | (apply wkMem.cons; (case' hl => (repeat (first | exact .here _ _ _ | apply Look.there)))) | apply wkMem.skip)))⟩
               )
      · have hl2 := hl.resolve_left hA
        have hA' : lt = false := by simpa using hA
        have hB2 : (w : Int) < X + widthL r := hl2.1
        have hC : ¬ bitop .and .i64 modes 4 = 0 := by simpa [wrapB] using hl2.2
        subst hA'
        clear hl e1 hl2
        refine acalls_of_vc (drawOk W) Tryd.func26 rfl (by decide) (by decide) rfl ?_
        (refine g0_ ?_; repeat ((first | refine n1_ fun b_ => ?_ | refine n2_ fun b_ => ?_ | refine n3_ fun b_ pre_ => ?_ | refine Nat1.mk fun q_ hq_ => ?_ | refine em_ fun x_ hx_ => ?_ | refine Elem1.mk fun e_ he_ => ?_); refine g0_ ?_))
        refine (width_ok W r).use ?_; (refine g0_ ?_; repeat ((first | refine n1_ fun b_ => ?_ | refine n2_ fun b_ => ?_ | refine n3_ fun b_ pre_ => ?_ | refine Nat1.mk fun q_ hq_ => ?_ | refine em_ fun x_ hx_ => ?_ | refine Elem1.mk fun e_ he_ => ?_); refine g0_ ?_))
        (refine g1_ ?_; repeat ((first | refine n1_ fun b_ => ?_ | refine n2_ fun b_ => ?_ | refine n3_ fun b_ pre_ => ?_ | refine Nat1.mk fun q_ hq_ => ?_ | refine em_ fun x_ hx_ => ?_ | refine Elem1.mk fun e_ he_ => ?_); refine g1_ ?_))
        refine head_ ?_; (refine g0_ ?_; repeat ((first | refine n1_ fun b_ => ?_ | refine n2_ fun b_ => ?_ | refine n3_ fun b_ pre_ => ?_ | refine Nat1.mk fun q_ hq_ => ?_ | refine em_ fun x_ hx_ => ?_ | refine Elem1.mk fun e_ he_ => ?_); refine g0_ ?_))
        (refine g1_ ?_; repeat ((first | refine n1_ fun b_ => ?_ | refine n2_ fun b_ => ?_ | refine n3_ fun b_ pre_ => ?_ | refine Nat1.mk fun q_ hq_ => ?_ | refine em_ fun x_ hx_ => ?_ | refine Elem1.mk fun e_ he_ => ?_); refine g1_ ?_))
        refine ACalls.lend hfeed (r := [⟨bc, .row 4 ((pre ++ row ++ post).map encCell) 0⟩]) (.refl _) ?_
        rintro _ -
        (refine g0_ ?_; repeat ((first | refine n1_ fun b_ => ?_ | refine n2_ fun b_ => ?_ | refine n3_ fun b_ pre_ => ?_ | refine Nat1.mk fun q_ hq_ => ?_ | refine em_ fun x_ hx_ => ?_ | refine Elem1.mk fun e_ he_ => ?_); refine g0_ ?_))
        refine head_ ?_; (refine g0_ ?_; repeat ((first | refine n1_ fun b_ => ?_ | refine n2_ fun b_ => ?_ | refine n3_ fun b_ pre_ => ?_ | refine Nat1.mk fun q_ hq_ => ?_ | refine em_ fun x_ hx_ => ?_ | refine Elem1.mk fun e_ he_ => ?_); refine g0_ ?_))
        (refine g1_ ?_; repeat ((first | refine n1_ fun b_ => ?_ | refine n2_ fun b_ => ?_ | refine n3_ fun b_ pre_ => ?_ | refine Nat1.mk fun q_ hq_ => ?_ | refine em_ fun x_ hx_ => ?_ | refine Elem1.mk fun e_ he_ => ?_); refine g1_ ?_))
        refine head_ ?_; (refine g0_ ?_; repeat ((first | refine n1_ fun b_ => ?_ | refine n2_ fun b_ => ?_ | refine n3_ fun b_ pre_ => ?_ | refine Nat1.mk fun q_ hq_ => ?_ | refine em_ fun x_ hx_ => ?_ | refine Elem1.mk fun e_ he_ => ?_); refine g0_ ?_))
        refine ⟨_, (rowOwn_ok W bc (h * w) w y h hyw (by omega) (by omega) (by omega)).quiet, ?_⟩; (refine g0_ ?_; repeat ((first | refine n1_ fun b_ => ?_ | refine n2_ fun b_ => ?_ | refine n3_ fun b_ pre_ => ?_ | refine Nat1.mk fun q_ hq_ => ?_ | refine em_ fun x_ hx_ => ?_ | refine Elem1.mk fun e_ he_ => ?_); refine g0_ ?_))
        (refine g0_ ?_; repeat ((first | refine n1_ fun b_ => ?_ | refine n2_ fun b_ => ?_ | refine n3_ fun b_ pre_ => ?_ | refine Nat1.mk fun q_ hq_ => ?_ | refine em_ fun x_ hx_ => ?_ | refine Elem1.mk fun e_ he_ => ?_); refine g0_ ?_))
        (refine g1_ ?_; repeat ((first | refine n1_ fun b_ => ?_ | refine n2_ fun b_ => ?_ | refine n3_ fun b_ pre_ => ?_ | refine Nat1.mk fun q_ hq_ => ?_ | refine em_ fun x_ hx_ => ?_ | refine Elem1.mk fun e_ he_ => ?_); refine g1_ ?_))
        refine head_ ?_; (refine g0_ ?_; repeat ((first | refine n1_ fun b_ => ?_ | refine n2_ fun b_ => ?_ | refine n3_ fun b_ pre_ => ?_ | refine Nat1.mk fun q_ hq_ => ?_ | refine em_ fun x_ hx_ => ?_ | refine Elem1.mk fun e_ he_ => ?_); refine g0_ ?_))
        have hyw2 : y * w + w ≤ h * w := by rw [← Nat.succ_mul]; exact hyw
        have hxw : x + widthL r ≤ w := by omega
        rw [show (PV.agg [PV.int .i32 r, PV.int .i64 fo, PV.int .i64 ba, PV.int .i64 bi]) = .agg [.int .i32 (Cell.mk r ⟨fo, ba, bi⟩).r, .int .i64 (Cell.mk r ⟨fo, ba, bi⟩).s.fore, .int .i64 (Cell.mk r ⟨fo, ba, bi⟩).s.back, .int .i64 (Cell.mk r ⟨fo, ba, bi⟩).s.bits] from rfl, set_mid (by omega) (Cell.mk r ⟨fo, ba, bi⟩) hpre.symm]
        by_cases h2 : widthL r = 2
        · rw [putR, if_pos h2] at hP
          (refine g1_ ?_; repeat ((first | refine n1_ fun b_ => ?_ | refine n2_ fun b_ => ?_ | refine n3_ fun b_ pre_ => ?_ | refine Nat1.mk fun q_ hq_ => ?_ | refine em_ fun x_ hx_ => ?_ | refine Elem1.mk fun e_ he_ => ?_); refine g1_ ?_))
          refine head_ ?_; (refine g0_ ?_; repeat ((first | refine n1_ fun b_ => ?_ | refine n2_ fun b_ => ?_ | refine n3_ fun b_ pre_ => ?_ | refine Nat1.mk fun q_ hq_ => ?_ | refine em_ fun x_ hx_ => ?_ | refine Elem1.mk fun e_ he_ => ?_); refine g0_ ?_))
          rw [show (PV.agg [ofV1 (Value.int IntKind.i32 0), .int .i64 fo, .int .i64 ba, .int .i64 bi]) = .agg [.int .i32 (Cell.mk 0 ⟨fo, ba, bi⟩).r, .int .i64 (Cell.mk 0 ⟨fo, ba, bi⟩).s.fore, .int .i64 (Cell.mk 0 ⟨fo, ba, bi⟩).s.back, .int .i64 (Cell.mk 0 ⟨fo, ba, bi⟩).s.bits] from rfl, set_mid (x := x + 1) (by rw [List.length_set]; omega) (Cell.mk 0 ⟨fo, ba, bi⟩) hpre.symm]
          have hm := mend_ok W bc pre ((row.set x (Cell.mk r ⟨fo, ba, bi⟩)).set (x + 1) (Cell.mk 0 ⟨fo, ba, bi⟩)) post (by rw [List.length_set, List.length_set]; omega)
          rw [hpre, List.length_set, List.length_set, hrl] at hm
          refine ACalls.lend1 hm (by repeat (first | exact .here _ _ _ | apply Look.there)) ?_
          rintro _ -
          rw [← hflS] at *
          (refine g0_ ?_; repeat ((first | refine n1_ fun b_ => ?_ | refine n2_ fun b_ => ?_ | refine n3_ fun b_ pre_ => ?_ | refine Nat1.mk fun q_ hq_ => ?_ | refine em_ fun x_ hx_ => ?_ | refine Elem1.mk fun e_ he_ => ?_); refine g0_ ?_))
          refine head_ ?_; (refine g0_ ?_; repeat ((first | refine n1_ fun b_ => ?_ | refine n2_ fun b_ => ?_ | refine n3_ fun b_ pre_ => ?_ | refine Nat1.mk fun q_ hq_ => ?_ | refine em_ fun x_ hx_ => ?_ | refine Elem1.mk fun e_ he_ => ?_); refine g0_ ?_))
          rw [behind] at hP
          dsimp only at hP
          by_cases hE : (x : Int) + widthL r < w
          · rw [if_pos hE] at hP
            cases hP
            (refine g1_ ?_; repeat ((first | refine n1_ fun b_ => ?_ | refine n2_ fun b_ => ?_ | refine n3_ fun b_ pre_ => ?_ | refine Nat1.mk fun q_ hq_ => ?_ | refine em_ fun x_ hx_ => ?_ | refine Elem1.mk fun e_ he_ => ?_); refine g1_ ?_))
            exact ⟨(), trivial, rfl, by (first | exact ⟨_, .refl _⟩ | exact wkMem.rfl' | exact ⟨_, .swap _ _ _⟩ | (repeat (first | exact wkMem.nil _ | exact wkMem.rfl' | exact wk_snoc _ _ _ | exact wk_fam (by assumption) _ _ _ | exact wk_famN (by assumption) _ _ _ | (apply wkMem.cons; (case' hl => (repeat (first | exact .here _ _ _ | apply Look.there)))) | apply wkMem.skip)))⟩
          · rw [if_neg hE] at hP
            try simp only [wrapB, hC, not_false_eq_true, decide_true] at hP
            cases hP
            (refine g1_ ?_; repeat ((first | refine n1_ fun b_ => ?_ | refine n2_ fun b_ => ?_ | refine n3_ fun b_ pre_ => ?_ | refine Nat1.mk fun q_ hq_ => ?_ | refine em_ fun x_ hx_ => ?_ | refine Elem1.mk fun e_ he_ => ?_); refine g1_ ?_))
            exact ⟨(), trivial, rfl, by (first | exact ⟨_, .refl _⟩ | exact wkMem.rfl' | exact ⟨_, .swap _ _ _⟩ | (repeat (first | exact wkMem.nil _ | exact wkMem.rfl' | exact wk_snoc _ _ _ | exact wk_fam (by assumption) _ _ _ | exact wk_famN (by assumption) _ _ _ | (apply wkMem.cons; (case' hl => (repeat (first | exact .here _ _ _ | apply Look.there)))) | apply wkMem.skip)))⟩
        · first
            | (exfalso; omega)
            | (skip
               rw [putR, if_neg h2] at hP
               (refine g1_ ?_; repeat ((first | refine n1_ fun b_ => ?_ | refine n2_ fun b_ => ?_ | refine n3_ fun b_ pre_ => ?_ | refine Nat1.mk fun q_ hq_ => ?_ | refine em_ fun x_ hx_ => ?_ | refine Elem1.mk fun e_ he_ => ?_); refine g1_ ?_))
               have hm := mend_ok W bc pre (row.set x (Cell.mk r ⟨fo, ba, bi⟩)) post (by rw [List.length_set]; omega)
               rw [hpre, List.length_set, hrl] at hm
               refine ACalls.lend1 hm (by repeat (first | exact .here _ _ _ | apply Look.there)) ?_
               rintro _ -
               rw [← hflS] at *
               (refine g0_ ?_; repeat ((first | refine n1_ fun b_ => ?_ | refine n2_ fun b_ => ?_ | refine n3_ fun b_ pre_ => ?_ | refine Nat1.mk fun q_ hq_ => ?_ | refine em_ fun x_ hx_ => ?_ | refine Elem1.mk fun e_ he_ => ?_); refine g0_ ?_))
               refine head_ ?_; (refine g0_ ?_; repeat ((first | refine n1_ fun b_ => ?_ | refine n2_ fun b_ => ?_ | refine n3_ fun b_ pre_ => ?_ | refine Nat1.mk fun q_ hq_ => ?_ | refine em_ fun x_ hx_ => ?_ | refine Elem1.mk fun e_ he_ => ?_); refine g0_ ?_))
               rw [behind] at hP
               dsimp only at hP
               by_cases hE : (x : Int) + widthL r < w
               · rw [if_pos hE] at hP
                 cases hP
                 (refine g1_ ?_; repeat ((first | refine n1_ fun b_ => ?_ | refine n2_ fun b_ => ?_ | refine n3_ fun b_ pre_ => ?_ | refine Nat1.mk fun q_ hq_ => ?_ | refine em_ fun x_ hx_ => ?_ | refine Elem1.mk fun e_ he_ => ?_); refine g1_ ?_))
                 exact ⟨(), trivial, rfl, by (first | exact ⟨_, .refl _⟩ | exact wkMem.rfl' | exact ⟨_, .swap _ _ _⟩ | (repeat (first | exact wkMem.nil _ | exact wkMem.rfl' | exact wk_snoc _ _ _ | exact wk_fam (by assumption) _ _ _ | exact wk_famN (by assumption) _ _ _ | (apply wkMem.cons; (case' hl => (repeat (first | exact .here _ _ _ | apply Look.there)))) | apply wkMem.skip)))⟩
               · rw [if_neg hE] at hP
                 try simp only [wrapB, hC, not_false_eq_true, decide_true] at hP
                 cases hP
                 (refine g1_ ?_; repeat ((first | refine n1_ fun b_ => ?_ | refine n2_ fun b_ => ?_ | refine n3_ fun b_ pre_ => ?_ | refine Nat1.mk fun q_ hq_ => ?_ | refine em_ fun x_ hx_ => ?_ | refine Elem1.mk fun e_ he_ => ?_); refine g1_ ?_))
                 exact ⟨(), trivial, rfl, by (first | exact ⟨_, .refl _⟩ | exact wkMem.rfl' | exact ⟨_, .swap _ _ _⟩ | (repeat (first | exact wkMem.nil _ | exact wkMem.rfl' | exact wk_snoc _ _ _ | exact wk_fam (by assumption) _ _ _ | exact wk_famN (by assumption) _ _ _ | (apply wkMem.cons; (case' hl => (repeat (first | exact .here _ _ _ | apply Look.there)))) | apply wkMem.skip)))⟩
               )
    · rw [before, if_neg hl] at hs1
      subst hs1
      obtain ⟨⟨gw, gh, cs⟩, X, Y, late, ⟨fo, ba, bi⟩, tp, bo, modes, tabs, kx, ky, ⟨f2, b2, bi2⟩, km, last, title, gone⟩ := s1
      dsimp only at *
      subst hw hh
      obtain ⟨x, rfl⟩ := Int.eq_ofNat_of_zero_le hx.1
      obtain ⟨y, rfl⟩ := Int.eq_ofNat_of_zero_le hy.1
      have hA : late = false := by
        cases hq : late with
        | false => rfl
        | true => exact absurd (Or.inl hq) hl
      subst hA
      have hyw : (y + 1) * w ≤ h * w := Nat.mul_le_mul_right _ (by omega)
      obtain ⟨row, hrow, hrl⟩ := f.at (y := y) (by omega)
      have hpre := take_flat_len f.row (y := y) (by rw [f.len]; omega)
      rw [Int.toNat_natCast, Int.toNat_natCast, List.getD_eq_getElem?_getD, hrow, Option.getD_some] at hP
      have hflS : ∀ R, (L.set y R).flatten = (L.take y).flatten ++ R ++ (L.drop (y + 1)).flatten := fun R => flat_set hrow R
      have hflL := flat_at hrow
      rw [flat_at hrow] at hfl
      rw [flat_at hrow]
      generalize (L.take y).flatten = pre at *
      generalize (L.drop (y + 1)).flatten = post at *
      rw [show scrB b bc (h * w) tv gv ⟨⟨w, h, cs⟩, x, y, false, ⟨fo, ba, bi⟩, tp, bo, modes, tabs, kx, ky, ⟨f2, b2, bi2⟩, km, last, title, gone⟩ = ⟨b, .row 22 [.agg [.int .i64 w, .int .i64 h, .rsl bc 4 0 (h * w), .int .i64 x, .int .i64 y, .bool false, .int .i64 fo, .int .i64 ba, .int .i64 bi, .int .i64 tp, .int .i64 bo, .int .i64 modes, tv, .int .i64 kx, .int .i64 ky, .int .i64 f2, .int .i64 b2, .int .i64 bi2, .int .i64 km, .int .i32 last, .str title, gv]] 0⟩ from rfl]
      by_cases hB : (w : Int) < x + widthL r
      · have hC : bitop .and .i64 modes 4 = 0 := by
          have hq : ¬ wrapB ⟨⟨w, h, cs⟩, x, y, false, ⟨fo, ba, bi⟩, tp, bo, modes, tabs, kx, ky, ⟨f2, b2, bi2⟩, km, last, title, gone⟩ = true := fun hq => hl (Or.inr ⟨hB, hq⟩)
          simpa [wrapB] using hq
        rw [if_pos hB] at hP
        cases hP
        clear hl
        rw [← hflL]
        refine acalls_of_vc (drawOk W) Tryd.func26 rfl (by decide) (by decide) rfl ?_
        (refine g0_ ?_; repeat ((first | refine n1_ fun b_ => ?_ | refine n2_ fun b_ => ?_ | refine n3_ fun b_ pre_ => ?_ | refine Nat1.mk fun q_ hq_ => ?_ | refine em_ fun x_ hx_ => ?_ | refine Elem1.mk fun e_ he_ => ?_); refine g0_ ?_))
        refine (width_ok W r).use ?_; (refine g0_ ?_; repeat ((first | refine n1_ fun b_ => ?_ | refine n2_ fun b_ => ?_ | refine n3_ fun b_ pre_ => ?_ | refine Nat1.mk fun q_ hq_ => ?_ | refine em_ fun x_ hx_ => ?_ | refine Elem1.mk fun e_ he_ => ?_); refine g0_ ?_))
        (refine g1_ ?_; repeat ((first | refine n1_ fun b_ => ?_ | refine n2_ fun b_ => ?_ | refine n3_ fun b_ pre_ => ?_ | refine Nat1.mk fun q_ hq_ => ?_ | refine em_ fun x_ hx_ => ?_ | refine Elem1.mk fun e_ he_ => ?_); refine g1_ ?_))
        refine head_ ?_; (refine g0_ ?_; repeat ((first | refine n1_ fun b_ => ?_ | refine n2_ fun b_ => ?_ | refine n3_ fun b_ pre_ => ?_ | refine Nat1.mk fun q_ hq_ => ?_ | refine em_ fun x_ hx_ => ?_ | refine Elem1.mk fun e_ he_ => ?_); refine g0_ ?_))
        (refine g1_ ?_; repeat ((first | refine n1_ fun b_ => ?_ | refine n2_ fun b_ => ?_ | refine n3_ fun b_ pre_ => ?_ | refine Nat1.mk fun q_ hq_ => ?_ | refine em_ fun x_ hx_ => ?_ | refine Elem1.mk fun e_ he_ => ?_); refine g1_ ?_))
        refine head_ ?_; (refine g0_ ?_; repeat ((first | refine n1_ fun b_ => ?_ | refine n2_ fun b_ => ?_ | refine n3_ fun b_ pre_ => ?_ | refine Nat1.mk fun q_ hq_ => ?_ | refine em_ fun x_ hx_ => ?_ | refine Elem1.mk fun e_ he_ => ?_); refine g0_ ?_))
        (refine g1_ ?_; repeat ((first | refine n1_ fun b_ => ?_ | refine n2_ fun b_ => ?_ | refine n3_ fun b_ pre_ => ?_ | refine Nat1.mk fun q_ hq_ => ?_ | refine em_ fun x_ hx_ => ?_ | refine Elem1.mk fun e_ he_ => ?_); refine g1_ ?_))
        exact ⟨(), trivial, rfl, wkMem.rfl'⟩
      · rw [if_neg hB] at hP
        clear hl
        refine acalls_of_vc (drawOk W) Tryd.func26 rfl (by decide) (by decide) rfl ?_
        (refine g0_ ?_; repeat ((first | refine n1_ fun b_ => ?_ | refine n2_ fun b_ => ?_ | refine n3_ fun b_ pre_ => ?_ | refine Nat1.mk fun q_ hq_ => ?_ | refine em_ fun x_ hx_ => ?_ | refine Elem1.mk fun e_ he_ => ?_); refine g0_ ?_))
        refine (width_ok W r).use ?_; (refine g0_ ?_; repeat ((first | refine n1_ fun b_ => ?_ | refine n2_ fun b_ => ?_ | refine n3_ fun b_ pre_ => ?_ | refine Nat1.mk fun q_ hq_ => ?_ | refine em_ fun x_ hx_ => ?_ | refine Elem1.mk fun e_ he_ => ?_); refine g0_ ?_))
        (refine g1_ ?_; repeat ((first | refine n1_ fun b_ => ?_ | refine n2_ fun b_ => ?_ | refine n3_ fun b_ pre_ => ?_ | refine Nat1.mk fun q_ hq_ => ?_ | refine em_ fun x_ hx_ => ?_ | refine Elem1.mk fun e_ he_ => ?_); refine g1_ ?_))
        refine head_ ?_; (refine g0_ ?_; repeat ((first | refine n1_ fun b_ => ?_ | refine n2_ fun b_ => ?_ | refine n3_ fun b_ pre_ => ?_ | refine Nat1.mk fun q_ hq_ => ?_ | refine em_ fun x_ hx_ => ?_ | refine Elem1.mk fun e_ he_ => ?_); refine g0_ ?_))
        (refine g1_ ?_; repeat ((first | refine n1_ fun b_ => ?_ | refine n2_ fun b_ => ?_ | refine n3_ fun b_ pre_ => ?_ | refine Nat1.mk fun q_ hq_ => ?_ | refine em_ fun x_ hx_ => ?_ | refine Elem1.mk fun e_ he_ => ?_); refine g1_ ?_))
        refine head_ ?_; (refine g0_ ?_; repeat ((first | refine n1_ fun b_ => ?_ | refine n2_ fun b_ => ?_ | refine n3_ fun b_ pre_ => ?_ | refine Nat1.mk fun q_ hq_ => ?_ | refine em_ fun x_ hx_ => ?_ | refine Elem1.mk fun e_ he_ => ?_); refine g0_ ?_))
        (refine g1_ ?_; repeat ((first | refine n1_ fun b_ => ?_ | refine n2_ fun b_ => ?_ | refine n3_ fun b_ pre_ => ?_ | refine Nat1.mk fun q_ hq_ => ?_ | refine em_ fun x_ hx_ => ?_ | refine Elem1.mk fun e_ he_ => ?_); refine g1_ ?_))
        refine head_ ?_; (refine g0_ ?_; repeat ((first | refine n1_ fun b_ => ?_ | refine n2_ fun b_ => ?_ | refine n3_ fun b_ pre_ => ?_ | refine Nat1.mk fun q_ hq_ => ?_ | refine em_ fun x_ hx_ => ?_ | refine Elem1.mk fun e_ he_ => ?_); refine g0_ ?_))
        refine ⟨_, (rowOwn_ok W bc (h * w) w y h hyw (by omega) (by omega) (by omega)).quiet, ?_⟩; (refine g0_ ?_; repeat ((first | refine n1_ fun b_ => ?_ | refine n2_ fun b_ => ?_ | refine n3_ fun b_ pre_ => ?_ | refine Nat1.mk fun q_ hq_ => ?_ | refine em_ fun x_ hx_ => ?_ | refine Elem1.mk fun e_ he_ => ?_); refine g0_ ?_))
        (refine g0_ ?_; repeat ((first | refine n1_ fun b_ => ?_ | refine n2_ fun b_ => ?_ | refine n3_ fun b_ pre_ => ?_ | refine Nat1.mk fun q_ hq_ => ?_ | refine em_ fun x_ hx_ => ?_ | refine Elem1.mk fun e_ he_ => ?_); refine g0_ ?_))
        (refine g1_ ?_; repeat ((first | refine n1_ fun b_ => ?_ | refine n2_ fun b_ => ?_ | refine n3_ fun b_ pre_ => ?_ | refine Nat1.mk fun q_ hq_ => ?_ | refine em_ fun x_ hx_ => ?_ | refine Elem1.mk fun e_ he_ => ?_); refine g1_ ?_))
        refine head_ ?_; (refine g0_ ?_; repeat ((first | refine n1_ fun b_ => ?_ | refine n2_ fun b_ => ?_ | refine n3_ fun b_ pre_ => ?_ | refine Nat1.mk fun q_ hq_ => ?_ | refine em_ fun x_ hx_ => ?_ | refine Elem1.mk fun e_ he_ => ?_); refine g0_ ?_))
        have hyw2 : y * w + w ≤ h * w := by rw [← Nat.succ_mul]; exact hyw
        have hxw : x + widthL r ≤ w := by omega
        rw [show (PV.agg [PV.int .i32 r, PV.int .i64 fo, PV.int .i64 ba, PV.int .i64 bi]) = .agg [.int .i32 (Cell.mk r ⟨fo, ba, bi⟩).r, .int .i64 (Cell.mk r ⟨fo, ba, bi⟩).s.fore, .int .i64 (Cell.mk r ⟨fo, ba, bi⟩).s.back, .int .i64 (Cell.mk r ⟨fo, ba, bi⟩).s.bits] from rfl, set_mid (by omega) (Cell.mk r ⟨fo, ba, bi⟩) hpre.symm]
        by_cases h2 : widthL r = 2
        · rw [putR, if_pos h2] at hP
          (refine g1_ ?_; repeat ((first | refine n1_ fun b_ => ?_ | refine n2_ fun b_ => ?_ | refine n3_ fun b_ pre_ => ?_ | refine Nat1.mk fun q_ hq_ => ?_ | refine em_ fun x_ hx_ => ?_ | refine Elem1.mk fun e_ he_ => ?_); refine g1_ ?_))
          refine head_ ?_; (refine g0_ ?_; repeat ((first | refine n1_ fun b_ => ?_ | refine n2_ fun b_ => ?_ | refine n3_ fun b_ pre_ => ?_ | refine Nat1.mk fun q_ hq_ => ?_ | refine em_ fun x_ hx_ => ?_ | refine Elem1.mk fun e_ he_ => ?_); refine g0_ ?_))
          rw [show (PV.agg [ofV1 (Value.int IntKind.i32 0), .int .i64 fo, .int .i64 ba, .int .i64 bi]) = .agg [.int .i32 (Cell.mk 0 ⟨fo, ba, bi⟩).r, .int .i64 (Cell.mk 0 ⟨fo, ba, bi⟩).s.fore, .int .i64 (Cell.mk 0 ⟨fo, ba, bi⟩).s.back, .int .i64 (Cell.mk 0 ⟨fo, ba, bi⟩).s.bits] from rfl, set_mid (x := x + 1) (by rw [List.length_set]; omega) (Cell.mk 0 ⟨fo, ba, bi⟩) hpre.symm]
          have hm := mend_ok W bc pre ((row.set x (Cell.mk r ⟨fo, ba, bi⟩)).set (x + 1) (Cell.mk 0 ⟨fo, ba, bi⟩)) post (by rw [List.length_set, List.length_set]; omega)
          rw [hpre, List.length_set, List.length_set, hrl] at hm
          refine ACalls.lend1 hm (by repeat (first | exact .here _ _ _ | apply Look.there)) ?_
          rintro _ -
          rw [← hflS] at *
          (refine g0_ ?_; repeat ((first | refine n1_ fun b_ => ?_ | refine n2_ fun b_ => ?_ | refine n3_ fun b_ pre_ => ?_ | refine Nat1.mk fun q_ hq_ => ?_ | refine em_ fun x_ hx_ => ?_ | refine Elem1.mk fun e_ he_ => ?_); refine g0_ ?_))
          refine head_ ?_; (refine g0_ ?_; repeat ((first | refine n1_ fun b_ => ?_ | refine n2_ fun b_ => ?_ | refine n3_ fun b_ pre_ => ?_ | refine Nat1.mk fun q_ hq_ => ?_ | refine em_ fun x_ hx_ => ?_ | refine Elem1.mk fun e_ he_ => ?_); refine g0_ ?_))
          rw [behind] at hP
          dsimp only at hP
          by_cases hE : (x : Int) + widthL r < w
          · rw [if_pos hE] at hP
            cases hP
            (refine g1_ ?_; repeat ((first | refine n1_ fun b_ => ?_ | refine n2_ fun b_ => ?_ | refine n3_ fun b_ pre_ => ?_ | refine Nat1.mk fun q_ hq_ => ?_ | refine em_ fun x_ hx_ => ?_ | refine Elem1.mk fun e_ he_ => ?_); refine g1_ ?_))
            exact ⟨(), trivial, rfl, by (first | exact ⟨_, .refl _⟩ | exact wkMem.rfl' | exact ⟨_, .swap _ _ _⟩ | (repeat (first | exact wkMem.nil _ | exact wkMem.rfl' | exact wk_snoc _ _ _ | exact wk_fam (by assumption) _ _ _ | exact wk_famN (by assumption) _ _ _ | (apply wkMem.cons; (case' hl => (repeat (first | exact .here _ _ _ | apply Look.there)))) | apply wkMem.skip)))⟩
          · rw [if_neg hE] at hP
            try simp only [wrapB, hC, not_false_eq_true, decide_true] at hP
            cases hP
            (refine g1_ ?_; repeat ((first | refine n1_ fun b_ => ?_ | refine n2_ fun b_ => ?_ | refine n3_ fun b_ pre_ => ?_ | refine Nat1.mk fun q_ hq_ => ?_ | refine em_ fun x_ hx_ => ?_ | refine Elem1.mk fun e_ he_ => ?_); refine g1_ ?_))
            exact ⟨(), trivial, rfl, by (first | exact ⟨_, .refl _⟩ | exact wkMem.rfl' | exact ⟨_, .swap _ _ _⟩ | (repeat (first | exact wkMem.nil _ | exact wkMem.rfl' | exact wk_snoc _ _ _ | exact wk_fam (by assumption) _ _ _ | exact wk_famN (by assumption) _ _ _ | (apply wkMem.cons; (case' hl => (repeat (first | exact .here _ _ _ | apply Look.there)))) | apply wkMem.skip)))⟩
        · first
            | (exfalso; omega)
            | (skip
               rw [putR, if_neg h2] at hP
               (refine g1_ ?_; repeat ((first | refine n1_ fun b_ => ?_ | refine n2_ fun b_ => ?_ | refine n3_ fun b_ pre_ => ?_ | refine Nat1.mk fun q_ hq_ => ?_ | refine em_ fun x_ hx_ => ?_ | refine Elem1.mk fun e_ he_ => ?_); refine g1_ ?_))
               have hm := mend_ok W bc pre (row.set x (Cell.mk r ⟨fo, ba, bi⟩)) post (by rw [List.length_set]; omega)
               rw [hpre, List.length_set, hrl] at hm
               refine ACalls.lend1 hm (by repeat (first | exact .here _ _ _ | apply Look.there)) ?_
               rintro _ -
               rw [← hflS] at *
               (refine g0_ ?_; repeat ((first | refine n1_ fun b_ => ?_ | refine n2_ fun b_ => ?_ | refine n3_ fun b_ pre_ => ?_ | refine Nat1.mk fun q_ hq_ => ?_ | refine em_ fun x_ hx_ => ?_ | refine Elem1.mk fun e_ he_ => ?_); refine g0_ ?_))
               refine head_ ?_; (refine g0_ ?_; repeat ((first | refine n1_ fun b_ => ?_ | refine n2_ fun b_ => ?_ | refine n3_ fun b_ pre_ => ?_ | refine Nat1.mk fun q_ hq_ => ?_ | refine em_ fun x_ hx_ => ?_ | refine Elem1.mk fun e_ he_ => ?_); refine g0_ ?_))
               rw [behind] at hP
               dsimp only at hP
               by_cases hE : (x : Int) + widthL r < w
               · rw [if_pos hE] at hP
                 cases hP
                 (refine g1_ ?_; repeat ((first | refine n1_ fun b_ => ?_ | refine n2_ fun b_ => ?_ | refine n3_ fun b_ pre_ => ?_ | refine Nat1.mk fun q_ hq_ => ?_ | refine em_ fun x_ hx_ => ?_ | refine Elem1.mk fun e_ he_ => ?_); refine g1_ ?_))
                 exact ⟨(), trivial, rfl, by (first | exact ⟨_, .refl _⟩ | exact wkMem.rfl' | exact ⟨_, .swap _ _ _⟩ | (repeat (first | exact wkMem.nil _ | exact wkMem.rfl' | exact wk_snoc _ _ _ | exact wk_fam (by assumption) _ _ _ | exact wk_famN (by assumption) _ _ _ | (apply wkMem.cons; (case' hl => (repeat (first | exact .here _ _ _ | apply Look.there)))) | apply wkMem.skip)))⟩
               · rw [if_neg hE] at hP
                 try simp only [wrapB, hC, not_false_eq_true, decide_true] at hP
                 cases hP
                 (refine g1_ ?_; repeat ((first | refine n1_ fun b_ => ?_ | refine n2_ fun b_ => ?_ | refine n3_ fun b_ pre_ => ?_ | refine Nat1.mk fun q_ hq_ => ?_ | refine em_ fun x_ hx_ => ?_ | refine Elem1.mk fun e_ he_ => ?_); refine g1_ ?_))
                 exact ⟨(), trivial, rfl, by (first | exact ⟨_, .refl _⟩ | exact wkMem.rfl' | exact ⟨_, .swap _ _ _⟩ | (repeat (first | exact wkMem.nil _ | exact wkMem.rfl' | exact wk_snoc _ _ _ | exact wk_fam (by assumption) _ _ _ | exact wk_famN (by assumption) _ _ _ | (apply wkMem.cons; (case' hl => (repeat (first | exact .here _ _ _ | apply Look.there)))) | apply wkMem.skip)))⟩
               )
end Go.Eng.YtphoefglfbifdaaDoor
end

/- Screens: the fact that the laws look at first. -/
section
namespace Go.Eng.YtphoefglfbifdaaDoor
open Go Go.Eng Go.Proofs
variable (W : World)
set_option linter.unusedSimpArgs false
set_option maxRecDepth 100000
set_option linter.unusedVariables false
set_option maxHeartbeats 8000000
/-- A screen with these rows. -/
def withL (p : Scr × List (List Cell)) : Scr := { p.1 with g := { p.1.g with cs := p.2.flatten } }
def L0 : List (List Cell) := [[blankC, blankC], [blankC, blankC]]
def s0 : Scr := newS 2 2
def q1 : Scr × List (List Cell) := printP (s0, L0) 97
def q2 : Scr × List (List Cell) := printP q1 98
def q3 : Scr × List (List Cell) := printP q2 99
abbrev abc : List UInt8 := [97, 98, 99]
theorem rowsB {L : List (List Cell)} (h : (decide (L.length = 2) && L.all fun r => decide (r.length = 2)) = true) : RowsOk L 2 2 := by
  simp only [Bool.and_eq_true, decide_eq_true_eq, List.all_eq_true] at h
  exact ⟨h.1, h.2, by decide, by decide, by decide, by decide⟩
theorem abc1_ok (hT : Tabs W) (b bc bt bg bT : Nat) : ACalls Tryd.prog W 24 [.bref b 0, .bref bT 0]
    [scrB b bc (2 * 2) (.rsl bt 1 0 2) (.rsl bg 1 0 0) s0, ⟨bc, .row 4 (L0.flatten.map encCell) 0⟩, ⟨bt, .row 1 (s0.tabs.map PV.bool) 0⟩, ⟨bg, .row 1 [] 0⟩, ⟨bT, .row 1 [.str [97, 98, 99]] 0⟩] (fun v σ' => v = .tup [] ∧ Done b (withL q3) σ') := by
  have h1 := print1_ok W b bc (.rsl bt 1 0 2) (.rsl bg 1 0 0) s0 (w := 2) (h := 2) (L := L0) (rowsB (by decide +kernel)) (by decide +kernel) (by decide +kernel) 97 (by unfold i32ok; omega) (by decide +kernel) (by decide +kernel) (by decide +kernel) (by decide +kernel)
  have h2 := print1_ok W b bc (.rsl bt 1 0 2) (.rsl bg 1 0 0) q1.1 (w := 2) (h := 2) (L := q1.2) (rowsB (by decide +kernel)) (by decide +kernel) (by decide +kernel) 98 (by unfold i32ok; omega) (by decide +kernel) (by decide +kernel) (by decide +kernel) (by decide +kernel)
  have h3 := print1_ok W b bc (.rsl bt 1 0 2) (.rsl bg 1 0 0) q2.1 (w := 2) (h := 2) (L := q2.2) (rowsB (by decide +kernel)) (by decide +kernel) (by decide +kernel) 99 (by unfold i32ok; omega) (by decide +kernel) (by decide +kernel) (by decide +kernel) (by decide +kernel)
  rw [show printP (s0, L0) 97 = q1 from rfl] at h1
  rw [show printP (q1.1, q1.2) 98 = q2 from rfl] at h2
  rw [show printP (q2.1, q2.2) 99 = q3 from rfl] at h3
  refine acalls_of_vc (drawOk W) Tryd.func24 rfl (by decide) (by decide) rfl ?_
  (refine g0_ ?_; repeat ((first | refine n1_ fun b_ => ?_ | refine n2_ fun b_ => ?_ | refine n3_ fun b_ pre_ => ?_ | refine Nat1.mk fun q_ hq_ => ?_ | refine em_ fun x_ hx_ => ?_ | refine Elem1.mk fun e_ he_ => ?_); refine g0_ ?_))
  have n1 := next_ok W hT [97, 98, 99]
  have n2 := next_ok W hT [98, 99]
  have n3 := next_ok W hT [99]
  rw [show nextL [97, 98, 99] = (97, 1) by decide +kernel] at n1
  rw [show nextL [98, 99] = (98, 1) by decide +kernel] at n2
  rw [show nextL [99] = (99, 1) by decide +kernel] at n3
  dsimp only at n1 n2 n3
  refine .run ⟨4, ?_⟩
  (refine g1_ ?_; repeat ((first | refine n1_ fun b_ => ?_ | refine n2_ fun b_ => ?_ | refine n3_ fun b_ pre_ => ?_ | refine Nat1.mk fun q_ hq_ => ?_ | refine em_ fun x_ hx_ => ?_ | refine Elem1.mk fun e_ he_ => ?_); refine g1_ ?_))
  refine (n1).use ?_; (refine g0_ ?_; repeat ((first | refine n1_ fun b_ => ?_ | refine n2_ fun b_ => ?_ | refine n3_ fun b_ pre_ => ?_ | refine Nat1.mk fun q_ hq_ => ?_ | refine em_ fun x_ hx_ => ?_ | refine Elem1.mk fun e_ he_ => ?_); refine g0_ ?_))
  (refine g1_ ?_; repeat ((first | refine n1_ fun b_ => ?_ | refine n2_ fun b_ => ?_ | refine n3_ fun b_ pre_ => ?_ | refine Nat1.mk fun q_ hq_ => ?_ | refine em_ fun x_ hx_ => ?_ | refine Elem1.mk fun e_ he_ => ?_); refine g1_ ?_))
  refine ACalls.lend h1 (r := [⟨bt, .row 1 (s0.tabs.map PV.bool) 0⟩, ⟨bg, .row 1 [] 0⟩, ⟨bT, .row 1 [.str [98, 99]] 0⟩]) (List.perm_append_comm (l₁ := [_]) (l₂ := [_, _, _, _])) ?_
  rintro _ -
  (refine g1_ ?_; repeat ((first | refine n1_ fun b_ => ?_ | refine n2_ fun b_ => ?_ | refine n3_ fun b_ pre_ => ?_ | refine Nat1.mk fun q_ hq_ => ?_ | refine em_ fun x_ hx_ => ?_ | refine Elem1.mk fun e_ he_ => ?_); refine g1_ ?_))
  refine (n2).use ?_; (refine g0_ ?_; repeat ((first | refine n1_ fun b_ => ?_ | refine n2_ fun b_ => ?_ | refine n3_ fun b_ pre_ => ?_ | refine Nat1.mk fun q_ hq_ => ?_ | refine em_ fun x_ hx_ => ?_ | refine Elem1.mk fun e_ he_ => ?_); refine g0_ ?_))
  (refine g1_ ?_; repeat ((first | refine n1_ fun b_ => ?_ | refine n2_ fun b_ => ?_ | refine n3_ fun b_ pre_ => ?_ | refine Nat1.mk fun q_ hq_ => ?_ | refine em_ fun x_ hx_ => ?_ | refine Elem1.mk fun e_ he_ => ?_); refine g1_ ?_))
  refine ACalls.lend h2 (r := [⟨bt, .row 1 (s0.tabs.map PV.bool) 0⟩, ⟨bg, .row 1 [] 0⟩, ⟨bT, .row 1 [.str [99]] 0⟩]) (List.perm_append_comm (l₁ := [_]) (l₂ := [_, _, _, _])) ?_
  rintro _ -
  (refine g1_ ?_; repeat ((first | refine n1_ fun b_ => ?_ | refine n2_ fun b_ => ?_ | refine n3_ fun b_ pre_ => ?_ | refine Nat1.mk fun q_ hq_ => ?_ | refine em_ fun x_ hx_ => ?_ | refine Elem1.mk fun e_ he_ => ?_); refine g1_ ?_))
  refine (n3).use ?_; (refine g0_ ?_; repeat ((first | refine n1_ fun b_ => ?_ | refine n2_ fun b_ => ?_ | refine n3_ fun b_ pre_ => ?_ | refine Nat1.mk fun q_ hq_ => ?_ | refine em_ fun x_ hx_ => ?_ | refine Elem1.mk fun e_ he_ => ?_); refine g0_ ?_))
  (refine g1_ ?_; repeat ((first | refine n1_ fun b_ => ?_ | refine n2_ fun b_ => ?_ | refine n3_ fun b_ pre_ => ?_ | refine Nat1.mk fun q_ hq_ => ?_ | refine em_ fun x_ hx_ => ?_ | refine Elem1.mk fun e_ he_ => ?_); refine g1_ ?_))
  refine ACalls.lend h3 (r := [⟨bt, .row 1 (s0.tabs.map PV.bool) 0⟩, ⟨bg, .row 1 [] 0⟩, ⟨bT, .row 1 [.str []] 0⟩]) (List.perm_append_comm (l₁ := [_]) (l₂ := [_, _, _, _])) ?_
  rintro _ -
  (refine g1_ ?_; repeat ((first | refine n1_ fun b_ => ?_ | refine n2_ fun b_ => ?_ | refine n3_ fun b_ pre_ => ?_ | refine Nat1.mk fun q_ hq_ => ?_ | refine em_ fun x_ hx_ => ?_ | refine Elem1.mk fun e_ he_ => ?_); refine g1_ ?_))
  refine ⟨rfl, bc, 2 * 2, bt, 2, _, [⟨bc, .row 4 (q3.2.flatten.map encCell) 0⟩, ⟨bt, .row 1 (s0.tabs.map PV.bool) 0⟩, ⟨bg, .row 1 [] 0⟩, ⟨bT, .row 1 [.str []] 0⟩], ?_, .inr ⟨bg, 0, 0, rfl⟩, ?_, ?_, ?_⟩
  · exact .refl _
  · exact frz_row (.here _ _ _) _ (by decide +kernel)
  · exact frz_row (l := s0.tabs.map PV.bool) (.there _ _ _ _ _ (.here _ _ _)) _ (by decide +kernel)
  · exact frz_row (l := []) (.there _ _ _ _ _ (.there _ _ _ _ _ (.here _ _ _))) _ rfl
theorem check_s0 : checkS s0 = 0 := by
  have c1 : checkG s0.g = 0 := by decide +kernel
  rw [checkS, if_neg (by rw [c1]; simp), if_neg (by decide +kernel), if_neg (by decide +kernel), if_neg (by decide +kernel), if_neg (by decide +kernel), if_neg ?_, if_neg (by decide +kernel), if_pos (by decide +kernel)]
  rw [show s0.title = [] from rfl, cleanL_nil, runes_nil]
  decide +kernel
theorem blankC_ok : blankC.ok := ⟨by show i32ok 32; unfold i32ok; omega, by show i64ok 0 ∧ i64ok 0 ∧ i64ok 0; unfold i64ok; omega⟩
theorem newGS_ok (w h : Nat) (hw : w ≤ 120) (hh : h ≤ 60) : (newG w h).ok := by
  have : w * h ≤ 120 * 60 := Nat.mul_le_mul hw hh
  refine ⟨by show i64ok (w : Int); unfold i64ok; omega, by show i64ok (h : Int); unfold i64ok; omega, fun c hc => ?_, ?_⟩
  · rw [List.eq_of_mem_replicate hc]; exact blankC_ok
  · show (List.replicate ((w : Int) * h).toNat blankC).length * 32 ≤ _
    rw [List.length_replicate, show ((w : Int) * h).toNat = w * h by exact_mod_cast Int.toNat_natCast (w * h)]
    omega
theorem newS_ok (w h : Nat) (hw : w ≤ 120) (hh : h ≤ 60) : (newS w h).ok := by
  have h0 : i64ok 0 := by unfold i64ok; omega
  have h4 : i64ok 4 := by unfold i64ok; omega
  refine ⟨newGS_ok w h hw hh, h0, h0, ⟨h0, h0, h0⟩, h0, by show i64ok ((h : Int) - 1); unfold i64ok; omega, h4, ?_, h0, h0, ⟨h0, h0, h0⟩, h4, by show i32ok 0; unfold i32ok; omega, by show 0 ≤ 1048576; omega, by show 0 * 24 ≤ _; omega, fun r hr => by cases hr⟩
  show (tabsN w w).length ≤ _
  rw [tabs_len]; omega
def s3 : Scr := ⟨⟨2, 2, [⟨97, ⟨0, 0, 0⟩⟩, ⟨98, ⟨0, 0, 0⟩⟩, ⟨99, ⟨0, 0, 0⟩⟩, blankC]⟩, 1, 1, false, ⟨0, 0, 0⟩, 0, 1, 4, [false, false], 0, 0, ⟨0, 0, 0⟩, 4, 99, [], []⟩
theorem q3_eq : withL q3 = s3 := by kernel_rfl
theorem text0_ok (hT : Tabs W) : Pure Tryd.prog W 7 [encScr s0, .str [97, 98, 99]] (.tup [encScr (withL q3), .int .i64 0]) := by
  have hok : s0.ok := newS_ok 2 2 (by omega) (by omega)
  refine Pure.of (acalls_of_vc (drawOk W) Tryd.func7 rfl (by decide) (by decide) rfl ?_)
  (refine g0_ ?_; repeat ((first | refine n1_ fun b_ => ?_ | refine n2_ fun b_ => ?_ | refine n3_ fun b_ pre_ => ?_ | refine Nat1.mk fun q_ hq_ => ?_ | refine em_ fun x_ hx_ => ?_ | refine Elem1.mk fun e_ he_ => ?_); refine g0_ ?_))
  (refine g1_ ?_; repeat ((first | refine n1_ fun b_ => ?_ | refine n2_ fun b_ => ?_ | refine n3_ fun b_ pre_ => ?_ | refine Nat1.mk fun q_ hq_ => ?_ | refine em_ fun x_ hx_ => ?_ | refine Elem1.mk fun e_ he_ => ?_); refine g1_ ?_))
  rename_i b1 b2
  refine ACalls.lendF (change_ok W hT s0 hok check_s0 24 [.bref b2 0] [⟨b2, .row 1 [.str [97, 98, 99]] 0⟩] (withL q3) (fun b bc bt bg => abc1_ok W hT b bc bt bg b2)) (.swap _ _ _) ?_
  rw [q3_eq]
  (refine g0_ ?_; repeat ((first | refine n1_ fun b_ => ?_ | refine n2_ fun b_ => ?_ | refine n3_ fun b_ pre_ => ?_ | refine Nat1.mk fun q_ hq_ => ?_ | refine em_ fun x_ hx_ => ?_ | refine Elem1.mk fun e_ he_ => ?_); refine g0_ ?_))
  exact .refl _
theorem printed_ok (hT : Tabs W) : Pure Tryd.prog W 8 [] (.bool true) := by
  have hn := putNew_ok W 2 2
  rw [show newSE 2 2 = (s0, 0) from rfl] at hn
  have ht := text0_ok W hT
  rw [q3_eq] at ht
  dsimp only at hn
  refine Pure.of (acalls_of_vc (drawOk W) Tryd.func8 rfl (by decide) (by decide) rfl ?_)
  (refine g0_ ?_; repeat ((first | refine n1_ fun b_ => ?_ | refine n2_ fun b_ => ?_ | refine n3_ fun b_ pre_ => ?_ | refine Nat1.mk fun q_ hq_ => ?_ | refine em_ fun x_ hx_ => ?_ | refine Elem1.mk fun e_ he_ => ?_); refine g0_ ?_))
  refine (hn).use ?_; (refine g0_ ?_; repeat ((first | refine n1_ fun b_ => ?_ | refine n2_ fun b_ => ?_ | refine n3_ fun b_ pre_ => ?_ | refine Nat1.mk fun q_ hq_ => ?_ | refine em_ fun x_ hx_ => ?_ | refine Elem1.mk fun e_ he_ => ?_); refine g0_ ?_))
  (refine g1_ ?_; repeat ((first | refine n1_ fun b_ => ?_ | refine n2_ fun b_ => ?_ | refine n3_ fun b_ pre_ => ?_ | refine Nat1.mk fun q_ hq_ => ?_ | refine em_ fun x_ hx_ => ?_ | refine Elem1.mk fun e_ he_ => ?_); refine g1_ ?_))
  refine (ht).use ?_; (refine g0_ ?_; repeat ((first | refine n1_ fun b_ => ?_ | refine n2_ fun b_ => ?_ | refine n3_ fun b_ pre_ => ?_ | refine Nat1.mk fun q_ hq_ => ?_ | refine em_ fun x_ hx_ => ?_ | refine Elem1.mk fun e_ he_ => ?_); refine g0_ ?_))
  (refine g1_ ?_; repeat ((first | refine n1_ fun b_ => ?_ | refine n2_ fun b_ => ?_ | refine n3_ fun b_ pre_ => ?_ | refine Nat1.mk fun q_ hq_ => ?_ | refine em_ fun x_ hx_ => ?_ | refine Elem1.mk fun e_ he_ => ?_); refine g1_ ?_))
  refine need.mk (by decide +kernel) ?_
  (refine g1_ ?_; repeat ((first | refine n1_ fun b_ => ?_ | refine n2_ fun b_ => ?_ | refine n3_ fun b_ pre_ => ?_ | refine Nat1.mk fun q_ hq_ => ?_ | refine em_ fun x_ hx_ => ?_ | refine Elem1.mk fun e_ he_ => ?_); refine g1_ ?_))
  exact .refl _
end Go.Eng.YtphoefglfbifdaaDoor
end
