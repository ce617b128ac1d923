/- Texts put together: Dsk9, Dsk10. -/
import Derived.Test.YtgpkedepboenpaaDoorMK3
/- Tabs: package move's Tab, TabBack, SetTab, ClearTab, the desk's; the law MoveTabs. -/
section
namespace Go.Eng.YtgpkedepboenpaaDoor
open Go Go.Eng Go.Proofs
variable (W : World)
set_option linter.unusedSimpArgs false
set_option maxRecDepth 100000
set_option linter.unusedVariables false
set_option maxHeartbeats 8000000
/-- The next tab from a place on. -/
def fwdF (tabs : List Bool) : Nat → Nat → Nat
  | 0, x => x
  | f + 1, x => if tabs.getD x false = true then x else fwdF tabs f (x + 1)
/-- The last tab ahead of a place. -/
def backF (tabs : List Bool) : Nat → Nat
  | 0 => 0
  | n + 1 => if tabs.getD n false = true then n else backF tabs n
def tabX (s : Scr) : Nat := fwdF s.tabs (s.g.w.toNat - (s.x.toNat + 1)) (s.x.toNat + 1)
def tabS1 (s : Scr) : Scr := atS s (tabX s) s.y
def backS1 (s : Scr) : Scr := atS s (backF s.tabs s.x.toNat) s.y
def tabS (s : Scr) (n : Int) : Scr := iterF tabS1 (min (timesL n) s.g.w).toNat s
def tabBackS (s : Scr) (n : Int) : Scr := iterF backS1 (min (timesL n) s.g.w).toNat s
theorem fwdF_hit {tabs : List Bool} {f x : Nat} (h : tabs[x]? = some true) : fwdF tabs f x = x := by
  cases f with
  | zero => rfl
  | succ f => rw [fwdF, if_pos (by rw [List.getD_eq_getElem?_getD, h]; rfl)]
theorem fwdF_miss {tabs : List Bool} {f x : Nat} (h : tabs[x]? = some false) : fwdF tabs (f + 1) x = fwdF tabs f (x + 1) := by
  rw [fwdF, if_neg (by rw [List.getD_eq_getElem?_getD, h]; simp)]
theorem backF_hit {tabs : List Bool} {x : Nat} (h : tabs[x]? = some true) : backF tabs (x + 1) = x := by
  rw [backF, if_pos (by rw [List.getD_eq_getElem?_getD, h]; rfl)]
theorem backF_miss {tabs : List Bool} {x : Nat} (h : tabs[x]? = some false) : backF tabs (x + 1) = backF tabs x := by
  rw [backF, if_neg (by rw [List.getD_eq_getElem?_getD, h]; simp)]
theorem fwdF_le (tabs : List Bool) : ∀ f x, fwdF tabs f x ≤ f + x
  | 0, x => by rw [fwdF]; omega
  | f + 1, x => by
    rw [fwdF]
    split
    · omega
    · have := fwdF_le tabs f (x + 1); omega
theorem backF_le (tabs : List Bool) : ∀ n, backF tabs n ≤ n
  | 0 => Nat.le_refl _
  | n + 1 => by
    rw [backF]
    split
    · omega
    · have := backF_le tabs n; omega
/-- A screen that stands within, with these tabs. -/
structure Within (s : Scr) (w h : Nat) (l : List Bool) : Prop where
  ew : s.g.w = w
  eh : s.g.h = h
  x : 0 ≤ s.x ∧ s.x < w
  y : 0 ≤ s.y ∧ s.y < h
  tabs : s.tabs = l
theorem Within.at {s : Scr} {w h : Nat} {tabs : List Bool} (f : Within s w h tabs) (x y : Int) : Within (atS s x y) w h tabs := by
  obtain ⟨h1, h2, h3, h4, h5⟩ := f
  refine ⟨h1, h2, ?_, ?_, h5⟩
  · show 0 ≤ min (max x 0) (s.g.w - 1) ∧ min (max x 0) (s.g.w - 1) < w
    omega
  · show 0 ≤ min (max y 0) (s.g.h - 1) ∧ min (max y 0) (s.g.h - 1) < h
    omega
theorem within_of {s : Scr} {w h : Nat} (hr : s.right w h) : Within s w h s.tabs := ⟨hr.fit.ew, hr.fit.eh, hr.x, hr.y, rfl⟩
theorem at_row {s s' : Scr} {x y : Int} (h : s' = atS s x y) : s'.g = s.g ∧ s'.tabs = s.tabs ∧ s'.gone = s.gone := by subst h; exact ⟨rfl, rfl, rfl⟩
theorem tabS_same (n : Nat) : ∀ (s : Scr), (iterF tabS1 n s).g = s.g ∧ (iterF tabS1 n s).tabs = s.tabs ∧ (iterF tabS1 n s).gone = s.gone := by
  induction n with
  | zero => intro s; exact ⟨rfl, rfl, rfl⟩
  | succ n ih => intro s; exact ih (tabS1 s)
theorem backS_same (n : Nat) : ∀ (s : Scr), (iterF backS1 n s).g = s.g ∧ (iterF backS1 n s).tabs = s.tabs ∧ (iterF backS1 n s).gone = s.gone := by
  induction n with
  | zero => intro s; exact ⟨rfl, rfl, rfl⟩
  | succ n ih => intro s; exact ih (backS1 s)
/-- The tabs' block. -/
abbrev tabB (bt : Nat) (l : List Bool) : Blk := ⟨bt, .row 1 (l.map PV.bool) 0⟩
theorem tab1_ok (b bc N bt bn : Nat) (gv : PV) (s : Scr) (n : Int) (h0 : checkS s = 0) : ACalls Tryd.prog W 100 [.bref b 0, .bref bn 0] [scrB b bc N (.rsl bt 1 0 s.tabs.length) gv s, tabB bt s.tabs, numB bn n]
    (Gives (fun _ : Unit => .tup []) (fun _ => [scrB b bc N (.rsl bt 1 0 s.tabs.length) gv (tabS s n), tabB bt s.tabs, numB bn n]) (fun _ => True)) := by
  obtain ⟨w, h, hr⟩ := right_of h0
  have hw1 := hr.fit.w1
  have hw2 := hr.fit.w2
  have hh1 := hr.fit.h1
  have hh2 := hr.fit.h2
  have hwi := within_of hr
  have htl := hr.tabs
  have htm : 1 ≤ timesL n ∧ timesL n ≤ 9999 := by unfold timesL; omega
  have hgw := hr.fit.ew
  clear h0 hr
  obtain ⟨K, hK⟩ : ∃ K : Nat, (K : Int) = min (timesL n) w := ⟨(min (timesL n) w).toNat, by omega⟩
  rw [tabS, hgw, show (min (timesL n) (w : Int)).toNat = K by omega]
  generalize hT : s.tabs = tabs at *
  generalize hF : iterF tabS1 K s = F
  refine acalls_of_vc (DL_ok (by decide)) Tryd.func100 rfl (by decide) (by decide) rfl ?_
  (refine g0_ ?_; repeat ((first | refine n1_ fun b_ => ?_ | refine n2_ fun b_ => ?_ | refine n3_ fun b_ pre_ => ?_ | refine Nat1.mk fun q_ hq_ => ?_ | refine em_ fun x_ hx_ => ?_ | refine Elem1.mk fun e_ he_ => ?_); refine g0_ ?_))
  refine headL_ (head_ ?_); (refine g0_ ?_; repeat ((first | refine n1_ fun b_ => ?_ | refine n2_ fun b_ => ?_ | refine n3_ fun b_ pre_ => ?_ | refine Nat1.mk fun q_ hq_ => ?_ | refine em_ fun x_ hx_ => ?_ | refine Elem1.mk fun e_ he_ => ?_); refine g0_ ?_))
  refine ⟨_, (times_ok W n).quiet, ?_⟩; (refine g0_ ?_; repeat ((first | refine n1_ fun b_ => ?_ | refine n2_ fun b_ => ?_ | refine n3_ fun b_ pre_ => ?_ | refine Nat1.mk fun q_ hq_ => ?_ | refine em_ fun x_ hx_ => ?_ | refine Elem1.mk fun e_ he_ => ?_); refine g0_ ?_))
  simp only [ifmin]
  rw [hgw, ← hK]
  refine' loopI (α := Nat × Scr) (fun (i, s') => [(12, .int .i64 i)]) [(0, _), (11, _)] (fun (i, s') => [scrB b bc N (.rsl bt 1 0 tabs.length) gv s', tabB bt tabs, numB bn n]) (fun (i, s') => i ≤ K ∧ Within s' w h tabs ∧ iterF tabS1 (K - i) s' = F) (fun (i, s') => K - i) (0, s) ?_ ?_
  · exact ⟨Nat.zero_le _, hwi, hF⟩
  rintro ⟨i, s'⟩ ⟨hi, hw', hit⟩
  dsimp only at hi hw' hit ⊢
  have e1 := hw'.ew
  have e2 := hw'.eh
  have e3 := hw'.x
  have e4 := hw'.y
  have e5 := hw'.tabs
  (refine g0_ ?_; repeat ((first | refine n1_ fun b_ => ?_ | refine n2_ fun b_ => ?_ | refine n3_ fun b_ pre_ => ?_ | refine Nat1.mk fun q_ hq_ => ?_ | refine em_ fun x_ hx_ => ?_ | refine Elem1.mk fun e_ he_ => ?_); refine g0_ ?_))
  refine brec ?_; intro c_ h1; (try rw [h1]); cases c_ <;> replace h1 := nm_ h1
  · have : i = K := by omega
    subst this
    rw [Nat.sub_self, iterF] at hit
    subst hit
    (refine g0_ ?_; repeat ((first | refine n1_ fun b_ => ?_ | refine n2_ fun b_ => ?_ | refine n3_ fun b_ pre_ => ?_ | refine Nat1.mk fun q_ hq_ => ?_ | refine em_ fun x_ hx_ => ?_ | refine Elem1.mk fun e_ he_ => ?_); refine g0_ ?_))
    exact ⟨(), trivial, rfl, by (first | exact ⟨_, .refl _⟩ | exact wkMem.rfl' | exact ⟨_, .swap _ _ _⟩ | (repeat (first | exact wkMem.nil _ | exact wkMem.rfl' | exact wk_snoc _ _ _ | exact wk_fam (by assumption) _ _ _ | exact wk_famN (by assumption) _ _ _ | (apply wkMem.cons; (case' hl => (repeat (first | exact .here _ _ _ | apply Look.there)))) | apply wkMem.skip)))⟩
  · obtain ⟨X, hX⟩ := Int.eq_ofNat_of_zero_le e3.1
    have hstep : ∀ x : Nat, fwdF tabs (w - x) x = tabX s' → (x = w ∨ tabs[x]? = some true) → tabS1 s' = atS s' x s'.y := fun x hx1 hx2 => by
      rw [tabS1, ← hx1]
      rcases hx2 with rfl | hx2
      · rw [Nat.sub_self, fwdF]
      · rw [fwdF_hit hx2]
    have hwn := fun (x : Int) => hw'.at x s'.y
    have hat := fun (x : Int) => at_okS W b bc N (.rsl bt 1 0 tabs.length) gv s' x s'.y (by omega) (by omega)
    have hsub : K - i = (K - (i + 1)) + 1 := by omega
    rw [hsub, iterF] at hit
    (refine g0_ ?_; repeat ((first | refine n1_ fun b_ => ?_ | refine n2_ fun b_ => ?_ | refine n3_ fun b_ pre_ => ?_ | refine Nat1.mk fun q_ hq_ => ?_ | refine em_ fun x_ hx_ => ?_ | refine Elem1.mk fun e_ he_ => ?_); refine g0_ ?_))
    rw [hX]
    refine' loopI (α := Nat) (fun x => [(3, .int .i64 x)]) [(0, _), (11, _), (12, _)] (fun x => [scrB b bc N (.rsl bt 1 0 tabs.length) gv s', tabB bt tabs, numB bn n]) (fun x => X + 1 ≤ x ∧ x ≤ w ∧ fwdF tabs (w - x) x = tabX s') (fun x => w - x) (X + 1) ?_ ?_
    · refine ⟨Nat.le_refl _, by omega, ?_⟩
      rw [tabX, e5, e1, hX, Int.toNat_natCast, Int.toNat_natCast]
    rintro x ⟨hx1, hx2, hx3⟩
    by_cases hx : x < w
    · obtain ⟨tb, htb⟩ : ∃ tb, tabs[x]? = some tb := ⟨_, List.getElem?_eq_getElem (by omega)⟩
      cases tb
      · (refine g1_ ?_; repeat ((first | refine n1_ fun b_ => ?_ | refine n2_ fun b_ => ?_ | refine n3_ fun b_ pre_ => ?_ | refine Nat1.mk fun q_ hq_ => ?_ | refine em_ fun x_ hx_ => ?_ | refine Elem1.mk fun e_ he_ => ?_); refine g1_ ?_))
        refine nx_ (x + 1) ?_ ?_
        · refine ⟨by omega, by omega, ?_⟩
          rw [← hx3, show w - x = (w - (x + 1)) + 1 by omega, fwdF_miss htb]
        · omega
      · (refine g1_ ?_; repeat ((first | refine n1_ fun b_ => ?_ | refine n2_ fun b_ => ?_ | refine n3_ fun b_ pre_ => ?_ | refine Nat1.mk fun q_ hq_ => ?_ | refine em_ fun x_ hx_ => ?_ | refine Elem1.mk fun e_ he_ => ?_); refine g1_ ?_))
        refine ACalls.lend (hat x) (r := [tabB bt tabs, numB bn n]) (.refl _) ?_
        rintro _ -
        (refine g0_ ?_; repeat ((first | refine n1_ fun b_ => ?_ | refine n2_ fun b_ => ?_ | refine n3_ fun b_ pre_ => ?_ | refine Nat1.mk fun q_ hq_ => ?_ | refine em_ fun x_ hx_ => ?_ | refine Elem1.mk fun e_ he_ => ?_); refine g0_ ?_))
        refine nx_ (i + 1, atS s' x s'.y) ?_ ?_
        · refine ⟨by omega, hwn x, ?_⟩
          rw [← hstep x hx3 (.inr htb)]
          exact hit
        · show K - (i + 1) < K - i
          omega
    · obtain rfl : x = w := by omega
      (refine g1_ ?_; repeat ((first | refine n1_ fun b_ => ?_ | refine n2_ fun b_ => ?_ | refine n3_ fun b_ pre_ => ?_ | refine Nat1.mk fun q_ hq_ => ?_ | refine em_ fun x_ hx_ => ?_ | refine Elem1.mk fun e_ he_ => ?_); refine g1_ ?_))
      refine ACalls.lend (hat x) (r := [tabB bt tabs, numB bn n]) (.refl _) ?_
      rintro _ -
      (refine g0_ ?_; repeat ((first | refine n1_ fun b_ => ?_ | refine n2_ fun b_ => ?_ | refine n3_ fun b_ pre_ => ?_ | refine Nat1.mk fun q_ hq_ => ?_ | refine em_ fun x_ hx_ => ?_ | refine Elem1.mk fun e_ he_ => ?_); refine g0_ ?_))
      refine nx_ (i + 1, atS s' x s'.y) ?_ ?_
      · refine ⟨by omega, hwn x, ?_⟩
        rw [← hstep x hx3 (.inl rfl)]
        exact hit
      · show K - (i + 1) < K - i
        omega
theorem tabBack1_ok (b bc N bt bn : Nat) (gv : PV) (s : Scr) (n : Int) (h0 : checkS s = 0) : ACalls Tryd.prog W 101 [.bref b 0, .bref bn 0] [scrB b bc N (.rsl bt 1 0 s.tabs.length) gv s, tabB bt s.tabs, numB bn n]
    (Gives (fun _ : Unit => .tup []) (fun _ => [scrB b bc N (.rsl bt 1 0 s.tabs.length) gv (tabBackS s n), tabB bt s.tabs, numB bn n]) (fun _ => True)) := by
  obtain ⟨w, h, hr⟩ := right_of h0
  have hw1 := hr.fit.w1
  have hw2 := hr.fit.w2
  have hh1 := hr.fit.h1
  have hh2 := hr.fit.h2
  have hwi := within_of hr
  have htl := hr.tabs
  have htm : 1 ≤ timesL n ∧ timesL n ≤ 9999 := by unfold timesL; omega
  have hgw := hr.fit.ew
  clear h0 hr
  obtain ⟨K, hK⟩ : ∃ K : Nat, (K : Int) = min (timesL n) w := ⟨(min (timesL n) w).toNat, by omega⟩
  rw [tabBackS, hgw, show (min (timesL n) (w : Int)).toNat = K by omega]
  generalize hT : s.tabs = tabs at *
  generalize hF : iterF backS1 K s = F
  refine acalls_of_vc (DL_ok (by decide)) Tryd.func101 rfl (by decide) (by decide) rfl ?_
  (refine g0_ ?_; repeat ((first | refine n1_ fun b_ => ?_ | refine n2_ fun b_ => ?_ | refine n3_ fun b_ pre_ => ?_ | refine Nat1.mk fun q_ hq_ => ?_ | refine em_ fun x_ hx_ => ?_ | refine Elem1.mk fun e_ he_ => ?_); refine g0_ ?_))
  refine headL_ (head_ ?_); (refine g0_ ?_; repeat ((first | refine n1_ fun b_ => ?_ | refine n2_ fun b_ => ?_ | refine n3_ fun b_ pre_ => ?_ | refine Nat1.mk fun q_ hq_ => ?_ | refine em_ fun x_ hx_ => ?_ | refine Elem1.mk fun e_ he_ => ?_); refine g0_ ?_))
  refine ⟨_, (times_ok W n).quiet, ?_⟩; (refine g0_ ?_; repeat ((first | refine n1_ fun b_ => ?_ | refine n2_ fun b_ => ?_ | refine n3_ fun b_ pre_ => ?_ | refine Nat1.mk fun q_ hq_ => ?_ | refine em_ fun x_ hx_ => ?_ | refine Elem1.mk fun e_ he_ => ?_); refine g0_ ?_))
  simp only [ifmin]
  rw [hgw, ← hK]
  refine' loopI (α := Nat × Scr) (fun (i, s') => [(12, .int .i64 i)]) [(0, _), (11, _)] (fun (i, s') => [scrB b bc N (.rsl bt 1 0 tabs.length) gv s', tabB bt tabs, numB bn n]) (fun (i, s') => i ≤ K ∧ Within s' w h tabs ∧ iterF backS1 (K - i) s' = F) (fun (i, s') => K - i) (0, s) ?_ ?_
  · exact ⟨Nat.zero_le _, hwi, hF⟩
  rintro ⟨i, s'⟩ ⟨hi, hw', hit⟩
  dsimp only at hi hw' hit ⊢
  have e1 := hw'.ew
  have e2 := hw'.eh
  have e3 := hw'.x
  have e4 := hw'.y
  have e5 := hw'.tabs
  (refine g0_ ?_; repeat ((first | refine n1_ fun b_ => ?_ | refine n2_ fun b_ => ?_ | refine n3_ fun b_ pre_ => ?_ | refine Nat1.mk fun q_ hq_ => ?_ | refine em_ fun x_ hx_ => ?_ | refine Elem1.mk fun e_ he_ => ?_); refine g0_ ?_))
  refine brec ?_; intro c_ h1; (try rw [h1]); cases c_ <;> replace h1 := nm_ h1
  · have : i = K := by omega
    subst this
    rw [Nat.sub_self, iterF] at hit
    subst hit
    (refine g0_ ?_; repeat ((first | refine n1_ fun b_ => ?_ | refine n2_ fun b_ => ?_ | refine n3_ fun b_ pre_ => ?_ | refine Nat1.mk fun q_ hq_ => ?_ | refine em_ fun x_ hx_ => ?_ | refine Elem1.mk fun e_ he_ => ?_); refine g0_ ?_))
    exact ⟨(), trivial, rfl, by (first | exact ⟨_, .refl _⟩ | exact wkMem.rfl' | exact ⟨_, .swap _ _ _⟩ | (repeat (first | exact wkMem.nil _ | exact wkMem.rfl' | exact wk_snoc _ _ _ | exact wk_fam (by assumption) _ _ _ | exact wk_famN (by assumption) _ _ _ | (apply wkMem.cons; (case' hl => (repeat (first | exact .here _ _ _ | apply Look.there)))) | apply wkMem.skip)))⟩
  · obtain ⟨X, hX⟩ := Int.eq_ofNat_of_zero_le e3.1
    have hB : backS1 s' = atS s' (backF tabs X) s'.y := by rw [backS1, e5, hX, Int.toNat_natCast]
    have hwn := fun (x : Int) => hw'.at x s'.y
    have hat := fun (x : Int) => at_okS W b bc N (.rsl bt 1 0 tabs.length) gv s' x s'.y (by omega) (by omega)
    have hsub : K - i = (K - (i + 1)) + 1 := by omega
    rw [hsub, iterF] at hit
    (refine g0_ ?_; repeat ((first | refine n1_ fun b_ => ?_ | refine n2_ fun b_ => ?_ | refine n3_ fun b_ pre_ => ?_ | refine Nat1.mk fun q_ hq_ => ?_ | refine em_ fun x_ hx_ => ?_ | refine Elem1.mk fun e_ he_ => ?_); refine g0_ ?_))
    rw [hX]
    refine' loopI (α := Nat) (fun k => [(3, .int .i64 ((k : Int) - 1))]) [(0, _), (11, _), (12, _)] (fun k => [scrB b bc N (.rsl bt 1 0 tabs.length) gv s', tabB bt tabs, numB bn n]) (fun k => k ≤ X ∧ backF tabs k = backF tabs X) (fun k => k) X ?_ ?_
    · exact ⟨Nat.le_refl _, rfl⟩
    rintro k ⟨hk1, hk2⟩
    by_cases hk : 1 < k
    · obtain ⟨j, rfl⟩ : ∃ j, k = j + 2 := ⟨k - 2, by omega⟩
      obtain ⟨tb, htb⟩ : ∃ tb, tabs[j + 1]? = some tb := ⟨_, List.getElem?_eq_getElem (by omega)⟩
      rw [show ((j + 2 : Nat) : Int) - 1 = ((j + 1 : Nat) : Int) by omega]
      cases tb
      · (refine g1_ ?_; repeat ((first | refine n1_ fun b_ => ?_ | refine n2_ fun b_ => ?_ | refine n3_ fun b_ pre_ => ?_ | refine Nat1.mk fun q_ hq_ => ?_ | refine em_ fun x_ hx_ => ?_ | refine Elem1.mk fun e_ he_ => ?_); refine g1_ ?_))
        refine nx_ (j + 1) ?_ ?_
        · exact ⟨by omega, by rw [← hk2, backF_miss htb]⟩
        · omega
      · have hp : backS1 s' = atS s' ((j + 1 : Nat) : Int) s'.y := by rw [hB, ← hk2, backF_hit htb]
        (refine g1_ ?_; repeat ((first | refine n1_ fun b_ => ?_ | refine n2_ fun b_ => ?_ | refine n3_ fun b_ pre_ => ?_ | refine Nat1.mk fun q_ hq_ => ?_ | refine em_ fun x_ hx_ => ?_ | refine Elem1.mk fun e_ he_ => ?_); refine g1_ ?_))
        refine ACalls.lend (hat (((j + 1 : Nat) : Int))) (r := [tabB bt tabs, numB bn n]) (.refl _) ?_
        rintro _ -
        (refine g0_ ?_; repeat ((first | refine n1_ fun b_ => ?_ | refine n2_ fun b_ => ?_ | refine n3_ fun b_ pre_ => ?_ | refine Nat1.mk fun q_ hq_ => ?_ | refine em_ fun x_ hx_ => ?_ | refine Elem1.mk fun e_ he_ => ?_); refine g0_ ?_))
        refine nx_ (i + 1, atS s' (((j + 1 : Nat) : Int)) s'.y) ?_ ?_
        · refine ⟨by omega, hwn (((j + 1 : Nat) : Int)), ?_⟩
          rw [← hp]
          exact hit
        · show K - (i + 1) < K - i
          omega
    · have hp : backS1 s' = atS s' ((k : Int) - 1) s'.y := by
        rw [hB, ← hk2]
        have hz : backF tabs k = 0 := by
          obtain rfl | rfl : k = 0 ∨ k = 1 := by omega
          · rfl
          · have := backF_le tabs 0
            rw [backF]
            split <;> rfl
        rw [hz]
        have e : ∀ x x' : Int, max x 0 = max x' 0 → atS s' x s'.y = atS s' x' s'.y := fun x x' hx => by rw [atS, atS, hx]
        exact e _ _ (by omega)
      (refine g1_ ?_; repeat ((first | refine n1_ fun b_ => ?_ | refine n2_ fun b_ => ?_ | refine n3_ fun b_ pre_ => ?_ | refine Nat1.mk fun q_ hq_ => ?_ | refine em_ fun x_ hx_ => ?_ | refine Elem1.mk fun e_ he_ => ?_); refine g1_ ?_))
      refine ACalls.lend (hat ((k : Int) - 1)) (r := [tabB bt tabs, numB bn n]) (.refl _) ?_
      rintro _ -
      (refine g0_ ?_; repeat ((first | refine n1_ fun b_ => ?_ | refine n2_ fun b_ => ?_ | refine n3_ fun b_ pre_ => ?_ | refine Nat1.mk fun q_ hq_ => ?_ | refine em_ fun x_ hx_ => ?_ | refine Elem1.mk fun e_ he_ => ?_); refine g0_ ?_))
      refine nx_ (i + 1, atS s' ((k : Int) - 1) s'.y) ?_ ?_
      · refine ⟨by omega, hwn ((k : Int) - 1), ?_⟩
        rw [← hp]
        exact hit
      · show K - (i + 1) < K - i
        omega
def setTabS (s : Scr) : Scr := { s with tabs := s.tabs.set s.x.toNat true }
def clearTabS (s : Scr) (n : Int) : Scr := if n ≤ 0 then { s with tabs := s.tabs.set s.x.toNat false } else if n = 3 then { s with tabs := List.replicate s.tabs.length false } else s
theorem setTab1_ok (b bc N bt : Nat) (gv : PV) (s : Scr) (h0 : checkS s = 0) : ACalls Tryd.prog W 102 [.bref b 0] [scrB b bc N (.rsl bt 1 0 s.tabs.length) gv s, tabB bt s.tabs]
    (Gives (fun _ : Unit => .tup []) (fun _ => [scrB b bc N (.rsl bt 1 0 (setTabS s).tabs.length) gv (setTabS s), tabB bt (setTabS s).tabs]) (fun _ => True)) := by
  obtain ⟨w, h, hr⟩ := right_of h0
  have hx := hr.x
  have htl := hr.tabs
  obtain ⟨X, hX⟩ := Int.eq_ofNat_of_zero_le hx.1
  clear h0 hr
  rw [setTabS, hX, Int.toNat_natCast]
  obtain ⟨⟨gw, gh, cs⟩, X', Y, late, ⟨fo, ba, bi⟩, tp, bo, modes, tabs, kx, ky, ⟨f2, b2', bi2⟩, km, last, title, gone⟩ := s
  dsimp only at *
  subst hX
  rw [List.length_set, scrB_eq, scrB_eq]
  refine acalls_of_vc (DL_ok (by decide)) Tryd.func102 rfl (by decide) (by decide) rfl ?_
  (refine g0_ ?_; repeat ((first | refine n1_ fun b_ => ?_ | refine n2_ fun b_ => ?_ | refine n3_ fun b_ pre_ => ?_ | refine Nat1.mk fun q_ hq_ => ?_ | refine em_ fun x_ hx_ => ?_ | refine Elem1.mk fun e_ he_ => ?_); refine g0_ ?_))
  refine headL_ (head_ ?_); (refine g0_ ?_; repeat ((first | refine n1_ fun b_ => ?_ | refine n2_ fun b_ => ?_ | refine n3_ fun b_ pre_ => ?_ | refine Nat1.mk fun q_ hq_ => ?_ | refine em_ fun x_ hx_ => ?_ | refine Elem1.mk fun e_ he_ => ?_); refine g0_ ?_))
  rw [Nat.zero_add, ← List.map_set]
  exact ⟨(), trivial, rfl, by (first | exact ⟨_, .refl _⟩ | exact wkMem.rfl' | exact ⟨_, .swap _ _ _⟩ | (repeat (first | exact wkMem.nil _ | exact wkMem.rfl' | exact wk_snoc _ _ _ | exact wk_fam (by assumption) _ _ _ | exact wk_famN (by assumption) _ _ _ | (apply wkMem.cons; (case' hl => (repeat (first | exact .here _ _ _ | apply Look.there)))) | apply wkMem.skip)))⟩
theorem clearTab1_ok (b bc N bt bn : Nat) (gv : PV) (s : Scr) (n : Int) (h0 : checkS s = 0) : ACalls Tryd.prog W 103 [.bref b 0, .bref bn 0] [scrB b bc N (.rsl bt 1 0 s.tabs.length) gv s, tabB bt s.tabs, numB bn n]
    (Gives (fun _ : Unit => .tup []) (fun _ => [scrB b bc N (.rsl bt 1 0 (clearTabS s n).tabs.length) gv (clearTabS s n), tabB bt (clearTabS s n).tabs, numB bn n]) (fun _ => True)) := by
  obtain ⟨w, h, hr⟩ := right_of h0
  have hx := hr.x
  have htl := hr.tabs
  obtain ⟨X, hX⟩ := Int.eq_ofNat_of_zero_le hx.1
  clear h0 hr
  rw [clearTabS, hX, Int.toNat_natCast]
  obtain ⟨⟨gw, gh, cs⟩, X', Y, late, ⟨fo, ba, bi⟩, tp, bo, modes, tabs, kx, ky, ⟨f2, b2', bi2⟩, km, last, title, gone⟩ := s
  dsimp only at *
  subst hX
  by_cases k0 : n ≤ 0
  · rw [if_pos k0]
    dsimp only
    rw [List.length_set, scrB_eq, scrB_eq]
    refine acalls_of_vc (DL_ok (by decide)) Tryd.func103 rfl (by decide) (by decide) rfl ?_
    (refine g0_ ?_; repeat ((first | refine n1_ fun b_ => ?_ | refine n2_ fun b_ => ?_ | refine n3_ fun b_ pre_ => ?_ | refine Nat1.mk fun q_ hq_ => ?_ | refine em_ fun x_ hx_ => ?_ | refine Elem1.mk fun e_ he_ => ?_); refine g0_ ?_))
    (refine g1_ ?_; repeat ((first | refine n1_ fun b_ => ?_ | refine n2_ fun b_ => ?_ | refine n3_ fun b_ pre_ => ?_ | refine Nat1.mk fun q_ hq_ => ?_ | refine em_ fun x_ hx_ => ?_ | refine Elem1.mk fun e_ he_ => ?_); refine g1_ ?_))
    refine headL_ (head_ ?_); (refine g0_ ?_; repeat ((first | refine n1_ fun b_ => ?_ | refine n2_ fun b_ => ?_ | refine n3_ fun b_ pre_ => ?_ | refine Nat1.mk fun q_ hq_ => ?_ | refine em_ fun x_ hx_ => ?_ | refine Elem1.mk fun e_ he_ => ?_); refine g0_ ?_))
    rw [Nat.zero_add, ← List.map_set]
    exact ⟨(), trivial, rfl, by (first | exact ⟨_, .refl _⟩ | exact wkMem.rfl' | exact ⟨_, .swap _ _ _⟩ | (repeat (first | exact wkMem.nil _ | exact wkMem.rfl' | exact wk_snoc _ _ _ | exact wk_fam (by assumption) _ _ _ | exact wk_famN (by assumption) _ _ _ | (apply wkMem.cons; (case' hl => (repeat (first | exact .here _ _ _ | apply Look.there)))) | apply wkMem.skip)))⟩
  · rw [if_neg k0]
    by_cases k3 : n = 3
    · rw [if_pos k3]
      dsimp only
      rw [List.length_replicate, scrB_eq, scrB_eq]
      have hlm : (tabs.map PV.bool).length = tabs.length := List.length_map _
      refine acalls_of_vc (DL_ok (by decide)) Tryd.func103 rfl (by decide) (by decide) rfl ?_
      (refine g0_ ?_; repeat ((first | refine n1_ fun b_ => ?_ | refine n2_ fun b_ => ?_ | refine n3_ fun b_ pre_ => ?_ | refine Nat1.mk fun q_ hq_ => ?_ | refine em_ fun x_ hx_ => ?_ | refine Elem1.mk fun e_ he_ => ?_); refine g0_ ?_))
      (refine g1_ ?_; repeat ((first | refine n1_ fun b_ => ?_ | refine n2_ fun b_ => ?_ | refine n3_ fun b_ pre_ => ?_ | refine Nat1.mk fun q_ hq_ => ?_ | refine em_ fun x_ hx_ => ?_ | refine Elem1.mk fun e_ he_ => ?_); refine g1_ ?_))
      rw [List.take_zero, List.nil_append, show List.drop (0 + tabs.length) (tabs.map PV.bool) = [] from List.drop_of_length_le (by rw [hlm]; omega), List.append_nil, zero_bool, ← List.map_replicate]
      exact ⟨(), trivial, rfl, by (first | exact ⟨_, .refl _⟩ | exact wkMem.rfl' | exact ⟨_, .swap _ _ _⟩ | (repeat (first | exact wkMem.nil _ | exact wkMem.rfl' | exact wk_snoc _ _ _ | exact wk_fam (by assumption) _ _ _ | exact wk_famN (by assumption) _ _ _ | (apply wkMem.cons; (case' hl => (repeat (first | exact .here _ _ _ | apply Look.there)))) | apply wkMem.skip)))⟩
    · rw [if_neg k3]
      refine acalls_of_vc (DL_ok (by decide)) Tryd.func103 rfl (by decide) (by decide) rfl ?_
      (refine g0_ ?_; repeat ((first | refine n1_ fun b_ => ?_ | refine n2_ fun b_ => ?_ | refine n3_ fun b_ pre_ => ?_ | refine Nat1.mk fun q_ hq_ => ?_ | refine em_ fun x_ hx_ => ?_ | refine Elem1.mk fun e_ he_ => ?_); refine g0_ ?_))
      (refine g1_ ?_; repeat ((first | refine n1_ fun b_ => ?_ | refine n2_ fun b_ => ?_ | refine n3_ fun b_ pre_ => ?_ | refine Nat1.mk fun q_ hq_ => ?_ | refine em_ fun x_ hx_ => ?_ | refine Elem1.mk fun e_ he_ => ?_); refine g1_ ?_))
      exact ⟨(), trivial, rfl, by (first | exact ⟨_, .refl _⟩ | exact wkMem.rfl' | exact ⟨_, .swap _ _ _⟩ | (repeat (first | exact wkMem.nil _ | exact wkMem.rfl' | exact wk_snoc _ _ _ | exact wk_fam (by assumption) _ _ _ | exact wk_famN (by assumption) _ _ _ | (apply wkMem.cons; (case' hl => (repeat (first | exact .here _ _ _ | apply Look.there)))) | apply wkMem.skip)))⟩
/-- A change of a screen and of its tabs. -/
theorem change_tabs (hT : Tabs W) (s : Scr) (hok : s.ok) (hb : checkS s = 0) (g : Nat) (cap : List PV) (τ : Mem) (s' : Scr) (h1 : s'.g.cs = s.g.cs) (h3 : s'.gone = s.gone)
    (hg : ∀ b bc N bt gv, ACalls Tryd.prog W g (.bref b 0 :: cap) (scrB b bc N (.rsl bt 1 0 s.tabs.length) gv s :: tabB bt s.tabs :: τ)
      (Gives (fun _ : Unit => .tup []) (fun _ => scrB b bc N (.rsl bt 1 0 s'.tabs.length) gv s' :: tabB bt s'.tabs :: τ) (fun _ => True))) :
    ACalls Tryd.prog W 67 [encScr s, .fn g cap] τ fun v σ' => Frz σ' v (.tup [encScr s', .int .i64 0]) := by
  refine change_ok W hT s hok hb g cap τ s' (fun b bc bt bg => ?_)
  refine ACalls.lend (hg b bc s.g.cs.length bt (.rsl bg 1 0 s.gone.length)) (r := [⟨bc, .row 4 (s.g.cs.map encCell) 0⟩, ⟨bg, .row 1 (s.gone.map encRow) 0⟩]) ?_ ?_
  · refine List.Perm.cons _ ?_
    refine (List.Perm.swap (tabB bt s.tabs) ⟨bc, .row 4 (s.g.cs.map encCell) 0⟩ (⟨bg, .row 1 (s.gone.map encRow) 0⟩ :: τ)).trans ?_
    refine List.Perm.cons _ ?_
    exact List.perm_append_comm (l₁ := [_, _]) (l₂ := τ)
  · rintro _ -
    refine ⟨rfl, bc, s.g.cs.length, bt, s'.tabs.length, .rsl bg 1 0 s.gone.length, tabB bt s'.tabs :: (τ ++ [⟨bc, .row 4 (s.g.cs.map encCell) 0⟩, ⟨bg, .row 1 (s.gone.map encRow) 0⟩]), .refl _, .inr ⟨bg, 0, _, rfl⟩, ?_, ?_, ?_⟩
    · rw [h1]; exact frz_row (.there _ _ _ _ _ (Look.app (.here _ _ _) τ)) _ (by simp)
    · exact frz_row (l := s'.tabs.map PV.bool) (.here _ _ _) _ (by simp)
    · rw [h3]; exact frz_row (l := s.gone.map encRow) (.there _ _ _ _ _ (Look.app (.there _ _ _ _ _ (.here _ _ _)) τ)) _ (by simp)
theorem tabS_gg (s : Scr) (n : Int) : (tabS s n).g = s.g ∧ (tabS s n).gone = s.gone := ⟨(tabS_same _ s).1, (tabS_same _ s).2.2⟩
theorem tabBackS_gg (s : Scr) (n : Int) : (tabBackS s n).g = s.g ∧ (tabBackS s n).gone = s.gone := ⟨(backS_same _ s).1, (backS_same _ s).2.2⟩
theorem tabS_tabs (s : Scr) (n : Int) : (tabS s n).tabs = s.tabs := (tabS_same _ s).2.1
theorem tabBackS_tabs (s : Scr) (n : Int) : (tabBackS s n).tabs = s.tabs := (backS_same _ s).2.1
theorem clearTabS_gg (s : Scr) (n : Int) : (clearTabS s n).g = s.g ∧ (clearTabS s n).gone = s.gone := by
  unfold clearTabS
  split
  · exact ⟨rfl, rfl⟩
  · split <;> exact ⟨rfl, rfl⟩
theorem tab1b_ok (b bc N bt bn : Nat) (gv : PV) (s : Scr) (n : Int) (h0 : checkS s = 0) : ACalls Tryd.prog W 100 [.bref b 0, .bref bn 0] [scrB b bc N (.rsl bt 1 0 s.tabs.length) gv s, tabB bt s.tabs, numB bn n]
    (Gives (fun _ : Unit => .tup []) (fun _ => [scrB b bc N (.rsl bt 1 0 (tabS s n).tabs.length) gv (tabS s n), tabB bt (tabS s n).tabs, numB bn n]) (fun _ => True)) := by
  rw [tabS_tabs]
  exact tab1_ok W b bc N bt bn gv s n h0
theorem tabBack1b_ok (b bc N bt bn : Nat) (gv : PV) (s : Scr) (n : Int) (h0 : checkS s = 0) : ACalls Tryd.prog W 101 [.bref b 0, .bref bn 0] [scrB b bc N (.rsl bt 1 0 s.tabs.length) gv s, tabB bt s.tabs, numB bn n]
    (Gives (fun _ : Unit => .tup []) (fun _ => [scrB b bc N (.rsl bt 1 0 (tabBackS s n).tabs.length) gv (tabBackS s n), tabB bt (tabBackS s n).tabs, numB bn n]) (fun _ => True)) := by
  rw [tabBackS_tabs]
  exact tabBack1_ok W b bc N bt bn gv s n h0
theorem moveTab_ok (hT : Tabs W) (s : Scr) (hok : s.ok) (n : Int) : Pure Tryd.prog W 38 [encScr s, .int .i64 n] (.tup [encScr (moveE s (tabS s n)).1, .int .i64 (moveE s (tabS s n)).2]) := by
  by_cases h0 : checkS s = 0
  · rw [moveE, if_pos h0]
    have hs := tabS_gg s n
    refine Pure.of (acalls_of_vc (drawOk W) Tryd.func38 rfl (by decide) (by decide) rfl ?_)
    (refine g0_ ?_; repeat ((first | refine n1_ fun b_ => ?_ | refine n2_ fun b_ => ?_ | refine n3_ fun b_ pre_ => ?_ | refine Nat1.mk fun q_ hq_ => ?_ | refine em_ fun x_ hx_ => ?_ | refine Elem1.mk fun e_ he_ => ?_); refine g0_ ?_))
    rename_i bn
    refine ACalls.lendF (change_tabs W hT s hok h0 100 [.bref bn 0] [numB bn n] (tabS s n) (by rw [hs.1]) hs.2 (fun b bc N bt gv => tab1b_ok W b bc N bt bn gv s n h0)) (.swap _ _ _) ?_
    · (refine g0_ ?_; repeat ((first | refine n1_ fun b_ => ?_ | refine n2_ fun b_ => ?_ | refine n3_ fun b_ pre_ => ?_ | refine Nat1.mk fun q_ hq_ => ?_ | refine em_ fun x_ hx_ => ?_ | refine Elem1.mk fun e_ he_ => ?_); refine g0_ ?_))
      exact .refl _
  · rw [moveE, if_neg h0]
    have hb := change_bad W hT s hok h0
    refine Pure.of (acalls_of_vc (drawOk W) Tryd.func38 rfl (by decide) (by decide) rfl ?_)
    (refine g0_ ?_; repeat ((first | refine n1_ fun b_ => ?_ | refine n2_ fun b_ => ?_ | refine n3_ fun b_ pre_ => ?_ | refine Nat1.mk fun q_ hq_ => ?_ | refine em_ fun x_ hx_ => ?_ | refine Elem1.mk fun e_ he_ => ?_); refine g0_ ?_))
    rename_i bn
    refine (hb 100 [.bref bn 0]).use ?_
    (refine g0_ ?_; repeat ((first | refine n1_ fun b_ => ?_ | refine n2_ fun b_ => ?_ | refine n3_ fun b_ pre_ => ?_ | refine Nat1.mk fun q_ hq_ => ?_ | refine em_ fun x_ hx_ => ?_ | refine Elem1.mk fun e_ he_ => ?_); refine g0_ ?_))
    exact .refl _
theorem moveTabBack_ok (hT : Tabs W) (s : Scr) (hok : s.ok) (n : Int) : Pure Tryd.prog W 39 [encScr s, .int .i64 n] (.tup [encScr (moveE s (tabBackS s n)).1, .int .i64 (moveE s (tabBackS s n)).2]) := by
  by_cases h0 : checkS s = 0
  · rw [moveE, if_pos h0]
    have hs := tabBackS_gg s n
    refine Pure.of (acalls_of_vc (drawOk W) Tryd.func39 rfl (by decide) (by decide) rfl ?_)
    (refine g0_ ?_; repeat ((first | refine n1_ fun b_ => ?_ | refine n2_ fun b_ => ?_ | refine n3_ fun b_ pre_ => ?_ | refine Nat1.mk fun q_ hq_ => ?_ | refine em_ fun x_ hx_ => ?_ | refine Elem1.mk fun e_ he_ => ?_); refine g0_ ?_))
    rename_i bn
    refine ACalls.lendF (change_tabs W hT s hok h0 101 [.bref bn 0] [numB bn n] (tabBackS s n) (by rw [hs.1]) hs.2 (fun b bc N bt gv => tabBack1b_ok W b bc N bt bn gv s n h0)) (.swap _ _ _) ?_
    · (refine g0_ ?_; repeat ((first | refine n1_ fun b_ => ?_ | refine n2_ fun b_ => ?_ | refine n3_ fun b_ pre_ => ?_ | refine Nat1.mk fun q_ hq_ => ?_ | refine em_ fun x_ hx_ => ?_ | refine Elem1.mk fun e_ he_ => ?_); refine g0_ ?_))
      exact .refl _
  · rw [moveE, if_neg h0]
    have hb := change_bad W hT s hok h0
    refine Pure.of (acalls_of_vc (drawOk W) Tryd.func39 rfl (by decide) (by decide) rfl ?_)
    (refine g0_ ?_; repeat ((first | refine n1_ fun b_ => ?_ | refine n2_ fun b_ => ?_ | refine n3_ fun b_ pre_ => ?_ | refine Nat1.mk fun q_ hq_ => ?_ | refine em_ fun x_ hx_ => ?_ | refine Elem1.mk fun e_ he_ => ?_); refine g0_ ?_))
    rename_i bn
    refine (hb 101 [.bref bn 0]).use ?_
    (refine g0_ ?_; repeat ((first | refine n1_ fun b_ => ?_ | refine n2_ fun b_ => ?_ | refine n3_ fun b_ pre_ => ?_ | refine Nat1.mk fun q_ hq_ => ?_ | refine em_ fun x_ hx_ => ?_ | refine Elem1.mk fun e_ he_ => ?_); refine g0_ ?_))
    exact .refl _
theorem moveClearTab_ok (hT : Tabs W) (s : Scr) (hok : s.ok) (n : Int) : Pure Tryd.prog W 41 [encScr s, .int .i64 n] (.tup [encScr (moveE s (clearTabS s n)).1, .int .i64 (moveE s (clearTabS s n)).2]) := by
  by_cases h0 : checkS s = 0
  · rw [moveE, if_pos h0]
    have hs := clearTabS_gg s n
    refine Pure.of (acalls_of_vc (drawOk W) Tryd.func41 rfl (by decide) (by decide) rfl ?_)
    (refine g0_ ?_; repeat ((first | refine n1_ fun b_ => ?_ | refine n2_ fun b_ => ?_ | refine n3_ fun b_ pre_ => ?_ | refine Nat1.mk fun q_ hq_ => ?_ | refine em_ fun x_ hx_ => ?_ | refine Elem1.mk fun e_ he_ => ?_); refine g0_ ?_))
    rename_i bn
    refine ACalls.lendF (change_tabs W hT s hok h0 103 [.bref bn 0] [numB bn n] (clearTabS s n) (by rw [hs.1]) hs.2 (fun b bc N bt gv => clearTab1_ok W b bc N bt bn gv s n h0)) (.swap _ _ _) ?_
    · (refine g0_ ?_; repeat ((first | refine n1_ fun b_ => ?_ | refine n2_ fun b_ => ?_ | refine n3_ fun b_ pre_ => ?_ | refine Nat1.mk fun q_ hq_ => ?_ | refine em_ fun x_ hx_ => ?_ | refine Elem1.mk fun e_ he_ => ?_); refine g0_ ?_))
      exact .refl _
  · rw [moveE, if_neg h0]
    have hb := change_bad W hT s hok h0
    refine Pure.of (acalls_of_vc (drawOk W) Tryd.func41 rfl (by decide) (by decide) rfl ?_)
    (refine g0_ ?_; repeat ((first | refine n1_ fun b_ => ?_ | refine n2_ fun b_ => ?_ | refine n3_ fun b_ pre_ => ?_ | refine Nat1.mk fun q_ hq_ => ?_ | refine em_ fun x_ hx_ => ?_ | refine Elem1.mk fun e_ he_ => ?_); refine g0_ ?_))
    rename_i bn
    refine (hb 103 [.bref bn 0]).use ?_
    (refine g0_ ?_; repeat ((first | refine n1_ fun b_ => ?_ | refine n2_ fun b_ => ?_ | refine n3_ fun b_ pre_ => ?_ | refine Nat1.mk fun q_ hq_ => ?_ | refine em_ fun x_ hx_ => ?_ | refine Elem1.mk fun e_ he_ => ?_); refine g0_ ?_))
    exact .refl _
theorem moveSetTab_ok (hT : Tabs W) (s : Scr) (hok : s.ok) : Pure Tryd.prog W 40 [encScr s] (.tup [encScr (moveE s (setTabS s)).1, .int .i64 (moveE s (setTabS s)).2]) := by
  by_cases h0 : checkS s = 0
  · rw [moveE, if_pos h0]
    refine Pure.of (acalls_of_vc (drawOk W) Tryd.func40 rfl (by decide) (by decide) rfl ?_)
    (refine g0_ ?_; repeat ((first | refine n1_ fun b_ => ?_ | refine n2_ fun b_ => ?_ | refine n3_ fun b_ pre_ => ?_ | refine Nat1.mk fun q_ hq_ => ?_ | refine em_ fun x_ hx_ => ?_ | refine Elem1.mk fun e_ he_ => ?_); refine g0_ ?_))
    refine ACalls.lendF (change_tabs W hT s hok h0 102 [] [] (setTabS s) rfl rfl (fun b bc N bt gv => setTab1_ok W b bc N bt gv s h0)) (.refl _) ?_
    · (refine g0_ ?_; repeat ((first | refine n1_ fun b_ => ?_ | refine n2_ fun b_ => ?_ | refine n3_ fun b_ pre_ => ?_ | refine Nat1.mk fun q_ hq_ => ?_ | refine em_ fun x_ hx_ => ?_ | refine Elem1.mk fun e_ he_ => ?_); refine g0_ ?_))
      exact .refl _
  · rw [moveE, if_neg h0]
    have hb := change_bad W hT s hok h0
    refine Pure.of (acalls_of_vc (drawOk W) Tryd.func40 rfl (by decide) (by decide) rfl ?_)
    (refine g0_ ?_; repeat ((first | refine n1_ fun b_ => ?_ | refine n2_ fun b_ => ?_ | refine n3_ fun b_ pre_ => ?_ | refine Nat1.mk fun q_ hq_ => ?_ | refine em_ fun x_ hx_ => ?_ | refine Elem1.mk fun e_ he_ => ?_); refine g0_ ?_))
    refine (hb 102 []).use ?_
    (refine g0_ ?_; repeat ((first | refine n1_ fun b_ => ?_ | refine n2_ fun b_ => ?_ | refine n3_ fun b_ pre_ => ?_ | refine Nat1.mk fun q_ hq_ => ?_ | refine em_ fun x_ hx_ => ?_ | refine Elem1.mk fun e_ he_ => ?_); refine g0_ ?_))
    exact .refl _
end Go.Eng.YtgpkedepboenpaaDoor
end

/- Tabs: the desk's; the law MoveTabs. -/
section
namespace Go.Eng.YtgpkedepboenpaaDoor
open Go Go.Eng Go.Proofs
variable (W : World)
set_option linter.unusedSimpArgs false
set_option maxRecDepth 100000
set_option linter.unusedVariables false
set_option maxHeartbeats 8000000
/-- What is done changes the desk's own block and its tabs. -/
theorem actOp_tabs {s s' : Scr} (what : List UInt8) (n m : Int) (hg : s'.gone = s.gone) (hG : s'.g = s.g)
    (h : checkS s = 0 → ∀ (d bt : Nat) (cv gv lv : PV), ACalls Tryd.prog W 75 (actArgs what n m d) [dskB d cv (.rsl bt 1 0 s.tabs.length) gv lv s, tabB bt s.tabs] (Gives (fun _ : Nat => .tup []) (fun bt' => [dskB d cv (.rsl bt' 1 0 s'.tabs.length) gv lv s', tabB bt' s'.tabs]) (fun _ => True))) :
    ActOp W s (moveE s s').1 (moveE s s').2 what n m := by
  refine ⟨fun h0 => ?_, fun h0 => ?_⟩
  · rw [moveE, if_neg h0]; exact ⟨rfl, rfl⟩
  · rw [moveE, if_pos h0]
    obtain ⟨w, h', hr⟩ := right_of h0
    have f := hr.fit
    have hw2 := f.w2
    have hh1 := f.h1
    have hh2 := f.h2
    refine ⟨rfl, s', s.g.rows, w, f.row, fun e => ?_, f.w1, by rw [f.rlen]; omega, by omega, ?_, fun d bt bo gx l hl hgx => ?_⟩
    · have := f.rlen
      rw [e] at this; simp at this; omega
    · rw [f.rlen, f.flat]
      have e : (⟨w, h', s.g.cs⟩ : Grid) = s'.g := by rw [hG, ← f.ew, ← f.eh]
      rw [e]
    · refine ACalls.lendW (h h0 d bt (.sl 4 (s.g.cs.map encCell)) (goneV gx s.gone.length) (.rsl bo 1 0 l.length)) (ρ := goneM gx (s.gone.map encRow) ++ rowsM bo l) (by rw [List.append_nil]; exact .refl _) ?_
      rintro v σ1 ⟨bt', -, rfl, hm⟩
      refine ⟨deskM d bt' bo gx l (s.g.cs.map encCell) s' ++ [], ?_, rfl, hl ▸ desk_of d bt' bo gx l _ s' (fun e => by rw [hg]; exact hgx e) []⟩
      obtain ⟨q, hq⟩ := hm
      rw [List.append_nil]
      refine ⟨q, (hq.append_right _).trans ?_⟩
      rw [deskM, hg, List.append_assoc, List.cons_append, List.cons_append, List.nil_append]
      refine List.Perm.cons _ (List.Perm.cons _ ?_)
      exact List.perm_append_comm
theorem actSetTab_ok (s : Scr) (n m : Int) (h0 : checkS s = 0) (d bt : Nat) (cv gv lv : PV) : ACalls Tryd.prog W 75 (actArgs [115, 101, 116, 116, 97, 98] n m d) [dskB d cv (.rsl bt 1 0 s.tabs.length) gv lv s, tabB bt s.tabs] (Gives (fun _ : Nat => .tup []) (fun bt' => [dskB d cv (.rsl bt' 1 0 (setTabS s).tabs.length) gv lv (setTabS s), tabB bt' (setTabS s).tabs]) (fun _ => True)) := by
  obtain ⟨w, h, hr⟩ := right_of h0
  have hx := hr.x
  have htl := hr.tabs
  obtain ⟨X, hX⟩ := Int.eq_ofNat_of_zero_le hx.1
  clear h0 hr
  rw [setTabS, hX, Int.toNat_natCast]
  obtain ⟨⟨gw, gh, cs⟩, X', Y, late, ⟨fo, ba, bi⟩, tp, bo, modes, tabs, kx, ky, ⟨f2, b2', bi2⟩, km, last, title, gone⟩ := s
  dsimp only at *
  subst hX
  simp only [List.length_set, dskB_eq]
  refine acalls_of_vc (DL_ok (by decide)) Tryd.func75 rfl (by decide) (by decide) rfl ?_
  (refine g0_ ?_; repeat ((first | refine n1_ fun b_ => ?_ | refine n2_ fun b_ => ?_ | refine n3_ fun b_ pre_ => ?_ | refine Nat1.mk fun q_ hq_ => ?_ | refine em_ fun x_ hx_ => ?_ | refine Elem1.mk fun e_ he_ => ?_); refine g0_ ?_))
  refine headL_ (head_ ?_); (refine g0_ ?_; repeat ((first | refine n1_ fun b_ => ?_ | refine n2_ fun b_ => ?_ | refine n3_ fun b_ pre_ => ?_ | refine Nat1.mk fun q_ hq_ => ?_ | refine em_ fun x_ hx_ => ?_ | refine Elem1.mk fun e_ he_ => ?_); refine g0_ ?_))
  rw [Nat.zero_add, ← List.map_set]
  exact ⟨bt, trivial, rfl, by (first | exact ⟨_, .refl _⟩ | exact wkMem.rfl' | exact ⟨_, .swap _ _ _⟩ | (repeat (first | exact wkMem.nil _ | exact wkMem.rfl' | exact wk_snoc _ _ _ | exact wk_fam (by assumption) _ _ _ | exact wk_famN (by assumption) _ _ _ | (apply wkMem.cons; (case' hl => (repeat (first | exact .here _ _ _ | apply Look.there)))) | apply wkMem.skip)))⟩
theorem actClearTab_ok (s : Scr) (n m : Int) (h0 : checkS s = 0) (d bt : Nat) (cv gv lv : PV) : ACalls Tryd.prog W 75 (actArgs [99, 108, 101, 97, 114, 116, 97, 98] n m d) [dskB d cv (.rsl bt 1 0 s.tabs.length) gv lv s, tabB bt s.tabs] (Gives (fun _ : Nat => .tup []) (fun bt' => [dskB d cv (.rsl bt' 1 0 (clearTabS s n).tabs.length) gv lv (clearTabS s n), tabB bt' (clearTabS s n).tabs]) (fun _ => True)) := by
  obtain ⟨w, h, hr⟩ := right_of h0
  have hx := hr.x
  have htl := hr.tabs
  have hgw := hr.fit.ew
  have hw2 := hr.fit.w2
  obtain ⟨X, hX⟩ := Int.eq_ofNat_of_zero_le hx.1
  clear h0 hr
  rw [clearTabS, hX, Int.toNat_natCast]
  obtain ⟨⟨gw, gh, cs⟩, X', Y, late, ⟨fo, ba, bi⟩, tp, bo, modes, tabs, kx, ky, ⟨f2, b2', bi2⟩, km, last, title, gone⟩ := s
  dsimp only at *
  subst hX hgw
  by_cases k0 : n ≤ 0
  · rw [if_pos k0]
    dsimp only
    simp only [List.length_set, dskB_eq]
    refine acalls_of_vc (DL_ok (by decide)) Tryd.func75 rfl (by decide) (by decide) rfl ?_
    (refine g0_ ?_; repeat ((first | refine n1_ fun b_ => ?_ | refine n2_ fun b_ => ?_ | refine n3_ fun b_ pre_ => ?_ | refine Nat1.mk fun q_ hq_ => ?_ | refine em_ fun x_ hx_ => ?_ | refine Elem1.mk fun e_ he_ => ?_); refine g0_ ?_))
    (refine g1_ ?_; repeat ((first | refine n1_ fun b_ => ?_ | refine n2_ fun b_ => ?_ | refine n3_ fun b_ pre_ => ?_ | refine Nat1.mk fun q_ hq_ => ?_ | refine em_ fun x_ hx_ => ?_ | refine Elem1.mk fun e_ he_ => ?_); refine g1_ ?_))
    refine headL_ (head_ ?_); (refine g0_ ?_; repeat ((first | refine n1_ fun b_ => ?_ | refine n2_ fun b_ => ?_ | refine n3_ fun b_ pre_ => ?_ | refine Nat1.mk fun q_ hq_ => ?_ | refine em_ fun x_ hx_ => ?_ | refine Elem1.mk fun e_ he_ => ?_); refine g0_ ?_))
    rw [Nat.zero_add, ← List.map_set]
    (refine g1_ ?_; repeat ((first | refine n1_ fun b_ => ?_ | refine n2_ fun b_ => ?_ | refine n3_ fun b_ pre_ => ?_ | refine Nat1.mk fun q_ hq_ => ?_ | refine em_ fun x_ hx_ => ?_ | refine Elem1.mk fun e_ he_ => ?_); refine g1_ ?_))
    exact ⟨bt, trivial, rfl, by (first | exact ⟨_, .refl _⟩ | exact wkMem.rfl' | exact ⟨_, .swap _ _ _⟩ | (repeat (first | exact wkMem.nil _ | exact wkMem.rfl' | exact wk_snoc _ _ _ | exact wk_fam (by assumption) _ _ _ | exact wk_famN (by assumption) _ _ _ | (apply wkMem.cons; (case' hl => (repeat (first | exact .here _ _ _ | apply Look.there)))) | apply wkMem.skip)))⟩
  · rw [if_neg k0]
    by_cases k3 : n = 3
    · rw [if_pos k3]
      dsimp only
      simp only [List.length_replicate, dskB_eq]
      rw [htl]
      refine acalls_of_vc (DL_ok (by decide)) Tryd.func75 rfl (by decide) (by decide) rfl ?_
      (refine g0_ ?_; repeat ((first | refine n1_ fun b_ => ?_ | refine n2_ fun b_ => ?_ | refine n3_ fun b_ pre_ => ?_ | refine Nat1.mk fun q_ hq_ => ?_ | refine em_ fun x_ hx_ => ?_ | refine Elem1.mk fun e_ he_ => ?_); refine g0_ ?_))
      (refine g1_ ?_; repeat ((first | refine n1_ fun b_ => ?_ | refine n2_ fun b_ => ?_ | refine n3_ fun b_ pre_ => ?_ | refine Nat1.mk fun q_ hq_ => ?_ | refine em_ fun x_ hx_ => ?_ | refine Elem1.mk fun e_ he_ => ?_); refine g1_ ?_))
      rw [zero_bool, ← List.map_replicate]
      exact ⟨b_, trivial, rfl, by (first | exact ⟨_, .refl _⟩ | exact wkMem.rfl' | exact ⟨_, .swap _ _ _⟩ | (repeat (first | exact wkMem.nil _ | exact wkMem.rfl' | exact wk_snoc _ _ _ | exact wk_fam (by assumption) _ _ _ | exact wk_famN (by assumption) _ _ _ | (apply wkMem.cons; (case' hl => (repeat (first | exact .here _ _ _ | apply Look.there)))) | apply wkMem.skip)))⟩
    · rw [if_neg k3]
      refine acalls_of_vc (DL_ok (by decide)) Tryd.func75 rfl (by decide) (by decide) rfl ?_
      (refine g0_ ?_; repeat ((first | refine n1_ fun b_ => ?_ | refine n2_ fun b_ => ?_ | refine n3_ fun b_ pre_ => ?_ | refine Nat1.mk fun q_ hq_ => ?_ | refine em_ fun x_ hx_ => ?_ | refine Elem1.mk fun e_ he_ => ?_); refine g0_ ?_))
      (refine g1_ ?_; repeat ((first | refine n1_ fun b_ => ?_ | refine n2_ fun b_ => ?_ | refine n3_ fun b_ pre_ => ?_ | refine Nat1.mk fun q_ hq_ => ?_ | refine em_ fun x_ hx_ => ?_ | refine Elem1.mk fun e_ he_ => ?_); refine g1_ ?_))
      exact ⟨bt, trivial, rfl, by (first | exact ⟨_, .refl _⟩ | exact wkMem.rfl' | exact ⟨_, .swap _ _ _⟩ | (repeat (first | exact wkMem.nil _ | exact wkMem.rfl' | exact wk_snoc _ _ _ | exact wk_fam (by assumption) _ _ _ | exact wk_famN (by assumption) _ _ _ | (apply wkMem.cons; (case' hl => (repeat (first | exact .here _ _ _ | apply Look.there)))) | apply wkMem.skip)))⟩
theorem actTab_ok (s : Scr) (n m : Int) (h0 : checkS s = 0) (d bt : Nat) (cv gv lv : PV) : ACalls Tryd.prog W 75 (actArgs [116, 97, 98] n m d) [dskB d cv (.rsl bt 1 0 s.tabs.length) gv lv s, tabB bt s.tabs] (Gives (fun _ : Nat => .tup []) (fun bt' => [dskB d cv (.rsl bt' 1 0 (tabS s n).tabs.length) gv lv (tabS s n), tabB bt' (tabS s n).tabs]) (fun _ => True)) := by
  rw [tabS_tabs]
  obtain ⟨w, h, hr⟩ := right_of h0
  have hw1 := hr.fit.w1
  have hw2 := hr.fit.w2
  have hh1 := hr.fit.h1
  have hh2 := hr.fit.h2
  have hwi := within_of hr
  have htl := hr.tabs
  have htm : 1 ≤ timesL n ∧ timesL n ≤ 9999 := by unfold timesL; omega
  have hgw := hr.fit.ew
  clear h0 hr
  obtain ⟨K, hK⟩ : ∃ K : Nat, (K : Int) = min (timesL n) w := ⟨(min (timesL n) w).toNat, by omega⟩
  rw [tabS, hgw, show (min (timesL n) (w : Int)).toNat = K by omega]
  generalize hT : s.tabs = tabs at *
  generalize hF : iterF tabS1 K s = F
  refine acalls_of_vc (DL_ok (by decide)) Tryd.func75 rfl (by decide) (by decide) rfl ?_
  (refine g0_ ?_; repeat ((first | refine n1_ fun b_ => ?_ | refine n2_ fun b_ => ?_ | refine n3_ fun b_ pre_ => ?_ | refine Nat1.mk fun q_ hq_ => ?_ | refine em_ fun x_ hx_ => ?_ | refine Elem1.mk fun e_ he_ => ?_); refine g0_ ?_))
  refine' loopI (α := Nat × Scr) (fun (i, s') => [(10, .int .i64 i)]) [(0, _), (2, _)] (fun (i, s') => [dskB d cv (.rsl bt 1 0 tabs.length) gv lv s', tabB bt tabs]) (fun (i, s') => i ≤ K ∧ Within s' w h tabs ∧ iterF tabS1 (K - i) s' = F) (fun (i, s') => K - i) (0, s) ?_ ?_
  · exact ⟨Nat.zero_le _, hwi, hF⟩
  rintro ⟨i, s'⟩ ⟨hi, hw', hit⟩
  dsimp only at hi hw' hit ⊢
  have e1 := hw'.ew
  have e2 := hw'.eh
  have e3 := hw'.x
  have e4 := hw'.y
  have e5 := hw'.tabs
  (refine g0_ ?_; repeat ((first | refine n1_ fun b_ => ?_ | refine n2_ fun b_ => ?_ | refine n3_ fun b_ pre_ => ?_ | refine Nat1.mk fun q_ hq_ => ?_ | refine em_ fun x_ hx_ => ?_ | refine Elem1.mk fun e_ he_ => ?_); refine g0_ ?_))
  refine (often_ok W n).use ?_; (refine g0_ ?_; repeat ((first | refine n1_ fun b_ => ?_ | refine n2_ fun b_ => ?_ | refine n3_ fun b_ pre_ => ?_ | refine Nat1.mk fun q_ hq_ => ?_ | refine em_ fun x_ hx_ => ?_ | refine Elem1.mk fun e_ he_ => ?_); refine g0_ ?_))
  by_cases h1 : i < K
  · obtain ⟨X, hX⟩ := Int.eq_ofNat_of_zero_le e3.1
    have hwn := fun (x : Int) => hw'.at x s'.y
    have hat := fun (x : Int) => dgo_ok W d cv (.rsl bt 1 0 tabs.length) gv lv s' x s'.y (by omega) (by omega)
    have hsub : K - i = (K - (i + 1)) + 1 := by omega
    rw [hsub, iterF] at hit
    (refine g1_ ?_; repeat ((first | refine n1_ fun b_ => ?_ | refine n2_ fun b_ => ?_ | refine n3_ fun b_ pre_ => ?_ | refine Nat1.mk fun q_ hq_ => ?_ | refine em_ fun x_ hx_ => ?_ | refine Elem1.mk fun e_ he_ => ?_); refine g1_ ?_))
    rw [e1]
    refine' loopI (α := Nat × Int) (fun (k, x) => [(12, .int .i64 ((k : Int) - 1)), (11, .int .i64 x)]) [(0, _), (2, _), (10, _)] (fun (k, x) => [dskB d cv (.rsl bt 1 0 tabs.length) gv lv s', tabB bt tabs]) (fun (k, x) => X + 1 ≤ k ∧ k ≤ w ∧ x = min ((fwdF tabs (w - k) k : Nat) : Int) ((w : Int) - 1)) (fun (k, x) => k) (w, (w : Int) - 1) ?_ ?_
    · refine ⟨by omega, Nat.le_refl _, ?_⟩
      rw [Nat.sub_self, fwdF]
      omega
    rintro ⟨k, x⟩ ⟨hk1, hk2, hx⟩
    dsimp only at hk1 hk2 hx ⊢
    by_cases hk : X + 1 < k
    · obtain ⟨j, rfl⟩ : ∃ j, k = j + 1 := ⟨k - 1, by omega⟩
      obtain ⟨tb, htb⟩ : ∃ tb, tabs[j]? = some tb := ⟨_, List.getElem?_eq_getElem (by omega)⟩
      rw [show ((j + 1 : Nat) : Int) - 1 = (j : Int) by omega]
      cases tb
      · (refine g1_ ?_; repeat ((first | refine n1_ fun b_ => ?_ | refine n2_ fun b_ => ?_ | refine n3_ fun b_ pre_ => ?_ | refine Nat1.mk fun q_ hq_ => ?_ | refine em_ fun x_ hx_ => ?_ | refine Elem1.mk fun e_ he_ => ?_); refine g1_ ?_))
        refine nx_ (j, x) ?_ ?_
        · refine ⟨by omega, by omega, ?_⟩
          rw [hx, show w - j = (w - (j + 1)) + 1 by omega, fwdF_miss htb]
        · show j < j + 1
          omega
      · (refine g1_ ?_; repeat ((first | refine n1_ fun b_ => ?_ | refine n2_ fun b_ => ?_ | refine n3_ fun b_ pre_ => ?_ | refine Nat1.mk fun q_ hq_ => ?_ | refine em_ fun x_ hx_ => ?_ | refine Elem1.mk fun e_ he_ => ?_); refine g1_ ?_))
        refine nx_ (j, (j : Int)) ?_ ?_
        · refine ⟨by omega, by omega, ?_⟩
          rw [fwdF_hit htb]
          omega
        · show j < j + 1
          omega
    · have hkX : k = X + 1 := by omega
      subst hkX
      have hp : tabS1 s' = atS s' x s'.y := by
        rw [tabS1, tabX, e5, e1, hX, Int.toNat_natCast, Int.toNat_natCast, hx]
        have e : ∀ x x' : Int, min (max x 0) (s'.g.w - 1) = min (max x' 0) (s'.g.w - 1) → atS s' x s'.y = atS s' x' s'.y := fun x x' hx => by rw [atS, atS, hx]
        exact e _ _ (by omega)
      (refine g1_ ?_; repeat ((first | refine n1_ fun b_ => ?_ | refine n2_ fun b_ => ?_ | refine n3_ fun b_ pre_ => ?_ | refine Nat1.mk fun q_ hq_ => ?_ | refine em_ fun x_ hx_ => ?_ | refine Elem1.mk fun e_ he_ => ?_); refine g1_ ?_))
      refine ACalls.lend (hat x) (r := [tabB bt tabs]) (.refl _) ?_
      rintro _ -
      (refine g0_ ?_; repeat ((first | refine n1_ fun b_ => ?_ | refine n2_ fun b_ => ?_ | refine n3_ fun b_ pre_ => ?_ | refine Nat1.mk fun q_ hq_ => ?_ | refine em_ fun x_ hx_ => ?_ | refine Elem1.mk fun e_ he_ => ?_); refine g0_ ?_))
      refine nx_ (i + 1, atS s' x s'.y) ?_ ?_
      · refine ⟨by omega, hwn x, ?_⟩
        rw [← hp]
        exact hit
      · show K - (i + 1) < K - i
        omega
  · have hiK : i = K := by omega
    subst hiK
    rw [Nat.sub_self, iterF] at hit
    subst hit
    by_cases hle : timesL n ≤ w
    · (refine g1_ ?_; repeat ((first | refine n1_ fun b_ => ?_ | refine n2_ fun b_ => ?_ | refine n3_ fun b_ pre_ => ?_ | refine Nat1.mk fun q_ hq_ => ?_ | refine em_ fun x_ hx_ => ?_ | refine Elem1.mk fun e_ he_ => ?_); refine g1_ ?_))
      exact ⟨bt, trivial, rfl, by (first | exact ⟨_, .refl _⟩ | exact wkMem.rfl' | exact ⟨_, .swap _ _ _⟩ | (repeat (first | exact wkMem.nil _ | exact wkMem.rfl' | exact wk_snoc _ _ _ | exact wk_fam (by assumption) _ _ _ | exact wk_famN (by assumption) _ _ _ | (apply wkMem.cons; (case' hl => (repeat (first | exact .here _ _ _ | apply Look.there)))) | apply wkMem.skip)))⟩
    · (refine g1_ ?_; repeat ((first | refine n1_ fun b_ => ?_ | refine n2_ fun b_ => ?_ | refine n3_ fun b_ pre_ => ?_ | refine Nat1.mk fun q_ hq_ => ?_ | refine em_ fun x_ hx_ => ?_ | refine Elem1.mk fun e_ he_ => ?_); refine g1_ ?_))
      exact ⟨bt, trivial, rfl, by (first | exact ⟨_, .refl _⟩ | exact wkMem.rfl' | exact ⟨_, .swap _ _ _⟩ | (repeat (first | exact wkMem.nil _ | exact wkMem.rfl' | exact wk_snoc _ _ _ | exact wk_fam (by assumption) _ _ _ | exact wk_famN (by assumption) _ _ _ | (apply wkMem.cons; (case' hl => (repeat (first | exact .here _ _ _ | apply Look.there)))) | apply wkMem.skip)))⟩
theorem actTabBack_ok (s : Scr) (n m : Int) (h0 : checkS s = 0) (d bt : Nat) (cv gv lv : PV) : ACalls Tryd.prog W 75 (actArgs [116, 97, 98, 98, 97, 99, 107] n m d) [dskB d cv (.rsl bt 1 0 s.tabs.length) gv lv s, tabB bt s.tabs] (Gives (fun _ : Nat => .tup []) (fun bt' => [dskB d cv (.rsl bt' 1 0 (tabBackS s n).tabs.length) gv lv (tabBackS s n), tabB bt' (tabBackS s n).tabs]) (fun _ => True)) := by
  rw [tabBackS_tabs]
  obtain ⟨w, h, hr⟩ := right_of h0
  have hw1 := hr.fit.w1
  have hw2 := hr.fit.w2
  have hh1 := hr.fit.h1
  have hh2 := hr.fit.h2
  have hwi := within_of hr
  have htl := hr.tabs
  have htm : 1 ≤ timesL n ∧ timesL n ≤ 9999 := by unfold timesL; omega
  have hgw := hr.fit.ew
  clear h0 hr
  obtain ⟨K, hK⟩ : ∃ K : Nat, (K : Int) = min (timesL n) w := ⟨(min (timesL n) w).toNat, by omega⟩
  rw [tabBackS, hgw, show (min (timesL n) (w : Int)).toNat = K by omega]
  generalize hT : s.tabs = tabs at *
  generalize hF : iterF backS1 K s = F
  refine acalls_of_vc (DL_ok (by decide)) Tryd.func75 rfl (by decide) (by decide) rfl ?_
  (refine g0_ ?_; repeat ((first | refine n1_ fun b_ => ?_ | refine n2_ fun b_ => ?_ | refine n3_ fun b_ pre_ => ?_ | refine Nat1.mk fun q_ hq_ => ?_ | refine em_ fun x_ hx_ => ?_ | refine Elem1.mk fun e_ he_ => ?_); refine g0_ ?_))
  refine' loopI (α := Nat × Scr) (fun (i, s') => [(13, .int .i64 i)]) [(0, _), (2, _)] (fun (i, s') => [dskB d cv (.rsl bt 1 0 tabs.length) gv lv s', tabB bt tabs]) (fun (i, s') => i ≤ K ∧ Within s' w h tabs ∧ iterF backS1 (K - i) s' = F) (fun (i, s') => K - i) (0, s) ?_ ?_
  · exact ⟨Nat.zero_le _, hwi, hF⟩
  rintro ⟨i, s'⟩ ⟨hi, hw', hit⟩
  dsimp only at hi hw' hit ⊢
  have e1 := hw'.ew
  have e2 := hw'.eh
  have e3 := hw'.x
  have e4 := hw'.y
  have e5 := hw'.tabs
  (refine g0_ ?_; repeat ((first | refine n1_ fun b_ => ?_ | refine n2_ fun b_ => ?_ | refine n3_ fun b_ pre_ => ?_ | refine Nat1.mk fun q_ hq_ => ?_ | refine em_ fun x_ hx_ => ?_ | refine Elem1.mk fun e_ he_ => ?_); refine g0_ ?_))
  refine (often_ok W n).use ?_; (refine g0_ ?_; repeat ((first | refine n1_ fun b_ => ?_ | refine n2_ fun b_ => ?_ | refine n3_ fun b_ pre_ => ?_ | refine Nat1.mk fun q_ hq_ => ?_ | refine em_ fun x_ hx_ => ?_ | refine Elem1.mk fun e_ he_ => ?_); refine g0_ ?_))
  by_cases h1 : i < K
  · obtain ⟨X, hX⟩ := Int.eq_ofNat_of_zero_le e3.1
    have hwn := fun (x : Int) => hw'.at x s'.y
    have hat := fun (x : Int) => dgo_ok W d cv (.rsl bt 1 0 tabs.length) gv lv s' x s'.y (by omega) (by omega)
    have hsub : K - i = (K - (i + 1)) + 1 := by omega
    rw [hsub, iterF] at hit
    (refine g1_ ?_; repeat ((first | refine n1_ fun b_ => ?_ | refine n2_ fun b_ => ?_ | refine n3_ fun b_ pre_ => ?_ | refine Nat1.mk fun q_ hq_ => ?_ | refine em_ fun x_ hx_ => ?_ | refine Elem1.mk fun e_ he_ => ?_); refine g1_ ?_))
    refine' loopI (α := Nat × Nat) (fun (k, x) => [(15, .int .i64 k), (14, .int .i64 x)]) [(0, _), (2, _), (13, _)] (fun (k, x) => [dskB d cv (.rsl bt 1 0 tabs.length) gv lv s', tabB bt tabs]) (fun (k, x) => k ≤ X ∧ x = backF tabs k) (fun (k, x) => X - k) (0, 0) ?_ ?_
    · exact ⟨Nat.zero_le _, rfl⟩
    rintro ⟨k, x⟩ ⟨hk1, hx⟩
    dsimp only at hk1 hx ⊢
    by_cases hk : k < X
    · obtain ⟨tb, htb⟩ : ∃ tb, tabs[k]? = some tb := ⟨_, List.getElem?_eq_getElem (by omega)⟩
      cases tb
      · (refine g1_ ?_; repeat ((first | refine n1_ fun b_ => ?_ | refine n2_ fun b_ => ?_ | refine n3_ fun b_ pre_ => ?_ | refine Nat1.mk fun q_ hq_ => ?_ | refine em_ fun x_ hx_ => ?_ | refine Elem1.mk fun e_ he_ => ?_); refine g1_ ?_))
        refine nx_ (k + 1, x) ?_ ?_
        · exact ⟨hk, by rw [hx, backF_miss htb]⟩
        · show X - (k + 1) < X - k
          omega
      · (refine g1_ ?_; repeat ((first | refine n1_ fun b_ => ?_ | refine n2_ fun b_ => ?_ | refine n3_ fun b_ pre_ => ?_ | refine Nat1.mk fun q_ hq_ => ?_ | refine em_ fun x_ hx_ => ?_ | refine Elem1.mk fun e_ he_ => ?_); refine g1_ ?_))
        refine nx_ (k + 1, k) ?_ ?_
        · exact ⟨hk, by rw [backF_hit htb]⟩
        · show X - (k + 1) < X - k
          omega
    · have hkX : k = X := by omega
      subst hkX
      have hp : backS1 s' = atS s' (x : Int) s'.y := by rw [backS1, e5, hX, Int.toNat_natCast, hx]
      (refine g1_ ?_; repeat ((first | refine n1_ fun b_ => ?_ | refine n2_ fun b_ => ?_ | refine n3_ fun b_ pre_ => ?_ | refine Nat1.mk fun q_ hq_ => ?_ | refine em_ fun x_ hx_ => ?_ | refine Elem1.mk fun e_ he_ => ?_); refine g1_ ?_))
      refine ACalls.lend (hat x) (r := [tabB bt tabs]) (.refl _) ?_
      rintro _ -
      (refine g0_ ?_; repeat ((first | refine n1_ fun b_ => ?_ | refine n2_ fun b_ => ?_ | refine n3_ fun b_ pre_ => ?_ | refine Nat1.mk fun q_ hq_ => ?_ | refine em_ fun x_ hx_ => ?_ | refine Elem1.mk fun e_ he_ => ?_); refine g0_ ?_))
      refine nx_ (i + 1, atS s' x s'.y) ?_ ?_
      · refine ⟨by omega, hwn x, ?_⟩
        rw [← hp]
        exact hit
      · show K - (i + 1) < K - i
        omega
  · have hiK : i = K := by omega
    subst hiK
    rw [Nat.sub_self, iterF] at hit
    subst hit
    by_cases hle : timesL n ≤ w
    · (refine g1_ ?_; repeat ((first | refine n1_ fun b_ => ?_ | refine n2_ fun b_ => ?_ | refine n3_ fun b_ pre_ => ?_ | refine Nat1.mk fun q_ hq_ => ?_ | refine em_ fun x_ hx_ => ?_ | refine Elem1.mk fun e_ he_ => ?_); refine g1_ ?_))
      exact ⟨bt, trivial, rfl, by (first | exact ⟨_, .refl _⟩ | exact wkMem.rfl' | exact ⟨_, .swap _ _ _⟩ | (repeat (first | exact wkMem.nil _ | exact wkMem.rfl' | exact wk_snoc _ _ _ | exact wk_fam (by assumption) _ _ _ | exact wk_famN (by assumption) _ _ _ | (apply wkMem.cons; (case' hl => (repeat (first | exact .here _ _ _ | apply Look.there)))) | apply wkMem.skip)))⟩
    · (refine g1_ ?_; repeat ((first | refine n1_ fun b_ => ?_ | refine n2_ fun b_ => ?_ | refine n3_ fun b_ pre_ => ?_ | refine Nat1.mk fun q_ hq_ => ?_ | refine em_ fun x_ hx_ => ?_ | refine Elem1.mk fun e_ he_ => ?_); refine g1_ ?_))
      exact ⟨bt, trivial, rfl, by (first | exact ⟨_, .refl _⟩ | exact wkMem.rfl' | exact ⟨_, .swap _ _ _⟩ | (repeat (first | exact wkMem.nil _ | exact wkMem.rfl' | exact wk_snoc _ _ _ | exact wk_fam (by assumption) _ _ _ | exact wk_famN (by assumption) _ _ _ | (apply wkMem.cons; (case' hl => (repeat (first | exact .here _ _ _ | apply Look.there)))) | apply wkMem.skip)))⟩
theorem tabS1_ok {s : Scr} (h : s.ok) (hw : 1 ≤ s.g.w ∧ s.g.w ≤ 120) (hh : 1 ≤ s.g.h ∧ s.g.h ≤ 60) : ∀ n : Nat, (iterF tabS1 n s).ok ∧ (iterF backS1 n s).ok := by
  have key : ∀ n : Nat, ∀ s : Scr, s.ok → (1 ≤ s.g.w ∧ s.g.w ≤ 120) → (1 ≤ s.g.h ∧ s.g.h ≤ 60) → (iterF tabS1 n s).ok ∧ (iterF backS1 n s).ok := by
    intro n
    induction n with
    | zero => intro s h _ _; exact ⟨h, h⟩
    | succ n ih =>
      intro s h hw hh
      exact ⟨(ih (tabS1 s) (atS_okS h _ _ hw hh) hw hh).1, (ih (backS1 s) (atS_okS h _ _ hw hh) hw hh).2⟩
  exact fun n => key n s h hw hh
theorem setTabS_ok {s : Scr} (h : s.ok) : (setTabS s).ok := by
  obtain ⟨h1, h2, h3, h4, h5, h6, h7, h8, h9, h10, h11, h12, h13, h14, h15⟩ := h
  exact ⟨h1, h2, h3, h4, h5, h6, h7, by show (s.tabs.set s.x.toNat true).length ≤ _; rw [List.length_set]; exact h8, h9, h10, h11, h12, h13, h14, h15⟩
theorem clearTabS_ok {s : Scr} (h : s.ok) (n : Int) : (clearTabS s n).ok := by
  obtain ⟨h1, h2, h3, h4, h5, h6, h7, h8, h9, h10, h11, h12, h13, h14, h15⟩ := h
  unfold clearTabS
  split
  · exact ⟨h1, h2, h3, h4, h5, h6, h7, by show (s.tabs.set s.x.toNat false).length ≤ _; rw [List.length_set]; exact h8, h9, h10, h11, h12, h13, h14, h15⟩
  · split
    · exact ⟨h1, h2, h3, h4, h5, h6, h7, by show (List.replicate s.tabs.length false).length ≤ _; rw [List.length_replicate]; exact h8, h9, h10, h11, h12, h13, h14, h15⟩
    · exact ⟨h1, h2, h3, h4, h5, h6, h7, h8, h9, h10, h11, h12, h13, h14, h15⟩
theorem moveTabs_ok (hT : Tabs W) (s : Scr) (hs : s.ok) (n : Int) (hn : -9223372036854775808 ≤ n ∧ n ≤ 9223372036854775807) :
    Pure Tryd.prog W 8 [encScr s, .int .i64 n] (.bool true) := by
  have hsz := fun (h0 : checkS s = 0) => right_sizes h0
  have h1 := one_ok W hT s hs 38 _ _ (moveE_ok hs fun h0 => (tabS1_ok hs ⟨(hsz h0).1, (hsz h0).2.1⟩ ⟨(hsz h0).2.2.1, (hsz h0).2.2.2.1⟩ _).1) [116, 97, 98] n (moveTab_ok W hT s hs n) (actOp_tabs W (s' := tabS s n) _ n 0 (tabS_gg s n).2 (tabS_gg s n).1 fun h0 => actTab_ok W s n 0 h0)
  have h2 := one_ok W hT s hs 39 _ _ (moveE_ok hs fun h0 => (tabS1_ok hs ⟨(hsz h0).1, (hsz h0).2.1⟩ ⟨(hsz h0).2.2.1, (hsz h0).2.2.2.1⟩ _).2) [116, 97, 98, 98, 97, 99, 107] n (moveTabBack_ok W hT s hs n) (actOp_tabs W (s' := tabBackS s n) _ n 0 (tabBackS_gg s n).2 (tabBackS_gg s n).1 fun h0 => actTabBack_ok W s n 0 h0)
  have h3 := acts0_ok W hT s hs 40 _ _ (moveE_ok hs fun _ => setTabS_ok hs) [115, 101, 116, 116, 97, 98] 0 0 (moveSetTab_ok W hT s hs) (actOp_tabs W (s' := setTabS s) _ 0 0 rfl rfl fun h0 => actSetTab_ok W s 0 0 h0)
  have h4 := one_ok W hT s hs 41 _ _ (moveE_ok hs fun _ => clearTabS_ok hs n) [99, 108, 101, 97, 114, 116, 97, 98] n (moveClearTab_ok W hT s hs n) (actOp_tabs W (s' := clearTabS s n) _ n 0 (clearTabS_gg s n).2 (clearTabS_gg s n).1 fun h0 => actClearTab_ok W s n 0 h0)
  refine Pure.of (acalls_of_vc (drawOk W) Tryd.func8 rfl (by decide) (by decide) rfl ?_)
  (refine g0_ ?_; repeat ((first | refine n1_ fun b_ => ?_ | refine n2_ fun b_ => ?_ | refine n3_ fun b_ pre_ => ?_ | refine Nat1.mk fun q_ hq_ => ?_ | refine em_ fun x_ hx_ => ?_ | refine Elem1.mk fun e_ he_ => ?_); refine g0_ ?_))
  refine (h1).use ?_; (refine g0_ ?_; repeat ((first | refine n1_ fun b_ => ?_ | refine n2_ fun b_ => ?_ | refine n3_ fun b_ pre_ => ?_ | refine Nat1.mk fun q_ hq_ => ?_ | refine em_ fun x_ hx_ => ?_ | refine Elem1.mk fun e_ he_ => ?_); refine g0_ ?_))
  (refine g1_ ?_; repeat ((first | refine n1_ fun b_ => ?_ | refine n2_ fun b_ => ?_ | refine n3_ fun b_ pre_ => ?_ | refine Nat1.mk fun q_ hq_ => ?_ | refine em_ fun x_ hx_ => ?_ | refine Elem1.mk fun e_ he_ => ?_); refine g1_ ?_))
  refine (h2).use ?_; (refine g0_ ?_; repeat ((first | refine n1_ fun b_ => ?_ | refine n2_ fun b_ => ?_ | refine n3_ fun b_ pre_ => ?_ | refine Nat1.mk fun q_ hq_ => ?_ | refine em_ fun x_ hx_ => ?_ | refine Elem1.mk fun e_ he_ => ?_); refine g0_ ?_))
  (refine g1_ ?_; repeat ((first | refine n1_ fun b_ => ?_ | refine n2_ fun b_ => ?_ | refine n3_ fun b_ pre_ => ?_ | refine Nat1.mk fun q_ hq_ => ?_ | refine em_ fun x_ hx_ => ?_ | refine Elem1.mk fun e_ he_ => ?_); refine g1_ ?_))
  refine (h3).use ?_; (refine g0_ ?_; repeat ((first | refine n1_ fun b_ => ?_ | refine n2_ fun b_ => ?_ | refine n3_ fun b_ pre_ => ?_ | refine Nat1.mk fun q_ hq_ => ?_ | refine em_ fun x_ hx_ => ?_ | refine Elem1.mk fun e_ he_ => ?_); refine g0_ ?_))
  (refine g1_ ?_; repeat ((first | refine n1_ fun b_ => ?_ | refine n2_ fun b_ => ?_ | refine n3_ fun b_ pre_ => ?_ | refine Nat1.mk fun q_ hq_ => ?_ | refine em_ fun x_ hx_ => ?_ | refine Elem1.mk fun e_ he_ => ?_); refine g1_ ?_))
  refine (h4).use ?_; (refine g0_ ?_; repeat ((first | refine n1_ fun b_ => ?_ | refine n2_ fun b_ => ?_ | refine n3_ fun b_ pre_ => ?_ | refine Nat1.mk fun q_ hq_ => ?_ | refine em_ fun x_ hx_ => ?_ | refine Elem1.mk fun e_ he_ => ?_); refine g0_ ?_))
  exact .refl _
end Go.Eng.YtgpkedepboenpaaDoor
end
