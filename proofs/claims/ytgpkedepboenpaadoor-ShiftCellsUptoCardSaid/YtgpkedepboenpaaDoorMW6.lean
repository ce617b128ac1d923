/- Texts put together: Scr13, Scr15, Scr16. -/
import Derived.Test.YtgpkedepboenpaaDoorMW3
import Derived.Test.YtgpkedepboenpaaDoorME8
/- Screens of the call's own: package move's At; right, left, to. -/
section
namespace Go.Eng.YtgpkedepboenpaaDoor
open Go Go.Eng Go.Proofs
variable (W : World)
set_option linter.unusedSimpArgs false
set_option maxRecDepth 100000
set_option linter.unusedVariables false
set_option maxHeartbeats 8000000
def atS (s : Scr) (x y : Int) : Scr := { s with x := min (max x 0) (s.g.w - 1), y := min (max y 0) (s.g.h - 1), late := false }
theorem at_okS (b bc N : Nat) (tv gv : PV) (s : Scr) (x y : Int) (hw : 1 ≤ s.g.w ∧ s.g.w ≤ 120) (hh : 1 ≤ s.g.h ∧ s.g.h ≤ 60) : ACalls Tryd.prog W 69 [.bref b 0, .int .i64 x, .int .i64 y] [scrB b bc N tv gv s]
    (Gives (fun _ : Unit => .tup []) (fun _ => [scrB b bc N tv gv (atS s x y)]) (fun _ => True)) := by
  obtain ⟨⟨gw, gh, cs⟩, X, Y, late, ⟨fo, ba, bi⟩, tp, bo, modes, tabs, kx, ky, ⟨f2, b2, bi2⟩, km, last, title, gone⟩ := s
  dsimp only at *
  rw [atS]
  dsimp only
  rw [show scrB b bc N tv gv ⟨⟨gw, gh, cs⟩, X, Y, late, ⟨fo, ba, bi⟩, tp, bo, modes, tabs, kx, ky, ⟨f2, b2, bi2⟩, km, last, title, gone⟩ = ⟨b, .row 22 [.agg [.int .i64 gw, .int .i64 gh, .rsl bc 4 0 N, .int .i64 X, .int .i64 Y, .bool late, .int .i64 fo, .int .i64 ba, .int .i64 bi, .int .i64 tp, .int .i64 bo, .int .i64 modes, tv, .int .i64 kx, .int .i64 ky, .int .i64 f2, .int .i64 b2, .int .i64 bi2, .int .i64 km, .int .i32 last, .str title, gv]] 0⟩ from rfl]
  refine acalls_of_vc (DK_ok (by decide)) Tryd.func69 rfl (by decide) (by decide) rfl ?_
  (refine g0_ ?_; repeat ((first | refine n1_ fun b_ => ?_ | refine n2_ fun b_ => ?_ | refine n3_ fun b_ pre_ => ?_ | refine Nat1.mk fun q_ hq_ => ?_ | refine em_ fun x_ hx_ => ?_ | refine Elem1.mk fun e_ he_ => ?_); refine g0_ ?_))
  refine Draws9.sto ⟨22, 25, _, by decide +kernel, rfl, ?_⟩
  (refine g0_ ?_; repeat ((first | refine n1_ fun b_ => ?_ | refine n2_ fun b_ => ?_ | refine n3_ fun b_ pre_ => ?_ | refine Nat1.mk fun q_ hq_ => ?_ | refine em_ fun x_ hx_ => ?_ | refine Elem1.mk fun e_ he_ => ?_); refine g0_ ?_))
  refine ⟨by first | exact rfl | exact trivial, ?_⟩
  (refine g0_ ?_; repeat ((first | refine n1_ fun b_ => ?_ | refine n2_ fun b_ => ?_ | refine n3_ fun b_ pre_ => ?_ | refine Nat1.mk fun q_ hq_ => ?_ | refine em_ fun x_ hx_ => ?_ | refine Elem1.mk fun e_ he_ => ?_); refine g0_ ?_))
  simp only [ifmin, ifmax]
  exact ⟨(), trivial, trivial, by (first | exact ⟨_, .refl _⟩ | exact wkMem.rfl' | exact ⟨_, .swap _ _ _⟩ | (repeat (first | exact wkMem.nil _ | exact wkMem.rfl' | exact wk_snoc _ _ _ | exact wk_fam (by assumption) _ _ _ | exact wk_famN (by assumption) _ _ _ | (apply wkMem.cons; (case' hl => (repeat (first | exact .here _ _ _ | apply Look.there)))) | apply wkMem.skip)))⟩
def timesL (n : Int) : Int := min (max n 1) 9999
theorem times_ok (n : Int) : Pure Tryd.prog W 70 [.int .i64 n] (.int .i64 (timesL n)) := by
  refine Pure.of (acalls_of_vc (drawOk W) Tryd.func70 rfl (by decide) (by decide) rfl ?_)
  (refine g0_ ?_; repeat ((first | refine n1_ fun b_ => ?_ | refine n2_ fun b_ => ?_ | refine n3_ fun b_ pre_ => ?_ | refine Nat1.mk fun q_ hq_ => ?_ | refine em_ fun x_ hx_ => ?_ | refine Elem1.mk fun e_ he_ => ?_); refine g0_ ?_))
  simp only [ifmin, ifmax]
  exact .refl _
/-- The block of a number that a closure holds. -/
abbrev numB (b : Nat) (n : Int) : Blk := ⟨b, .row 1 [.int .i64 n] 0⟩
theorem right1_ok (b bc N bn : Nat) (tv gv : PV) (s : Scr) (n : Int) (hx : i64ok s.x ∧ s.x ≤ 1000 ∧ -1000 ≤ s.x) (hw : 1 ≤ s.g.w ∧ s.g.w ≤ 120) (hh : 1 ≤ s.g.h ∧ s.g.h ≤ 60) : ACalls Tryd.prog W 73 [.bref b 0, .bref bn 0] [scrB b bc N tv gv s, numB bn n]
    (Gives (fun _ : Unit => .tup []) (fun _ => [scrB b bc N tv gv (atS s (s.x + timesL n) s.y), numB bn n]) (fun _ => True)) := by
  have hat := at_okS W b bc N tv gv s (s.x + timesL n) s.y hw hh
  have ht : 1 ≤ timesL n ∧ timesL n ≤ 9999 := by unfold timesL; omega
  refine acalls_of_vc (drawOk W) Tryd.func73 rfl (by decide) (by decide) rfl ?_
  (refine g0_ ?_; repeat ((first | refine n1_ fun b_ => ?_ | refine n2_ fun b_ => ?_ | refine n3_ fun b_ pre_ => ?_ | refine Nat1.mk fun q_ hq_ => ?_ | refine em_ fun x_ hx_ => ?_ | refine Elem1.mk fun e_ he_ => ?_); refine g0_ ?_))
  refine Draws.head ⟨12, by decide +kernel, ?_⟩
  (refine g0_ ?_; repeat ((first | refine n1_ fun b_ => ?_ | refine n2_ fun b_ => ?_ | refine n3_ fun b_ pre_ => ?_ | refine Nat1.mk fun q_ hq_ => ?_ | refine em_ fun x_ hx_ => ?_ | refine Elem1.mk fun e_ he_ => ?_); refine g0_ ?_))
  refine ⟨_, (times_ok W n).quiet, ?_⟩; (refine g0_ ?_; repeat ((first | refine n1_ fun b_ => ?_ | refine n2_ fun b_ => ?_ | refine n3_ fun b_ pre_ => ?_ | refine Nat1.mk fun q_ hq_ => ?_ | refine em_ fun x_ hx_ => ?_ | refine Elem1.mk fun e_ he_ => ?_); refine g0_ ?_))
  refine ACalls.lend hat (r := [numB bn n]) (.refl _) ?_
  rintro _ -
  (refine g0_ ?_; repeat ((first | refine n1_ fun b_ => ?_ | refine n2_ fun b_ => ?_ | refine n3_ fun b_ pre_ => ?_ | refine Nat1.mk fun q_ hq_ => ?_ | refine em_ fun x_ hx_ => ?_ | refine Elem1.mk fun e_ he_ => ?_); refine g0_ ?_))
  exact ⟨(), trivial, rfl, wkMem.rfl'⟩
theorem left1_ok (b bc N bn : Nat) (tv gv : PV) (s : Scr) (n : Int) (hx : i64ok s.x ∧ s.x ≤ 1000 ∧ -1000 ≤ s.x) (hw : 1 ≤ s.g.w ∧ s.g.w ≤ 120) (hh : 1 ≤ s.g.h ∧ s.g.h ≤ 60) : ACalls Tryd.prog W 72 [.bref b 0, .bref bn 0] [scrB b bc N tv gv s, numB bn n]
    (Gives (fun _ : Unit => .tup []) (fun _ => [scrB b bc N tv gv (atS s (s.x - timesL n) s.y), numB bn n]) (fun _ => True)) := by
  have hat := at_okS W b bc N tv gv s (s.x - timesL n) s.y hw hh
  have ht : 1 ≤ timesL n ∧ timesL n ≤ 9999 := by unfold timesL; omega
  refine acalls_of_vc (drawOk W) Tryd.func72 rfl (by decide) (by decide) rfl ?_
  (refine g0_ ?_; repeat ((first | refine n1_ fun b_ => ?_ | refine n2_ fun b_ => ?_ | refine n3_ fun b_ pre_ => ?_ | refine Nat1.mk fun q_ hq_ => ?_ | refine em_ fun x_ hx_ => ?_ | refine Elem1.mk fun e_ he_ => ?_); refine g0_ ?_))
  refine Draws.head ⟨12, by decide +kernel, ?_⟩
  (refine g0_ ?_; repeat ((first | refine n1_ fun b_ => ?_ | refine n2_ fun b_ => ?_ | refine n3_ fun b_ pre_ => ?_ | refine Nat1.mk fun q_ hq_ => ?_ | refine em_ fun x_ hx_ => ?_ | refine Elem1.mk fun e_ he_ => ?_); refine g0_ ?_))
  refine ⟨_, (times_ok W n).quiet, ?_⟩; (refine g0_ ?_; repeat ((first | refine n1_ fun b_ => ?_ | refine n2_ fun b_ => ?_ | refine n3_ fun b_ pre_ => ?_ | refine Nat1.mk fun q_ hq_ => ?_ | refine em_ fun x_ hx_ => ?_ | refine Elem1.mk fun e_ he_ => ?_); refine g0_ ?_))
  refine ACalls.lend hat (r := [numB bn n]) (.refl _) ?_
  rintro _ -
  (refine g0_ ?_; repeat ((first | refine n1_ fun b_ => ?_ | refine n2_ fun b_ => ?_ | refine n3_ fun b_ pre_ => ?_ | refine Nat1.mk fun q_ hq_ => ?_ | refine em_ fun x_ hx_ => ?_ | refine Elem1.mk fun e_ he_ => ?_); refine g0_ ?_))
  exact ⟨(), trivial, rfl, wkMem.rfl'⟩
theorem quiet_of {α : Type} {f : FuncId} {args : List PV} {τ ρ σ : Mem} {r : PV} {R : α → Prop} (h : ACalls Tryd.prog W f args τ (Gives (fun _ : α => r) (fun _ => τ) R)) (hp : σ.Perm (τ ++ ρ)) : Quiet Tryd.prog W f args σ r :=
  ⟨fun k hk => ACalls.weak (ACalls.lend h hp (k := fun v σ' => ∃ τ', k v τ' ∧ wkMem σ' τ') fun _ _ => ⟨σ, hk, [], by rw [List.append_nil]; exact hp.symm⟩)⟩
def rowS (s : Scr) (n : Int) : Int := if bitop .and .i64 s.modes 2 = 0 then timesL n - 1 else min (s.top + timesL n - 1) s.bottom
theorem rowM_ok (b bc N : Nat) (tv gv : PV) (s : Scr) (n : Int) (ht : -1000 ≤ s.top ∧ s.top ≤ 1000) : ACalls Tryd.prog W 78 [.bref b 0, .int .i64 n] [scrB b bc N tv gv s]
    (Gives (fun _ : Unit => .int .i64 (rowS s n)) (fun _ => [scrB b bc N tv gv s]) (fun _ => True)) := by
  have htm : 1 ≤ timesL n ∧ timesL n ≤ 9999 := by unfold timesL; omega
  refine acalls_of_vc (drawOk W) Tryd.func78 rfl (by decide) (by decide) rfl ?_
  (refine g0_ ?_; repeat ((first | refine n1_ fun b_ => ?_ | refine n2_ fun b_ => ?_ | refine n3_ fun b_ pre_ => ?_ | refine Nat1.mk fun q_ hq_ => ?_ | refine em_ fun x_ hx_ => ?_ | refine Elem1.mk fun e_ he_ => ?_); refine g0_ ?_))
  refine brec ?_; intro c_ h1; (try rw [h1]); cases c_ <;> replace h1 := nm_ h1
  · rw [rowS, if_pos (by omega)]
    (refine g0_ ?_; repeat ((first | refine n1_ fun b_ => ?_ | refine n2_ fun b_ => ?_ | refine n3_ fun b_ pre_ => ?_ | refine Nat1.mk fun q_ hq_ => ?_ | refine em_ fun x_ hx_ => ?_ | refine Elem1.mk fun e_ he_ => ?_); refine g0_ ?_))
    refine (times_ok W n).use ?_; (refine g0_ ?_; repeat ((first | refine n1_ fun b_ => ?_ | refine n2_ fun b_ => ?_ | refine n3_ fun b_ pre_ => ?_ | refine Nat1.mk fun q_ hq_ => ?_ | refine em_ fun x_ hx_ => ?_ | refine Elem1.mk fun e_ he_ => ?_); refine g0_ ?_))
    exact ⟨(), trivial, rfl, wkMem.rfl'⟩
  · rw [rowS, if_neg (by omega)]
    (refine g0_ ?_; repeat ((first | refine n1_ fun b_ => ?_ | refine n2_ fun b_ => ?_ | refine n3_ fun b_ pre_ => ?_ | refine Nat1.mk fun q_ hq_ => ?_ | refine em_ fun x_ hx_ => ?_ | refine Elem1.mk fun e_ he_ => ?_); refine g0_ ?_))
    refine head_ ?_; (refine g0_ ?_; repeat ((first | refine n1_ fun b_ => ?_ | refine n2_ fun b_ => ?_ | refine n3_ fun b_ pre_ => ?_ | refine Nat1.mk fun q_ hq_ => ?_ | refine em_ fun x_ hx_ => ?_ | refine Elem1.mk fun e_ he_ => ?_); refine g0_ ?_))
    refine ⟨_, (times_ok W n).quiet, ?_⟩; (refine g0_ ?_; repeat ((first | refine n1_ fun b_ => ?_ | refine n2_ fun b_ => ?_ | refine n3_ fun b_ pre_ => ?_ | refine Nat1.mk fun q_ hq_ => ?_ | refine em_ fun x_ hx_ => ?_ | refine Elem1.mk fun e_ he_ => ?_); refine g0_ ?_))
    simp only [ifmin]
    exact ⟨(), trivial, by simp, wkMem.rfl'⟩
theorem to1_ok (b bc N by_ bx : Nat) (tv gv : PV) (s : Scr) (y x : Int) (ht : -1000 ≤ s.top ∧ s.top ≤ 1000) (hw : 1 ≤ s.g.w ∧ s.g.w ≤ 120) (hh : 1 ≤ s.g.h ∧ s.g.h ≤ 60) : ACalls Tryd.prog W 77 [.bref b 0, .bref bx 0, .bref by_ 0] [scrB b bc N tv gv s, numB bx x, numB by_ y]
    (Gives (fun _ : Unit => .tup []) (fun _ => [scrB b bc N tv gv (atS s (timesL x - 1) (rowS s y)), numB bx x, numB by_ y]) (fun _ => True)) := by
  have hat := at_okS W b bc N tv gv s (timesL x - 1) (rowS s y) hw hh
  have hr := rowM_ok W b bc N tv gv s y ht
  have htm : 1 ≤ timesL x ∧ timesL x ≤ 9999 := by unfold timesL; omega
  refine acalls_of_vc (drawOk W) Tryd.func77 rfl (by decide) (by decide) rfl ?_
  (refine g0_ ?_; repeat ((first | refine n1_ fun b_ => ?_ | refine n2_ fun b_ => ?_ | refine n3_ fun b_ pre_ => ?_ | refine Nat1.mk fun q_ hq_ => ?_ | refine em_ fun x_ hx_ => ?_ | refine Elem1.mk fun e_ he_ => ?_); refine g0_ ?_))
  refine Draws.head ⟨7, by decide +kernel, ?_⟩
  (refine g0_ ?_; repeat ((first | refine n1_ fun b_ => ?_ | refine n2_ fun b_ => ?_ | refine n3_ fun b_ pre_ => ?_ | refine Nat1.mk fun q_ hq_ => ?_ | refine em_ fun x_ hx_ => ?_ | refine Elem1.mk fun e_ he_ => ?_); refine g0_ ?_))
  refine ⟨_, (times_ok W x).quiet, ?_⟩; (refine g0_ ?_; repeat ((first | refine n1_ fun b_ => ?_ | refine n2_ fun b_ => ?_ | refine n3_ fun b_ pre_ => ?_ | refine Nat1.mk fun q_ hq_ => ?_ | refine em_ fun x_ hx_ => ?_ | refine Elem1.mk fun e_ he_ => ?_); refine g0_ ?_))
  refine ⟨_, quiet_of W (ρ := [numB bx x, numB by_ y]) hr (.refl _), ?_⟩
  (refine g0_ ?_; repeat ((first | refine n1_ fun b_ => ?_ | refine n2_ fun b_ => ?_ | refine n3_ fun b_ pre_ => ?_ | refine Nat1.mk fun q_ hq_ => ?_ | refine em_ fun x_ hx_ => ?_ | refine Elem1.mk fun e_ he_ => ?_); refine g0_ ?_))
  refine ACalls.lend hat (r := [numB bx x, numB by_ y]) (.refl _) ?_
  rintro _ -
  (refine g0_ ?_; repeat ((first | refine n1_ fun b_ => ?_ | refine n2_ fun b_ => ?_ | refine n3_ fun b_ pre_ => ?_ | refine Nat1.mk fun q_ hq_ => ?_ | refine em_ fun x_ hx_ => ?_ | refine Elem1.mk fun e_ he_ => ?_); refine g0_ ?_))
  exact ⟨(), trivial, rfl, wkMem.rfl'⟩
end Go.Eng.YtgpkedepboenpaaDoor
end

/- Screens: right, left, to. -/
section
namespace Go.Eng.YtgpkedepboenpaaDoor
open Go Go.Eng Go.Proofs
variable (W : World)
set_option linter.unusedSimpArgs false
set_option maxRecDepth 100000
set_option linter.unusedVariables false
set_option maxHeartbeats 8000000
/-- What is done changes no cells, no tabs, and not what is gone. -/
theorem done_plain (b bc bt bg : Nat) (s s' : Scr) (h1 : s'.g.cs = s.g.cs) (h2 : s'.tabs = s.tabs) (h3 : s'.gone = s.gone) (x : Blk) :
    Done b s' (scrB b bc s.g.cs.length (.rsl bt 1 0 s.tabs.length) (.rsl bg 1 0 s.gone.length) s' :: x :: scrR bc bt bg [] s) := by
  refine ⟨bc, _, bt, _, _, x :: scrR bc bt bg [] s, .refl _, .inr ⟨bg, 0, _, rfl⟩, ?_, ?_, ?_⟩
  · rw [h1]; exact frz_row (.there _ _ _ _ _ (.here _ _ _)) _ (by simp)
  · rw [h2]; exact frz_row (.there _ _ _ _ _ (.there _ _ _ _ _ (.here _ _ _))) _ (by simp)
  · rw [h3]; exact frz_row (l := s.gone.map encRow) (.there _ _ _ _ _ (.there _ _ _ _ _ (.there _ _ _ _ _ (.here _ _ _)))) _ (by simp)
/-- What comes of a change. -/
def moveE (s s' : Scr) : Scr × Int := if checkS s = 0 then (s', 0) else (Scr.none, checkS s)
theorem moveRight_ok (hT : Tabs W) (s : Scr) (hok : s.ok) (n : Int) : Pure Tryd.prog W 19 [encScr s, .int .i64 n] (.tup [encScr (moveE s (atS s (s.x + timesL n) s.y)).1, .int .i64 (moveE s (atS s (s.x + timesL n) s.y)).2]) := by
  by_cases h0 : checkS s = 0
  · obtain ⟨w, h, hr⟩ := right_of h0
    have hw1 := hr.fit.w1
    have hw2 := hr.fit.w2
    have hh1 := hr.fit.h1
    have hh2 := hr.fit.h2
    have hgw := hr.fit.ew
    have hgh := hr.fit.eh
    have hx := hr.x
    rw [moveE, if_pos h0]
    refine Pure.of (acalls_of_vc (drawOk W) Tryd.func19 rfl (by decide) (by decide) rfl ?_)
    (refine g0_ ?_; repeat ((first | refine n1_ fun b_ => ?_ | refine n2_ fun b_ => ?_ | refine n3_ fun b_ pre_ => ?_ | refine Nat1.mk fun q_ hq_ => ?_ | refine em_ fun x_ hx_ => ?_ | refine Elem1.mk fun e_ he_ => ?_); refine g0_ ?_))
    rename_i bn
    refine ACalls.lendF (change_ok W hT s hok h0 73 [.bref bn 0] [numB bn n] (atS s (s.x + timesL n) s.y) (fun b bc bt bg => ?_)) (.swap _ _ _) ?_
    · refine ACalls.lend (right1_ok W b bc s.g.cs.length bn (.rsl bt 1 0 s.tabs.length) (.rsl bg 1 0 s.gone.length) s n ⟨hok.x, by omega, by omega⟩ (by omega) (by omega)) (r := scrR bc bt bg [] s) ?_ ?_
      · exact (List.perm_append_comm (l₁ := scrR bc bt bg [] s) (l₂ := [numB bn n])).cons _
      · rintro _ -
        exact ⟨rfl, done_plain b bc bt bg s (atS s (s.x + timesL n) s.y) rfl rfl rfl _⟩
    · (refine g0_ ?_; repeat ((first | refine n1_ fun b_ => ?_ | refine n2_ fun b_ => ?_ | refine n3_ fun b_ pre_ => ?_ | refine Nat1.mk fun q_ hq_ => ?_ | refine em_ fun x_ hx_ => ?_ | refine Elem1.mk fun e_ he_ => ?_); refine g0_ ?_))
      exact .refl _
  · rw [moveE, if_neg h0]
    have hb := change_bad W hT s hok h0
    refine Pure.of (acalls_of_vc (drawOk W) Tryd.func19 rfl (by decide) (by decide) rfl ?_)
    (refine g0_ ?_; repeat ((first | refine n1_ fun b_ => ?_ | refine n2_ fun b_ => ?_ | refine n3_ fun b_ pre_ => ?_ | refine Nat1.mk fun q_ hq_ => ?_ | refine em_ fun x_ hx_ => ?_ | refine Elem1.mk fun e_ he_ => ?_); refine g0_ ?_))
    rename_i bn
    refine (hb 73 [.bref bn 0]).use ?_
    (refine g0_ ?_; repeat ((first | refine n1_ fun b_ => ?_ | refine n2_ fun b_ => ?_ | refine n3_ fun b_ pre_ => ?_ | refine Nat1.mk fun q_ hq_ => ?_ | refine em_ fun x_ hx_ => ?_ | refine Elem1.mk fun e_ he_ => ?_); refine g0_ ?_))
    exact .refl _
theorem moveLeft_ok (hT : Tabs W) (s : Scr) (hok : s.ok) (n : Int) : Pure Tryd.prog W 18 [encScr s, .int .i64 n] (.tup [encScr (moveE s (atS s (s.x - timesL n) s.y)).1, .int .i64 (moveE s (atS s (s.x - timesL n) s.y)).2]) := by
  by_cases h0 : checkS s = 0
  · obtain ⟨w, h, hr⟩ := right_of h0
    have hw1 := hr.fit.w1
    have hw2 := hr.fit.w2
    have hh1 := hr.fit.h1
    have hh2 := hr.fit.h2
    have hgw := hr.fit.ew
    have hgh := hr.fit.eh
    have hx := hr.x
    rw [moveE, if_pos h0]
    refine Pure.of (acalls_of_vc (drawOk W) Tryd.func18 rfl (by decide) (by decide) rfl ?_)
    (refine g0_ ?_; repeat ((first | refine n1_ fun b_ => ?_ | refine n2_ fun b_ => ?_ | refine n3_ fun b_ pre_ => ?_ | refine Nat1.mk fun q_ hq_ => ?_ | refine em_ fun x_ hx_ => ?_ | refine Elem1.mk fun e_ he_ => ?_); refine g0_ ?_))
    rename_i bn
    refine ACalls.lendF (change_ok W hT s hok h0 72 [.bref bn 0] [numB bn n] (atS s (s.x - timesL n) s.y) (fun b bc bt bg => ?_)) (.swap _ _ _) ?_
    · refine ACalls.lend (left1_ok W b bc s.g.cs.length bn (.rsl bt 1 0 s.tabs.length) (.rsl bg 1 0 s.gone.length) s n ⟨hok.x, by omega, by omega⟩ (by omega) (by omega)) (r := scrR bc bt bg [] s) ?_ ?_
      · exact (List.perm_append_comm (l₁ := scrR bc bt bg [] s) (l₂ := [numB bn n])).cons _
      · rintro _ -
        exact ⟨rfl, done_plain b bc bt bg s (atS s (s.x - timesL n) s.y) rfl rfl rfl _⟩
    · (refine g0_ ?_; repeat ((first | refine n1_ fun b_ => ?_ | refine n2_ fun b_ => ?_ | refine n3_ fun b_ pre_ => ?_ | refine Nat1.mk fun q_ hq_ => ?_ | refine em_ fun x_ hx_ => ?_ | refine Elem1.mk fun e_ he_ => ?_); refine g0_ ?_))
      exact .refl _
  · rw [moveE, if_neg h0]
    have hb := change_bad W hT s hok h0
    refine Pure.of (acalls_of_vc (drawOk W) Tryd.func18 rfl (by decide) (by decide) rfl ?_)
    (refine g0_ ?_; repeat ((first | refine n1_ fun b_ => ?_ | refine n2_ fun b_ => ?_ | refine n3_ fun b_ pre_ => ?_ | refine Nat1.mk fun q_ hq_ => ?_ | refine em_ fun x_ hx_ => ?_ | refine Elem1.mk fun e_ he_ => ?_); refine g0_ ?_))
    rename_i bn
    refine (hb 72 [.bref bn 0]).use ?_
    (refine g0_ ?_; repeat ((first | refine n1_ fun b_ => ?_ | refine n2_ fun b_ => ?_ | refine n3_ fun b_ pre_ => ?_ | refine Nat1.mk fun q_ hq_ => ?_ | refine em_ fun x_ hx_ => ?_ | refine Elem1.mk fun e_ he_ => ?_); refine g0_ ?_))
    exact .refl _
theorem done_plain2 (b bc bt bg : Nat) (s s' : Scr) (h1 : s'.g.cs = s.g.cs) (h2 : s'.tabs = s.tabs) (h3 : s'.gone = s.gone) (x y : Blk) :
    Done b s' (scrB b bc s.g.cs.length (.rsl bt 1 0 s.tabs.length) (.rsl bg 1 0 s.gone.length) s' :: x :: y :: scrR bc bt bg [] s) := by
  refine ⟨bc, _, bt, _, _, x :: y :: scrR bc bt bg [] s, .refl _, .inr ⟨bg, 0, _, rfl⟩, ?_, ?_, ?_⟩
  · rw [h1]; exact frz_row (.there _ _ _ _ _ (.there _ _ _ _ _ (.here _ _ _))) _ (by simp)
  · rw [h2]; exact frz_row (.there _ _ _ _ _ (.there _ _ _ _ _ (.there _ _ _ _ _ (.here _ _ _)))) _ (by simp)
  · rw [h3]; exact frz_row (l := s.gone.map encRow) (.there _ _ _ _ _ (.there _ _ _ _ _ (.there _ _ _ _ _ (.there _ _ _ _ _ (.here _ _ _))))) _ (by simp)
theorem moveTo_ok (hT : Tabs W) (s : Scr) (hok : s.ok) (y x : Int) : Pure Tryd.prog W 23 [encScr s, .int .i64 y, .int .i64 x] (.tup [encScr (moveE s (atS s (timesL x - 1) (rowS s y))).1, .int .i64 (moveE s (atS s (timesL x - 1) (rowS s y))).2]) := by
  by_cases h0 : checkS s = 0
  · obtain ⟨w, h, hr⟩ := right_of h0
    have hw1 := hr.fit.w1
    have hw2 := hr.fit.w2
    have hh1 := hr.fit.h1
    have hh2 := hr.fit.h2
    have hgw := hr.fit.ew
    have hgh := hr.fit.eh
    have htp := hr.top
    rw [moveE, if_pos h0]
    refine Pure.of (acalls_of_vc (drawOk W) Tryd.func23 rfl (by decide) (by decide) rfl ?_)
    (refine g0_ ?_; repeat ((first | refine n1_ fun b_ => ?_ | refine n2_ fun b_ => ?_ | refine n3_ fun b_ pre_ => ?_ | refine Nat1.mk fun q_ hq_ => ?_ | refine em_ fun x_ hx_ => ?_ | refine Elem1.mk fun e_ he_ => ?_); refine g0_ ?_))
    rename_i bs by_ bx
    refine ACalls.lendF (change_ok W hT s hok h0 77 [.bref bx 0, .bref by_ 0] [numB bx x, numB by_ y] (atS s (timesL x - 1) (rowS s y)) (fun b bc bt bg => ?_)) (List.Perm.append_right [_] (List.perm_append_comm (l₁ := [_]) (l₂ := [_, _]))) ?_
    · refine ACalls.lend (to1_ok W b bc s.g.cs.length by_ bx (.rsl bt 1 0 s.tabs.length) (.rsl bg 1 0 s.gone.length) s y x (by omega) (by omega) (by omega)) (r := scrR bc bt bg [] s) ?_ ?_
      · exact (List.perm_append_comm (l₁ := scrR bc bt bg [] s) (l₂ := [numB bx x, numB by_ y])).cons _
      · rintro _ -
        exact ⟨rfl, done_plain2 b bc bt bg s (atS s (timesL x - 1) (rowS s y)) rfl rfl rfl _ _⟩
    · (refine g0_ ?_; repeat ((first | refine n1_ fun b_ => ?_ | refine n2_ fun b_ => ?_ | refine n3_ fun b_ pre_ => ?_ | refine Nat1.mk fun q_ hq_ => ?_ | refine em_ fun x_ hx_ => ?_ | refine Elem1.mk fun e_ he_ => ?_); refine g0_ ?_))
      exact .refl _
  · rw [moveE, if_neg h0]
    have hb := change_bad W hT s hok h0
    refine Pure.of (acalls_of_vc (drawOk W) Tryd.func23 rfl (by decide) (by decide) rfl ?_)
    (refine g0_ ?_; repeat ((first | refine n1_ fun b_ => ?_ | refine n2_ fun b_ => ?_ | refine n3_ fun b_ pre_ => ?_ | refine Nat1.mk fun q_ hq_ => ?_ | refine em_ fun x_ hx_ => ?_ | refine Elem1.mk fun e_ he_ => ?_); refine g0_ ?_))
    rename_i bs by_ bx
    refine (hb 77 [.bref bx 0, .bref by_ 0]).use ?_
    (refine g0_ ?_; repeat ((first | refine n1_ fun b_ => ?_ | refine n2_ fun b_ => ?_ | refine n3_ fun b_ pre_ => ?_ | refine Nat1.mk fun q_ hq_ => ?_ | refine em_ fun x_ hx_ => ?_ | refine Elem1.mk fun e_ he_ => ?_); refine g0_ ?_))
    exact .refl _
end Go.Eng.YtgpkedepboenpaaDoor
end

/- Screens: what is moved is a screen. -/
section
namespace Go.Eng.YtgpkedepboenpaaDoor
open Go Go.Eng Go.Proofs
variable (W : World)
set_option linter.unusedSimpArgs false
set_option maxRecDepth 100000
set_option linter.unusedVariables false
set_option maxHeartbeats 8000000
theorem check_at {s : Scr} (h0 : checkS s = 0) (x y : Int) : checkS (atS s x y) = 0 := by
  obtain ⟨w, h, hr⟩ := right_of h0
  have hw1 := hr.fit.w1
  have hh1 := hr.fit.h1
  have hgw := hr.fit.ew
  have hgh := hr.fit.eh
  have hx : 0 ≤ min (max x 0) (s.g.w - 1) ∧ min (max x 0) (s.g.w - 1) < s.g.w := by omega
  have hy : 0 ≤ min (max y 0) (s.g.h - 1) ∧ min (max y 0) (s.g.h - 1) < s.g.h := by omega
  rw [checkS] at h0 ⊢
  rw [atS]
  dsimp only
  generalize min (max x 0) (s.g.w - 1) = X at *
  generalize min (max y 0) (s.g.h - 1) = Y at *
  clear hr
  grind
theorem atS_okS {s : Scr} (h : s.ok) (x y : Int) (hw : 1 ≤ s.g.w ∧ s.g.w ≤ 120) (hh : 1 ≤ s.g.h ∧ s.g.h ≤ 60) : (atS s x y).ok := by
  obtain ⟨h1, h2, h3, h4, h5, h6, h7, h8, h9, h10, h11, h12, h13, h14, h15⟩ := h
  exact ⟨h1, by show i64ok (min (max x 0) (s.g.w - 1)); unfold i64ok; omega, by show i64ok (min (max y 0) (s.g.h - 1)); unfold i64ok; omega, h4, h5, h6, h7, h8, h9, h10, h11, h12, h13, h14, h15⟩
end Go.Eng.YtgpkedepboenpaaDoor
end
