/- Texts put together: Dsk5. -/
import Derived.Test.YtgpkedepboenpaaDoorMK1
/- A desk: what Act does where one goes. -/
section
namespace Go.Eng.YtgpkedepboenpaaDoor
open Go Go.Eng Go.Proofs
variable (W : World)
set_option linter.unusedSimpArgs false
set_option maxRecDepth 100000
set_option linter.unusedVariables false
set_option maxHeartbeats 8000000
/-- What is done changes the desk's own block alone. -/
theorem actOp_block {s s' : Scr} (what : List UInt8) (n m : Int) (ht : s'.tabs = s.tabs) (hg : s'.gone = s.gone) (hG : s'.g = s.g)
    (h : checkS s = 0 → ∀ (d : Nat) (cv tv gv lv : PV), ACalls Tryd.prog W 75 (actArgs what n m d) [dskB d cv tv gv lv s] (Gives (fun _ : Unit => .tup []) (fun _ => [dskB d cv tv gv lv s']) (fun _ => True))) :
    ActOp W s (moveE s s').1 (moveE s s').2 what n m := by
  refine ⟨fun h0 => ?_, fun h0 => ?_⟩
  · rw [moveE, if_neg h0]; exact ⟨rfl, rfl⟩
  · rw [moveE, if_pos h0]
    obtain ⟨w, h', hr⟩ := right_of h0
    have f := hr.fit
    have hw2 := f.w2
    have hh1 := f.h1
    have hh2 := f.h2
    refine ⟨rfl, s', s.g.rows, w, f.row, fun e => ?_, f.w1, by rw [f.rlen]; omega, by omega, ?_, fun d bt bo gx l hl hgx => ?_⟩
    · have := f.rlen
      rw [e] at this; simp at this; omega
    · rw [f.rlen, f.flat]
      have e : (⟨w, h', s.g.cs⟩ : Grid) = s'.g := by rw [hG, ← f.ew, ← f.eh]
      rw [e]
    · refine ACalls.lendW (h h0 d (.sl 4 (s.g.cs.map encCell)) (.rsl bt 1 0 s.tabs.length) (goneV gx s.gone.length) (.rsl bo 1 0 l.length)) (ρ := ⟨bt, .row 1 (s.tabs.map PV.bool) 0⟩ :: (goneM gx (s.gone.map encRow) ++ rowsM bo l)) (by rw [List.append_nil]; exact .refl _) ?_
      rintro v σ1 ⟨_, -, rfl, hm⟩
      refine ⟨deskM d bt bo gx l (s.g.cs.map encCell) s' ++ [], ?_, rfl, hl ▸ desk_of d bt bo gx l _ s' (fun e => by rw [hg]; exact hgx e) []⟩
      obtain ⟨q, hq⟩ := hm
      rw [List.append_nil]
      refine ⟨q, (hq.append_right _).trans ?_⟩
      rw [deskM, ht, hg, List.append_assoc, List.cons_append, List.nil_append]
      refine List.Perm.cons _ ?_
      exact List.perm_append_comm
theorem right_sizes {s : Scr} (h0 : checkS s = 0) : 1 ≤ s.g.w ∧ s.g.w ≤ 120 ∧ 1 ≤ s.g.h ∧ s.g.h ≤ 60 ∧ 0 ≤ s.x ∧ s.x < s.g.w ∧ 0 ≤ s.y ∧ s.y < s.g.h ∧ 0 ≤ s.top ∧ s.top ≤ s.bottom ∧ s.bottom < s.g.h := by
  obtain ⟨w, h, hr⟩ := right_of h0
  have h1 := hr.fit.w1
  have h2 := hr.fit.w2
  have h3 := hr.fit.h1
  have h4 := hr.fit.h2
  have h5 := hr.fit.ew
  have h6 := hr.fit.eh
  have h7 := hr.x
  have h8 := hr.y
  have h9 := hr.top
  omega
def upS (s : Scr) (n : Int) : Scr := atS s s.x (max (s.y - timesL n) (if s.top ≤ s.y then s.top else 0))
def downS (s : Scr) (n : Int) : Scr := atS s s.x (min (s.y + timesL n) (if s.y ≤ s.bottom then s.bottom else s.g.h - 1))
def leftS (s : Scr) (n : Int) : Scr := atS s (s.x - timesL n) s.y
def rightS (s : Scr) (n : Int) : Scr := atS s (s.x + timesL n) s.y
def returnS (s : Scr) : Scr := atS s 0 s.y
def columnS (s : Scr) (n : Int) : Scr := atS s (timesL n - 1) s.y
def rowToS (s : Scr) (n : Int) : Scr := atS s s.x (rowS s n)
def toS (s : Scr) (y x : Int) : Scr := atS s (timesL x - 1) (rowS s y)
theorem actUp_ok (s : Scr) (n m : Int) (h0 : checkS s = 0) (d : Nat) (cv tv gv lv : PV) : ACalls Tryd.prog W 75 (actArgs [117, 112] n m d) [dskB d cv tv gv lv s] (Gives (fun _ : Unit => .tup []) (fun _ => [dskB d cv tv gv lv (upS s n)]) (fun _ => True)) := by
  rw [upS]
  obtain ⟨q1, q2, q3, q4, q5, q6, q7, q8, q9, q10, q11⟩ := right_sizes h0
  have htm : 1 ≤ timesL n ∧ timesL n ≤ 9999 := by unfold timesL; omega
  have hgo := fun x y => dgo_ok W d cv tv gv lv s x y ⟨q1, q2⟩ ⟨q3, q4⟩
  clear h0
  obtain ⟨⟨gw, gh, cs⟩, X, Y, late, ⟨fo, ba, bi⟩, tp, bo, modes, tabs, kx, ky, ⟨f2, b2, bi2⟩, km, last, title, gone⟩ := s
  dsimp only at *
  rw [dskB_eq]
  by_cases ht : tp ≤ Y
  · rw [if_pos ht, Int.max_comm]
    refine acalls_of_vc (DL_ok (by decide)) Tryd.func75 rfl (by decide) (by decide) rfl ?_
    (refine g0_ ?_; repeat ((first | refine n1_ fun b_ => ?_ | refine n2_ fun b_ => ?_ | refine n3_ fun b_ pre_ => ?_ | refine Nat1.mk fun q_ hq_ => ?_ | refine em_ fun x_ hx_ => ?_ | refine Elem1.mk fun e_ he_ => ?_); refine g0_ ?_))
    refine headL_ (head_ ?_); (refine g0_ ?_; repeat ((first | refine n1_ fun b_ => ?_ | refine n2_ fun b_ => ?_ | refine n3_ fun b_ pre_ => ?_ | refine Nat1.mk fun q_ hq_ => ?_ | refine em_ fun x_ hx_ => ?_ | refine Elem1.mk fun e_ he_ => ?_); refine g0_ ?_))
    (refine g1_ ?_; repeat ((first | refine n1_ fun b_ => ?_ | refine n2_ fun b_ => ?_ | refine n3_ fun b_ pre_ => ?_ | refine Nat1.mk fun q_ hq_ => ?_ | refine em_ fun x_ hx_ => ?_ | refine Elem1.mk fun e_ he_ => ?_); refine g1_ ?_))
    refine headL_ (Draws.head ⟨16, by decide +kernel, ?_⟩); (refine g0_ ?_; repeat ((first | refine n1_ fun b_ => ?_ | refine n2_ fun b_ => ?_ | refine n3_ fun b_ pre_ => ?_ | refine Nat1.mk fun q_ hq_ => ?_ | refine em_ fun x_ hx_ => ?_ | refine Elem1.mk fun e_ he_ => ?_); refine g0_ ?_))
    refine ⟨_, (often_ok W n).quiet, ?_⟩; (refine g0_ ?_; repeat ((first | refine n1_ fun b_ => ?_ | refine n2_ fun b_ => ?_ | refine n3_ fun b_ pre_ => ?_ | refine Nat1.mk fun q_ hq_ => ?_ | refine em_ fun x_ hx_ => ?_ | refine Elem1.mk fun e_ he_ => ?_); refine g0_ ?_))
    (try simp only [ifmax, ifmin])
    refine ACalls.lend (hgo _ _) (r := []) (.refl _) ?_
    rintro _ -
    (refine g0_ ?_; repeat ((first | refine n1_ fun b_ => ?_ | refine n2_ fun b_ => ?_ | refine n3_ fun b_ pre_ => ?_ | refine Nat1.mk fun q_ hq_ => ?_ | refine em_ fun x_ hx_ => ?_ | refine Elem1.mk fun e_ he_ => ?_); refine g0_ ?_))
    exact ⟨(), trivial, rfl, wkMem.rfl'⟩
  · rw [if_neg ht, Int.max_comm]
    refine acalls_of_vc (DL_ok (by decide)) Tryd.func75 rfl (by decide) (by decide) rfl ?_
    (refine g0_ ?_; repeat ((first | refine n1_ fun b_ => ?_ | refine n2_ fun b_ => ?_ | refine n3_ fun b_ pre_ => ?_ | refine Nat1.mk fun q_ hq_ => ?_ | refine em_ fun x_ hx_ => ?_ | refine Elem1.mk fun e_ he_ => ?_); refine g0_ ?_))
    refine headL_ (head_ ?_); (refine g0_ ?_; repeat ((first | refine n1_ fun b_ => ?_ | refine n2_ fun b_ => ?_ | refine n3_ fun b_ pre_ => ?_ | refine Nat1.mk fun q_ hq_ => ?_ | refine em_ fun x_ hx_ => ?_ | refine Elem1.mk fun e_ he_ => ?_); refine g0_ ?_))
    (refine g1_ ?_; repeat ((first | refine n1_ fun b_ => ?_ | refine n2_ fun b_ => ?_ | refine n3_ fun b_ pre_ => ?_ | refine Nat1.mk fun q_ hq_ => ?_ | refine em_ fun x_ hx_ => ?_ | refine Elem1.mk fun e_ he_ => ?_); refine g1_ ?_))
    refine headL_ (Draws.head ⟨16, by decide +kernel, ?_⟩); (refine g0_ ?_; repeat ((first | refine n1_ fun b_ => ?_ | refine n2_ fun b_ => ?_ | refine n3_ fun b_ pre_ => ?_ | refine Nat1.mk fun q_ hq_ => ?_ | refine em_ fun x_ hx_ => ?_ | refine Elem1.mk fun e_ he_ => ?_); refine g0_ ?_))
    refine ⟨_, (often_ok W n).quiet, ?_⟩; (refine g0_ ?_; repeat ((first | refine n1_ fun b_ => ?_ | refine n2_ fun b_ => ?_ | refine n3_ fun b_ pre_ => ?_ | refine Nat1.mk fun q_ hq_ => ?_ | refine em_ fun x_ hx_ => ?_ | refine Elem1.mk fun e_ he_ => ?_); refine g0_ ?_))
    (try simp only [ifmax, ifmin])
    refine ACalls.lend (hgo _ _) (r := []) (.refl _) ?_
    rintro _ -
    (refine g0_ ?_; repeat ((first | refine n1_ fun b_ => ?_ | refine n2_ fun b_ => ?_ | refine n3_ fun b_ pre_ => ?_ | refine Nat1.mk fun q_ hq_ => ?_ | refine em_ fun x_ hx_ => ?_ | refine Elem1.mk fun e_ he_ => ?_); refine g0_ ?_))
    exact ⟨(), trivial, rfl, wkMem.rfl'⟩
theorem actDown_ok (s : Scr) (n m : Int) (h0 : checkS s = 0) (d : Nat) (cv tv gv lv : PV) : ACalls Tryd.prog W 75 (actArgs [100, 111, 119, 110] n m d) [dskB d cv tv gv lv s] (Gives (fun _ : Unit => .tup []) (fun _ => [dskB d cv tv gv lv (downS s n)]) (fun _ => True)) := by
  rw [downS]
  obtain ⟨q1, q2, q3, q4, q5, q6, q7, q8, q9, q10, q11⟩ := right_sizes h0
  have htm : 1 ≤ timesL n ∧ timesL n ≤ 9999 := by unfold timesL; omega
  have hgo := fun x y => dgo_ok W d cv tv gv lv s x y ⟨q1, q2⟩ ⟨q3, q4⟩
  clear h0
  obtain ⟨⟨gw, gh, cs⟩, X, Y, late, ⟨fo, ba, bi⟩, tp, bo, modes, tabs, kx, ky, ⟨f2, b2, bi2⟩, km, last, title, gone⟩ := s
  dsimp only at *
  rw [dskB_eq]
  by_cases ht : Y ≤ bo
  · rw [if_pos ht, Int.min_comm]
    refine acalls_of_vc (DL_ok (by decide)) Tryd.func75 rfl (by decide) (by decide) rfl ?_
    (refine g0_ ?_; repeat ((first | refine n1_ fun b_ => ?_ | refine n2_ fun b_ => ?_ | refine n3_ fun b_ pre_ => ?_ | refine Nat1.mk fun q_ hq_ => ?_ | refine em_ fun x_ hx_ => ?_ | refine Elem1.mk fun e_ he_ => ?_); refine g0_ ?_))
    refine headL_ (head_ ?_); (refine g0_ ?_; repeat ((first | refine n1_ fun b_ => ?_ | refine n2_ fun b_ => ?_ | refine n3_ fun b_ pre_ => ?_ | refine Nat1.mk fun q_ hq_ => ?_ | refine em_ fun x_ hx_ => ?_ | refine Elem1.mk fun e_ he_ => ?_); refine g0_ ?_))
    (refine g1_ ?_; repeat ((first | refine n1_ fun b_ => ?_ | refine n2_ fun b_ => ?_ | refine n3_ fun b_ pre_ => ?_ | refine Nat1.mk fun q_ hq_ => ?_ | refine em_ fun x_ hx_ => ?_ | refine Elem1.mk fun e_ he_ => ?_); refine g1_ ?_))
    refine headL_ (Draws.head ⟨16, by decide +kernel, ?_⟩); (refine g0_ ?_; repeat ((first | refine n1_ fun b_ => ?_ | refine n2_ fun b_ => ?_ | refine n3_ fun b_ pre_ => ?_ | refine Nat1.mk fun q_ hq_ => ?_ | refine em_ fun x_ hx_ => ?_ | refine Elem1.mk fun e_ he_ => ?_); refine g0_ ?_))
    refine ⟨_, (often_ok W n).quiet, ?_⟩; (refine g0_ ?_; repeat ((first | refine n1_ fun b_ => ?_ | refine n2_ fun b_ => ?_ | refine n3_ fun b_ pre_ => ?_ | refine Nat1.mk fun q_ hq_ => ?_ | refine em_ fun x_ hx_ => ?_ | refine Elem1.mk fun e_ he_ => ?_); refine g0_ ?_))
    (try simp only [ifmax, ifmin])
    refine ACalls.lend (hgo _ _) (r := []) (.refl _) ?_
    rintro _ -
    (refine g0_ ?_; repeat ((first | refine n1_ fun b_ => ?_ | refine n2_ fun b_ => ?_ | refine n3_ fun b_ pre_ => ?_ | refine Nat1.mk fun q_ hq_ => ?_ | refine em_ fun x_ hx_ => ?_ | refine Elem1.mk fun e_ he_ => ?_); refine g0_ ?_))
    exact ⟨(), trivial, rfl, wkMem.rfl'⟩
  · rw [if_neg ht, Int.min_comm]
    refine acalls_of_vc (DL_ok (by decide)) Tryd.func75 rfl (by decide) (by decide) rfl ?_
    (refine g0_ ?_; repeat ((first | refine n1_ fun b_ => ?_ | refine n2_ fun b_ => ?_ | refine n3_ fun b_ pre_ => ?_ | refine Nat1.mk fun q_ hq_ => ?_ | refine em_ fun x_ hx_ => ?_ | refine Elem1.mk fun e_ he_ => ?_); refine g0_ ?_))
    refine headL_ (head_ ?_); (refine g0_ ?_; repeat ((first | refine n1_ fun b_ => ?_ | refine n2_ fun b_ => ?_ | refine n3_ fun b_ pre_ => ?_ | refine Nat1.mk fun q_ hq_ => ?_ | refine em_ fun x_ hx_ => ?_ | refine Elem1.mk fun e_ he_ => ?_); refine g0_ ?_))
    (refine g1_ ?_; repeat ((first | refine n1_ fun b_ => ?_ | refine n2_ fun b_ => ?_ | refine n3_ fun b_ pre_ => ?_ | refine Nat1.mk fun q_ hq_ => ?_ | refine em_ fun x_ hx_ => ?_ | refine Elem1.mk fun e_ he_ => ?_); refine g1_ ?_))
    refine headL_ (Draws.head ⟨16, by decide +kernel, ?_⟩); (refine g0_ ?_; repeat ((first | refine n1_ fun b_ => ?_ | refine n2_ fun b_ => ?_ | refine n3_ fun b_ pre_ => ?_ | refine Nat1.mk fun q_ hq_ => ?_ | refine em_ fun x_ hx_ => ?_ | refine Elem1.mk fun e_ he_ => ?_); refine g0_ ?_))
    refine ⟨_, (often_ok W n).quiet, ?_⟩; (refine g0_ ?_; repeat ((first | refine n1_ fun b_ => ?_ | refine n2_ fun b_ => ?_ | refine n3_ fun b_ pre_ => ?_ | refine Nat1.mk fun q_ hq_ => ?_ | refine em_ fun x_ hx_ => ?_ | refine Elem1.mk fun e_ he_ => ?_); refine g0_ ?_))
    (try simp only [ifmax, ifmin])
    refine ACalls.lend (hgo _ _) (r := []) (.refl _) ?_
    rintro _ -
    (refine g0_ ?_; repeat ((first | refine n1_ fun b_ => ?_ | refine n2_ fun b_ => ?_ | refine n3_ fun b_ pre_ => ?_ | refine Nat1.mk fun q_ hq_ => ?_ | refine em_ fun x_ hx_ => ?_ | refine Elem1.mk fun e_ he_ => ?_); refine g0_ ?_))
    exact ⟨(), trivial, rfl, wkMem.rfl'⟩
theorem actLeft_ok (s : Scr) (n m : Int) (h0 : checkS s = 0) (d : Nat) (cv tv gv lv : PV) : ACalls Tryd.prog W 75 (actArgs [108, 101, 102, 116] n m d) [dskB d cv tv gv lv s] (Gives (fun _ : Unit => .tup []) (fun _ => [dskB d cv tv gv lv (leftS s n)]) (fun _ => True)) := by
  rw [leftS]
  obtain ⟨q1, q2, q3, q4, q5, q6, q7, q8, q9, q10, q11⟩ := right_sizes h0
  have htm : 1 ≤ timesL n ∧ timesL n ≤ 9999 := by unfold timesL; omega
  have hgo := fun x y => dgo_ok W d cv tv gv lv s x y ⟨q1, q2⟩ ⟨q3, q4⟩
  clear h0
  obtain ⟨⟨gw, gh, cs⟩, X, Y, late, ⟨fo, ba, bi⟩, tp, bo, modes, tabs, kx, ky, ⟨f2, b2, bi2⟩, km, last, title, gone⟩ := s
  dsimp only at *
  rw [dskB_eq]
  refine acalls_of_vc (DL_ok (by decide)) Tryd.func75 rfl (by decide) (by decide) rfl ?_
  (refine g0_ ?_; repeat ((first | refine n1_ fun b_ => ?_ | refine n2_ fun b_ => ?_ | refine n3_ fun b_ pre_ => ?_ | refine Nat1.mk fun q_ hq_ => ?_ | refine em_ fun x_ hx_ => ?_ | refine Elem1.mk fun e_ he_ => ?_); refine g0_ ?_))
  refine headL_ (Draws.head ⟨14, by decide +kernel, ?_⟩); (refine g0_ ?_; repeat ((first | refine n1_ fun b_ => ?_ | refine n2_ fun b_ => ?_ | refine n3_ fun b_ pre_ => ?_ | refine Nat1.mk fun q_ hq_ => ?_ | refine em_ fun x_ hx_ => ?_ | refine Elem1.mk fun e_ he_ => ?_); refine g0_ ?_))
  refine ⟨_, (often_ok W n).quiet, ?_⟩; (refine g0_ ?_; repeat ((first | refine n1_ fun b_ => ?_ | refine n2_ fun b_ => ?_ | refine n3_ fun b_ pre_ => ?_ | refine Nat1.mk fun q_ hq_ => ?_ | refine em_ fun x_ hx_ => ?_ | refine Elem1.mk fun e_ he_ => ?_); refine g0_ ?_))
  (try simp only [ifmax, ifmin])
  refine ACalls.lend (hgo _ _) (r := []) (.refl _) ?_
  rintro _ -
  (refine g0_ ?_; repeat ((first | refine n1_ fun b_ => ?_ | refine n2_ fun b_ => ?_ | refine n3_ fun b_ pre_ => ?_ | refine Nat1.mk fun q_ hq_ => ?_ | refine em_ fun x_ hx_ => ?_ | refine Elem1.mk fun e_ he_ => ?_); refine g0_ ?_))
  exact ⟨(), trivial, rfl, wkMem.rfl'⟩
theorem actRight_ok (s : Scr) (n m : Int) (h0 : checkS s = 0) (d : Nat) (cv tv gv lv : PV) : ACalls Tryd.prog W 75 (actArgs [114, 105, 103, 104, 116] n m d) [dskB d cv tv gv lv s] (Gives (fun _ : Unit => .tup []) (fun _ => [dskB d cv tv gv lv (rightS s n)]) (fun _ => True)) := by
  rw [rightS]
  obtain ⟨q1, q2, q3, q4, q5, q6, q7, q8, q9, q10, q11⟩ := right_sizes h0
  have htm : 1 ≤ timesL n ∧ timesL n ≤ 9999 := by unfold timesL; omega
  have hgo := fun x y => dgo_ok W d cv tv gv lv s x y ⟨q1, q2⟩ ⟨q3, q4⟩
  clear h0
  obtain ⟨⟨gw, gh, cs⟩, X, Y, late, ⟨fo, ba, bi⟩, tp, bo, modes, tabs, kx, ky, ⟨f2, b2, bi2⟩, km, last, title, gone⟩ := s
  dsimp only at *
  rw [dskB_eq]
  refine acalls_of_vc (DL_ok (by decide)) Tryd.func75 rfl (by decide) (by decide) rfl ?_
  (refine g0_ ?_; repeat ((first | refine n1_ fun b_ => ?_ | refine n2_ fun b_ => ?_ | refine n3_ fun b_ pre_ => ?_ | refine Nat1.mk fun q_ hq_ => ?_ | refine em_ fun x_ hx_ => ?_ | refine Elem1.mk fun e_ he_ => ?_); refine g0_ ?_))
  refine headL_ (Draws.head ⟨14, by decide +kernel, ?_⟩); (refine g0_ ?_; repeat ((first | refine n1_ fun b_ => ?_ | refine n2_ fun b_ => ?_ | refine n3_ fun b_ pre_ => ?_ | refine Nat1.mk fun q_ hq_ => ?_ | refine em_ fun x_ hx_ => ?_ | refine Elem1.mk fun e_ he_ => ?_); refine g0_ ?_))
  refine ⟨_, (often_ok W n).quiet, ?_⟩; (refine g0_ ?_; repeat ((first | refine n1_ fun b_ => ?_ | refine n2_ fun b_ => ?_ | refine n3_ fun b_ pre_ => ?_ | refine Nat1.mk fun q_ hq_ => ?_ | refine em_ fun x_ hx_ => ?_ | refine Elem1.mk fun e_ he_ => ?_); refine g0_ ?_))
  (try simp only [ifmax, ifmin])
  refine ACalls.lend (hgo _ _) (r := []) (.refl _) ?_
  rintro _ -
  (refine g0_ ?_; repeat ((first | refine n1_ fun b_ => ?_ | refine n2_ fun b_ => ?_ | refine n3_ fun b_ pre_ => ?_ | refine Nat1.mk fun q_ hq_ => ?_ | refine em_ fun x_ hx_ => ?_ | refine Elem1.mk fun e_ he_ => ?_); refine g0_ ?_))
  exact ⟨(), trivial, rfl, wkMem.rfl'⟩
theorem actReturn_ok (s : Scr) (n m : Int) (h0 : checkS s = 0) (d : Nat) (cv tv gv lv : PV) : ACalls Tryd.prog W 75 (actArgs [114, 101, 116, 117, 114, 110] n m d) [dskB d cv tv gv lv s] (Gives (fun _ : Unit => .tup []) (fun _ => [dskB d cv tv gv lv (returnS s)]) (fun _ => True)) := by
  rw [returnS]
  obtain ⟨q1, q2, q3, q4, q5, q6, q7, q8, q9, q10, q11⟩ := right_sizes h0
  have htm : 1 ≤ timesL n ∧ timesL n ≤ 9999 := by unfold timesL; omega
  have hgo := fun x y => dgo_ok W d cv tv gv lv s x y ⟨q1, q2⟩ ⟨q3, q4⟩
  clear h0
  obtain ⟨⟨gw, gh, cs⟩, X, Y, late, ⟨fo, ba, bi⟩, tp, bo, modes, tabs, kx, ky, ⟨f2, b2, bi2⟩, km, last, title, gone⟩ := s
  dsimp only at *
  rw [dskB_eq]
  refine acalls_of_vc (DL_ok (by decide)) Tryd.func75 rfl (by decide) (by decide) rfl ?_
  (refine g0_ ?_; repeat ((first | refine n1_ fun b_ => ?_ | refine n2_ fun b_ => ?_ | refine n3_ fun b_ pre_ => ?_ | refine Nat1.mk fun q_ hq_ => ?_ | refine em_ fun x_ hx_ => ?_ | refine Elem1.mk fun e_ he_ => ?_); refine g0_ ?_))
  refine ACalls.lend (hgo _ _) (r := []) (.refl _) ?_
  rintro _ -
  (refine g0_ ?_; repeat ((first | refine n1_ fun b_ => ?_ | refine n2_ fun b_ => ?_ | refine n3_ fun b_ pre_ => ?_ | refine Nat1.mk fun q_ hq_ => ?_ | refine em_ fun x_ hx_ => ?_ | refine Elem1.mk fun e_ he_ => ?_); refine g0_ ?_))
  exact ⟨(), trivial, rfl, wkMem.rfl'⟩
theorem actColumn_ok (s : Scr) (n m : Int) (h0 : checkS s = 0) (d : Nat) (cv tv gv lv : PV) : ACalls Tryd.prog W 75 (actArgs [99, 111, 108, 117, 109, 110] n m d) [dskB d cv tv gv lv s] (Gives (fun _ : Unit => .tup []) (fun _ => [dskB d cv tv gv lv (columnS s n)]) (fun _ => True)) := by
  rw [columnS]
  obtain ⟨q1, q2, q3, q4, q5, q6, q7, q8, q9, q10, q11⟩ := right_sizes h0
  have htm : 1 ≤ timesL n ∧ timesL n ≤ 9999 := by unfold timesL; omega
  have hgo := fun x y => dgo_ok W d cv tv gv lv s x y ⟨q1, q2⟩ ⟨q3, q4⟩
  clear h0
  obtain ⟨⟨gw, gh, cs⟩, X, Y, late, ⟨fo, ba, bi⟩, tp, bo, modes, tabs, kx, ky, ⟨f2, b2, bi2⟩, km, last, title, gone⟩ := s
  dsimp only at *
  rw [dskB_eq]
  refine acalls_of_vc (DL_ok (by decide)) Tryd.func75 rfl (by decide) (by decide) rfl ?_
  (refine g0_ ?_; repeat ((first | refine n1_ fun b_ => ?_ | refine n2_ fun b_ => ?_ | refine n3_ fun b_ pre_ => ?_ | refine Nat1.mk fun q_ hq_ => ?_ | refine em_ fun x_ hx_ => ?_ | refine Elem1.mk fun e_ he_ => ?_); refine g0_ ?_))
  refine headL_ (Draws.head ⟨9, by decide +kernel, ?_⟩); (refine g0_ ?_; repeat ((first | refine n1_ fun b_ => ?_ | refine n2_ fun b_ => ?_ | refine n3_ fun b_ pre_ => ?_ | refine Nat1.mk fun q_ hq_ => ?_ | refine em_ fun x_ hx_ => ?_ | refine Elem1.mk fun e_ he_ => ?_); refine g0_ ?_))
  refine ⟨_, (often_ok W n).quiet, ?_⟩; (refine g0_ ?_; repeat ((first | refine n1_ fun b_ => ?_ | refine n2_ fun b_ => ?_ | refine n3_ fun b_ pre_ => ?_ | refine Nat1.mk fun q_ hq_ => ?_ | refine em_ fun x_ hx_ => ?_ | refine Elem1.mk fun e_ he_ => ?_); refine g0_ ?_))
  (try simp only [ifmax, ifmin])
  refine ACalls.lend (hgo _ _) (r := []) (.refl _) ?_
  rintro _ -
  (refine g0_ ?_; repeat ((first | refine n1_ fun b_ => ?_ | refine n2_ fun b_ => ?_ | refine n3_ fun b_ pre_ => ?_ | refine Nat1.mk fun q_ hq_ => ?_ | refine em_ fun x_ hx_ => ?_ | refine Elem1.mk fun e_ he_ => ?_); refine g0_ ?_))
  exact ⟨(), trivial, rfl, wkMem.rfl'⟩
theorem actRow_ok (s : Scr) (n m : Int) (h0 : checkS s = 0) (d : Nat) (cv tv gv lv : PV) : ACalls Tryd.prog W 75 (actArgs [114, 111, 119] n m d) [dskB d cv tv gv lv s] (Gives (fun _ : Unit => .tup []) (fun _ => [dskB d cv tv gv lv (rowToS s n)]) (fun _ => True)) := by
  obtain ⟨q1, q2, q3, q4, q5, q6, q7, q8, q9, q10, q11⟩ := right_sizes h0
  have hro := drow_ok W d cv tv gv lv s n (by omega)
  rw [rowToS]
  generalize rowS s n = R at *
  obtain ⟨q1, q2, q3, q4, q5, q6, q7, q8, q9, q10, q11⟩ := right_sizes h0
  have htm : 1 ≤ timesL n ∧ timesL n ≤ 9999 := by unfold timesL; omega
  have hgo := fun x y => dgo_ok W d cv tv gv lv s x y ⟨q1, q2⟩ ⟨q3, q4⟩
  clear h0
  obtain ⟨⟨gw, gh, cs⟩, X, Y, late, ⟨fo, ba, bi⟩, tp, bo, modes, tabs, kx, ky, ⟨f2, b2, bi2⟩, km, last, title, gone⟩ := s
  dsimp only at *
  rw [dskB_eq]
  refine acalls_of_vc (DL_ok (by decide)) Tryd.func75 rfl (by decide) (by decide) rfl ?_
  (refine g0_ ?_; repeat ((first | refine n1_ fun b_ => ?_ | refine n2_ fun b_ => ?_ | refine n3_ fun b_ pre_ => ?_ | refine Nat1.mk fun q_ hq_ => ?_ | refine em_ fun x_ hx_ => ?_ | refine Elem1.mk fun e_ he_ => ?_); refine g0_ ?_))
  refine headL_ (Draws.head ⟨9, by decide +kernel, ?_⟩)
  (refine g0_ ?_; repeat ((first | refine n1_ fun b_ => ?_ | refine n2_ fun b_ => ?_ | refine n3_ fun b_ pre_ => ?_ | refine Nat1.mk fun q_ hq_ => ?_ | refine em_ fun x_ hx_ => ?_ | refine Elem1.mk fun e_ he_ => ?_); refine g0_ ?_))
  refine ⟨_, quiet_of W (ρ := []) hro (.refl _), ?_⟩
  (refine g0_ ?_; repeat ((first | refine n1_ fun b_ => ?_ | refine n2_ fun b_ => ?_ | refine n3_ fun b_ pre_ => ?_ | refine Nat1.mk fun q_ hq_ => ?_ | refine em_ fun x_ hx_ => ?_ | refine Elem1.mk fun e_ he_ => ?_); refine g0_ ?_))
  refine ACalls.lend (hgo _ _) (r := []) (.refl _) ?_
  rintro _ -
  (refine g0_ ?_; repeat ((first | refine n1_ fun b_ => ?_ | refine n2_ fun b_ => ?_ | refine n3_ fun b_ pre_ => ?_ | refine Nat1.mk fun q_ hq_ => ?_ | refine em_ fun x_ hx_ => ?_ | refine Elem1.mk fun e_ he_ => ?_); refine g0_ ?_))
  exact ⟨(), trivial, rfl, wkMem.rfl'⟩
theorem actTo_ok (s : Scr) (y x : Int) (h0 : checkS s = 0) (d : Nat) (cv tv gv lv : PV) : ACalls Tryd.prog W 75 (actArgs [116, 111] y x d) [dskB d cv tv gv lv s] (Gives (fun _ : Unit => .tup []) (fun _ => [dskB d cv tv gv lv (toS s y x)]) (fun _ => True)) := by
  obtain ⟨q1, q2, q3, q4, q5, q6, q7, q8, q9, q10, q11⟩ := right_sizes h0
  have hro := drow_ok W d cv tv gv lv s y (by omega)
  have htm : 1 ≤ timesL x ∧ timesL x ≤ 9999 := by unfold timesL; omega
  rw [toS]
  generalize rowS s y = R at *
  have hgo := fun x y => dgo_ok W d cv tv gv lv s x y ⟨q1, q2⟩ ⟨q3, q4⟩
  clear h0
  obtain ⟨⟨gw, gh, cs⟩, X, Y, late, ⟨fo, ba, bi⟩, tp, bo, modes, tabs, kx, ky, ⟨f2, b2, bi2⟩, km, last, title, gone⟩ := s
  dsimp only at *
  rw [dskB_eq]
  refine acalls_of_vc (DL_ok (by decide)) Tryd.func75 rfl (by decide) (by decide) rfl ?_
  (refine g0_ ?_; repeat ((first | refine n1_ fun b_ => ?_ | refine n2_ fun b_ => ?_ | refine n3_ fun b_ pre_ => ?_ | refine Nat1.mk fun q_ hq_ => ?_ | refine em_ fun x_ hx_ => ?_ | refine Elem1.mk fun e_ he_ => ?_); refine g0_ ?_))
  refine (often_ok W x).use ?_; (refine g0_ ?_; repeat ((first | refine n1_ fun b_ => ?_ | refine n2_ fun b_ => ?_ | refine n3_ fun b_ pre_ => ?_ | refine Nat1.mk fun q_ hq_ => ?_ | refine em_ fun x_ hx_ => ?_ | refine Elem1.mk fun e_ he_ => ?_); refine g0_ ?_))
  refine ACalls.lend hro (r := []) (.refl _) ?_
  rintro _ -
  (refine g0_ ?_; repeat ((first | refine n1_ fun b_ => ?_ | refine n2_ fun b_ => ?_ | refine n3_ fun b_ pre_ => ?_ | refine Nat1.mk fun q_ hq_ => ?_ | refine em_ fun x_ hx_ => ?_ | refine Elem1.mk fun e_ he_ => ?_); refine g0_ ?_))
  refine ACalls.lend (hgo _ _) (r := []) (.refl _) ?_
  rintro _ -
  (refine g0_ ?_; repeat ((first | refine n1_ fun b_ => ?_ | refine n2_ fun b_ => ?_ | refine n3_ fun b_ pre_ => ?_ | refine Nat1.mk fun q_ hq_ => ?_ | refine em_ fun x_ hx_ => ?_ | refine Elem1.mk fun e_ he_ => ?_); refine g0_ ?_))
  exact ⟨(), trivial, rfl, wkMem.rfl'⟩
end Go.Eng.YtgpkedepboenpaaDoor
end
