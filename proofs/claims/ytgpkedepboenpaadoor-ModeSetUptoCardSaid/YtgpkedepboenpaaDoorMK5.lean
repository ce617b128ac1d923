/- Texts put together: Dsk8. -/
import Derived.Test.YtgpkedepboenpaaDoorMK4
import Derived.Test.YtgpkedepboenpaaDoorMW7
/- Modes: package mode's Set, Save, Restore, the desk's; the law ModeSet. -/
section
namespace Go.Eng.YtgpkedepboenpaaDoor
open Go Go.Eng Go.Proofs
variable (W : World)
set_option linter.unusedSimpArgs false
set_option maxRecDepth 100000
set_option linter.unusedVariables false
set_option maxHeartbeats 8000000
theorem and63I (x : Int) : 0 ≤ bitop .and .i64 x 63 ∧ bitop .and .i64 x 63 ≤ 63 := by
  have h : ((BitVec.ofInt 64 x) &&& (BitVec.ofInt 64 63)).toNat ≤ 63 := by
    rw [BitVec.toNat_and]
    exact Nat.and_le_right
  show 0 ≤ IntKind.i64.wrap ((BitVec.ofInt 64 x &&& BitVec.ofInt 64 63).toNat : Int) ∧ IntKind.i64.wrap ((BitVec.ofInt 64 x &&& BitVec.ofInt 64 63).toNat : Int) ≤ 63
  generalize (BitVec.ofInt 64 x &&& BitVec.ofInt 64 63).toNat = n at *
  rw [IntKind.wrap_i64]
  omega
theorem bits64 : ((List.range 64).all fun m => (List.range 64).all fun b => decide (bitop .and .i64 (m : Int) (63 - (b : Int)) = bitop .andNot .i64 (m : Int) (b : Int)) && decide (0 ≤ bitop .or .i64 (m : Int) (b : Int)) && decide (bitop .or .i64 (m : Int) (b : Int) ≤ 63) && decide (0 ≤ bitop .andNot .i64 (m : Int) (b : Int)) && decide (bitop .andNot .i64 (m : Int) (b : Int) ≤ 63)) = true := by decide +kernel
theorem bits_at {m b : Int} (hm : 0 ≤ m ∧ m ≤ 63) (hb : 0 ≤ b ∧ b ≤ 63) : bitop .and .i64 m (63 - b) = bitop .andNot .i64 m b ∧ 0 ≤ bitop .or .i64 m b ∧ bitop .or .i64 m b ≤ 63 ∧ 0 ≤ bitop .andNot .i64 m b ∧ bitop .andNot .i64 m b ≤ 63 := by
  obtain ⟨m, rfl⟩ := Int.eq_ofNat_of_zero_le hm.1
  obtain ⟨b, rfl⟩ := Int.eq_ofNat_of_zero_le hb.1
  have h1 := List.all_eq_true.1 bits64 m (List.mem_range.2 (by omega))
  have h2 := List.all_eq_true.1 h1 b (List.mem_range.2 (by omega))
  simp only [Bool.and_eq_true, decide_eq_true_eq] at h2
  exact ⟨h2.1.1.1.1, h2.1.1.1.2, h2.1.1.2, h2.1.2, h2.2⟩
def setM (m b : Int) (on : Bool) : Int := if on = true then bitop .or .i64 m b else bitop .andNot .i64 m b
def modeSet1 (s : Scr) (b m : Int) (on : Bool) : Scr := if bitop .and .i64 b 2 = 0 then { s with modes := m } else { s with modes := m, x := 0, y := if on = true then s.top else 0, late := false }
def modeSetS (s : Scr) (bits : Int) (on : Bool) : Scr :=
  if bitop .and .i64 (setM s.modes (bitop .and .i64 bits 63) on) 4 = 0 then { modeSet1 s (bitop .and .i64 bits 63) (setM s.modes (bitop .and .i64 bits 63) on) on with late := false } else modeSet1 s (bitop .and .i64 bits 63) (setM s.modes (bitop .and .i64 bits 63) on) on
abbrev boolB (b : Nat) (v : Bool) : Blk := ⟨b, .row 1 [.bool v] 0⟩
theorem setM_ok {m b : Int} (hm : 0 ≤ m ∧ m ≤ 63) (hb : 0 ≤ b ∧ b ≤ 63) (on : Bool) : 0 ≤ setM m b on ∧ setM m b on ≤ 63 := by
  have := bits_at hm hb
  unfold setM
  split <;> omega
theorem mset1_ok (b bc N b1 b2 : Nat) (tv gv : PV) (s : Scr) (bits : Int) (on : Bool) (h0 : checkS s = 0) : ACalls Tryd.prog W 105 [.bref b 0, .bref b1 0, .bref b2 0] [scrB b bc N tv gv s, boolB b2 on, numB b1 bits] (Gives (fun _ : Unit => .tup []) (fun _ => [scrB b bc N tv gv (modeSetS s bits on), boolB b2 on, numB b1 (bitop .and .i64 bits 63)]) (fun _ => True)) := by
  have hm63 := ((check_iff s).1 h0).modes
  have hb63 := and63I bits
  have hbit := bits_at hm63 hb63
  obtain ⟨q1, q2, q3, q4, q5, q6, q7, q8, q9, q10, q11⟩ := right_sizes h0
  clear h0
  obtain ⟨⟨gw, gh, cs⟩, X, Y, late, ⟨fo, ba, bi⟩, tp, bo, modes, tabs, kx, ky, ⟨f2, b2', bi2⟩, km, last, title, gone⟩ := s
  dsimp only at *
  cases on
  · rw [modeSetS, modeSet1]
    simp only [setM, Bool.false_eq_true, ↓reduceIte]
    by_cases h2 : bitop .and .i64 (bitop .and .i64 bits 63) 2 = 0
    · rw [if_pos h2]
      by_cases h4 : bitop .and .i64 (bitop .andNot .i64 modes (bitop .and .i64 bits 63)) 4 = 0
      · rw [if_pos h4]
        rw [scrB_eq]
        refine acalls_of_vc (DL_ok (by decide)) Tryd.func105 rfl (by decide) (by decide) rfl ?_
        (refine g0_ ?_; repeat ((first | refine n1_ fun b_ => ?_ | refine n2_ fun b_ => ?_ | refine n3_ fun b_ pre_ => ?_ | refine Nat1.mk fun q_ hq_ => ?_ | refine em_ fun x_ hx_ => ?_ | refine Elem1.mk fun e_ he_ => ?_); refine g0_ ?_))
        refine headL_ (head_ ?_); (refine g0_ ?_; repeat ((first | refine n1_ fun b_ => ?_ | refine n2_ fun b_ => ?_ | refine n3_ fun b_ pre_ => ?_ | refine Nat1.mk fun q_ hq_ => ?_ | refine em_ fun x_ hx_ => ?_ | refine Elem1.mk fun e_ he_ => ?_); refine g0_ ?_))
        (refine g1_ ?_; repeat ((first | refine n1_ fun b_ => ?_ | refine n2_ fun b_ => ?_ | refine n3_ fun b_ pre_ => ?_ | refine Nat1.mk fun q_ hq_ => ?_ | refine em_ fun x_ hx_ => ?_ | refine Elem1.mk fun e_ he_ => ?_); refine g1_ ?_))
        exact ⟨(), trivial, rfl, by (first | exact ⟨_, .refl _⟩ | exact wkMem.rfl' | exact ⟨_, .swap _ _ _⟩ | (repeat (first | exact wkMem.nil _ | exact wkMem.rfl' | exact wk_snoc _ _ _ | exact wk_fam (by assumption) _ _ _ | exact wk_famN (by assumption) _ _ _ | (apply wkMem.cons; (case' hl => (repeat (first | exact .here _ _ _ | apply Look.there)))) | apply wkMem.skip)))⟩
      · rw [if_neg h4]
        rw [scrB_eq]
        refine acalls_of_vc (DL_ok (by decide)) Tryd.func105 rfl (by decide) (by decide) rfl ?_
        (refine g0_ ?_; repeat ((first | refine n1_ fun b_ => ?_ | refine n2_ fun b_ => ?_ | refine n3_ fun b_ pre_ => ?_ | refine Nat1.mk fun q_ hq_ => ?_ | refine em_ fun x_ hx_ => ?_ | refine Elem1.mk fun e_ he_ => ?_); refine g0_ ?_))
        refine headL_ (head_ ?_); (refine g0_ ?_; repeat ((first | refine n1_ fun b_ => ?_ | refine n2_ fun b_ => ?_ | refine n3_ fun b_ pre_ => ?_ | refine Nat1.mk fun q_ hq_ => ?_ | refine em_ fun x_ hx_ => ?_ | refine Elem1.mk fun e_ he_ => ?_); refine g0_ ?_))
        (refine g1_ ?_; repeat ((first | refine n1_ fun b_ => ?_ | refine n2_ fun b_ => ?_ | refine n3_ fun b_ pre_ => ?_ | refine Nat1.mk fun q_ hq_ => ?_ | refine em_ fun x_ hx_ => ?_ | refine Elem1.mk fun e_ he_ => ?_); refine g1_ ?_))
        exact ⟨(), trivial, rfl, by (first | exact ⟨_, .refl _⟩ | exact wkMem.rfl' | exact ⟨_, .swap _ _ _⟩ | (repeat (first | exact wkMem.nil _ | exact wkMem.rfl' | exact wk_snoc _ _ _ | exact wk_fam (by assumption) _ _ _ | exact wk_famN (by assumption) _ _ _ | (apply wkMem.cons; (case' hl => (repeat (first | exact .here _ _ _ | apply Look.there)))) | apply wkMem.skip)))⟩
    · rw [if_neg h2]
      by_cases h4 : bitop .and .i64 (bitop .andNot .i64 modes (bitop .and .i64 bits 63)) 4 = 0
      · rw [if_pos h4]
        rw [scrB_eq]
        refine acalls_of_vc (DL_ok (by decide)) Tryd.func105 rfl (by decide) (by decide) rfl ?_
        (refine g0_ ?_; repeat ((first | refine n1_ fun b_ => ?_ | refine n2_ fun b_ => ?_ | refine n3_ fun b_ pre_ => ?_ | refine Nat1.mk fun q_ hq_ => ?_ | refine em_ fun x_ hx_ => ?_ | refine Elem1.mk fun e_ he_ => ?_); refine g0_ ?_))
        refine headL_ (head_ ?_); (refine g0_ ?_; repeat ((first | refine n1_ fun b_ => ?_ | refine n2_ fun b_ => ?_ | refine n3_ fun b_ pre_ => ?_ | refine Nat1.mk fun q_ hq_ => ?_ | refine em_ fun x_ hx_ => ?_ | refine Elem1.mk fun e_ he_ => ?_); refine g0_ ?_))
        (refine g1_ ?_; repeat ((first | refine n1_ fun b_ => ?_ | refine n2_ fun b_ => ?_ | refine n3_ fun b_ pre_ => ?_ | refine Nat1.mk fun q_ hq_ => ?_ | refine em_ fun x_ hx_ => ?_ | refine Elem1.mk fun e_ he_ => ?_); refine g1_ ?_))
        exact ⟨(), trivial, rfl, by (first | exact ⟨_, .refl _⟩ | exact wkMem.rfl' | exact ⟨_, .swap _ _ _⟩ | (repeat (first | exact wkMem.nil _ | exact wkMem.rfl' | exact wk_snoc _ _ _ | exact wk_fam (by assumption) _ _ _ | exact wk_famN (by assumption) _ _ _ | (apply wkMem.cons; (case' hl => (repeat (first | exact .here _ _ _ | apply Look.there)))) | apply wkMem.skip)))⟩
      · rw [if_neg h4]
        rw [scrB_eq]
        refine acalls_of_vc (DL_ok (by decide)) Tryd.func105 rfl (by decide) (by decide) rfl ?_
        (refine g0_ ?_; repeat ((first | refine n1_ fun b_ => ?_ | refine n2_ fun b_ => ?_ | refine n3_ fun b_ pre_ => ?_ | refine Nat1.mk fun q_ hq_ => ?_ | refine em_ fun x_ hx_ => ?_ | refine Elem1.mk fun e_ he_ => ?_); refine g0_ ?_))
        refine headL_ (head_ ?_); (refine g0_ ?_; repeat ((first | refine n1_ fun b_ => ?_ | refine n2_ fun b_ => ?_ | refine n3_ fun b_ pre_ => ?_ | refine Nat1.mk fun q_ hq_ => ?_ | refine em_ fun x_ hx_ => ?_ | refine Elem1.mk fun e_ he_ => ?_); refine g0_ ?_))
        (refine g1_ ?_; repeat ((first | refine n1_ fun b_ => ?_ | refine n2_ fun b_ => ?_ | refine n3_ fun b_ pre_ => ?_ | refine Nat1.mk fun q_ hq_ => ?_ | refine em_ fun x_ hx_ => ?_ | refine Elem1.mk fun e_ he_ => ?_); refine g1_ ?_))
        exact ⟨(), trivial, rfl, by (first | exact ⟨_, .refl _⟩ | exact wkMem.rfl' | exact ⟨_, .swap _ _ _⟩ | (repeat (first | exact wkMem.nil _ | exact wkMem.rfl' | exact wk_snoc _ _ _ | exact wk_fam (by assumption) _ _ _ | exact wk_famN (by assumption) _ _ _ | (apply wkMem.cons; (case' hl => (repeat (first | exact .here _ _ _ | apply Look.there)))) | apply wkMem.skip)))⟩
  · rw [modeSetS, modeSet1]
    simp only [setM, ↓reduceIte]
    by_cases h2 : bitop .and .i64 (bitop .and .i64 bits 63) 2 = 0
    · rw [if_pos h2]
      by_cases h4 : bitop .and .i64 (bitop .or .i64 modes (bitop .and .i64 bits 63)) 4 = 0
      · rw [if_pos h4]
        rw [scrB_eq]
        refine acalls_of_vc (DL_ok (by decide)) Tryd.func105 rfl (by decide) (by decide) rfl ?_
        (refine g0_ ?_; repeat ((first | refine n1_ fun b_ => ?_ | refine n2_ fun b_ => ?_ | refine n3_ fun b_ pre_ => ?_ | refine Nat1.mk fun q_ hq_ => ?_ | refine em_ fun x_ hx_ => ?_ | refine Elem1.mk fun e_ he_ => ?_); refine g0_ ?_))
        refine headL_ (head_ ?_); (refine g0_ ?_; repeat ((first | refine n1_ fun b_ => ?_ | refine n2_ fun b_ => ?_ | refine n3_ fun b_ pre_ => ?_ | refine Nat1.mk fun q_ hq_ => ?_ | refine em_ fun x_ hx_ => ?_ | refine Elem1.mk fun e_ he_ => ?_); refine g0_ ?_))
        (refine g1_ ?_; repeat ((first | refine n1_ fun b_ => ?_ | refine n2_ fun b_ => ?_ | refine n3_ fun b_ pre_ => ?_ | refine Nat1.mk fun q_ hq_ => ?_ | refine em_ fun x_ hx_ => ?_ | refine Elem1.mk fun e_ he_ => ?_); refine g1_ ?_))
        exact ⟨(), trivial, rfl, by (first | exact ⟨_, .refl _⟩ | exact wkMem.rfl' | exact ⟨_, .swap _ _ _⟩ | (repeat (first | exact wkMem.nil _ | exact wkMem.rfl' | exact wk_snoc _ _ _ | exact wk_fam (by assumption) _ _ _ | exact wk_famN (by assumption) _ _ _ | (apply wkMem.cons; (case' hl => (repeat (first | exact .here _ _ _ | apply Look.there)))) | apply wkMem.skip)))⟩
      · rw [if_neg h4]
        rw [scrB_eq]
        refine acalls_of_vc (DL_ok (by decide)) Tryd.func105 rfl (by decide) (by decide) rfl ?_
        (refine g0_ ?_; repeat ((first | refine n1_ fun b_ => ?_ | refine n2_ fun b_ => ?_ | refine n3_ fun b_ pre_ => ?_ | refine Nat1.mk fun q_ hq_ => ?_ | refine em_ fun x_ hx_ => ?_ | refine Elem1.mk fun e_ he_ => ?_); refine g0_ ?_))
        refine headL_ (head_ ?_); (refine g0_ ?_; repeat ((first | refine n1_ fun b_ => ?_ | refine n2_ fun b_ => ?_ | refine n3_ fun b_ pre_ => ?_ | refine Nat1.mk fun q_ hq_ => ?_ | refine em_ fun x_ hx_ => ?_ | refine Elem1.mk fun e_ he_ => ?_); refine g0_ ?_))
        (refine g1_ ?_; repeat ((first | refine n1_ fun b_ => ?_ | refine n2_ fun b_ => ?_ | refine n3_ fun b_ pre_ => ?_ | refine Nat1.mk fun q_ hq_ => ?_ | refine em_ fun x_ hx_ => ?_ | refine Elem1.mk fun e_ he_ => ?_); refine g1_ ?_))
        exact ⟨(), trivial, rfl, by (first | exact ⟨_, .refl _⟩ | exact wkMem.rfl' | exact ⟨_, .swap _ _ _⟩ | (repeat (first | exact wkMem.nil _ | exact wkMem.rfl' | exact wk_snoc _ _ _ | exact wk_fam (by assumption) _ _ _ | exact wk_famN (by assumption) _ _ _ | (apply wkMem.cons; (case' hl => (repeat (first | exact .here _ _ _ | apply Look.there)))) | apply wkMem.skip)))⟩
    · rw [if_neg h2]
      by_cases h4 : bitop .and .i64 (bitop .or .i64 modes (bitop .and .i64 bits 63)) 4 = 0
      · rw [if_pos h4]
        rw [scrB_eq]
        refine acalls_of_vc (DL_ok (by decide)) Tryd.func105 rfl (by decide) (by decide) rfl ?_
        (refine g0_ ?_; repeat ((first | refine n1_ fun b_ => ?_ | refine n2_ fun b_ => ?_ | refine n3_ fun b_ pre_ => ?_ | refine Nat1.mk fun q_ hq_ => ?_ | refine em_ fun x_ hx_ => ?_ | refine Elem1.mk fun e_ he_ => ?_); refine g0_ ?_))
        refine headL_ (head_ ?_); (refine g0_ ?_; repeat ((first | refine n1_ fun b_ => ?_ | refine n2_ fun b_ => ?_ | refine n3_ fun b_ pre_ => ?_ | refine Nat1.mk fun q_ hq_ => ?_ | refine em_ fun x_ hx_ => ?_ | refine Elem1.mk fun e_ he_ => ?_); refine g0_ ?_))
        (refine g1_ ?_; repeat ((first | refine n1_ fun b_ => ?_ | refine n2_ fun b_ => ?_ | refine n3_ fun b_ pre_ => ?_ | refine Nat1.mk fun q_ hq_ => ?_ | refine em_ fun x_ hx_ => ?_ | refine Elem1.mk fun e_ he_ => ?_); refine g1_ ?_))
        exact ⟨(), trivial, rfl, by (first | exact ⟨_, .refl _⟩ | exact wkMem.rfl' | exact ⟨_, .swap _ _ _⟩ | (repeat (first | exact wkMem.nil _ | exact wkMem.rfl' | exact wk_snoc _ _ _ | exact wk_fam (by assumption) _ _ _ | exact wk_famN (by assumption) _ _ _ | (apply wkMem.cons; (case' hl => (repeat (first | exact .here _ _ _ | apply Look.there)))) | apply wkMem.skip)))⟩
      · rw [if_neg h4]
        rw [scrB_eq]
        refine acalls_of_vc (DL_ok (by decide)) Tryd.func105 rfl (by decide) (by decide) rfl ?_
        (refine g0_ ?_; repeat ((first | refine n1_ fun b_ => ?_ | refine n2_ fun b_ => ?_ | refine n3_ fun b_ pre_ => ?_ | refine Nat1.mk fun q_ hq_ => ?_ | refine em_ fun x_ hx_ => ?_ | refine Elem1.mk fun e_ he_ => ?_); refine g0_ ?_))
        refine headL_ (head_ ?_); (refine g0_ ?_; repeat ((first | refine n1_ fun b_ => ?_ | refine n2_ fun b_ => ?_ | refine n3_ fun b_ pre_ => ?_ | refine Nat1.mk fun q_ hq_ => ?_ | refine em_ fun x_ hx_ => ?_ | refine Elem1.mk fun e_ he_ => ?_); refine g0_ ?_))
        (refine g1_ ?_; repeat ((first | refine n1_ fun b_ => ?_ | refine n2_ fun b_ => ?_ | refine n3_ fun b_ pre_ => ?_ | refine Nat1.mk fun q_ hq_ => ?_ | refine em_ fun x_ hx_ => ?_ | refine Elem1.mk fun e_ he_ => ?_); refine g1_ ?_))
        exact ⟨(), trivial, rfl, by (first | exact ⟨_, .refl _⟩ | exact wkMem.rfl' | exact ⟨_, .swap _ _ _⟩ | (repeat (first | exact wkMem.nil _ | exact wkMem.rfl' | exact wk_snoc _ _ _ | exact wk_fam (by assumption) _ _ _ | exact wk_famN (by assumption) _ _ _ | (apply wkMem.cons; (case' hl => (repeat (first | exact .here _ _ _ | apply Look.there)))) | apply wkMem.skip)))⟩
def saveS (s : Scr) : Scr := { s with kx := s.x, ky := s.y, ks := s.look, km := bitop .and .i64 s.modes 6 }
def restoreS (s : Scr) : Scr := { s with x := s.kx, y := s.ky, look := s.ks, late := false, modes := bitop .or .i64 (bitop .andNot .i64 s.modes 6) s.km }
theorem save1_ok (b bc N : Nat) (tv gv : PV) (s : Scr) (h0 : checkS s = 0) : ACalls Tryd.prog W 90 [.bref b 0] [scrB b bc N tv gv s] (Gives (fun _ : Unit => .tup []) (fun _ => [scrB b bc N tv gv (saveS s)]) (fun _ => True)) := by
  clear h0
  rw [saveS]
  obtain ⟨⟨gw, gh, cs⟩, X, Y, late, ⟨fo, ba, bi⟩, tp, bo, modes, tabs, kx, ky, ⟨f2, b2', bi2⟩, km, last, title, gone⟩ := s
  dsimp only
  rw [scrB_eq]
  refine acalls_of_vc (DL_ok (by decide)) Tryd.func90 rfl (by decide) (by decide) rfl ?_
  (refine g0_ ?_; repeat ((first | refine n1_ fun b_ => ?_ | refine n2_ fun b_ => ?_ | refine n3_ fun b_ pre_ => ?_ | refine Nat1.mk fun q_ hq_ => ?_ | refine em_ fun x_ hx_ => ?_ | refine Elem1.mk fun e_ he_ => ?_); refine g0_ ?_))
  refine headL_ (head_ ?_); (refine g0_ ?_; repeat ((first | refine n1_ fun b_ => ?_ | refine n2_ fun b_ => ?_ | refine n3_ fun b_ pre_ => ?_ | refine Nat1.mk fun q_ hq_ => ?_ | refine em_ fun x_ hx_ => ?_ | refine Elem1.mk fun e_ he_ => ?_); refine g0_ ?_))
  exact ⟨(), trivial, rfl, by (first | exact ⟨_, .refl _⟩ | exact wkMem.rfl' | exact ⟨_, .swap _ _ _⟩ | (repeat (first | exact wkMem.nil _ | exact wkMem.rfl' | exact wk_snoc _ _ _ | exact wk_fam (by assumption) _ _ _ | exact wk_famN (by assumption) _ _ _ | (apply wkMem.cons; (case' hl => (repeat (first | exact .here _ _ _ | apply Look.there)))) | apply wkMem.skip)))⟩
theorem restore1_ok (b bc N : Nat) (tv gv : PV) (s : Scr) (h0 : checkS s = 0) : ACalls Tryd.prog W 96 [.bref b 0] [scrB b bc N tv gv s] (Gives (fun _ : Unit => .tup []) (fun _ => [scrB b bc N tv gv (restoreS s)]) (fun _ => True)) := by
  clear h0
  rw [restoreS]
  obtain ⟨⟨gw, gh, cs⟩, X, Y, late, ⟨fo, ba, bi⟩, tp, bo, modes, tabs, kx, ky, ⟨f2, b2', bi2⟩, km, last, title, gone⟩ := s
  dsimp only
  rw [scrB_eq]
  refine acalls_of_vc (DL_ok (by decide)) Tryd.func96 rfl (by decide) (by decide) rfl ?_
  (refine g0_ ?_; repeat ((first | refine n1_ fun b_ => ?_ | refine n2_ fun b_ => ?_ | refine n3_ fun b_ pre_ => ?_ | refine Nat1.mk fun q_ hq_ => ?_ | refine em_ fun x_ hx_ => ?_ | refine Elem1.mk fun e_ he_ => ?_); refine g0_ ?_))
  refine Draws10.chain ⟨28, [.new, .new, .new, .new, .new, .new, .new, .new, .new, .new, .new, .new, .new, .new, .new, .new, .new, .new, .new, .new, .new, .turn, .skip, .skip, .skip, .skip, .skip, .skip], [(21, [.keep, .again, .again, .again, .keep, .keep, .keep, .keep, .keep, .keep, .keep, .keep, .keep, .keep, .keep, .keep, .keep, .keep, .keep, .keep, .keep, .keep, .new, .new, .turn, .skip, .skip, .skip]), (24, [.keep, .keep, .again, .again, .keep, .keep, .keep, .keep, .keep, .keep, .keep, .keep, .keep, .keep, .keep, .keep, .keep, .keep, .keep, .keep, .keep, .keep, .keep, .keep, .keep, .new, .new, .turn]), (27, [.keep, .keep, .keep, .again, .keep, .keep, .keep, .keep, .keep, .keep, .keep, .keep, .keep, .keep, .keep, .keep, .keep, .keep, .keep, .keep, .keep, .keep, .keep, .keep, .keep, .keep, .keep, .keep])], by decide +kernel, ?_⟩; (refine g0_ ?_; repeat ((first | refine n1_ fun b_ => ?_ | refine n2_ fun b_ => ?_ | refine n3_ fun b_ pre_ => ?_ | refine Nat1.mk fun q_ hq_ => ?_ | refine em_ fun x_ hx_ => ?_ | refine Elem1.mk fun e_ he_ => ?_); refine g0_ ?_))
  refine headL_ (head_ ?_); (refine g0_ ?_; repeat ((first | refine n1_ fun b_ => ?_ | refine n2_ fun b_ => ?_ | refine n3_ fun b_ pre_ => ?_ | refine Nat1.mk fun q_ hq_ => ?_ | refine em_ fun x_ hx_ => ?_ | refine Elem1.mk fun e_ he_ => ?_); refine g0_ ?_))
  exact ⟨(), trivial, rfl, by (first | exact ⟨_, .refl _⟩ | exact wkMem.rfl' | exact ⟨_, .swap _ _ _⟩ | (repeat (first | exact wkMem.nil _ | exact wkMem.rfl' | exact wk_snoc _ _ _ | exact wk_fam (by assumption) _ _ _ | exact wk_famN (by assumption) _ _ _ | (apply wkMem.cons; (case' hl => (repeat (first | exact .here _ _ _ | apply Look.there)))) | apply wkMem.skip)))⟩
theorem actSave_ok (s : Scr) (n m : Int) (h0 : checkS s = 0) (d : Nat) (cv tv gv lv : PV) : ACalls Tryd.prog W 75 (actArgs [115, 97, 118, 101] n m d) [dskB d cv tv gv lv s] (Gives (fun _ : Unit => .tup []) (fun _ => [dskB d cv tv gv lv (saveS s)]) (fun _ => True)) := by
  clear h0
  rw [saveS]
  obtain ⟨⟨gw, gh, cs⟩, X, Y, late, ⟨fo, ba, bi⟩, tp, bo, modes, tabs, kx, ky, ⟨f2, b2', bi2⟩, km, last, title, gone⟩ := s
  dsimp only
  rw [dskB_eq]
  refine acalls_of_vc (DL_ok (by decide)) Tryd.func75 rfl (by decide) (by decide) rfl ?_
  (refine g0_ ?_; repeat ((first | refine n1_ fun b_ => ?_ | refine n2_ fun b_ => ?_ | refine n3_ fun b_ pre_ => ?_ | refine Nat1.mk fun q_ hq_ => ?_ | refine em_ fun x_ hx_ => ?_ | refine Elem1.mk fun e_ he_ => ?_); refine g0_ ?_))
  refine headL_ (head_ ?_); (refine g0_ ?_; repeat ((first | refine n1_ fun b_ => ?_ | refine n2_ fun b_ => ?_ | refine n3_ fun b_ pre_ => ?_ | refine Nat1.mk fun q_ hq_ => ?_ | refine em_ fun x_ hx_ => ?_ | refine Elem1.mk fun e_ he_ => ?_); refine g0_ ?_))
  exact ⟨(), trivial, rfl, by (first | exact ⟨_, .refl _⟩ | exact wkMem.rfl' | exact ⟨_, .swap _ _ _⟩ | (repeat (first | exact wkMem.nil _ | exact wkMem.rfl' | exact wk_snoc _ _ _ | exact wk_fam (by assumption) _ _ _ | exact wk_famN (by assumption) _ _ _ | (apply wkMem.cons; (case' hl => (repeat (first | exact .here _ _ _ | apply Look.there)))) | apply wkMem.skip)))⟩
theorem km_bits : ((List.range 64).all fun m => (List.range 64).all fun k => !decide (bitop .and .i64 (k : Int) 57 = 0) || (decide (bitop .and .i64 (m : Int) 57 + (k : Int) = bitop .or .i64 (bitop .andNot .i64 (m : Int) 6) (k : Int)) && decide (0 ≤ bitop .and .i64 (m : Int) 57 + (k : Int)) && decide (bitop .and .i64 (m : Int) 57 + (k : Int) ≤ 63))) = true := by decide +kernel
theorem km_at {m k : Int} (hm : 0 ≤ m ∧ m ≤ 63) (hk : bitop .andNot .i64 k 6 = 0) (hok : i64ok k) : bitop .and .i64 m 57 + k = bitop .or .i64 (bitop .andNot .i64 m 6) k ∧ 0 ≤ bitop .and .i64 m 57 + k ∧ bitop .and .i64 m 57 + k ≤ 63 := by
  have h57 := and57 k hok
  by_cases hc : k < 0 ∨ bitop .and .i64 k 57 ≠ 0 ∨ 63 < k
  · exact absurd hk (h57.2 hc)
  · have h1 : 0 ≤ k := by omega
    have h2 : k ≤ 63 := by omega
    have h3 : bitop .and .i64 k 57 = 0 := Decidable.not_not.1 fun h => hc (.inr (.inl h))
    obtain ⟨m, rfl⟩ := Int.eq_ofNat_of_zero_le hm.1
    obtain ⟨k, rfl⟩ := Int.eq_ofNat_of_zero_le h1
    have g1 := List.all_eq_true.1 km_bits m (List.mem_range.2 (by omega))
    have g2 := List.all_eq_true.1 g1 k (List.mem_range.2 (by omega))
    simp only [Bool.or_eq_true, Bool.not_eq_true', decide_eq_false_iff_not, Bool.and_eq_true, decide_eq_true_eq] at g2
    rcases g2 with g2 | g2
    · exact absurd h3 g2
    · exact ⟨g2.1.1, g2.1.2, g2.2⟩
theorem actRestore_ok (s : Scr) (hs : s.ok) (n m : Int) (h0 : checkS s = 0) (d : Nat) (cv tv gv lv : PV) : ACalls Tryd.prog W 75 (actArgs [114, 101, 115, 116, 111, 114, 101] n m d) [dskB d cv tv gv lv s] (Gives (fun _ : Unit => .tup []) (fun _ => [dskB d cv tv gv lv (restoreS s)]) (fun _ => True)) := by
  have hR := (check_iff s).1 h0
  have hk := km_at hR.modes hR.km hs.km
  clear h0 hs hR
  rw [restoreS, ← hk.1]
  obtain ⟨⟨gw, gh, cs⟩, X, Y, late, ⟨fo, ba, bi⟩, tp, bo, modes, tabs, kx, ky, ⟨f2, b2', bi2⟩, km, last, title, gone⟩ := s
  dsimp only at *
  rw [dskB_eq]
  refine acalls_of_vc (DL_ok (by decide)) Tryd.func75 rfl (by decide) (by decide) rfl ?_
  (refine g0_ ?_; repeat ((first | refine n1_ fun b_ => ?_ | refine n2_ fun b_ => ?_ | refine n3_ fun b_ pre_ => ?_ | refine Nat1.mk fun q_ hq_ => ?_ | refine em_ fun x_ hx_ => ?_ | refine Elem1.mk fun e_ he_ => ?_); refine g0_ ?_))
  refine Draws10.chain ⟨34, [.new, .new, .new, .new, .new, .new, .new, .new, .new, .new, .new, .new, .new, .new, .new, .new, .new, .new, .new, .new, .new, .new, .new, .new, .new, .turn, .skip, .skip, .skip, .skip, .skip, .skip, .skip, .skip], [(25, [.keep, .again, .again, .again, .keep, .keep, .keep, .keep, .keep, .keep, .keep, .keep, .keep, .keep, .keep, .keep, .keep, .keep, .keep, .keep, .keep, .keep, .keep, .keep, .keep, .keep, .new, .new, .new, .turn, .skip, .skip, .skip, .skip]), (29, [.keep, .keep, .again, .again, .keep, .keep, .keep, .keep, .keep, .keep, .keep, .keep, .keep, .keep, .keep, .keep, .keep, .keep, .keep, .keep, .keep, .keep, .keep, .keep, .keep, .keep, .keep, .keep, .keep, .keep, .new, .new, .new, .turn]), (33, [.keep, .keep, .keep, .again, .keep, .keep, .keep, .keep, .keep, .keep, .keep, .keep, .keep, .keep, .keep, .keep, .keep, .keep, .keep, .keep, .keep, .keep, .keep, .keep, .keep, .keep, .keep, .keep, .keep, .keep, .keep, .keep, .keep, .keep])], by decide +kernel, ?_⟩; (refine g0_ ?_; repeat ((first | refine n1_ fun b_ => ?_ | refine n2_ fun b_ => ?_ | refine n3_ fun b_ pre_ => ?_ | refine Nat1.mk fun q_ hq_ => ?_ | refine em_ fun x_ hx_ => ?_ | refine Elem1.mk fun e_ he_ => ?_); refine g0_ ?_))
  refine headL_ (head_ ?_); (refine g0_ ?_; repeat ((first | refine n1_ fun b_ => ?_ | refine n2_ fun b_ => ?_ | refine n3_ fun b_ pre_ => ?_ | refine Nat1.mk fun q_ hq_ => ?_ | refine em_ fun x_ hx_ => ?_ | refine Elem1.mk fun e_ he_ => ?_); refine g0_ ?_))
  exact ⟨(), trivial, rfl, by (first | exact ⟨_, .refl _⟩ | exact wkMem.rfl' | exact ⟨_, .swap _ _ _⟩ | (repeat (first | exact wkMem.nil _ | exact wkMem.rfl' | exact wk_snoc _ _ _ | exact wk_fam (by assumption) _ _ _ | exact wk_famN (by assumption) _ _ _ | (apply wkMem.cons; (case' hl => (repeat (first | exact .here _ _ _ | apply Look.there)))) | apply wkMem.skip)))⟩
theorem actSet_ok (s : Scr) (bits m : Int) (h0 : checkS s = 0) (d : Nat) (cv tv gv lv : PV) : ACalls Tryd.prog W 75 (actArgs [115, 101, 116] bits m d) [dskB d cv tv gv lv s] (Gives (fun _ : Unit => .tup []) (fun _ => [dskB d cv tv gv lv (modeSetS s bits true)]) (fun _ => True)) := by
  have hm63 := ((check_iff s).1 h0).modes
  have hb63 := and63I bits
  have hbit := bits_at hm63 hb63
  obtain ⟨q1, q2, q3, q4, q5, q6, q7, q8, q9, q10, q11⟩ := right_sizes h0
  clear h0
  obtain ⟨⟨gw, gh, cs⟩, X, Y, late, ⟨fo, ba, bi⟩, tp, bo, modes, tabs, kx, ky, ⟨f2, b2', bi2⟩, km, last, title, gone⟩ := s
  dsimp only at *
  rw [modeSetS, modeSet1]
  simp only [setM, ↓reduceIte]
  cases late
  · by_cases h2 : bitop .and .i64 (bitop .and .i64 bits 63) 2 = 0
    · rw [if_pos h2]
      by_cases h4 : bitop .and .i64 (bitop .or .i64 modes (bitop .and .i64 bits 63)) 4 = 0
      · rw [if_pos h4]
        rw [dskB_eq]
        refine acalls_of_vc (DL_ok (by decide)) Tryd.func75 rfl (by decide) (by decide) rfl ?_
        (refine g0_ ?_; repeat ((first | refine n1_ fun b_ => ?_ | refine n2_ fun b_ => ?_ | refine n3_ fun b_ pre_ => ?_ | refine Nat1.mk fun q_ hq_ => ?_ | refine em_ fun x_ hx_ => ?_ | refine Elem1.mk fun e_ he_ => ?_); refine g0_ ?_))
        (refine g1_ ?_; repeat ((first | refine n1_ fun b_ => ?_ | refine n2_ fun b_ => ?_ | refine n3_ fun b_ pre_ => ?_ | refine Nat1.mk fun q_ hq_ => ?_ | refine em_ fun x_ hx_ => ?_ | refine Elem1.mk fun e_ he_ => ?_); refine g1_ ?_))
        (try simp only [h4, ne_eq, not_true_eq_false, not_false_eq_true, decide_false, decide_true])
        exact ⟨(), trivial, by trivial, by (first | exact ⟨_, .refl _⟩ | exact wkMem.rfl' | exact ⟨_, .swap _ _ _⟩ | (repeat (first | exact wkMem.nil _ | exact wkMem.rfl' | exact wk_snoc _ _ _ | exact wk_fam (by assumption) _ _ _ | exact wk_famN (by assumption) _ _ _ | (apply wkMem.cons; (case' hl => (repeat (first | exact .here _ _ _ | apply Look.there)))) | apply wkMem.skip)))⟩
      · rw [if_neg h4]
        rw [dskB_eq]
        refine acalls_of_vc (DL_ok (by decide)) Tryd.func75 rfl (by decide) (by decide) rfl ?_
        (refine g0_ ?_; repeat ((first | refine n1_ fun b_ => ?_ | refine n2_ fun b_ => ?_ | refine n3_ fun b_ pre_ => ?_ | refine Nat1.mk fun q_ hq_ => ?_ | refine em_ fun x_ hx_ => ?_ | refine Elem1.mk fun e_ he_ => ?_); refine g0_ ?_))
        (refine g1_ ?_; repeat ((first | refine n1_ fun b_ => ?_ | refine n2_ fun b_ => ?_ | refine n3_ fun b_ pre_ => ?_ | refine Nat1.mk fun q_ hq_ => ?_ | refine em_ fun x_ hx_ => ?_ | refine Elem1.mk fun e_ he_ => ?_); refine g1_ ?_))
        (try simp only [h4, ne_eq, not_true_eq_false, not_false_eq_true, decide_false, decide_true])
        exact ⟨(), trivial, by trivial, by (first | exact ⟨_, .refl _⟩ | exact wkMem.rfl' | exact ⟨_, .swap _ _ _⟩ | (repeat (first | exact wkMem.nil _ | exact wkMem.rfl' | exact wk_snoc _ _ _ | exact wk_fam (by assumption) _ _ _ | exact wk_famN (by assumption) _ _ _ | (apply wkMem.cons; (case' hl => (repeat (first | exact .here _ _ _ | apply Look.there)))) | apply wkMem.skip)))⟩
    · rw [if_neg h2]
      by_cases h4 : bitop .and .i64 (bitop .or .i64 modes (bitop .and .i64 bits 63)) 4 = 0
      · rw [if_pos h4]
        rw [dskB_eq]
        refine acalls_of_vc (DL_ok (by decide)) Tryd.func75 rfl (by decide) (by decide) rfl ?_
        (refine g0_ ?_; repeat ((first | refine n1_ fun b_ => ?_ | refine n2_ fun b_ => ?_ | refine n3_ fun b_ pre_ => ?_ | refine Nat1.mk fun q_ hq_ => ?_ | refine em_ fun x_ hx_ => ?_ | refine Elem1.mk fun e_ he_ => ?_); refine g0_ ?_))
        (refine g1_ ?_; repeat ((first | refine n1_ fun b_ => ?_ | refine n2_ fun b_ => ?_ | refine n3_ fun b_ pre_ => ?_ | refine Nat1.mk fun q_ hq_ => ?_ | refine em_ fun x_ hx_ => ?_ | refine Elem1.mk fun e_ he_ => ?_); refine g1_ ?_))
        (try simp only [h4, ne_eq, not_true_eq_false, not_false_eq_true, decide_false, decide_true])
        exact ⟨(), trivial, by trivial, by (first | exact ⟨_, .refl _⟩ | exact wkMem.rfl' | exact ⟨_, .swap _ _ _⟩ | (repeat (first | exact wkMem.nil _ | exact wkMem.rfl' | exact wk_snoc _ _ _ | exact wk_fam (by assumption) _ _ _ | exact wk_famN (by assumption) _ _ _ | (apply wkMem.cons; (case' hl => (repeat (first | exact .here _ _ _ | apply Look.there)))) | apply wkMem.skip)))⟩
      · rw [if_neg h4]
        rw [dskB_eq]
        refine acalls_of_vc (DL_ok (by decide)) Tryd.func75 rfl (by decide) (by decide) rfl ?_
        (refine g0_ ?_; repeat ((first | refine n1_ fun b_ => ?_ | refine n2_ fun b_ => ?_ | refine n3_ fun b_ pre_ => ?_ | refine Nat1.mk fun q_ hq_ => ?_ | refine em_ fun x_ hx_ => ?_ | refine Elem1.mk fun e_ he_ => ?_); refine g0_ ?_))
        (refine g1_ ?_; repeat ((first | refine n1_ fun b_ => ?_ | refine n2_ fun b_ => ?_ | refine n3_ fun b_ pre_ => ?_ | refine Nat1.mk fun q_ hq_ => ?_ | refine em_ fun x_ hx_ => ?_ | refine Elem1.mk fun e_ he_ => ?_); refine g1_ ?_))
        (try simp only [h4, ne_eq, not_true_eq_false, not_false_eq_true, decide_false, decide_true])
        exact ⟨(), trivial, by trivial, by (first | exact ⟨_, .refl _⟩ | exact wkMem.rfl' | exact ⟨_, .swap _ _ _⟩ | (repeat (first | exact wkMem.nil _ | exact wkMem.rfl' | exact wk_snoc _ _ _ | exact wk_fam (by assumption) _ _ _ | exact wk_famN (by assumption) _ _ _ | (apply wkMem.cons; (case' hl => (repeat (first | exact .here _ _ _ | apply Look.there)))) | apply wkMem.skip)))⟩
  · by_cases h2 : bitop .and .i64 (bitop .and .i64 bits 63) 2 = 0
    · rw [if_pos h2]
      by_cases h4 : bitop .and .i64 (bitop .or .i64 modes (bitop .and .i64 bits 63)) 4 = 0
      · rw [if_pos h4]
        rw [dskB_eq]
        refine acalls_of_vc (DL_ok (by decide)) Tryd.func75 rfl (by decide) (by decide) rfl ?_
        (refine g0_ ?_; repeat ((first | refine n1_ fun b_ => ?_ | refine n2_ fun b_ => ?_ | refine n3_ fun b_ pre_ => ?_ | refine Nat1.mk fun q_ hq_ => ?_ | refine em_ fun x_ hx_ => ?_ | refine Elem1.mk fun e_ he_ => ?_); refine g0_ ?_))
        (refine g1_ ?_; repeat ((first | refine n1_ fun b_ => ?_ | refine n2_ fun b_ => ?_ | refine n3_ fun b_ pre_ => ?_ | refine Nat1.mk fun q_ hq_ => ?_ | refine em_ fun x_ hx_ => ?_ | refine Elem1.mk fun e_ he_ => ?_); refine g1_ ?_))
        (try simp only [h4, ne_eq, not_true_eq_false, not_false_eq_true, decide_false, decide_true])
        exact ⟨(), trivial, by trivial, by (first | exact ⟨_, .refl _⟩ | exact wkMem.rfl' | exact ⟨_, .swap _ _ _⟩ | (repeat (first | exact wkMem.nil _ | exact wkMem.rfl' | exact wk_snoc _ _ _ | exact wk_fam (by assumption) _ _ _ | exact wk_famN (by assumption) _ _ _ | (apply wkMem.cons; (case' hl => (repeat (first | exact .here _ _ _ | apply Look.there)))) | apply wkMem.skip)))⟩
      · rw [if_neg h4]
        rw [dskB_eq]
        refine acalls_of_vc (DL_ok (by decide)) Tryd.func75 rfl (by decide) (by decide) rfl ?_
        (refine g0_ ?_; repeat ((first | refine n1_ fun b_ => ?_ | refine n2_ fun b_ => ?_ | refine n3_ fun b_ pre_ => ?_ | refine Nat1.mk fun q_ hq_ => ?_ | refine em_ fun x_ hx_ => ?_ | refine Elem1.mk fun e_ he_ => ?_); refine g0_ ?_))
        (refine g1_ ?_; repeat ((first | refine n1_ fun b_ => ?_ | refine n2_ fun b_ => ?_ | refine n3_ fun b_ pre_ => ?_ | refine Nat1.mk fun q_ hq_ => ?_ | refine em_ fun x_ hx_ => ?_ | refine Elem1.mk fun e_ he_ => ?_); refine g1_ ?_))
        (try simp only [h4, ne_eq, not_true_eq_false, not_false_eq_true, decide_false, decide_true])
        exact ⟨(), trivial, by trivial, by (first | exact ⟨_, .refl _⟩ | exact wkMem.rfl' | exact ⟨_, .swap _ _ _⟩ | (repeat (first | exact wkMem.nil _ | exact wkMem.rfl' | exact wk_snoc _ _ _ | exact wk_fam (by assumption) _ _ _ | exact wk_famN (by assumption) _ _ _ | (apply wkMem.cons; (case' hl => (repeat (first | exact .here _ _ _ | apply Look.there)))) | apply wkMem.skip)))⟩
    · rw [if_neg h2]
      by_cases h4 : bitop .and .i64 (bitop .or .i64 modes (bitop .and .i64 bits 63)) 4 = 0
      · rw [if_pos h4]
        rw [dskB_eq]
        refine acalls_of_vc (DL_ok (by decide)) Tryd.func75 rfl (by decide) (by decide) rfl ?_
        (refine g0_ ?_; repeat ((first | refine n1_ fun b_ => ?_ | refine n2_ fun b_ => ?_ | refine n3_ fun b_ pre_ => ?_ | refine Nat1.mk fun q_ hq_ => ?_ | refine em_ fun x_ hx_ => ?_ | refine Elem1.mk fun e_ he_ => ?_); refine g0_ ?_))
        (refine g1_ ?_; repeat ((first | refine n1_ fun b_ => ?_ | refine n2_ fun b_ => ?_ | refine n3_ fun b_ pre_ => ?_ | refine Nat1.mk fun q_ hq_ => ?_ | refine em_ fun x_ hx_ => ?_ | refine Elem1.mk fun e_ he_ => ?_); refine g1_ ?_))
        (try simp only [h4, ne_eq, not_true_eq_false, not_false_eq_true, decide_false, decide_true])
        exact ⟨(), trivial, by trivial, by (first | exact ⟨_, .refl _⟩ | exact wkMem.rfl' | exact ⟨_, .swap _ _ _⟩ | (repeat (first | exact wkMem.nil _ | exact wkMem.rfl' | exact wk_snoc _ _ _ | exact wk_fam (by assumption) _ _ _ | exact wk_famN (by assumption) _ _ _ | (apply wkMem.cons; (case' hl => (repeat (first | exact .here _ _ _ | apply Look.there)))) | apply wkMem.skip)))⟩
      · rw [if_neg h4]
        rw [dskB_eq]
        refine acalls_of_vc (DL_ok (by decide)) Tryd.func75 rfl (by decide) (by decide) rfl ?_
        (refine g0_ ?_; repeat ((first | refine n1_ fun b_ => ?_ | refine n2_ fun b_ => ?_ | refine n3_ fun b_ pre_ => ?_ | refine Nat1.mk fun q_ hq_ => ?_ | refine em_ fun x_ hx_ => ?_ | refine Elem1.mk fun e_ he_ => ?_); refine g0_ ?_))
        (refine g1_ ?_; repeat ((first | refine n1_ fun b_ => ?_ | refine n2_ fun b_ => ?_ | refine n3_ fun b_ pre_ => ?_ | refine Nat1.mk fun q_ hq_ => ?_ | refine em_ fun x_ hx_ => ?_ | refine Elem1.mk fun e_ he_ => ?_); refine g1_ ?_))
        (try simp only [h4, ne_eq, not_true_eq_false, not_false_eq_true, decide_false, decide_true])
        exact ⟨(), trivial, by trivial, by (first | exact ⟨_, .refl _⟩ | exact wkMem.rfl' | exact ⟨_, .swap _ _ _⟩ | (repeat (first | exact wkMem.nil _ | exact wkMem.rfl' | exact wk_snoc _ _ _ | exact wk_fam (by assumption) _ _ _ | exact wk_famN (by assumption) _ _ _ | (apply wkMem.cons; (case' hl => (repeat (first | exact .here _ _ _ | apply Look.there)))) | apply wkMem.skip)))⟩
theorem actClear_ok (s : Scr) (bits m : Int) (h0 : checkS s = 0) (d : Nat) (cv tv gv lv : PV) : ACalls Tryd.prog W 75 (actArgs [99, 108, 101, 97, 114] bits m d) [dskB d cv tv gv lv s] (Gives (fun _ : Unit => .tup []) (fun _ => [dskB d cv tv gv lv (modeSetS s bits false)]) (fun _ => True)) := by
  have hm63 := ((check_iff s).1 h0).modes
  have hb63 := and63I bits
  have hbit := bits_at hm63 hb63
  obtain ⟨q1, q2, q3, q4, q5, q6, q7, q8, q9, q10, q11⟩ := right_sizes h0
  clear h0
  obtain ⟨⟨gw, gh, cs⟩, X, Y, late, ⟨fo, ba, bi⟩, tp, bo, modes, tabs, kx, ky, ⟨f2, b2', bi2⟩, km, last, title, gone⟩ := s
  dsimp only at *
  rw [modeSetS, modeSet1]
  simp only [setM, Bool.false_eq_true, ↓reduceIte]
  rw [← hbit.1]
  cases late
  · by_cases h2 : bitop .and .i64 (bitop .and .i64 bits 63) 2 = 0
    · rw [if_pos h2]
      by_cases h4 : bitop .and .i64 (bitop .and .i64 modes (63 - bitop .and .i64 bits 63)) 4 = 0
      · rw [if_pos h4]
        rw [dskB_eq]
        refine acalls_of_vc (DL_ok (by decide)) Tryd.func75 rfl (by decide) (by decide) rfl ?_
        (refine g0_ ?_; repeat ((first | refine n1_ fun b_ => ?_ | refine n2_ fun b_ => ?_ | refine n3_ fun b_ pre_ => ?_ | refine Nat1.mk fun q_ hq_ => ?_ | refine em_ fun x_ hx_ => ?_ | refine Elem1.mk fun e_ he_ => ?_); refine g0_ ?_))
        (refine g1_ ?_; repeat ((first | refine n1_ fun b_ => ?_ | refine n2_ fun b_ => ?_ | refine n3_ fun b_ pre_ => ?_ | refine Nat1.mk fun q_ hq_ => ?_ | refine em_ fun x_ hx_ => ?_ | refine Elem1.mk fun e_ he_ => ?_); refine g1_ ?_))
        (try simp only [h4, ne_eq, not_true_eq_false, not_false_eq_true, decide_false, decide_true])
        exact ⟨(), trivial, by trivial, by (first | exact ⟨_, .refl _⟩ | exact wkMem.rfl' | exact ⟨_, .swap _ _ _⟩ | (repeat (first | exact wkMem.nil _ | exact wkMem.rfl' | exact wk_snoc _ _ _ | exact wk_fam (by assumption) _ _ _ | exact wk_famN (by assumption) _ _ _ | (apply wkMem.cons; (case' hl => (repeat (first | exact .here _ _ _ | apply Look.there)))) | apply wkMem.skip)))⟩
      · rw [if_neg h4]
        rw [dskB_eq]
        refine acalls_of_vc (DL_ok (by decide)) Tryd.func75 rfl (by decide) (by decide) rfl ?_
        (refine g0_ ?_; repeat ((first | refine n1_ fun b_ => ?_ | refine n2_ fun b_ => ?_ | refine n3_ fun b_ pre_ => ?_ | refine Nat1.mk fun q_ hq_ => ?_ | refine em_ fun x_ hx_ => ?_ | refine Elem1.mk fun e_ he_ => ?_); refine g0_ ?_))
        (refine g1_ ?_; repeat ((first | refine n1_ fun b_ => ?_ | refine n2_ fun b_ => ?_ | refine n3_ fun b_ pre_ => ?_ | refine Nat1.mk fun q_ hq_ => ?_ | refine em_ fun x_ hx_ => ?_ | refine Elem1.mk fun e_ he_ => ?_); refine g1_ ?_))
        (try simp only [h4, ne_eq, not_true_eq_false, not_false_eq_true, decide_false, decide_true])
        exact ⟨(), trivial, by trivial, by (first | exact ⟨_, .refl _⟩ | exact wkMem.rfl' | exact ⟨_, .swap _ _ _⟩ | (repeat (first | exact wkMem.nil _ | exact wkMem.rfl' | exact wk_snoc _ _ _ | exact wk_fam (by assumption) _ _ _ | exact wk_famN (by assumption) _ _ _ | (apply wkMem.cons; (case' hl => (repeat (first | exact .here _ _ _ | apply Look.there)))) | apply wkMem.skip)))⟩
    · rw [if_neg h2]
      by_cases h4 : bitop .and .i64 (bitop .and .i64 modes (63 - bitop .and .i64 bits 63)) 4 = 0
      · rw [if_pos h4]
        rw [dskB_eq]
        refine acalls_of_vc (DL_ok (by decide)) Tryd.func75 rfl (by decide) (by decide) rfl ?_
        (refine g0_ ?_; repeat ((first | refine n1_ fun b_ => ?_ | refine n2_ fun b_ => ?_ | refine n3_ fun b_ pre_ => ?_ | refine Nat1.mk fun q_ hq_ => ?_ | refine em_ fun x_ hx_ => ?_ | refine Elem1.mk fun e_ he_ => ?_); refine g0_ ?_))
        (refine g1_ ?_; repeat ((first | refine n1_ fun b_ => ?_ | refine n2_ fun b_ => ?_ | refine n3_ fun b_ pre_ => ?_ | refine Nat1.mk fun q_ hq_ => ?_ | refine em_ fun x_ hx_ => ?_ | refine Elem1.mk fun e_ he_ => ?_); refine g1_ ?_))
        (try simp only [h4, ne_eq, not_true_eq_false, not_false_eq_true, decide_false, decide_true])
        exact ⟨(), trivial, by trivial, by (first | exact ⟨_, .refl _⟩ | exact wkMem.rfl' | exact ⟨_, .swap _ _ _⟩ | (repeat (first | exact wkMem.nil _ | exact wkMem.rfl' | exact wk_snoc _ _ _ | exact wk_fam (by assumption) _ _ _ | exact wk_famN (by assumption) _ _ _ | (apply wkMem.cons; (case' hl => (repeat (first | exact .here _ _ _ | apply Look.there)))) | apply wkMem.skip)))⟩
      · rw [if_neg h4]
        rw [dskB_eq]
        refine acalls_of_vc (DL_ok (by decide)) Tryd.func75 rfl (by decide) (by decide) rfl ?_
        (refine g0_ ?_; repeat ((first | refine n1_ fun b_ => ?_ | refine n2_ fun b_ => ?_ | refine n3_ fun b_ pre_ => ?_ | refine Nat1.mk fun q_ hq_ => ?_ | refine em_ fun x_ hx_ => ?_ | refine Elem1.mk fun e_ he_ => ?_); refine g0_ ?_))
        (refine g1_ ?_; repeat ((first | refine n1_ fun b_ => ?_ | refine n2_ fun b_ => ?_ | refine n3_ fun b_ pre_ => ?_ | refine Nat1.mk fun q_ hq_ => ?_ | refine em_ fun x_ hx_ => ?_ | refine Elem1.mk fun e_ he_ => ?_); refine g1_ ?_))
        (try simp only [h4, ne_eq, not_true_eq_false, not_false_eq_true, decide_false, decide_true])
        exact ⟨(), trivial, by trivial, by (first | exact ⟨_, .refl _⟩ | exact wkMem.rfl' | exact ⟨_, .swap _ _ _⟩ | (repeat (first | exact wkMem.nil _ | exact wkMem.rfl' | exact wk_snoc _ _ _ | exact wk_fam (by assumption) _ _ _ | exact wk_famN (by assumption) _ _ _ | (apply wkMem.cons; (case' hl => (repeat (first | exact .here _ _ _ | apply Look.there)))) | apply wkMem.skip)))⟩
  · by_cases h2 : bitop .and .i64 (bitop .and .i64 bits 63) 2 = 0
    · rw [if_pos h2]
      by_cases h4 : bitop .and .i64 (bitop .and .i64 modes (63 - bitop .and .i64 bits 63)) 4 = 0
      · rw [if_pos h4]
        rw [dskB_eq]
        refine acalls_of_vc (DL_ok (by decide)) Tryd.func75 rfl (by decide) (by decide) rfl ?_
        (refine g0_ ?_; repeat ((first | refine n1_ fun b_ => ?_ | refine n2_ fun b_ => ?_ | refine n3_ fun b_ pre_ => ?_ | refine Nat1.mk fun q_ hq_ => ?_ | refine em_ fun x_ hx_ => ?_ | refine Elem1.mk fun e_ he_ => ?_); refine g0_ ?_))
        (refine g1_ ?_; repeat ((first | refine n1_ fun b_ => ?_ | refine n2_ fun b_ => ?_ | refine n3_ fun b_ pre_ => ?_ | refine Nat1.mk fun q_ hq_ => ?_ | refine em_ fun x_ hx_ => ?_ | refine Elem1.mk fun e_ he_ => ?_); refine g1_ ?_))
        (try simp only [h4, ne_eq, not_true_eq_false, not_false_eq_true, decide_false, decide_true])
        exact ⟨(), trivial, by trivial, by (first | exact ⟨_, .refl _⟩ | exact wkMem.rfl' | exact ⟨_, .swap _ _ _⟩ | (repeat (first | exact wkMem.nil _ | exact wkMem.rfl' | exact wk_snoc _ _ _ | exact wk_fam (by assumption) _ _ _ | exact wk_famN (by assumption) _ _ _ | (apply wkMem.cons; (case' hl => (repeat (first | exact .here _ _ _ | apply Look.there)))) | apply wkMem.skip)))⟩
      · rw [if_neg h4]
        rw [dskB_eq]
        refine acalls_of_vc (DL_ok (by decide)) Tryd.func75 rfl (by decide) (by decide) rfl ?_
        (refine g0_ ?_; repeat ((first | refine n1_ fun b_ => ?_ | refine n2_ fun b_ => ?_ | refine n3_ fun b_ pre_ => ?_ | refine Nat1.mk fun q_ hq_ => ?_ | refine em_ fun x_ hx_ => ?_ | refine Elem1.mk fun e_ he_ => ?_); refine g0_ ?_))
        (refine g1_ ?_; repeat ((first | refine n1_ fun b_ => ?_ | refine n2_ fun b_ => ?_ | refine n3_ fun b_ pre_ => ?_ | refine Nat1.mk fun q_ hq_ => ?_ | refine em_ fun x_ hx_ => ?_ | refine Elem1.mk fun e_ he_ => ?_); refine g1_ ?_))
        (try simp only [h4, ne_eq, not_true_eq_false, not_false_eq_true, decide_false, decide_true])
        exact ⟨(), trivial, by trivial, by (first | exact ⟨_, .refl _⟩ | exact wkMem.rfl' | exact ⟨_, .swap _ _ _⟩ | (repeat (first | exact wkMem.nil _ | exact wkMem.rfl' | exact wk_snoc _ _ _ | exact wk_fam (by assumption) _ _ _ | exact wk_famN (by assumption) _ _ _ | (apply wkMem.cons; (case' hl => (repeat (first | exact .here _ _ _ | apply Look.there)))) | apply wkMem.skip)))⟩
    · rw [if_neg h2]
      by_cases h4 : bitop .and .i64 (bitop .and .i64 modes (63 - bitop .and .i64 bits 63)) 4 = 0
      · rw [if_pos h4]
        rw [dskB_eq]
        refine acalls_of_vc (DL_ok (by decide)) Tryd.func75 rfl (by decide) (by decide) rfl ?_
        (refine g0_ ?_; repeat ((first | refine n1_ fun b_ => ?_ | refine n2_ fun b_ => ?_ | refine n3_ fun b_ pre_ => ?_ | refine Nat1.mk fun q_ hq_ => ?_ | refine em_ fun x_ hx_ => ?_ | refine Elem1.mk fun e_ he_ => ?_); refine g0_ ?_))
        (refine g1_ ?_; repeat ((first | refine n1_ fun b_ => ?_ | refine n2_ fun b_ => ?_ | refine n3_ fun b_ pre_ => ?_ | refine Nat1.mk fun q_ hq_ => ?_ | refine em_ fun x_ hx_ => ?_ | refine Elem1.mk fun e_ he_ => ?_); refine g1_ ?_))
        (try simp only [h4, ne_eq, not_true_eq_false, not_false_eq_true, decide_false, decide_true])
        exact ⟨(), trivial, by trivial, by (first | exact ⟨_, .refl _⟩ | exact wkMem.rfl' | exact ⟨_, .swap _ _ _⟩ | (repeat (first | exact wkMem.nil _ | exact wkMem.rfl' | exact wk_snoc _ _ _ | exact wk_fam (by assumption) _ _ _ | exact wk_famN (by assumption) _ _ _ | (apply wkMem.cons; (case' hl => (repeat (first | exact .here _ _ _ | apply Look.there)))) | apply wkMem.skip)))⟩
      · rw [if_neg h4]
        rw [dskB_eq]
        refine acalls_of_vc (DL_ok (by decide)) Tryd.func75 rfl (by decide) (by decide) rfl ?_
        (refine g0_ ?_; repeat ((first | refine n1_ fun b_ => ?_ | refine n2_ fun b_ => ?_ | refine n3_ fun b_ pre_ => ?_ | refine Nat1.mk fun q_ hq_ => ?_ | refine em_ fun x_ hx_ => ?_ | refine Elem1.mk fun e_ he_ => ?_); refine g0_ ?_))
        (refine g1_ ?_; repeat ((first | refine n1_ fun b_ => ?_ | refine n2_ fun b_ => ?_ | refine n3_ fun b_ pre_ => ?_ | refine Nat1.mk fun q_ hq_ => ?_ | refine em_ fun x_ hx_ => ?_ | refine Elem1.mk fun e_ he_ => ?_); refine g1_ ?_))
        (try simp only [h4, ne_eq, not_true_eq_false, not_false_eq_true, decide_false, decide_true])
        exact ⟨(), trivial, by trivial, by (first | exact ⟨_, .refl _⟩ | exact wkMem.rfl' | exact ⟨_, .swap _ _ _⟩ | (repeat (first | exact wkMem.nil _ | exact wkMem.rfl' | exact wk_snoc _ _ _ | exact wk_fam (by assumption) _ _ _ | exact wk_famN (by assumption) _ _ _ | (apply wkMem.cons; (case' hl => (repeat (first | exact .here _ _ _ | apply Look.there)))) | apply wkMem.skip)))⟩
theorem modeSave_ok (hT : Tabs W) (s : Scr) (hok : s.ok) : Pure Tryd.prog W 32 [encScr s] (.tup [encScr (moveE s (saveS s)).1, .int .i64 (moveE s (saveS s)).2]) := by
  by_cases h0 : checkS s = 0
  · rw [moveE, if_pos h0]
    refine Pure.of (acalls_of_vc (drawOk W) Tryd.func32 rfl (by decide) (by decide) rfl ?_)
    (refine g0_ ?_; repeat ((first | refine n1_ fun b_ => ?_ | refine n2_ fun b_ => ?_ | refine n3_ fun b_ pre_ => ?_ | refine Nat1.mk fun q_ hq_ => ?_ | refine em_ fun x_ hx_ => ?_ | refine Elem1.mk fun e_ he_ => ?_); refine g0_ ?_))
    refine ACalls.lendF (change_ok W hT s hok h0 90 [] [] (saveS s) (fun b bc bt bg => ?_)) (.refl _) ?_
    · rw [List.append_nil]
      refine ACalls.lend (save1_ok W b bc s.g.cs.length (.rsl bt 1 0 s.tabs.length) (.rsl bg 1 0 s.gone.length) s h0) (r := scrR bc bt bg [] s) (.refl _) ?_
      rintro _ -
      exact ⟨rfl, done_plain0 b bc bt bg s (saveS s) rfl rfl rfl⟩
    · (refine g0_ ?_; repeat ((first | refine n1_ fun b_ => ?_ | refine n2_ fun b_ => ?_ | refine n3_ fun b_ pre_ => ?_ | refine Nat1.mk fun q_ hq_ => ?_ | refine em_ fun x_ hx_ => ?_ | refine Elem1.mk fun e_ he_ => ?_); refine g0_ ?_))
      exact .refl _
  · rw [moveE, if_neg h0]
    have hb := change_bad W hT s hok h0
    refine Pure.of (acalls_of_vc (drawOk W) Tryd.func32 rfl (by decide) (by decide) rfl ?_)
    (refine g0_ ?_; repeat ((first | refine n1_ fun b_ => ?_ | refine n2_ fun b_ => ?_ | refine n3_ fun b_ pre_ => ?_ | refine Nat1.mk fun q_ hq_ => ?_ | refine em_ fun x_ hx_ => ?_ | refine Elem1.mk fun e_ he_ => ?_); refine g0_ ?_))
    refine (hb 90 []).use ?_
    (refine g0_ ?_; repeat ((first | refine n1_ fun b_ => ?_ | refine n2_ fun b_ => ?_ | refine n3_ fun b_ pre_ => ?_ | refine Nat1.mk fun q_ hq_ => ?_ | refine em_ fun x_ hx_ => ?_ | refine Elem1.mk fun e_ he_ => ?_); refine g0_ ?_))
    exact .refl _
theorem modeRestore_ok (hT : Tabs W) (s : Scr) (hok : s.ok) : Pure Tryd.prog W 35 [encScr s] (.tup [encScr (moveE s (restoreS s)).1, .int .i64 (moveE s (restoreS s)).2]) := by
  by_cases h0 : checkS s = 0
  · rw [moveE, if_pos h0]
    refine Pure.of (acalls_of_vc (drawOk W) Tryd.func35 rfl (by decide) (by decide) rfl ?_)
    (refine g0_ ?_; repeat ((first | refine n1_ fun b_ => ?_ | refine n2_ fun b_ => ?_ | refine n3_ fun b_ pre_ => ?_ | refine Nat1.mk fun q_ hq_ => ?_ | refine em_ fun x_ hx_ => ?_ | refine Elem1.mk fun e_ he_ => ?_); refine g0_ ?_))
    refine ACalls.lendF (change_ok W hT s hok h0 96 [] [] (restoreS s) (fun b bc bt bg => ?_)) (.refl _) ?_
    · rw [List.append_nil]
      refine ACalls.lend (restore1_ok W b bc s.g.cs.length (.rsl bt 1 0 s.tabs.length) (.rsl bg 1 0 s.gone.length) s h0) (r := scrR bc bt bg [] s) (.refl _) ?_
      rintro _ -
      exact ⟨rfl, done_plain0 b bc bt bg s (restoreS s) rfl rfl rfl⟩
    · (refine g0_ ?_; repeat ((first | refine n1_ fun b_ => ?_ | refine n2_ fun b_ => ?_ | refine n3_ fun b_ pre_ => ?_ | refine Nat1.mk fun q_ hq_ => ?_ | refine em_ fun x_ hx_ => ?_ | refine Elem1.mk fun e_ he_ => ?_); refine g0_ ?_))
      exact .refl _
  · rw [moveE, if_neg h0]
    have hb := change_bad W hT s hok h0
    refine Pure.of (acalls_of_vc (drawOk W) Tryd.func35 rfl (by decide) (by decide) rfl ?_)
    (refine g0_ ?_; repeat ((first | refine n1_ fun b_ => ?_ | refine n2_ fun b_ => ?_ | refine n3_ fun b_ pre_ => ?_ | refine Nat1.mk fun q_ hq_ => ?_ | refine em_ fun x_ hx_ => ?_ | refine Elem1.mk fun e_ he_ => ?_); refine g0_ ?_))
    refine (hb 96 []).use ?_
    (refine g0_ ?_; repeat ((first | refine n1_ fun b_ => ?_ | refine n2_ fun b_ => ?_ | refine n3_ fun b_ pre_ => ?_ | refine Nat1.mk fun q_ hq_ => ?_ | refine em_ fun x_ hx_ => ?_ | refine Elem1.mk fun e_ he_ => ?_); refine g0_ ?_))
    exact .refl _
theorem modeSetS_tabs (s : Scr) (bits : Int) (on : Bool) : (modeSetS s bits on).tabs = s.tabs := by unfold modeSetS modeSet1; split <;> split <;> rfl
theorem modeSetS_gone (s : Scr) (bits : Int) (on : Bool) : (modeSetS s bits on).gone = s.gone := by unfold modeSetS modeSet1; split <;> split <;> rfl
theorem modeSetS_g (s : Scr) (bits : Int) (on : Bool) : (modeSetS s bits on).g = s.g := by unfold modeSetS modeSet1; split <;> split <;> rfl
theorem modeSetS_ok {s : Scr} (h : s.ok) (h0 : checkS s = 0) (bits : Int) (on : Bool) : (modeSetS s bits on).ok := by
  have hm := setM_ok ((check_iff s).1 h0).modes (and63I bits) on
  have hm' : i64ok (setM s.modes (bitop .and .i64 bits 63) on) := by unfold i64ok; omega
  have z : i64ok 0 := by unfold i64ok; omega
  obtain ⟨h1, h2, h3, h4, h5, h6, h7, h8, h9, h10, h11, h12, h13, h14, h15⟩ := h
  have hy : i64ok (if on = true then s.top else 0) := by
    split
    · exact h5
    · exact z
  have k1 : (modeSet1 s (bitop .and .i64 bits 63) (setM s.modes (bitop .and .i64 bits 63) on) on).ok := by
    unfold modeSet1
    split
    · exact ⟨h1, h2, h3, h4, h5, h6, hm', h8, h9, h10, h11, h12, h13, h14, h15⟩
    · exact ⟨h1, z, hy, h4, h5, h6, hm', h8, h9, h10, h11, h12, h13, h14, h15⟩
  unfold modeSetS
  split
  · obtain ⟨g1, g2, g3, g4, g5, g6, g7, g8, g9, g10, g11, g12, g13, g14, g15⟩ := k1
    exact ⟨g1, g2, g3, g4, g5, g6, g7, g8, g9, g10, g11, g12, g13, g14, g15⟩
  · exact k1
theorem and6I (x : Int) : i64ok (bitop .and .i64 x 6) := by
  have h : ((BitVec.ofInt 64 x) &&& (BitVec.ofInt 64 6)).toNat ≤ 6 := by
    rw [BitVec.toNat_and]
    exact Nat.and_le_right
  show i64ok (IntKind.i64.wrap ((BitVec.ofInt 64 x &&& BitVec.ofInt 64 6).toNat : Int))
  generalize (BitVec.ofInt 64 x &&& BitVec.ofInt 64 6).toNat = n at *
  rw [IntKind.wrap_i64]
  unfold i64ok; omega
theorem saveS_ok {s : Scr} (h : s.ok) : (saveS s).ok := by
  obtain ⟨h1, h2, h3, h4, h5, h6, h7, h8, h9, h10, h11, h12, h13, h14, h15⟩ := h
  exact ⟨h1, h2, h3, h4, h5, h6, h7, h8, h2, h3, h4, and6I s.modes, h13, h14, h15⟩
theorem restoreS_ok {s : Scr} (h : s.ok) (h0 : checkS s = 0) : (restoreS s).ok := by
  have hR := (check_iff s).1 h0
  have hk := km_at hR.modes hR.km h.km
  obtain ⟨h1, h2, h3, h4, h5, h6, h7, h8, h9, h10, h11, h12, h13, h14, h15⟩ := h
  refine ⟨h1, h9, h10, h11, h5, h6, ?_, h8, h9, h10, h11, h12, h13, h14, h15⟩
  show i64ok (bitop .or .i64 (bitop .andNot .i64 s.modes 6) s.km)
  rw [← hk.1]
  unfold i64ok; omega
theorem modeSetF_ok (hT : Tabs W) (s : Scr) (hok : s.ok) (bits : Int) (on : Bool) : Pure Tryd.prog W 45 [encScr s, .int .i64 bits, .bool on] (.tup [encScr (moveE s (modeSetS s bits on)).1, .int .i64 (moveE s (modeSetS s bits on)).2]) := by
  by_cases h0 : checkS s = 0
  · rw [moveE, if_pos h0]
    refine Pure.of (acalls_of_vc (drawOk W) Tryd.func45 rfl (by decide) (by decide) rfl ?_)
    (refine g0_ ?_; repeat ((first | refine n1_ fun b_ => ?_ | refine n2_ fun b_ => ?_ | refine n3_ fun b_ pre_ => ?_ | refine Nat1.mk fun q_ hq_ => ?_ | refine em_ fun x_ hx_ => ?_ | refine Elem1.mk fun e_ he_ => ?_); refine g0_ ?_))
    rename_i bs b1 b2
    refine ACalls.lendF (change_ok W hT s hok h0 105 [.bref b1 0, .bref b2 0] [boolB b2 on, numB b1 bits] (modeSetS s bits on) (fun b bc bt bg => ?_)) (List.Perm.append_right [_] (List.perm_append_comm (l₁ := [_]) (l₂ := [_, _]))) ?_
    · refine ACalls.lend (mset1_ok W b bc s.g.cs.length b1 b2 (.rsl bt 1 0 s.tabs.length) (.rsl bg 1 0 s.gone.length) s bits on h0) (r := scrR bc bt bg [] s) ?_ ?_
      · exact (List.perm_append_comm (l₁ := scrR bc bt bg [] s) (l₂ := [boolB b2 on, numB b1 bits])).cons _
      · rintro _ -
        exact ⟨rfl, done_plainL b bc bt bg s (modeSetS s bits on) (by rw [modeSetS_g]) (modeSetS_tabs s bits on) (modeSetS_gone s bits on) [boolB b2 on, numB b1 (bitop .and .i64 bits 63)]⟩
    · (refine g0_ ?_; repeat ((first | refine n1_ fun b_ => ?_ | refine n2_ fun b_ => ?_ | refine n3_ fun b_ pre_ => ?_ | refine Nat1.mk fun q_ hq_ => ?_ | refine em_ fun x_ hx_ => ?_ | refine Elem1.mk fun e_ he_ => ?_); refine g0_ ?_))
      exact .refl _
  · rw [moveE, if_neg h0]
    have hb := change_bad W hT s hok h0
    refine Pure.of (acalls_of_vc (drawOk W) Tryd.func45 rfl (by decide) (by decide) rfl ?_)
    (refine g0_ ?_; repeat ((first | refine n1_ fun b_ => ?_ | refine n2_ fun b_ => ?_ | refine n3_ fun b_ pre_ => ?_ | refine Nat1.mk fun q_ hq_ => ?_ | refine em_ fun x_ hx_ => ?_ | refine Elem1.mk fun e_ he_ => ?_); refine g0_ ?_))
    rename_i bs b1 b2
    refine (hb 105 [.bref b1 0, .bref b2 0]).use ?_
    (refine g0_ ?_; repeat ((first | refine n1_ fun b_ => ?_ | refine n2_ fun b_ => ?_ | refine n3_ fun b_ pre_ => ?_ | refine Nat1.mk fun q_ hq_ => ?_ | refine em_ fun x_ hx_ => ?_ | refine Elem1.mk fun e_ he_ => ?_); refine g0_ ?_))
    exact .refl _
theorem modeSet1L_ok (hT : Tabs W) (s : Scr) (hs : s.ok) (bits : Int) (on : Bool) (b1 b2 : Nat) : ACalls Tryd.prog W 44 [encScr s, .bref b1 0, .bref b2 0] [boolB b2 on, numB b1 bits] fun v σ' => Frz σ' v (.tup [encScr (moveE s (modeSetS s bits on)).1, .int .i64 (moveE s (modeSetS s bits on)).2]) := by
  have h := modeSetF_ok W hT s hs bits on
  refine acalls_of_vc (drawOk W) Tryd.func44 rfl (by decide) (by decide) rfl ?_
  (refine g0_ ?_; repeat ((first | refine n1_ fun b_ => ?_ | refine n2_ fun b_ => ?_ | refine n3_ fun b_ pre_ => ?_ | refine Nat1.mk fun q_ hq_ => ?_ | refine em_ fun x_ hx_ => ?_ | refine Elem1.mk fun e_ he_ => ?_); refine g0_ ?_))
  refine (h).use ?_; (refine g0_ ?_; repeat ((first | refine n1_ fun b_ => ?_ | refine n2_ fun b_ => ?_ | refine n3_ fun b_ pre_ => ?_ | refine Nat1.mk fun q_ hq_ => ?_ | refine em_ fun x_ hx_ => ?_ | refine Elem1.mk fun e_ he_ => ?_); refine g0_ ?_))
  exact .refl _
theorem modeSet_ok (hT : Tabs W) (s : Scr) (hs : s.ok) (bits : Int) (hb : -9223372036854775808 ≤ bits ∧ bits ≤ 9223372036854775807) (on : Bool) :
    Pure Tryd.prog W 10 [encScr s, .int .i64 bits, .bool on] (.bool true) := by
  have h4 := acts0_ok W hT s hs 32 _ _ (moveE_ok hs fun _ => saveS_ok hs) [115, 97, 118, 101] 0 0 (modeSave_ok W hT s hs) (actOp_block W (s' := saveS s) _ 0 0 rfl rfl rfl fun h0 => actSave_ok W s 0 0 h0)
  have h5 := acts0_ok W hT s hs 35 _ _ (moveE_ok hs fun h0 => restoreS_ok hs h0) [114, 101, 115, 116, 111, 114, 101] 0 0 (modeRestore_ok W hT s hs) (actOp_block W (s' := restoreS s) _ 0 0 rfl rfl rfl fun h0 => actRestore_ok W s hs 0 0 h0)
  cases on
  · have h3 := fun b1 b2 => acts_ok W hT s hs 44 [.bref b1 0, .bref b2 0] [boolB b2 false, numB b1 bits] _ _ (moveE_ok hs fun h0 => modeSetS_ok hs h0 bits false) [99, 108, 101, 97, 114] bits 0 (modeSet1L_ok W hT s hs bits false b1 b2) (actOp_block W (s' := modeSetS s bits false) _ bits 0 (modeSetS_tabs s bits false) (modeSetS_gone s bits false) (modeSetS_g s bits false) fun h0 => actClear_ok W s bits 0 h0)
    refine Pure.of (acalls_of_vc (drawOk W) Tryd.func10 rfl (by decide) (by decide) rfl ?_)
    (refine g0_ ?_; repeat ((first | refine n1_ fun b_ => ?_ | refine n2_ fun b_ => ?_ | refine n3_ fun b_ pre_ => ?_ | refine Nat1.mk fun q_ hq_ => ?_ | refine em_ fun x_ hx_ => ?_ | refine Elem1.mk fun e_ he_ => ?_); refine g0_ ?_))
    (refine g1_ ?_; repeat ((first | refine n1_ fun b_ => ?_ | refine n2_ fun b_ => ?_ | refine n3_ fun b_ pre_ => ?_ | refine Nat1.mk fun q_ hq_ => ?_ | refine em_ fun x_ hx_ => ?_ | refine Elem1.mk fun e_ he_ => ?_); refine g1_ ?_))
    rename_i b1 b2
    refine ACalls.lendW (h3 b2 b_) (ρ := [⟨b1, .row 22 [encScr s] 0⟩]) (.refl _) ?_
    rintro v σ1 rfl
    refine ⟨[⟨b1, .row 22 [encScr s] 0⟩], wkMem.comm ⟨σ1, .refl _⟩, ?_⟩
    (refine g1_ ?_; repeat ((first | refine n1_ fun b_ => ?_ | refine n2_ fun b_ => ?_ | refine n3_ fun b_ pre_ => ?_ | refine Nat1.mk fun q_ hq_ => ?_ | refine em_ fun x_ hx_ => ?_ | refine Elem1.mk fun e_ he_ => ?_); refine g1_ ?_))
    refine (h4).use ?_; (refine g0_ ?_; repeat ((first | refine n1_ fun b_ => ?_ | refine n2_ fun b_ => ?_ | refine n3_ fun b_ pre_ => ?_ | refine Nat1.mk fun q_ hq_ => ?_ | refine em_ fun x_ hx_ => ?_ | refine Elem1.mk fun e_ he_ => ?_); refine g0_ ?_))
    (refine g1_ ?_; repeat ((first | refine n1_ fun b_ => ?_ | refine n2_ fun b_ => ?_ | refine n3_ fun b_ pre_ => ?_ | refine Nat1.mk fun q_ hq_ => ?_ | refine em_ fun x_ hx_ => ?_ | refine Elem1.mk fun e_ he_ => ?_); refine g1_ ?_))
    refine (h5).use ?_; (refine g0_ ?_; repeat ((first | refine n1_ fun b_ => ?_ | refine n2_ fun b_ => ?_ | refine n3_ fun b_ pre_ => ?_ | refine Nat1.mk fun q_ hq_ => ?_ | refine em_ fun x_ hx_ => ?_ | refine Elem1.mk fun e_ he_ => ?_); refine g0_ ?_))
    exact .refl _
  · have h3 := fun b1 b2 => acts_ok W hT s hs 44 [.bref b1 0, .bref b2 0] [boolB b2 true, numB b1 bits] _ _ (moveE_ok hs fun h0 => modeSetS_ok hs h0 bits true) [115, 101, 116] bits 0 (modeSet1L_ok W hT s hs bits true b1 b2) (actOp_block W (s' := modeSetS s bits true) _ bits 0 (modeSetS_tabs s bits true) (modeSetS_gone s bits true) (modeSetS_g s bits true) fun h0 => actSet_ok W s bits 0 h0)
    refine Pure.of (acalls_of_vc (drawOk W) Tryd.func10 rfl (by decide) (by decide) rfl ?_)
    (refine g0_ ?_; repeat ((first | refine n1_ fun b_ => ?_ | refine n2_ fun b_ => ?_ | refine n3_ fun b_ pre_ => ?_ | refine Nat1.mk fun q_ hq_ => ?_ | refine em_ fun x_ hx_ => ?_ | refine Elem1.mk fun e_ he_ => ?_); refine g0_ ?_))
    (refine g1_ ?_; repeat ((first | refine n1_ fun b_ => ?_ | refine n2_ fun b_ => ?_ | refine n3_ fun b_ pre_ => ?_ | refine Nat1.mk fun q_ hq_ => ?_ | refine em_ fun x_ hx_ => ?_ | refine Elem1.mk fun e_ he_ => ?_); refine g1_ ?_))
    rename_i b1 b2
    refine ACalls.lendW (h3 b2 b_) (ρ := [⟨b1, .row 22 [encScr s] 0⟩]) (.refl _) ?_
    rintro v σ1 rfl
    refine ⟨[⟨b1, .row 22 [encScr s] 0⟩], wkMem.comm ⟨σ1, .refl _⟩, ?_⟩
    (refine g1_ ?_; repeat ((first | refine n1_ fun b_ => ?_ | refine n2_ fun b_ => ?_ | refine n3_ fun b_ pre_ => ?_ | refine Nat1.mk fun q_ hq_ => ?_ | refine em_ fun x_ hx_ => ?_ | refine Elem1.mk fun e_ he_ => ?_); refine g1_ ?_))
    refine (h4).use ?_; (refine g0_ ?_; repeat ((first | refine n1_ fun b_ => ?_ | refine n2_ fun b_ => ?_ | refine n3_ fun b_ pre_ => ?_ | refine Nat1.mk fun q_ hq_ => ?_ | refine em_ fun x_ hx_ => ?_ | refine Elem1.mk fun e_ he_ => ?_); refine g0_ ?_))
    (refine g1_ ?_; repeat ((first | refine n1_ fun b_ => ?_ | refine n2_ fun b_ => ?_ | refine n3_ fun b_ pre_ => ?_ | refine Nat1.mk fun q_ hq_ => ?_ | refine em_ fun x_ hx_ => ?_ | refine Elem1.mk fun e_ he_ => ?_); refine g1_ ?_))
    refine (h5).use ?_; (refine g0_ ?_; repeat ((first | refine n1_ fun b_ => ?_ | refine n2_ fun b_ => ?_ | refine n3_ fun b_ pre_ => ?_ | refine Nat1.mk fun q_ hq_ => ?_ | refine em_ fun x_ hx_ => ?_ | refine Elem1.mk fun e_ he_ => ?_); refine g0_ ?_))
    exact .refl _
end Go.Eng.YtgpkedepboenpaaDoor
end
