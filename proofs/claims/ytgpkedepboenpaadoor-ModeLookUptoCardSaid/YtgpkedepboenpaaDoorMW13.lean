/- Texts put together: ScrK, StyleA, ScrLk. -/
import Derived.Test.YtgpkedepboenpaaDoorMW7
import Derived.Test.YtgpkedepboenpaaDoorME9
import Derived.Test.YtgpkedepboenpaaDoorMS1
/- Screens of the call's own: package mode's Save and Restore; with nothing of the desks. -/
section
namespace Go.Eng.YtgpkedepboenpaaDoor
open Go Go.Eng Go.Proofs
variable (W : World)
set_option linter.unusedSimpArgs false
set_option maxRecDepth 100000
set_option linter.unusedVariables false
set_option maxHeartbeats 8000000
theorem scrB_eqK (b bc N : Nat) (tv gv : PV) (gw gh : Int) (cs : List Cell) (x y : Int) (late : Bool) (f ba bi top bottom modes : Int) (tabs : List Bool) (kx ky f2 b2 bi2 km last : Int) (title : List UInt8) (gone : List (List Cell)) :
    scrB b bc N tv gv ⟨⟨gw, gh, cs⟩, x, y, late, ⟨f, ba, bi⟩, top, bottom, modes, tabs, kx, ky, ⟨f2, b2, bi2⟩, km, last, title, gone⟩ = ⟨b, .row 22 [.agg [.int .i64 gw, .int .i64 gh, .rsl bc 4 0 N, .int .i64 x, .int .i64 y, .bool late, .int .i64 f, .int .i64 ba, .int .i64 bi, .int .i64 top, .int .i64 bottom, .int .i64 modes, tv, .int .i64 kx, .int .i64 ky, .int .i64 f2, .int .i64 b2, .int .i64 bi2, .int .i64 km, .int .i32 last, .str title, gv]] 0⟩ := rfl
theorem done_plain0K (b bc bt bg : Nat) (s s' : Scr) (h1 : s'.g.cs = s.g.cs) (h2 : s'.tabs = s.tabs) (h3 : s'.gone = s.gone) :
    Done b s' (scrB b bc s.g.cs.length (.rsl bt 1 0 s.tabs.length) (.rsl bg 1 0 s.gone.length) s' :: scrR bc bt bg [] s) := by
  refine ⟨bc, _, bt, _, _, scrR bc bt bg [] s, .refl _, .inr ⟨bg, 0, _, rfl⟩, ?_, ?_, ?_⟩
  · rw [h1]; exact frz_row (.here _ _ _) _ (by simp)
  · rw [h2]; exact frz_row (.there _ _ _ _ _ (.here _ _ _)) _ (by simp)
  · rw [h3]; exact frz_row (l := s.gone.map encRow) (.there _ _ _ _ _ (.there _ _ _ _ _ (.here _ _ _))) _ (by simp)
theorem done_plainLK (b bc bt bg : Nat) (s s' : Scr) (h1 : s'.g.cs = s.g.cs) (h2 : s'.tabs = s.tabs) (h3 : s'.gone = s.gone) (τ : Mem) :
    Done b s' (scrB b bc s.g.cs.length (.rsl bt 1 0 s.tabs.length) (.rsl bg 1 0 s.gone.length) s' :: (τ ++ scrR bc bt bg [] s)) := by
  refine ⟨bc, _, bt, _, _, τ ++ scrR bc bt bg [] s, .refl _, .inr ⟨bg, 0, _, rfl⟩, ?_, ?_, ?_⟩
  · rw [h1]; exact frz_row (Look.app (.here _ _ _) τ) _ (by simp)
  · rw [h2]; exact frz_row (Look.app (.there _ _ _ _ _ (.here _ _ _)) τ) _ (by simp)
  · rw [h3]; exact frz_row (l := s.gone.map encRow) (Look.app (.there _ _ _ _ _ (.there _ _ _ _ _ (.here _ _ _))) τ) _ (by simp)
def saveK (s : Scr) : Scr := { s with kx := s.x, ky := s.y, ks := s.look, km := bitop .and .i64 s.modes 6 }
def restoreK (s : Scr) : Scr := { s with x := s.kx, y := s.ky, look := s.ks, late := false, modes := bitop .or .i64 (bitop .andNot .i64 s.modes 6) s.km }
theorem saveK1_ok (b bc N : Nat) (tv gv : PV) (s : Scr) (h0 : checkS s = 0) : ACalls Tryd.prog W 90 [.bref b 0] [scrB b bc N tv gv s] (Gives (fun _ : Unit => .tup []) (fun _ => [scrB b bc N tv gv (saveK s)]) (fun _ => True)) := by
  clear h0
  rw [saveK]
  obtain ⟨⟨gw, gh, cs⟩, X, Y, late, ⟨fo, ba, bi⟩, tp, bo, modes, tabs, kx, ky, ⟨f2, b2', bi2⟩, km, last, title, gone⟩ := s
  dsimp only
  rw [scrB_eqK]
  refine acalls_of_vc (DL_ok (by decide)) Tryd.func90 rfl (by decide) (by decide) rfl ?_
  (refine g0_ ?_; repeat ((first | refine n1_ fun b_ => ?_ | refine n2_ fun b_ => ?_ | refine n3_ fun b_ pre_ => ?_ | refine Nat1.mk fun q_ hq_ => ?_ | refine em_ fun x_ hx_ => ?_ | refine Elem1.mk fun e_ he_ => ?_); refine g0_ ?_))
  refine headL_ (head_ ?_); (refine g0_ ?_; repeat ((first | refine n1_ fun b_ => ?_ | refine n2_ fun b_ => ?_ | refine n3_ fun b_ pre_ => ?_ | refine Nat1.mk fun q_ hq_ => ?_ | refine em_ fun x_ hx_ => ?_ | refine Elem1.mk fun e_ he_ => ?_); refine g0_ ?_))
  exact ⟨(), trivial, rfl, by (first | exact ⟨_, .refl _⟩ | exact wkMem.rfl' | exact ⟨_, .swap _ _ _⟩ | (repeat (first | exact wkMem.nil _ | exact wkMem.rfl' | exact wk_snoc _ _ _ | exact wk_fam (by assumption) _ _ _ | exact wk_famN (by assumption) _ _ _ | (apply wkMem.cons; (case' hl => (repeat (first | exact .here _ _ _ | apply Look.there)))) | apply wkMem.skip)))⟩
theorem restoreK1_ok (b bc N : Nat) (tv gv : PV) (s : Scr) (h0 : checkS s = 0) : ACalls Tryd.prog W 96 [.bref b 0] [scrB b bc N tv gv s] (Gives (fun _ : Unit => .tup []) (fun _ => [scrB b bc N tv gv (restoreK s)]) (fun _ => True)) := by
  clear h0
  rw [restoreK]
  obtain ⟨⟨gw, gh, cs⟩, X, Y, late, ⟨fo, ba, bi⟩, tp, bo, modes, tabs, kx, ky, ⟨f2, b2', bi2⟩, km, last, title, gone⟩ := s
  dsimp only
  rw [scrB_eqK]
  refine acalls_of_vc (DL_ok (by decide)) Tryd.func96 rfl (by decide) (by decide) rfl ?_
  (refine g0_ ?_; repeat ((first | refine n1_ fun b_ => ?_ | refine n2_ fun b_ => ?_ | refine n3_ fun b_ pre_ => ?_ | refine Nat1.mk fun q_ hq_ => ?_ | refine em_ fun x_ hx_ => ?_ | refine Elem1.mk fun e_ he_ => ?_); refine g0_ ?_))
  refine Draws10.chain ⟨28, [.new, .new, .new, .new, .new, .new, .new, .new, .new, .new, .new, .new, .new, .new, .new, .new, .new, .new, .new, .new, .new, .turn, .skip, .skip, .skip, .skip, .skip, .skip], [(21, [.keep, .again, .again, .again, .keep, .keep, .keep, .keep, .keep, .keep, .keep, .keep, .keep, .keep, .keep, .keep, .keep, .keep, .keep, .keep, .keep, .keep, .new, .new, .turn, .skip, .skip, .skip]), (24, [.keep, .keep, .again, .again, .keep, .keep, .keep, .keep, .keep, .keep, .keep, .keep, .keep, .keep, .keep, .keep, .keep, .keep, .keep, .keep, .keep, .keep, .keep, .keep, .keep, .new, .new, .turn]), (27, [.keep, .keep, .keep, .again, .keep, .keep, .keep, .keep, .keep, .keep, .keep, .keep, .keep, .keep, .keep, .keep, .keep, .keep, .keep, .keep, .keep, .keep, .keep, .keep, .keep, .keep, .keep, .keep])], by decide +kernel, ?_⟩; (refine g0_ ?_; repeat ((first | refine n1_ fun b_ => ?_ | refine n2_ fun b_ => ?_ | refine n3_ fun b_ pre_ => ?_ | refine Nat1.mk fun q_ hq_ => ?_ | refine em_ fun x_ hx_ => ?_ | refine Elem1.mk fun e_ he_ => ?_); refine g0_ ?_))
  refine headL_ (head_ ?_); (refine g0_ ?_; repeat ((first | refine n1_ fun b_ => ?_ | refine n2_ fun b_ => ?_ | refine n3_ fun b_ pre_ => ?_ | refine Nat1.mk fun q_ hq_ => ?_ | refine em_ fun x_ hx_ => ?_ | refine Elem1.mk fun e_ he_ => ?_); refine g0_ ?_))
  exact ⟨(), trivial, rfl, by (first | exact ⟨_, .refl _⟩ | exact wkMem.rfl' | exact ⟨_, .swap _ _ _⟩ | (repeat (first | exact wkMem.nil _ | exact wkMem.rfl' | exact wk_snoc _ _ _ | exact wk_fam (by assumption) _ _ _ | exact wk_famN (by assumption) _ _ _ | (apply wkMem.cons; (case' hl => (repeat (first | exact .here _ _ _ | apply Look.there)))) | apply wkMem.skip)))⟩
theorem km_bitsK : ((List.range 64).all fun m => (List.range 64).all fun k => !decide (bitop .and .i64 (k : Int) 57 = 0) || (decide (bitop .and .i64 (m : Int) 57 + (k : Int) = bitop .or .i64 (bitop .andNot .i64 (m : Int) 6) (k : Int)) && decide (0 ≤ bitop .and .i64 (m : Int) 57 + (k : Int)) && decide (bitop .and .i64 (m : Int) 57 + (k : Int) ≤ 63))) = true := by decide +kernel
theorem km_atK {m k : Int} (hm : 0 ≤ m ∧ m ≤ 63) (hk : bitop .andNot .i64 k 6 = 0) (hok : i64ok k) : bitop .and .i64 m 57 + k = bitop .or .i64 (bitop .andNot .i64 m 6) k ∧ 0 ≤ bitop .and .i64 m 57 + k ∧ bitop .and .i64 m 57 + k ≤ 63 := by
  have h57 := and57 k hok
  by_cases hc : k < 0 ∨ bitop .and .i64 k 57 ≠ 0 ∨ 63 < k
  · exact absurd hk (h57.2 hc)
  · have h1 : 0 ≤ k := by omega
    have h2 : k ≤ 63 := by omega
    have h3 : bitop .and .i64 k 57 = 0 := Decidable.not_not.1 fun h => hc (.inr (.inl h))
    obtain ⟨m, rfl⟩ := Int.eq_ofNat_of_zero_le hm.1
    obtain ⟨k, rfl⟩ := Int.eq_ofNat_of_zero_le h1
    have g1 := List.all_eq_true.1 km_bitsK m (List.mem_range.2 (by omega))
    have g2 := List.all_eq_true.1 g1 k (List.mem_range.2 (by omega))
    simp only [Bool.or_eq_true, Bool.not_eq_true', decide_eq_false_iff_not, Bool.and_eq_true, decide_eq_true_eq] at g2
    rcases g2 with g2 | g2
    · exact absurd h3 g2
    · exact ⟨g2.1.1, g2.1.2, g2.2⟩
theorem and6K (x : Int) : i64ok (bitop .and .i64 x 6) := by
  have h : ((BitVec.ofInt 64 x) &&& (BitVec.ofInt 64 6)).toNat ≤ 6 := by
    rw [BitVec.toNat_and]
    exact Nat.and_le_right
  show i64ok (IntKind.i64.wrap ((BitVec.ofInt 64 x &&& BitVec.ofInt 64 6).toNat : Int))
  generalize (BitVec.ofInt 64 x &&& BitVec.ofInt 64 6).toNat = n at *
  rw [IntKind.wrap_i64]
  unfold i64ok; omega
theorem saveK_ok {s : Scr} (h : s.ok) : (saveK s).ok := by
  obtain ⟨h1, h2, h3, h4, h5, h6, h7, h8, h9, h10, h11, h12, h13, h14, h15⟩ := h
  exact ⟨h1, h2, h3, h4, h5, h6, h7, h8, h2, h3, h4, and6K s.modes, h13, h14, h15⟩
theorem restoreK_ok {s : Scr} (h : s.ok) (h0 : checkS s = 0) : (restoreK s).ok := by
  have hR := (check_iff s).1 h0
  have hk := km_atK hR.modes hR.km h.km
  obtain ⟨h1, h2, h3, h4, h5, h6, h7, h8, h9, h10, h11, h12, h13, h14, h15⟩ := h
  refine ⟨h1, h9, h10, h11, h5, h6, ?_, h8, h9, h10, h11, h12, h13, h14, h15⟩
  show i64ok (bitop .or .i64 (bitop .andNot .i64 s.modes 6) s.km)
  rw [← hk.1]
  unfold i64ok; omega
theorem modeSaveK_ok (hT : Tabs W) (s : Scr) (hok : s.ok) : Pure Tryd.prog W 32 [encScr s] (.tup [encScr (moveE s (saveK s)).1, .int .i64 (moveE s (saveK s)).2]) := by
  by_cases h0 : checkS s = 0
  · rw [moveE, if_pos h0]
    refine Pure.of (acalls_of_vc (drawOk W) Tryd.func32 rfl (by decide) (by decide) rfl ?_)
    (refine g0_ ?_; repeat ((first | refine n1_ fun b_ => ?_ | refine n2_ fun b_ => ?_ | refine n3_ fun b_ pre_ => ?_ | refine Nat1.mk fun q_ hq_ => ?_ | refine em_ fun x_ hx_ => ?_ | refine Elem1.mk fun e_ he_ => ?_); refine g0_ ?_))
    refine ACalls.lendF (change_ok W hT s hok h0 90 [] [] (saveK s) (fun b bc bt bg => ?_)) (.refl _) ?_
    · rw [List.append_nil]
      refine ACalls.lend (saveK1_ok W b bc s.g.cs.length (.rsl bt 1 0 s.tabs.length) (.rsl bg 1 0 s.gone.length) s h0) (r := scrR bc bt bg [] s) (.refl _) ?_
      rintro _ -
      exact ⟨rfl, done_plain0K b bc bt bg s (saveK s) rfl rfl rfl⟩
    · (refine g0_ ?_; repeat ((first | refine n1_ fun b_ => ?_ | refine n2_ fun b_ => ?_ | refine n3_ fun b_ pre_ => ?_ | refine Nat1.mk fun q_ hq_ => ?_ | refine em_ fun x_ hx_ => ?_ | refine Elem1.mk fun e_ he_ => ?_); refine g0_ ?_))
      exact .refl _
  · rw [moveE, if_neg h0]
    have hb := change_bad W hT s hok h0
    refine Pure.of (acalls_of_vc (drawOk W) Tryd.func32 rfl (by decide) (by decide) rfl ?_)
    (refine g0_ ?_; repeat ((first | refine n1_ fun b_ => ?_ | refine n2_ fun b_ => ?_ | refine n3_ fun b_ pre_ => ?_ | refine Nat1.mk fun q_ hq_ => ?_ | refine em_ fun x_ hx_ => ?_ | refine Elem1.mk fun e_ he_ => ?_); refine g0_ ?_))
    refine (hb 90 []).use ?_
    (refine g0_ ?_; repeat ((first | refine n1_ fun b_ => ?_ | refine n2_ fun b_ => ?_ | refine n3_ fun b_ pre_ => ?_ | refine Nat1.mk fun q_ hq_ => ?_ | refine em_ fun x_ hx_ => ?_ | refine Elem1.mk fun e_ he_ => ?_); refine g0_ ?_))
    exact .refl _
theorem modeRestoreK_ok (hT : Tabs W) (s : Scr) (hok : s.ok) : Pure Tryd.prog W 35 [encScr s] (.tup [encScr (moveE s (restoreK s)).1, .int .i64 (moveE s (restoreK s)).2]) := by
  by_cases h0 : checkS s = 0
  · rw [moveE, if_pos h0]
    refine Pure.of (acalls_of_vc (drawOk W) Tryd.func35 rfl (by decide) (by decide) rfl ?_)
    (refine g0_ ?_; repeat ((first | refine n1_ fun b_ => ?_ | refine n2_ fun b_ => ?_ | refine n3_ fun b_ pre_ => ?_ | refine Nat1.mk fun q_ hq_ => ?_ | refine em_ fun x_ hx_ => ?_ | refine Elem1.mk fun e_ he_ => ?_); refine g0_ ?_))
    refine ACalls.lendF (change_ok W hT s hok h0 96 [] [] (restoreK s) (fun b bc bt bg => ?_)) (.refl _) ?_
    · rw [List.append_nil]
      refine ACalls.lend (restoreK1_ok W b bc s.g.cs.length (.rsl bt 1 0 s.tabs.length) (.rsl bg 1 0 s.gone.length) s h0) (r := scrR bc bt bg [] s) (.refl _) ?_
      rintro _ -
      exact ⟨rfl, done_plain0K b bc bt bg s (restoreK s) rfl rfl rfl⟩
    · (refine g0_ ?_; repeat ((first | refine n1_ fun b_ => ?_ | refine n2_ fun b_ => ?_ | refine n3_ fun b_ pre_ => ?_ | refine Nat1.mk fun q_ hq_ => ?_ | refine em_ fun x_ hx_ => ?_ | refine Elem1.mk fun e_ he_ => ?_); refine g0_ ?_))
      exact .refl _
  · rw [moveE, if_neg h0]
    have hb := change_bad W hT s hok h0
    refine Pure.of (acalls_of_vc (drawOk W) Tryd.func35 rfl (by decide) (by decide) rfl ?_)
    (refine g0_ ?_; repeat ((first | refine n1_ fun b_ => ?_ | refine n2_ fun b_ => ?_ | refine n3_ fun b_ pre_ => ?_ | refine Nat1.mk fun q_ hq_ => ?_ | refine em_ fun x_ hx_ => ?_ | refine Elem1.mk fun e_ he_ => ?_); refine g0_ ?_))
    refine (hb 96 []).use ?_
    (refine g0_ ?_; repeat ((first | refine n1_ fun b_ => ?_ | refine n2_ fun b_ => ?_ | refine n3_ fun b_ pre_ => ?_ | refine Nat1.mk fun q_ hq_ => ?_ | refine em_ fun x_ hx_ => ?_ | refine Elem1.mk fun e_ he_ => ?_); refine g0_ ?_))
    exact .refl _
abbrev strB (b : Nat) (t : List UInt8) : Blk := ⟨b, .row 1 [.str t] 0⟩
end Go.Eng.YtgpkedepboenpaaDoor
end

/- Whatever numbers are applied to a style, it is one: plain laws. -/
section
namespace Go.Eng.YtgpkedepboenpaaDoor
open Go Go.Eng Go.Proofs
set_option linter.unusedSimpArgs false
set_option maxRecDepth 100000
set_option linter.unusedVariables false
set_option maxHeartbeats 4000000
def Style.is (s : Style) : Prop := 0 ≤ s.fore ∧ s.fore ≤ 256 ∧ 0 ≤ s.back ∧ s.back ≤ 256 ∧ 0 ≤ s.bits ∧ s.bits < 128
theorem check_is (s : Style) : checkStyle s = true ↔ s.is := by
  simp only [checkStyle, Style.is, Bool.and_eq_true, decide_eq_true_eq, and_assoc]
def pairs : List (Int × Int) := [(1, 0), (2, 0), (4, 0), (8, 0), (16, 0), (32, 0), (64, 0), (0, 3), (0, 4), (0, 8), (0, 16), (0, 32), (0, 64), (0, 0)]
theorem bitsF_mem (n : Int) : bitsF n ∈ pairs := by
  unfold bitsF
  by_cases h1 : n = 1
  · rw [if_pos h1]; decide
  rw [if_neg h1]
  by_cases h2 : n = 2
  · rw [if_pos h2]; decide
  rw [if_neg h2]
  by_cases h3 : n = 3
  · rw [if_pos h3]; decide
  rw [if_neg h3]
  by_cases h4 : n = 4
  · rw [if_pos h4]; decide
  rw [if_neg h4]
  by_cases h5 : n = 5
  · rw [if_pos h5]; decide
  rw [if_neg h5]
  by_cases h7 : n = 7
  · rw [if_pos h7]; decide
  rw [if_neg h7]
  by_cases h9 : n = 9
  · rw [if_pos h9]; decide
  rw [if_neg h9]
  by_cases h22 : n = 22
  · rw [if_pos h22]; decide
  rw [if_neg h22]
  by_cases h23 : n = 23
  · rw [if_pos h23]; decide
  rw [if_neg h23]
  by_cases h24 : n = 24
  · rw [if_pos h24]; decide
  rw [if_neg h24]
  by_cases h25 : n = 25
  · rw [if_pos h25]; decide
  rw [if_neg h25]
  by_cases h27 : n = 27
  · rw [if_pos h27]; decide
  rw [if_neg h27]
  by_cases h29 : n = 29
  · rw [if_pos h29]; decide
  rw [if_neg h29]
  decide
theorem mask_all : ∀ b ∈ List.range 128, ∀ p ∈ pairs, 0 ≤ bitop .or .i64 (bitop .andNot .i64 (b : Nat) p.2) p.1 ∧ bitop .or .i64 (bitop .andNot .i64 (b : Nat) p.2) p.1 < 128 := by decide +kernel
theorem mask_is {s : Style} (h : s.is) (n : Int) : (s.mask n).is := by
  obtain ⟨h1, h2, h3, h4, h5, h6⟩ := h
  obtain ⟨b, hb⟩ : ∃ b : Nat, s.bits = b := ⟨s.bits.toNat, by omega⟩
  have := mask_all b (List.mem_range.2 (by omega)) _ (bitsF_mem n)
  rw [← hb] at this
  exact ⟨h1, h2, h3, h4, this.1, this.2⟩
theorem num_is {s : Style} (h : s.is) (n : Int) : (s.num n).is := by
  obtain ⟨h1, h2, h3, h4, h5, h6⟩ := h
  unfold Style.num
  repeat' split
  all_goals refine ⟨?_, ?_, ?_, ?_, ?_, ?_⟩ <;> first | omega | (simp only [Style.none]; omega) | (dsimp only; omega)
theorem colour_is {s : Style} (h : s.is) (n c : Int) : (s.colour n c).is := by
  obtain ⟨h1, h2, h3, h4, h5, h6⟩ := h
  unfold Style.colour
  repeat' split
  all_goals refine ⟨?_, ?_, ?_, ?_, ?_, ?_⟩ <;> first | omega | (dsimp only; omega)
theorem applyL_is : ∀ (k : Nat) (l : List Int) (s : Style), l.length ≤ k → s.is → (applyL s l).is
  | _, [], s, _, h => by rw [applyL]; exact h
  | _, [n], s, _, h => by rw [applyL]; exact num_is (mask_is h n) n
  | 0, _ :: _, s, hk, h => by simp at hk
  | k + 1, [n, m], s, hk, h => by
    rw [applyL]
    exact applyL_is k [m] _ (by simp at hk ⊢; omega) (num_is (mask_is h n) n)
  | k + 1, n :: m :: c :: r, s, hk, h => by
    rw [applyL]
    simp only [List.length_cons] at hk
    split
    · exact applyL_is k r _ (by omega) (colour_is (mask_is h n) n c)
    · exact applyL_is k (m :: c :: r) _ (by simp only [List.length_cons]; omega) (num_is (mask_is h n) n)
theorem applyTo_is {s : Style} (h : s.is) (l : List Int) : (applyTo s l).is := by
  unfold applyTo
  split
  · exact ⟨by decide, by decide, by decide, by decide, by decide, by decide⟩
  · exact applyL_is _ l s (Nat.le_refl _) h
theorem wrap_rangeS (n : Int) : i64ok (IntKind.i64.wrap n) := by
  rw [IntKind.wrap_i64]
  unfold i64ok
  omega
theorem bitop_okS (op : BinOp) (a b : Int) : i64ok (bitop op .i64 a b) := wrap_rangeS _
theorem mask_okS {s : Style} (h : s.ok) (n : Int) : (s.mask n).ok := ⟨h.1, h.2.1, bitop_okS .or _ _⟩
theorem num_okS {s : Style} (h : s.ok) (n : Int) : (s.num n).ok := by
  obtain ⟨h1, h2, h3⟩ := h
  unfold i64ok at h1 h2 h3
  unfold Style.num
  repeat' split
  all_goals refine ⟨?_, ?_, ?_⟩ <;> unfold i64ok <;> first | omega | (simp only [Style.none]; omega) | (dsimp only; omega)
theorem colour_okS {s : Style} (h : s.ok) (n c : Int) : (s.colour n c).ok := by
  obtain ⟨h1, h2, h3⟩ := h
  unfold i64ok at h1 h2 h3
  unfold Style.colour
  repeat' split
  all_goals refine ⟨?_, ?_, ?_⟩ <;> unfold i64ok <;> first | omega | (dsimp only; omega)
theorem applyL_okS : ∀ (k : Nat) (l : List Int) (s : Style), l.length ≤ k → s.ok → (applyL s l).ok
  | _, [], s, _, h => by rw [applyL]; exact h
  | _, [n], s, _, h => by rw [applyL]; exact num_okS (mask_okS h n) n
  | 0, _ :: _, s, hk, h => by simp at hk
  | k + 1, [n, m], s, hk, h => by
    rw [applyL]
    exact applyL_okS k [m] _ (by simp at hk ⊢; omega) (num_okS (mask_okS h n) n)
  | k + 1, n :: m :: c :: r, s, hk, h => by
    rw [applyL]
    simp only [List.length_cons] at hk
    split
    · exact applyL_okS k r _ (by omega) (colour_okS (mask_okS h n) n c)
    · exact applyL_okS k (m :: c :: r) _ (by simp only [List.length_cons]; omega) (num_okS (mask_okS h n) n)
theorem applyTo_okS {s : Style} (h : s.ok) (l : List Int) : (applyTo s l).ok := by
  unfold applyTo
  split
  · exact ⟨by decide, by decide, by decide⟩
  · exact applyL_okS _ l s (Nat.le_refl _) h
end Go.Eng.YtgpkedepboenpaaDoor
end

/- Looks: package mode's Look. -/
section
namespace Go.Eng.YtgpkedepboenpaaDoor
open Go Go.Eng Go.Proofs
variable (W : World)
set_option linter.unusedSimpArgs false
set_option maxRecDepth 100000
set_option linter.unusedVariables false
set_option maxHeartbeats 8000000
def lookS (s : Scr) (l : List Int) : Scr := { s with look := applyTo s.look l }
theorem look1_ok (b bc N bl : Nat) (tv gv : PV) (s : Scr) (l : List Int) (hl : l.length ≤ 17592186043904) : ACalls Tryd.prog W 94 [.bref b 0, .bref bl 0] [scrB b bc N tv gv s, ⟨bl, .row 1 [.sl 1 (l.map (PV.int .i64))] 0⟩] (Gives (fun _ : Unit => .tup []) (fun _ => [scrB b bc N tv gv (lookS s l), ⟨bl, .row 1 [.sl 1 (l.map (PV.int .i64))] 0⟩]) (fun _ => True)) := by
  have ha := apply_ok W s.look l (by omega)
  rw [lookS]
  obtain ⟨⟨gw, gh, cs⟩, X, Y, late, lk, tp, bo, modes, tabs, kx, ky, ⟨f2, b2', bi2⟩, km, last, title, gone⟩ := s
  dsimp only at ha ⊢
  generalize applyTo lk l = lk' at *
  obtain ⟨fo, ba, bi⟩ := lk
  obtain ⟨fo', ba', bi'⟩ := lk'
  rw [scrB_eqK]
  refine acalls_of_vc (DL_ok (by decide)) Tryd.func94 rfl (by decide) (by decide) rfl ?_
  (refine g0_ ?_; repeat ((first | refine n1_ fun b_ => ?_ | refine n2_ fun b_ => ?_ | refine n3_ fun b_ pre_ => ?_ | refine Nat1.mk fun q_ hq_ => ?_ | refine em_ fun x_ hx_ => ?_ | refine Elem1.mk fun e_ he_ => ?_); refine g0_ ?_))
  refine headL_ (head_ ?_); (refine g0_ ?_; repeat ((first | refine n1_ fun b_ => ?_ | refine n2_ fun b_ => ?_ | refine n3_ fun b_ pre_ => ?_ | refine Nat1.mk fun q_ hq_ => ?_ | refine em_ fun x_ hx_ => ?_ | refine Elem1.mk fun e_ he_ => ?_); refine g0_ ?_))
  refine ⟨_, (ha).quiet, ?_⟩; (refine g0_ ?_; repeat ((first | refine n1_ fun b_ => ?_ | refine n2_ fun b_ => ?_ | refine n3_ fun b_ pre_ => ?_ | refine Nat1.mk fun q_ hq_ => ?_ | refine em_ fun x_ hx_ => ?_ | refine Elem1.mk fun e_ he_ => ?_); refine g0_ ?_))
  exact ⟨(), trivial, rfl, by (first | exact ⟨_, .refl _⟩ | exact wkMem.rfl' | exact ⟨_, .swap _ _ _⟩ | (repeat (first | exact wkMem.nil _ | exact wkMem.rfl' | exact wk_snoc _ _ _ | exact wk_fam (by assumption) _ _ _ | exact wk_famN (by assumption) _ _ _ | (apply wkMem.cons; (case' hl => (repeat (first | exact .here _ _ _ | apply Look.there)))) | apply wkMem.skip)))⟩
theorem lookS_ok {s : Scr} (h : s.ok) (l : List Int) : (lookS s l).ok := by
  have hL := applyTo_okS h.look l
  obtain ⟨h1, h2, h3, h4, h5, h6, h7, h8, h9, h10, h11, h12, h13, h14, h15⟩ := h
  exact ⟨h1, h2, h3, hL, h5, h6, h7, h8, h9, h10, h11, h12, h13, h14, h15⟩
theorem lookS_R {s : Scr} (h : s.R) (l : List Int) : (lookS s l).R := by
  have hL : checkStyle (applyTo s.look l) = true := (check_is _).2 (applyTo_is ((check_is _).1 h.look) l)
  obtain ⟨h1, h2, h3, h4, h5, h6, h7, h8, h9, h10, h11, h12, h13⟩ := h
  exact ⟨h1, h2, h3, h4, h5, hL, h7, h8, h9, h10, h11, h12, h13⟩
theorem modeLookF_ok (hT : Tabs W) (s : Scr) (hok : s.ok) (l : List Int) (hl : l.length ≤ 17592186043904) : Pure Tryd.prog W 34 [encScr s, .sl 1 (l.map (PV.int .i64))] (.tup [encScr (moveE s (lookS s l)).1, .int .i64 (moveE s (lookS s l)).2]) := by
  by_cases h0 : checkS s = 0
  · rw [moveE, if_pos h0]
    refine Pure.of (acalls_of_vc (drawOk W) Tryd.func34 rfl (by decide) (by decide) rfl ?_)
    (refine g0_ ?_; repeat ((first | refine n1_ fun b_ => ?_ | refine n2_ fun b_ => ?_ | refine n3_ fun b_ pre_ => ?_ | refine Nat1.mk fun q_ hq_ => ?_ | refine em_ fun x_ hx_ => ?_ | refine Elem1.mk fun e_ he_ => ?_); refine g0_ ?_))
    rename_i bs bl
    refine ACalls.lendF (change_ok W hT s hok h0 94 [.bref bl 0] [⟨bl, .row 1 [.sl 1 (l.map (PV.int .i64))] 0⟩] (lookS s l) (fun b bc bt bg => ?_)) (.swap _ _ _) ?_
    · refine ACalls.lend (look1_ok W b bc s.g.cs.length bl (.rsl bt 1 0 s.tabs.length) (.rsl bg 1 0 s.gone.length) s l hl) (r := scrR bc bt bg [] s) ?_ ?_
      · exact (List.perm_append_comm (l₁ := scrR bc bt bg [] s) (l₂ := [_])).cons _
      · rintro _ -
        exact ⟨rfl, done_plainLK b bc bt bg s (lookS s l) rfl rfl rfl [⟨bl, .row 1 [.sl 1 (l.map (PV.int .i64))] 0⟩]⟩
    · (refine g0_ ?_; repeat ((first | refine n1_ fun b_ => ?_ | refine n2_ fun b_ => ?_ | refine n3_ fun b_ pre_ => ?_ | refine Nat1.mk fun q_ hq_ => ?_ | refine em_ fun x_ hx_ => ?_ | refine Elem1.mk fun e_ he_ => ?_); refine g0_ ?_))
      exact .refl _
  · rw [moveE, if_neg h0]
    have hb := change_bad W hT s hok h0
    refine Pure.of (acalls_of_vc (drawOk W) Tryd.func34 rfl (by decide) (by decide) rfl ?_)
    (refine g0_ ?_; repeat ((first | refine n1_ fun b_ => ?_ | refine n2_ fun b_ => ?_ | refine n3_ fun b_ pre_ => ?_ | refine Nat1.mk fun q_ hq_ => ?_ | refine em_ fun x_ hx_ => ?_ | refine Elem1.mk fun e_ he_ => ?_); refine g0_ ?_))
    rename_i bs bl
    refine (hb 94 [.bref bl 0]).use ?_
    (refine g0_ ?_; repeat ((first | refine n1_ fun b_ => ?_ | refine n2_ fun b_ => ?_ | refine n3_ fun b_ pre_ => ?_ | refine Nat1.mk fun q_ hq_ => ?_ | refine em_ fun x_ hx_ => ?_ | refine Elem1.mk fun e_ he_ => ?_); refine g0_ ?_))
    exact .refl _
end Go.Eng.YtgpkedepboenpaaDoor
end
