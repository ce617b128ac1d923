/- Texts put together: ScrK. -/
import Derived.Test.YtgpkedepboenpaaDoorMW7
import Derived.Test.YtgpkedepboenpaaDoorME9
/- Screens of the call's own: package mode's Save and Restore; with nothing of the desks. -/
section
namespace Go.Eng.YtgpkedepboenpaaDoor
open Go Go.Eng Go.Proofs
variable (W : World)
set_option linter.unusedSimpArgs false
set_option maxRecDepth 100000
set_option linter.unusedVariables false
set_option maxHeartbeats 8000000
theorem scrB_eqK (b bc N : Nat) (tv gv : PV) (gw gh : Int) (cs : List Cell) (x y : Int) (late : Bool) (f ba bi top bottom modes : Int) (tabs : List Bool) (kx ky f2 b2 bi2 km last : Int) (title : List UInt8) (gone : List (List Cell)) :
    scrB b bc N tv gv ⟨⟨gw, gh, cs⟩, x, y, late, ⟨f, ba, bi⟩, top, bottom, modes, tabs, kx, ky, ⟨f2, b2, bi2⟩, km, last, title, gone⟩ = ⟨b, .row 22 [.agg [.int .i64 gw, .int .i64 gh, .rsl bc 4 0 N, .int .i64 x, .int .i64 y, .bool late, .int .i64 f, .int .i64 ba, .int .i64 bi, .int .i64 top, .int .i64 bottom, .int .i64 modes, tv, .int .i64 kx, .int .i64 ky, .int .i64 f2, .int .i64 b2, .int .i64 bi2, .int .i64 km, .int .i32 last, .str title, gv]] 0⟩ := rfl
theorem done_plain0K (b bc bt bg : Nat) (s s' : Scr) (h1 : s'.g.cs = s.g.cs) (h2 : s'.tabs = s.tabs) (h3 : s'.gone = s.gone) :
    Done b s' (scrB b bc s.g.cs.length (.rsl bt 1 0 s.tabs.length) (.rsl bg 1 0 s.gone.length) s' :: scrR bc bt bg [] s) := by
  refine ⟨bc, _, bt, _, _, scrR bc bt bg [] s, .refl _, .inr ⟨bg, 0, _, rfl⟩, ?_, ?_, ?_⟩
  · rw [h1]; exact frz_row (.here _ _ _) _ (by simp)
  · rw [h2]; exact frz_row (.there _ _ _ _ _ (.here _ _ _)) _ (by simp)
  · rw [h3]; exact frz_row (l := s.gone.map encRow) (.there _ _ _ _ _ (.there _ _ _ _ _ (.here _ _ _))) _ (by simp)
theorem done_plainLK (b bc bt bg : Nat) (s s' : Scr) (h1 : s'.g.cs = s.g.cs) (h2 : s'.tabs = s.tabs) (h3 : s'.gone = s.gone) (τ : Mem) :
    Done b s' (scrB b bc s.g.cs.length (.rsl bt 1 0 s.tabs.length) (.rsl bg 1 0 s.gone.length) s' :: (τ ++ scrR bc bt bg [] s)) := by
  refine ⟨bc, _, bt, _, _, τ ++ scrR bc bt bg [] s, .refl _, .inr ⟨bg, 0, _, rfl⟩, ?_, ?_, ?_⟩
  · rw [h1]; exact frz_row (Look.app (.here _ _ _) τ) _ (by simp)
  · rw [h2]; exact frz_row (Look.app (.there _ _ _ _ _ (.here _ _ _)) τ) _ (by simp)
  · rw [h3]; exact frz_row (l := s.gone.map encRow) (Look.app (.there _ _ _ _ _ (.there _ _ _ _ _ (.here _ _ _))) τ) _ (by simp)
def saveK (s : Scr) : Scr := { s with kx := s.x, ky := s.y, ks := s.look, km := bitop .and .i64 s.modes 6 }
def restoreK (s : Scr) : Scr := { s with x := s.kx, y := s.ky, look := s.ks, late := false, modes := bitop .or .i64 (bitop .andNot .i64 s.modes 6) s.km }
theorem saveK1_ok (b bc N : Nat) (tv gv : PV) (s : Scr) (h0 : checkS s = 0) : ACalls Tryd.prog W 90 [.bref b 0] [scrB b bc N tv gv s] (Gives (fun _ : Unit => .tup []) (fun _ => [scrB b bc N tv gv (saveK s)]) (fun _ => True)) := by
  clear h0
  rw [saveK]
  obtain ⟨⟨gw, gh, cs⟩, X, Y, late, ⟨fo, ba, bi⟩, tp, bo, modes, tabs, kx, ky, ⟨f2, b2', bi2⟩, km, last, title, gone⟩ := s
  dsimp only
  rw [scrB_eqK]
  refine acalls_of_vc (DL_ok (by decide)) Tryd.func90 rfl (by decide) (by decide) rfl ?_
  (refine g0_ ?_; repeat ((first | refine n1_ fun b_ => ?_ | refine n2_ fun b_ => ?_ | refine n3_ fun b_ pre_ => ?_ | refine Nat1.mk fun q_ hq_ => ?_ | refine em_ fun x_ hx_ => ?_ | refine Elem1.mk fun e_ he_ => ?_); refine g0_ ?_))
  refine headL_ (head_ ?_); (refine g0_ ?_; repeat ((first | refine n1_ fun b_ => ?_ | refine n2_ fun b_ => ?_ | refine n3_ fun b_ pre_ => ?_ | refine Nat1.mk fun q_ hq_ => ?_ | refine em_ fun x_ hx_ => ?_ | refine Elem1.mk fun e_ he_ => ?_); refine g0_ ?_))
  exact ⟨(), trivial, rfl, by (first | exact ⟨_, .refl _⟩ | exact wkMem.rfl' | exact ⟨_, .swap _ _ _⟩ | (repeat (first | exact wkMem.nil _ | exact wkMem.rfl' | exact wk_snoc _ _ _ | exact wk_fam (by assumption) _ _ _ | exact wk_famN (by assumption) _ _ _ | (apply wkMem.cons; (case' hl => (repeat (first | exact .here _ _ _ | apply Look.there)))) | apply wkMem.skip)))⟩
theorem restoreK1_ok (b bc N : Nat) (tv gv : PV) (s : Scr) (h0 : checkS s = 0) : ACalls Tryd.prog W 96 [.bref b 0] [scrB b bc N tv gv s] (Gives (fun _ : Unit => .tup []) (fun _ => [scrB b bc N tv gv (restoreK s)]) (fun _ => True)) := by
  clear h0
  rw [restoreK]
  obtain ⟨⟨gw, gh, cs⟩, X, Y, late, ⟨fo, ba, bi⟩, tp, bo, modes, tabs, kx, ky, ⟨f2, b2', bi2⟩, km, last, title, gone⟩ := s
  dsimp only
  rw [scrB_eqK]
  refine acalls_of_vc (DL_ok (by decide)) Tryd.func96 rfl (by decide) (by decide) rfl ?_
  (refine g0_ ?_; repeat ((first | refine n1_ fun b_ => ?_ | refine n2_ fun b_ => ?_ | refine n3_ fun b_ pre_ => ?_ | refine Nat1.mk fun q_ hq_ => ?_ | refine em_ fun x_ hx_ => ?_ | refine Elem1.mk fun e_ he_ => ?_); refine g0_ ?_))
  refine Draws10.chain ⟨28, [.new, .new, .new, .new, .new, .new, .new, .new, .new, .new, .new, .new, .new, .new, .new, .new, .new, .new, .new, .new, .new, .turn, .skip, .skip, .skip, .skip, .skip, .skip], [(21, [.keep, .again, .again, .again, .keep, .keep, .keep, .keep, .keep, .keep, .keep, .keep, .keep, .keep, .keep, .keep, .keep, .keep, .keep, .keep, .keep, .keep, .new, .new, .turn, .skip, .skip, .skip]), (24, [.keep, .keep, .again, .again, .keep, .keep, .keep, .keep, .keep, .keep, .keep, .keep, .keep, .keep, .keep, .keep, .keep, .keep, .keep, .keep, .keep, .keep, .keep, .keep, .keep, .new, .new, .turn]), (27, [.keep, .keep, .keep, .again, .keep, .keep, .keep, .keep, .keep, .keep, .keep, .keep, .keep, .keep, .keep, .keep, .keep, .keep, .keep, .keep, .keep, .keep, .keep, .keep, .keep, .keep, .keep, .keep])], by decide +kernel, ?_⟩; (refine g0_ ?_; repeat ((first | refine n1_ fun b_ => ?_ | refine n2_ fun b_ => ?_ | refine n3_ fun b_ pre_ => ?_ | refine Nat1.mk fun q_ hq_ => ?_ | refine em_ fun x_ hx_ => ?_ | refine Elem1.mk fun e_ he_ => ?_); refine g0_ ?_))
  refine headL_ (head_ ?_); (refine g0_ ?_; repeat ((first | refine n1_ fun b_ => ?_ | refine n2_ fun b_ => ?_ | refine n3_ fun b_ pre_ => ?_ | refine Nat1.mk fun q_ hq_ => ?_ | refine em_ fun x_ hx_ => ?_ | refine Elem1.mk fun e_ he_ => ?_); refine g0_ ?_))
  exact ⟨(), trivial, rfl, by (first | exact ⟨_, .refl _⟩ | exact wkMem.rfl' | exact ⟨_, .swap _ _ _⟩ | (repeat (first | exact wkMem.nil _ | exact wkMem.rfl' | exact wk_snoc _ _ _ | exact wk_fam (by assumption) _ _ _ | exact wk_famN (by assumption) _ _ _ | (apply wkMem.cons; (case' hl => (repeat (first | exact .here _ _ _ | apply Look.there)))) | apply wkMem.skip)))⟩
theorem km_bitsK : ((List.range 64).all fun m => (List.range 64).all fun k => !decide (bitop .and .i64 (k : Int) 57 = 0) || (decide (bitop .and .i64 (m : Int) 57 + (k : Int) = bitop .or .i64 (bitop .andNot .i64 (m : Int) 6) (k : Int)) && decide (0 ≤ bitop .and .i64 (m : Int) 57 + (k : Int)) && decide (bitop .and .i64 (m : Int) 57 + (k : Int) ≤ 63))) = true := by decide +kernel
theorem km_atK {m k : Int} (hm : 0 ≤ m ∧ m ≤ 63) (hk : bitop .andNot .i64 k 6 = 0) (hok : i64ok k) : bitop .and .i64 m 57 + k = bitop .or .i64 (bitop .andNot .i64 m 6) k ∧ 0 ≤ bitop .and .i64 m 57 + k ∧ bitop .and .i64 m 57 + k ≤ 63 := by
  have h57 := and57 k hok
  by_cases hc : k < 0 ∨ bitop .and .i64 k 57 ≠ 0 ∨ 63 < k
  · exact absurd hk (h57.2 hc)
  · have h1 : 0 ≤ k := by omega
    have h2 : k ≤ 63 := by omega
    have h3 : bitop .and .i64 k 57 = 0 := Decidable.not_not.1 fun h => hc (.inr (.inl h))
    obtain ⟨m, rfl⟩ := Int.eq_ofNat_of_zero_le hm.1
    obtain ⟨k, rfl⟩ := Int.eq_ofNat_of_zero_le h1
    have g1 := List.all_eq_true.1 km_bitsK m (List.mem_range.2 (by omega))
    have g2 := List.all_eq_true.1 g1 k (List.mem_range.2 (by omega))
    simp only [Bool.or_eq_true, Bool.not_eq_true', decide_eq_false_iff_not, Bool.and_eq_true, decide_eq_true_eq] at g2
    rcases g2 with g2 | g2
    · exact absurd h3 g2
    · exact ⟨g2.1.1, g2.1.2, g2.2⟩
theorem and6K (x : Int) : i64ok (bitop .and .i64 x 6) := by
  have h : ((BitVec.ofInt 64 x) &&& (BitVec.ofInt 64 6)).toNat ≤ 6 := by
    rw [BitVec.toNat_and]
    exact Nat.and_le_right
  show i64ok (IntKind.i64.wrap ((BitVec.ofInt 64 x &&& BitVec.ofInt 64 6).toNat : Int))
  generalize (BitVec.ofInt 64 x &&& BitVec.ofInt 64 6).toNat = n at *
  rw [IntKind.wrap_i64]
  unfold i64ok; omega
theorem saveK_ok {s : Scr} (h : s.ok) : (saveK s).ok := by
  obtain ⟨h1, h2, h3, h4, h5, h6, h7, h8, h9, h10, h11, h12, h13, h14, h15⟩ := h
  exact ⟨h1, h2, h3, h4, h5, h6, h7, h8, h2, h3, h4, and6K s.modes, h13, h14, h15⟩
theorem restoreK_ok {s : Scr} (h : s.ok) (h0 : checkS s = 0) : (restoreK s).ok := by
  have hR := (check_iff s).1 h0
  have hk := km_atK hR.modes hR.km h.km
  obtain ⟨h1, h2, h3, h4, h5, h6, h7, h8, h9, h10, h11, h12, h13, h14, h15⟩ := h
  refine ⟨h1, h9, h10, h11, h5, h6, ?_, h8, h9, h10, h11, h12, h13, h14, h15⟩
  show i64ok (bitop .or .i64 (bitop .andNot .i64 s.modes 6) s.km)
  rw [← hk.1]
  unfold i64ok; omega
theorem modeSaveK_ok (hT : Tabs W) (s : Scr) (hok : s.ok) : Pure Tryd.prog W 32 [encScr s] (.tup [encScr (moveE s (saveK s)).1, .int .i64 (moveE s (saveK s)).2]) := by
  by_cases h0 : checkS s = 0
  · rw [moveE, if_pos h0]
    refine Pure.of (acalls_of_vc (drawOk W) Tryd.func32 rfl (by decide) (by decide) rfl ?_)
    (refine g0_ ?_; repeat ((first | refine n1_ fun b_ => ?_ | refine n2_ fun b_ => ?_ | refine n3_ fun b_ pre_ => ?_ | refine Nat1.mk fun q_ hq_ => ?_ | refine em_ fun x_ hx_ => ?_ | refine Elem1.mk fun e_ he_ => ?_); refine g0_ ?_))
    refine ACalls.lendF (change_ok W hT s hok h0 90 [] [] (saveK s) (fun b bc bt bg => ?_)) (.refl _) ?_
    · rw [List.append_nil]
      refine ACalls.lend (saveK1_ok W b bc s.g.cs.length (.rsl bt 1 0 s.tabs.length) (.rsl bg 1 0 s.gone.length) s h0) (r := scrR bc bt bg [] s) (.refl _) ?_
      rintro _ -
      exact ⟨rfl, done_plain0K b bc bt bg s (saveK s) rfl rfl rfl⟩
    · (refine g0_ ?_; repeat ((first | refine n1_ fun b_ => ?_ | refine n2_ fun b_ => ?_ | refine n3_ fun b_ pre_ => ?_ | refine Nat1.mk fun q_ hq_ => ?_ | refine em_ fun x_ hx_ => ?_ | refine Elem1.mk fun e_ he_ => ?_); refine g0_ ?_))
      exact .refl _
  · rw [moveE, if_neg h0]
    have hb := change_bad W hT s hok h0
    refine Pure.of (acalls_of_vc (drawOk W) Tryd.func32 rfl (by decide) (by decide) rfl ?_)
    (refine g0_ ?_; repeat ((first | refine n1_ fun b_ => ?_ | refine n2_ fun b_ => ?_ | refine n3_ fun b_ pre_ => ?_ | refine Nat1.mk fun q_ hq_ => ?_ | refine em_ fun x_ hx_ => ?_ | refine Elem1.mk fun e_ he_ => ?_); refine g0_ ?_))
    refine (hb 90 []).use ?_
    (refine g0_ ?_; repeat ((first | refine n1_ fun b_ => ?_ | refine n2_ fun b_ => ?_ | refine n3_ fun b_ pre_ => ?_ | refine Nat1.mk fun q_ hq_ => ?_ | refine em_ fun x_ hx_ => ?_ | refine Elem1.mk fun e_ he_ => ?_); refine g0_ ?_))
    exact .refl _
theorem modeRestoreK_ok (hT : Tabs W) (s : Scr) (hok : s.ok) : Pure Tryd.prog W 35 [encScr s] (.tup [encScr (moveE s (restoreK s)).1, .int .i64 (moveE s (restoreK s)).2]) := by
  by_cases h0 : checkS s = 0
  · rw [moveE, if_pos h0]
    refine Pure.of (acalls_of_vc (drawOk W) Tryd.func35 rfl (by decide) (by decide) rfl ?_)
    (refine g0_ ?_; repeat ((first | refine n1_ fun b_ => ?_ | refine n2_ fun b_ => ?_ | refine n3_ fun b_ pre_ => ?_ | refine Nat1.mk fun q_ hq_ => ?_ | refine em_ fun x_ hx_ => ?_ | refine Elem1.mk fun e_ he_ => ?_); refine g0_ ?_))
    refine ACalls.lendF (change_ok W hT s hok h0 96 [] [] (restoreK s) (fun b bc bt bg => ?_)) (.refl _) ?_
    · rw [List.append_nil]
      refine ACalls.lend (restoreK1_ok W b bc s.g.cs.length (.rsl bt 1 0 s.tabs.length) (.rsl bg 1 0 s.gone.length) s h0) (r := scrR bc bt bg [] s) (.refl _) ?_
      rintro _ -
      exact ⟨rfl, done_plain0K b bc bt bg s (restoreK s) rfl rfl rfl⟩
    · (refine g0_ ?_; repeat ((first | refine n1_ fun b_ => ?_ | refine n2_ fun b_ => ?_ | refine n3_ fun b_ pre_ => ?_ | refine Nat1.mk fun q_ hq_ => ?_ | refine em_ fun x_ hx_ => ?_ | refine Elem1.mk fun e_ he_ => ?_); refine g0_ ?_))
      exact .refl _
  · rw [moveE, if_neg h0]
    have hb := change_bad W hT s hok h0
    refine Pure.of (acalls_of_vc (drawOk W) Tryd.func35 rfl (by decide) (by decide) rfl ?_)
    (refine g0_ ?_; repeat ((first | refine n1_ fun b_ => ?_ | refine n2_ fun b_ => ?_ | refine n3_ fun b_ pre_ => ?_ | refine Nat1.mk fun q_ hq_ => ?_ | refine em_ fun x_ hx_ => ?_ | refine Elem1.mk fun e_ he_ => ?_); refine g0_ ?_))
    refine (hb 96 []).use ?_
    (refine g0_ ?_; repeat ((first | refine n1_ fun b_ => ?_ | refine n2_ fun b_ => ?_ | refine n3_ fun b_ pre_ => ?_ | refine Nat1.mk fun q_ hq_ => ?_ | refine em_ fun x_ hx_ => ?_ | refine Elem1.mk fun e_ he_ => ?_); refine g0_ ?_))
    exact .refl _
abbrev strB (b : Nat) (t : List UInt8) : Blk := ⟨b, .row 1 [.str t] 0⟩
end Go.Eng.YtgpkedepboenpaaDoor
end
