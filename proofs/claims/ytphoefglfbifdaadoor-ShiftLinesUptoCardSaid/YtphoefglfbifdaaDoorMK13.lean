/- Texts put together: Dsk21. -/
import Derived.Test.YtphoefglfbifdaaDoorMK1
/- A desk: blank, empty; slices.Repeat of a cell. -/
section
namespace Go.Eng.YtphoefglfbifdaaDoor
open Go Go.Eng Go.Proofs
variable (W : World)
set_option linter.unusedSimpArgs false
set_option maxRecDepth 100000
set_option linter.unusedVariables false
set_option maxHeartbeats 8000000
/-- The memory of a desk, and of its rows. -/
abbrev dM (d : Nat) (cv tv gv : PV) (bo : Nat) (l : Fam) (s : Scr) : Mem := [dskB d cv tv gv (.rsl bo 1 0 l.length) s] ++ (⟨bo, .row 1 (l.map (rowP 4)) 0⟩ :: (famM 4 encCell l ++ []))
theorem dblank_ok (d : Nat) (cv tv gv lv : PV) (s : Scr) : ACalls Tryd.prog W 81 [.bref d 0] [dskB d cv tv gv lv s] (Gives (fun _ : Unit => encCell (blankB s.look.back)) (fun _ => [dskB d cv tv gv lv s]) (fun _ => True)) := by
  obtain ⟨⟨gw, gh, cs⟩, X, Y, late, ⟨fo, ba, bi⟩, tp, bo, modes, tabs, kx, ky, ⟨f2, b2, bi2⟩, km, last, title, gone⟩ := s
  rw [dskB_eq]
  refine acalls_of_vc (DL_ok (by decide)) Tryd.func81 rfl (by decide) (by decide) rfl ?_
  (refine g0_ ?_; repeat ((first | refine n1_ fun b_ => ?_ | refine n2_ fun b_ => ?_); refine g0_ ?_))
  exact ⟨(), trivial, rfl, by (first | exact ⟨_, .refl _⟩ | exact wkMem.rfl' | exact ⟨_, .swap _ _ _⟩ | (repeat (first | exact wkMem.nil _ | exact wkMem.rfl' | exact wk_snoc _ _ _ | exact wk_fam (by assumption) _ _ _ | exact wk_famN (by assumption) _ _ _ | (apply wkMem.cons; (case' hl => (repeat (first | exact .here _ _ _ | apply Look.there)))) | apply wkMem.skip)))⟩
theorem dblank_q (d : Nat) (cv tv gv lv : PV) (s : Scr) (ρ : Mem) : Quiet Tryd.prog W 81 [.bref d 0] ([dskB d cv tv gv lv s] ++ ρ) (encCell (blankB s.look.back)) := quiet_of W (dblank_ok W d cv tv gv lv s) (ρ := ρ) (.refl _)
theorem repC_copy (c : Cell) (n k : Nat) (hk : k ≤ n) {cs : List Cell} (hcs : cs = List.replicate k c ++ List.replicate (n - k) zeroC) : cs.take k ++ (cs.take k).take (n - k) ++ cs.drop (k + min (n - k) k) = List.replicate (k + min (n - k) k) c ++ List.replicate (n - (k + min (n - k) k)) zeroC := by
  subst hcs
  have e1 : (List.replicate k c ++ List.replicate (n - k) zeroC).take k = List.replicate k c := by rw [List.take_left' (by simp)]
  rw [e1, List.take_replicate, ← List.replicate_append_replicate (n := k) (m := min (n - k) k)]
  congr 1
  rw [List.drop_append, List.drop_of_length_le (by simp), List.nil_append, List.length_replicate, List.drop_replicate]
  congr 1
  omega
theorem repeatC_ok (c : Cell) (n : Nat) (h1 : 1 ≤ n) (hn : n ≤ 10000) : ACalls Tryd.prog W 80 [.sl 4 [encCell c], .int .i64 n] [] (GivesRow 4 ((List.replicate n c).map encCell)) := by
  refine acalls_of_vc (drawOk W) Tryd.func80 rfl (by decide) (by decide) rfl ?_
  (refine g0_ ?_; repeat ((first | refine n1_ fun b_ => ?_ | refine n2_ fun b_ => ?_); refine g0_ ?_))
  rw [show IntKind.u64.wrap ([encCell c].length : Nat) = 1 by rfl, show IntKind.u64.wrap (n : Int) = n by rw [IntKind.wrap_u64]; omega]
  refine (mul_ok W n hn).use ?_; (refine g0_ ?_; repeat ((first | refine n1_ fun b_ => ?_ | refine n2_ fun b_ => ?_); refine g0_ ?_))
  have h2 : ¬ (9223372036854775807 < (n : Int)) := by omega
  (refine g0_ ?_; repeat ((first | refine n1_ fun b_ => ?_ | refine n2_ fun b_ => ?_); refine g0_ ?_))
  (refine g1_ ?_; repeat ((first | refine n1_ fun b_ => ?_ | refine n2_ fun b_ => ?_); refine g1_ ?_))
  rw [rep_zero]
  have hcb : cellsB (encCell c) = true := by rfl
  (refine g0_ ?_; repeat ((first | refine n1_ fun b_ => ?_ | refine n2_ fun b_ => ?_); refine g0_ ?_))
  have e1 : min n [encCell c].length = 1 := by rw [List.length_singleton]; omega
  rw [e1]
  have e2 : List.take n [encCell c] = (List.replicate 1 c).map encCell := by rw [List.take_of_length_le (by rw [List.length_singleton]; omega)]; rfl
  have e3 : List.drop (0 + 1) ((List.replicate n zeroC).map encCell) = (List.replicate (n - 1) zeroC).map encCell := by rw [← List.map_drop, List.drop_replicate]
  rw [e2, e3, List.take_zero, List.nil_append, ← List.map_append]
  refine' loopI (α := Nat × (List Cell)) (fun (k, cs) => [(8, .int .i64 k)]) [(7, _)] (fun (k, cs) => [⟨b_, .row 4 (cs.map encCell) 0⟩]) (fun (k, cs) => 1 ≤ k ∧ k ≤ n ∧ cs = List.replicate k c ++ List.replicate (n - k) zeroC) (fun (k, cs) => n - k) (1, List.replicate 1 c ++ List.replicate (n - 1) zeroC) ?_ ?_
  · exact ⟨Nat.le_refl _, h1, rfl⟩
  rintro ⟨k, cs⟩ ⟨hk1, hk2, hcs⟩
  have hcl : cs.length = n := by rw [hcs]; simp; omega
  (refine g0_ ?_; repeat ((first | refine n1_ fun b_ => ?_ | refine n2_ fun b_ => ?_); refine g0_ ?_))
  refine brec ?_; intro c_ h3; (try rw [h3]); cases c_ <;> replace h3 := nm_ h3
  · have : k = n := by omega
    subst this
    rw [Nat.sub_self, List.replicate_zero, List.append_nil] at hcs
    (refine g0_ ?_; repeat ((first | refine n1_ fun b_ => ?_ | refine n2_ fun b_ => ?_); refine g0_ ?_))
    rw [← hcs]
    exact GivesRow.mk _ (by simp [hcl]) wkMem.rfl'
  · have hrc := repC_copy c n k hk2 hcs
    have hca := cells_all (cs.take k)
    (refine g0_ ?_; repeat ((first | refine n1_ fun b_ => ?_ | refine n2_ fun b_ => ?_); refine g0_ ?_))
    have hlen2 : (cs.map encCell).length = n := by simp [hcl]
    have hca2 : (List.take (k - 0) (List.drop (0 + 0) (cs.map encCell))).all cellsB = true := by simpa [List.map_take] using hca
    have hml : (List.take (k - 0) (List.drop (0 + 0) (cs.map encCell))).length = k := by simp; omega
    have hrow : List.take (0 + k) (cs.map encCell) ++ List.take (n - k) (List.take (k - 0) (List.drop (0 + 0) (cs.map encCell))) ++ List.drop (0 + k + min (n - k) k) (cs.map encCell) = (List.replicate (k + min (n - k) k) c ++ List.replicate (n - (k + min (n - k) k)) zeroC).map encCell := by
      rw [← hrc]; simp [List.map_take, List.map_drop]
    refine Draws.free ⟨7, by decide +kernel, ?_⟩; (refine g0_ ?_; repeat ((first | refine n1_ fun b_ => ?_ | refine n2_ fun b_ => ?_); refine g0_ ?_))
    refine need.mk ⟨by omega, hca2, by omega⟩ ?_
    dsimp only
    rw [hml]
    (refine g0_ ?_; repeat ((first | refine n1_ fun b_ => ?_ | refine n2_ fun b_ => ?_); refine g0_ ?_))
    rw [hrow]
    refine nx_ (k + min (n - k) k, List.replicate (k + min (n - k) k) c ++ List.replicate (n - (k + min (n - k) k)) zeroC) ?_ ?_
    · exact ⟨by omega, by omega, rfl⟩
    · ((try dsimp only); (try simp only [List.length_drop, List.length_take, List.length_append, List.length_cons, List.length_nil, List.length_map] at *); omega)
theorem dempty_ok (d : Nat) (cv tv gv lv : PV) (s : Scr) {w : Nat} (hw : s.g.w = w) (w1 : 1 ≤ w) (w2 : w ≤ 120) : ACalls Tryd.prog W 78 [.bref d 0] [dskB d cv tv gv lv s]
    (Gives (fun b : Nat => .rsl b 4 0 w) (fun b => [dskB d cv tv gv lv s, ⟨b, .row 4 ((List.replicate w (blankB s.look.back)).map encCell) 0⟩]) (fun _ => True)) := by
  have hbl := dblank_q W d cv tv gv lv s
  have hre := repeatC_ok W (blankB s.look.back) w w1 (by omega)
  refine acalls_of_vc (DL_ok (by decide)) Tryd.func78 rfl (by decide) (by decide) rfl ?_
  (refine g0_ ?_; repeat ((first | refine n1_ fun b_ => ?_ | refine n2_ fun b_ => ?_); refine g0_ ?_))
  refine Draws10.chain ⟨10, [.new, .new, .new, .new, .new, .new, .new, .new, .new, .turn], [(9, [.keep, .keep, .keep, .keep, .keep, .keep, .keep, .keep, .keep, .keep])], by decide +kernel, ?_⟩; (refine g0_ ?_; repeat ((first | refine n1_ fun b_ => ?_ | refine n2_ fun b_ => ?_); refine g0_ ?_))
  refine ⟨_, hbl [], ?_⟩
  (refine g0_ ?_; repeat ((first | refine n1_ fun b_ => ?_ | refine n2_ fun b_ => ?_); refine g0_ ?_))
  rw [hw]
  refine ACalls.give hre ?_
  rintro b -
  (refine g0_ ?_; repeat ((first | refine n1_ fun b_ => ?_ | refine n2_ fun b_ => ?_); refine g0_ ?_))
  exact ⟨b, trivial, by simp, by (first | exact ⟨_, .refl _⟩ | exact wkMem.rfl' | exact ⟨_, .swap _ _ _⟩ | (repeat (first | exact wkMem.nil _ | exact wkMem.rfl' | exact wk_snoc _ _ _ | exact wk_fam (by assumption) _ _ _ | exact wk_famN (by assumption) _ _ _ | (apply wkMem.cons; (case' hl => (repeat (first | exact .here _ _ _ | apply Look.there)))) | apply wkMem.skip)))⟩
end Go.Eng.YtphoefglfbifdaaDoor
end
