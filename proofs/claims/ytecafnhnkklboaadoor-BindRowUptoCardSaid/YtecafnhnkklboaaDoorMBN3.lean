/- Texts put together: BndR. -/
import Derived.Test.YtecafnhnkklboaaDoorMBN2
import Derived.Test.YtecafnhnkklboaaDoorME6
/- The law BindRow (b_ x_ q_ e_). -/
section
namespace Go.Eng.YtecafnhnkklboaaDoor
open Go Go.Eng Go.Proofs Go.Maps
variable (W : World)
set_option linter.unusedSimpArgs false
set_option maxRecDepth 100000
set_option linter.unusedVariables false
set_option maxHeartbeats 8000000
theorem joinE_words (w : List (List UInt8)) (h : (joinE w).2 = 0) : wordsB (joinE w).1 = (w, 0) ∧ (joinE w).1.length ≤ 4000 := by
  unfold joinE at h ⊢
  split at h
  · exact absurd (show (1 : Int) = 0 from h) (by decide)
  · rename_i h1
    rw [if_neg h1]
    split at h
    · exact absurd (show (2 : Int) = 0 from h) (by decide)
    · rename_i h2
      rw [if_neg h2]
      refine ⟨words_back w (fun x hx e => h1 (List.any_eq_true.2 ⟨x, hx, by simpa using e⟩)) (by omega), by dsimp only; omega⟩
theorem strk_zero {t : BTab} {l : List Key} {pad armed : Bool} (h : (struckE t l pad armed).2 = 0) : checkT t = 0 ∧ l.length ≤ 4000 ∧ (struckE t l pad armed).1 = runK2 t pad l armed := by
  unfold struckE at h ⊢
  split at h
  · rename_i h1
    exact absurd h h1
  · rename_i h1
    rw [if_neg h1]
    split at h
    · exact absurd (show (2 : Int) = 0 from h) (by decide)
    · rename_i h2
      rw [if_neg h2]
      exact ⟨Decidable.of_not_not h1, by omega, rfl⟩
theorem strk_of {t : BTab} {l : List Key} (pad armed : Bool) (h : checkT t = 0) (hl : l.length ≤ 4000) : struckE t l pad armed = (runK2 t pad l armed, 0) := by
  unfold struckE
  rw [if_neg (by simpa using h), if_neg (by omega)]
theorem rowSt (m n : List (List UInt8)) (k : List UInt8) : (List.map PV.str m).length + 1 + (List.map PV.str n).length = ((PV.str k :: List.map PV.str m) ++ List.map PV.str n).length := by
  simp only [List.length_append, List.length_cons]
theorem rowSt0 (m : List (List UInt8)) (k : List UInt8) : (List.map PV.str m).length + 1 = ((PV.str k :: List.map PV.str m) ++ List.map PV.str []).length := by
  simp only [List.length_append, List.length_cons, List.map_nil, List.length_nil, Nat.add_zero]
theorem runK_cmds (t : BTab) (pad : Bool) : ∀ (l : List Key) (a : Bool), (runK2 t pad l a).cmds.length ≤ t.binds.length * l.length
  | [], a => Nat.zero_le _
  | k :: l, a => by
    have h1 := runK_cmds t pad l (stepSt t pad ⟨[], [], a⟩ k).armed
    have h2 := cmds_len t k
    have e : runK2 t pad (k :: l) a = ⟨(stepSt t pad ⟨[], [], a⟩ k).cmds ++ (runK2 t pad l (stepSt t pad ⟨[], [], a⟩ k).armed).cmds, (stepSt t pad ⟨[], [], a⟩ k).bytes ++ (runK2 t pad l (stepSt t pad ⟨[], [], a⟩ k).armed).bytes, (runK2 t pad l (stepSt t pad ⟨[], [], a⟩ k).armed).armed⟩ := by
      rw [runK2, List.foldl_cons]
      exact step_shift t pad l _ _ _
    rw [e, List.length_cons, Nat.mul_add, Nat.mul_one]
    dsimp only
    rw [List.length_append]
    have h3 : (stepSt t pad ⟨[], [], a⟩ k).cmds.length ≤ t.binds.length := by
      unfold stepSt
      dsimp only
      repeat' split
      all_goals first
        | exact Nat.zero_le _
        | exact h2
    omega
theorem runK_bytes (t : BTab) (pad : Bool) : ∀ (l : List Key) (a : Bool), (runK2 t pad l a).bytes.length ≤ 40 * l.length
  | [], a => Nat.zero_le _
  | k :: l, a => by
    have h1 := runK_bytes t pad l (stepSt t pad ⟨[], [], a⟩ k).armed
    have h2 := tell_len k pad
    have e : runK2 t pad (k :: l) a = ⟨(stepSt t pad ⟨[], [], a⟩ k).cmds ++ (runK2 t pad l (stepSt t pad ⟨[], [], a⟩ k).armed).cmds, (stepSt t pad ⟨[], [], a⟩ k).bytes ++ (runK2 t pad l (stepSt t pad ⟨[], [], a⟩ k).armed).bytes, (runK2 t pad l (stepSt t pad ⟨[], [], a⟩ k).armed).armed⟩ := by
      rw [runK2, List.foldl_cons]
      exact step_shift t pad l _ _ _
    rw [e, List.length_cons]
    dsimp only
    rw [List.length_append]
    have h3 : (stepSt t pad ⟨[], [], a⟩ k).bytes.length ≤ 40 := by
      unfold stepSt
      dsimp only
      repeat' split
      all_goals first
        | exact Nat.zero_le _
        | exact h2
    omega
theorem bindRow_ok (hK : Keyz W) (t : BTab) (hto : t.ok) (l : List Key) (hlo : (∀ k ∈ l, k.ok) ∧ l.length ≤ 17592186044416) (at_ : Int) (hat : -9223372036854775808 ≤ at_ ∧ at_ ≤ 9223372036854775807) (pad armed : Bool) (w : List (List UInt8)) (hw : (w.map fun s => s.length + 1).sum ≤ 1048576) :
    Pure Tryd.prog W 3 [encTab t, .sl 4 (l.map encKey), .int .i64 at_, .bool pad, .bool armed, .sl 1 (w.map .str)] (.bool true) := by
  obtain ⟨hT, hN, hE⟩ := hK
  obtain ⟨hlk, hll⟩ := hlo
  have hbd := bound_ok W hT hN hE
  have hjn := bjoin_ok W w hw
  have hjw := joinE_words w
  have hln := (sum_bd w).1
  have heqw := equal_strsB W w w (by omega)
  rw [decide_eq_true rfl] at heqw
  have hs0 := bstruck_ok W hN t hto l hlk hll pad armed
  have hlm : (l.map encKey).length = l.length := List.length_map _
  generalize joinE w = J at *
  obtain ⟨j, je⟩ := J
  dsimp only at hjn hjw
  have hz := strk_zero (t := t) (l := l) (pad := pad) (armed := armed)
  generalize struckE t l pad armed = S at *
  obtain ⟨⟨c, b, ar⟩, e⟩ := S
  dsimp only at hs0 hz
  generalize hTE : encTab t = TE at *
  have hTA : ∃ a0 a1 a2 a3 a4, TE = .agg [a0, a1, a2, a3, a4] := ⟨_, _, _, _, _, hTE.symm⟩
  unfold encTab at hTE
  subst hTE
  clear hTA
  refine Pure.of (acalls_of_vc (DL_ok (by decide)) Tryd.func3 rfl (by decide) (by decide) rfl ?_)
  (refine g0_ ?_; repeat ((first | refine n1_ fun b_ => ?_ | refine n2_ fun b_ => ?_ | refine Nat1.mk fun q_ hq_ => ?_ | refine em_ fun x_ hx_ => ?_ | refine Elem1.mk fun e_ he_ => ?_); refine g0_ ?_))
  refine hjn.use ?_
  (refine gj_ ?_; repeat ((first | refine n1_ fun b_ => ?_ | refine n2_ fun b_ => ?_ | refine Nat1.mk fun q_ hq_ => ?_ | refine em_ fun x_ hx_ => ?_ | refine Elem1.mk fun e_ he_ => ?_); refine gj_ ?_))
  first | refine' joinT (α := Unit) (fun u => []) [(1, _), (2, _), (3, _), (4, _), (6, _)] (fun u => [⟨b_, .row 5 [.agg [.int .i64 t.pre.kind, .int .i32 t.pre.r, .int .i64 t.pre.n, .int .i64 t.pre.held, .sl 5 (t.binds.map encBnd)]] 0⟩]) (fun u => True) ?_ ?_ | refine' joinF (α := Unit) (fun u => []) [(1, _), (2, _), (3, _), (4, _), (6, _)] (fun u => [⟨b_, .row 5 [.agg [.int .i64 t.pre.kind, .int .i32 t.pre.r, .int .i64 t.pre.n, .int .i64 t.pre.held, .sl 5 (t.binds.map encBnd)]] 0⟩]) (fun u => True) ?_ ?_
  · by_cases h0 : je = 0
    · subst h0
      obtain ⟨h1, h2⟩ := hjw rfl
      have hwd := bwords_ok W j (by omega)
      rw [h1] at hwd
      (refine g1_ ?_; repeat ((first | refine n1_ fun b_ => ?_ | refine n2_ fun b_ => ?_ | refine Nat1.mk fun q_ hq_ => ?_ | refine em_ fun x_ hx_ => ?_ | refine Elem1.mk fun e_ he_ => ?_); refine g1_ ?_))
      refine (hwd).use ?_; (refine g0_ ?_; repeat ((first | refine n1_ fun b_ => ?_ | refine n2_ fun b_ => ?_ | refine Nat1.mk fun q_ hq_ => ?_ | refine em_ fun x_ hx_ => ?_ | refine Elem1.mk fun e_ he_ => ?_); refine g0_ ?_))
      (refine g1_ ?_; repeat ((first | refine n1_ fun b_ => ?_ | refine n2_ fun b_ => ?_ | refine Nat1.mk fun q_ hq_ => ?_ | refine em_ fun x_ hx_ => ?_ | refine Elem1.mk fun e_ he_ => ?_); refine g1_ ?_))
      refine (heqw).use ?_; (refine g0_ ?_; repeat ((first | refine n1_ fun b_ => ?_ | refine n2_ fun b_ => ?_ | refine Nat1.mk fun q_ hq_ => ?_ | refine em_ fun x_ hx_ => ?_ | refine Elem1.mk fun e_ he_ => ?_); refine g0_ ?_))
      (refine g1_ ?_; repeat ((first | refine n1_ fun b_ => ?_ | refine n2_ fun b_ => ?_ | refine Nat1.mk fun q_ hq_ => ?_ | refine em_ fun x_ hx_ => ?_ | refine Elem1.mk fun e_ he_ => ?_); refine g1_ ?_))
      refine jx_ () ?_
      trivial
    · (refine g1_ ?_; repeat ((first | refine n1_ fun b_ => ?_ | refine n2_ fun b_ => ?_ | refine Nat1.mk fun q_ hq_ => ?_ | refine em_ fun x_ hx_ => ?_ | refine Elem1.mk fun e_ he_ => ?_); refine g1_ ?_))
      refine jx_ () ?_
      trivial
  rintro - -
  clear hjn hjw heqw
  by_cases h0 : e = 0
  · subst h0
    obtain ⟨hc0, hl4, hrun⟩ := hz rfl
    clear hz
    obtain ⟨m, hm, hat'⟩ : ∃ m : Nat, m ≤ l.length ∧ ((0 ≤ at_ ∧ at_ ≤ l.length ∧ at_ = m) ∨ ((at_ < 0 ∨ (l.length : Int) < at_) ∧ m = l.length / 2)) := by
      by_cases h1 : 0 ≤ at_ ∧ at_ ≤ l.length
      · exact ⟨at_.toNat, by omega, .inl ⟨h1.1, h1.2, by omega⟩⟩
      · exact ⟨l.length / 2, by omega, .inr ⟨by omega, rfl⟩⟩
    have htd : (l.length : Int).tdiv 2 = ((l.length / 2 : Nat) : Int) := rfl
    have hnb : t.binds.length ≤ 20 := by
      unfold checkT at hc0
      split at hc0
      · cases hc0
      · split at hc0
        · cases hc0
        · omega
    have ho1 := bstruck_own W hN t hto (l.take m) (fun k hk => hlk k (List.mem_of_mem_take hk)) (by rw [List.length_take]; omega) pad armed
    rw [strk_of pad armed hc0 (by rw [List.length_take]; omega)] at ho1
    have hrap := run_append t pad (l.take m) (l.drop m) armed
    rw [List.take_append_drop, ← hrun] at hrap
    have hk1 := runK_cmds t pad (l.take m) armed
    have hy1 := runK_bytes t pad (l.take m) armed
    have hk1' : t.binds.length * (l.take m).length ≤ 20 * 4000 := Nat.mul_le_mul hnb (by rw [List.length_take]; omega)
    have hl1 : (l.take m).length ≤ 4000 := by rw [List.length_take]; omega
    generalize runK2 t pad (l.take m) armed = R1 at *
    obtain ⟨c1, b1, a1⟩ := R1
    dsimp only at *
    have hs2 := bstruck_ok W hN t hto (l.drop m) (fun k hk => hlk k (List.mem_of_mem_drop hk)) (by rw [List.length_drop]; omega) pad a1
    rw [strk_of pad a1 hc0 (by rw [List.length_drop]; omega)] at hs2
    have hk2 := runK_cmds t pad (l.drop m) a1
    have hy2 := runK_bytes t pad (l.drop m) a1
    have hk2' : t.binds.length * (l.drop m).length ≤ 20 * 4000 := Nat.mul_le_mul hnb (by rw [List.length_drop]; omega)
    have hl2 : (l.drop m).length ≤ 4000 := by rw [List.length_drop]; omega
    generalize runK2 t pad (l.drop m) a1 = R2 at *
    obtain ⟨c2, b2, a2⟩ := R2
    dsimp only at *
    cases hrap
    replace hk1 := Nat.le_trans hk1 hk1'
    replace hk2 := Nat.le_trans hk2 hk2'
    clear hk1' hk2' hrun
    have heq := equal_strsB W (c1 ++ c2) (c1 ++ c2) (by rw [List.length_append]; omega)
    rw [decide_eq_true rfl] at heq
    unfold encTab at ho1 hs2
    have hdt : List.drop m (List.take (List.map encKey l).length l) = List.drop m l := by rw [hlm, List.take_length]
    rcases hat' with ⟨g1, g2, g3⟩ | ⟨g1 | g1, g2⟩
    · subst g3
      rcases c1 with _ | ⟨c0, c1⟩
      · rcases c2 with _ | ⟨d0, c2⟩
        · (refine g0_ ?_; repeat ((first | refine n1_ fun b_ => ?_ | refine n2_ fun b_ => ?_ | refine Nat1.mk fun q_ hq_ => ?_ | refine em_ fun x_ hx_ => ?_ | refine Elem1.mk fun e_ he_ => ?_); refine g0_ ?_))
          refine (hs0).use ?_; (refine g0_ ?_; repeat ((first | refine n1_ fun b_ => ?_ | refine n2_ fun b_ => ?_ | refine Nat1.mk fun q_ hq_ => ?_ | refine em_ fun x_ hx_ => ?_ | refine Elem1.mk fun e_ he_ => ?_); refine g0_ ?_))
          (refine g0_ ?_; repeat ((first | refine n1_ fun b_ => ?_ | refine n2_ fun b_ => ?_ | refine Nat1.mk fun q_ hq_ => ?_ | refine em_ fun x_ hx_ => ?_ | refine Elem1.mk fun e_ he_ => ?_); refine g0_ ?_))
          refine (hbd).use ?_; (refine g0_ ?_; repeat ((first | refine n1_ fun b_ => ?_ | refine n2_ fun b_ => ?_ | refine Nat1.mk fun q_ hq_ => ?_ | refine em_ fun x_ hx_ => ?_ | refine Elem1.mk fun e_ he_ => ?_); refine g0_ ?_))
          (refine g1_ ?_; repeat ((first | refine n1_ fun b_ => ?_ | refine n2_ fun b_ => ?_ | refine Nat1.mk fun q_ hq_ => ?_ | refine em_ fun x_ hx_ => ?_ | refine Elem1.mk fun e_ he_ => ?_); refine g1_ ?_))
          (try (rw [hlm, htd]; (refine g0_ ?_; repeat ((first | refine n1_ fun b_ => ?_ | refine n2_ fun b_ => ?_ | refine Nat1.mk fun q_ hq_ => ?_ | refine em_ fun x_ hx_ => ?_ | refine Elem1.mk fun e_ he_ => ?_); refine g0_ ?_))))
          refine Draws10.chain ⟨15, [.new, .new, .new, .new, .new, .new, .turn, .skip, .skip, .skip, .skip, .skip, .skip, .skip, .skip], [(6, [.keep, .keep, .keep, .keep, .keep, .keep, .keep, .new, .new, .new, .new, .new, .new, .new, .new])], by decide +kernel, ?_⟩; (refine g0_ ?_; repeat ((first | refine n1_ fun b_ => ?_ | refine n2_ fun b_ => ?_ | refine Nat1.mk fun q_ hq_ => ?_ | refine em_ fun x_ hx_ => ?_ | refine Elem1.mk fun e_ he_ => ?_); refine g0_ ?_))
          refine ACalls.giveE ho1 ?_
          rintro bb -
          (refine g0_ ?_; repeat ((first | refine n1_ fun b_ => ?_ | refine n2_ fun b_ => ?_ | refine Nat1.mk fun q_ hq_ => ?_ | refine em_ fun x_ hx_ => ?_ | refine Elem1.mk fun e_ he_ => ?_); refine g0_ ?_))
          refine headL_ (head_ ?_); (refine g0_ ?_; repeat ((first | refine n1_ fun b_ => ?_ | refine n2_ fun b_ => ?_ | refine Nat1.mk fun q_ hq_ => ?_ | refine em_ fun x_ hx_ => ?_ | refine Elem1.mk fun e_ he_ => ?_); refine g0_ ?_))
          rw [hdt]
          refine ⟨_, (hs2).quiet, ?_⟩; (refine g0_ ?_; repeat ((first | refine n1_ fun b_ => ?_ | refine n2_ fun b_ => ?_ | refine Nat1.mk fun q_ hq_ => ?_ | refine em_ fun x_ hx_ => ?_ | refine Elem1.mk fun e_ he_ => ?_); refine g0_ ?_))
          (refine g1_ ?_; repeat ((first | refine n1_ fun b_ => ?_ | refine n2_ fun b_ => ?_ | refine Nat1.mk fun q_ hq_ => ?_ | refine em_ fun x_ hx_ => ?_ | refine Elem1.mk fun e_ he_ => ?_); refine g1_ ?_))
          (try refine need.mk (strs_all1 _) ?_)
          (refine g0_ ?_; repeat ((first | refine n1_ fun b_ => ?_ | refine n2_ fun b_ => ?_ | refine Nat1.mk fun q_ hq_ => ?_ | refine em_ fun x_ hx_ => ?_ | refine Elem1.mk fun e_ he_ => ?_); refine g0_ ?_))
          refine heq.borrow rfl rfl (fun j hj => ?_) ?_
          · match j, hj with
            | 0, _ => exact .refl _
            | 1, _ => exact .nils 1
          (refine g1_ ?_; repeat ((first | refine n1_ fun b_ => ?_ | refine n2_ fun b_ => ?_ | refine Nat1.mk fun q_ hq_ => ?_ | refine em_ fun x_ hx_ => ?_ | refine Elem1.mk fun e_ he_ => ?_); refine g1_ ?_))
          exact frz_bool (by simp)
        · have hlc : (List.map PV.str (d0 :: c2)).length = c2.length + 1 := by simp
          simp only [List.length_cons] at hk2
          (refine g0_ ?_; repeat ((first | refine n1_ fun b_ => ?_ | refine n2_ fun b_ => ?_ | refine Nat1.mk fun q_ hq_ => ?_ | refine em_ fun x_ hx_ => ?_ | refine Elem1.mk fun e_ he_ => ?_); refine g0_ ?_))
          refine (hs0).use ?_; (refine g0_ ?_; repeat ((first | refine n1_ fun b_ => ?_ | refine n2_ fun b_ => ?_ | refine Nat1.mk fun q_ hq_ => ?_ | refine em_ fun x_ hx_ => ?_ | refine Elem1.mk fun e_ he_ => ?_); refine g0_ ?_))
          (refine g0_ ?_; repeat ((first | refine n1_ fun b_ => ?_ | refine n2_ fun b_ => ?_ | refine Nat1.mk fun q_ hq_ => ?_ | refine em_ fun x_ hx_ => ?_ | refine Elem1.mk fun e_ he_ => ?_); refine g0_ ?_))
          refine (hbd).use ?_; (refine g0_ ?_; repeat ((first | refine n1_ fun b_ => ?_ | refine n2_ fun b_ => ?_ | refine Nat1.mk fun q_ hq_ => ?_ | refine em_ fun x_ hx_ => ?_ | refine Elem1.mk fun e_ he_ => ?_); refine g0_ ?_))
          (refine g1_ ?_; repeat ((first | refine n1_ fun b_ => ?_ | refine n2_ fun b_ => ?_ | refine Nat1.mk fun q_ hq_ => ?_ | refine em_ fun x_ hx_ => ?_ | refine Elem1.mk fun e_ he_ => ?_); refine g1_ ?_))
          (try (rw [hlm, htd]; (refine g0_ ?_; repeat ((first | refine n1_ fun b_ => ?_ | refine n2_ fun b_ => ?_ | refine Nat1.mk fun q_ hq_ => ?_ | refine em_ fun x_ hx_ => ?_ | refine Elem1.mk fun e_ he_ => ?_); refine g0_ ?_))))
          refine Draws10.chain ⟨15, [.new, .new, .new, .new, .new, .new, .turn, .skip, .skip, .skip, .skip, .skip, .skip, .skip, .skip], [(6, [.keep, .keep, .keep, .keep, .keep, .keep, .keep, .new, .new, .new, .new, .new, .new, .new, .new])], by decide +kernel, ?_⟩; (refine g0_ ?_; repeat ((first | refine n1_ fun b_ => ?_ | refine n2_ fun b_ => ?_ | refine Nat1.mk fun q_ hq_ => ?_ | refine em_ fun x_ hx_ => ?_ | refine Elem1.mk fun e_ he_ => ?_); refine g0_ ?_))
          refine ACalls.giveE ho1 ?_
          rintro bb -
          (refine g0_ ?_; repeat ((first | refine n1_ fun b_ => ?_ | refine n2_ fun b_ => ?_ | refine Nat1.mk fun q_ hq_ => ?_ | refine em_ fun x_ hx_ => ?_ | refine Elem1.mk fun e_ he_ => ?_); refine g0_ ?_))
          refine headL_ (head_ ?_); (refine g0_ ?_; repeat ((first | refine n1_ fun b_ => ?_ | refine n2_ fun b_ => ?_ | refine Nat1.mk fun q_ hq_ => ?_ | refine em_ fun x_ hx_ => ?_ | refine Elem1.mk fun e_ he_ => ?_); refine g0_ ?_))
          rw [hdt]
          refine ⟨_, (hs2).quiet, ?_⟩; (refine g0_ ?_; repeat ((first | refine n1_ fun b_ => ?_ | refine n2_ fun b_ => ?_ | refine Nat1.mk fun q_ hq_ => ?_ | refine em_ fun x_ hx_ => ?_ | refine Elem1.mk fun e_ he_ => ?_); refine g0_ ?_))
          (refine g1_ ?_; repeat ((first | refine n1_ fun b_ => ?_ | refine n2_ fun b_ => ?_ | refine Nat1.mk fun q_ hq_ => ?_ | refine em_ fun x_ hx_ => ?_ | refine Elem1.mk fun e_ he_ => ?_); refine g1_ ?_))
          (try refine need.mk (strs_all1 _) ?_)
          (refine g0_ ?_; repeat ((first | refine n1_ fun b_ => ?_ | refine n2_ fun b_ => ?_ | refine Nat1.mk fun q_ hq_ => ?_ | refine em_ fun x_ hx_ => ?_ | refine Elem1.mk fun e_ he_ => ?_); refine g0_ ?_))
          refine heq.borrow rfl rfl (fun j hj => ?_) ?_
          · match j, hj with
            | 0, _ => exact .refl _
            | 1, _ => exact frz_row (l := (d0 :: c2).map PV.str) (.here _ _ _) _ (by simp)
          (refine g1_ ?_; repeat ((first | refine n1_ fun b_ => ?_ | refine n2_ fun b_ => ?_ | refine Nat1.mk fun q_ hq_ => ?_ | refine em_ fun x_ hx_ => ?_ | refine Elem1.mk fun e_ he_ => ?_); refine g1_ ?_))
          exact frz_bool (by simp)
      · have hlc : (List.map PV.str c1).length = c1.length := List.length_map _
        have hap : List.map PV.str (c0 :: c1 ++ c2) = (PV.str c0 :: List.map PV.str c1) ++ List.map PV.str c2 := by rw [List.map_append]; rfl
        rw [hap] at heq hs0
        simp only [List.length_cons] at hk1
        rcases c2 with _ | ⟨d0, c2⟩
        · have hlc2 : (List.map PV.str ([] : List (List UInt8))).length = 0 := rfl
          (refine g0_ ?_; repeat ((first | refine n1_ fun b_ => ?_ | refine n2_ fun b_ => ?_ | refine Nat1.mk fun q_ hq_ => ?_ | refine em_ fun x_ hx_ => ?_ | refine Elem1.mk fun e_ he_ => ?_); refine g0_ ?_))
          refine (hs0).use ?_; (refine g0_ ?_; repeat ((first | refine n1_ fun b_ => ?_ | refine n2_ fun b_ => ?_ | refine Nat1.mk fun q_ hq_ => ?_ | refine em_ fun x_ hx_ => ?_ | refine Elem1.mk fun e_ he_ => ?_); refine g0_ ?_))
          (refine g0_ ?_; repeat ((first | refine n1_ fun b_ => ?_ | refine n2_ fun b_ => ?_ | refine Nat1.mk fun q_ hq_ => ?_ | refine em_ fun x_ hx_ => ?_ | refine Elem1.mk fun e_ he_ => ?_); refine g0_ ?_))
          refine (hbd).use ?_; (refine g0_ ?_; repeat ((first | refine n1_ fun b_ => ?_ | refine n2_ fun b_ => ?_ | refine Nat1.mk fun q_ hq_ => ?_ | refine em_ fun x_ hx_ => ?_ | refine Elem1.mk fun e_ he_ => ?_); refine g0_ ?_))
          (refine g1_ ?_; repeat ((first | refine n1_ fun b_ => ?_ | refine n2_ fun b_ => ?_ | refine Nat1.mk fun q_ hq_ => ?_ | refine em_ fun x_ hx_ => ?_ | refine Elem1.mk fun e_ he_ => ?_); refine g1_ ?_))
          (try (rw [hlm, htd]; (refine g0_ ?_; repeat ((first | refine n1_ fun b_ => ?_ | refine n2_ fun b_ => ?_ | refine Nat1.mk fun q_ hq_ => ?_ | refine em_ fun x_ hx_ => ?_ | refine Elem1.mk fun e_ he_ => ?_); refine g0_ ?_))))
          refine Draws10.chain ⟨15, [.new, .new, .new, .new, .new, .new, .turn, .skip, .skip, .skip, .skip, .skip, .skip, .skip, .skip], [(6, [.keep, .keep, .keep, .keep, .keep, .keep, .keep, .new, .new, .new, .new, .new, .new, .new, .new])], by decide +kernel, ?_⟩; (refine g0_ ?_; repeat ((first | refine n1_ fun b_ => ?_ | refine n2_ fun b_ => ?_ | refine Nat1.mk fun q_ hq_ => ?_ | refine em_ fun x_ hx_ => ?_ | refine Elem1.mk fun e_ he_ => ?_); refine g0_ ?_))
          refine ACalls.giveE ho1 ?_
          rintro bb -
          (refine g0_ ?_; repeat ((first | refine n1_ fun b_ => ?_ | refine n2_ fun b_ => ?_ | refine Nat1.mk fun q_ hq_ => ?_ | refine em_ fun x_ hx_ => ?_ | refine Elem1.mk fun e_ he_ => ?_); refine g0_ ?_))
          refine headL_ (head_ ?_); (refine g0_ ?_; repeat ((first | refine n1_ fun b_ => ?_ | refine n2_ fun b_ => ?_ | refine Nat1.mk fun q_ hq_ => ?_ | refine em_ fun x_ hx_ => ?_ | refine Elem1.mk fun e_ he_ => ?_); refine g0_ ?_))
          rw [hdt]
          refine ⟨_, (hs2).quiet, ?_⟩; (refine g0_ ?_; repeat ((first | refine n1_ fun b_ => ?_ | refine n2_ fun b_ => ?_ | refine Nat1.mk fun q_ hq_ => ?_ | refine em_ fun x_ hx_ => ?_ | refine Elem1.mk fun e_ he_ => ?_); refine g0_ ?_))
          (refine g1_ ?_; repeat ((first | refine n1_ fun b_ => ?_ | refine n2_ fun b_ => ?_ | refine Nat1.mk fun q_ hq_ => ?_ | refine em_ fun x_ hx_ => ?_ | refine Elem1.mk fun e_ he_ => ?_); refine g1_ ?_))
          (try refine need.mk (strs_all1 _) ?_)
          (refine g0_ ?_; repeat ((first | refine n1_ fun b_ => ?_ | refine n2_ fun b_ => ?_ | refine Nat1.mk fun q_ hq_ => ?_ | refine em_ fun x_ hx_ => ?_ | refine Elem1.mk fun e_ he_ => ?_); refine g0_ ?_))
          refine heq.borrow rfl rfl (fun j hj => ?_) ?_
          · match j, hj with
            | 0, _ => exact .refl _
            | 1, _ => exact frz_row (.here _ _ _) _ (rowSt0 _ _)
          (refine g1_ ?_; repeat ((first | refine n1_ fun b_ => ?_ | refine n2_ fun b_ => ?_ | refine Nat1.mk fun q_ hq_ => ?_ | refine em_ fun x_ hx_ => ?_ | refine Elem1.mk fun e_ he_ => ?_); refine g1_ ?_))
          exact frz_bool (by simp)
        · have hlc2 : (List.map PV.str (d0 :: c2)).length = c2.length + 1 := by simp
          simp only [List.length_cons] at hk2
          (refine g0_ ?_; repeat ((first | refine n1_ fun b_ => ?_ | refine n2_ fun b_ => ?_ | refine Nat1.mk fun q_ hq_ => ?_ | refine em_ fun x_ hx_ => ?_ | refine Elem1.mk fun e_ he_ => ?_); refine g0_ ?_))
          refine (hs0).use ?_; (refine g0_ ?_; repeat ((first | refine n1_ fun b_ => ?_ | refine n2_ fun b_ => ?_ | refine Nat1.mk fun q_ hq_ => ?_ | refine em_ fun x_ hx_ => ?_ | refine Elem1.mk fun e_ he_ => ?_); refine g0_ ?_))
          (refine g0_ ?_; repeat ((first | refine n1_ fun b_ => ?_ | refine n2_ fun b_ => ?_ | refine Nat1.mk fun q_ hq_ => ?_ | refine em_ fun x_ hx_ => ?_ | refine Elem1.mk fun e_ he_ => ?_); refine g0_ ?_))
          refine (hbd).use ?_; (refine g0_ ?_; repeat ((first | refine n1_ fun b_ => ?_ | refine n2_ fun b_ => ?_ | refine Nat1.mk fun q_ hq_ => ?_ | refine em_ fun x_ hx_ => ?_ | refine Elem1.mk fun e_ he_ => ?_); refine g0_ ?_))
          (refine g1_ ?_; repeat ((first | refine n1_ fun b_ => ?_ | refine n2_ fun b_ => ?_ | refine Nat1.mk fun q_ hq_ => ?_ | refine em_ fun x_ hx_ => ?_ | refine Elem1.mk fun e_ he_ => ?_); refine g1_ ?_))
          (try (rw [hlm, htd]; (refine g0_ ?_; repeat ((first | refine n1_ fun b_ => ?_ | refine n2_ fun b_ => ?_ | refine Nat1.mk fun q_ hq_ => ?_ | refine em_ fun x_ hx_ => ?_ | refine Elem1.mk fun e_ he_ => ?_); refine g0_ ?_))))
          refine Draws10.chain ⟨15, [.new, .new, .new, .new, .new, .new, .turn, .skip, .skip, .skip, .skip, .skip, .skip, .skip, .skip], [(6, [.keep, .keep, .keep, .keep, .keep, .keep, .keep, .new, .new, .new, .new, .new, .new, .new, .new])], by decide +kernel, ?_⟩; (refine g0_ ?_; repeat ((first | refine n1_ fun b_ => ?_ | refine n2_ fun b_ => ?_ | refine Nat1.mk fun q_ hq_ => ?_ | refine em_ fun x_ hx_ => ?_ | refine Elem1.mk fun e_ he_ => ?_); refine g0_ ?_))
          refine ACalls.giveE ho1 ?_
          rintro bb -
          (refine g0_ ?_; repeat ((first | refine n1_ fun b_ => ?_ | refine n2_ fun b_ => ?_ | refine Nat1.mk fun q_ hq_ => ?_ | refine em_ fun x_ hx_ => ?_ | refine Elem1.mk fun e_ he_ => ?_); refine g0_ ?_))
          refine headL_ (head_ ?_); (refine g0_ ?_; repeat ((first | refine n1_ fun b_ => ?_ | refine n2_ fun b_ => ?_ | refine Nat1.mk fun q_ hq_ => ?_ | refine em_ fun x_ hx_ => ?_ | refine Elem1.mk fun e_ he_ => ?_); refine g0_ ?_))
          rw [hdt]
          refine ⟨_, (hs2).quiet, ?_⟩; (refine g0_ ?_; repeat ((first | refine n1_ fun b_ => ?_ | refine n2_ fun b_ => ?_ | refine Nat1.mk fun q_ hq_ => ?_ | refine em_ fun x_ hx_ => ?_ | refine Elem1.mk fun e_ he_ => ?_); refine g0_ ?_))
          (refine g1_ ?_; repeat ((first | refine n1_ fun b_ => ?_ | refine n2_ fun b_ => ?_ | refine Nat1.mk fun q_ hq_ => ?_ | refine em_ fun x_ hx_ => ?_ | refine Elem1.mk fun e_ he_ => ?_); refine g1_ ?_))
          (try refine need.mk (strs_all1 _) ?_)
          (refine g0_ ?_; repeat ((first | refine n1_ fun b_ => ?_ | refine n2_ fun b_ => ?_ | refine Nat1.mk fun q_ hq_ => ?_ | refine em_ fun x_ hx_ => ?_ | refine Elem1.mk fun e_ he_ => ?_); refine g0_ ?_))
          refine heq.borrow rfl rfl (fun j hj => ?_) ?_
          · match j, hj with
            | 0, _ => exact .refl _
            | 1, _ => exact frz_row (.here _ _ _) _ (rowSt _ _ _)
          (refine g1_ ?_; repeat ((first | refine n1_ fun b_ => ?_ | refine n2_ fun b_ => ?_ | refine Nat1.mk fun q_ hq_ => ?_ | refine em_ fun x_ hx_ => ?_ | refine Elem1.mk fun e_ he_ => ?_); refine g1_ ?_))
          exact frz_bool (by simp)
    · subst g2
      rcases c1 with _ | ⟨c0, c1⟩
      · rcases c2 with _ | ⟨d0, c2⟩
        · (refine g0_ ?_; repeat ((first | refine n1_ fun b_ => ?_ | refine n2_ fun b_ => ?_ | refine Nat1.mk fun q_ hq_ => ?_ | refine em_ fun x_ hx_ => ?_ | refine Elem1.mk fun e_ he_ => ?_); refine g0_ ?_))
          refine (hs0).use ?_; (refine g0_ ?_; repeat ((first | refine n1_ fun b_ => ?_ | refine n2_ fun b_ => ?_ | refine Nat1.mk fun q_ hq_ => ?_ | refine em_ fun x_ hx_ => ?_ | refine Elem1.mk fun e_ he_ => ?_); refine g0_ ?_))
          (refine g0_ ?_; repeat ((first | refine n1_ fun b_ => ?_ | refine n2_ fun b_ => ?_ | refine Nat1.mk fun q_ hq_ => ?_ | refine em_ fun x_ hx_ => ?_ | refine Elem1.mk fun e_ he_ => ?_); refine g0_ ?_))
          refine (hbd).use ?_; (refine g0_ ?_; repeat ((first | refine n1_ fun b_ => ?_ | refine n2_ fun b_ => ?_ | refine Nat1.mk fun q_ hq_ => ?_ | refine em_ fun x_ hx_ => ?_ | refine Elem1.mk fun e_ he_ => ?_); refine g0_ ?_))
          (refine g1_ ?_; repeat ((first | refine n1_ fun b_ => ?_ | refine n2_ fun b_ => ?_ | refine Nat1.mk fun q_ hq_ => ?_ | refine em_ fun x_ hx_ => ?_ | refine Elem1.mk fun e_ he_ => ?_); refine g1_ ?_))
          (try (rw [hlm, htd]; (refine g0_ ?_; repeat ((first | refine n1_ fun b_ => ?_ | refine n2_ fun b_ => ?_ | refine Nat1.mk fun q_ hq_ => ?_ | refine em_ fun x_ hx_ => ?_ | refine Elem1.mk fun e_ he_ => ?_); refine g0_ ?_))))
          refine Draws10.chain ⟨15, [.new, .new, .new, .new, .new, .new, .turn, .skip, .skip, .skip, .skip, .skip, .skip, .skip, .skip], [(6, [.keep, .keep, .keep, .keep, .keep, .keep, .keep, .new, .new, .new, .new, .new, .new, .new, .new])], by decide +kernel, ?_⟩; (refine g0_ ?_; repeat ((first | refine n1_ fun b_ => ?_ | refine n2_ fun b_ => ?_ | refine Nat1.mk fun q_ hq_ => ?_ | refine em_ fun x_ hx_ => ?_ | refine Elem1.mk fun e_ he_ => ?_); refine g0_ ?_))
          refine ACalls.giveE ho1 ?_
          rintro bb -
          (refine g0_ ?_; repeat ((first | refine n1_ fun b_ => ?_ | refine n2_ fun b_ => ?_ | refine Nat1.mk fun q_ hq_ => ?_ | refine em_ fun x_ hx_ => ?_ | refine Elem1.mk fun e_ he_ => ?_); refine g0_ ?_))
          refine headL_ (head_ ?_); (refine g0_ ?_; repeat ((first | refine n1_ fun b_ => ?_ | refine n2_ fun b_ => ?_ | refine Nat1.mk fun q_ hq_ => ?_ | refine em_ fun x_ hx_ => ?_ | refine Elem1.mk fun e_ he_ => ?_); refine g0_ ?_))
          rw [hdt]
          refine ⟨_, (hs2).quiet, ?_⟩; (refine g0_ ?_; repeat ((first | refine n1_ fun b_ => ?_ | refine n2_ fun b_ => ?_ | refine Nat1.mk fun q_ hq_ => ?_ | refine em_ fun x_ hx_ => ?_ | refine Elem1.mk fun e_ he_ => ?_); refine g0_ ?_))
          (refine g1_ ?_; repeat ((first | refine n1_ fun b_ => ?_ | refine n2_ fun b_ => ?_ | refine Nat1.mk fun q_ hq_ => ?_ | refine em_ fun x_ hx_ => ?_ | refine Elem1.mk fun e_ he_ => ?_); refine g1_ ?_))
          (try refine need.mk (strs_all1 _) ?_)
          (refine g0_ ?_; repeat ((first | refine n1_ fun b_ => ?_ | refine n2_ fun b_ => ?_ | refine Nat1.mk fun q_ hq_ => ?_ | refine em_ fun x_ hx_ => ?_ | refine Elem1.mk fun e_ he_ => ?_); refine g0_ ?_))
          refine heq.borrow rfl rfl (fun j hj => ?_) ?_
          · match j, hj with
            | 0, _ => exact .refl _
            | 1, _ => exact .nils 1
          (refine g1_ ?_; repeat ((first | refine n1_ fun b_ => ?_ | refine n2_ fun b_ => ?_ | refine Nat1.mk fun q_ hq_ => ?_ | refine em_ fun x_ hx_ => ?_ | refine Elem1.mk fun e_ he_ => ?_); refine g1_ ?_))
          exact frz_bool (by simp)
        · have hlc : (List.map PV.str (d0 :: c2)).length = c2.length + 1 := by simp
          simp only [List.length_cons] at hk2
          (refine g0_ ?_; repeat ((first | refine n1_ fun b_ => ?_ | refine n2_ fun b_ => ?_ | refine Nat1.mk fun q_ hq_ => ?_ | refine em_ fun x_ hx_ => ?_ | refine Elem1.mk fun e_ he_ => ?_); refine g0_ ?_))
          refine (hs0).use ?_; (refine g0_ ?_; repeat ((first | refine n1_ fun b_ => ?_ | refine n2_ fun b_ => ?_ | refine Nat1.mk fun q_ hq_ => ?_ | refine em_ fun x_ hx_ => ?_ | refine Elem1.mk fun e_ he_ => ?_); refine g0_ ?_))
          (refine g0_ ?_; repeat ((first | refine n1_ fun b_ => ?_ | refine n2_ fun b_ => ?_ | refine Nat1.mk fun q_ hq_ => ?_ | refine em_ fun x_ hx_ => ?_ | refine Elem1.mk fun e_ he_ => ?_); refine g0_ ?_))
          refine (hbd).use ?_; (refine g0_ ?_; repeat ((first | refine n1_ fun b_ => ?_ | refine n2_ fun b_ => ?_ | refine Nat1.mk fun q_ hq_ => ?_ | refine em_ fun x_ hx_ => ?_ | refine Elem1.mk fun e_ he_ => ?_); refine g0_ ?_))
          (refine g1_ ?_; repeat ((first | refine n1_ fun b_ => ?_ | refine n2_ fun b_ => ?_ | refine Nat1.mk fun q_ hq_ => ?_ | refine em_ fun x_ hx_ => ?_ | refine Elem1.mk fun e_ he_ => ?_); refine g1_ ?_))
          (try (rw [hlm, htd]; (refine g0_ ?_; repeat ((first | refine n1_ fun b_ => ?_ | refine n2_ fun b_ => ?_ | refine Nat1.mk fun q_ hq_ => ?_ | refine em_ fun x_ hx_ => ?_ | refine Elem1.mk fun e_ he_ => ?_); refine g0_ ?_))))
          refine Draws10.chain ⟨15, [.new, .new, .new, .new, .new, .new, .turn, .skip, .skip, .skip, .skip, .skip, .skip, .skip, .skip], [(6, [.keep, .keep, .keep, .keep, .keep, .keep, .keep, .new, .new, .new, .new, .new, .new, .new, .new])], by decide +kernel, ?_⟩; (refine g0_ ?_; repeat ((first | refine n1_ fun b_ => ?_ | refine n2_ fun b_ => ?_ | refine Nat1.mk fun q_ hq_ => ?_ | refine em_ fun x_ hx_ => ?_ | refine Elem1.mk fun e_ he_ => ?_); refine g0_ ?_))
          refine ACalls.giveE ho1 ?_
          rintro bb -
          (refine g0_ ?_; repeat ((first | refine n1_ fun b_ => ?_ | refine n2_ fun b_ => ?_ | refine Nat1.mk fun q_ hq_ => ?_ | refine em_ fun x_ hx_ => ?_ | refine Elem1.mk fun e_ he_ => ?_); refine g0_ ?_))
          refine headL_ (head_ ?_); (refine g0_ ?_; repeat ((first | refine n1_ fun b_ => ?_ | refine n2_ fun b_ => ?_ | refine Nat1.mk fun q_ hq_ => ?_ | refine em_ fun x_ hx_ => ?_ | refine Elem1.mk fun e_ he_ => ?_); refine g0_ ?_))
          rw [hdt]
          refine ⟨_, (hs2).quiet, ?_⟩; (refine g0_ ?_; repeat ((first | refine n1_ fun b_ => ?_ | refine n2_ fun b_ => ?_ | refine Nat1.mk fun q_ hq_ => ?_ | refine em_ fun x_ hx_ => ?_ | refine Elem1.mk fun e_ he_ => ?_); refine g0_ ?_))
          (refine g1_ ?_; repeat ((first | refine n1_ fun b_ => ?_ | refine n2_ fun b_ => ?_ | refine Nat1.mk fun q_ hq_ => ?_ | refine em_ fun x_ hx_ => ?_ | refine Elem1.mk fun e_ he_ => ?_); refine g1_ ?_))
          (try refine need.mk (strs_all1 _) ?_)
          (refine g0_ ?_; repeat ((first | refine n1_ fun b_ => ?_ | refine n2_ fun b_ => ?_ | refine Nat1.mk fun q_ hq_ => ?_ | refine em_ fun x_ hx_ => ?_ | refine Elem1.mk fun e_ he_ => ?_); refine g0_ ?_))
          refine heq.borrow rfl rfl (fun j hj => ?_) ?_
          · match j, hj with
            | 0, _ => exact .refl _
            | 1, _ => exact frz_row (l := (d0 :: c2).map PV.str) (.here _ _ _) _ (by simp)
          (refine g1_ ?_; repeat ((first | refine n1_ fun b_ => ?_ | refine n2_ fun b_ => ?_ | refine Nat1.mk fun q_ hq_ => ?_ | refine em_ fun x_ hx_ => ?_ | refine Elem1.mk fun e_ he_ => ?_); refine g1_ ?_))
          exact frz_bool (by simp)
      · have hlc : (List.map PV.str c1).length = c1.length := List.length_map _
        have hap : List.map PV.str (c0 :: c1 ++ c2) = (PV.str c0 :: List.map PV.str c1) ++ List.map PV.str c2 := by rw [List.map_append]; rfl
        rw [hap] at heq hs0
        simp only [List.length_cons] at hk1
        rcases c2 with _ | ⟨d0, c2⟩
        · have hlc2 : (List.map PV.str ([] : List (List UInt8))).length = 0 := rfl
          (refine g0_ ?_; repeat ((first | refine n1_ fun b_ => ?_ | refine n2_ fun b_ => ?_ | refine Nat1.mk fun q_ hq_ => ?_ | refine em_ fun x_ hx_ => ?_ | refine Elem1.mk fun e_ he_ => ?_); refine g0_ ?_))
          refine (hs0).use ?_; (refine g0_ ?_; repeat ((first | refine n1_ fun b_ => ?_ | refine n2_ fun b_ => ?_ | refine Nat1.mk fun q_ hq_ => ?_ | refine em_ fun x_ hx_ => ?_ | refine Elem1.mk fun e_ he_ => ?_); refine g0_ ?_))
          (refine g0_ ?_; repeat ((first | refine n1_ fun b_ => ?_ | refine n2_ fun b_ => ?_ | refine Nat1.mk fun q_ hq_ => ?_ | refine em_ fun x_ hx_ => ?_ | refine Elem1.mk fun e_ he_ => ?_); refine g0_ ?_))
          refine (hbd).use ?_; (refine g0_ ?_; repeat ((first | refine n1_ fun b_ => ?_ | refine n2_ fun b_ => ?_ | refine Nat1.mk fun q_ hq_ => ?_ | refine em_ fun x_ hx_ => ?_ | refine Elem1.mk fun e_ he_ => ?_); refine g0_ ?_))
          (refine g1_ ?_; repeat ((first | refine n1_ fun b_ => ?_ | refine n2_ fun b_ => ?_ | refine Nat1.mk fun q_ hq_ => ?_ | refine em_ fun x_ hx_ => ?_ | refine Elem1.mk fun e_ he_ => ?_); refine g1_ ?_))
          (try (rw [hlm, htd]; (refine g0_ ?_; repeat ((first | refine n1_ fun b_ => ?_ | refine n2_ fun b_ => ?_ | refine Nat1.mk fun q_ hq_ => ?_ | refine em_ fun x_ hx_ => ?_ | refine Elem1.mk fun e_ he_ => ?_); refine g0_ ?_))))
          refine Draws10.chain ⟨15, [.new, .new, .new, .new, .new, .new, .turn, .skip, .skip, .skip, .skip, .skip, .skip, .skip, .skip], [(6, [.keep, .keep, .keep, .keep, .keep, .keep, .keep, .new, .new, .new, .new, .new, .new, .new, .new])], by decide +kernel, ?_⟩; (refine g0_ ?_; repeat ((first | refine n1_ fun b_ => ?_ | refine n2_ fun b_ => ?_ | refine Nat1.mk fun q_ hq_ => ?_ | refine em_ fun x_ hx_ => ?_ | refine Elem1.mk fun e_ he_ => ?_); refine g0_ ?_))
          refine ACalls.giveE ho1 ?_
          rintro bb -
          (refine g0_ ?_; repeat ((first | refine n1_ fun b_ => ?_ | refine n2_ fun b_ => ?_ | refine Nat1.mk fun q_ hq_ => ?_ | refine em_ fun x_ hx_ => ?_ | refine Elem1.mk fun e_ he_ => ?_); refine g0_ ?_))
          refine headL_ (head_ ?_); (refine g0_ ?_; repeat ((first | refine n1_ fun b_ => ?_ | refine n2_ fun b_ => ?_ | refine Nat1.mk fun q_ hq_ => ?_ | refine em_ fun x_ hx_ => ?_ | refine Elem1.mk fun e_ he_ => ?_); refine g0_ ?_))
          rw [hdt]
          refine ⟨_, (hs2).quiet, ?_⟩; (refine g0_ ?_; repeat ((first | refine n1_ fun b_ => ?_ | refine n2_ fun b_ => ?_ | refine Nat1.mk fun q_ hq_ => ?_ | refine em_ fun x_ hx_ => ?_ | refine Elem1.mk fun e_ he_ => ?_); refine g0_ ?_))
          (refine g1_ ?_; repeat ((first | refine n1_ fun b_ => ?_ | refine n2_ fun b_ => ?_ | refine Nat1.mk fun q_ hq_ => ?_ | refine em_ fun x_ hx_ => ?_ | refine Elem1.mk fun e_ he_ => ?_); refine g1_ ?_))
          (try refine need.mk (strs_all1 _) ?_)
          (refine g0_ ?_; repeat ((first | refine n1_ fun b_ => ?_ | refine n2_ fun b_ => ?_ | refine Nat1.mk fun q_ hq_ => ?_ | refine em_ fun x_ hx_ => ?_ | refine Elem1.mk fun e_ he_ => ?_); refine g0_ ?_))
          refine heq.borrow rfl rfl (fun j hj => ?_) ?_
          · match j, hj with
            | 0, _ => exact .refl _
            | 1, _ => exact frz_row (.here _ _ _) _ (rowSt0 _ _)
          (refine g1_ ?_; repeat ((first | refine n1_ fun b_ => ?_ | refine n2_ fun b_ => ?_ | refine Nat1.mk fun q_ hq_ => ?_ | refine em_ fun x_ hx_ => ?_ | refine Elem1.mk fun e_ he_ => ?_); refine g1_ ?_))
          exact frz_bool (by simp)
        · have hlc2 : (List.map PV.str (d0 :: c2)).length = c2.length + 1 := by simp
          simp only [List.length_cons] at hk2
          (refine g0_ ?_; repeat ((first | refine n1_ fun b_ => ?_ | refine n2_ fun b_ => ?_ | refine Nat1.mk fun q_ hq_ => ?_ | refine em_ fun x_ hx_ => ?_ | refine Elem1.mk fun e_ he_ => ?_); refine g0_ ?_))
          refine (hs0).use ?_; (refine g0_ ?_; repeat ((first | refine n1_ fun b_ => ?_ | refine n2_ fun b_ => ?_ | refine Nat1.mk fun q_ hq_ => ?_ | refine em_ fun x_ hx_ => ?_ | refine Elem1.mk fun e_ he_ => ?_); refine g0_ ?_))
          (refine g0_ ?_; repeat ((first | refine n1_ fun b_ => ?_ | refine n2_ fun b_ => ?_ | refine Nat1.mk fun q_ hq_ => ?_ | refine em_ fun x_ hx_ => ?_ | refine Elem1.mk fun e_ he_ => ?_); refine g0_ ?_))
          refine (hbd).use ?_; (refine g0_ ?_; repeat ((first | refine n1_ fun b_ => ?_ | refine n2_ fun b_ => ?_ | refine Nat1.mk fun q_ hq_ => ?_ | refine em_ fun x_ hx_ => ?_ | refine Elem1.mk fun e_ he_ => ?_); refine g0_ ?_))
          (refine g1_ ?_; repeat ((first | refine n1_ fun b_ => ?_ | refine n2_ fun b_ => ?_ | refine Nat1.mk fun q_ hq_ => ?_ | refine em_ fun x_ hx_ => ?_ | refine Elem1.mk fun e_ he_ => ?_); refine g1_ ?_))
          (try (rw [hlm, htd]; (refine g0_ ?_; repeat ((first | refine n1_ fun b_ => ?_ | refine n2_ fun b_ => ?_ | refine Nat1.mk fun q_ hq_ => ?_ | refine em_ fun x_ hx_ => ?_ | refine Elem1.mk fun e_ he_ => ?_); refine g0_ ?_))))
          refine Draws10.chain ⟨15, [.new, .new, .new, .new, .new, .new, .turn, .skip, .skip, .skip, .skip, .skip, .skip, .skip, .skip], [(6, [.keep, .keep, .keep, .keep, .keep, .keep, .keep, .new, .new, .new, .new, .new, .new, .new, .new])], by decide +kernel, ?_⟩; (refine g0_ ?_; repeat ((first | refine n1_ fun b_ => ?_ | refine n2_ fun b_ => ?_ | refine Nat1.mk fun q_ hq_ => ?_ | refine em_ fun x_ hx_ => ?_ | refine Elem1.mk fun e_ he_ => ?_); refine g0_ ?_))
          refine ACalls.giveE ho1 ?_
          rintro bb -
          (refine g0_ ?_; repeat ((first | refine n1_ fun b_ => ?_ | refine n2_ fun b_ => ?_ | refine Nat1.mk fun q_ hq_ => ?_ | refine em_ fun x_ hx_ => ?_ | refine Elem1.mk fun e_ he_ => ?_); refine g0_ ?_))
          refine headL_ (head_ ?_); (refine g0_ ?_; repeat ((first | refine n1_ fun b_ => ?_ | refine n2_ fun b_ => ?_ | refine Nat1.mk fun q_ hq_ => ?_ | refine em_ fun x_ hx_ => ?_ | refine Elem1.mk fun e_ he_ => ?_); refine g0_ ?_))
          rw [hdt]
          refine ⟨_, (hs2).quiet, ?_⟩; (refine g0_ ?_; repeat ((first | refine n1_ fun b_ => ?_ | refine n2_ fun b_ => ?_ | refine Nat1.mk fun q_ hq_ => ?_ | refine em_ fun x_ hx_ => ?_ | refine Elem1.mk fun e_ he_ => ?_); refine g0_ ?_))
          (refine g1_ ?_; repeat ((first | refine n1_ fun b_ => ?_ | refine n2_ fun b_ => ?_ | refine Nat1.mk fun q_ hq_ => ?_ | refine em_ fun x_ hx_ => ?_ | refine Elem1.mk fun e_ he_ => ?_); refine g1_ ?_))
          (try refine need.mk (strs_all1 _) ?_)
          (refine g0_ ?_; repeat ((first | refine n1_ fun b_ => ?_ | refine n2_ fun b_ => ?_ | refine Nat1.mk fun q_ hq_ => ?_ | refine em_ fun x_ hx_ => ?_ | refine Elem1.mk fun e_ he_ => ?_); refine g0_ ?_))
          refine heq.borrow rfl rfl (fun j hj => ?_) ?_
          · match j, hj with
            | 0, _ => exact .refl _
            | 1, _ => exact frz_row (.here _ _ _) _ (rowSt _ _ _)
          (refine g1_ ?_; repeat ((first | refine n1_ fun b_ => ?_ | refine n2_ fun b_ => ?_ | refine Nat1.mk fun q_ hq_ => ?_ | refine em_ fun x_ hx_ => ?_ | refine Elem1.mk fun e_ he_ => ?_); refine g1_ ?_))
          exact frz_bool (by simp)
    · subst g2
      rcases c1 with _ | ⟨c0, c1⟩
      · rcases c2 with _ | ⟨d0, c2⟩
        · (refine g0_ ?_; repeat ((first | refine n1_ fun b_ => ?_ | refine n2_ fun b_ => ?_ | refine Nat1.mk fun q_ hq_ => ?_ | refine em_ fun x_ hx_ => ?_ | refine Elem1.mk fun e_ he_ => ?_); refine g0_ ?_))
          refine (hs0).use ?_; (refine g0_ ?_; repeat ((first | refine n1_ fun b_ => ?_ | refine n2_ fun b_ => ?_ | refine Nat1.mk fun q_ hq_ => ?_ | refine em_ fun x_ hx_ => ?_ | refine Elem1.mk fun e_ he_ => ?_); refine g0_ ?_))
          (refine g0_ ?_; repeat ((first | refine n1_ fun b_ => ?_ | refine n2_ fun b_ => ?_ | refine Nat1.mk fun q_ hq_ => ?_ | refine em_ fun x_ hx_ => ?_ | refine Elem1.mk fun e_ he_ => ?_); refine g0_ ?_))
          refine (hbd).use ?_; (refine g0_ ?_; repeat ((first | refine n1_ fun b_ => ?_ | refine n2_ fun b_ => ?_ | refine Nat1.mk fun q_ hq_ => ?_ | refine em_ fun x_ hx_ => ?_ | refine Elem1.mk fun e_ he_ => ?_); refine g0_ ?_))
          (refine g1_ ?_; repeat ((first | refine n1_ fun b_ => ?_ | refine n2_ fun b_ => ?_ | refine Nat1.mk fun q_ hq_ => ?_ | refine em_ fun x_ hx_ => ?_ | refine Elem1.mk fun e_ he_ => ?_); refine g1_ ?_))
          (try (rw [hlm, htd]; (refine g0_ ?_; repeat ((first | refine n1_ fun b_ => ?_ | refine n2_ fun b_ => ?_ | refine Nat1.mk fun q_ hq_ => ?_ | refine em_ fun x_ hx_ => ?_ | refine Elem1.mk fun e_ he_ => ?_); refine g0_ ?_))))
          refine Draws10.chain ⟨15, [.new, .new, .new, .new, .new, .new, .turn, .skip, .skip, .skip, .skip, .skip, .skip, .skip, .skip], [(6, [.keep, .keep, .keep, .keep, .keep, .keep, .keep, .new, .new, .new, .new, .new, .new, .new, .new])], by decide +kernel, ?_⟩; (refine g0_ ?_; repeat ((first | refine n1_ fun b_ => ?_ | refine n2_ fun b_ => ?_ | refine Nat1.mk fun q_ hq_ => ?_ | refine em_ fun x_ hx_ => ?_ | refine Elem1.mk fun e_ he_ => ?_); refine g0_ ?_))
          refine ACalls.giveE ho1 ?_
          rintro bb -
          (refine g0_ ?_; repeat ((first | refine n1_ fun b_ => ?_ | refine n2_ fun b_ => ?_ | refine Nat1.mk fun q_ hq_ => ?_ | refine em_ fun x_ hx_ => ?_ | refine Elem1.mk fun e_ he_ => ?_); refine g0_ ?_))
          refine headL_ (head_ ?_); (refine g0_ ?_; repeat ((first | refine n1_ fun b_ => ?_ | refine n2_ fun b_ => ?_ | refine Nat1.mk fun q_ hq_ => ?_ | refine em_ fun x_ hx_ => ?_ | refine Elem1.mk fun e_ he_ => ?_); refine g0_ ?_))
          rw [hdt]
          refine ⟨_, (hs2).quiet, ?_⟩; (refine g0_ ?_; repeat ((first | refine n1_ fun b_ => ?_ | refine n2_ fun b_ => ?_ | refine Nat1.mk fun q_ hq_ => ?_ | refine em_ fun x_ hx_ => ?_ | refine Elem1.mk fun e_ he_ => ?_); refine g0_ ?_))
          (refine g1_ ?_; repeat ((first | refine n1_ fun b_ => ?_ | refine n2_ fun b_ => ?_ | refine Nat1.mk fun q_ hq_ => ?_ | refine em_ fun x_ hx_ => ?_ | refine Elem1.mk fun e_ he_ => ?_); refine g1_ ?_))
          (try refine need.mk (strs_all1 _) ?_)
          (refine g0_ ?_; repeat ((first | refine n1_ fun b_ => ?_ | refine n2_ fun b_ => ?_ | refine Nat1.mk fun q_ hq_ => ?_ | refine em_ fun x_ hx_ => ?_ | refine Elem1.mk fun e_ he_ => ?_); refine g0_ ?_))
          refine heq.borrow rfl rfl (fun j hj => ?_) ?_
          · match j, hj with
            | 0, _ => exact .refl _
            | 1, _ => exact .nils 1
          (refine g1_ ?_; repeat ((first | refine n1_ fun b_ => ?_ | refine n2_ fun b_ => ?_ | refine Nat1.mk fun q_ hq_ => ?_ | refine em_ fun x_ hx_ => ?_ | refine Elem1.mk fun e_ he_ => ?_); refine g1_ ?_))
          exact frz_bool (by simp)
        · have hlc : (List.map PV.str (d0 :: c2)).length = c2.length + 1 := by simp
          simp only [List.length_cons] at hk2
          (refine g0_ ?_; repeat ((first | refine n1_ fun b_ => ?_ | refine n2_ fun b_ => ?_ | refine Nat1.mk fun q_ hq_ => ?_ | refine em_ fun x_ hx_ => ?_ | refine Elem1.mk fun e_ he_ => ?_); refine g0_ ?_))
          refine (hs0).use ?_; (refine g0_ ?_; repeat ((first | refine n1_ fun b_ => ?_ | refine n2_ fun b_ => ?_ | refine Nat1.mk fun q_ hq_ => ?_ | refine em_ fun x_ hx_ => ?_ | refine Elem1.mk fun e_ he_ => ?_); refine g0_ ?_))
          (refine g0_ ?_; repeat ((first | refine n1_ fun b_ => ?_ | refine n2_ fun b_ => ?_ | refine Nat1.mk fun q_ hq_ => ?_ | refine em_ fun x_ hx_ => ?_ | refine Elem1.mk fun e_ he_ => ?_); refine g0_ ?_))
          refine (hbd).use ?_; (refine g0_ ?_; repeat ((first | refine n1_ fun b_ => ?_ | refine n2_ fun b_ => ?_ | refine Nat1.mk fun q_ hq_ => ?_ | refine em_ fun x_ hx_ => ?_ | refine Elem1.mk fun e_ he_ => ?_); refine g0_ ?_))
          (refine g1_ ?_; repeat ((first | refine n1_ fun b_ => ?_ | refine n2_ fun b_ => ?_ | refine Nat1.mk fun q_ hq_ => ?_ | refine em_ fun x_ hx_ => ?_ | refine Elem1.mk fun e_ he_ => ?_); refine g1_ ?_))
          (try (rw [hlm, htd]; (refine g0_ ?_; repeat ((first | refine n1_ fun b_ => ?_ | refine n2_ fun b_ => ?_ | refine Nat1.mk fun q_ hq_ => ?_ | refine em_ fun x_ hx_ => ?_ | refine Elem1.mk fun e_ he_ => ?_); refine g0_ ?_))))
          refine Draws10.chain ⟨15, [.new, .new, .new, .new, .new, .new, .turn, .skip, .skip, .skip, .skip, .skip, .skip, .skip, .skip], [(6, [.keep, .keep, .keep, .keep, .keep, .keep, .keep, .new, .new, .new, .new, .new, .new, .new, .new])], by decide +kernel, ?_⟩; (refine g0_ ?_; repeat ((first | refine n1_ fun b_ => ?_ | refine n2_ fun b_ => ?_ | refine Nat1.mk fun q_ hq_ => ?_ | refine em_ fun x_ hx_ => ?_ | refine Elem1.mk fun e_ he_ => ?_); refine g0_ ?_))
          refine ACalls.giveE ho1 ?_
          rintro bb -
          (refine g0_ ?_; repeat ((first | refine n1_ fun b_ => ?_ | refine n2_ fun b_ => ?_ | refine Nat1.mk fun q_ hq_ => ?_ | refine em_ fun x_ hx_ => ?_ | refine Elem1.mk fun e_ he_ => ?_); refine g0_ ?_))
          refine headL_ (head_ ?_); (refine g0_ ?_; repeat ((first | refine n1_ fun b_ => ?_ | refine n2_ fun b_ => ?_ | refine Nat1.mk fun q_ hq_ => ?_ | refine em_ fun x_ hx_ => ?_ | refine Elem1.mk fun e_ he_ => ?_); refine g0_ ?_))
          rw [hdt]
          refine ⟨_, (hs2).quiet, ?_⟩; (refine g0_ ?_; repeat ((first | refine n1_ fun b_ => ?_ | refine n2_ fun b_ => ?_ | refine Nat1.mk fun q_ hq_ => ?_ | refine em_ fun x_ hx_ => ?_ | refine Elem1.mk fun e_ he_ => ?_); refine g0_ ?_))
          (refine g1_ ?_; repeat ((first | refine n1_ fun b_ => ?_ | refine n2_ fun b_ => ?_ | refine Nat1.mk fun q_ hq_ => ?_ | refine em_ fun x_ hx_ => ?_ | refine Elem1.mk fun e_ he_ => ?_); refine g1_ ?_))
          (try refine need.mk (strs_all1 _) ?_)
          (refine g0_ ?_; repeat ((first | refine n1_ fun b_ => ?_ | refine n2_ fun b_ => ?_ | refine Nat1.mk fun q_ hq_ => ?_ | refine em_ fun x_ hx_ => ?_ | refine Elem1.mk fun e_ he_ => ?_); refine g0_ ?_))
          refine heq.borrow rfl rfl (fun j hj => ?_) ?_
          · match j, hj with
            | 0, _ => exact .refl _
            | 1, _ => exact frz_row (l := (d0 :: c2).map PV.str) (.here _ _ _) _ (by simp)
          (refine g1_ ?_; repeat ((first | refine n1_ fun b_ => ?_ | refine n2_ fun b_ => ?_ | refine Nat1.mk fun q_ hq_ => ?_ | refine em_ fun x_ hx_ => ?_ | refine Elem1.mk fun e_ he_ => ?_); refine g1_ ?_))
          exact frz_bool (by simp)
      · have hlc : (List.map PV.str c1).length = c1.length := List.length_map _
        have hap : List.map PV.str (c0 :: c1 ++ c2) = (PV.str c0 :: List.map PV.str c1) ++ List.map PV.str c2 := by rw [List.map_append]; rfl
        rw [hap] at heq hs0
        simp only [List.length_cons] at hk1
        rcases c2 with _ | ⟨d0, c2⟩
        · have hlc2 : (List.map PV.str ([] : List (List UInt8))).length = 0 := rfl
          (refine g0_ ?_; repeat ((first | refine n1_ fun b_ => ?_ | refine n2_ fun b_ => ?_ | refine Nat1.mk fun q_ hq_ => ?_ | refine em_ fun x_ hx_ => ?_ | refine Elem1.mk fun e_ he_ => ?_); refine g0_ ?_))
          refine (hs0).use ?_; (refine g0_ ?_; repeat ((first | refine n1_ fun b_ => ?_ | refine n2_ fun b_ => ?_ | refine Nat1.mk fun q_ hq_ => ?_ | refine em_ fun x_ hx_ => ?_ | refine Elem1.mk fun e_ he_ => ?_); refine g0_ ?_))
          (refine g0_ ?_; repeat ((first | refine n1_ fun b_ => ?_ | refine n2_ fun b_ => ?_ | refine Nat1.mk fun q_ hq_ => ?_ | refine em_ fun x_ hx_ => ?_ | refine Elem1.mk fun e_ he_ => ?_); refine g0_ ?_))
          refine (hbd).use ?_; (refine g0_ ?_; repeat ((first | refine n1_ fun b_ => ?_ | refine n2_ fun b_ => ?_ | refine Nat1.mk fun q_ hq_ => ?_ | refine em_ fun x_ hx_ => ?_ | refine Elem1.mk fun e_ he_ => ?_); refine g0_ ?_))
          (refine g1_ ?_; repeat ((first | refine n1_ fun b_ => ?_ | refine n2_ fun b_ => ?_ | refine Nat1.mk fun q_ hq_ => ?_ | refine em_ fun x_ hx_ => ?_ | refine Elem1.mk fun e_ he_ => ?_); refine g1_ ?_))
          (try (rw [hlm, htd]; (refine g0_ ?_; repeat ((first | refine n1_ fun b_ => ?_ | refine n2_ fun b_ => ?_ | refine Nat1.mk fun q_ hq_ => ?_ | refine em_ fun x_ hx_ => ?_ | refine Elem1.mk fun e_ he_ => ?_); refine g0_ ?_))))
          refine Draws10.chain ⟨15, [.new, .new, .new, .new, .new, .new, .turn, .skip, .skip, .skip, .skip, .skip, .skip, .skip, .skip], [(6, [.keep, .keep, .keep, .keep, .keep, .keep, .keep, .new, .new, .new, .new, .new, .new, .new, .new])], by decide +kernel, ?_⟩; (refine g0_ ?_; repeat ((first | refine n1_ fun b_ => ?_ | refine n2_ fun b_ => ?_ | refine Nat1.mk fun q_ hq_ => ?_ | refine em_ fun x_ hx_ => ?_ | refine Elem1.mk fun e_ he_ => ?_); refine g0_ ?_))
          refine ACalls.giveE ho1 ?_
          rintro bb -
          (refine g0_ ?_; repeat ((first | refine n1_ fun b_ => ?_ | refine n2_ fun b_ => ?_ | refine Nat1.mk fun q_ hq_ => ?_ | refine em_ fun x_ hx_ => ?_ | refine Elem1.mk fun e_ he_ => ?_); refine g0_ ?_))
          refine headL_ (head_ ?_); (refine g0_ ?_; repeat ((first | refine n1_ fun b_ => ?_ | refine n2_ fun b_ => ?_ | refine Nat1.mk fun q_ hq_ => ?_ | refine em_ fun x_ hx_ => ?_ | refine Elem1.mk fun e_ he_ => ?_); refine g0_ ?_))
          rw [hdt]
          refine ⟨_, (hs2).quiet, ?_⟩; (refine g0_ ?_; repeat ((first | refine n1_ fun b_ => ?_ | refine n2_ fun b_ => ?_ | refine Nat1.mk fun q_ hq_ => ?_ | refine em_ fun x_ hx_ => ?_ | refine Elem1.mk fun e_ he_ => ?_); refine g0_ ?_))
          (refine g1_ ?_; repeat ((first | refine n1_ fun b_ => ?_ | refine n2_ fun b_ => ?_ | refine Nat1.mk fun q_ hq_ => ?_ | refine em_ fun x_ hx_ => ?_ | refine Elem1.mk fun e_ he_ => ?_); refine g1_ ?_))
          (try refine need.mk (strs_all1 _) ?_)
          (refine g0_ ?_; repeat ((first | refine n1_ fun b_ => ?_ | refine n2_ fun b_ => ?_ | refine Nat1.mk fun q_ hq_ => ?_ | refine em_ fun x_ hx_ => ?_ | refine Elem1.mk fun e_ he_ => ?_); refine g0_ ?_))
          refine heq.borrow rfl rfl (fun j hj => ?_) ?_
          · match j, hj with
            | 0, _ => exact .refl _
            | 1, _ => exact frz_row (.here _ _ _) _ (rowSt0 _ _)
          (refine g1_ ?_; repeat ((first | refine n1_ fun b_ => ?_ | refine n2_ fun b_ => ?_ | refine Nat1.mk fun q_ hq_ => ?_ | refine em_ fun x_ hx_ => ?_ | refine Elem1.mk fun e_ he_ => ?_); refine g1_ ?_))
          exact frz_bool (by simp)
        · have hlc2 : (List.map PV.str (d0 :: c2)).length = c2.length + 1 := by simp
          simp only [List.length_cons] at hk2
          (refine g0_ ?_; repeat ((first | refine n1_ fun b_ => ?_ | refine n2_ fun b_ => ?_ | refine Nat1.mk fun q_ hq_ => ?_ | refine em_ fun x_ hx_ => ?_ | refine Elem1.mk fun e_ he_ => ?_); refine g0_ ?_))
          refine (hs0).use ?_; (refine g0_ ?_; repeat ((first | refine n1_ fun b_ => ?_ | refine n2_ fun b_ => ?_ | refine Nat1.mk fun q_ hq_ => ?_ | refine em_ fun x_ hx_ => ?_ | refine Elem1.mk fun e_ he_ => ?_); refine g0_ ?_))
          (refine g0_ ?_; repeat ((first | refine n1_ fun b_ => ?_ | refine n2_ fun b_ => ?_ | refine Nat1.mk fun q_ hq_ => ?_ | refine em_ fun x_ hx_ => ?_ | refine Elem1.mk fun e_ he_ => ?_); refine g0_ ?_))
          refine (hbd).use ?_; (refine g0_ ?_; repeat ((first | refine n1_ fun b_ => ?_ | refine n2_ fun b_ => ?_ | refine Nat1.mk fun q_ hq_ => ?_ | refine em_ fun x_ hx_ => ?_ | refine Elem1.mk fun e_ he_ => ?_); refine g0_ ?_))
          (refine g1_ ?_; repeat ((first | refine n1_ fun b_ => ?_ | refine n2_ fun b_ => ?_ | refine Nat1.mk fun q_ hq_ => ?_ | refine em_ fun x_ hx_ => ?_ | refine Elem1.mk fun e_ he_ => ?_); refine g1_ ?_))
          (try (rw [hlm, htd]; (refine g0_ ?_; repeat ((first | refine n1_ fun b_ => ?_ | refine n2_ fun b_ => ?_ | refine Nat1.mk fun q_ hq_ => ?_ | refine em_ fun x_ hx_ => ?_ | refine Elem1.mk fun e_ he_ => ?_); refine g0_ ?_))))
          refine Draws10.chain ⟨15, [.new, .new, .new, .new, .new, .new, .turn, .skip, .skip, .skip, .skip, .skip, .skip, .skip, .skip], [(6, [.keep, .keep, .keep, .keep, .keep, .keep, .keep, .new, .new, .new, .new, .new, .new, .new, .new])], by decide +kernel, ?_⟩; (refine g0_ ?_; repeat ((first | refine n1_ fun b_ => ?_ | refine n2_ fun b_ => ?_ | refine Nat1.mk fun q_ hq_ => ?_ | refine em_ fun x_ hx_ => ?_ | refine Elem1.mk fun e_ he_ => ?_); refine g0_ ?_))
          refine ACalls.giveE ho1 ?_
          rintro bb -
          (refine g0_ ?_; repeat ((first | refine n1_ fun b_ => ?_ | refine n2_ fun b_ => ?_ | refine Nat1.mk fun q_ hq_ => ?_ | refine em_ fun x_ hx_ => ?_ | refine Elem1.mk fun e_ he_ => ?_); refine g0_ ?_))
          refine headL_ (head_ ?_); (refine g0_ ?_; repeat ((first | refine n1_ fun b_ => ?_ | refine n2_ fun b_ => ?_ | refine Nat1.mk fun q_ hq_ => ?_ | refine em_ fun x_ hx_ => ?_ | refine Elem1.mk fun e_ he_ => ?_); refine g0_ ?_))
          rw [hdt]
          refine ⟨_, (hs2).quiet, ?_⟩; (refine g0_ ?_; repeat ((first | refine n1_ fun b_ => ?_ | refine n2_ fun b_ => ?_ | refine Nat1.mk fun q_ hq_ => ?_ | refine em_ fun x_ hx_ => ?_ | refine Elem1.mk fun e_ he_ => ?_); refine g0_ ?_))
          (refine g1_ ?_; repeat ((first | refine n1_ fun b_ => ?_ | refine n2_ fun b_ => ?_ | refine Nat1.mk fun q_ hq_ => ?_ | refine em_ fun x_ hx_ => ?_ | refine Elem1.mk fun e_ he_ => ?_); refine g1_ ?_))
          (try refine need.mk (strs_all1 _) ?_)
          (refine g0_ ?_; repeat ((first | refine n1_ fun b_ => ?_ | refine n2_ fun b_ => ?_ | refine Nat1.mk fun q_ hq_ => ?_ | refine em_ fun x_ hx_ => ?_ | refine Elem1.mk fun e_ he_ => ?_); refine g0_ ?_))
          refine heq.borrow rfl rfl (fun j hj => ?_) ?_
          · match j, hj with
            | 0, _ => exact .refl _
            | 1, _ => exact frz_row (.here _ _ _) _ (rowSt _ _ _)
          (refine g1_ ?_; repeat ((first | refine n1_ fun b_ => ?_ | refine n2_ fun b_ => ?_ | refine Nat1.mk fun q_ hq_ => ?_ | refine em_ fun x_ hx_ => ?_ | refine Elem1.mk fun e_ he_ => ?_); refine g1_ ?_))
          exact frz_bool (by simp)
  · clear hz
    (refine g0_ ?_; repeat ((first | refine n1_ fun b_ => ?_ | refine n2_ fun b_ => ?_ | refine Nat1.mk fun q_ hq_ => ?_ | refine em_ fun x_ hx_ => ?_ | refine Elem1.mk fun e_ he_ => ?_); refine g0_ ?_))
    refine (hs0).use ?_; (refine g0_ ?_; repeat ((first | refine n1_ fun b_ => ?_ | refine n2_ fun b_ => ?_ | refine Nat1.mk fun q_ hq_ => ?_ | refine em_ fun x_ hx_ => ?_ | refine Elem1.mk fun e_ he_ => ?_); refine g0_ ?_))
    (refine g0_ ?_; repeat ((first | refine n1_ fun b_ => ?_ | refine n2_ fun b_ => ?_ | refine Nat1.mk fun q_ hq_ => ?_ | refine em_ fun x_ hx_ => ?_ | refine Elem1.mk fun e_ he_ => ?_); refine g0_ ?_))
    refine (hbd).use ?_; (refine g0_ ?_; repeat ((first | refine n1_ fun b_ => ?_ | refine n2_ fun b_ => ?_ | refine Nat1.mk fun q_ hq_ => ?_ | refine em_ fun x_ hx_ => ?_ | refine Elem1.mk fun e_ he_ => ?_); refine g0_ ?_))
    (refine g1_ ?_; repeat ((first | refine n1_ fun b_ => ?_ | refine n2_ fun b_ => ?_ | refine Nat1.mk fun q_ hq_ => ?_ | refine em_ fun x_ hx_ => ?_ | refine Elem1.mk fun e_ he_ => ?_); refine g1_ ?_))
    refine (hbd).use ?_; (refine g0_ ?_; repeat ((first | refine n1_ fun b_ => ?_ | refine n2_ fun b_ => ?_ | refine Nat1.mk fun q_ hq_ => ?_ | refine em_ fun x_ hx_ => ?_ | refine Elem1.mk fun e_ he_ => ?_); refine g0_ ?_))
    (refine g1_ ?_; repeat ((first | refine n1_ fun b_ => ?_ | refine n2_ fun b_ => ?_ | refine Nat1.mk fun q_ hq_ => ?_ | refine em_ fun x_ hx_ => ?_ | refine Elem1.mk fun e_ he_ => ?_); refine g1_ ?_))
    exact .refl _
end Go.Eng.YtecafnhnkklboaaDoor
end
