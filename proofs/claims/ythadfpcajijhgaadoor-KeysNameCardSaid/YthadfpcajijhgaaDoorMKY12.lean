/- Texts put together: Key18. -/
import Derived.Test.YthadfpcajijhgaaDoorMKY11
/- The law KeysName (b_ x_ q_ e_). -/
section
namespace Go.Eng.YthadfpcajijhgaaDoor
open Go Go.Eng Go.Proofs Go.Maps
variable (W : World)
set_option linter.unusedSimpArgs false
set_option maxRecDepth 100000
set_option linter.unusedVariables false
set_option maxHeartbeats 8000000
theorem keyOk_of {kind r n held : Int} (h1 : 0 ≤ kind ∧ kind ≤ 100) (h2 : -2147483648 ≤ r ∧ r ≤ 2147483647) (h3 : 0 ≤ n ∧ n ≤ 100) (h4 : 0 ≤ held ∧ held ≤ 100) : Key.ok ⟨kind, r, n, held⟩ := by
  unfold Key.ok i64ok i32ok
  dsimp only
  omega
theorem dec_topN (s : List UInt8) : (dec s).1 ≤ 1114111 := by
  by_cases h : s = []
  · subst h; decide +kernel
  · rw [dec_P h]
    unfold Lib.decodeN
    (repeat' split) <;> dsimp only <;> omega
theorem keysName_ok (hK : Keyz W ∧ SpaceT W) (hM : MaxJ W) (k : Key) (hok : k.ok) (s : List UInt8) (hs : s.length ≤ 140737488355328) : Pure Tryd.prog W 5 [encKey k, .str s] (.bool true) := by
  obtain ⟨⟨hT, hN, hE⟩, hS⟩ := hK
  have hst := struck_ok W hT hM hE hN
  have hikk := isKeyR_ok W hN k hok
  have hnm := named_ok W hT hN hE s hs
  obtain ⟨NM, NE, hn, hcase⟩ : ∃ (N : List UInt8) (E : Int), Pure Tryd.prog W 14 [encKey k] (.tup [.str N, .int .i64 E]) ∧ ((isKey k ∧ N = nameK k ∧ E = 0) ∨ (¬ isKey k ∧ N = [] ∧ E = 5)) := by
    by_cases hk : isKey k
    · exact ⟨_, _, name_ok W hN k hk, .inl ⟨hk, rfl, rfl⟩⟩
    · exact ⟨_, _, name_bad W k hk, .inr ⟨hk, rfl, rfl⟩⟩
  have hne : (namedK s).2 ≠ 0 → ∀ y, isKey y → nameK y ≠ s := fun h y hy => named_none h y hy
  have hback : ∀ x, namedK s = (x, 0) → isKey x ∧ nameK x = s := named_back s
  have hsnd := named_snd s
  generalize namedK s = Z at *
  obtain ⟨x, f⟩ := Z
  dsimp only at hnm hne hsnd
  have hkn : isKey k → Pure Tryd.prog W 16 [encKey k] (.str (nameK k)) := fun hk => keyName_ok W hN hS k hk
  obtain ⟨kind, r, n, held⟩ := k
  unfold encKey at hikk hn hnm hkn ⊢
  dsimp only at hikk hn hnm hkn ⊢
  clear hok
  refine Pure.of (acalls_of_vc (drawOk W) Tryd.func5 rfl (by decide) (by decide) rfl ?_)
  (refine g0_ ?_; repeat ((first | refine n1_ fun b_ => ?_ | refine n2_ fun b_ => ?_ | refine Nat1.mk fun q_ hq_ => ?_ | refine em_ fun x_ hx_ => ?_ | refine Elem1.mk fun e_ he_ => ?_); refine g0_ ?_))
  refine (hn).use ?_; (refine g0_ ?_; repeat ((first | refine n1_ fun b_ => ?_ | refine n2_ fun b_ => ?_ | refine Nat1.mk fun q_ hq_ => ?_ | refine em_ fun x_ hx_ => ?_ | refine Elem1.mk fun e_ he_ => ?_); refine g0_ ?_))
  (refine g0_ ?_; repeat ((first | refine n1_ fun b_ => ?_ | refine n2_ fun b_ => ?_ | refine Nat1.mk fun q_ hq_ => ?_ | refine em_ fun x_ hx_ => ?_ | refine Elem1.mk fun e_ he_ => ?_); refine g0_ ?_))
  refine (hnm).use ?_; (refine g0_ ?_; repeat ((first | refine n1_ fun b_ => ?_ | refine n2_ fun b_ => ?_ | refine Nat1.mk fun q_ hq_ => ?_ | refine em_ fun x_ hx_ => ?_ | refine Elem1.mk fun e_ he_ => ?_); refine g0_ ?_))
  (refine g0_ ?_; repeat ((first | refine n1_ fun b_ => ?_ | refine n2_ fun b_ => ?_ | refine Nat1.mk fun q_ hq_ => ?_ | refine em_ fun x_ hx_ => ?_ | refine Elem1.mk fun e_ he_ => ?_); refine g0_ ?_))
  refine (hst).use ?_; (refine g0_ ?_; repeat ((first | refine n1_ fun b_ => ?_ | refine n2_ fun b_ => ?_ | refine Nat1.mk fun q_ hq_ => ?_ | refine em_ fun x_ hx_ => ?_ | refine Elem1.mk fun e_ he_ => ?_); refine g0_ ?_))
  (refine g0_ ?_; repeat ((first | refine n1_ fun b_ => ?_ | refine n2_ fun b_ => ?_ | refine Nat1.mk fun q_ hq_ => ?_ | refine em_ fun x_ hx_ => ?_ | refine Elem1.mk fun e_ he_ => ?_); refine g0_ ?_))
  refine hikk.use ?_
  (refine gj_ ?_; repeat ((first | refine n1_ fun b_ => ?_ | refine n2_ fun b_ => ?_ | refine Nat1.mk fun q_ hq_ => ?_ | refine em_ fun x_ hx_ => ?_ | refine Elem1.mk fun e_ he_ => ?_); refine gj_ ?_))
  rename_i bk
  first | refine' joinT (α := Unit) (fun u => []) [(1, _), (7, _), (8, _)] (fun u => [⟨b_, .row 4 [.agg [.int .i64 x.kind, .int .i32 x.r, .int .i64 x.n, .int .i64 x.held]] 0⟩, ⟨bk, .row 4 [.agg [.int .i64 kind, .int .i32 r, .int .i64 n, .int .i64 held]] 0⟩]) (fun u => True) ?_ ?_ | refine' joinF (α := Unit) (fun u => []) [(1, _), (7, _), (8, _)] (fun u => [⟨b_, .row 4 [.agg [.int .i64 x.kind, .int .i32 x.r, .int .i64 x.n, .int .i64 x.held]] 0⟩, ⟨bk, .row 4 [.agg [.int .i64 kind, .int .i32 r, .int .i64 n, .int .i64 held]] 0⟩]) (fun u => True) ?_ ?_
  · rcases hcase with ⟨hk, hN1, hE1⟩ | ⟨hk, hN1, hE1⟩
    · have hkn' := hkn hk
      rw [decide_eq_true hk]
      rw [← hN1] at hkn'
      (refine g1_ ?_; repeat ((first | refine n1_ fun b_ => ?_ | refine n2_ fun b_ => ?_ | refine Nat1.mk fun q_ hq_ => ?_ | refine em_ fun x_ hx_ => ?_ | refine Elem1.mk fun e_ he_ => ?_); refine g1_ ?_))
      refine (hkn').use ?_; (refine g0_ ?_; repeat ((first | refine n1_ fun b_ => ?_ | refine n2_ fun b_ => ?_ | refine Nat1.mk fun q_ hq_ => ?_ | refine em_ fun x_ hx_ => ?_ | refine Elem1.mk fun e_ he_ => ?_); refine g0_ ?_))
      (refine g1_ ?_; repeat ((first | refine n1_ fun b_ => ?_ | refine n2_ fun b_ => ?_ | refine Nat1.mk fun q_ hq_ => ?_ | refine em_ fun x_ hx_ => ?_ | refine Elem1.mk fun e_ he_ => ?_); refine g1_ ?_))
      refine jx_ () ?_
      trivial
    · rw [decide_eq_false hk]
      (refine g1_ ?_; repeat ((first | refine n1_ fun b_ => ?_ | refine n2_ fun b_ => ?_ | refine Nat1.mk fun q_ hq_ => ?_ | refine em_ fun x_ hx_ => ?_ | refine Elem1.mk fun e_ he_ => ?_); refine g1_ ?_))
      refine jx_ () ?_
      trivial
  rintro - -
  clear hikk hn hkn hcase
  by_cases hf : f = 0
  · subst hf
    obtain ⟨hx, hxn⟩ := hback x rfl
    have hik := isKeyR_ok W hN x (key_fits hx)
    have hkx := keyName_ok W hN hS x hx
    rw [decide_eq_true hx] at hik
    rw [hxn] at hkx
    obtain ⟨xk, xr, xn, xh⟩ := x
    unfold encKey at hik hkx
    dsimp only at hik hkx
    (refine g1_ ?_; repeat ((first | refine n1_ fun b_ => ?_ | refine n2_ fun b_ => ?_ | refine Nat1.mk fun q_ hq_ => ?_ | refine em_ fun x_ hx_ => ?_ | refine Elem1.mk fun e_ he_ => ?_); refine g1_ ?_))
    refine (hik).use ?_; (refine g0_ ?_; repeat ((first | refine n1_ fun b_ => ?_ | refine n2_ fun b_ => ?_ | refine Nat1.mk fun q_ hq_ => ?_ | refine em_ fun x_ hx_ => ?_ | refine Elem1.mk fun e_ he_ => ?_); refine g0_ ?_))
    (refine g1_ ?_; repeat ((first | refine n1_ fun b_ => ?_ | refine n2_ fun b_ => ?_ | refine Nat1.mk fun q_ hq_ => ?_ | refine em_ fun x_ hx_ => ?_ | refine Elem1.mk fun e_ he_ => ?_); refine g1_ ?_))
    refine (hkx).use ?_; (refine g0_ ?_; repeat ((first | refine n1_ fun b_ => ?_ | refine n2_ fun b_ => ?_ | refine Nat1.mk fun q_ hq_ => ?_ | refine em_ fun x_ hx_ => ?_ | refine Elem1.mk fun e_ he_ => ?_); refine g0_ ?_))
    (refine g1_ ?_; repeat ((first | refine n1_ fun b_ => ?_ | refine n2_ fun b_ => ?_ | refine Nat1.mk fun q_ hq_ => ?_ | refine em_ fun x_ hx_ => ?_ | refine Elem1.mk fun e_ he_ => ?_); refine g1_ ?_))
    exact frz_bool (decide_eq_true rfl)
  · have hf2 : f = 1 ∧ x = keyZ := by
      rcases hsnd with h | h
      · exact absurd h hf
      · cases h
        exact ⟨rfl, rfl⟩
    obtain ⟨rfl, rfl⟩ := hf2
    have hno := hne (by decide)
    clear hne hsnd hback hnm
    have hzo : keyZ.ok := by unfold Key.ok i64ok i32ok keyZ; decide
    (refine g1_ ?_; repeat ((first | refine n1_ fun b_ => ?_ | refine n2_ fun b_ => ?_ | refine Nat1.mk fun q_ hq_ => ?_ | refine em_ fun x_ hx_ => ?_ | refine Elem1.mk fun e_ he_ => ?_); refine g1_ ?_))
    refine ⟨_, neq_key keyZ keyZ hzo hzo _ _, ?_⟩
    rw [decide_eq_true rfl]
    (refine g1_ ?_; repeat ((first | refine n1_ fun b_ => ?_ | refine n2_ fun b_ => ?_ | refine Nat1.mk fun q_ hq_ => ?_ | refine em_ fun x_ hx_ => ?_ | refine Elem1.mk fun e_ he_ => ?_); refine g1_ ?_))
    refine' loopI (α := Nat) (fun i => [(62, .int .i64 i)]) [(1, _)] (fun i => []) (fun i => i ≤ 8) (fun i => 8 - i) 0 ?_ ?_
    · exact Nat.zero_le 8
    rintro i hi
    by_cases h8 : i = 8
    · subst h8
      (refine g1_ ?_; repeat ((first | refine n1_ fun b_ => ?_ | refine n2_ fun b_ => ?_ | refine Nat1.mk fun q_ hq_ => ?_ | refine em_ fun x_ hx_ => ?_ | refine Elem1.mk fun e_ he_ => ?_); refine g1_ ?_))
      exact .refl _
    · (refine g1_ ?_; repeat ((first | refine n1_ fun b_ => ?_ | refine n2_ fun b_ => ?_ | refine Nat1.mk fun q_ hq_ => ?_ | refine em_ fun x_ hx_ => ?_ | refine Elem1.mk fun e_ he_ => ?_); refine g1_ ?_))
      refine' loopI (α := Nat) (fun q => [(10, .int .i64 q)]) [(1, _), (9, _), (62, _)] (fun q => []) (fun q => 2 ≤ q ∧ q ≤ 16) (fun q => 16 - q) 2 ?_ ?_
      · exact ⟨by decide, by decide⟩
      rintro q ⟨hq1, hq2⟩
      by_cases h16 : q = 16
      · subst h16
        (refine g1_ ?_; repeat ((first | refine n1_ fun b_ => ?_ | refine n2_ fun b_ => ?_ | refine Nat1.mk fun q_ hq_ => ?_ | refine em_ fun x_ hx_ => ?_ | refine Elem1.mk fun e_ he_ => ?_); refine g1_ ?_))
        refine' loopI (α := Nat) (fun pos => []) [(1, _), (9, _), (62, _), (87, _)] (fun pos => [⟨b_, .iter (s ++ [32]) pos⟩]) (fun pos => pos ≤ s.length + 1) (fun pos => s.length + 1 - pos) 0 ?_ ?_
        · exact Nat.zero_le _
        rintro pos hpos
        have hsl : (s ++ [32]).length = s.length + 1 := by simp
        (refine g0_ ?_; repeat ((first | refine n1_ fun b_ => ?_ | refine n2_ fun b_ => ?_ | refine Nat1.mk fun q_ hq_ => ?_ | refine em_ fun x_ hx_ => ?_ | refine Elem1.mk fun e_ he_ => ?_); refine g0_ ?_))
        refine IterAt.mk _ _ _ (by repeat (first | exact .here _ _ _ | apply Look.there)) (fun h => ?_) (fun h => ?_)
        · have hnil : (s ++ [32]).drop pos ≠ [] := fun e => by have := congrArg List.length e; rw [List.length_drop, List.length_nil] at this; omega
          have hd := dec_le ((s ++ [32]).drop pos)
          have hp := dec_pos ((s ++ [32]).drop pos) hnil
          have htp := dec_topN ((s ++ [32]).drop pos)
          rw [List.length_drop] at hd
          (refine g0_ ?_; repeat ((first | refine n1_ fun b_ => ?_ | refine n2_ fun b_ => ?_ | refine Nat1.mk fun q_ hq_ => ?_ | refine em_ fun x_ hx_ => ?_ | refine Elem1.mk fun e_ he_ => ?_); refine g0_ ?_))
          rw [decode_drop (s ++ [32]) pos h]
          generalize dec ((s ++ [32]).drop pos) = D at *
          obtain ⟨dr, dn⟩ := D
          dsimp only at *
          have hyo : Key.ok ⟨1, dr, 0, i⟩ := keyOk_of (by omega) (by omega) (by omega) (by omega)
          have hik := isKeyR_ok W hN ⟨1, dr, 0, i⟩ hyo
          unfold encKey at hik
          dsimp only at hik
          by_cases hy : isKey ⟨1, dr, 0, i⟩
          · have hky := keyName_ok W hN hS ⟨1, dr, 0, i⟩ hy
            have hny := hno _ hy
            rw [decide_eq_true hy] at hik
            generalize nameK ⟨1, dr, 0, i⟩ = ny at *
            unfold encKey at hky
            dsimp only at hky
            refine (hik).use ?_; (refine g0_ ?_; repeat ((first | refine n1_ fun b_ => ?_ | refine n2_ fun b_ => ?_ | refine Nat1.mk fun q_ hq_ => ?_ | refine em_ fun x_ hx_ => ?_ | refine Elem1.mk fun e_ he_ => ?_); refine g0_ ?_))
            (refine g1_ ?_; repeat ((first | refine n1_ fun b_ => ?_ | refine n2_ fun b_ => ?_ | refine Nat1.mk fun q_ hq_ => ?_ | refine em_ fun x_ hx_ => ?_ | refine Elem1.mk fun e_ he_ => ?_); refine g1_ ?_))
            refine (hky).use ?_; (refine g0_ ?_; repeat ((first | refine n1_ fun b_ => ?_ | refine n2_ fun b_ => ?_ | refine Nat1.mk fun q_ hq_ => ?_ | refine em_ fun x_ hx_ => ?_ | refine Elem1.mk fun e_ he_ => ?_); refine g0_ ?_))
            (refine g1_ ?_; repeat ((first | refine n1_ fun b_ => ?_ | refine n2_ fun b_ => ?_ | refine Nat1.mk fun q_ hq_ => ?_ | refine em_ fun x_ hx_ => ?_ | refine Elem1.mk fun e_ he_ => ?_); refine g1_ ?_))
            refine nx_ (pos + dn) ?_ ?_
            · exact (by omega : pos + dn ≤ s.length + 1)
            · ((try dsimp only); (try simp only [List.length_drop, List.length_take, List.length_append, List.length_cons, List.length_nil, List.length_map] at *); omega)
          · rw [decide_eq_false hy] at hik
            refine (hik).use ?_; (refine g0_ ?_; repeat ((first | refine n1_ fun b_ => ?_ | refine n2_ fun b_ => ?_ | refine Nat1.mk fun q_ hq_ => ?_ | refine em_ fun x_ hx_ => ?_ | refine Elem1.mk fun e_ he_ => ?_); refine g0_ ?_))
            (refine g1_ ?_; repeat ((first | refine n1_ fun b_ => ?_ | refine n2_ fun b_ => ?_ | refine Nat1.mk fun q_ hq_ => ?_ | refine em_ fun x_ hx_ => ?_ | refine Elem1.mk fun e_ he_ => ?_); refine g1_ ?_))
            refine nx_ (pos + dn) ?_ ?_
            · exact (by omega : pos + dn ≤ s.length + 1)
            · ((try dsimp only); (try simp only [List.length_drop, List.length_take, List.length_append, List.length_cons, List.length_nil, List.length_map] at *); omega)
        · (refine g0_ ?_; repeat ((first | refine n1_ fun b_ => ?_ | refine n2_ fun b_ => ?_ | refine Nat1.mk fun q_ hq_ => ?_ | refine em_ fun x_ hx_ => ?_ | refine Elem1.mk fun e_ he_ => ?_); refine g0_ ?_))
          refine nx_ (i + 1) ?_ ?_
          · exact (by omega : i + 1 ≤ 8)
          · ((try dsimp only); (try simp only [List.length_drop, List.length_take, List.length_append, List.length_cons, List.length_nil, List.length_map] at *); omega)
      · (refine g1_ ?_; repeat ((first | refine n1_ fun b_ => ?_ | refine n2_ fun b_ => ?_ | refine Nat1.mk fun q_ hq_ => ?_ | refine em_ fun x_ hx_ => ?_ | refine Elem1.mk fun e_ he_ => ?_); refine g1_ ?_))
        refine' loopI (α := Nat) (fun f => [(69, .int .i64 f)]) [(1, _), (9, _), (10, _), (62, _)] (fun f => []) (fun f => f ≤ 13) (fun f => 13 - f) 0 ?_ ?_
        · exact Nat.zero_le 13
        rintro f hf2
        by_cases h13 : f = 13
        · subst h13
          (refine g1_ ?_; repeat ((first | refine n1_ fun b_ => ?_ | refine n2_ fun b_ => ?_ | refine Nat1.mk fun q_ hq_ => ?_ | refine em_ fun x_ hx_ => ?_ | refine Elem1.mk fun e_ he_ => ?_); refine g1_ ?_))
          refine nx_ (q + 1) ?_ ?_
          · exact ⟨by omega, by omega⟩
          · ((try dsimp only); (try simp only [List.length_drop, List.length_take, List.length_append, List.length_cons, List.length_nil, List.length_map] at *); omega)
        · have hyo : Key.ok ⟨q, 0, f, i⟩ := keyOk_of (by omega) (by omega) (by omega) (by omega)
          have hik := isKeyR_ok W hN ⟨q, 0, f, i⟩ hyo
          unfold encKey at hik
          dsimp only at hik
          by_cases hy : isKey ⟨q, 0, f, i⟩
          · have hky := keyName_ok W hN hS ⟨q, 0, f, i⟩ hy
            have hny := hno _ hy
            rw [decide_eq_true hy] at hik
            generalize nameK ⟨q, 0, f, i⟩ = ny at *
            unfold encKey at hky
            dsimp only at hky
            (refine g1_ ?_; repeat ((first | refine n1_ fun b_ => ?_ | refine n2_ fun b_ => ?_ | refine Nat1.mk fun q_ hq_ => ?_ | refine em_ fun x_ hx_ => ?_ | refine Elem1.mk fun e_ he_ => ?_); refine g1_ ?_))
            refine (hik).use ?_; (refine g0_ ?_; repeat ((first | refine n1_ fun b_ => ?_ | refine n2_ fun b_ => ?_ | refine Nat1.mk fun q_ hq_ => ?_ | refine em_ fun x_ hx_ => ?_ | refine Elem1.mk fun e_ he_ => ?_); refine g0_ ?_))
            (refine g1_ ?_; repeat ((first | refine n1_ fun b_ => ?_ | refine n2_ fun b_ => ?_ | refine Nat1.mk fun q_ hq_ => ?_ | refine em_ fun x_ hx_ => ?_ | refine Elem1.mk fun e_ he_ => ?_); refine g1_ ?_))
            refine (hky).use ?_; (refine g0_ ?_; repeat ((first | refine n1_ fun b_ => ?_ | refine n2_ fun b_ => ?_ | refine Nat1.mk fun q_ hq_ => ?_ | refine em_ fun x_ hx_ => ?_ | refine Elem1.mk fun e_ he_ => ?_); refine g0_ ?_))
            (refine g1_ ?_; repeat ((first | refine n1_ fun b_ => ?_ | refine n2_ fun b_ => ?_ | refine Nat1.mk fun q_ hq_ => ?_ | refine em_ fun x_ hx_ => ?_ | refine Elem1.mk fun e_ he_ => ?_); refine g1_ ?_))
            refine nx_ (f + 1) ?_ ?_
            · exact (by omega : f + 1 ≤ 13)
            · ((try dsimp only); (try simp only [List.length_drop, List.length_take, List.length_append, List.length_cons, List.length_nil, List.length_map] at *); omega)
          · rw [decide_eq_false hy] at hik
            (refine g1_ ?_; repeat ((first | refine n1_ fun b_ => ?_ | refine n2_ fun b_ => ?_ | refine Nat1.mk fun q_ hq_ => ?_ | refine em_ fun x_ hx_ => ?_ | refine Elem1.mk fun e_ he_ => ?_); refine g1_ ?_))
            refine (hik).use ?_; (refine g0_ ?_; repeat ((first | refine n1_ fun b_ => ?_ | refine n2_ fun b_ => ?_ | refine Nat1.mk fun q_ hq_ => ?_ | refine em_ fun x_ hx_ => ?_ | refine Elem1.mk fun e_ he_ => ?_); refine g0_ ?_))
            (refine g1_ ?_; repeat ((first | refine n1_ fun b_ => ?_ | refine n2_ fun b_ => ?_ | refine Nat1.mk fun q_ hq_ => ?_ | refine em_ fun x_ hx_ => ?_ | refine Elem1.mk fun e_ he_ => ?_); refine g1_ ?_))
            refine nx_ (f + 1) ?_ ?_
            · exact (by omega : f + 1 ≤ 13)
            · ((try dsimp only); (try simp only [List.length_drop, List.length_take, List.length_append, List.length_cons, List.length_nil, List.length_map] at *); omega)
end Go.Eng.YthadfpcajijhgaaDoor
end
