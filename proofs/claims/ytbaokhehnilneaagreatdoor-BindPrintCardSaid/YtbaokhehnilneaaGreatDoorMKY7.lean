/- Texts put together: Key12, Key13. -/
import Derived.Test.YtbaokhehnilneaaGreatDoorMKY4
import Derived.Test.YtbaokhehnilneaaGreatDoorME11
/- Keys: the reference's sequences, a map (b_ x_ q_ e_). -/
section
namespace Go.Eng.YtbaokhehnilneaaGreatDoor
open Go Go.Eng Go.Proofs Go.Maps
variable (W : World)
set_option linter.unusedSimpArgs false
set_option maxRecDepth 100000
set_option linter.unusedVariables false
set_option maxHeartbeats 8000000
def bareL : List (Key × List UInt8) := [(⟨6, 0, 0, 0⟩, [65]), (⟨7, 0, 0, 0⟩, [66]), (⟨8, 0, 0, 0⟩, [67]), (⟨9, 0, 0, 0⟩, [68]), (⟨11, 0, 0, 0⟩, [70]), (⟨10, 0, 0, 0⟩, [72]),
  (⟨14, 0, 0, 0⟩, [51, 126]), (⟨12, 0, 0, 0⟩, [53, 126]), (⟨13, 0, 0, 0⟩, [54, 126]),
  (⟨15, 0, 1, 0⟩, [49, 49, 126]), (⟨15, 0, 2, 0⟩, [49, 50, 126]), (⟨15, 0, 3, 0⟩, [49, 51, 126]), (⟨15, 0, 4, 0⟩, [49, 52, 126]), (⟨15, 0, 5, 0⟩, [49, 53, 126]), (⟨15, 0, 6, 0⟩, [49, 55, 126]), (⟨15, 0, 7, 0⟩, [49, 56, 126]),
  (⟨15, 0, 8, 0⟩, [49, 57, 126]), (⟨15, 0, 9, 0⟩, [50, 48, 126]), (⟨15, 0, 10, 0⟩, [50, 49, 126]), (⟨15, 0, 11, 0⟩, [50, 51, 126]), (⟨15, 0, 12, 0⟩, [50, 52, 126])]
def entK (p : Key × List UInt8) : PV × PV := (encKey p.1, .str p.2)
def bareEs (n : Nat) : List (PV × PV) := (bareL.take n).map entK
def valK (k : Key) : Value := .agg #[.int .i64 k.kind, .int .i32 k.r, .int .i64 k.n, .int .i64 k.held]
theorem valK_inj {a b : Key} (h : valK a = valK b) : a = b := by
  obtain ⟨a0, a1, a2, a3⟩ := a
  obtain ⟨b0, b1, b2, b3⟩ := b
  simp only [valK, Value.agg.injEq, Array.mk.injEq, List.cons.injEq, Value.int.injEq, true_and, and_true] at h
  obtain ⟨rfl, rfl, rfl, rfl⟩ := h
  rfl
theorem keyed_key : Keyed Tryz.prog 23 := Keyed.of_law (deep_law (m := 4) (by decide) (by kernel_rfl) (by kernel_rfl) (by kernel_rfl))
theorem lits_keyN (d : Nat) (a : Key) (h : a.ok) : Tryz.prog.keyLits (d + 2) 23 [.int .i64 a.kind, .int .i32 a.r, .int .i64 a.n, .int .i64 a.held] = some (litsKey a) := by
  obtain ⟨h0, h1, h2, h3⟩ := h
  have hk : ∀ d (n : Int), (Lit.int .i64 n).wf = true → Tryz.prog.keyLits (d + 1) 3 [.int .i64 n] = some [.int .i64 n] := fun d n hn => by simp [Program.keyLits, Tryz.underlying3, hn]
  have hr : ∀ d (n : Int), (Lit.int .i32 n).wf = true → Tryz.prog.keyLits (d + 1) 21 [.int .i32 n] = some [.int .i32 n] := fun d n hn => by simp [Program.keyLits, Tryz.underlying21, hn]
  conv => lhs; unfold Program.keyLits
  rw [Tryz.underlying23]
  dsimp only
  rw [if_pos ⟨by rw [cells_key]; rfl, by simp⟩]
  simp only [List.mapM_cons, List.mapM_nil]
  rw [cells_keyI, cells_keyR]
  simp only [List.drop_zero, List.drop_succ_cons, List.take_succ_cons, List.take_zero, hk _ _ (wf_i64K h0), hr _ _ (wf_i32K h1), hk _ _ (wf_i64K h2), hk _ _ (wf_i64K h3)]
  rfl
theorem keyIs_key (k : Key) (h : k.ok) : KeyIs Tryz.prog 23 (encKey k) (valK k) := by
  refine ⟨fun K w x hx => agg_vals hx rfl, ?_⟩
  have h0 : 0 < Tryz.prog.types.size := by decide +kernel
  obtain ⟨d, hd⟩ : ∃ d, Tryz.prog.types.size + 1 = d + 2 := ⟨Tryz.prog.types.size - 1, by omega⟩
  have hl := lits_keyN d k h
  have hkt : Tryz.prog.keyType 23 = true := by kernel_rfl
  have hfm : (valK k).formed Tryz.prog 23 = true := by
    unfold valK
    simp [Value.formed, Tryz.underlying23, cells_key]
  refine ⟨.string (keyBytes (litsKey k)), ?_⟩
  unfold keyOf
  rw [Tryz.underlying23]
  dsimp only
  rw [hkt, hfm, hd]
  show Option.map _ (Tryz.prog.keyLits (d + 2) 23 [.int .i64 k.kind, .int .i32 k.r, .int .i64 k.n, .int .i64 k.held]) = _
  rw [hl]
  rfl
theorem keys_bare (l : List (Key × List UInt8)) (h : ∀ p ∈ l, p.1.ok) : KeysAre Tryz.prog 23 (l.map entK) (l.map fun p => valK p.1) := by
  refine ⟨by simp, fun j hj => ?_⟩
  rw [List.length_map] at hj
  have e1 : (l.map entK).getD j (.dead, .dead) = entK l[j] := by simp [List.getD_eq_getElem?_getD, hj]
  have e2 : (l.map fun p => valK p.1).getD j undef = valK l[j].1 := by simp [List.getD_eq_getElem?_getD, hj]
  rw [e1, e2]
  exact keyIs_key _ (h _ (List.getElem_mem hj))
theorem bare_ok : ∀ p ∈ bareL, p.1.ok := by
  have key : (bareL.all fun p => decide (0 ≤ p.1.kind ∧ p.1.kind ≤ 100 ∧ 0 ≤ p.1.r ∧ p.1.r ≤ 100 ∧ 0 ≤ p.1.n ∧ p.1.n ≤ 100 ∧ 0 ≤ p.1.held ∧ p.1.held ≤ 100)) = true := by decide +kernel
  intro p hp
  have := of_decide_eq_true (List.all_eq_true.1 key p hp)
  unfold Key.ok i64ok i32ok
  omega
theorem ins_bare (n : Nat) (hn : n < 21) (p : Key × List UInt8) (hp : bareL[n]? = some p) : InsLaw Tryz.prog 54 (bareEs n) (encKey p.1) (.str p.2) (bareEs (n + 1)) := by
  have hok : ∀ q ∈ bareL.take n, q.1.ok := fun q hq => bare_ok q (List.mem_of_mem_take hq)
  have h := insLaw_key (et := 9) (v := .str p.2) keyed_key (show Tryz.prog.underlying 54 = _ by kernel_rfl) (keys_bare _ hok) (keyIs_key p.1 (bare_ok p (List.mem_of_getElem? hp))) (by
    intro hm
    obtain ⟨q, hq, e⟩ := List.mem_map.1 hm
    have e := valK_inj e
    have key : ∀ m : Nat, m < 21 → ∀ j : Nat, j < m → (bareL[j]?.map Prod.fst) ≠ (bareL[m]?.map Prod.fst) := by decide +kernel
    obtain ⟨j, hj⟩ := List.mem_iff_getElem?.1 hq
    have hjn : j < n := by
      have := (List.getElem?_eq_some_iff.1 hj).1
      rw [List.length_take] at this
      omega
    rw [List.getElem?_take_of_lt hjn] at hj
    refine key n hn j hjn ?_
    rw [hj, hp]
    simp [e])
  have e : bareEs (n + 1) = (bareL.take n).map entK ++ [(encKey p.1, .str p.2)] := by
    unfold bareEs
    rw [List.take_add_one, hp, List.map_append]
    rfl
  rw [e]
  exact h
/-- What the reference tells of a key, nothing held; none: empty. -/
def seqOf (k : Key) : List UInt8 := ((bareL.find? fun p => p.1 == k).map Prod.snd).getD []
theorem look_bare {b : Nat} {σ r : Mem} (hl : Look σ b (.mpc (bareEs 21)) r) (k : Key) (hk : k.ok) : LookLaw Tryz.prog 54 (.mp b) (encKey k) false σ (.str (seqOf k)) := by
  have hks := keys_bare bareL bare_ok
  have e21 : bareEs 21 = bareL.map entK := by unfold bareEs; rw [List.take_of_length_le (by decide)]
  rw [e21] at hl
  by_cases hm : k ∈ bareL.map Prod.fst
  · obtain ⟨j, hj⟩ := List.mem_iff_getElem?.1 hm
    have hjl : j < 21 := by
      have := (List.getElem?_eq_some_iff.1 hj).1
      rw [List.length_map] at this
      exact this
    have uniq : ∀ m : Nat, m < 21 → ∀ j : Nat, j < 21 → ((bareL.map Prod.fst)[m]? = (bareL.map Prod.fst)[j]?) → m = j := by decide +kernel
    have hsv : ∀ j : Nat, j < 21 → seqOf (((bareL.map Prod.fst)[j]?).getD keyZ) = (bareL.getD j (keyZ, [])).2 := by decide +kernel
    have hv := hsv j hjl
    rw [hj, Option.getD_some] at hv
    refine lookLaw_some (et := 9) (j := j) keyed_key hl (show Tryz.prog.underlying 54 = _ by kernel_rfl) hks (keyIs_key k hk) ?_ (fun m hm2 => ?_) ?_
    · rw [List.getElem?_map] at hj ⊢
      cases hb : bareL[j]? with
      | none => rw [hb] at hj; cases hj
      | some q => rw [hb] at hj; simp only [Option.map_some, Option.some.injEq] at hj ⊢; rw [hj]
    · have hml : m < 21 := by
        have := (List.getElem?_eq_some_iff.1 hm2).1
        rw [List.length_map] at this
        exact this
      refine uniq m hml j hjl ?_
      rw [hj]
      rw [List.getElem?_map] at hm2 ⊢
      cases hb : bareL[m]? with
      | none => rw [hb] at hm2; cases hm2
      | some q => rw [hb] at hm2; simp only [Option.map_some, Option.some.injEq] at hm2 ⊢; exact valK_inj hm2
    · rw [hv]
      have hjb : j < bareL.length := hjl
      simp [List.getD_eq_getElem?_getD, hjb, entK]
  · have hs : seqOf k = [] := by
      unfold seqOf
      rw [List.find?_eq_none.2 fun p hp => by
        simp only [beq_iff_eq]
        exact fun e => hm (e ▸ List.mem_map_of_mem hp)]
      rfl
    rw [hs]
    refine lookLaw_none (et := 9) (z := .string ⟨#[]⟩) (i0 := (Tryz.prog.info? 9).getD default) keyed_key hl (show Tryz.prog.underlying 54 = _ by kernel_rfl) (by kernel_rfl) (by kernel_rfl) hks (keyIs_key k hk) ?_
    intro h
    obtain ⟨q, hq, e⟩ := List.mem_map.1 h
    exact hm (valK_inj e ▸ List.mem_map_of_mem hq)
end Go.Eng.YtbaokhehnilneaaGreatDoor
end

/- Keys: the reference's sequences, made (b_ x_ q_ e_). -/
section
namespace Go.Eng.YtbaokhehnilneaaGreatDoor
open Go Go.Eng Go.Proofs Go.Maps
variable (W : World)
set_option linter.unusedSimpArgs false
set_option maxRecDepth 100000
set_option linter.unusedVariables false
set_option maxHeartbeats 8000000
theorem sequences_ok (hN : Nums W) : ACalls Tryz.prog W 22 [] [] (Gives (fun b : Nat => .mp b) (fun b => [⟨b, .mpc (bareEs 21)⟩]) (fun _ => True)) := by
  refine acalls_of_vc (drawOk W) Tryz.func22 rfl (by decide) (by decide) rfl ?_
  (refine g0_ ?_; repeat ((first | refine n1_ fun b_ => ?_ | refine n2_ fun b_ => ?_ | refine Nat1.mk fun q_ hq_ => ?_ | refine em_ fun x_ hx_ => ?_ | refine Elem1.mk fun e_ he_ => ?_); refine g0_ ?_))
  refine .inl ?_
  (refine g0_ ?_; repeat ((first | refine n1_ fun b_ => ?_ | refine n2_ fun b_ => ?_ | refine Nat1.mk fun q_ hq_ => ?_ | refine em_ fun x_ hx_ => ?_ | refine Elem1.mk fun e_ he_ => ?_); refine g0_ ?_))
  refine' loopI (α := Nat) (fun j => [(9, .int .i64 j)]) [(1, _), (7, _), (8, _)] (fun j => [⟨b_, .mpc (bareEs j)⟩]) (fun j => j ≤ 6) (fun j => 6 - j) 0 ?_ ?_
  · exact Nat.zero_le 6
  rintro j hj
  rcases (by omega : j = 6 ∨ j = 0 ∨ j = 1 ∨ j = 2 ∨ j = 3 ∨ j = 4 ∨ j = 5) with rfl | rfl | rfl | rfl | rfl | rfl | rfl
  · (refine g0_ ?_; repeat ((first | refine n1_ fun b_ => ?_ | refine n2_ fun b_ => ?_ | refine Nat1.mk fun q_ hq_ => ?_ | refine em_ fun x_ hx_ => ?_ | refine Elem1.mk fun e_ he_ => ?_); refine g0_ ?_))
    (refine g1_ ?_; repeat ((first | refine n1_ fun b_ => ?_ | refine n2_ fun b_ => ?_ | refine Nat1.mk fun q_ hq_ => ?_ | refine em_ fun x_ hx_ => ?_ | refine Elem1.mk fun e_ he_ => ?_); refine g1_ ?_))
    refine .law _ _ _ (.here _ _ _) (ins_bare 6 (by decide) (⟨14, 0, 0, 0⟩, [51, 126]) rfl) ?_
    (refine g0_ ?_; repeat ((first | refine n1_ fun b_ => ?_ | refine n2_ fun b_ => ?_ | refine Nat1.mk fun q_ hq_ => ?_ | refine em_ fun x_ hx_ => ?_ | refine Elem1.mk fun e_ he_ => ?_); refine g0_ ?_))
    (refine g1_ ?_; repeat ((first | refine n1_ fun b_ => ?_ | refine n2_ fun b_ => ?_ | refine Nat1.mk fun q_ hq_ => ?_ | refine em_ fun x_ hx_ => ?_ | refine Elem1.mk fun e_ he_ => ?_); refine g1_ ?_))
    refine .law _ _ _ (.here _ _ _) (ins_bare 7 (by decide) (⟨12, 0, 0, 0⟩, [53, 126]) rfl) ?_
    (refine g0_ ?_; repeat ((first | refine n1_ fun b_ => ?_ | refine n2_ fun b_ => ?_ | refine Nat1.mk fun q_ hq_ => ?_ | refine em_ fun x_ hx_ => ?_ | refine Elem1.mk fun e_ he_ => ?_); refine g0_ ?_))
    (refine g1_ ?_; repeat ((first | refine n1_ fun b_ => ?_ | refine n2_ fun b_ => ?_ | refine Nat1.mk fun q_ hq_ => ?_ | refine em_ fun x_ hx_ => ?_ | refine Elem1.mk fun e_ he_ => ?_); refine g1_ ?_))
    refine .law _ _ _ (.here _ _ _) (ins_bare 8 (by decide) (⟨13, 0, 0, 0⟩, [54, 126]) rfl) ?_
    (refine g0_ ?_; repeat ((first | refine n1_ fun b_ => ?_ | refine n2_ fun b_ => ?_ | refine Nat1.mk fun q_ hq_ => ?_ | refine em_ fun x_ hx_ => ?_ | refine Elem1.mk fun e_ he_ => ?_); refine g0_ ?_))
    (refine g1_ ?_; repeat ((first | refine n1_ fun b_ => ?_ | refine n2_ fun b_ => ?_ | refine Nat1.mk fun q_ hq_ => ?_ | refine em_ fun x_ hx_ => ?_ | refine Elem1.mk fun e_ he_ => ?_); refine g1_ ?_))
    refine .inl ?_
    (refine g0_ ?_; repeat ((first | refine n1_ fun b_ => ?_ | refine n2_ fun b_ => ?_ | refine Nat1.mk fun q_ hq_ => ?_ | refine em_ fun x_ hx_ => ?_ | refine Elem1.mk fun e_ he_ => ?_); refine g0_ ?_))
    refine' loopI (α := Nat) (fun j => [(30, .int .i64 j)]) [(1, _), (28, _), (29, _)] (fun j => [⟨b_, .mpc (bareEs (j + 9))⟩]) (fun j => j ≤ 12) (fun j => 12 - j) 0 ?_ ?_
    · exact Nat.zero_le 12
    rintro j hj2
    rcases (by omega : j = 12 ∨ j = 0 ∨ j = 1 ∨ j = 2 ∨ j = 3 ∨ j = 4 ∨ j = 5 ∨ j = 6 ∨ j = 7 ∨ j = 8 ∨ j = 9 ∨ j = 10 ∨ j = 11) with rfl | rfl | rfl | rfl | rfl | rfl | rfl | rfl | rfl | rfl | rfl | rfl | rfl
    · (refine g0_ ?_; repeat ((first | refine n1_ fun b_ => ?_ | refine n2_ fun b_ => ?_ | refine Nat1.mk fun q_ hq_ => ?_ | refine em_ fun x_ hx_ => ?_ | refine Elem1.mk fun e_ he_ => ?_); refine g0_ ?_))
      (refine g1_ ?_; repeat ((first | refine n1_ fun b_ => ?_ | refine n2_ fun b_ => ?_ | refine Nat1.mk fun q_ hq_ => ?_ | refine em_ fun x_ hx_ => ?_ | refine Elem1.mk fun e_ he_ => ?_); refine g1_ ?_))
      exact ⟨b_, trivial, rfl, wkMem.rfl'⟩
    · have hi := itoa_ok W hN 11 (by unfold i64ok; decide)
      rw [show Lib.itoa 11 = List.dropLast [49, 49, 126] by decide +kernel] at hi
      (refine g0_ ?_; repeat ((first | refine n1_ fun b_ => ?_ | refine n2_ fun b_ => ?_ | refine Nat1.mk fun q_ hq_ => ?_ | refine em_ fun x_ hx_ => ?_ | refine Elem1.mk fun e_ he_ => ?_); refine g0_ ?_))
      (refine g1_ ?_; repeat ((first | refine n1_ fun b_ => ?_ | refine n2_ fun b_ => ?_ | refine Nat1.mk fun q_ hq_ => ?_ | refine em_ fun x_ hx_ => ?_ | refine Elem1.mk fun e_ he_ => ?_); refine g1_ ?_))
      refine (hi).use ?_; (refine g0_ ?_; repeat ((first | refine n1_ fun b_ => ?_ | refine n2_ fun b_ => ?_ | refine Nat1.mk fun q_ hq_ => ?_ | refine em_ fun x_ hx_ => ?_ | refine Elem1.mk fun e_ he_ => ?_); refine g0_ ?_))
      (refine g1_ ?_; repeat ((first | refine n1_ fun b_ => ?_ | refine n2_ fun b_ => ?_ | refine Nat1.mk fun q_ hq_ => ?_ | refine em_ fun x_ hx_ => ?_ | refine Elem1.mk fun e_ he_ => ?_); refine g1_ ?_))
      refine .law _ _ _ (.here _ _ _) (ins_bare 9 (by decide) (⟨15, 0, 1, 0⟩, [49, 49, 126]) rfl) ?_
      (refine g0_ ?_; repeat ((first | refine n1_ fun b_ => ?_ | refine n2_ fun b_ => ?_ | refine Nat1.mk fun q_ hq_ => ?_ | refine em_ fun x_ hx_ => ?_ | refine Elem1.mk fun e_ he_ => ?_); refine g0_ ?_))
      refine nx_ (1) ?_ ?_
      · exact (by decide : 1 ≤ 12)
      · ((try dsimp only); (try simp only [List.length_drop, List.length_take, List.length_append, List.length_cons, List.length_nil, List.length_map] at *); omega)
    · have hi := itoa_ok W hN 12 (by unfold i64ok; decide)
      rw [show Lib.itoa 12 = List.dropLast [49, 50, 126] by decide +kernel] at hi
      (refine g0_ ?_; repeat ((first | refine n1_ fun b_ => ?_ | refine n2_ fun b_ => ?_ | refine Nat1.mk fun q_ hq_ => ?_ | refine em_ fun x_ hx_ => ?_ | refine Elem1.mk fun e_ he_ => ?_); refine g0_ ?_))
      (refine g1_ ?_; repeat ((first | refine n1_ fun b_ => ?_ | refine n2_ fun b_ => ?_ | refine Nat1.mk fun q_ hq_ => ?_ | refine em_ fun x_ hx_ => ?_ | refine Elem1.mk fun e_ he_ => ?_); refine g1_ ?_))
      refine (hi).use ?_; (refine g0_ ?_; repeat ((first | refine n1_ fun b_ => ?_ | refine n2_ fun b_ => ?_ | refine Nat1.mk fun q_ hq_ => ?_ | refine em_ fun x_ hx_ => ?_ | refine Elem1.mk fun e_ he_ => ?_); refine g0_ ?_))
      (refine g1_ ?_; repeat ((first | refine n1_ fun b_ => ?_ | refine n2_ fun b_ => ?_ | refine Nat1.mk fun q_ hq_ => ?_ | refine em_ fun x_ hx_ => ?_ | refine Elem1.mk fun e_ he_ => ?_); refine g1_ ?_))
      refine .law _ _ _ (.here _ _ _) (ins_bare 10 (by decide) (⟨15, 0, 2, 0⟩, [49, 50, 126]) rfl) ?_
      (refine g0_ ?_; repeat ((first | refine n1_ fun b_ => ?_ | refine n2_ fun b_ => ?_ | refine Nat1.mk fun q_ hq_ => ?_ | refine em_ fun x_ hx_ => ?_ | refine Elem1.mk fun e_ he_ => ?_); refine g0_ ?_))
      refine nx_ (2) ?_ ?_
      · exact (by decide : 2 ≤ 12)
      · ((try dsimp only); (try simp only [List.length_drop, List.length_take, List.length_append, List.length_cons, List.length_nil, List.length_map] at *); omega)
    · have hi := itoa_ok W hN 13 (by unfold i64ok; decide)
      rw [show Lib.itoa 13 = List.dropLast [49, 51, 126] by decide +kernel] at hi
      (refine g0_ ?_; repeat ((first | refine n1_ fun b_ => ?_ | refine n2_ fun b_ => ?_ | refine Nat1.mk fun q_ hq_ => ?_ | refine em_ fun x_ hx_ => ?_ | refine Elem1.mk fun e_ he_ => ?_); refine g0_ ?_))
      (refine g1_ ?_; repeat ((first | refine n1_ fun b_ => ?_ | refine n2_ fun b_ => ?_ | refine Nat1.mk fun q_ hq_ => ?_ | refine em_ fun x_ hx_ => ?_ | refine Elem1.mk fun e_ he_ => ?_); refine g1_ ?_))
      refine (hi).use ?_; (refine g0_ ?_; repeat ((first | refine n1_ fun b_ => ?_ | refine n2_ fun b_ => ?_ | refine Nat1.mk fun q_ hq_ => ?_ | refine em_ fun x_ hx_ => ?_ | refine Elem1.mk fun e_ he_ => ?_); refine g0_ ?_))
      (refine g1_ ?_; repeat ((first | refine n1_ fun b_ => ?_ | refine n2_ fun b_ => ?_ | refine Nat1.mk fun q_ hq_ => ?_ | refine em_ fun x_ hx_ => ?_ | refine Elem1.mk fun e_ he_ => ?_); refine g1_ ?_))
      refine .law _ _ _ (.here _ _ _) (ins_bare 11 (by decide) (⟨15, 0, 3, 0⟩, [49, 51, 126]) rfl) ?_
      (refine g0_ ?_; repeat ((first | refine n1_ fun b_ => ?_ | refine n2_ fun b_ => ?_ | refine Nat1.mk fun q_ hq_ => ?_ | refine em_ fun x_ hx_ => ?_ | refine Elem1.mk fun e_ he_ => ?_); refine g0_ ?_))
      refine nx_ (3) ?_ ?_
      · exact (by decide : 3 ≤ 12)
      · ((try dsimp only); (try simp only [List.length_drop, List.length_take, List.length_append, List.length_cons, List.length_nil, List.length_map] at *); omega)
    · have hi := itoa_ok W hN 14 (by unfold i64ok; decide)
      rw [show Lib.itoa 14 = List.dropLast [49, 52, 126] by decide +kernel] at hi
      (refine g0_ ?_; repeat ((first | refine n1_ fun b_ => ?_ | refine n2_ fun b_ => ?_ | refine Nat1.mk fun q_ hq_ => ?_ | refine em_ fun x_ hx_ => ?_ | refine Elem1.mk fun e_ he_ => ?_); refine g0_ ?_))
      (refine g1_ ?_; repeat ((first | refine n1_ fun b_ => ?_ | refine n2_ fun b_ => ?_ | refine Nat1.mk fun q_ hq_ => ?_ | refine em_ fun x_ hx_ => ?_ | refine Elem1.mk fun e_ he_ => ?_); refine g1_ ?_))
      refine (hi).use ?_; (refine g0_ ?_; repeat ((first | refine n1_ fun b_ => ?_ | refine n2_ fun b_ => ?_ | refine Nat1.mk fun q_ hq_ => ?_ | refine em_ fun x_ hx_ => ?_ | refine Elem1.mk fun e_ he_ => ?_); refine g0_ ?_))
      (refine g1_ ?_; repeat ((first | refine n1_ fun b_ => ?_ | refine n2_ fun b_ => ?_ | refine Nat1.mk fun q_ hq_ => ?_ | refine em_ fun x_ hx_ => ?_ | refine Elem1.mk fun e_ he_ => ?_); refine g1_ ?_))
      refine .law _ _ _ (.here _ _ _) (ins_bare 12 (by decide) (⟨15, 0, 4, 0⟩, [49, 52, 126]) rfl) ?_
      (refine g0_ ?_; repeat ((first | refine n1_ fun b_ => ?_ | refine n2_ fun b_ => ?_ | refine Nat1.mk fun q_ hq_ => ?_ | refine em_ fun x_ hx_ => ?_ | refine Elem1.mk fun e_ he_ => ?_); refine g0_ ?_))
      refine nx_ (4) ?_ ?_
      · exact (by decide : 4 ≤ 12)
      · ((try dsimp only); (try simp only [List.length_drop, List.length_take, List.length_append, List.length_cons, List.length_nil, List.length_map] at *); omega)
    · have hi := itoa_ok W hN 15 (by unfold i64ok; decide)
      rw [show Lib.itoa 15 = List.dropLast [49, 53, 126] by decide +kernel] at hi
      (refine g0_ ?_; repeat ((first | refine n1_ fun b_ => ?_ | refine n2_ fun b_ => ?_ | refine Nat1.mk fun q_ hq_ => ?_ | refine em_ fun x_ hx_ => ?_ | refine Elem1.mk fun e_ he_ => ?_); refine g0_ ?_))
      (refine g1_ ?_; repeat ((first | refine n1_ fun b_ => ?_ | refine n2_ fun b_ => ?_ | refine Nat1.mk fun q_ hq_ => ?_ | refine em_ fun x_ hx_ => ?_ | refine Elem1.mk fun e_ he_ => ?_); refine g1_ ?_))
      refine (hi).use ?_; (refine g0_ ?_; repeat ((first | refine n1_ fun b_ => ?_ | refine n2_ fun b_ => ?_ | refine Nat1.mk fun q_ hq_ => ?_ | refine em_ fun x_ hx_ => ?_ | refine Elem1.mk fun e_ he_ => ?_); refine g0_ ?_))
      (refine g1_ ?_; repeat ((first | refine n1_ fun b_ => ?_ | refine n2_ fun b_ => ?_ | refine Nat1.mk fun q_ hq_ => ?_ | refine em_ fun x_ hx_ => ?_ | refine Elem1.mk fun e_ he_ => ?_); refine g1_ ?_))
      refine .law _ _ _ (.here _ _ _) (ins_bare 13 (by decide) (⟨15, 0, 5, 0⟩, [49, 53, 126]) rfl) ?_
      (refine g0_ ?_; repeat ((first | refine n1_ fun b_ => ?_ | refine n2_ fun b_ => ?_ | refine Nat1.mk fun q_ hq_ => ?_ | refine em_ fun x_ hx_ => ?_ | refine Elem1.mk fun e_ he_ => ?_); refine g0_ ?_))
      refine nx_ (5) ?_ ?_
      · exact (by decide : 5 ≤ 12)
      · ((try dsimp only); (try simp only [List.length_drop, List.length_take, List.length_append, List.length_cons, List.length_nil, List.length_map] at *); omega)
    · have hi := itoa_ok W hN 17 (by unfold i64ok; decide)
      rw [show Lib.itoa 17 = List.dropLast [49, 55, 126] by decide +kernel] at hi
      (refine g0_ ?_; repeat ((first | refine n1_ fun b_ => ?_ | refine n2_ fun b_ => ?_ | refine Nat1.mk fun q_ hq_ => ?_ | refine em_ fun x_ hx_ => ?_ | refine Elem1.mk fun e_ he_ => ?_); refine g0_ ?_))
      (refine g1_ ?_; repeat ((first | refine n1_ fun b_ => ?_ | refine n2_ fun b_ => ?_ | refine Nat1.mk fun q_ hq_ => ?_ | refine em_ fun x_ hx_ => ?_ | refine Elem1.mk fun e_ he_ => ?_); refine g1_ ?_))
      refine (hi).use ?_; (refine g0_ ?_; repeat ((first | refine n1_ fun b_ => ?_ | refine n2_ fun b_ => ?_ | refine Nat1.mk fun q_ hq_ => ?_ | refine em_ fun x_ hx_ => ?_ | refine Elem1.mk fun e_ he_ => ?_); refine g0_ ?_))
      (refine g1_ ?_; repeat ((first | refine n1_ fun b_ => ?_ | refine n2_ fun b_ => ?_ | refine Nat1.mk fun q_ hq_ => ?_ | refine em_ fun x_ hx_ => ?_ | refine Elem1.mk fun e_ he_ => ?_); refine g1_ ?_))
      refine .law _ _ _ (.here _ _ _) (ins_bare 14 (by decide) (⟨15, 0, 6, 0⟩, [49, 55, 126]) rfl) ?_
      (refine g0_ ?_; repeat ((first | refine n1_ fun b_ => ?_ | refine n2_ fun b_ => ?_ | refine Nat1.mk fun q_ hq_ => ?_ | refine em_ fun x_ hx_ => ?_ | refine Elem1.mk fun e_ he_ => ?_); refine g0_ ?_))
      refine nx_ (6) ?_ ?_
      · exact (by decide : 6 ≤ 12)
      · ((try dsimp only); (try simp only [List.length_drop, List.length_take, List.length_append, List.length_cons, List.length_nil, List.length_map] at *); omega)
    · have hi := itoa_ok W hN 18 (by unfold i64ok; decide)
      rw [show Lib.itoa 18 = List.dropLast [49, 56, 126] by decide +kernel] at hi
      (refine g0_ ?_; repeat ((first | refine n1_ fun b_ => ?_ | refine n2_ fun b_ => ?_ | refine Nat1.mk fun q_ hq_ => ?_ | refine em_ fun x_ hx_ => ?_ | refine Elem1.mk fun e_ he_ => ?_); refine g0_ ?_))
      (refine g1_ ?_; repeat ((first | refine n1_ fun b_ => ?_ | refine n2_ fun b_ => ?_ | refine Nat1.mk fun q_ hq_ => ?_ | refine em_ fun x_ hx_ => ?_ | refine Elem1.mk fun e_ he_ => ?_); refine g1_ ?_))
      refine (hi).use ?_; (refine g0_ ?_; repeat ((first | refine n1_ fun b_ => ?_ | refine n2_ fun b_ => ?_ | refine Nat1.mk fun q_ hq_ => ?_ | refine em_ fun x_ hx_ => ?_ | refine Elem1.mk fun e_ he_ => ?_); refine g0_ ?_))
      (refine g1_ ?_; repeat ((first | refine n1_ fun b_ => ?_ | refine n2_ fun b_ => ?_ | refine Nat1.mk fun q_ hq_ => ?_ | refine em_ fun x_ hx_ => ?_ | refine Elem1.mk fun e_ he_ => ?_); refine g1_ ?_))
      refine .law _ _ _ (.here _ _ _) (ins_bare 15 (by decide) (⟨15, 0, 7, 0⟩, [49, 56, 126]) rfl) ?_
      (refine g0_ ?_; repeat ((first | refine n1_ fun b_ => ?_ | refine n2_ fun b_ => ?_ | refine Nat1.mk fun q_ hq_ => ?_ | refine em_ fun x_ hx_ => ?_ | refine Elem1.mk fun e_ he_ => ?_); refine g0_ ?_))
      refine nx_ (7) ?_ ?_
      · exact (by decide : 7 ≤ 12)
      · ((try dsimp only); (try simp only [List.length_drop, List.length_take, List.length_append, List.length_cons, List.length_nil, List.length_map] at *); omega)
    · have hi := itoa_ok W hN 19 (by unfold i64ok; decide)
      rw [show Lib.itoa 19 = List.dropLast [49, 57, 126] by decide +kernel] at hi
      (refine g0_ ?_; repeat ((first | refine n1_ fun b_ => ?_ | refine n2_ fun b_ => ?_ | refine Nat1.mk fun q_ hq_ => ?_ | refine em_ fun x_ hx_ => ?_ | refine Elem1.mk fun e_ he_ => ?_); refine g0_ ?_))
      (refine g1_ ?_; repeat ((first | refine n1_ fun b_ => ?_ | refine n2_ fun b_ => ?_ | refine Nat1.mk fun q_ hq_ => ?_ | refine em_ fun x_ hx_ => ?_ | refine Elem1.mk fun e_ he_ => ?_); refine g1_ ?_))
      refine (hi).use ?_; (refine g0_ ?_; repeat ((first | refine n1_ fun b_ => ?_ | refine n2_ fun b_ => ?_ | refine Nat1.mk fun q_ hq_ => ?_ | refine em_ fun x_ hx_ => ?_ | refine Elem1.mk fun e_ he_ => ?_); refine g0_ ?_))
      (refine g1_ ?_; repeat ((first | refine n1_ fun b_ => ?_ | refine n2_ fun b_ => ?_ | refine Nat1.mk fun q_ hq_ => ?_ | refine em_ fun x_ hx_ => ?_ | refine Elem1.mk fun e_ he_ => ?_); refine g1_ ?_))
      refine .law _ _ _ (.here _ _ _) (ins_bare 16 (by decide) (⟨15, 0, 8, 0⟩, [49, 57, 126]) rfl) ?_
      (refine g0_ ?_; repeat ((first | refine n1_ fun b_ => ?_ | refine n2_ fun b_ => ?_ | refine Nat1.mk fun q_ hq_ => ?_ | refine em_ fun x_ hx_ => ?_ | refine Elem1.mk fun e_ he_ => ?_); refine g0_ ?_))
      refine nx_ (8) ?_ ?_
      · exact (by decide : 8 ≤ 12)
      · ((try dsimp only); (try simp only [List.length_drop, List.length_take, List.length_append, List.length_cons, List.length_nil, List.length_map] at *); omega)
    · have hi := itoa_ok W hN 20 (by unfold i64ok; decide)
      rw [show Lib.itoa 20 = List.dropLast [50, 48, 126] by decide +kernel] at hi
      (refine g0_ ?_; repeat ((first | refine n1_ fun b_ => ?_ | refine n2_ fun b_ => ?_ | refine Nat1.mk fun q_ hq_ => ?_ | refine em_ fun x_ hx_ => ?_ | refine Elem1.mk fun e_ he_ => ?_); refine g0_ ?_))
      (refine g1_ ?_; repeat ((first | refine n1_ fun b_ => ?_ | refine n2_ fun b_ => ?_ | refine Nat1.mk fun q_ hq_ => ?_ | refine em_ fun x_ hx_ => ?_ | refine Elem1.mk fun e_ he_ => ?_); refine g1_ ?_))
      refine (hi).use ?_; (refine g0_ ?_; repeat ((first | refine n1_ fun b_ => ?_ | refine n2_ fun b_ => ?_ | refine Nat1.mk fun q_ hq_ => ?_ | refine em_ fun x_ hx_ => ?_ | refine Elem1.mk fun e_ he_ => ?_); refine g0_ ?_))
      (refine g1_ ?_; repeat ((first | refine n1_ fun b_ => ?_ | refine n2_ fun b_ => ?_ | refine Nat1.mk fun q_ hq_ => ?_ | refine em_ fun x_ hx_ => ?_ | refine Elem1.mk fun e_ he_ => ?_); refine g1_ ?_))
      refine .law _ _ _ (.here _ _ _) (ins_bare 17 (by decide) (⟨15, 0, 9, 0⟩, [50, 48, 126]) rfl) ?_
      (refine g0_ ?_; repeat ((first | refine n1_ fun b_ => ?_ | refine n2_ fun b_ => ?_ | refine Nat1.mk fun q_ hq_ => ?_ | refine em_ fun x_ hx_ => ?_ | refine Elem1.mk fun e_ he_ => ?_); refine g0_ ?_))
      refine nx_ (9) ?_ ?_
      · exact (by decide : 9 ≤ 12)
      · ((try dsimp only); (try simp only [List.length_drop, List.length_take, List.length_append, List.length_cons, List.length_nil, List.length_map] at *); omega)
    · have hi := itoa_ok W hN 21 (by unfold i64ok; decide)
      rw [show Lib.itoa 21 = List.dropLast [50, 49, 126] by decide +kernel] at hi
      (refine g0_ ?_; repeat ((first | refine n1_ fun b_ => ?_ | refine n2_ fun b_ => ?_ | refine Nat1.mk fun q_ hq_ => ?_ | refine em_ fun x_ hx_ => ?_ | refine Elem1.mk fun e_ he_ => ?_); refine g0_ ?_))
      (refine g1_ ?_; repeat ((first | refine n1_ fun b_ => ?_ | refine n2_ fun b_ => ?_ | refine Nat1.mk fun q_ hq_ => ?_ | refine em_ fun x_ hx_ => ?_ | refine Elem1.mk fun e_ he_ => ?_); refine g1_ ?_))
      refine (hi).use ?_; (refine g0_ ?_; repeat ((first | refine n1_ fun b_ => ?_ | refine n2_ fun b_ => ?_ | refine Nat1.mk fun q_ hq_ => ?_ | refine em_ fun x_ hx_ => ?_ | refine Elem1.mk fun e_ he_ => ?_); refine g0_ ?_))
      (refine g1_ ?_; repeat ((first | refine n1_ fun b_ => ?_ | refine n2_ fun b_ => ?_ | refine Nat1.mk fun q_ hq_ => ?_ | refine em_ fun x_ hx_ => ?_ | refine Elem1.mk fun e_ he_ => ?_); refine g1_ ?_))
      refine .law _ _ _ (.here _ _ _) (ins_bare 18 (by decide) (⟨15, 0, 10, 0⟩, [50, 49, 126]) rfl) ?_
      (refine g0_ ?_; repeat ((first | refine n1_ fun b_ => ?_ | refine n2_ fun b_ => ?_ | refine Nat1.mk fun q_ hq_ => ?_ | refine em_ fun x_ hx_ => ?_ | refine Elem1.mk fun e_ he_ => ?_); refine g0_ ?_))
      refine nx_ (10) ?_ ?_
      · exact (by decide : 10 ≤ 12)
      · ((try dsimp only); (try simp only [List.length_drop, List.length_take, List.length_append, List.length_cons, List.length_nil, List.length_map] at *); omega)
    · have hi := itoa_ok W hN 23 (by unfold i64ok; decide)
      rw [show Lib.itoa 23 = List.dropLast [50, 51, 126] by decide +kernel] at hi
      (refine g0_ ?_; repeat ((first | refine n1_ fun b_ => ?_ | refine n2_ fun b_ => ?_ | refine Nat1.mk fun q_ hq_ => ?_ | refine em_ fun x_ hx_ => ?_ | refine Elem1.mk fun e_ he_ => ?_); refine g0_ ?_))
      (refine g1_ ?_; repeat ((first | refine n1_ fun b_ => ?_ | refine n2_ fun b_ => ?_ | refine Nat1.mk fun q_ hq_ => ?_ | refine em_ fun x_ hx_ => ?_ | refine Elem1.mk fun e_ he_ => ?_); refine g1_ ?_))
      refine (hi).use ?_; (refine g0_ ?_; repeat ((first | refine n1_ fun b_ => ?_ | refine n2_ fun b_ => ?_ | refine Nat1.mk fun q_ hq_ => ?_ | refine em_ fun x_ hx_ => ?_ | refine Elem1.mk fun e_ he_ => ?_); refine g0_ ?_))
      (refine g1_ ?_; repeat ((first | refine n1_ fun b_ => ?_ | refine n2_ fun b_ => ?_ | refine Nat1.mk fun q_ hq_ => ?_ | refine em_ fun x_ hx_ => ?_ | refine Elem1.mk fun e_ he_ => ?_); refine g1_ ?_))
      refine .law _ _ _ (.here _ _ _) (ins_bare 19 (by decide) (⟨15, 0, 11, 0⟩, [50, 51, 126]) rfl) ?_
      (refine g0_ ?_; repeat ((first | refine n1_ fun b_ => ?_ | refine n2_ fun b_ => ?_ | refine Nat1.mk fun q_ hq_ => ?_ | refine em_ fun x_ hx_ => ?_ | refine Elem1.mk fun e_ he_ => ?_); refine g0_ ?_))
      refine nx_ (11) ?_ ?_
      · exact (by decide : 11 ≤ 12)
      · ((try dsimp only); (try simp only [List.length_drop, List.length_take, List.length_append, List.length_cons, List.length_nil, List.length_map] at *); omega)
    · have hi := itoa_ok W hN 24 (by unfold i64ok; decide)
      rw [show Lib.itoa 24 = List.dropLast [50, 52, 126] by decide +kernel] at hi
      (refine g0_ ?_; repeat ((first | refine n1_ fun b_ => ?_ | refine n2_ fun b_ => ?_ | refine Nat1.mk fun q_ hq_ => ?_ | refine em_ fun x_ hx_ => ?_ | refine Elem1.mk fun e_ he_ => ?_); refine g0_ ?_))
      (refine g1_ ?_; repeat ((first | refine n1_ fun b_ => ?_ | refine n2_ fun b_ => ?_ | refine Nat1.mk fun q_ hq_ => ?_ | refine em_ fun x_ hx_ => ?_ | refine Elem1.mk fun e_ he_ => ?_); refine g1_ ?_))
      refine (hi).use ?_; (refine g0_ ?_; repeat ((first | refine n1_ fun b_ => ?_ | refine n2_ fun b_ => ?_ | refine Nat1.mk fun q_ hq_ => ?_ | refine em_ fun x_ hx_ => ?_ | refine Elem1.mk fun e_ he_ => ?_); refine g0_ ?_))
      (refine g1_ ?_; repeat ((first | refine n1_ fun b_ => ?_ | refine n2_ fun b_ => ?_ | refine Nat1.mk fun q_ hq_ => ?_ | refine em_ fun x_ hx_ => ?_ | refine Elem1.mk fun e_ he_ => ?_); refine g1_ ?_))
      refine .law _ _ _ (.here _ _ _) (ins_bare 20 (by decide) (⟨15, 0, 12, 0⟩, [50, 52, 126]) rfl) ?_
      (refine g0_ ?_; repeat ((first | refine n1_ fun b_ => ?_ | refine n2_ fun b_ => ?_ | refine Nat1.mk fun q_ hq_ => ?_ | refine em_ fun x_ hx_ => ?_ | refine Elem1.mk fun e_ he_ => ?_); refine g0_ ?_))
      refine nx_ (12) ?_ ?_
      · exact (by decide : 12 ≤ 12)
      · ((try dsimp only); (try simp only [List.length_drop, List.length_take, List.length_append, List.length_cons, List.length_nil, List.length_map] at *); omega)
  · (refine g0_ ?_; repeat ((first | refine n1_ fun b_ => ?_ | refine n2_ fun b_ => ?_ | refine Nat1.mk fun q_ hq_ => ?_ | refine em_ fun x_ hx_ => ?_ | refine Elem1.mk fun e_ he_ => ?_); refine g0_ ?_))
    (refine g1_ ?_; repeat ((first | refine n1_ fun b_ => ?_ | refine n2_ fun b_ => ?_ | refine Nat1.mk fun q_ hq_ => ?_ | refine em_ fun x_ hx_ => ?_ | refine Elem1.mk fun e_ he_ => ?_); refine g1_ ?_))
    refine .law _ _ _ (.here _ _ _) (ins_bare 0 (by decide) (⟨6, 0, 0, 0⟩, [65]) rfl) ?_
    (refine g0_ ?_; repeat ((first | refine n1_ fun b_ => ?_ | refine n2_ fun b_ => ?_ | refine Nat1.mk fun q_ hq_ => ?_ | refine em_ fun x_ hx_ => ?_ | refine Elem1.mk fun e_ he_ => ?_); refine g0_ ?_))
    refine nx_ (1) ?_ ?_
    · exact (by decide : 1 ≤ 6)
    · ((try dsimp only); (try simp only [List.length_drop, List.length_take, List.length_append, List.length_cons, List.length_nil, List.length_map] at *); omega)
  · (refine g0_ ?_; repeat ((first | refine n1_ fun b_ => ?_ | refine n2_ fun b_ => ?_ | refine Nat1.mk fun q_ hq_ => ?_ | refine em_ fun x_ hx_ => ?_ | refine Elem1.mk fun e_ he_ => ?_); refine g0_ ?_))
    (refine g1_ ?_; repeat ((first | refine n1_ fun b_ => ?_ | refine n2_ fun b_ => ?_ | refine Nat1.mk fun q_ hq_ => ?_ | refine em_ fun x_ hx_ => ?_ | refine Elem1.mk fun e_ he_ => ?_); refine g1_ ?_))
    refine .law _ _ _ (.here _ _ _) (ins_bare 1 (by decide) (⟨7, 0, 0, 0⟩, [66]) rfl) ?_
    (refine g0_ ?_; repeat ((first | refine n1_ fun b_ => ?_ | refine n2_ fun b_ => ?_ | refine Nat1.mk fun q_ hq_ => ?_ | refine em_ fun x_ hx_ => ?_ | refine Elem1.mk fun e_ he_ => ?_); refine g0_ ?_))
    refine nx_ (2) ?_ ?_
    · exact (by decide : 2 ≤ 6)
    · ((try dsimp only); (try simp only [List.length_drop, List.length_take, List.length_append, List.length_cons, List.length_nil, List.length_map] at *); omega)
  · (refine g0_ ?_; repeat ((first | refine n1_ fun b_ => ?_ | refine n2_ fun b_ => ?_ | refine Nat1.mk fun q_ hq_ => ?_ | refine em_ fun x_ hx_ => ?_ | refine Elem1.mk fun e_ he_ => ?_); refine g0_ ?_))
    (refine g1_ ?_; repeat ((first | refine n1_ fun b_ => ?_ | refine n2_ fun b_ => ?_ | refine Nat1.mk fun q_ hq_ => ?_ | refine em_ fun x_ hx_ => ?_ | refine Elem1.mk fun e_ he_ => ?_); refine g1_ ?_))
    refine .law _ _ _ (.here _ _ _) (ins_bare 2 (by decide) (⟨8, 0, 0, 0⟩, [67]) rfl) ?_
    (refine g0_ ?_; repeat ((first | refine n1_ fun b_ => ?_ | refine n2_ fun b_ => ?_ | refine Nat1.mk fun q_ hq_ => ?_ | refine em_ fun x_ hx_ => ?_ | refine Elem1.mk fun e_ he_ => ?_); refine g0_ ?_))
    refine nx_ (3) ?_ ?_
    · exact (by decide : 3 ≤ 6)
    · ((try dsimp only); (try simp only [List.length_drop, List.length_take, List.length_append, List.length_cons, List.length_nil, List.length_map] at *); omega)
  · (refine g0_ ?_; repeat ((first | refine n1_ fun b_ => ?_ | refine n2_ fun b_ => ?_ | refine Nat1.mk fun q_ hq_ => ?_ | refine em_ fun x_ hx_ => ?_ | refine Elem1.mk fun e_ he_ => ?_); refine g0_ ?_))
    (refine g1_ ?_; repeat ((first | refine n1_ fun b_ => ?_ | refine n2_ fun b_ => ?_ | refine Nat1.mk fun q_ hq_ => ?_ | refine em_ fun x_ hx_ => ?_ | refine Elem1.mk fun e_ he_ => ?_); refine g1_ ?_))
    refine .law _ _ _ (.here _ _ _) (ins_bare 3 (by decide) (⟨9, 0, 0, 0⟩, [68]) rfl) ?_
    (refine g0_ ?_; repeat ((first | refine n1_ fun b_ => ?_ | refine n2_ fun b_ => ?_ | refine Nat1.mk fun q_ hq_ => ?_ | refine em_ fun x_ hx_ => ?_ | refine Elem1.mk fun e_ he_ => ?_); refine g0_ ?_))
    refine nx_ (4) ?_ ?_
    · exact (by decide : 4 ≤ 6)
    · ((try dsimp only); (try simp only [List.length_drop, List.length_take, List.length_append, List.length_cons, List.length_nil, List.length_map] at *); omega)
  · (refine g0_ ?_; repeat ((first | refine n1_ fun b_ => ?_ | refine n2_ fun b_ => ?_ | refine Nat1.mk fun q_ hq_ => ?_ | refine em_ fun x_ hx_ => ?_ | refine Elem1.mk fun e_ he_ => ?_); refine g0_ ?_))
    (refine g1_ ?_; repeat ((first | refine n1_ fun b_ => ?_ | refine n2_ fun b_ => ?_ | refine Nat1.mk fun q_ hq_ => ?_ | refine em_ fun x_ hx_ => ?_ | refine Elem1.mk fun e_ he_ => ?_); refine g1_ ?_))
    refine .law _ _ _ (.here _ _ _) (ins_bare 4 (by decide) (⟨11, 0, 0, 0⟩, [70]) rfl) ?_
    (refine g0_ ?_; repeat ((first | refine n1_ fun b_ => ?_ | refine n2_ fun b_ => ?_ | refine Nat1.mk fun q_ hq_ => ?_ | refine em_ fun x_ hx_ => ?_ | refine Elem1.mk fun e_ he_ => ?_); refine g0_ ?_))
    refine nx_ (5) ?_ ?_
    · exact (by decide : 5 ≤ 6)
    · ((try dsimp only); (try simp only [List.length_drop, List.length_take, List.length_append, List.length_cons, List.length_nil, List.length_map] at *); omega)
  · (refine g0_ ?_; repeat ((first | refine n1_ fun b_ => ?_ | refine n2_ fun b_ => ?_ | refine Nat1.mk fun q_ hq_ => ?_ | refine em_ fun x_ hx_ => ?_ | refine Elem1.mk fun e_ he_ => ?_); refine g0_ ?_))
    (refine g1_ ?_; repeat ((first | refine n1_ fun b_ => ?_ | refine n2_ fun b_ => ?_ | refine Nat1.mk fun q_ hq_ => ?_ | refine em_ fun x_ hx_ => ?_ | refine Elem1.mk fun e_ he_ => ?_); refine g1_ ?_))
    refine .law _ _ _ (.here _ _ _) (ins_bare 5 (by decide) (⟨10, 0, 0, 0⟩, [72]) rfl) ?_
    (refine g0_ ?_; repeat ((first | refine n1_ fun b_ => ?_ | refine n2_ fun b_ => ?_ | refine Nat1.mk fun q_ hq_ => ?_ | refine em_ fun x_ hx_ => ?_ | refine Elem1.mk fun e_ he_ => ?_); refine g0_ ?_))
    refine nx_ (6) ?_ ?_
    · exact (by decide : 6 ≤ 6)
    · ((try dsimp only); (try simp only [List.length_drop, List.length_take, List.length_append, List.length_cons, List.length_nil, List.length_map] at *); omega)
end Go.Eng.YtbaokhehnilneaaGreatDoor
end
