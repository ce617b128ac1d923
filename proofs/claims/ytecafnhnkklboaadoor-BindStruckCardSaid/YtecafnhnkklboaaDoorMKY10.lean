/- Texts put together: Key16. -/
import Derived.Test.YtecafnhnkklboaaDoorMKY9
import Derived.Test.YtecafnhnkklboaaDoorMKY6
/- Keys: the reference's KeyBytes of what has no sequence; all of it (b_ x_ q_ e_). -/
section
namespace Go.Eng.YtecafnhnkklboaaDoor
open Go Go.Eng Go.Proofs Go.Maps
variable (W : World)
set_option linter.unusedSimpArgs false
set_option maxRecDepth 100000
set_option linter.unusedVariables false
set_option maxHeartbeats 8000000
theorem look_kindK {b : Nat} {σ r : Mem} {es : List (PV × PV)} {n : Int} {q : PV} (hl : Look σ b (.mpc es) r) (hk : intKeys .i64 es = true) (hq : (getI es n).getD (ofV (.string ⟨#[]⟩)) = q) :
    LookLaw Tryd.prog 78 (.mp b) (.int .i64 n) false σ q :=
  look_int (kt := 3) (et := 9) (i0 := (Tryd.prog.info? 9).getD default) (z := .string ⟨#[]⟩) hl (show Tryd.prog.underlying 78 = _ by kernel_rfl) (show Tryd.prog.underlying 3 = _ by kernel_rfl) (by kernel_rfl) (by kernel_rfl) hk hq
theorem bytes_few (hN : Nums W) (kind held : Int) (pad : Bool) (V : List UInt8) (R : List UInt8)
    (hc : (kind = 2 ∧ (held = 0 ∨ held = 2)) ∨ (kind = 4 ∧ (held = 0 ∨ held = 2)) ∨ (kind = 3 ∧ (held = 0 ∨ held = 1)) ∨ (kind = 5 ∧ held = 0))
    (hlk : ∀ {b : Nat} {σ r_ : Mem}, Look σ b (.mpc (bareEs 21)) r_ → LookLaw Tryd.prog 72 (.mp b) (.agg [.int .i64 kind, .int .i32 0, .int .i64 0, .int .i64 0]) false σ (.str [])) :
    Pure Tryd.prog W 18 [.agg [.int .i64 kind, .int .i32 0, .int .i64 0, .int .i64 held], .bool pad] (.str (writeK ⟨kind, 0, 0, held⟩ pad)) := by
  rcases hc with ⟨rfl, rfl | rfl⟩ | ⟨rfl, rfl | rfl⟩ | ⟨rfl, rfl | rfl⟩ | ⟨rfl, rfl⟩
  · refine Pure.of (acalls_of_vc (DL_ok (by decide)) Tryd.func18 rfl (by decide) (by decide) rfl ?_)
    (refine g0_ ?_; repeat ((first | refine n1_ fun b_ => ?_ | refine n2_ fun b_ => ?_ | refine Nat1.mk fun q_ hq_ => ?_ | refine em_ fun x_ hx_ => ?_ | refine Elem1.mk fun e_ he_ => ?_); refine g0_ ?_))
    (refine g1_ ?_; repeat ((first | refine n1_ fun b_ => ?_ | refine n2_ fun b_ => ?_ | refine Nat1.mk fun q_ hq_ => ?_ | refine em_ fun x_ hx_ => ?_ | refine Elem1.mk fun e_ he_ => ?_); refine g1_ ?_))
    refine Draws10.chain ⟨2, [.turn, .new], [(0, [.keep, .again])], by decide +kernel, ?_⟩; (refine g0_ ?_; repeat ((first | refine n1_ fun b_ => ?_ | refine n2_ fun b_ => ?_ | refine Nat1.mk fun q_ hq_ => ?_ | refine em_ fun x_ hx_ => ?_ | refine Elem1.mk fun e_ he_ => ?_); refine g0_ ?_))
    refine ACalls.giveE (sequences_ok W hN) ?_
    rintro bm -
    (refine g0_ ?_; repeat ((first | refine n1_ fun b_ => ?_ | refine n2_ fun b_ => ?_ | refine Nat1.mk fun q_ hq_ => ?_ | refine em_ fun x_ hx_ => ?_ | refine Elem1.mk fun e_ he_ => ?_); refine g0_ ?_))
    refine ⟨_, hlk (by repeat (first | exact .here _ _ _ | apply Look.there)), ?_⟩
    (refine g1_ ?_; repeat ((first | refine n1_ fun b_ => ?_ | refine n2_ fun b_ => ?_ | refine Nat1.mk fun q_ hq_ => ?_ | refine em_ fun x_ hx_ => ?_ | refine Elem1.mk fun e_ he_ => ?_); refine g1_ ?_))
    refine ⟨.str [13], look_kindK (by repeat (first | exact .here _ _ _ | apply Look.there)) rfl rfl, ?_⟩
    (refine g1_ ?_; repeat ((first | refine n1_ fun b_ => ?_ | refine n2_ fun b_ => ?_ | refine Nat1.mk fun q_ hq_ => ?_ | refine em_ fun x_ hx_ => ?_ | refine Elem1.mk fun e_ he_ => ?_); refine g1_ ?_))
    exact .refl _
  · refine Pure.of (acalls_of_vc (DL_ok (by decide)) Tryd.func18 rfl (by decide) (by decide) rfl ?_)
    (refine g0_ ?_; repeat ((first | refine n1_ fun b_ => ?_ | refine n2_ fun b_ => ?_ | refine Nat1.mk fun q_ hq_ => ?_ | refine em_ fun x_ hx_ => ?_ | refine Elem1.mk fun e_ he_ => ?_); refine g0_ ?_))
    (refine g1_ ?_; repeat ((first | refine n1_ fun b_ => ?_ | refine n2_ fun b_ => ?_ | refine Nat1.mk fun q_ hq_ => ?_ | refine em_ fun x_ hx_ => ?_ | refine Elem1.mk fun e_ he_ => ?_); refine g1_ ?_))
    refine Draws10.chain ⟨2, [.turn, .new], [(0, [.keep, .again])], by decide +kernel, ?_⟩; (refine g0_ ?_; repeat ((first | refine n1_ fun b_ => ?_ | refine n2_ fun b_ => ?_ | refine Nat1.mk fun q_ hq_ => ?_ | refine em_ fun x_ hx_ => ?_ | refine Elem1.mk fun e_ he_ => ?_); refine g0_ ?_))
    refine ACalls.giveE (sequences_ok W hN) ?_
    rintro bm -
    (refine g0_ ?_; repeat ((first | refine n1_ fun b_ => ?_ | refine n2_ fun b_ => ?_ | refine Nat1.mk fun q_ hq_ => ?_ | refine em_ fun x_ hx_ => ?_ | refine Elem1.mk fun e_ he_ => ?_); refine g0_ ?_))
    refine ⟨_, hlk (by repeat (first | exact .here _ _ _ | apply Look.there)), ?_⟩
    (refine g1_ ?_; repeat ((first | refine n1_ fun b_ => ?_ | refine n2_ fun b_ => ?_ | refine Nat1.mk fun q_ hq_ => ?_ | refine em_ fun x_ hx_ => ?_ | refine Elem1.mk fun e_ he_ => ?_); refine g1_ ?_))
    refine ⟨.str [13], look_kindK (by repeat (first | exact .here _ _ _ | apply Look.there)) rfl rfl, ?_⟩
    (refine g1_ ?_; repeat ((first | refine n1_ fun b_ => ?_ | refine n2_ fun b_ => ?_ | refine Nat1.mk fun q_ hq_ => ?_ | refine em_ fun x_ hx_ => ?_ | refine Elem1.mk fun e_ he_ => ?_); refine g1_ ?_))
    exact .refl _
  · refine Pure.of (acalls_of_vc (DL_ok (by decide)) Tryd.func18 rfl (by decide) (by decide) rfl ?_)
    (refine g0_ ?_; repeat ((first | refine n1_ fun b_ => ?_ | refine n2_ fun b_ => ?_ | refine Nat1.mk fun q_ hq_ => ?_ | refine em_ fun x_ hx_ => ?_ | refine Elem1.mk fun e_ he_ => ?_); refine g0_ ?_))
    (refine g1_ ?_; repeat ((first | refine n1_ fun b_ => ?_ | refine n2_ fun b_ => ?_ | refine Nat1.mk fun q_ hq_ => ?_ | refine em_ fun x_ hx_ => ?_ | refine Elem1.mk fun e_ he_ => ?_); refine g1_ ?_))
    refine Draws10.chain ⟨2, [.turn, .new], [(0, [.keep, .again])], by decide +kernel, ?_⟩; (refine g0_ ?_; repeat ((first | refine n1_ fun b_ => ?_ | refine n2_ fun b_ => ?_ | refine Nat1.mk fun q_ hq_ => ?_ | refine em_ fun x_ hx_ => ?_ | refine Elem1.mk fun e_ he_ => ?_); refine g0_ ?_))
    refine ACalls.giveE (sequences_ok W hN) ?_
    rintro bm -
    (refine g0_ ?_; repeat ((first | refine n1_ fun b_ => ?_ | refine n2_ fun b_ => ?_ | refine Nat1.mk fun q_ hq_ => ?_ | refine em_ fun x_ hx_ => ?_ | refine Elem1.mk fun e_ he_ => ?_); refine g0_ ?_))
    refine ⟨_, hlk (by repeat (first | exact .here _ _ _ | apply Look.there)), ?_⟩
    (refine g1_ ?_; repeat ((first | refine n1_ fun b_ => ?_ | refine n2_ fun b_ => ?_ | refine Nat1.mk fun q_ hq_ => ?_ | refine em_ fun x_ hx_ => ?_ | refine Elem1.mk fun e_ he_ => ?_); refine g1_ ?_))
    refine ⟨.str [127], look_kindK (by repeat (first | exact .here _ _ _ | apply Look.there)) rfl rfl, ?_⟩
    (refine g1_ ?_; repeat ((first | refine n1_ fun b_ => ?_ | refine n2_ fun b_ => ?_ | refine Nat1.mk fun q_ hq_ => ?_ | refine em_ fun x_ hx_ => ?_ | refine Elem1.mk fun e_ he_ => ?_); refine g1_ ?_))
    exact .refl _
  · refine Pure.of (acalls_of_vc (DL_ok (by decide)) Tryd.func18 rfl (by decide) (by decide) rfl ?_)
    (refine g0_ ?_; repeat ((first | refine n1_ fun b_ => ?_ | refine n2_ fun b_ => ?_ | refine Nat1.mk fun q_ hq_ => ?_ | refine em_ fun x_ hx_ => ?_ | refine Elem1.mk fun e_ he_ => ?_); refine g0_ ?_))
    (refine g1_ ?_; repeat ((first | refine n1_ fun b_ => ?_ | refine n2_ fun b_ => ?_ | refine Nat1.mk fun q_ hq_ => ?_ | refine em_ fun x_ hx_ => ?_ | refine Elem1.mk fun e_ he_ => ?_); refine g1_ ?_))
    refine Draws10.chain ⟨2, [.turn, .new], [(0, [.keep, .again])], by decide +kernel, ?_⟩; (refine g0_ ?_; repeat ((first | refine n1_ fun b_ => ?_ | refine n2_ fun b_ => ?_ | refine Nat1.mk fun q_ hq_ => ?_ | refine em_ fun x_ hx_ => ?_ | refine Elem1.mk fun e_ he_ => ?_); refine g0_ ?_))
    refine ACalls.giveE (sequences_ok W hN) ?_
    rintro bm -
    (refine g0_ ?_; repeat ((first | refine n1_ fun b_ => ?_ | refine n2_ fun b_ => ?_ | refine Nat1.mk fun q_ hq_ => ?_ | refine em_ fun x_ hx_ => ?_ | refine Elem1.mk fun e_ he_ => ?_); refine g0_ ?_))
    refine ⟨_, hlk (by repeat (first | exact .here _ _ _ | apply Look.there)), ?_⟩
    (refine g1_ ?_; repeat ((first | refine n1_ fun b_ => ?_ | refine n2_ fun b_ => ?_ | refine Nat1.mk fun q_ hq_ => ?_ | refine em_ fun x_ hx_ => ?_ | refine Elem1.mk fun e_ he_ => ?_); refine g1_ ?_))
    refine ⟨.str [127], look_kindK (by repeat (first | exact .here _ _ _ | apply Look.there)) rfl rfl, ?_⟩
    (refine g1_ ?_; repeat ((first | refine n1_ fun b_ => ?_ | refine n2_ fun b_ => ?_ | refine Nat1.mk fun q_ hq_ => ?_ | refine em_ fun x_ hx_ => ?_ | refine Elem1.mk fun e_ he_ => ?_); refine g1_ ?_))
    exact .refl _
  · refine Pure.of (acalls_of_vc (DL_ok (by decide)) Tryd.func18 rfl (by decide) (by decide) rfl ?_)
    (refine g0_ ?_; repeat ((first | refine n1_ fun b_ => ?_ | refine n2_ fun b_ => ?_ | refine Nat1.mk fun q_ hq_ => ?_ | refine em_ fun x_ hx_ => ?_ | refine Elem1.mk fun e_ he_ => ?_); refine g0_ ?_))
    (refine g1_ ?_; repeat ((first | refine n1_ fun b_ => ?_ | refine n2_ fun b_ => ?_ | refine Nat1.mk fun q_ hq_ => ?_ | refine em_ fun x_ hx_ => ?_ | refine Elem1.mk fun e_ he_ => ?_); refine g1_ ?_))
    refine Draws10.chain ⟨2, [.turn, .new], [(0, [.keep, .again])], by decide +kernel, ?_⟩; (refine g0_ ?_; repeat ((first | refine n1_ fun b_ => ?_ | refine n2_ fun b_ => ?_ | refine Nat1.mk fun q_ hq_ => ?_ | refine em_ fun x_ hx_ => ?_ | refine Elem1.mk fun e_ he_ => ?_); refine g0_ ?_))
    refine ACalls.giveE (sequences_ok W hN) ?_
    rintro bm -
    (refine g0_ ?_; repeat ((first | refine n1_ fun b_ => ?_ | refine n2_ fun b_ => ?_ | refine Nat1.mk fun q_ hq_ => ?_ | refine em_ fun x_ hx_ => ?_ | refine Elem1.mk fun e_ he_ => ?_); refine g0_ ?_))
    refine ⟨_, hlk (by repeat (first | exact .here _ _ _ | apply Look.there)), ?_⟩
    (refine g1_ ?_; repeat ((first | refine n1_ fun b_ => ?_ | refine n2_ fun b_ => ?_ | refine Nat1.mk fun q_ hq_ => ?_ | refine em_ fun x_ hx_ => ?_ | refine Elem1.mk fun e_ he_ => ?_); refine g1_ ?_))
    refine ⟨.str [9], look_kindK (by repeat (first | exact .here _ _ _ | apply Look.there)) rfl rfl, ?_⟩
    (refine g1_ ?_; repeat ((first | refine n1_ fun b_ => ?_ | refine n2_ fun b_ => ?_ | refine Nat1.mk fun q_ hq_ => ?_ | refine em_ fun x_ hx_ => ?_ | refine Elem1.mk fun e_ he_ => ?_); refine g1_ ?_))
    exact .refl _
  · refine Pure.of (acalls_of_vc (DL_ok (by decide)) Tryd.func18 rfl (by decide) (by decide) rfl ?_)
    (refine g0_ ?_; repeat ((first | refine n1_ fun b_ => ?_ | refine n2_ fun b_ => ?_ | refine Nat1.mk fun q_ hq_ => ?_ | refine em_ fun x_ hx_ => ?_ | refine Elem1.mk fun e_ he_ => ?_); refine g0_ ?_))
    (refine g1_ ?_; repeat ((first | refine n1_ fun b_ => ?_ | refine n2_ fun b_ => ?_ | refine Nat1.mk fun q_ hq_ => ?_ | refine em_ fun x_ hx_ => ?_ | refine Elem1.mk fun e_ he_ => ?_); refine g1_ ?_))
    refine Draws10.chain ⟨2, [.turn, .new], [(0, [.keep, .again])], by decide +kernel, ?_⟩; (refine g0_ ?_; repeat ((first | refine n1_ fun b_ => ?_ | refine n2_ fun b_ => ?_ | refine Nat1.mk fun q_ hq_ => ?_ | refine em_ fun x_ hx_ => ?_ | refine Elem1.mk fun e_ he_ => ?_); refine g0_ ?_))
    refine ACalls.giveE (sequences_ok W hN) ?_
    rintro bm -
    (refine g0_ ?_; repeat ((first | refine n1_ fun b_ => ?_ | refine n2_ fun b_ => ?_ | refine Nat1.mk fun q_ hq_ => ?_ | refine em_ fun x_ hx_ => ?_ | refine Elem1.mk fun e_ he_ => ?_); refine g0_ ?_))
    refine ⟨_, hlk (by repeat (first | exact .here _ _ _ | apply Look.there)), ?_⟩
    (refine g1_ ?_; repeat ((first | refine n1_ fun b_ => ?_ | refine n2_ fun b_ => ?_ | refine Nat1.mk fun q_ hq_ => ?_ | refine em_ fun x_ hx_ => ?_ | refine Elem1.mk fun e_ he_ => ?_); refine g1_ ?_))
    refine ⟨.str [9], look_kindK (by repeat (first | exact .here _ _ _ | apply Look.there)) rfl rfl, ?_⟩
    (refine g1_ ?_; repeat ((first | refine n1_ fun b_ => ?_ | refine n2_ fun b_ => ?_ | refine Nat1.mk fun q_ hq_ => ?_ | refine em_ fun x_ hx_ => ?_ | refine Elem1.mk fun e_ he_ => ?_); refine g1_ ?_))
    exact .refl _
  · refine Pure.of (acalls_of_vc (DL_ok (by decide)) Tryd.func18 rfl (by decide) (by decide) rfl ?_)
    (refine g0_ ?_; repeat ((first | refine n1_ fun b_ => ?_ | refine n2_ fun b_ => ?_ | refine Nat1.mk fun q_ hq_ => ?_ | refine em_ fun x_ hx_ => ?_ | refine Elem1.mk fun e_ he_ => ?_); refine g0_ ?_))
    (refine g1_ ?_; repeat ((first | refine n1_ fun b_ => ?_ | refine n2_ fun b_ => ?_ | refine Nat1.mk fun q_ hq_ => ?_ | refine em_ fun x_ hx_ => ?_ | refine Elem1.mk fun e_ he_ => ?_); refine g1_ ?_))
    refine Draws10.chain ⟨2, [.turn, .new], [(0, [.keep, .again])], by decide +kernel, ?_⟩; (refine g0_ ?_; repeat ((first | refine n1_ fun b_ => ?_ | refine n2_ fun b_ => ?_ | refine Nat1.mk fun q_ hq_ => ?_ | refine em_ fun x_ hx_ => ?_ | refine Elem1.mk fun e_ he_ => ?_); refine g0_ ?_))
    refine ACalls.giveE (sequences_ok W hN) ?_
    rintro bm -
    (refine g0_ ?_; repeat ((first | refine n1_ fun b_ => ?_ | refine n2_ fun b_ => ?_ | refine Nat1.mk fun q_ hq_ => ?_ | refine em_ fun x_ hx_ => ?_ | refine Elem1.mk fun e_ he_ => ?_); refine g0_ ?_))
    refine ⟨_, hlk (by repeat (first | exact .here _ _ _ | apply Look.there)), ?_⟩
    (refine g1_ ?_; repeat ((first | refine n1_ fun b_ => ?_ | refine n2_ fun b_ => ?_ | refine Nat1.mk fun q_ hq_ => ?_ | refine em_ fun x_ hx_ => ?_ | refine Elem1.mk fun e_ he_ => ?_); refine g1_ ?_))
    refine ⟨.str [27], look_kindK (by repeat (first | exact .here _ _ _ | apply Look.there)) rfl rfl, ?_⟩
    (refine g1_ ?_; repeat ((first | refine n1_ fun b_ => ?_ | refine n2_ fun b_ => ?_ | refine Nat1.mk fun q_ hq_ => ?_ | refine em_ fun x_ hx_ => ?_ | refine Elem1.mk fun e_ he_ => ?_); refine g1_ ?_))
    exact .refl _
theorem bytes_rune (hN : Nums W) (r held : Int) (pad : Bool) (hk2 : kindK ⟨1, r, 0, held⟩)
    (hlk : ∀ {b : Nat} {σ r_ : Mem}, Look σ b (.mpc (bareEs 21)) r_ → LookLaw Tryd.prog 72 (.mp b) (.agg [.int .i64 1, .int .i32 r, .int .i64 0, .int .i64 0]) false σ (.str [])) :
    Pure Tryd.prog W 18 [.agg [.int .i64 1, .int .i32 r, .int .i64 0, .int .i64 held], .bool pad] (.str (writeK ⟨1, r, 0, held⟩ pad)) := by
  unfold kindK at hk2
  dsimp only at hk2
  rw [if_pos rfl] at hk2
  unfold writeK altK
  dsimp only
  rw [if_pos rfl]
  by_cases h4 : 4 ≤ held
  · rw [if_pos h4] at hk2 ⊢
    obtain ⟨hh, hc2⟩ := hk2
    unfold ctrlR at hc2
    obtain ⟨c, rfl, hc1⟩ : ∃ c : Nat, r = c + 96 ∧ 1 ≤ c ∧ c ≤ 26 := ⟨(r - 96).toNat, by omega, by omega, by omega⟩
    clear hc2
    rw [show ((c : Int) + 96 - 96).toNat = c by omega]
    rcases hh with rfl | rfl
    all_goals
      refine Pure.of (acalls_of_vc (DL_ok (by decide)) Tryd.func18 rfl (by decide) (by decide) rfl ?_)
      (refine g0_ ?_; repeat ((first | refine n1_ fun b_ => ?_ | refine n2_ fun b_ => ?_ | refine Nat1.mk fun q_ hq_ => ?_ | refine em_ fun x_ hx_ => ?_ | refine Elem1.mk fun e_ he_ => ?_); refine g0_ ?_))
      (refine g1_ ?_; repeat ((first | refine n1_ fun b_ => ?_ | refine n2_ fun b_ => ?_ | refine Nat1.mk fun q_ hq_ => ?_ | refine em_ fun x_ hx_ => ?_ | refine Elem1.mk fun e_ he_ => ?_); refine g1_ ?_))
      refine Draws10.chain ⟨2, [.turn, .new], [(0, [.keep, .again])], by decide +kernel, ?_⟩; (refine g0_ ?_; repeat ((first | refine n1_ fun b_ => ?_ | refine n2_ fun b_ => ?_ | refine Nat1.mk fun q_ hq_ => ?_ | refine em_ fun x_ hx_ => ?_ | refine Elem1.mk fun e_ he_ => ?_); refine g0_ ?_))
      refine ACalls.giveE (sequences_ok W hN) ?_
      rintro bm -
      (refine g0_ ?_; repeat ((first | refine n1_ fun b_ => ?_ | refine n2_ fun b_ => ?_ | refine Nat1.mk fun q_ hq_ => ?_ | refine em_ fun x_ hx_ => ?_ | refine Elem1.mk fun e_ he_ => ?_); refine g0_ ?_))
      refine ⟨_, hlk (by repeat (first | exact .here _ _ _ | apply Look.there)), ?_⟩
      (refine g1_ ?_; repeat ((first | refine n1_ fun b_ => ?_ | refine n2_ fun b_ => ?_ | refine Nat1.mk fun q_ hq_ => ?_ | refine em_ fun x_ hx_ => ?_ | refine Elem1.mk fun e_ he_ => ?_); refine g1_ ?_))
      refine ⟨.str (Utf8.encode ((c : Int) + 96)).data.toList, look_kindK (by repeat (first | exact .here _ _ _ | apply Look.there)) rfl rfl, ?_⟩
      (refine g1_ ?_; repeat ((first | refine n1_ fun b_ => ?_ | refine n2_ fun b_ => ?_ | refine Nat1.mk fun q_ hq_ => ?_ | refine em_ fun x_ hx_ => ?_ | refine Elem1.mk fun e_ he_ => ?_); refine g1_ ?_))
      refine .inl ?_
      (refine g0_ ?_; repeat ((first | refine n1_ fun b_ => ?_ | refine n2_ fun b_ => ?_ | refine Nat1.mk fun q_ hq_ => ?_ | refine em_ fun x_ hx_ => ?_ | refine Elem1.mk fun e_ he_ => ?_); refine g0_ ?_))
      (refine g1_ ?_; repeat ((first | refine n1_ fun b_ => ?_ | refine n2_ fun b_ => ?_ | refine Nat1.mk fun q_ hq_ => ?_ | refine em_ fun x_ hx_ => ?_ | refine Elem1.mk fun e_ he_ => ?_); refine g1_ ?_))
      refine ⟨[(c : Int)], by rw [show (↑c + 96 - 96 : Int) = c by omega]; rfl, ?_⟩
      (refine g1_ ?_; repeat ((first | refine n1_ fun b_ => ?_ | refine n2_ fun b_ => ?_ | refine Nat1.mk fun q_ hq_ => ?_ | refine em_ fun x_ hx_ => ?_ | refine Elem1.mk fun e_ he_ => ?_); refine g1_ ?_))
      exact .refl _
  · rw [if_neg h4] at hk2 ⊢
    obtain ⟨hh, hc2⟩ := hk2
    unfold runeR at hc2
    clear hc2
    rcases hh with rfl | rfl
    all_goals
      refine Pure.of (acalls_of_vc (DL_ok (by decide)) Tryd.func18 rfl (by decide) (by decide) rfl ?_)
      (refine g0_ ?_; repeat ((first | refine n1_ fun b_ => ?_ | refine n2_ fun b_ => ?_ | refine Nat1.mk fun q_ hq_ => ?_ | refine em_ fun x_ hx_ => ?_ | refine Elem1.mk fun e_ he_ => ?_); refine g0_ ?_))
      (refine g1_ ?_; repeat ((first | refine n1_ fun b_ => ?_ | refine n2_ fun b_ => ?_ | refine Nat1.mk fun q_ hq_ => ?_ | refine em_ fun x_ hx_ => ?_ | refine Elem1.mk fun e_ he_ => ?_); refine g1_ ?_))
      refine Draws10.chain ⟨2, [.turn, .new], [(0, [.keep, .again])], by decide +kernel, ?_⟩; (refine g0_ ?_; repeat ((first | refine n1_ fun b_ => ?_ | refine n2_ fun b_ => ?_ | refine Nat1.mk fun q_ hq_ => ?_ | refine em_ fun x_ hx_ => ?_ | refine Elem1.mk fun e_ he_ => ?_); refine g0_ ?_))
      refine ACalls.giveE (sequences_ok W hN) ?_
      rintro bm -
      (refine g0_ ?_; repeat ((first | refine n1_ fun b_ => ?_ | refine n2_ fun b_ => ?_ | refine Nat1.mk fun q_ hq_ => ?_ | refine em_ fun x_ hx_ => ?_ | refine Elem1.mk fun e_ he_ => ?_); refine g0_ ?_))
      refine ⟨_, hlk (by repeat (first | exact .here _ _ _ | apply Look.there)), ?_⟩
      (refine g1_ ?_; repeat ((first | refine n1_ fun b_ => ?_ | refine n2_ fun b_ => ?_ | refine Nat1.mk fun q_ hq_ => ?_ | refine em_ fun x_ hx_ => ?_ | refine Elem1.mk fun e_ he_ => ?_); refine g1_ ?_))
      refine ⟨.str (Utf8.encode r).data.toList, look_kindK (by repeat (first | exact .here _ _ _ | apply Look.there)) rfl rfl, ?_⟩
      (refine g1_ ?_; repeat ((first | refine n1_ fun b_ => ?_ | refine n2_ fun b_ => ?_ | refine Nat1.mk fun q_ hq_ => ?_ | refine em_ fun x_ hx_ => ?_ | refine Elem1.mk fun e_ he_ => ?_); refine g1_ ?_))
      rw [enc_utf8]
      (try (refine need.mk (by have := enc_le r; simp; omega) ?_))
      (refine g0_ ?_; repeat ((first | refine n1_ fun b_ => ?_ | refine n2_ fun b_ => ?_ | refine Nat1.mk fun q_ hq_ => ?_ | refine em_ fun x_ hx_ => ?_ | refine Elem1.mk fun e_ he_ => ?_); refine g0_ ?_))
      exact .refl _
theorem keyBytes_ok (hN : Nums W) (k : Key) (hok : k.ok) (pad : Bool) (hk : isKey k) : Pure Tryd.prog W 18 [encKey k, .bool pad] (.str (writeK k pad)) := by
  have hb : (Key.mk k.kind k.r k.n 0).ok := ⟨hok.1, hok.2.1, hok.2.2.1, (by unfold i64ok; decide : i64ok 0)⟩
  have hlk : ∀ {b : Nat} {σ r_ : Mem}, Look σ b (.mpc (bareEs 21)) r_ → LookLaw Tryd.prog 72 (.mp b) (.agg [.int .i64 k.kind, .int .i32 k.r, .int .i64 k.n, .int .i64 0]) false σ (.str (seqOf ⟨k.kind, k.r, k.n, 0⟩)) := fun hl => look_bare hl _ hb
  have hf := hk.1
  have hk2 := hk.2
  have hss := seq_some k.kind k.r k.n
  clear hb hk hok
  obtain ⟨kind, r, n, held⟩ := k
  unfold formK at hf
  unfold inSeq at hss
  dsimp only at *
  obtain ⟨hh, hr, hn⟩ := hf
  unfold encKey
  dsimp only
  by_cases k1 : kind = 1
  · subst k1
    obtain rfl : n = 0 := by omega
    have hs : seqOf ⟨1, r, 0, 0⟩ = [] := Decidable.of_not_not fun h => by have := hss.1 h; omega
    rw [hs] at hlk
    exact bytes_rune W hN r held pad hk2 hlk
  · obtain rfl : r = 0 := by omega
    by_cases k15 : kind = 15
    · subst k15
      unfold kindK at hk2
      dsimp only at hk2
      rw [if_neg (by decide), if_neg (by decide), if_neg (by decide), if_neg (by decide), if_pos rfl] at hk2
      rw [writeK_rest (by decide), if_neg (by decide)]
      clear hss hr hn
      obtain ⟨h1, h2⟩ := hk2
      rcases (by omega : n = 1 ∨ n = 2 ∨ n = 3 ∨ n = 4 ∨ n = 5 ∨ n = 6 ∨ n = 7 ∨ n = 8 ∨ n = 9 ∨ n = 10 ∨ n = 11 ∨ n = 12) with rfl | rfl | rfl | rfl | rfl | rfl | rfl | rfl | rfl | rfl | rfl | rfl
      · rw [show numberK ⟨15, 0, 1, held⟩ = 11 from rfl, show Lib.itoa 11 = [49, 49] by decide +kernel]
        exact bytes_tilde2 W hN 15 1 held 49 49 pad hh hlk
      · rw [show numberK ⟨15, 0, 2, held⟩ = 12 from rfl, show Lib.itoa 12 = [49, 50] by decide +kernel]
        exact bytes_tilde2 W hN 15 2 held 49 50 pad hh hlk
      · rw [show numberK ⟨15, 0, 3, held⟩ = 13 from rfl, show Lib.itoa 13 = [49, 51] by decide +kernel]
        exact bytes_tilde2 W hN 15 3 held 49 51 pad hh hlk
      · rw [show numberK ⟨15, 0, 4, held⟩ = 14 from rfl, show Lib.itoa 14 = [49, 52] by decide +kernel]
        exact bytes_tilde2 W hN 15 4 held 49 52 pad hh hlk
      · rw [show numberK ⟨15, 0, 5, held⟩ = 15 from rfl, show Lib.itoa 15 = [49, 53] by decide +kernel]
        exact bytes_tilde2 W hN 15 5 held 49 53 pad hh hlk
      · rw [show numberK ⟨15, 0, 6, held⟩ = 17 from rfl, show Lib.itoa 17 = [49, 55] by decide +kernel]
        exact bytes_tilde2 W hN 15 6 held 49 55 pad hh hlk
      · rw [show numberK ⟨15, 0, 7, held⟩ = 18 from rfl, show Lib.itoa 18 = [49, 56] by decide +kernel]
        exact bytes_tilde2 W hN 15 7 held 49 56 pad hh hlk
      · rw [show numberK ⟨15, 0, 8, held⟩ = 19 from rfl, show Lib.itoa 19 = [49, 57] by decide +kernel]
        exact bytes_tilde2 W hN 15 8 held 49 57 pad hh hlk
      · rw [show numberK ⟨15, 0, 9, held⟩ = 20 from rfl, show Lib.itoa 20 = [50, 48] by decide +kernel]
        exact bytes_tilde2 W hN 15 9 held 50 48 pad hh hlk
      · rw [show numberK ⟨15, 0, 10, held⟩ = 21 from rfl, show Lib.itoa 21 = [50, 49] by decide +kernel]
        exact bytes_tilde2 W hN 15 10 held 50 49 pad hh hlk
      · rw [show numberK ⟨15, 0, 11, held⟩ = 23 from rfl, show Lib.itoa 23 = [50, 51] by decide +kernel]
        exact bytes_tilde2 W hN 15 11 held 50 51 pad hh hlk
      · rw [show numberK ⟨15, 0, 12, held⟩ = 24 from rfl, show Lib.itoa 24 = [50, 52] by decide +kernel]
        exact bytes_tilde2 W hN 15 12 held 50 52 pad hh hlk
    · obtain rfl : n = 0 := by omega
      by_cases k6 : 6 ≤ kind ∧ kind ≤ 14
      · rw [writeK_rest k6.1]
        clear hss hr hn hk2 k1 k15
        obtain ⟨h1, h2⟩ := k6
        rcases (by omega : kind = 6 ∨ kind = 7 ∨ kind = 8 ∨ kind = 9 ∨ kind = 10 ∨ kind = 11 ∨ kind = 12 ∨ kind = 13 ∨ kind = 14) with rfl | rfl | rfl | rfl | rfl | rfl | rfl | rfl | rfl
        · exact bytes_arrow W hN 6 held 65 pad hh (by decide) hlk
        · exact bytes_arrow W hN 7 held 66 pad hh (by decide) hlk
        · exact bytes_arrow W hN 8 held 67 pad hh (by decide) hlk
        · exact bytes_arrow W hN 9 held 68 pad hh (by decide) hlk
        · exact bytes_arrow W hN 10 held 72 pad hh (by decide) hlk
        · exact bytes_arrow W hN 11 held 70 pad hh (by decide) hlk
        · rw [if_neg (by decide), show numberK ⟨12, 0, 0, held⟩ = 5 from rfl, show Lib.itoa 5 = [53] by decide +kernel]
          exact bytes_tilde1 W hN 12 0 held 53 pad hh hlk
        · rw [if_neg (by decide), show numberK ⟨13, 0, 0, held⟩ = 6 from rfl, show Lib.itoa 6 = [54] by decide +kernel]
          exact bytes_tilde1 W hN 13 0 held 54 pad hh hlk
        · rw [if_neg (by decide), show numberK ⟨14, 0, 0, held⟩ = 3 from rfl, show Lib.itoa 3 = [51] by decide +kernel]
          exact bytes_tilde1 W hN 14 0 held 51 pad hh hlk
      · have hs : seqOf ⟨kind, 0, 0, 0⟩ = [] := Decidable.of_not_not fun h => by have := hss.1 h; omega
        rw [hs] at hlk
        refine bytes_few W hN kind held pad [] [] ?_ hlk
        unfold kindK at hk2
        dsimp only at hk2
        rw [if_neg k1] at hk2
        by_cases k2 : kind = 2 ∨ kind = 4
        · rw [if_pos k2] at hk2
          omega
        · rw [if_neg k2] at hk2
          by_cases k3 : kind = 3
          · rw [if_pos k3] at hk2
            omega
          · rw [if_neg k3] at hk2
            by_cases k5 : kind = 5
            · rw [if_pos k5] at hk2
              omega
            · rw [if_neg k5, if_neg k15] at hk2
              omega
end Go.Eng.YtecafnhnkklboaaDoor
end
