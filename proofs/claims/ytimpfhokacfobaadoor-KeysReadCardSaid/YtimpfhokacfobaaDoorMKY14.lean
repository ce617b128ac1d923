/- Texts put together: Key20, Key21, Key22. -/
import Derived.Test.YtimpfhokacfobaaDoorMKY13
import Derived.Test.YtimpfhokacfobaaDoorMKY3
import Derived.Test.YtimpfhokacfobaaDoorMT1
import Derived.Test.YtimpfhokacfobaaDoorME9
/- Keys: the reference's firstKey (b_ x_ q_ e_). -/
section
namespace Go.Eng.YtimpfhokacfobaaDoor
open Go Go.Eng Go.Proofs
variable (W : World)
set_option linter.unusedSimpArgs false
set_option maxRecDepth 100000
set_option linter.unusedVariables false
set_option maxHeartbeats 8000000
theorem indexDg_ok (c : UInt8) : Pure Tryd.prog W 44 [.str digS, .int .u8 c.toNat] (.int .i64 (Lib.indexByte digS c)) := by
  have h : Pure Tryd.prog W 44 [.str digS, .int .u8 c.toNat] (.int .i64 (Lib.indexByte digS (UInt8.ofNat c.toNat))) :=
    Pure.of_below Tryd.func44 rfl (by decide) rfl rfl fun w _ hw => (Tryd.strings_IndexByte ⟨#[48, 49, 50, 51, 52, 53, 54, 55, 56, 57, 59]⟩ c.toNat w).mono fun _ _ h => ⟨h.1, h.2 ▸ RowKit.Below.refl _ _⟩
  rwa [UInt8.ofNat_toNat] at h
theorem runeKey_ok (r : Int) : Pure Tryd.prog W 56 [.int .i32 r] (encKey ⟨1, r, 0, 0⟩) := by
  refine Pure.of (acalls_of_vc (drawOk W) Tryd.func56 rfl (by decide) (by decide) rfl ?_)
  (refine g0_ ?_; repeat ((first | refine n1_ fun b_ => ?_ | refine n2_ fun b_ => ?_ | refine Nat1.mk fun q_ hq_ => ?_ | refine em_ fun x_ hx_ => ?_ | refine Elem1.mk fun e_ he_ => ?_); refine g0_ ?_))
  exact .refl _
theorem firstKey0_ok (hT : Tabs W) (c : UInt8) (r : List UInt8) (hl : r.length ≤ 4000) (last : Bool) (hc : c.toNat ≠ 27) : Pure Tryd.prog W 37 [.str (c :: r), .bool last] (.tup [encKey (first0 (c :: r) last).1, .int .i64 (first0 (c :: r) last).2]) := by
  have hlen : (c :: r).length = r.length + 1 := rfl
  have hg0 : (c :: r).getD 0 0 = c := rfl
  have hr1 := runeKey_ok W
  have hfu := full_ok W hT (c :: r)
  have hnx := decodeRune_ok W hT (c :: r)
  have hd := dec_le (c :: r)
  have hw := widthOf_ok W ((dec (c :: r)).1 : Nat)
  rw [← width_eq] at hw
  unfold first0
  rw [hg0]
  by_cases h1 : c.toNat < 32 ∨ c.toNat = 127
  · rw [if_pos h1]
    clear hfu hnx hd hw
    unfold plainK
    by_cases k9 : c.toNat = 9
    · rw [if_pos k9]
      refine Pure.of (acalls_of_vc (drawOk W) Tryd.func37 rfl (by decide) (by decide) rfl ?_)
      (refine g0_ ?_; repeat ((first | refine n1_ fun b_ => ?_ | refine n2_ fun b_ => ?_ | refine Nat1.mk fun q_ hq_ => ?_ | refine em_ fun x_ hx_ => ?_ | refine Elem1.mk fun e_ he_ => ?_); refine g0_ ?_))
      (refine g1_ ?_; repeat ((first | refine n1_ fun b_ => ?_ | refine n2_ fun b_ => ?_ | refine Nat1.mk fun q_ hq_ => ?_ | refine em_ fun x_ hx_ => ?_ | refine Elem1.mk fun e_ he_ => ?_); refine g1_ ?_))
      exact .refl _
    rw [if_neg k9]
    by_cases k13 : c.toNat = 13
    · rw [if_pos k13]
      refine Pure.of (acalls_of_vc (drawOk W) Tryd.func37 rfl (by decide) (by decide) rfl ?_)
      (refine g0_ ?_; repeat ((first | refine n1_ fun b_ => ?_ | refine n2_ fun b_ => ?_ | refine Nat1.mk fun q_ hq_ => ?_ | refine em_ fun x_ hx_ => ?_ | refine Elem1.mk fun e_ he_ => ?_); refine g0_ ?_))
      (refine g1_ ?_; repeat ((first | refine n1_ fun b_ => ?_ | refine n2_ fun b_ => ?_ | refine Nat1.mk fun q_ hq_ => ?_ | refine em_ fun x_ hx_ => ?_ | refine Elem1.mk fun e_ he_ => ?_); refine g1_ ?_))
      exact .refl _
    rw [if_neg k13]
    by_cases k8 : c.toNat = 127 ∨ c.toNat = 8
    · rw [if_pos k8]
      rcases k8 with k8 | k8
      all_goals
        refine Pure.of (acalls_of_vc (drawOk W) Tryd.func37 rfl (by decide) (by decide) rfl ?_)
        (refine g0_ ?_; repeat ((first | refine n1_ fun b_ => ?_ | refine n2_ fun b_ => ?_ | refine Nat1.mk fun q_ hq_ => ?_ | refine em_ fun x_ hx_ => ?_ | refine Elem1.mk fun e_ he_ => ?_); refine g0_ ?_))
        (refine g1_ ?_; repeat ((first | refine n1_ fun b_ => ?_ | refine n2_ fun b_ => ?_ | refine Nat1.mk fun q_ hq_ => ?_ | refine em_ fun x_ hx_ => ?_ | refine Elem1.mk fun e_ he_ => ?_); refine g1_ ?_))
        exact .refl _
    rw [if_neg k8]
    by_cases k0 : c.toNat = 0
    · rw [if_pos k0]
      refine Pure.of (acalls_of_vc (drawOk W) Tryd.func37 rfl (by decide) (by decide) rfl ?_)
      (refine g0_ ?_; repeat ((first | refine n1_ fun b_ => ?_ | refine n2_ fun b_ => ?_ | refine Nat1.mk fun q_ hq_ => ?_ | refine em_ fun x_ hx_ => ?_ | refine Elem1.mk fun e_ he_ => ?_); refine g0_ ?_))
      (refine g1_ ?_; repeat ((first | refine n1_ fun b_ => ?_ | refine n2_ fun b_ => ?_ | refine Nat1.mk fun q_ hq_ => ?_ | refine em_ fun x_ hx_ => ?_ | refine Elem1.mk fun e_ he_ => ?_); refine g1_ ?_))
      refine ((hr1 32)).use ?_; (refine g0_ ?_; repeat ((first | refine n1_ fun b_ => ?_ | refine n2_ fun b_ => ?_ | refine Nat1.mk fun q_ hq_ => ?_ | refine em_ fun x_ hx_ => ?_ | refine Elem1.mk fun e_ he_ => ?_); refine g0_ ?_))
      exact .refl _
    rw [if_neg k0]
    by_cases k26 : c.toNat ≤ 26
    · rw [if_pos k26]
      refine Pure.of (acalls_of_vc (drawOk W) Tryd.func37 rfl (by decide) (by decide) rfl ?_)
      (refine g0_ ?_; repeat ((first | refine n1_ fun b_ => ?_ | refine n2_ fun b_ => ?_ | refine Nat1.mk fun q_ hq_ => ?_ | refine em_ fun x_ hx_ => ?_ | refine Elem1.mk fun e_ he_ => ?_); refine g0_ ?_))
      (refine g1_ ?_; repeat ((first | refine n1_ fun b_ => ?_ | refine n2_ fun b_ => ?_ | refine Nat1.mk fun q_ hq_ => ?_ | refine em_ fun x_ hx_ => ?_ | refine Elem1.mk fun e_ he_ => ?_); refine g1_ ?_))
      exact .refl _
    rw [if_neg k26]
    have k32 : c.toNat < 32 := by omega
    refine Pure.of (acalls_of_vc (drawOk W) Tryd.func37 rfl (by decide) (by decide) rfl ?_)
    (refine g0_ ?_; repeat ((first | refine n1_ fun b_ => ?_ | refine n2_ fun b_ => ?_ | refine Nat1.mk fun q_ hq_ => ?_ | refine em_ fun x_ hx_ => ?_ | refine Elem1.mk fun e_ he_ => ?_); refine g0_ ?_))
    (refine g1_ ?_; repeat ((first | refine n1_ fun b_ => ?_ | refine n2_ fun b_ => ?_ | refine Nat1.mk fun q_ hq_ => ?_ | refine em_ fun x_ hx_ => ?_ | refine Elem1.mk fun e_ he_ => ?_); refine g1_ ?_))
    refine ((hr1 63)).use ?_; (refine g0_ ?_; repeat ((first | refine n1_ fun b_ => ?_ | refine n2_ fun b_ => ?_ | refine Nat1.mk fun q_ hq_ => ?_ | refine em_ fun x_ hx_ => ?_ | refine Elem1.mk fun e_ he_ => ?_); refine g0_ ?_))
    exact .refl _
  · rw [if_neg h1]
    have k32 : 32 ≤ c.toNat := by omega
    have k127 : c.toNat ≠ 127 := by omega
    generalize fullL (c :: r) = fl at *
    generalize dec (c :: r) = d at *
    obtain ⟨dr, dn⟩ := d
    dsimp only at *
    by_cases h2 : fl = false ∧ last = false
    · obtain ⟨rfl, rfl⟩ := h2
      rw [if_pos ⟨rfl, rfl⟩]
      refine Pure.of (acalls_of_vc (drawOk W) Tryd.func37 rfl (by decide) (by decide) rfl ?_)
      (refine g0_ ?_; repeat ((first | refine n1_ fun b_ => ?_ | refine n2_ fun b_ => ?_ | refine Nat1.mk fun q_ hq_ => ?_ | refine em_ fun x_ hx_ => ?_ | refine Elem1.mk fun e_ he_ => ?_); refine g0_ ?_))
      (refine g1_ ?_; repeat ((first | refine n1_ fun b_ => ?_ | refine n2_ fun b_ => ?_ | refine Nat1.mk fun q_ hq_ => ?_ | refine em_ fun x_ hx_ => ?_ | refine Elem1.mk fun e_ he_ => ?_); refine g1_ ?_))
      refine (hfu).use ?_; (refine g0_ ?_; repeat ((first | refine n1_ fun b_ => ?_ | refine n2_ fun b_ => ?_ | refine Nat1.mk fun q_ hq_ => ?_ | refine em_ fun x_ hx_ => ?_ | refine Elem1.mk fun e_ he_ => ?_); refine g0_ ?_))
      (refine g1_ ?_; repeat ((first | refine n1_ fun b_ => ?_ | refine n2_ fun b_ => ?_ | refine Nat1.mk fun q_ hq_ => ?_ | refine em_ fun x_ hx_ => ?_ | refine Elem1.mk fun e_ he_ => ?_); refine g1_ ?_))
      exact .refl _
    · rw [if_neg h2]
      have hor : last = true ∨ (fl = true ∧ last = false) := by
        cases fl
        · cases last
          · exact absurd ⟨rfl, rfl⟩ h2
          · exact .inl rfl
        · cases last
          · exact .inr ⟨rfl, rfl⟩
          · exact .inl rfl
      clear h2
      by_cases h3 : widthL (dr : Nat) = 0
      · rw [if_pos h3]
        rcases hor with rfl | ⟨rfl, rfl⟩
        · refine Pure.of (acalls_of_vc (drawOk W) Tryd.func37 rfl (by decide) (by decide) rfl ?_)
          (refine g0_ ?_; repeat ((first | refine n1_ fun b_ => ?_ | refine n2_ fun b_ => ?_ | refine Nat1.mk fun q_ hq_ => ?_ | refine em_ fun x_ hx_ => ?_ | refine Elem1.mk fun e_ he_ => ?_); refine g0_ ?_))
          (refine g1_ ?_; repeat ((first | refine n1_ fun b_ => ?_ | refine n2_ fun b_ => ?_ | refine Nat1.mk fun q_ hq_ => ?_ | refine em_ fun x_ hx_ => ?_ | refine Elem1.mk fun e_ he_ => ?_); refine g1_ ?_))
          refine (hnx).use ?_; (refine g0_ ?_; repeat ((first | refine n1_ fun b_ => ?_ | refine n2_ fun b_ => ?_ | refine Nat1.mk fun q_ hq_ => ?_ | refine em_ fun x_ hx_ => ?_ | refine Elem1.mk fun e_ he_ => ?_); refine g0_ ?_))
          (refine g0_ ?_; repeat ((first | refine n1_ fun b_ => ?_ | refine n2_ fun b_ => ?_ | refine Nat1.mk fun q_ hq_ => ?_ | refine em_ fun x_ hx_ => ?_ | refine Elem1.mk fun e_ he_ => ?_); refine g0_ ?_))
          refine (hw).use ?_; (refine g0_ ?_; repeat ((first | refine n1_ fun b_ => ?_ | refine n2_ fun b_ => ?_ | refine Nat1.mk fun q_ hq_ => ?_ | refine em_ fun x_ hx_ => ?_ | refine Elem1.mk fun e_ he_ => ?_); refine g0_ ?_))
          (refine g1_ ?_; repeat ((first | refine n1_ fun b_ => ?_ | refine n2_ fun b_ => ?_ | refine Nat1.mk fun q_ hq_ => ?_ | refine em_ fun x_ hx_ => ?_ | refine Elem1.mk fun e_ he_ => ?_); refine g1_ ?_))
          refine ((hr1 63)).use ?_; (refine g0_ ?_; repeat ((first | refine n1_ fun b_ => ?_ | refine n2_ fun b_ => ?_ | refine Nat1.mk fun q_ hq_ => ?_ | refine em_ fun x_ hx_ => ?_ | refine Elem1.mk fun e_ he_ => ?_); refine g0_ ?_))
          exact .refl _
        · refine Pure.of (acalls_of_vc (drawOk W) Tryd.func37 rfl (by decide) (by decide) rfl ?_)
          (refine g0_ ?_; repeat ((first | refine n1_ fun b_ => ?_ | refine n2_ fun b_ => ?_ | refine Nat1.mk fun q_ hq_ => ?_ | refine em_ fun x_ hx_ => ?_ | refine Elem1.mk fun e_ he_ => ?_); refine g0_ ?_))
          (refine g1_ ?_; repeat ((first | refine n1_ fun b_ => ?_ | refine n2_ fun b_ => ?_ | refine Nat1.mk fun q_ hq_ => ?_ | refine em_ fun x_ hx_ => ?_ | refine Elem1.mk fun e_ he_ => ?_); refine g1_ ?_))
          refine (hfu).use ?_; (refine g0_ ?_; repeat ((first | refine n1_ fun b_ => ?_ | refine n2_ fun b_ => ?_ | refine Nat1.mk fun q_ hq_ => ?_ | refine em_ fun x_ hx_ => ?_ | refine Elem1.mk fun e_ he_ => ?_); refine g0_ ?_))
          (refine g1_ ?_; repeat ((first | refine n1_ fun b_ => ?_ | refine n2_ fun b_ => ?_ | refine Nat1.mk fun q_ hq_ => ?_ | refine em_ fun x_ hx_ => ?_ | refine Elem1.mk fun e_ he_ => ?_); refine g1_ ?_))
          refine (hnx).use ?_; (refine g0_ ?_; repeat ((first | refine n1_ fun b_ => ?_ | refine n2_ fun b_ => ?_ | refine Nat1.mk fun q_ hq_ => ?_ | refine em_ fun x_ hx_ => ?_ | refine Elem1.mk fun e_ he_ => ?_); refine g0_ ?_))
          (refine g0_ ?_; repeat ((first | refine n1_ fun b_ => ?_ | refine n2_ fun b_ => ?_ | refine Nat1.mk fun q_ hq_ => ?_ | refine em_ fun x_ hx_ => ?_ | refine Elem1.mk fun e_ he_ => ?_); refine g0_ ?_))
          refine (hw).use ?_; (refine g0_ ?_; repeat ((first | refine n1_ fun b_ => ?_ | refine n2_ fun b_ => ?_ | refine Nat1.mk fun q_ hq_ => ?_ | refine em_ fun x_ hx_ => ?_ | refine Elem1.mk fun e_ he_ => ?_); refine g0_ ?_))
          (refine g1_ ?_; repeat ((first | refine n1_ fun b_ => ?_ | refine n2_ fun b_ => ?_ | refine Nat1.mk fun q_ hq_ => ?_ | refine em_ fun x_ hx_ => ?_ | refine Elem1.mk fun e_ he_ => ?_); refine g1_ ?_))
          refine ((hr1 63)).use ?_; (refine g0_ ?_; repeat ((first | refine n1_ fun b_ => ?_ | refine n2_ fun b_ => ?_ | refine Nat1.mk fun q_ hq_ => ?_ | refine em_ fun x_ hx_ => ?_ | refine Elem1.mk fun e_ he_ => ?_); refine g0_ ?_))
          exact .refl _
      · rw [if_neg h3]
        rcases hor with rfl | ⟨rfl, rfl⟩
        · refine Pure.of (acalls_of_vc (drawOk W) Tryd.func37 rfl (by decide) (by decide) rfl ?_)
          (refine g0_ ?_; repeat ((first | refine n1_ fun b_ => ?_ | refine n2_ fun b_ => ?_ | refine Nat1.mk fun q_ hq_ => ?_ | refine em_ fun x_ hx_ => ?_ | refine Elem1.mk fun e_ he_ => ?_); refine g0_ ?_))
          (refine g1_ ?_; repeat ((first | refine n1_ fun b_ => ?_ | refine n2_ fun b_ => ?_ | refine Nat1.mk fun q_ hq_ => ?_ | refine em_ fun x_ hx_ => ?_ | refine Elem1.mk fun e_ he_ => ?_); refine g1_ ?_))
          refine (hnx).use ?_; (refine g0_ ?_; repeat ((first | refine n1_ fun b_ => ?_ | refine n2_ fun b_ => ?_ | refine Nat1.mk fun q_ hq_ => ?_ | refine em_ fun x_ hx_ => ?_ | refine Elem1.mk fun e_ he_ => ?_); refine g0_ ?_))
          (refine g0_ ?_; repeat ((first | refine n1_ fun b_ => ?_ | refine n2_ fun b_ => ?_ | refine Nat1.mk fun q_ hq_ => ?_ | refine em_ fun x_ hx_ => ?_ | refine Elem1.mk fun e_ he_ => ?_); refine g0_ ?_))
          refine (hw).use ?_; (refine g0_ ?_; repeat ((first | refine n1_ fun b_ => ?_ | refine n2_ fun b_ => ?_ | refine Nat1.mk fun q_ hq_ => ?_ | refine em_ fun x_ hx_ => ?_ | refine Elem1.mk fun e_ he_ => ?_); refine g0_ ?_))
          (refine g1_ ?_; repeat ((first | refine n1_ fun b_ => ?_ | refine n2_ fun b_ => ?_ | refine Nat1.mk fun q_ hq_ => ?_ | refine em_ fun x_ hx_ => ?_ | refine Elem1.mk fun e_ he_ => ?_); refine g1_ ?_))
          refine ((hr1 dr)).use ?_; (refine g0_ ?_; repeat ((first | refine n1_ fun b_ => ?_ | refine n2_ fun b_ => ?_ | refine Nat1.mk fun q_ hq_ => ?_ | refine em_ fun x_ hx_ => ?_ | refine Elem1.mk fun e_ he_ => ?_); refine g0_ ?_))
          exact .refl _
        · refine Pure.of (acalls_of_vc (drawOk W) Tryd.func37 rfl (by decide) (by decide) rfl ?_)
          (refine g0_ ?_; repeat ((first | refine n1_ fun b_ => ?_ | refine n2_ fun b_ => ?_ | refine Nat1.mk fun q_ hq_ => ?_ | refine em_ fun x_ hx_ => ?_ | refine Elem1.mk fun e_ he_ => ?_); refine g0_ ?_))
          (refine g1_ ?_; repeat ((first | refine n1_ fun b_ => ?_ | refine n2_ fun b_ => ?_ | refine Nat1.mk fun q_ hq_ => ?_ | refine em_ fun x_ hx_ => ?_ | refine Elem1.mk fun e_ he_ => ?_); refine g1_ ?_))
          refine (hfu).use ?_; (refine g0_ ?_; repeat ((first | refine n1_ fun b_ => ?_ | refine n2_ fun b_ => ?_ | refine Nat1.mk fun q_ hq_ => ?_ | refine em_ fun x_ hx_ => ?_ | refine Elem1.mk fun e_ he_ => ?_); refine g0_ ?_))
          (refine g1_ ?_; repeat ((first | refine n1_ fun b_ => ?_ | refine n2_ fun b_ => ?_ | refine Nat1.mk fun q_ hq_ => ?_ | refine em_ fun x_ hx_ => ?_ | refine Elem1.mk fun e_ he_ => ?_); refine g1_ ?_))
          refine (hnx).use ?_; (refine g0_ ?_; repeat ((first | refine n1_ fun b_ => ?_ | refine n2_ fun b_ => ?_ | refine Nat1.mk fun q_ hq_ => ?_ | refine em_ fun x_ hx_ => ?_ | refine Elem1.mk fun e_ he_ => ?_); refine g0_ ?_))
          (refine g0_ ?_; repeat ((first | refine n1_ fun b_ => ?_ | refine n2_ fun b_ => ?_ | refine Nat1.mk fun q_ hq_ => ?_ | refine em_ fun x_ hx_ => ?_ | refine Elem1.mk fun e_ he_ => ?_); refine g0_ ?_))
          refine (hw).use ?_; (refine g0_ ?_; repeat ((first | refine n1_ fun b_ => ?_ | refine n2_ fun b_ => ?_ | refine Nat1.mk fun q_ hq_ => ?_ | refine em_ fun x_ hx_ => ?_ | refine Elem1.mk fun e_ he_ => ?_); refine g0_ ?_))
          (refine g1_ ?_; repeat ((first | refine n1_ fun b_ => ?_ | refine n2_ fun b_ => ?_ | refine Nat1.mk fun q_ hq_ => ?_ | refine em_ fun x_ hx_ => ?_ | refine Elem1.mk fun e_ he_ => ?_); refine g1_ ?_))
          refine ((hr1 dr)).use ?_; (refine g0_ ?_; repeat ((first | refine n1_ fun b_ => ?_ | refine n2_ fun b_ => ?_ | refine Nat1.mk fun q_ hq_ => ?_ | refine em_ fun x_ hx_ => ?_ | refine Elem1.mk fun e_ he_ => ?_); refine g0_ ?_))
          exact .refl _
end Go.Eng.YtimpfhokacfobaaDoor
end

/- Keys: the reference's firstKey at ESC, ReadKeys (b_ x_ q_ e_). -/
section
namespace Go.Eng.YtimpfhokacfobaaDoor
open Go Go.Eng Go.Proofs
variable (W : World)
set_option linter.unusedSimpArgs false
set_option maxRecDepth 100000
set_option linter.unusedVariables false
set_option maxHeartbeats 8000000
theorem seqR_ok (hN : Nums W) (hM : MaxJ W) (hE : ErrJ W) (c0 c1 : UInt8) (r : List UInt8) (hr : r.length ≤ 4000) (last : Bool) (h0 : c0.toNat = 27) (h1 : c1.toNat = 91 ∨ c1.toNat = 79) :
    Pure Tryd.prog W 37 [.str (c0 :: c1 :: r), .bool last] (.tup [encKey (seqK (c0 :: c1 :: r) last).1, .int .i64 (seqK (c0 :: c1 :: r) last).2]) := by
  have hg1 : (c0 :: c1 :: r).getD 1 0 = c1 := rfl
  have hat1 : (c0 :: c1 :: r)[1]? = some c1 := rfl
  have hlen : (c0 :: c1 :: r).length = r.length + 2 := rfl
  have hru := @run_is (c0 :: c1 :: r)
  have hdg := run_dg (b := c0 :: c1 :: r)
  rw [hg1] at hru
  have hko := fun s hs hd last => keyOf_ok W hN hM hE s hs (fun w hw => cnt_pos fun c hc => (dg_words hd w hw c hc).1) last
  rw [seqK_ref, hg1]
  rcases h1 with h1 | h1
  · have h91 : c1 = 91 := UInt8.toNat_inj.1 h1
    refine Pure.of (acalls_of_vc (DL_ok (by decide)) Tryd.func37 rfl (by decide) (by decide) rfl ?_)
    (refine g0_ ?_; repeat ((first | refine n1_ fun b_ => ?_ | refine n2_ fun b_ => ?_ | refine Nat1.mk fun q_ hq_ => ?_ | refine em_ fun x_ hx_ => ?_ | refine Elem1.mk fun e_ he_ => ?_); refine g0_ ?_))
    (refine g1_ ?_; repeat ((first | refine n1_ fun b_ => ?_ | refine n2_ fun b_ => ?_ | refine Nat1.mk fun q_ hq_ => ?_ | refine em_ fun x_ hx_ => ?_ | refine Elem1.mk fun e_ he_ => ?_); refine g1_ ?_))
    generalize c0 :: c1 :: r = b at *
    obtain ⟨bz, rfl⟩ : ∃ z, z = b_ := ⟨_, rfl⟩
    refine' loopI (α := Nat) (fun i => [(10, .int .i64 i)]) [(0, _), (1, _), (4, _)] (fun i => [⟨bz, .row 4 [.agg [.int .i64 0, .int .i32 0, .int .i64 0, .int .i64 0]] 0⟩]) (fun i => (2 ≤ i ∧ i ≤ b.length ∧ i ≤ 12) ∧ ∀ k x, 2 ≤ k → k < i → b[k]? = some x → isDg x = true) (fun i => b.length - i) 2 ?_ ?_
    · exact ⟨by omega, fun k x h1 h2 => by omega⟩
    rintro i ⟨hi, hd⟩
    by_cases hil : i = b.length
    · have hR := hru hi.1 hi.2.1 hi.2.2 (fun _ => h91) hd (.inl hil)
      clear hru hd hko hdg
      rw [hR]
      cases last with
      | false =>
        rw [if_pos ⟨hil, rfl⟩]
        (refine g0_ ?_; repeat ((first | refine n1_ fun b_ => ?_ | refine n2_ fun b_ => ?_ | refine Nat1.mk fun q_ hq_ => ?_ | refine em_ fun x_ hx_ => ?_ | refine Elem1.mk fun e_ he_ => ?_); refine g0_ ?_))
        (refine g1_ ?_; repeat ((first | refine n1_ fun b_ => ?_ | refine n2_ fun b_ => ?_ | refine Nat1.mk fun q_ hq_ => ?_ | refine em_ fun x_ hx_ => ?_ | refine Elem1.mk fun e_ he_ => ?_); refine g1_ ?_))
        exact .refl _
      | true =>
        rw [if_neg (fun h => by cases h.2), if_neg fun h => by omega]
        (refine g0_ ?_; repeat ((first | refine n1_ fun b_ => ?_ | refine n2_ fun b_ => ?_ | refine Nat1.mk fun q_ hq_ => ?_ | refine em_ fun x_ hx_ => ?_ | refine Elem1.mk fun e_ he_ => ?_); refine g0_ ?_))
        (refine g1_ ?_; repeat ((first | refine n1_ fun b_ => ?_ | refine n2_ fun b_ => ?_ | refine Nat1.mk fun q_ hq_ => ?_ | refine em_ fun x_ hx_ => ?_ | refine Elem1.mk fun e_ he_ => ?_); refine g1_ ?_))
        exact .refl _
    · have hxl : i < b.length := by omega
      have hx := List.getElem?_eq_getElem hxl
      generalize b[i] = x at *
      have hix := indexDg_ok W x
      have hdx := dig_index x
      by_cases h12 : i = 12
      · have hR := hru hi.1 hi.2.1 hi.2.2 (fun _ => h91) hd (.inr (.inl h12))
        rw [hR] at hdg ⊢
        clear hix hdx
        have htl : ((b.take i).drop 2).length ≤ 4096 := by rw [List.length_drop, List.length_take]; omega
        have ht := hko ((b.take i).drop 2) htl hdg x
        rw [if_neg fun h => hil h.1, show b.getD i 0 = x by rw [List.getD_eq_getElem?_getD, hx]; rfl]
        generalize keyOfR ((b.take i).drop 2) x = T at *
        obtain ⟨⟨kd, kr, kn, kh⟩, ok⟩ := T
        clear hru hd hdg hko htl
        dsimp only at ht ⊢
        cases ok with
        | false =>
          rw [if_neg (fun h => by cases h.2.1)]
          (refine g0_ ?_; repeat ((first | refine n1_ fun b_ => ?_ | refine n2_ fun b_ => ?_ | refine Nat1.mk fun q_ hq_ => ?_ | refine em_ fun x_ hx_ => ?_ | refine Elem1.mk fun e_ he_ => ?_); refine g0_ ?_))
          (refine g1_ ?_; repeat ((first | refine n1_ fun b_ => ?_ | refine n2_ fun b_ => ?_ | refine Nat1.mk fun q_ hq_ => ?_ | refine em_ fun x_ hx_ => ?_ | refine Elem1.mk fun e_ he_ => ?_); refine g1_ ?_))
          repeat ((first | (rw [hx] at he_; obtain rfl := Option.some.inj he_; clear he_) | (rw [hat1] at he_; obtain rfl := Option.some.inj he_; clear he_)); (refine g1_ ?_; repeat ((first | refine n1_ fun b_ => ?_ | refine n2_ fun b_ => ?_ | refine Nat1.mk fun q_ hq_ => ?_ | refine em_ fun x_ hx_ => ?_ | refine Elem1.mk fun e_ he_ => ?_); refine g1_ ?_)))
          skip
          (refine g1_ ?_; repeat ((first | refine n1_ fun b_ => ?_ | refine n2_ fun b_ => ?_ | refine Nat1.mk fun q_ hq_ => ?_ | refine em_ fun x_ hx_ => ?_ | refine Elem1.mk fun e_ he_ => ?_); refine g1_ ?_))
          refine Draws10.chain ⟨12, [.new, .new, .new, .new, .new, .new, .new, .new, .new, .new, .turn, .skip], [(10, [.again, .again, .again, .again, .again, .again, .again, .again, .again, .again, .keep, .turn]), (11, [.keep, .keep, .keep, .keep, .keep, .keep, .keep, .keep, .keep, .again, .keep, .keep])], by decide +kernel, ?_⟩; (refine g0_ ?_; repeat ((first | refine n1_ fun b_ => ?_ | refine n2_ fun b_ => ?_ | refine Nat1.mk fun q_ hq_ => ?_ | refine em_ fun x_ hx_ => ?_ | refine Elem1.mk fun e_ he_ => ?_); refine g0_ ?_))
          repeat ((first | (rw [hx] at he_; obtain rfl := Option.some.inj he_; clear he_) | (rw [hat1] at he_; obtain rfl := Option.some.inj he_; clear he_)); (refine g1_ ?_; repeat ((first | refine n1_ fun b_ => ?_ | refine n2_ fun b_ => ?_ | refine Nat1.mk fun q_ hq_ => ?_ | refine em_ fun x_ hx_ => ?_ | refine Elem1.mk fun e_ he_ => ?_); refine g1_ ?_)))
          refine ⟨_, (ht).quiet, ?_⟩; (refine g0_ ?_; repeat ((first | refine n1_ fun b_ => ?_ | refine n2_ fun b_ => ?_ | refine Nat1.mk fun q_ hq_ => ?_ | refine em_ fun x_ hx_ => ?_ | refine Elem1.mk fun e_ he_ => ?_); refine g0_ ?_))
          repeat ((first | (rw [hx] at he_; obtain rfl := Option.some.inj he_; clear he_) | (rw [hat1] at he_; obtain rfl := Option.some.inj he_; clear he_)); (refine g1_ ?_; repeat ((first | refine n1_ fun b_ => ?_ | refine n2_ fun b_ => ?_ | refine Nat1.mk fun q_ hq_ => ?_ | refine em_ fun x_ hx_ => ?_ | refine Elem1.mk fun e_ he_ => ?_); refine g1_ ?_)))
          refine ⟨_, (ht).quiet, ?_⟩; (refine g0_ ?_; repeat ((first | refine n1_ fun b_ => ?_ | refine n2_ fun b_ => ?_ | refine Nat1.mk fun q_ hq_ => ?_ | refine em_ fun x_ hx_ => ?_ | refine Elem1.mk fun e_ he_ => ?_); refine g0_ ?_))
          repeat ((first | (rw [hx] at he_; obtain rfl := Option.some.inj he_; clear he_) | (rw [hat1] at he_; obtain rfl := Option.some.inj he_; clear he_)); (refine g1_ ?_; repeat ((first | refine n1_ fun b_ => ?_ | refine n2_ fun b_ => ?_ | refine Nat1.mk fun q_ hq_ => ?_ | refine em_ fun x_ hx_ => ?_ | refine Elem1.mk fun e_ he_ => ?_); refine g1_ ?_)))
          (refine g1_ ?_; repeat ((first | refine n1_ fun b_ => ?_ | refine n2_ fun b_ => ?_ | refine Nat1.mk fun q_ hq_ => ?_ | refine em_ fun x_ hx_ => ?_ | refine Elem1.mk fun e_ he_ => ?_); refine g1_ ?_))
          repeat ((first | (rw [hx] at he_; obtain rfl := Option.some.inj he_; clear he_) | (rw [hat1] at he_; obtain rfl := Option.some.inj he_; clear he_)); (refine g1_ ?_; repeat ((first | refine n1_ fun b_ => ?_ | refine n2_ fun b_ => ?_ | refine Nat1.mk fun q_ hq_ => ?_ | refine em_ fun x_ hx_ => ?_ | refine Elem1.mk fun e_ he_ => ?_); refine g1_ ?_)))
          exact .refl _
        | true =>
          rw [if_pos (show i < b.length ∧ true = true ∧ (c1 = 91 ∨ (6 ≤ kd ∧ kd ≤ 11)) from ⟨hxl, rfl, .inl h91⟩)]
          (refine g0_ ?_; repeat ((first | refine n1_ fun b_ => ?_ | refine n2_ fun b_ => ?_ | refine Nat1.mk fun q_ hq_ => ?_ | refine em_ fun x_ hx_ => ?_ | refine Elem1.mk fun e_ he_ => ?_); refine g0_ ?_))
          (refine g1_ ?_; repeat ((first | refine n1_ fun b_ => ?_ | refine n2_ fun b_ => ?_ | refine Nat1.mk fun q_ hq_ => ?_ | refine em_ fun x_ hx_ => ?_ | refine Elem1.mk fun e_ he_ => ?_); refine g1_ ?_))
          repeat ((first | (rw [hx] at he_; obtain rfl := Option.some.inj he_; clear he_) | (rw [hat1] at he_; obtain rfl := Option.some.inj he_; clear he_)); (refine g1_ ?_; repeat ((first | refine n1_ fun b_ => ?_ | refine n2_ fun b_ => ?_ | refine Nat1.mk fun q_ hq_ => ?_ | refine em_ fun x_ hx_ => ?_ | refine Elem1.mk fun e_ he_ => ?_); refine g1_ ?_)))
          skip
          (refine g1_ ?_; repeat ((first | refine n1_ fun b_ => ?_ | refine n2_ fun b_ => ?_ | refine Nat1.mk fun q_ hq_ => ?_ | refine em_ fun x_ hx_ => ?_ | refine Elem1.mk fun e_ he_ => ?_); refine g1_ ?_))
          refine Draws10.chain ⟨12, [.new, .new, .new, .new, .new, .new, .new, .new, .new, .new, .turn, .skip], [(10, [.again, .again, .again, .again, .again, .again, .again, .again, .again, .again, .keep, .turn]), (11, [.keep, .keep, .keep, .keep, .keep, .keep, .keep, .keep, .keep, .again, .keep, .keep])], by decide +kernel, ?_⟩; (refine g0_ ?_; repeat ((first | refine n1_ fun b_ => ?_ | refine n2_ fun b_ => ?_ | refine Nat1.mk fun q_ hq_ => ?_ | refine em_ fun x_ hx_ => ?_ | refine Elem1.mk fun e_ he_ => ?_); refine g0_ ?_))
          repeat ((first | (rw [hx] at he_; obtain rfl := Option.some.inj he_; clear he_) | (rw [hat1] at he_; obtain rfl := Option.some.inj he_; clear he_)); (refine g1_ ?_; repeat ((first | refine n1_ fun b_ => ?_ | refine n2_ fun b_ => ?_ | refine Nat1.mk fun q_ hq_ => ?_ | refine em_ fun x_ hx_ => ?_ | refine Elem1.mk fun e_ he_ => ?_); refine g1_ ?_)))
          refine ⟨_, (ht).quiet, ?_⟩; (refine g0_ ?_; repeat ((first | refine n1_ fun b_ => ?_ | refine n2_ fun b_ => ?_ | refine Nat1.mk fun q_ hq_ => ?_ | refine em_ fun x_ hx_ => ?_ | refine Elem1.mk fun e_ he_ => ?_); refine g0_ ?_))
          repeat ((first | (rw [hx] at he_; obtain rfl := Option.some.inj he_; clear he_) | (rw [hat1] at he_; obtain rfl := Option.some.inj he_; clear he_)); (refine g1_ ?_; repeat ((first | refine n1_ fun b_ => ?_ | refine n2_ fun b_ => ?_ | refine Nat1.mk fun q_ hq_ => ?_ | refine em_ fun x_ hx_ => ?_ | refine Elem1.mk fun e_ he_ => ?_); refine g1_ ?_)))
          refine ⟨_, (ht).quiet, ?_⟩; (refine g0_ ?_; repeat ((first | refine n1_ fun b_ => ?_ | refine n2_ fun b_ => ?_ | refine Nat1.mk fun q_ hq_ => ?_ | refine em_ fun x_ hx_ => ?_ | refine Elem1.mk fun e_ he_ => ?_); refine g0_ ?_))
          repeat ((first | (rw [hx] at he_; obtain rfl := Option.some.inj he_; clear he_) | (rw [hat1] at he_; obtain rfl := Option.some.inj he_; clear he_)); (refine g1_ ?_; repeat ((first | refine n1_ fun b_ => ?_ | refine n2_ fun b_ => ?_ | refine Nat1.mk fun q_ hq_ => ?_ | refine em_ fun x_ hx_ => ?_ | refine Elem1.mk fun e_ he_ => ?_); refine g1_ ?_)))
          (refine g1_ ?_; repeat ((first | refine n1_ fun b_ => ?_ | refine n2_ fun b_ => ?_ | refine Nat1.mk fun q_ hq_ => ?_ | refine em_ fun x_ hx_ => ?_ | refine Elem1.mk fun e_ he_ => ?_); refine g1_ ?_))
          repeat ((first | (rw [hx] at he_; obtain rfl := Option.some.inj he_; clear he_) | (rw [hat1] at he_; obtain rfl := Option.some.inj he_; clear he_)); (refine g1_ ?_; repeat ((first | refine n1_ fun b_ => ?_ | refine n2_ fun b_ => ?_ | refine Nat1.mk fun q_ hq_ => ?_ | refine em_ fun x_ hx_ => ?_ | refine Elem1.mk fun e_ he_ => ?_); refine g1_ ?_)))
          exact .refl _
      · cases hg : isDg x with
        | true =>
          rw [hg] at hdx
          replace hdx := of_decide_eq_true hdx
          have hnx : ∀ k y, 2 ≤ k → k < i + 1 → b[k]? = some y → isDg y = true := fun k y a1 a2 a3 => by
            rcases Nat.lt_or_ge k i with h3 | h3
            · exact hd k y a1 h3 a3
            · obtain rfl : k = i := by omega
              rw [hx, Option.some.injEq] at a3
              subst a3
              exact hg
          clear hru hd hko hdg hg
          (refine g0_ ?_; repeat ((first | refine n1_ fun b_ => ?_ | refine n2_ fun b_ => ?_ | refine Nat1.mk fun q_ hq_ => ?_ | refine em_ fun x_ hx_ => ?_ | refine Elem1.mk fun e_ he_ => ?_); refine g0_ ?_))
          (refine g1_ ?_; repeat ((first | refine n1_ fun b_ => ?_ | refine n2_ fun b_ => ?_ | refine Nat1.mk fun q_ hq_ => ?_ | refine em_ fun x_ hx_ => ?_ | refine Elem1.mk fun e_ he_ => ?_); refine g1_ ?_))
          repeat ((first | (rw [hx] at he_; obtain rfl := Option.some.inj he_; clear he_) | (rw [hat1] at he_; obtain rfl := Option.some.inj he_; clear he_)); (refine g1_ ?_; repeat ((first | refine n1_ fun b_ => ?_ | refine n2_ fun b_ => ?_ | refine Nat1.mk fun q_ hq_ => ?_ | refine em_ fun x_ hx_ => ?_ | refine Elem1.mk fun e_ he_ => ?_); refine g1_ ?_)))
          refine (hix).use ?_; (refine g0_ ?_; repeat ((first | refine n1_ fun b_ => ?_ | refine n2_ fun b_ => ?_ | refine Nat1.mk fun q_ hq_ => ?_ | refine em_ fun x_ hx_ => ?_ | refine Elem1.mk fun e_ he_ => ?_); refine g0_ ?_))
          (refine g1_ ?_; repeat ((first | refine n1_ fun b_ => ?_ | refine n2_ fun b_ => ?_ | refine Nat1.mk fun q_ hq_ => ?_ | refine em_ fun x_ hx_ => ?_ | refine Elem1.mk fun e_ he_ => ?_); refine g1_ ?_))
          refine nx_ (i + 1) ?_ ?_
          · exact ⟨by omega, hnx⟩
          · ((try dsimp only); (try simp only [List.length_drop, List.length_take, List.length_append, List.length_cons, List.length_nil, List.length_map] at *); omega)
        | false =>
          rw [hg] at hdx
          replace hdx := of_decide_eq_false hdx
          have hR := hru hi.1 hi.2.1 hi.2.2 (fun _ => h91) hd (.inr (.inr (.inr ⟨x, hx, hg⟩)))
          rw [hR] at hdg ⊢
          clear hg
          have htl : ((b.take i).drop 2).length ≤ 4096 := by rw [List.length_drop, List.length_take]; omega
          have ht := hko ((b.take i).drop 2) htl hdg x
          rw [if_neg fun h => hil h.1, show b.getD i 0 = x by rw [List.getD_eq_getElem?_getD, hx]; rfl]
          generalize keyOfR ((b.take i).drop 2) x = T at *
          obtain ⟨⟨kd, kr, kn, kh⟩, ok⟩ := T
          clear hru hd hdg hko htl
          dsimp only at ht ⊢
          cases ok with
          | false =>
            rw [if_neg (fun h => by cases h.2.1)]
            (refine g0_ ?_; repeat ((first | refine n1_ fun b_ => ?_ | refine n2_ fun b_ => ?_ | refine Nat1.mk fun q_ hq_ => ?_ | refine em_ fun x_ hx_ => ?_ | refine Elem1.mk fun e_ he_ => ?_); refine g0_ ?_))
            (refine g1_ ?_; repeat ((first | refine n1_ fun b_ => ?_ | refine n2_ fun b_ => ?_ | refine Nat1.mk fun q_ hq_ => ?_ | refine em_ fun x_ hx_ => ?_ | refine Elem1.mk fun e_ he_ => ?_); refine g1_ ?_))
            repeat ((first | (rw [hx] at he_; obtain rfl := Option.some.inj he_; clear he_) | (rw [hat1] at he_; obtain rfl := Option.some.inj he_; clear he_)); (refine g1_ ?_; repeat ((first | refine n1_ fun b_ => ?_ | refine n2_ fun b_ => ?_ | refine Nat1.mk fun q_ hq_ => ?_ | refine em_ fun x_ hx_ => ?_ | refine Elem1.mk fun e_ he_ => ?_); refine g1_ ?_)))
            refine (hix).use ?_; (refine g0_ ?_; repeat ((first | refine n1_ fun b_ => ?_ | refine n2_ fun b_ => ?_ | refine Nat1.mk fun q_ hq_ => ?_ | refine em_ fun x_ hx_ => ?_ | refine Elem1.mk fun e_ he_ => ?_); refine g0_ ?_))
            (refine g1_ ?_; repeat ((first | refine n1_ fun b_ => ?_ | refine n2_ fun b_ => ?_ | refine Nat1.mk fun q_ hq_ => ?_ | refine em_ fun x_ hx_ => ?_ | refine Elem1.mk fun e_ he_ => ?_); refine g1_ ?_))
            refine Draws10.chain ⟨12, [.new, .new, .new, .new, .new, .new, .new, .new, .new, .new, .turn, .skip], [(10, [.again, .again, .again, .again, .again, .again, .again, .again, .again, .again, .keep, .turn]), (11, [.keep, .keep, .keep, .keep, .keep, .keep, .keep, .keep, .keep, .again, .keep, .keep])], by decide +kernel, ?_⟩; (refine g0_ ?_; repeat ((first | refine n1_ fun b_ => ?_ | refine n2_ fun b_ => ?_ | refine Nat1.mk fun q_ hq_ => ?_ | refine em_ fun x_ hx_ => ?_ | refine Elem1.mk fun e_ he_ => ?_); refine g0_ ?_))
            repeat ((first | (rw [hx] at he_; obtain rfl := Option.some.inj he_; clear he_) | (rw [hat1] at he_; obtain rfl := Option.some.inj he_; clear he_)); (refine g1_ ?_; repeat ((first | refine n1_ fun b_ => ?_ | refine n2_ fun b_ => ?_ | refine Nat1.mk fun q_ hq_ => ?_ | refine em_ fun x_ hx_ => ?_ | refine Elem1.mk fun e_ he_ => ?_); refine g1_ ?_)))
            refine ⟨_, (ht).quiet, ?_⟩; (refine g0_ ?_; repeat ((first | refine n1_ fun b_ => ?_ | refine n2_ fun b_ => ?_ | refine Nat1.mk fun q_ hq_ => ?_ | refine em_ fun x_ hx_ => ?_ | refine Elem1.mk fun e_ he_ => ?_); refine g0_ ?_))
            repeat ((first | (rw [hx] at he_; obtain rfl := Option.some.inj he_; clear he_) | (rw [hat1] at he_; obtain rfl := Option.some.inj he_; clear he_)); (refine g1_ ?_; repeat ((first | refine n1_ fun b_ => ?_ | refine n2_ fun b_ => ?_ | refine Nat1.mk fun q_ hq_ => ?_ | refine em_ fun x_ hx_ => ?_ | refine Elem1.mk fun e_ he_ => ?_); refine g1_ ?_)))
            refine ⟨_, (ht).quiet, ?_⟩; (refine g0_ ?_; repeat ((first | refine n1_ fun b_ => ?_ | refine n2_ fun b_ => ?_ | refine Nat1.mk fun q_ hq_ => ?_ | refine em_ fun x_ hx_ => ?_ | refine Elem1.mk fun e_ he_ => ?_); refine g0_ ?_))
            repeat ((first | (rw [hx] at he_; obtain rfl := Option.some.inj he_; clear he_) | (rw [hat1] at he_; obtain rfl := Option.some.inj he_; clear he_)); (refine g1_ ?_; repeat ((first | refine n1_ fun b_ => ?_ | refine n2_ fun b_ => ?_ | refine Nat1.mk fun q_ hq_ => ?_ | refine em_ fun x_ hx_ => ?_ | refine Elem1.mk fun e_ he_ => ?_); refine g1_ ?_)))
            (refine g1_ ?_; repeat ((first | refine n1_ fun b_ => ?_ | refine n2_ fun b_ => ?_ | refine Nat1.mk fun q_ hq_ => ?_ | refine em_ fun x_ hx_ => ?_ | refine Elem1.mk fun e_ he_ => ?_); refine g1_ ?_))
            repeat ((first | (rw [hx] at he_; obtain rfl := Option.some.inj he_; clear he_) | (rw [hat1] at he_; obtain rfl := Option.some.inj he_; clear he_)); (refine g1_ ?_; repeat ((first | refine n1_ fun b_ => ?_ | refine n2_ fun b_ => ?_ | refine Nat1.mk fun q_ hq_ => ?_ | refine em_ fun x_ hx_ => ?_ | refine Elem1.mk fun e_ he_ => ?_); refine g1_ ?_)))
            exact .refl _
          | true =>
            rw [if_pos (show i < b.length ∧ true = true ∧ (c1 = 91 ∨ (6 ≤ kd ∧ kd ≤ 11)) from ⟨hxl, rfl, .inl h91⟩)]
            (refine g0_ ?_; repeat ((first | refine n1_ fun b_ => ?_ | refine n2_ fun b_ => ?_ | refine Nat1.mk fun q_ hq_ => ?_ | refine em_ fun x_ hx_ => ?_ | refine Elem1.mk fun e_ he_ => ?_); refine g0_ ?_))
            (refine g1_ ?_; repeat ((first | refine n1_ fun b_ => ?_ | refine n2_ fun b_ => ?_ | refine Nat1.mk fun q_ hq_ => ?_ | refine em_ fun x_ hx_ => ?_ | refine Elem1.mk fun e_ he_ => ?_); refine g1_ ?_))
            repeat ((first | (rw [hx] at he_; obtain rfl := Option.some.inj he_; clear he_) | (rw [hat1] at he_; obtain rfl := Option.some.inj he_; clear he_)); (refine g1_ ?_; repeat ((first | refine n1_ fun b_ => ?_ | refine n2_ fun b_ => ?_ | refine Nat1.mk fun q_ hq_ => ?_ | refine em_ fun x_ hx_ => ?_ | refine Elem1.mk fun e_ he_ => ?_); refine g1_ ?_)))
            refine (hix).use ?_; (refine g0_ ?_; repeat ((first | refine n1_ fun b_ => ?_ | refine n2_ fun b_ => ?_ | refine Nat1.mk fun q_ hq_ => ?_ | refine em_ fun x_ hx_ => ?_ | refine Elem1.mk fun e_ he_ => ?_); refine g0_ ?_))
            (refine g1_ ?_; repeat ((first | refine n1_ fun b_ => ?_ | refine n2_ fun b_ => ?_ | refine Nat1.mk fun q_ hq_ => ?_ | refine em_ fun x_ hx_ => ?_ | refine Elem1.mk fun e_ he_ => ?_); refine g1_ ?_))
            refine Draws10.chain ⟨12, [.new, .new, .new, .new, .new, .new, .new, .new, .new, .new, .turn, .skip], [(10, [.again, .again, .again, .again, .again, .again, .again, .again, .again, .again, .keep, .turn]), (11, [.keep, .keep, .keep, .keep, .keep, .keep, .keep, .keep, .keep, .again, .keep, .keep])], by decide +kernel, ?_⟩; (refine g0_ ?_; repeat ((first | refine n1_ fun b_ => ?_ | refine n2_ fun b_ => ?_ | refine Nat1.mk fun q_ hq_ => ?_ | refine em_ fun x_ hx_ => ?_ | refine Elem1.mk fun e_ he_ => ?_); refine g0_ ?_))
            repeat ((first | (rw [hx] at he_; obtain rfl := Option.some.inj he_; clear he_) | (rw [hat1] at he_; obtain rfl := Option.some.inj he_; clear he_)); (refine g1_ ?_; repeat ((first | refine n1_ fun b_ => ?_ | refine n2_ fun b_ => ?_ | refine Nat1.mk fun q_ hq_ => ?_ | refine em_ fun x_ hx_ => ?_ | refine Elem1.mk fun e_ he_ => ?_); refine g1_ ?_)))
            refine ⟨_, (ht).quiet, ?_⟩; (refine g0_ ?_; repeat ((first | refine n1_ fun b_ => ?_ | refine n2_ fun b_ => ?_ | refine Nat1.mk fun q_ hq_ => ?_ | refine em_ fun x_ hx_ => ?_ | refine Elem1.mk fun e_ he_ => ?_); refine g0_ ?_))
            repeat ((first | (rw [hx] at he_; obtain rfl := Option.some.inj he_; clear he_) | (rw [hat1] at he_; obtain rfl := Option.some.inj he_; clear he_)); (refine g1_ ?_; repeat ((first | refine n1_ fun b_ => ?_ | refine n2_ fun b_ => ?_ | refine Nat1.mk fun q_ hq_ => ?_ | refine em_ fun x_ hx_ => ?_ | refine Elem1.mk fun e_ he_ => ?_); refine g1_ ?_)))
            refine ⟨_, (ht).quiet, ?_⟩; (refine g0_ ?_; repeat ((first | refine n1_ fun b_ => ?_ | refine n2_ fun b_ => ?_ | refine Nat1.mk fun q_ hq_ => ?_ | refine em_ fun x_ hx_ => ?_ | refine Elem1.mk fun e_ he_ => ?_); refine g0_ ?_))
            repeat ((first | (rw [hx] at he_; obtain rfl := Option.some.inj he_; clear he_) | (rw [hat1] at he_; obtain rfl := Option.some.inj he_; clear he_)); (refine g1_ ?_; repeat ((first | refine n1_ fun b_ => ?_ | refine n2_ fun b_ => ?_ | refine Nat1.mk fun q_ hq_ => ?_ | refine em_ fun x_ hx_ => ?_ | refine Elem1.mk fun e_ he_ => ?_); refine g1_ ?_)))
            (refine g1_ ?_; repeat ((first | refine n1_ fun b_ => ?_ | refine n2_ fun b_ => ?_ | refine Nat1.mk fun q_ hq_ => ?_ | refine em_ fun x_ hx_ => ?_ | refine Elem1.mk fun e_ he_ => ?_); refine g1_ ?_))
            repeat ((first | (rw [hx] at he_; obtain rfl := Option.some.inj he_; clear he_) | (rw [hat1] at he_; obtain rfl := Option.some.inj he_; clear he_)); (refine g1_ ?_; repeat ((first | refine n1_ fun b_ => ?_ | refine n2_ fun b_ => ?_ | refine Nat1.mk fun q_ hq_ => ?_ | refine em_ fun x_ hx_ => ?_ | refine Elem1.mk fun e_ he_ => ?_); refine g1_ ?_)))
            exact .refl _
  · have h91 : c1 ≠ 91 := fun h => by rw [h] at h1; revert h1; decide
    have hR : runK (c0 :: c1 :: r) = 2 := hru (by omega) (by omega) (by omega) (fun h => by omega) (fun k x a1 a2 => by omega) (.inr (.inr (.inl h91)))
    rw [hR] at hdg ⊢
    by_cases hil : 2 = (c0 :: c1 :: r).length
    · clear hru hko hdg
      cases last with
      | false =>
        rw [if_pos ⟨hil, rfl⟩]
        obtain rfl : r = [] := List.length_eq_zero_iff.1 (by omega)
        clear hil hlen hR hat1 hg1
        refine Pure.of (acalls_of_vc (DL_ok (by decide)) Tryd.func37 rfl (by decide) (by decide) rfl ?_)
        (refine g0_ ?_; repeat ((first | refine n1_ fun b_ => ?_ | refine n2_ fun b_ => ?_ | refine Nat1.mk fun q_ hq_ => ?_ | refine em_ fun x_ hx_ => ?_ | refine Elem1.mk fun e_ he_ => ?_); refine g0_ ?_))
        (refine g1_ ?_; repeat ((first | refine n1_ fun b_ => ?_ | refine n2_ fun b_ => ?_ | refine Nat1.mk fun q_ hq_ => ?_ | refine em_ fun x_ hx_ => ?_ | refine Elem1.mk fun e_ he_ => ?_); refine g1_ ?_))
        exact .refl _
      | true =>
        rw [if_neg (fun h => by cases h.2), if_neg fun h => by omega]
        obtain rfl : r = [] := List.length_eq_zero_iff.1 (by omega)
        clear hil hlen hR hat1 hg1
        refine Pure.of (acalls_of_vc (DL_ok (by decide)) Tryd.func37 rfl (by decide) (by decide) rfl ?_)
        (refine g0_ ?_; repeat ((first | refine n1_ fun b_ => ?_ | refine n2_ fun b_ => ?_ | refine Nat1.mk fun q_ hq_ => ?_ | refine em_ fun x_ hx_ => ?_ | refine Elem1.mk fun e_ he_ => ?_); refine g0_ ?_))
        (refine g1_ ?_; repeat ((first | refine n1_ fun b_ => ?_ | refine n2_ fun b_ => ?_ | refine Nat1.mk fun q_ hq_ => ?_ | refine em_ fun x_ hx_ => ?_ | refine Elem1.mk fun e_ he_ => ?_); refine g1_ ?_))
        exact .refl _
    · have hxl : 2 < (c0 :: c1 :: r).length := by omega
      obtain ⟨x, hx⟩ : ∃ x, (c0 :: c1 :: r)[2]? = some x := ⟨_, List.getElem?_eq_getElem hxl⟩
      have hat0 : (c0 :: c1 :: r)[0]? = some c0 := rfl
      have hd := hR
      generalize c0 :: c1 :: r = b at *
      have htl : ((b.take 2).drop 2).length ≤ 4096 := by rw [List.length_drop, List.length_take]; omega
      have ht := hko ((b.take 2).drop 2) htl hdg x
      rw [if_neg fun h => hil h.1, show b.getD 2 0 = x by rw [List.getD_eq_getElem?_getD, hx]; rfl]
      generalize keyOfR ((b.take 2).drop 2) x = T at *
      obtain ⟨⟨kd, kr, kn, kh⟩, ok⟩ := T
      clear hru hd hdg hko htl
      dsimp only at ht ⊢
      cases ok with
      | false =>
        rw [if_neg (fun h => by cases h.2.1)]
        refine Pure.of (acalls_of_vc (DL_ok (by decide)) Tryd.func37 rfl (by decide) (by decide) rfl ?_)
        (refine g0_ ?_; repeat ((first | refine n1_ fun b_ => ?_ | refine n2_ fun b_ => ?_ | refine Nat1.mk fun q_ hq_ => ?_ | refine em_ fun x_ hx_ => ?_ | refine Elem1.mk fun e_ he_ => ?_); refine g0_ ?_))
        rw [hat0] at he_
        obtain rfl := Option.some.inj he_
        clear he_
        (refine g1_ ?_; repeat ((first | refine n1_ fun b_ => ?_ | refine n2_ fun b_ => ?_ | refine Nat1.mk fun q_ hq_ => ?_ | refine em_ fun x_ hx_ => ?_ | refine Elem1.mk fun e_ he_ => ?_); refine g1_ ?_))
        repeat ((first | (rw [hx] at he_; obtain rfl := Option.some.inj he_; clear he_) | (rw [hat1] at he_; obtain rfl := Option.some.inj he_; clear he_)); (refine g1_ ?_; repeat ((first | refine n1_ fun b_ => ?_ | refine n2_ fun b_ => ?_ | refine Nat1.mk fun q_ hq_ => ?_ | refine em_ fun x_ hx_ => ?_ | refine Elem1.mk fun e_ he_ => ?_); refine g1_ ?_)))
        (refine g1_ ?_; repeat ((first | refine n1_ fun b_ => ?_ | refine n2_ fun b_ => ?_ | refine Nat1.mk fun q_ hq_ => ?_ | refine em_ fun x_ hx_ => ?_ | refine Elem1.mk fun e_ he_ => ?_); refine g1_ ?_))
        refine Draws10.chain ⟨12, [.new, .new, .new, .new, .new, .new, .new, .new, .new, .new, .turn, .skip], [(10, [.again, .again, .again, .again, .again, .again, .again, .again, .again, .again, .keep, .turn]), (11, [.keep, .keep, .keep, .keep, .keep, .keep, .keep, .keep, .keep, .again, .keep, .keep])], by decide +kernel, ?_⟩; (refine g0_ ?_; repeat ((first | refine n1_ fun b_ => ?_ | refine n2_ fun b_ => ?_ | refine Nat1.mk fun q_ hq_ => ?_ | refine em_ fun x_ hx_ => ?_ | refine Elem1.mk fun e_ he_ => ?_); refine g0_ ?_))
        repeat ((first | (rw [hx] at he_; obtain rfl := Option.some.inj he_; clear he_) | (rw [hat1] at he_; obtain rfl := Option.some.inj he_; clear he_)); (refine g1_ ?_; repeat ((first | refine n1_ fun b_ => ?_ | refine n2_ fun b_ => ?_ | refine Nat1.mk fun q_ hq_ => ?_ | refine em_ fun x_ hx_ => ?_ | refine Elem1.mk fun e_ he_ => ?_); refine g1_ ?_)))
        refine ⟨_, (ht).quiet, ?_⟩; (refine g0_ ?_; repeat ((first | refine n1_ fun b_ => ?_ | refine n2_ fun b_ => ?_ | refine Nat1.mk fun q_ hq_ => ?_ | refine em_ fun x_ hx_ => ?_ | refine Elem1.mk fun e_ he_ => ?_); refine g0_ ?_))
        repeat ((first | (rw [hx] at he_; obtain rfl := Option.some.inj he_; clear he_) | (rw [hat1] at he_; obtain rfl := Option.some.inj he_; clear he_)); (refine g1_ ?_; repeat ((first | refine n1_ fun b_ => ?_ | refine n2_ fun b_ => ?_ | refine Nat1.mk fun q_ hq_ => ?_ | refine em_ fun x_ hx_ => ?_ | refine Elem1.mk fun e_ he_ => ?_); refine g1_ ?_)))
        refine ⟨_, (ht).quiet, ?_⟩; (refine g0_ ?_; repeat ((first | refine n1_ fun b_ => ?_ | refine n2_ fun b_ => ?_ | refine Nat1.mk fun q_ hq_ => ?_ | refine em_ fun x_ hx_ => ?_ | refine Elem1.mk fun e_ he_ => ?_); refine g0_ ?_))
        repeat ((first | (rw [hx] at he_; obtain rfl := Option.some.inj he_; clear he_) | (rw [hat1] at he_; obtain rfl := Option.some.inj he_; clear he_)); (refine g1_ ?_; repeat ((first | refine n1_ fun b_ => ?_ | refine n2_ fun b_ => ?_ | refine Nat1.mk fun q_ hq_ => ?_ | refine em_ fun x_ hx_ => ?_ | refine Elem1.mk fun e_ he_ => ?_); refine g1_ ?_)))
        (refine g1_ ?_; repeat ((first | refine n1_ fun b_ => ?_ | refine n2_ fun b_ => ?_ | refine Nat1.mk fun q_ hq_ => ?_ | refine em_ fun x_ hx_ => ?_ | refine Elem1.mk fun e_ he_ => ?_); refine g1_ ?_))
        repeat ((first | (rw [hx] at he_; obtain rfl := Option.some.inj he_; clear he_) | (rw [hat1] at he_; obtain rfl := Option.some.inj he_; clear he_)); (refine g1_ ?_; repeat ((first | refine n1_ fun b_ => ?_ | refine n2_ fun b_ => ?_ | refine Nat1.mk fun q_ hq_ => ?_ | refine em_ fun x_ hx_ => ?_ | refine Elem1.mk fun e_ he_ => ?_); refine g1_ ?_)))
        exact .refl _
      | true =>
        by_cases hk : 6 ≤ kd ∧ kd ≤ 11
        · rw [if_pos (show 2 < b.length ∧ true = true ∧ (c1 = 91 ∨ (6 ≤ kd ∧ kd ≤ 11)) from ⟨hxl, rfl, .inr hk⟩)]
          refine Pure.of (acalls_of_vc (DL_ok (by decide)) Tryd.func37 rfl (by decide) (by decide) rfl ?_)
          (refine g0_ ?_; repeat ((first | refine n1_ fun b_ => ?_ | refine n2_ fun b_ => ?_ | refine Nat1.mk fun q_ hq_ => ?_ | refine em_ fun x_ hx_ => ?_ | refine Elem1.mk fun e_ he_ => ?_); refine g0_ ?_))
          rw [hat0] at he_
          obtain rfl := Option.some.inj he_
          clear he_
          (refine g1_ ?_; repeat ((first | refine n1_ fun b_ => ?_ | refine n2_ fun b_ => ?_ | refine Nat1.mk fun q_ hq_ => ?_ | refine em_ fun x_ hx_ => ?_ | refine Elem1.mk fun e_ he_ => ?_); refine g1_ ?_))
          repeat ((first | (rw [hx] at he_; obtain rfl := Option.some.inj he_; clear he_) | (rw [hat1] at he_; obtain rfl := Option.some.inj he_; clear he_)); (refine g1_ ?_; repeat ((first | refine n1_ fun b_ => ?_ | refine n2_ fun b_ => ?_ | refine Nat1.mk fun q_ hq_ => ?_ | refine em_ fun x_ hx_ => ?_ | refine Elem1.mk fun e_ he_ => ?_); refine g1_ ?_)))
          (refine g1_ ?_; repeat ((first | refine n1_ fun b_ => ?_ | refine n2_ fun b_ => ?_ | refine Nat1.mk fun q_ hq_ => ?_ | refine em_ fun x_ hx_ => ?_ | refine Elem1.mk fun e_ he_ => ?_); refine g1_ ?_))
          refine Draws10.chain ⟨12, [.new, .new, .new, .new, .new, .new, .new, .new, .new, .new, .turn, .skip], [(10, [.again, .again, .again, .again, .again, .again, .again, .again, .again, .again, .keep, .turn]), (11, [.keep, .keep, .keep, .keep, .keep, .keep, .keep, .keep, .keep, .again, .keep, .keep])], by decide +kernel, ?_⟩; (refine g0_ ?_; repeat ((first | refine n1_ fun b_ => ?_ | refine n2_ fun b_ => ?_ | refine Nat1.mk fun q_ hq_ => ?_ | refine em_ fun x_ hx_ => ?_ | refine Elem1.mk fun e_ he_ => ?_); refine g0_ ?_))
          repeat ((first | (rw [hx] at he_; obtain rfl := Option.some.inj he_; clear he_) | (rw [hat1] at he_; obtain rfl := Option.some.inj he_; clear he_)); (refine g1_ ?_; repeat ((first | refine n1_ fun b_ => ?_ | refine n2_ fun b_ => ?_ | refine Nat1.mk fun q_ hq_ => ?_ | refine em_ fun x_ hx_ => ?_ | refine Elem1.mk fun e_ he_ => ?_); refine g1_ ?_)))
          refine ⟨_, (ht).quiet, ?_⟩; (refine g0_ ?_; repeat ((first | refine n1_ fun b_ => ?_ | refine n2_ fun b_ => ?_ | refine Nat1.mk fun q_ hq_ => ?_ | refine em_ fun x_ hx_ => ?_ | refine Elem1.mk fun e_ he_ => ?_); refine g0_ ?_))
          repeat ((first | (rw [hx] at he_; obtain rfl := Option.some.inj he_; clear he_) | (rw [hat1] at he_; obtain rfl := Option.some.inj he_; clear he_)); (refine g1_ ?_; repeat ((first | refine n1_ fun b_ => ?_ | refine n2_ fun b_ => ?_ | refine Nat1.mk fun q_ hq_ => ?_ | refine em_ fun x_ hx_ => ?_ | refine Elem1.mk fun e_ he_ => ?_); refine g1_ ?_)))
          refine ⟨_, (ht).quiet, ?_⟩; (refine g0_ ?_; repeat ((first | refine n1_ fun b_ => ?_ | refine n2_ fun b_ => ?_ | refine Nat1.mk fun q_ hq_ => ?_ | refine em_ fun x_ hx_ => ?_ | refine Elem1.mk fun e_ he_ => ?_); refine g0_ ?_))
          repeat ((first | (rw [hx] at he_; obtain rfl := Option.some.inj he_; clear he_) | (rw [hat1] at he_; obtain rfl := Option.some.inj he_; clear he_)); (refine g1_ ?_; repeat ((first | refine n1_ fun b_ => ?_ | refine n2_ fun b_ => ?_ | refine Nat1.mk fun q_ hq_ => ?_ | refine em_ fun x_ hx_ => ?_ | refine Elem1.mk fun e_ he_ => ?_); refine g1_ ?_)))
          (refine g1_ ?_; repeat ((first | refine n1_ fun b_ => ?_ | refine n2_ fun b_ => ?_ | refine Nat1.mk fun q_ hq_ => ?_ | refine em_ fun x_ hx_ => ?_ | refine Elem1.mk fun e_ he_ => ?_); refine g1_ ?_))
          repeat ((first | (rw [hx] at he_; obtain rfl := Option.some.inj he_; clear he_) | (rw [hat1] at he_; obtain rfl := Option.some.inj he_; clear he_)); (refine g1_ ?_; repeat ((first | refine n1_ fun b_ => ?_ | refine n2_ fun b_ => ?_ | refine Nat1.mk fun q_ hq_ => ?_ | refine em_ fun x_ hx_ => ?_ | refine Elem1.mk fun e_ he_ => ?_); refine g1_ ?_)))
          exact .refl _
        · rw [if_neg fun h => h.2.2.elim (fun h => h91 h) fun h => hk h]
          rcases (by omega : kd < 6 ∨ (6 ≤ kd ∧ 11 < kd)) with hk2 | hk2
          all_goals
            clear hk
            refine Pure.of (acalls_of_vc (DL_ok (by decide)) Tryd.func37 rfl (by decide) (by decide) rfl ?_)
            (refine g0_ ?_; repeat ((first | refine n1_ fun b_ => ?_ | refine n2_ fun b_ => ?_ | refine Nat1.mk fun q_ hq_ => ?_ | refine em_ fun x_ hx_ => ?_ | refine Elem1.mk fun e_ he_ => ?_); refine g0_ ?_))
            rw [hat0] at he_
            obtain rfl := Option.some.inj he_
            clear he_
            (refine g1_ ?_; repeat ((first | refine n1_ fun b_ => ?_ | refine n2_ fun b_ => ?_ | refine Nat1.mk fun q_ hq_ => ?_ | refine em_ fun x_ hx_ => ?_ | refine Elem1.mk fun e_ he_ => ?_); refine g1_ ?_))
            repeat ((first | (rw [hx] at he_; obtain rfl := Option.some.inj he_; clear he_) | (rw [hat1] at he_; obtain rfl := Option.some.inj he_; clear he_)); (refine g1_ ?_; repeat ((first | refine n1_ fun b_ => ?_ | refine n2_ fun b_ => ?_ | refine Nat1.mk fun q_ hq_ => ?_ | refine em_ fun x_ hx_ => ?_ | refine Elem1.mk fun e_ he_ => ?_); refine g1_ ?_)))
            (refine g1_ ?_; repeat ((first | refine n1_ fun b_ => ?_ | refine n2_ fun b_ => ?_ | refine Nat1.mk fun q_ hq_ => ?_ | refine em_ fun x_ hx_ => ?_ | refine Elem1.mk fun e_ he_ => ?_); refine g1_ ?_))
            refine Draws10.chain ⟨12, [.new, .new, .new, .new, .new, .new, .new, .new, .new, .new, .turn, .skip], [(10, [.again, .again, .again, .again, .again, .again, .again, .again, .again, .again, .keep, .turn]), (11, [.keep, .keep, .keep, .keep, .keep, .keep, .keep, .keep, .keep, .again, .keep, .keep])], by decide +kernel, ?_⟩; (refine g0_ ?_; repeat ((first | refine n1_ fun b_ => ?_ | refine n2_ fun b_ => ?_ | refine Nat1.mk fun q_ hq_ => ?_ | refine em_ fun x_ hx_ => ?_ | refine Elem1.mk fun e_ he_ => ?_); refine g0_ ?_))
            repeat ((first | (rw [hx] at he_; obtain rfl := Option.some.inj he_; clear he_) | (rw [hat1] at he_; obtain rfl := Option.some.inj he_; clear he_)); (refine g1_ ?_; repeat ((first | refine n1_ fun b_ => ?_ | refine n2_ fun b_ => ?_ | refine Nat1.mk fun q_ hq_ => ?_ | refine em_ fun x_ hx_ => ?_ | refine Elem1.mk fun e_ he_ => ?_); refine g1_ ?_)))
            refine ⟨_, (ht).quiet, ?_⟩; (refine g0_ ?_; repeat ((first | refine n1_ fun b_ => ?_ | refine n2_ fun b_ => ?_ | refine Nat1.mk fun q_ hq_ => ?_ | refine em_ fun x_ hx_ => ?_ | refine Elem1.mk fun e_ he_ => ?_); refine g0_ ?_))
            repeat ((first | (rw [hx] at he_; obtain rfl := Option.some.inj he_; clear he_) | (rw [hat1] at he_; obtain rfl := Option.some.inj he_; clear he_)); (refine g1_ ?_; repeat ((first | refine n1_ fun b_ => ?_ | refine n2_ fun b_ => ?_ | refine Nat1.mk fun q_ hq_ => ?_ | refine em_ fun x_ hx_ => ?_ | refine Elem1.mk fun e_ he_ => ?_); refine g1_ ?_)))
            refine ⟨_, (ht).quiet, ?_⟩; (refine g0_ ?_; repeat ((first | refine n1_ fun b_ => ?_ | refine n2_ fun b_ => ?_ | refine Nat1.mk fun q_ hq_ => ?_ | refine em_ fun x_ hx_ => ?_ | refine Elem1.mk fun e_ he_ => ?_); refine g0_ ?_))
            repeat ((first | (rw [hx] at he_; obtain rfl := Option.some.inj he_; clear he_) | (rw [hat1] at he_; obtain rfl := Option.some.inj he_; clear he_)); (refine g1_ ?_; repeat ((first | refine n1_ fun b_ => ?_ | refine n2_ fun b_ => ?_ | refine Nat1.mk fun q_ hq_ => ?_ | refine em_ fun x_ hx_ => ?_ | refine Elem1.mk fun e_ he_ => ?_); refine g1_ ?_)))
            (refine g1_ ?_; repeat ((first | refine n1_ fun b_ => ?_ | refine n2_ fun b_ => ?_ | refine Nat1.mk fun q_ hq_ => ?_ | refine em_ fun x_ hx_ => ?_ | refine Elem1.mk fun e_ he_ => ?_); refine g1_ ?_))
            repeat ((first | (rw [hx] at he_; obtain rfl := Option.some.inj he_; clear he_) | (rw [hat1] at he_; obtain rfl := Option.some.inj he_; clear he_)); (refine g1_ ?_; repeat ((first | refine n1_ fun b_ => ?_ | refine n2_ fun b_ => ?_ | refine Nat1.mk fun q_ hq_ => ?_ | refine em_ fun x_ hx_ => ?_ | refine Elem1.mk fun e_ he_ => ?_); refine g1_ ?_)))
            exact .refl _
end Go.Eng.YtimpfhokacfobaaDoor
end

/- Keys: the reference's first key, all keys; the law KeysRead (b_ x_ q_ e_). -/
section
namespace Go.Eng.YtimpfhokacfobaaDoor
open Go Go.Eng Go.Proofs
variable (W : World)
set_option linter.unusedSimpArgs false
set_option maxRecDepth 100000
set_option linter.unusedVariables false
set_option maxHeartbeats 8000000
theorem firstKey_ok (hT : Tabs W) (hN : Nums W) (hM : MaxJ W) (hE : ErrJ W) (c : UInt8) (r : List UInt8) (hl : r.length ≤ 4000) (last : Bool) : Pure Tryd.prog W 37 [.str (c :: r), .bool last] (.tup [encKey (firstK (c :: r) last).1, .int .i64 (firstK (c :: r) last).2]) := by
  have hg0 : (c :: r).getD 0 0 = c := rfl
  unfold firstK
  rw [hg0]
  by_cases h1 : c.toNat = 27
  · rw [if_neg (by simpa using h1)]
    rcases r with _ | ⟨d, r⟩
    · rw [if_pos (by rfl)]
      cases last
      all_goals
        refine Pure.of (acalls_of_vc (DL_ok (by decide)) Tryd.func37 rfl (by decide) (by decide) rfl ?_)
        (refine g0_ ?_; repeat ((first | refine n1_ fun b_ => ?_ | refine n2_ fun b_ => ?_ | refine Nat1.mk fun q_ hq_ => ?_ | refine em_ fun x_ hx_ => ?_ | refine Elem1.mk fun e_ he_ => ?_); refine g0_ ?_))
        (refine g1_ ?_; repeat ((first | refine n1_ fun b_ => ?_ | refine n2_ fun b_ => ?_ | refine Nat1.mk fun q_ hq_ => ?_ | refine em_ fun x_ hx_ => ?_ | refine Elem1.mk fun e_ he_ => ?_); refine g1_ ?_))
        exact .refl _
    · have hlen : (c :: d :: r).length = r.length + 2 := rfl
      have hg1 : (c :: d :: r).getD 1 0 = d := rfl
      have hlr : r.length ≤ 4000 := by simp only [List.length_cons] at hl; omega
      rw [if_neg (by rw [hlen]; omega), hg1, show (c :: d :: r).drop 1 = d :: r from rfl]
      by_cases h2 : d.toNat = 91 ∨ d.toNat = 79
      · rw [if_pos h2]
        exact seqR_ok W hN hM hE c d r hlr last h1 h2
      · rw [if_neg h2]
        by_cases h3 : d.toNat = 27 ∨ d.toNat = 9
        · rw [if_pos h3]
          rcases h3 with h3 | h3
          all_goals
            refine Pure.of (acalls_of_vc (DL_ok (by decide)) Tryd.func37 rfl (by decide) (by decide) rfl ?_)
            (refine g0_ ?_; repeat ((first | refine n1_ fun b_ => ?_ | refine n2_ fun b_ => ?_ | refine Nat1.mk fun q_ hq_ => ?_ | refine em_ fun x_ hx_ => ?_ | refine Elem1.mk fun e_ he_ => ?_); refine g0_ ?_))
            (refine g1_ ?_; repeat ((first | refine n1_ fun b_ => ?_ | refine n2_ fun b_ => ?_ | refine Nat1.mk fun q_ hq_ => ?_ | refine em_ fun x_ hx_ => ?_ | refine Elem1.mk fun e_ he_ => ?_); refine g1_ ?_))
            exact .refl _
        · rw [if_neg h3]
          have hf := firstKey0_ok W hT d r hlr last (by omega)
          have hfl := first0_le (b := d :: r) (by simp) last
          have hz := first0_zero (b := d :: r) (by simp) (last := last)
          generalize first0 (d :: r) last = S at *
          obtain ⟨⟨kd, kr, kn, kh⟩, n⟩ := S
          dsimp only at hfl hf hz ⊢
          simp only [List.length_cons] at hfl
          by_cases h4 : n = 0
          · rw [if_pos h4]
            have hz := hz h4
            unfold keyZ at hz
            cases hz
            refine Pure.of (acalls_of_vc (DL_ok (by decide)) Tryd.func37 rfl (by decide) (by decide) rfl ?_)
            (refine g0_ ?_; repeat ((first | refine n1_ fun b_ => ?_ | refine n2_ fun b_ => ?_ | refine Nat1.mk fun q_ hq_ => ?_ | refine em_ fun x_ hx_ => ?_ | refine Elem1.mk fun e_ he_ => ?_); refine g0_ ?_))
            (refine g1_ ?_; repeat ((first | refine n1_ fun b_ => ?_ | refine n2_ fun b_ => ?_ | refine Nat1.mk fun q_ hq_ => ?_ | refine em_ fun x_ hx_ => ?_ | refine Elem1.mk fun e_ he_ => ?_); refine g1_ ?_))
            refine (hf).use ?_; (refine g0_ ?_; repeat ((first | refine n1_ fun b_ => ?_ | refine n2_ fun b_ => ?_ | refine Nat1.mk fun q_ hq_ => ?_ | refine em_ fun x_ hx_ => ?_ | refine Elem1.mk fun e_ he_ => ?_); refine g0_ ?_))
            (refine g1_ ?_; repeat ((first | refine n1_ fun b_ => ?_ | refine n2_ fun b_ => ?_ | refine Nat1.mk fun q_ hq_ => ?_ | refine em_ fun x_ hx_ => ?_ | refine Elem1.mk fun e_ he_ => ?_); refine g1_ ?_))
            exact .refl _
          · rw [if_neg h4]
            clear hz
            refine Pure.of (acalls_of_vc (DL_ok (by decide)) Tryd.func37 rfl (by decide) (by decide) rfl ?_)
            (refine g0_ ?_; repeat ((first | refine n1_ fun b_ => ?_ | refine n2_ fun b_ => ?_ | refine Nat1.mk fun q_ hq_ => ?_ | refine em_ fun x_ hx_ => ?_ | refine Elem1.mk fun e_ he_ => ?_); refine g0_ ?_))
            (refine g1_ ?_; repeat ((first | refine n1_ fun b_ => ?_ | refine n2_ fun b_ => ?_ | refine Nat1.mk fun q_ hq_ => ?_ | refine em_ fun x_ hx_ => ?_ | refine Elem1.mk fun e_ he_ => ?_); refine g1_ ?_))
            refine (hf).use ?_; (refine g0_ ?_; repeat ((first | refine n1_ fun b_ => ?_ | refine n2_ fun b_ => ?_ | refine Nat1.mk fun q_ hq_ => ?_ | refine em_ fun x_ hx_ => ?_ | refine Elem1.mk fun e_ he_ => ?_); refine g0_ ?_))
            (refine g1_ ?_; repeat ((first | refine n1_ fun b_ => ?_ | refine n2_ fun b_ => ?_ | refine Nat1.mk fun q_ hq_ => ?_ | refine em_ fun x_ hx_ => ?_ | refine Elem1.mk fun e_ he_ => ?_); refine g1_ ?_))
            exact .refl _
  · rw [if_pos h1]
    exact firstKey0_ok W hT c r hl last h1
theorem rread_own (hT : Tabs W) (hN : Nums W) (hM : MaxJ W) (hE : ErrJ W) (B : List UInt8) (last : Bool) (hl : B.length ≤ 4000) : ACalls Tryd.prog W 18 [.str B, .bool last] []
    (Gives (fun bb : Nat => .tup [accV bb 4 ((readA last B).1.map encKey), .str (readA last B).2]) (fun bb => accM bb 4 ((readA last B).1.map encKey)) (fun _ => True)) := by
  generalize hR : readA last B = R
  refine acalls_of_vc (DL_ok (by decide)) Tryd.func18 rfl (by decide) (by decide) rfl ?_
  (refine g0_ ?_; repeat ((first | refine n1_ fun b_ => ?_ | refine n2_ fun b_ => ?_ | refine Nat1.mk fun q_ hq_ => ?_ | refine em_ fun x_ hx_ => ?_ | refine Elem1.mk fun e_ he_ => ?_); refine g0_ ?_))
  (refine g1_ ?_; repeat ((first | refine n1_ fun b_ => ?_ | refine n2_ fun b_ => ?_ | refine Nat1.mk fun q_ hq_ => ?_ | refine em_ fun x_ hx_ => ?_ | refine Elem1.mk fun e_ he_ => ?_); refine g1_ ?_))
  refine' loopI (α := (List UInt8) × (List Key) × Nat) (fun (b, o, bb) => [(0, .str b), (6, accV bb 4 (o.map encKey))]) [(1, _)] (fun (b, o, bb) => accM bb 4 (o.map encKey)) (fun (b, o, bb) => o.length + b.length ≤ B.length ∧ (o ++ (readA last b).1 = R.1 ∧ (readA last b).2 = R.2)) (fun (b, o, bb) => b.length) (B, [], 0) ?_ ?_
  · exact ⟨by simp, by rw [hR]; exact ⟨rfl, rfl⟩⟩
  rintro ⟨b, o, bb⟩ ⟨hbl, hv⟩
  have hom : (List.map encKey o).length = o.length := List.length_map _
  rcases o with _ | ⟨o0, o⟩
  · by_cases hb : b = []
    · subst hb
      rw [readA_stop (.inl rfl)] at hv
      obtain ⟨hv1, hv2⟩ := hv
      rw [List.append_nil] at hv1
      (refine g0_ ?_; repeat ((first | refine n1_ fun b_ => ?_ | refine n2_ fun b_ => ?_ | refine Nat1.mk fun q_ hq_ => ?_ | refine em_ fun x_ hx_ => ?_ | refine Elem1.mk fun e_ he_ => ?_); refine g0_ ?_))
      rw [← hv1, ← hv2]
      exact ⟨bb, trivial, rfl, wkMem.rfl'⟩
    · obtain ⟨c, r, rfl⟩ := List.exists_cons_of_ne_nil hb
      simp only [List.length_cons, List.length_nil] at hbl
      have hf := firstKey_ok W hT hN hM hE c r (by omega) last
      try have hom2 : (List.map encKey o).length = o.length := List.length_map _
      have hfl := first_le (b := c :: r) hb last
      have hst := @readA_stop last (c :: r)
      have hsp := @readA_step last (c :: r) hb
      generalize firstK (c :: r) last = S at *
      obtain ⟨⟨kd, kr, kn, kh⟩, n⟩ := S
      dsimp only at hf hfl hst hsp
      by_cases h0 : n = 0
      · rw [hst (.inr h0)] at hv
        obtain ⟨hv1, hv2⟩ := hv
        rw [List.append_nil] at hv1
        (refine g0_ ?_; repeat ((first | refine n1_ fun b_ => ?_ | refine n2_ fun b_ => ?_ | refine Nat1.mk fun q_ hq_ => ?_ | refine em_ fun x_ hx_ => ?_ | refine Elem1.mk fun e_ he_ => ?_); refine g0_ ?_))
        refine (hf).use ?_; (refine g0_ ?_; repeat ((first | refine n1_ fun b_ => ?_ | refine n2_ fun b_ => ?_ | refine Nat1.mk fun q_ hq_ => ?_ | refine em_ fun x_ hx_ => ?_ | refine Elem1.mk fun e_ he_ => ?_); refine g0_ ?_))
        (refine g1_ ?_; repeat ((first | refine n1_ fun b_ => ?_ | refine n2_ fun b_ => ?_ | refine Nat1.mk fun q_ hq_ => ?_ | refine em_ fun x_ hx_ => ?_ | refine Elem1.mk fun e_ he_ => ?_); refine g1_ ?_))
        rw [← hv1, ← hv2]
        exact ⟨bb, trivial, rfl, wkMem.skip wkMem.rfl'⟩
      · rw [hsp h0] at hv
        obtain ⟨hv1, hv2⟩ := hv
        dsimp only at hv1 hv2
        (refine g0_ ?_; repeat ((first | refine n1_ fun b_ => ?_ | refine n2_ fun b_ => ?_ | refine Nat1.mk fun q_ hq_ => ?_ | refine em_ fun x_ hx_ => ?_ | refine Elem1.mk fun e_ he_ => ?_); refine g0_ ?_))
        refine (hf).use ?_; (refine g0_ ?_; repeat ((first | refine n1_ fun b_ => ?_ | refine n2_ fun b_ => ?_ | refine Nat1.mk fun q_ hq_ => ?_ | refine em_ fun x_ hx_ => ?_ | refine Elem1.mk fun e_ he_ => ?_); refine g0_ ?_))
        (refine g1_ ?_; repeat ((first | refine n1_ fun b_ => ?_ | refine n2_ fun b_ => ?_ | refine Nat1.mk fun q_ hq_ => ?_ | refine em_ fun x_ hx_ => ?_ | refine Elem1.mk fun e_ he_ => ?_); refine g1_ ?_))
        refine Draws10.chain ⟨8, [.new, .new, .new, .turn, .new, .new, .new, .skip], [(3, [.keep, .keep, .keep, .keep, .again, .again, .again, .new])], by decide +kernel, ?_⟩; (refine g0_ ?_; repeat ((first | refine n1_ fun b_ => ?_ | refine n2_ fun b_ => ?_ | refine Nat1.mk fun q_ hq_ => ?_ | refine em_ fun x_ hx_ => ?_ | refine Elem1.mk fun e_ he_ => ?_); refine g0_ ?_))
        try rw [show ∀ v : PV, (List.map encKey o).length + 1 + [v].length = (List.map encKey (o ++ [Key.mk kd kr kn kh])).length + 1 from fun v => by simp]
        try (rw [show ∀ v : PV, v = encKey (Key.mk kd kr kn kh) → (encKey o0 :: List.map encKey o) ++ [v] = List.map encKey (o0 :: o ++ [Key.mk kd kr kn kh]) from fun v hv => by simp [hv]]; rotate_left; rfl)
        refine nx_ ((c :: r).drop n, [] ++ [Key.mk kd kr kn kh], b_) ?_ ?_
        · exact ⟨by rw [List.length_append, List.length_drop]; simp only [List.length_cons, List.length_nil] at *; omega, by rw [List.append_assoc]; exact hv1, hv2⟩
        · ((try dsimp only); (try simp only [List.length_drop, List.length_take, List.length_append, List.length_cons, List.length_nil, List.length_map] at *); omega)
  · by_cases hb : b = []
    · subst hb
      rw [readA_stop (.inl rfl)] at hv
      obtain ⟨hv1, hv2⟩ := hv
      rw [List.append_nil] at hv1
      (refine g0_ ?_; repeat ((first | refine n1_ fun b_ => ?_ | refine n2_ fun b_ => ?_ | refine Nat1.mk fun q_ hq_ => ?_ | refine em_ fun x_ hx_ => ?_ | refine Elem1.mk fun e_ he_ => ?_); refine g0_ ?_))
      rw [← hv1, ← hv2]
      exact ⟨bb, trivial, rfl, wkMem.rfl'⟩
    · obtain ⟨c, r, rfl⟩ := List.exists_cons_of_ne_nil hb
      simp only [List.length_cons, List.length_nil] at hbl
      have hf := firstKey_ok W hT hN hM hE c r (by omega) last
      try have hom2 : (List.map encKey o).length = o.length := List.length_map _
      have hfl := first_le (b := c :: r) hb last
      have hst := @readA_stop last (c :: r)
      have hsp := @readA_step last (c :: r) hb
      generalize firstK (c :: r) last = S at *
      obtain ⟨⟨kd, kr, kn, kh⟩, n⟩ := S
      dsimp only at hf hfl hst hsp
      by_cases h0 : n = 0
      · rw [hst (.inr h0)] at hv
        obtain ⟨hv1, hv2⟩ := hv
        rw [List.append_nil] at hv1
        (refine g0_ ?_; repeat ((first | refine n1_ fun b_ => ?_ | refine n2_ fun b_ => ?_ | refine Nat1.mk fun q_ hq_ => ?_ | refine em_ fun x_ hx_ => ?_ | refine Elem1.mk fun e_ he_ => ?_); refine g0_ ?_))
        refine (hf).use ?_; (refine g0_ ?_; repeat ((first | refine n1_ fun b_ => ?_ | refine n2_ fun b_ => ?_ | refine Nat1.mk fun q_ hq_ => ?_ | refine em_ fun x_ hx_ => ?_ | refine Elem1.mk fun e_ he_ => ?_); refine g0_ ?_))
        (refine g1_ ?_; repeat ((first | refine n1_ fun b_ => ?_ | refine n2_ fun b_ => ?_ | refine Nat1.mk fun q_ hq_ => ?_ | refine em_ fun x_ hx_ => ?_ | refine Elem1.mk fun e_ he_ => ?_); refine g1_ ?_))
        rw [← hv1, ← hv2]
        exact ⟨bb, trivial, rfl, wkMem.skip wkMem.rfl'⟩
      · rw [hsp h0] at hv
        obtain ⟨hv1, hv2⟩ := hv
        dsimp only at hv1 hv2
        (refine g0_ ?_; repeat ((first | refine n1_ fun b_ => ?_ | refine n2_ fun b_ => ?_ | refine Nat1.mk fun q_ hq_ => ?_ | refine em_ fun x_ hx_ => ?_ | refine Elem1.mk fun e_ he_ => ?_); refine g0_ ?_))
        refine (hf).use ?_; (refine g0_ ?_; repeat ((first | refine n1_ fun b_ => ?_ | refine n2_ fun b_ => ?_ | refine Nat1.mk fun q_ hq_ => ?_ | refine em_ fun x_ hx_ => ?_ | refine Elem1.mk fun e_ he_ => ?_); refine g0_ ?_))
        (refine g1_ ?_; repeat ((first | refine n1_ fun b_ => ?_ | refine n2_ fun b_ => ?_ | refine Nat1.mk fun q_ hq_ => ?_ | refine em_ fun x_ hx_ => ?_ | refine Elem1.mk fun e_ he_ => ?_); refine g1_ ?_))
        refine Draws10.chain ⟨8, [.new, .new, .new, .turn, .new, .new, .new, .skip], [(3, [.keep, .keep, .keep, .keep, .again, .again, .again, .new])], by decide +kernel, ?_⟩; (refine g0_ ?_; repeat ((first | refine n1_ fun b_ => ?_ | refine n2_ fun b_ => ?_ | refine Nat1.mk fun q_ hq_ => ?_ | refine em_ fun x_ hx_ => ?_ | refine Elem1.mk fun e_ he_ => ?_); refine g0_ ?_))
        try rw [show ∀ v : PV, (List.map encKey o).length + 1 + [v].length = (List.map encKey (o ++ [Key.mk kd kr kn kh])).length + 1 from fun v => by simp]
        try (rw [show ∀ v : PV, v = encKey (Key.mk kd kr kn kh) → (encKey o0 :: List.map encKey o) ++ [v] = List.map encKey (o0 :: o ++ [Key.mk kd kr kn kh]) from fun v hv => by simp [hv]]; rotate_left; rfl)
        refine nx_ ((c :: r).drop n, (o0 :: o) ++ [Key.mk kd kr kn kh], b_) ?_ ?_
        · exact ⟨by rw [List.length_append, List.length_drop]; simp only [List.length_cons, List.length_nil] at *; omega, by rw [List.append_assoc]; exact hv1, hv2⟩
        · ((try dsimp only); (try simp only [List.length_drop, List.length_take, List.length_append, List.length_cons, List.length_nil, List.length_map] at *); omega)
theorem rread_ok (hT : Tabs W) (hN : Nums W) (hM : MaxJ W) (hE : ErrJ W) (b : List UInt8) (last : Bool) (hl : b.length ≤ 4000) : Pure Tryd.prog W 18 [.str b, .bool last] (.tup [.sl 4 ((readA last b).1.map encKey), .str (readA last b).2]) :=
  (rread_own W hT hN hM hE b last hl).pure fun bb _ => .tup _ _ rfl fun j hj => by
    match j, hj with
    | 0, _ =>
      refine frz_of_acc fun h => ?_
      generalize List.map encKey (readA last b).1 = l at *
      cases l with
      | nil => exact absurd rfl h
      | cons a l => exact ⟨_, .here _ _ _⟩
    | 1, _ => exact .refl _
theorem keysRead_ok (hK : Keyz W) (hM : MaxJ W) (b : List UInt8) (_ : b.length ≤ 140737488355328) (last : Bool) : Pure Tryd.prog W 4 [.str b, .bool last] (.bool true) := by
  obtain ⟨hT, hN, hE⟩ := hK
  have hst := struck_ok W hT hM hE hN
  by_cases hl : b.length ≤ 4000
  · have hrd := kread_ok W hT hM hE b last hl
    have hrr := rread_ok W hT hN hM hE b last hl
    have hko := readK_ok last b.length b
    have hkl := readK_len last b.length b
    rw [show readK last b.length b = readA last b from rfl] at hko hkl
    generalize readA last b = S at *
    obtain ⟨m, e⟩ := S
    dsimp only at hrd hrr hko hkl
    have heq := equal_keys W m m (by omega) hko hko
    rw [decide_eq_true rfl] at heq
    clear hko
    refine Pure.of (acalls_of_vc (drawOk W) Tryd.func4 rfl (by decide) (by decide) rfl ?_)
    (refine g0_ ?_; repeat ((first | refine n1_ fun b_ => ?_ | refine n2_ fun b_ => ?_ | refine Nat1.mk fun q_ hq_ => ?_ | refine em_ fun x_ hx_ => ?_ | refine Elem1.mk fun e_ he_ => ?_); refine g0_ ?_))
    refine (hrd).use ?_; (refine g0_ ?_; repeat ((first | refine n1_ fun b_ => ?_ | refine n2_ fun b_ => ?_ | refine Nat1.mk fun q_ hq_ => ?_ | refine em_ fun x_ hx_ => ?_ | refine Elem1.mk fun e_ he_ => ?_); refine g0_ ?_))
    (refine g1_ ?_; repeat ((first | refine n1_ fun b_ => ?_ | refine n2_ fun b_ => ?_ | refine Nat1.mk fun q_ hq_ => ?_ | refine em_ fun x_ hx_ => ?_ | refine Elem1.mk fun e_ he_ => ?_); refine g1_ ?_))
    refine (hst).use ?_; (refine g0_ ?_; repeat ((first | refine n1_ fun b_ => ?_ | refine n2_ fun b_ => ?_ | refine Nat1.mk fun q_ hq_ => ?_ | refine em_ fun x_ hx_ => ?_ | refine Elem1.mk fun e_ he_ => ?_); refine g0_ ?_))
    (refine g1_ ?_; repeat ((first | refine n1_ fun b_ => ?_ | refine n2_ fun b_ => ?_ | refine Nat1.mk fun q_ hq_ => ?_ | refine em_ fun x_ hx_ => ?_ | refine Elem1.mk fun e_ he_ => ?_); refine g1_ ?_))
    refine (hrr).use ?_; (refine g0_ ?_; repeat ((first | refine n1_ fun b_ => ?_ | refine n2_ fun b_ => ?_ | refine Nat1.mk fun q_ hq_ => ?_ | refine em_ fun x_ hx_ => ?_ | refine Elem1.mk fun e_ he_ => ?_); refine g0_ ?_))
    (refine g1_ ?_; repeat ((first | refine n1_ fun b_ => ?_ | refine n2_ fun b_ => ?_ | refine Nat1.mk fun q_ hq_ => ?_ | refine em_ fun x_ hx_ => ?_ | refine Elem1.mk fun e_ he_ => ?_); refine g1_ ?_))
    refine (heq).use ?_; (refine g0_ ?_; repeat ((first | refine n1_ fun b_ => ?_ | refine n2_ fun b_ => ?_ | refine Nat1.mk fun q_ hq_ => ?_ | refine em_ fun x_ hx_ => ?_ | refine Elem1.mk fun e_ he_ => ?_); refine g0_ ?_))
    (refine g1_ ?_; repeat ((first | refine n1_ fun b_ => ?_ | refine n2_ fun b_ => ?_ | refine Nat1.mk fun q_ hq_ => ?_ | refine em_ fun x_ hx_ => ?_ | refine Elem1.mk fun e_ he_ => ?_); refine g1_ ?_))
    exact frz_bool (decide_eq_true rfl)
  · have hrd := read_many W b last (by omega)
    refine Pure.of (acalls_of_vc (drawOk W) Tryd.func4 rfl (by decide) (by decide) rfl ?_)
    (refine g0_ ?_; repeat ((first | refine n1_ fun b_ => ?_ | refine n2_ fun b_ => ?_ | refine Nat1.mk fun q_ hq_ => ?_ | refine em_ fun x_ hx_ => ?_ | refine Elem1.mk fun e_ he_ => ?_); refine g0_ ?_))
    refine (hrd).use ?_; (refine g0_ ?_; repeat ((first | refine n1_ fun b_ => ?_ | refine n2_ fun b_ => ?_ | refine Nat1.mk fun q_ hq_ => ?_ | refine em_ fun x_ hx_ => ?_ | refine Elem1.mk fun e_ he_ => ?_); refine g0_ ?_))
    (refine g1_ ?_; repeat ((first | refine n1_ fun b_ => ?_ | refine n2_ fun b_ => ?_ | refine Nat1.mk fun q_ hq_ => ?_ | refine em_ fun x_ hx_ => ?_ | refine Elem1.mk fun e_ he_ => ?_); refine g1_ ?_))
    refine (hst).use ?_; (refine g0_ ?_; repeat ((first | refine n1_ fun b_ => ?_ | refine n2_ fun b_ => ?_ | refine Nat1.mk fun q_ hq_ => ?_ | refine em_ fun x_ hx_ => ?_ | refine Elem1.mk fun e_ he_ => ?_); refine g0_ ?_))
    (refine g1_ ?_; repeat ((first | refine n1_ fun b_ => ?_ | refine n2_ fun b_ => ?_ | refine Nat1.mk fun q_ hq_ => ?_ | refine em_ fun x_ hx_ => ?_ | refine Elem1.mk fun e_ he_ => ?_); refine g1_ ?_))
    refine (hst).use ?_; (refine g0_ ?_; repeat ((first | refine n1_ fun b_ => ?_ | refine n2_ fun b_ => ?_ | refine Nat1.mk fun q_ hq_ => ?_ | refine em_ fun x_ hx_ => ?_ | refine Elem1.mk fun e_ he_ => ?_); refine g0_ ?_))
    (refine g1_ ?_; repeat ((first | refine n1_ fun b_ => ?_ | refine n2_ fun b_ => ?_ | refine Nat1.mk fun q_ hq_ => ?_ | refine em_ fun x_ hx_ => ?_ | refine Elem1.mk fun e_ he_ => ?_); refine g1_ ?_))
    exact .refl _
end Go.Eng.YtimpfhokacfobaaDoor
end
