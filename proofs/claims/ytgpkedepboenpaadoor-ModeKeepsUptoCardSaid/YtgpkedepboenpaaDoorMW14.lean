/- Texts put together: ScrU2. -/
import Derived.Test.YtgpkedepboenpaaDoorMW13
/- The law ModeKeeps. -/
section
namespace Go.Eng.YtgpkedepboenpaaDoor
open Go Go.Eng Go.Proofs
variable (W : World)
set_option linter.unusedSimpArgs false
set_option maxRecDepth 100000
set_option linter.unusedVariables false
set_option maxHeartbeats 8000000
theorem km64 : ((List.range 64).all fun m => decide (bitop .andNot .i64 (bitop .and .i64 (m : Int) 6) 6 = 0) && decide (bitop .and .i64 (bitop .xor .i64 (bitop .or .i64 (bitop .andNot .i64 (m : Int) 6) (bitop .and .i64 (m : Int) 6)) (m : Int)) 6 = 0)) = true := by decide +kernel
theorem km64_at {m : Int} (hm : 0 ≤ m ∧ m ≤ 63) : bitop .andNot .i64 (bitop .and .i64 m 6) 6 = 0 ∧ bitop .and .i64 (bitop .xor .i64 (bitop .or .i64 (bitop .andNot .i64 m 6) (bitop .and .i64 m 6)) m) 6 = 0 := by
  obtain ⟨m, rfl⟩ := Int.eq_ofNat_of_zero_le hm.1
  have h1 := List.all_eq_true.1 km64 m (List.mem_range.2 (by omega))
  simp only [Bool.and_eq_true, decide_eq_true_eq] at h1
  exact h1
theorem saveS_R {s : Scr} (h : s.R) : (saveK s).R := by
  have hk := (km64_at h.modes).1
  obtain ⟨h1, h2, h3, h4, h5, h6, h7, h8, h9, h10, h11, h12, h13⟩ := h
  exact ⟨h1, h2, h2, h4, h5, h6, h6, h8, hk, h10, h11, h12, h13⟩
theorem modeKeeps_ok (hT : Tabs W) (s : Scr) (hs : s.ok) (t : List UInt8) (ht : t.length ≤ 1048576) (y : Int) (hy : -9223372036854775808 ≤ y ∧ y ≤ 9223372036854775807) (x : Int) (hx : -9223372036854775808 ≤ x ∧ x ≤ 9223372036854775807) (l : List Int) (hi : ∀ n ∈ l, i64ok n) (hl : l.length ≤ 1048576) :
    Pure Tryd.prog W 6 [encScr s, .str t, .int .i64 y, .int .i64 x, .sl 1 (l.map (PV.int .i64))] (.bool true) := by
  have hp := printed_ok W hT
  have h1 := modeSaveK_ok W hT s hs
  by_cases h0 : checkS s = 0
  · rw [moveE, if_pos h0] at h1
    by_cases h4 : t.length ≤ 4000
    · have hR := (check_iff s).1 h0
      have aR := saveS_R hR
      have aC := (check_iff _).2 aR
      have aO := saveK_ok hs
      obtain ⟨bC, bO, bw, bh⟩ := textS_R aC aO t
      have bK := textS_keep (saveK s) t
      have h2 := putText_ok W hT (saveK s) aO t h4
      rw [moveE, if_pos aC] at h2
      generalize textS (saveK s) t = B at *
      have bR := (check_iff _).1 bC
      have h3 := moveTo_ok W hT B bO y x
      rw [moveE, if_pos bC] at h3
      have gw := bR.xy
      obtain ⟨wB, hB, rB⟩ := right_of bC
      have cC := check_at bC (timesL x - 1) (rowS B y)
      have e1 := rB.fit.w2
      have e2 := rB.fit.h2
      have e3 := rB.fit.ew
      have e4 := rB.fit.eh
      have cO := atS_okS bO (timesL x - 1) (rowS B y) (by omega) (by omega)
      have cK : keepS (atS B (timesL x - 1) (rowS B y)) = keepS B := rfl
      generalize atS B (timesL x - 1) (rowS B y) = C at *
      have h5 := modeLook_ok W hT C cO l (by omega)
      rw [moveE, if_pos cC] at h5
      have dR := lookS_R ((check_iff _).1 cC) l
      have dO := lookS_ok cO l
      have dK : keepS (lookS C l) = keepS C := rfl
      generalize lookS C l = D at *
      have h6 := modeRestoreK_ok W hT D dO
      rw [moveE, if_pos ((check_iff _).2 dR)] at h6
      have hk : keepS D = keepS (saveK s) := by rw [dK, cK, bK]
      have z1 : (restoreK D).x = s.x := congrArg (fun k => k.1) hk
      have z2 : (restoreK D).y = s.y := congrArg (fun k => k.2.1) hk
      have z3 : (restoreK D).look = s.look := congrArg (fun k => k.2.2.1) hk
      have z4 : D.km = bitop .and .i64 s.modes 6 := congrArg (fun k => k.2.2.2.1) hk
      have z5 : D.modes = s.modes := congrArg (fun k => k.2.2.2.2.1) hk
      have z6 : bitop .and .i64 (bitop .xor .i64 (restoreK D).modes s.modes) 6 = 0 := by
        show bitop .and .i64 (bitop .xor .i64 (bitop .or .i64 (bitop .andNot .i64 D.modes 6) D.km) s.modes) 6 = 0
        rw [z4, z5]
        exact (km64_at hR.modes).2
      have z7 : (restoreK D).late = false := rfl
      have sq := eq_style s.look s.look hs.look hs.look
      rw [decide_eq_true rfl] at sq
      dsimp only at h1 h2 h3 h5 h6
      generalize restoreK D = Z at *
      obtain ⟨zg, zx, zy, zl, zs, zt, zb, zm, zta, zkx, zky, zks, zkm, zla, zti, zgo⟩ := Z
      dsimp only at z1 z2 z3 z6 z7
      subst z1 z2 z3 z7
      clear dK cK bK hk z4 z5 aR aC dR cC bC gw
      refine Pure.of (acalls_of_vc (drawOk W) Tryd.func6 rfl (by decide) (by decide) rfl ?_)
      (refine g0_ ?_; repeat ((first | refine n1_ fun b_ => ?_ | refine n2_ fun b_ => ?_ | refine n3_ fun b_ pre_ => ?_ | refine Nat1.mk fun q_ hq_ => ?_ | refine em_ fun x_ hx_ => ?_ | refine Elem1.mk fun e_ he_ => ?_); refine g0_ ?_))
      refine (h1).use ?_; (refine g0_ ?_; repeat ((first | refine n1_ fun b_ => ?_ | refine n2_ fun b_ => ?_ | refine n3_ fun b_ pre_ => ?_ | refine Nat1.mk fun q_ hq_ => ?_ | refine em_ fun x_ hx_ => ?_ | refine Elem1.mk fun e_ he_ => ?_); refine g0_ ?_))
      (refine g1_ ?_; repeat ((first | refine n1_ fun b_ => ?_ | refine n2_ fun b_ => ?_ | refine n3_ fun b_ pre_ => ?_ | refine Nat1.mk fun q_ hq_ => ?_ | refine em_ fun x_ hx_ => ?_ | refine Elem1.mk fun e_ he_ => ?_); refine g1_ ?_))
      refine (hp).use ?_; (refine g0_ ?_; repeat ((first | refine n1_ fun b_ => ?_ | refine n2_ fun b_ => ?_ | refine n3_ fun b_ pre_ => ?_ | refine Nat1.mk fun q_ hq_ => ?_ | refine em_ fun x_ hx_ => ?_ | refine Elem1.mk fun e_ he_ => ?_); refine g0_ ?_))
      (refine g1_ ?_; repeat ((first | refine n1_ fun b_ => ?_ | refine n2_ fun b_ => ?_ | refine n3_ fun b_ pre_ => ?_ | refine Nat1.mk fun q_ hq_ => ?_ | refine em_ fun x_ hx_ => ?_ | refine Elem1.mk fun e_ he_ => ?_); refine g1_ ?_))
      refine (h2).use ?_; (refine g0_ ?_; repeat ((first | refine n1_ fun b_ => ?_ | refine n2_ fun b_ => ?_ | refine n3_ fun b_ pre_ => ?_ | refine Nat1.mk fun q_ hq_ => ?_ | refine em_ fun x_ hx_ => ?_ | refine Elem1.mk fun e_ he_ => ?_); refine g0_ ?_))
      (refine g1_ ?_; repeat ((first | refine n1_ fun b_ => ?_ | refine n2_ fun b_ => ?_ | refine n3_ fun b_ pre_ => ?_ | refine Nat1.mk fun q_ hq_ => ?_ | refine em_ fun x_ hx_ => ?_ | refine Elem1.mk fun e_ he_ => ?_); refine g1_ ?_))
      refine (h3).use ?_; (refine g0_ ?_; repeat ((first | refine n1_ fun b_ => ?_ | refine n2_ fun b_ => ?_ | refine n3_ fun b_ pre_ => ?_ | refine Nat1.mk fun q_ hq_ => ?_ | refine em_ fun x_ hx_ => ?_ | refine Elem1.mk fun e_ he_ => ?_); refine g0_ ?_))
      (refine g1_ ?_; repeat ((first | refine n1_ fun b_ => ?_ | refine n2_ fun b_ => ?_ | refine n3_ fun b_ pre_ => ?_ | refine Nat1.mk fun q_ hq_ => ?_ | refine em_ fun x_ hx_ => ?_ | refine Elem1.mk fun e_ he_ => ?_); refine g1_ ?_))
      refine (h5).use ?_; (refine g0_ ?_; repeat ((first | refine n1_ fun b_ => ?_ | refine n2_ fun b_ => ?_ | refine n3_ fun b_ pre_ => ?_ | refine Nat1.mk fun q_ hq_ => ?_ | refine em_ fun x_ hx_ => ?_ | refine Elem1.mk fun e_ he_ => ?_); refine g0_ ?_))
      (refine g1_ ?_; repeat ((first | refine n1_ fun b_ => ?_ | refine n2_ fun b_ => ?_ | refine n3_ fun b_ pre_ => ?_ | refine Nat1.mk fun q_ hq_ => ?_ | refine em_ fun x_ hx_ => ?_ | refine Elem1.mk fun e_ he_ => ?_); refine g1_ ?_))
      refine (h6).use ?_; (refine g0_ ?_; repeat ((first | refine n1_ fun b_ => ?_ | refine n2_ fun b_ => ?_ | refine n3_ fun b_ pre_ => ?_ | refine Nat1.mk fun q_ hq_ => ?_ | refine em_ fun x_ hx_ => ?_ | refine Elem1.mk fun e_ he_ => ?_); refine g0_ ?_))
      (refine g1_ ?_; repeat ((first | refine n1_ fun b_ => ?_ | refine n2_ fun b_ => ?_ | refine n3_ fun b_ pre_ => ?_ | refine Nat1.mk fun q_ hq_ => ?_ | refine em_ fun x_ hx_ => ?_ | refine Elem1.mk fun e_ he_ => ?_); refine g1_ ?_))
      refine ⟨_, sq _ _, ?_⟩
      (refine g1_ ?_; repeat ((first | refine n1_ fun b_ => ?_ | refine n2_ fun b_ => ?_ | refine n3_ fun b_ pre_ => ?_ | refine Nat1.mk fun q_ hq_ => ?_ | refine em_ fun x_ hx_ => ?_ | refine Elem1.mk fun e_ he_ => ?_); refine g1_ ?_))
      exact Frz.of_eq (by simp [z6])
    · refine Pure.of (acalls_of_vc (drawOk W) Tryd.func6 rfl (by decide) (by decide) rfl ?_)
      (refine g0_ ?_; repeat ((first | refine n1_ fun b_ => ?_ | refine n2_ fun b_ => ?_ | refine n3_ fun b_ pre_ => ?_ | refine Nat1.mk fun q_ hq_ => ?_ | refine em_ fun x_ hx_ => ?_ | refine Elem1.mk fun e_ he_ => ?_); refine g0_ ?_))
      refine (h1).use ?_; (refine g0_ ?_; repeat ((first | refine n1_ fun b_ => ?_ | refine n2_ fun b_ => ?_ | refine n3_ fun b_ pre_ => ?_ | refine Nat1.mk fun q_ hq_ => ?_ | refine em_ fun x_ hx_ => ?_ | refine Elem1.mk fun e_ he_ => ?_); refine g0_ ?_))
      (refine g1_ ?_; repeat ((first | refine n1_ fun b_ => ?_ | refine n2_ fun b_ => ?_ | refine n3_ fun b_ pre_ => ?_ | refine Nat1.mk fun q_ hq_ => ?_ | refine em_ fun x_ hx_ => ?_ | refine Elem1.mk fun e_ he_ => ?_); refine g1_ ?_))
      refine (hp).use ?_; (refine g0_ ?_; repeat ((first | refine n1_ fun b_ => ?_ | refine n2_ fun b_ => ?_ | refine n3_ fun b_ pre_ => ?_ | refine Nat1.mk fun q_ hq_ => ?_ | refine em_ fun x_ hx_ => ?_ | refine Elem1.mk fun e_ he_ => ?_); refine g0_ ?_))
      (refine g1_ ?_; repeat ((first | refine n1_ fun b_ => ?_ | refine n2_ fun b_ => ?_ | refine n3_ fun b_ pre_ => ?_ | refine Nat1.mk fun q_ hq_ => ?_ | refine em_ fun x_ hx_ => ?_ | refine Elem1.mk fun e_ he_ => ?_); refine g1_ ?_))
      refine (hp).use ?_; (refine g0_ ?_; repeat ((first | refine n1_ fun b_ => ?_ | refine n2_ fun b_ => ?_ | refine n3_ fun b_ pre_ => ?_ | refine Nat1.mk fun q_ hq_ => ?_ | refine em_ fun x_ hx_ => ?_ | refine Elem1.mk fun e_ he_ => ?_); refine g0_ ?_))
      exact .refl _
  · rw [moveE, if_neg h0] at h1
    refine Pure.of (acalls_of_vc (drawOk W) Tryd.func6 rfl (by decide) (by decide) rfl ?_)
    (refine g0_ ?_; repeat ((first | refine n1_ fun b_ => ?_ | refine n2_ fun b_ => ?_ | refine n3_ fun b_ pre_ => ?_ | refine Nat1.mk fun q_ hq_ => ?_ | refine em_ fun x_ hx_ => ?_ | refine Elem1.mk fun e_ he_ => ?_); refine g0_ ?_))
    refine (h1).use ?_; (refine g0_ ?_; repeat ((first | refine n1_ fun b_ => ?_ | refine n2_ fun b_ => ?_ | refine n3_ fun b_ pre_ => ?_ | refine Nat1.mk fun q_ hq_ => ?_ | refine em_ fun x_ hx_ => ?_ | refine Elem1.mk fun e_ he_ => ?_); refine g0_ ?_))
    (refine g1_ ?_; repeat ((first | refine n1_ fun b_ => ?_ | refine n2_ fun b_ => ?_ | refine n3_ fun b_ pre_ => ?_ | refine Nat1.mk fun q_ hq_ => ?_ | refine em_ fun x_ hx_ => ?_ | refine Elem1.mk fun e_ he_ => ?_); refine g1_ ?_))
    refine (hp).use ?_; (refine g0_ ?_; repeat ((first | refine n1_ fun b_ => ?_ | refine n2_ fun b_ => ?_ | refine n3_ fun b_ pre_ => ?_ | refine Nat1.mk fun q_ hq_ => ?_ | refine em_ fun x_ hx_ => ?_ | refine Elem1.mk fun e_ he_ => ?_); refine g0_ ?_))
    (refine g1_ ?_; repeat ((first | refine n1_ fun b_ => ?_ | refine n2_ fun b_ => ?_ | refine n3_ fun b_ pre_ => ?_ | refine Nat1.mk fun q_ hq_ => ?_ | refine em_ fun x_ hx_ => ?_ | refine Elem1.mk fun e_ he_ => ?_); refine g1_ ?_))
    refine (hp).use ?_; (refine g0_ ?_; repeat ((first | refine n1_ fun b_ => ?_ | refine n2_ fun b_ => ?_ | refine n3_ fun b_ pre_ => ?_ | refine Nat1.mk fun q_ hq_ => ?_ | refine em_ fun x_ hx_ => ?_ | refine Elem1.mk fun e_ he_ => ?_); refine g0_ ?_))
    exact .refl _
end Go.Eng.YtgpkedepboenpaaDoor
end
