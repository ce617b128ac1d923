/- Texts put together: FullR2, Prs21. -/
import Derived.Test.YtkcldifniomfoaaDoorMQ4
import Derived.Test.YtkcldifniomfoaaDoorME10
import Derived.Shelf.Strings.SlTrimAscii
/- utf8.FullRune, from its text (b_ x_ q_ e_). -/
section
namespace Go.Eng.YtkcldifniomfoaaDoor
open Go Go.Eng Go.Proofs
variable (W : World)
set_option linter.unusedSimpArgs false
set_option maxRecDepth 100000
set_option linter.unusedVariables false
set_option maxHeartbeats 8000000
theorem fullb_ok (hT : Tabs W) (s : List UInt8) : Pure Tryd.prog W 33 [.sl 1 (s.map fun c => PV.int .u8 c.toNat)] (.bool (fullL s)) := by
  generalize hR : fullL s = R
  rcases s with _ | ⟨c, s⟩
  · refine Pure.of (acalls_of_vc (drawOk W) Tryd.func33 rfl (by decide) (by decide) rfl ?_)
    (refine g0_ ?_; repeat ((first | refine n1_ fun b_ => ?_ | refine n2_ fun b_ => ?_ | refine Nat1.mk fun q_ hq_ => ?_ | refine em_ fun x_ hx_ => ?_ | refine Elem1.mk fun e_ he_ => ?_); refine g0_ ?_))
    exact .of_eq (by rw [← hR]; rfl)
  · have hc := c.toNat_lt
    rw [fullL, if_neg (by simp), gB_head] at hR
    have hf := glob_first W hT c.toNat (by omega)
    rcases Lib.firstT_cases c.toNat with hX | hX | hX | hX | hX | hX | hX | hX | hX
    all_goals rw [hX] at hf hR
    · refine Pure.of (acalls_of_vc (drawOk W) Tryd.func33 rfl (by decide) (by decide) rfl ?_)
      (refine g0_ ?_; repeat ((first | refine n1_ fun b_ => ?_ | refine n2_ fun b_ => ?_ | refine Nat1.mk fun q_ hq_ => ?_ | refine em_ fun x_ hx_ => ?_ | refine Elem1.mk fun e_ he_ => ?_); refine g0_ ?_))
      refine ⟨_, hf, ?_⟩
      (refine g0_ ?_; repeat ((first | refine n1_ fun b_ => ?_ | refine n2_ fun b_ => ?_ | refine Nat1.mk fun q_ hq_ => ?_ | refine em_ fun x_ hx_ => ?_ | refine Elem1.mk fun e_ he_ => ?_); refine g0_ ?_))
      rw [show bitop .and .u8 ((240 : Nat) : Int) 7 = 0 by decide]
      (refine g0_ ?_; repeat ((first | refine n1_ fun b_ => ?_ | refine n2_ fun b_ => ?_ | refine Nat1.mk fun q_ hq_ => ?_ | refine em_ fun x_ hx_ => ?_ | refine Elem1.mk fun e_ he_ => ?_); refine g0_ ?_))
      exact .of_eq (by rw [← hR, if_pos (by simp)])
    · refine Pure.of (acalls_of_vc (drawOk W) Tryd.func33 rfl (by decide) (by decide) rfl ?_)
      (refine g0_ ?_; repeat ((first | refine n1_ fun b_ => ?_ | refine n2_ fun b_ => ?_ | refine Nat1.mk fun q_ hq_ => ?_ | refine em_ fun x_ hx_ => ?_ | refine Elem1.mk fun e_ he_ => ?_); refine g0_ ?_))
      refine ⟨_, hf, ?_⟩
      (refine g0_ ?_; repeat ((first | refine n1_ fun b_ => ?_ | refine n2_ fun b_ => ?_ | refine Nat1.mk fun q_ hq_ => ?_ | refine em_ fun x_ hx_ => ?_ | refine Elem1.mk fun e_ he_ => ?_); refine g0_ ?_))
      rw [show bitop .and .u8 ((241 : Nat) : Int) 7 = 1 by decide]
      (refine g0_ ?_; repeat ((first | refine n1_ fun b_ => ?_ | refine n2_ fun b_ => ?_ | refine Nat1.mk fun q_ hq_ => ?_ | refine em_ fun x_ hx_ => ?_ | refine Elem1.mk fun e_ he_ => ?_); refine g0_ ?_))
      refine brec ?_; intro c_ h; (try rw [h]); cases c_ <;> replace h := nm_ h
      · simp at h; omega
      · (refine g0_ ?_; repeat ((first | refine n1_ fun b_ => ?_ | refine n2_ fun b_ => ?_ | refine Nat1.mk fun q_ hq_ => ?_ | refine em_ fun x_ hx_ => ?_ | refine Elem1.mk fun e_ he_ => ?_); refine g0_ ?_))
        exact .of_eq (by rw [← hR, if_pos (by simp)])
    · have ha := glob_acc W hT 0 (by omega)
      simp only [Lib.accLo, Lib.accHi, Nat.reduceEqDiff, if_true, if_false] at ha
      refine Pure.of (acalls_of_vc (drawOk W) Tryd.func33 rfl (by decide) (by decide) rfl ?_)
      (refine g0_ ?_; repeat ((first | refine n1_ fun b_ => ?_ | refine n2_ fun b_ => ?_ | refine Nat1.mk fun q_ hq_ => ?_ | refine em_ fun x_ hx_ => ?_ | refine Elem1.mk fun e_ he_ => ?_); refine g0_ ?_))
      refine ⟨_, hf, ?_⟩
      (refine g0_ ?_; repeat ((first | refine n1_ fun b_ => ?_ | refine n2_ fun b_ => ?_ | refine Nat1.mk fun q_ hq_ => ?_ | refine em_ fun x_ hx_ => ?_ | refine Elem1.mk fun e_ he_ => ?_); refine g0_ ?_))
      rw [show bitop .and .u8 ((2 : Nat) : Int) 7 = 2 by decide]
      (refine g0_ ?_; repeat ((first | refine n1_ fun b_ => ?_ | refine n2_ fun b_ => ?_ | refine Nat1.mk fun q_ hq_ => ?_ | refine em_ fun x_ hx_ => ?_ | refine Elem1.mk fun e_ he_ => ?_); refine g0_ ?_))
      refine brec ?_; intro c_ h; (try rw [h]); cases c_ <;> replace h := nm_ h
      rotate_left
      · (refine g0_ ?_; repeat ((first | refine n1_ fun b_ => ?_ | refine n2_ fun b_ => ?_ | refine Nat1.mk fun q_ hq_ => ?_ | refine em_ fun x_ hx_ => ?_ | refine Elem1.mk fun e_ he_ => ?_); refine g0_ ?_))
        exact .of_eq (by rw [← hR, if_pos (by simp at h ⊢ <;> omega)])
      (refine g0_ ?_; repeat ((first | refine n1_ fun b_ => ?_ | refine n2_ fun b_ => ?_ | refine Nat1.mk fun q_ hq_ => ?_ | refine em_ fun x_ hx_ => ?_ | refine Elem1.mk fun e_ he_ => ?_); refine g0_ ?_))
      refine need.mk (by decide) ?_
      refine ⟨_, ha, ?_⟩
      rcases s with _ | ⟨d, s⟩
      · (refine g0_ ?_; repeat ((first | refine n1_ fun b_ => ?_ | refine n2_ fun b_ => ?_ | refine Nat1.mk fun q_ hq_ => ?_ | refine em_ fun x_ hx_ => ?_ | refine Elem1.mk fun e_ he_ => ?_); refine g0_ ?_))
        refine head_ ?_; (refine g0_ ?_; repeat ((first | refine n1_ fun b_ => ?_ | refine n2_ fun b_ => ?_ | refine Nat1.mk fun q_ hq_ => ?_ | refine em_ fun x_ hx_ => ?_ | refine Elem1.mk fun e_ he_ => ?_); refine g0_ ?_))
        (refine g0_ ?_; repeat ((first | refine n1_ fun b_ => ?_ | refine n2_ fun b_ => ?_ | refine Nat1.mk fun q_ hq_ => ?_ | refine em_ fun x_ hx_ => ?_ | refine Elem1.mk fun e_ he_ => ?_); refine g0_ ?_))
        refine .of_eq (congrArg PV.bool ?_)
        rw [← hR, if_neg (by simp at h ⊢ <;> omega)]
        exact (decide_eq_false (by simp [gB_cons, gB_head, Lib.accLo, Lib.accHi] <;> omega)).symm
      exfalso; simp at h <;> omega
    · have ha := glob_acc W hT 1 (by omega)
      simp only [Lib.accLo, Lib.accHi, Nat.reduceEqDiff, if_true, if_false] at ha
      refine Pure.of (acalls_of_vc (drawOk W) Tryd.func33 rfl (by decide) (by decide) rfl ?_)
      (refine g0_ ?_; repeat ((first | refine n1_ fun b_ => ?_ | refine n2_ fun b_ => ?_ | refine Nat1.mk fun q_ hq_ => ?_ | refine em_ fun x_ hx_ => ?_ | refine Elem1.mk fun e_ he_ => ?_); refine g0_ ?_))
      refine ⟨_, hf, ?_⟩
      (refine g0_ ?_; repeat ((first | refine n1_ fun b_ => ?_ | refine n2_ fun b_ => ?_ | refine Nat1.mk fun q_ hq_ => ?_ | refine em_ fun x_ hx_ => ?_ | refine Elem1.mk fun e_ he_ => ?_); refine g0_ ?_))
      rw [show bitop .and .u8 ((19 : Nat) : Int) 7 = 3 by decide]
      (refine g0_ ?_; repeat ((first | refine n1_ fun b_ => ?_ | refine n2_ fun b_ => ?_ | refine Nat1.mk fun q_ hq_ => ?_ | refine em_ fun x_ hx_ => ?_ | refine Elem1.mk fun e_ he_ => ?_); refine g0_ ?_))
      refine brec ?_; intro c_ h; (try rw [h]); cases c_ <;> replace h := nm_ h
      rotate_left
      · (refine g0_ ?_; repeat ((first | refine n1_ fun b_ => ?_ | refine n2_ fun b_ => ?_ | refine Nat1.mk fun q_ hq_ => ?_ | refine em_ fun x_ hx_ => ?_ | refine Elem1.mk fun e_ he_ => ?_); refine g0_ ?_))
        exact .of_eq (by rw [← hR, if_pos (by simp at h ⊢ <;> omega)])
      (refine g0_ ?_; repeat ((first | refine n1_ fun b_ => ?_ | refine n2_ fun b_ => ?_ | refine Nat1.mk fun q_ hq_ => ?_ | refine em_ fun x_ hx_ => ?_ | refine Elem1.mk fun e_ he_ => ?_); refine g0_ ?_))
      refine need.mk (by decide) ?_
      refine ⟨_, ha, ?_⟩
      rcases s with _ | ⟨d, s⟩
      · (refine g0_ ?_; repeat ((first | refine n1_ fun b_ => ?_ | refine n2_ fun b_ => ?_ | refine Nat1.mk fun q_ hq_ => ?_ | refine em_ fun x_ hx_ => ?_ | refine Elem1.mk fun e_ he_ => ?_); refine g0_ ?_))
        refine head_ ?_; (refine g0_ ?_; repeat ((first | refine n1_ fun b_ => ?_ | refine n2_ fun b_ => ?_ | refine Nat1.mk fun q_ hq_ => ?_ | refine em_ fun x_ hx_ => ?_ | refine Elem1.mk fun e_ he_ => ?_); refine g0_ ?_))
        (refine g0_ ?_; repeat ((first | refine n1_ fun b_ => ?_ | refine n2_ fun b_ => ?_ | refine Nat1.mk fun q_ hq_ => ?_ | refine em_ fun x_ hx_ => ?_ | refine Elem1.mk fun e_ he_ => ?_); refine g0_ ?_))
        refine .of_eq (congrArg PV.bool ?_)
        rw [← hR, if_neg (by simp at h ⊢ <;> omega)]
        exact (decide_eq_false (by simp [gB_cons, gB_head, Lib.accLo, Lib.accHi] <;> omega)).symm
      rcases s with _ | ⟨e, s⟩
      · (refine g0_ ?_; repeat ((first | refine n1_ fun b_ => ?_ | refine n2_ fun b_ => ?_ | refine Nat1.mk fun q_ hq_ => ?_ | refine em_ fun x_ hx_ => ?_ | refine Elem1.mk fun e_ he_ => ?_); refine g0_ ?_))
        refine head_ ?_; (refine g0_ ?_; repeat ((first | refine n1_ fun b_ => ?_ | refine n2_ fun b_ => ?_ | refine Nat1.mk fun q_ hq_ => ?_ | refine em_ fun x_ hx_ => ?_ | refine Elem1.mk fun e_ he_ => ?_); refine g0_ ?_))
        (refine g0_ ?_; repeat ((first | refine n1_ fun b_ => ?_ | refine n2_ fun b_ => ?_ | refine Nat1.mk fun q_ hq_ => ?_ | refine em_ fun x_ hx_ => ?_ | refine Elem1.mk fun e_ he_ => ?_); refine g0_ ?_))
        refine brec ?_; intro c_ h1; (try rw [h1]); cases c_ <;> replace h1 := nm_ h1
        · (refine g0_ ?_; repeat ((first | refine n1_ fun b_ => ?_ | refine n2_ fun b_ => ?_ | refine Nat1.mk fun q_ hq_ => ?_ | refine em_ fun x_ hx_ => ?_ | refine Elem1.mk fun e_ he_ => ?_); refine g0_ ?_))
          refine brec ?_; intro c_ h2; (try rw [h2]); cases c_ <;> replace h2 := nm_ h2
          · (refine g0_ ?_; repeat ((first | refine n1_ fun b_ => ?_ | refine n2_ fun b_ => ?_ | refine Nat1.mk fun q_ hq_ => ?_ | refine em_ fun x_ hx_ => ?_ | refine Elem1.mk fun e_ he_ => ?_); refine g0_ ?_))
            refine .of_eq (congrArg PV.bool ?_)
            rw [← hR, if_neg (by simp at h ⊢ <;> omega)]
            exact (decide_eq_false (by simp [gB_cons, gB_head, Lib.accLo, Lib.accHi] <;> omega)).symm
          · (refine g0_ ?_; repeat ((first | refine n1_ fun b_ => ?_ | refine n2_ fun b_ => ?_ | refine Nat1.mk fun q_ hq_ => ?_ | refine em_ fun x_ hx_ => ?_ | refine Elem1.mk fun e_ he_ => ?_); refine g0_ ?_))
            refine .of_eq (congrArg PV.bool ?_)
            rw [← hR, if_neg (by simp at h ⊢ <;> omega)]
            exact (decide_eq_true (by simp [gB_cons, gB_head, Lib.accLo, Lib.accHi] <;> omega)).symm
        · (refine g0_ ?_; repeat ((first | refine n1_ fun b_ => ?_ | refine n2_ fun b_ => ?_ | refine Nat1.mk fun q_ hq_ => ?_ | refine em_ fun x_ hx_ => ?_ | refine Elem1.mk fun e_ he_ => ?_); refine g0_ ?_))
          refine .of_eq (congrArg PV.bool ?_)
          rw [← hR, if_neg (by simp at h ⊢ <;> omega)]
          exact (decide_eq_true (by simp [gB_cons, gB_head, Lib.accLo, Lib.accHi] <;> omega)).symm
      exfalso; simp at h <;> omega
    · have ha := glob_acc W hT 0 (by omega)
      simp only [Lib.accLo, Lib.accHi, Nat.reduceEqDiff, if_true, if_false] at ha
      refine Pure.of (acalls_of_vc (drawOk W) Tryd.func33 rfl (by decide) (by decide) rfl ?_)
      (refine g0_ ?_; repeat ((first | refine n1_ fun b_ => ?_ | refine n2_ fun b_ => ?_ | refine Nat1.mk fun q_ hq_ => ?_ | refine em_ fun x_ hx_ => ?_ | refine Elem1.mk fun e_ he_ => ?_); refine g0_ ?_))
      refine ⟨_, hf, ?_⟩
      (refine g0_ ?_; repeat ((first | refine n1_ fun b_ => ?_ | refine n2_ fun b_ => ?_ | refine Nat1.mk fun q_ hq_ => ?_ | refine em_ fun x_ hx_ => ?_ | refine Elem1.mk fun e_ he_ => ?_); refine g0_ ?_))
      rw [show bitop .and .u8 ((3 : Nat) : Int) 7 = 3 by decide]
      (refine g0_ ?_; repeat ((first | refine n1_ fun b_ => ?_ | refine n2_ fun b_ => ?_ | refine Nat1.mk fun q_ hq_ => ?_ | refine em_ fun x_ hx_ => ?_ | refine Elem1.mk fun e_ he_ => ?_); refine g0_ ?_))
      refine brec ?_; intro c_ h; (try rw [h]); cases c_ <;> replace h := nm_ h
      rotate_left
      · (refine g0_ ?_; repeat ((first | refine n1_ fun b_ => ?_ | refine n2_ fun b_ => ?_ | refine Nat1.mk fun q_ hq_ => ?_ | refine em_ fun x_ hx_ => ?_ | refine Elem1.mk fun e_ he_ => ?_); refine g0_ ?_))
        exact .of_eq (by rw [← hR, if_pos (by simp at h ⊢ <;> omega)])
      (refine g0_ ?_; repeat ((first | refine n1_ fun b_ => ?_ | refine n2_ fun b_ => ?_ | refine Nat1.mk fun q_ hq_ => ?_ | refine em_ fun x_ hx_ => ?_ | refine Elem1.mk fun e_ he_ => ?_); refine g0_ ?_))
      refine need.mk (by decide) ?_
      refine ⟨_, ha, ?_⟩
      rcases s with _ | ⟨d, s⟩
      · (refine g0_ ?_; repeat ((first | refine n1_ fun b_ => ?_ | refine n2_ fun b_ => ?_ | refine Nat1.mk fun q_ hq_ => ?_ | refine em_ fun x_ hx_ => ?_ | refine Elem1.mk fun e_ he_ => ?_); refine g0_ ?_))
        refine head_ ?_; (refine g0_ ?_; repeat ((first | refine n1_ fun b_ => ?_ | refine n2_ fun b_ => ?_ | refine Nat1.mk fun q_ hq_ => ?_ | refine em_ fun x_ hx_ => ?_ | refine Elem1.mk fun e_ he_ => ?_); refine g0_ ?_))
        (refine g0_ ?_; repeat ((first | refine n1_ fun b_ => ?_ | refine n2_ fun b_ => ?_ | refine Nat1.mk fun q_ hq_ => ?_ | refine em_ fun x_ hx_ => ?_ | refine Elem1.mk fun e_ he_ => ?_); refine g0_ ?_))
        refine .of_eq (congrArg PV.bool ?_)
        rw [← hR, if_neg (by simp at h ⊢ <;> omega)]
        exact (decide_eq_false (by simp [gB_cons, gB_head, Lib.accLo, Lib.accHi] <;> omega)).symm
      rcases s with _ | ⟨e, s⟩
      · (refine g0_ ?_; repeat ((first | refine n1_ fun b_ => ?_ | refine n2_ fun b_ => ?_ | refine Nat1.mk fun q_ hq_ => ?_ | refine em_ fun x_ hx_ => ?_ | refine Elem1.mk fun e_ he_ => ?_); refine g0_ ?_))
        refine head_ ?_; (refine g0_ ?_; repeat ((first | refine n1_ fun b_ => ?_ | refine n2_ fun b_ => ?_ | refine Nat1.mk fun q_ hq_ => ?_ | refine em_ fun x_ hx_ => ?_ | refine Elem1.mk fun e_ he_ => ?_); refine g0_ ?_))
        (refine g0_ ?_; repeat ((first | refine n1_ fun b_ => ?_ | refine n2_ fun b_ => ?_ | refine Nat1.mk fun q_ hq_ => ?_ | refine em_ fun x_ hx_ => ?_ | refine Elem1.mk fun e_ he_ => ?_); refine g0_ ?_))
        refine brec ?_; intro c_ h1; (try rw [h1]); cases c_ <;> replace h1 := nm_ h1
        · (refine g0_ ?_; repeat ((first | refine n1_ fun b_ => ?_ | refine n2_ fun b_ => ?_ | refine Nat1.mk fun q_ hq_ => ?_ | refine em_ fun x_ hx_ => ?_ | refine Elem1.mk fun e_ he_ => ?_); refine g0_ ?_))
          refine brec ?_; intro c_ h2; (try rw [h2]); cases c_ <;> replace h2 := nm_ h2
          · (refine g0_ ?_; repeat ((first | refine n1_ fun b_ => ?_ | refine n2_ fun b_ => ?_ | refine Nat1.mk fun q_ hq_ => ?_ | refine em_ fun x_ hx_ => ?_ | refine Elem1.mk fun e_ he_ => ?_); refine g0_ ?_))
            refine .of_eq (congrArg PV.bool ?_)
            rw [← hR, if_neg (by simp at h ⊢ <;> omega)]
            exact (decide_eq_false (by simp [gB_cons, gB_head, Lib.accLo, Lib.accHi] <;> omega)).symm
          · (refine g0_ ?_; repeat ((first | refine n1_ fun b_ => ?_ | refine n2_ fun b_ => ?_ | refine Nat1.mk fun q_ hq_ => ?_ | refine em_ fun x_ hx_ => ?_ | refine Elem1.mk fun e_ he_ => ?_); refine g0_ ?_))
            refine .of_eq (congrArg PV.bool ?_)
            rw [← hR, if_neg (by simp at h ⊢ <;> omega)]
            exact (decide_eq_true (by simp [gB_cons, gB_head, Lib.accLo, Lib.accHi] <;> omega)).symm
        · (refine g0_ ?_; repeat ((first | refine n1_ fun b_ => ?_ | refine n2_ fun b_ => ?_ | refine Nat1.mk fun q_ hq_ => ?_ | refine em_ fun x_ hx_ => ?_ | refine Elem1.mk fun e_ he_ => ?_); refine g0_ ?_))
          refine .of_eq (congrArg PV.bool ?_)
          rw [← hR, if_neg (by simp at h ⊢ <;> omega)]
          exact (decide_eq_true (by simp [gB_cons, gB_head, Lib.accLo, Lib.accHi] <;> omega)).symm
      exfalso; simp at h <;> omega
    · have ha := glob_acc W hT 2 (by omega)
      simp only [Lib.accLo, Lib.accHi, Nat.reduceEqDiff, if_true, if_false] at ha
      refine Pure.of (acalls_of_vc (drawOk W) Tryd.func33 rfl (by decide) (by decide) rfl ?_)
      (refine g0_ ?_; repeat ((first | refine n1_ fun b_ => ?_ | refine n2_ fun b_ => ?_ | refine Nat1.mk fun q_ hq_ => ?_ | refine em_ fun x_ hx_ => ?_ | refine Elem1.mk fun e_ he_ => ?_); refine g0_ ?_))
      refine ⟨_, hf, ?_⟩
      (refine g0_ ?_; repeat ((first | refine n1_ fun b_ => ?_ | refine n2_ fun b_ => ?_ | refine Nat1.mk fun q_ hq_ => ?_ | refine em_ fun x_ hx_ => ?_ | refine Elem1.mk fun e_ he_ => ?_); refine g0_ ?_))
      rw [show bitop .and .u8 ((35 : Nat) : Int) 7 = 3 by decide]
      (refine g0_ ?_; repeat ((first | refine n1_ fun b_ => ?_ | refine n2_ fun b_ => ?_ | refine Nat1.mk fun q_ hq_ => ?_ | refine em_ fun x_ hx_ => ?_ | refine Elem1.mk fun e_ he_ => ?_); refine g0_ ?_))
      refine brec ?_; intro c_ h; (try rw [h]); cases c_ <;> replace h := nm_ h
      rotate_left
      · (refine g0_ ?_; repeat ((first | refine n1_ fun b_ => ?_ | refine n2_ fun b_ => ?_ | refine Nat1.mk fun q_ hq_ => ?_ | refine em_ fun x_ hx_ => ?_ | refine Elem1.mk fun e_ he_ => ?_); refine g0_ ?_))
        exact .of_eq (by rw [← hR, if_pos (by simp at h ⊢ <;> omega)])
      (refine g0_ ?_; repeat ((first | refine n1_ fun b_ => ?_ | refine n2_ fun b_ => ?_ | refine Nat1.mk fun q_ hq_ => ?_ | refine em_ fun x_ hx_ => ?_ | refine Elem1.mk fun e_ he_ => ?_); refine g0_ ?_))
      refine need.mk (by decide) ?_
      refine ⟨_, ha, ?_⟩
      rcases s with _ | ⟨d, s⟩
      · (refine g0_ ?_; repeat ((first | refine n1_ fun b_ => ?_ | refine n2_ fun b_ => ?_ | refine Nat1.mk fun q_ hq_ => ?_ | refine em_ fun x_ hx_ => ?_ | refine Elem1.mk fun e_ he_ => ?_); refine g0_ ?_))
        refine head_ ?_; (refine g0_ ?_; repeat ((first | refine n1_ fun b_ => ?_ | refine n2_ fun b_ => ?_ | refine Nat1.mk fun q_ hq_ => ?_ | refine em_ fun x_ hx_ => ?_ | refine Elem1.mk fun e_ he_ => ?_); refine g0_ ?_))
        (refine g0_ ?_; repeat ((first | refine n1_ fun b_ => ?_ | refine n2_ fun b_ => ?_ | refine Nat1.mk fun q_ hq_ => ?_ | refine em_ fun x_ hx_ => ?_ | refine Elem1.mk fun e_ he_ => ?_); refine g0_ ?_))
        refine .of_eq (congrArg PV.bool ?_)
        rw [← hR, if_neg (by simp at h ⊢ <;> omega)]
        exact (decide_eq_false (by simp [gB_cons, gB_head, Lib.accLo, Lib.accHi] <;> omega)).symm
      rcases s with _ | ⟨e, s⟩
      · (refine g0_ ?_; repeat ((first | refine n1_ fun b_ => ?_ | refine n2_ fun b_ => ?_ | refine Nat1.mk fun q_ hq_ => ?_ | refine em_ fun x_ hx_ => ?_ | refine Elem1.mk fun e_ he_ => ?_); refine g0_ ?_))
        refine head_ ?_; (refine g0_ ?_; repeat ((first | refine n1_ fun b_ => ?_ | refine n2_ fun b_ => ?_ | refine Nat1.mk fun q_ hq_ => ?_ | refine em_ fun x_ hx_ => ?_ | refine Elem1.mk fun e_ he_ => ?_); refine g0_ ?_))
        (refine g0_ ?_; repeat ((first | refine n1_ fun b_ => ?_ | refine n2_ fun b_ => ?_ | refine Nat1.mk fun q_ hq_ => ?_ | refine em_ fun x_ hx_ => ?_ | refine Elem1.mk fun e_ he_ => ?_); refine g0_ ?_))
        refine brec ?_; intro c_ h1; (try rw [h1]); cases c_ <;> replace h1 := nm_ h1
        · (refine g0_ ?_; repeat ((first | refine n1_ fun b_ => ?_ | refine n2_ fun b_ => ?_ | refine Nat1.mk fun q_ hq_ => ?_ | refine em_ fun x_ hx_ => ?_ | refine Elem1.mk fun e_ he_ => ?_); refine g0_ ?_))
          refine brec ?_; intro c_ h2; (try rw [h2]); cases c_ <;> replace h2 := nm_ h2
          · (refine g0_ ?_; repeat ((first | refine n1_ fun b_ => ?_ | refine n2_ fun b_ => ?_ | refine Nat1.mk fun q_ hq_ => ?_ | refine em_ fun x_ hx_ => ?_ | refine Elem1.mk fun e_ he_ => ?_); refine g0_ ?_))
            refine .of_eq (congrArg PV.bool ?_)
            rw [← hR, if_neg (by simp at h ⊢ <;> omega)]
            exact (decide_eq_false (by simp [gB_cons, gB_head, Lib.accLo, Lib.accHi] <;> omega)).symm
          · (refine g0_ ?_; repeat ((first | refine n1_ fun b_ => ?_ | refine n2_ fun b_ => ?_ | refine Nat1.mk fun q_ hq_ => ?_ | refine em_ fun x_ hx_ => ?_ | refine Elem1.mk fun e_ he_ => ?_); refine g0_ ?_))
            refine .of_eq (congrArg PV.bool ?_)
            rw [← hR, if_neg (by simp at h ⊢ <;> omega)]
            exact (decide_eq_true (by simp [gB_cons, gB_head, Lib.accLo, Lib.accHi] <;> omega)).symm
        · (refine g0_ ?_; repeat ((first | refine n1_ fun b_ => ?_ | refine n2_ fun b_ => ?_ | refine Nat1.mk fun q_ hq_ => ?_ | refine em_ fun x_ hx_ => ?_ | refine Elem1.mk fun e_ he_ => ?_); refine g0_ ?_))
          refine .of_eq (congrArg PV.bool ?_)
          rw [← hR, if_neg (by simp at h ⊢ <;> omega)]
          exact (decide_eq_true (by simp [gB_cons, gB_head, Lib.accLo, Lib.accHi] <;> omega)).symm
      exfalso; simp at h <;> omega
    · have ha := glob_acc W hT 3 (by omega)
      simp only [Lib.accLo, Lib.accHi, Nat.reduceEqDiff, if_true, if_false] at ha
      refine Pure.of (acalls_of_vc (drawOk W) Tryd.func33 rfl (by decide) (by decide) rfl ?_)
      (refine g0_ ?_; repeat ((first | refine n1_ fun b_ => ?_ | refine n2_ fun b_ => ?_ | refine Nat1.mk fun q_ hq_ => ?_ | refine em_ fun x_ hx_ => ?_ | refine Elem1.mk fun e_ he_ => ?_); refine g0_ ?_))
      refine ⟨_, hf, ?_⟩
      (refine g0_ ?_; repeat ((first | refine n1_ fun b_ => ?_ | refine n2_ fun b_ => ?_ | refine Nat1.mk fun q_ hq_ => ?_ | refine em_ fun x_ hx_ => ?_ | refine Elem1.mk fun e_ he_ => ?_); refine g0_ ?_))
      rw [show bitop .and .u8 ((52 : Nat) : Int) 7 = 4 by decide]
      (refine g0_ ?_; repeat ((first | refine n1_ fun b_ => ?_ | refine n2_ fun b_ => ?_ | refine Nat1.mk fun q_ hq_ => ?_ | refine em_ fun x_ hx_ => ?_ | refine Elem1.mk fun e_ he_ => ?_); refine g0_ ?_))
      refine brec ?_; intro c_ h; (try rw [h]); cases c_ <;> replace h := nm_ h
      rotate_left
      · (refine g0_ ?_; repeat ((first | refine n1_ fun b_ => ?_ | refine n2_ fun b_ => ?_ | refine Nat1.mk fun q_ hq_ => ?_ | refine em_ fun x_ hx_ => ?_ | refine Elem1.mk fun e_ he_ => ?_); refine g0_ ?_))
        exact .of_eq (by rw [← hR, if_pos (by simp at h ⊢ <;> omega)])
      (refine g0_ ?_; repeat ((first | refine n1_ fun b_ => ?_ | refine n2_ fun b_ => ?_ | refine Nat1.mk fun q_ hq_ => ?_ | refine em_ fun x_ hx_ => ?_ | refine Elem1.mk fun e_ he_ => ?_); refine g0_ ?_))
      refine need.mk (by decide) ?_
      refine ⟨_, ha, ?_⟩
      rcases s with _ | ⟨d, s⟩
      · (refine g0_ ?_; repeat ((first | refine n1_ fun b_ => ?_ | refine n2_ fun b_ => ?_ | refine Nat1.mk fun q_ hq_ => ?_ | refine em_ fun x_ hx_ => ?_ | refine Elem1.mk fun e_ he_ => ?_); refine g0_ ?_))
        refine head_ ?_; (refine g0_ ?_; repeat ((first | refine n1_ fun b_ => ?_ | refine n2_ fun b_ => ?_ | refine Nat1.mk fun q_ hq_ => ?_ | refine em_ fun x_ hx_ => ?_ | refine Elem1.mk fun e_ he_ => ?_); refine g0_ ?_))
        (refine g0_ ?_; repeat ((first | refine n1_ fun b_ => ?_ | refine n2_ fun b_ => ?_ | refine Nat1.mk fun q_ hq_ => ?_ | refine em_ fun x_ hx_ => ?_ | refine Elem1.mk fun e_ he_ => ?_); refine g0_ ?_))
        refine .of_eq (congrArg PV.bool ?_)
        rw [← hR, if_neg (by simp at h ⊢ <;> omega)]
        exact (decide_eq_false (by simp [gB_cons, gB_head, Lib.accLo, Lib.accHi] <;> omega)).symm
      rcases s with _ | ⟨e, s⟩
      · (refine g0_ ?_; repeat ((first | refine n1_ fun b_ => ?_ | refine n2_ fun b_ => ?_ | refine Nat1.mk fun q_ hq_ => ?_ | refine em_ fun x_ hx_ => ?_ | refine Elem1.mk fun e_ he_ => ?_); refine g0_ ?_))
        refine head_ ?_; (refine g0_ ?_; repeat ((first | refine n1_ fun b_ => ?_ | refine n2_ fun b_ => ?_ | refine Nat1.mk fun q_ hq_ => ?_ | refine em_ fun x_ hx_ => ?_ | refine Elem1.mk fun e_ he_ => ?_); refine g0_ ?_))
        (refine g0_ ?_; repeat ((first | refine n1_ fun b_ => ?_ | refine n2_ fun b_ => ?_ | refine Nat1.mk fun q_ hq_ => ?_ | refine em_ fun x_ hx_ => ?_ | refine Elem1.mk fun e_ he_ => ?_); refine g0_ ?_))
        refine brec ?_; intro c_ h1; (try rw [h1]); cases c_ <;> replace h1 := nm_ h1
        · (refine g0_ ?_; repeat ((first | refine n1_ fun b_ => ?_ | refine n2_ fun b_ => ?_ | refine Nat1.mk fun q_ hq_ => ?_ | refine em_ fun x_ hx_ => ?_ | refine Elem1.mk fun e_ he_ => ?_); refine g0_ ?_))
          refine brec ?_; intro c_ h2; (try rw [h2]); cases c_ <;> replace h2 := nm_ h2
          · (refine g0_ ?_; repeat ((first | refine n1_ fun b_ => ?_ | refine n2_ fun b_ => ?_ | refine Nat1.mk fun q_ hq_ => ?_ | refine em_ fun x_ hx_ => ?_ | refine Elem1.mk fun e_ he_ => ?_); refine g0_ ?_))
            refine .of_eq (congrArg PV.bool ?_)
            rw [← hR, if_neg (by simp at h ⊢ <;> omega)]
            exact (decide_eq_false (by simp [gB_cons, gB_head, Lib.accLo, Lib.accHi] <;> omega)).symm
          · (refine g0_ ?_; repeat ((first | refine n1_ fun b_ => ?_ | refine n2_ fun b_ => ?_ | refine Nat1.mk fun q_ hq_ => ?_ | refine em_ fun x_ hx_ => ?_ | refine Elem1.mk fun e_ he_ => ?_); refine g0_ ?_))
            refine .of_eq (congrArg PV.bool ?_)
            rw [← hR, if_neg (by simp at h ⊢ <;> omega)]
            exact (decide_eq_true (by simp [gB_cons, gB_head, Lib.accLo, Lib.accHi] <;> omega)).symm
        · (refine g0_ ?_; repeat ((first | refine n1_ fun b_ => ?_ | refine n2_ fun b_ => ?_ | refine Nat1.mk fun q_ hq_ => ?_ | refine em_ fun x_ hx_ => ?_ | refine Elem1.mk fun e_ he_ => ?_); refine g0_ ?_))
          refine .of_eq (congrArg PV.bool ?_)
          rw [← hR, if_neg (by simp at h ⊢ <;> omega)]
          exact (decide_eq_true (by simp [gB_cons, gB_head, Lib.accLo, Lib.accHi] <;> omega)).symm
      rcases s with _ | ⟨f, s⟩
      · (refine g0_ ?_; repeat ((first | refine n1_ fun b_ => ?_ | refine n2_ fun b_ => ?_ | refine Nat1.mk fun q_ hq_ => ?_ | refine em_ fun x_ hx_ => ?_ | refine Elem1.mk fun e_ he_ => ?_); refine g0_ ?_))
        refine head_ ?_; (refine g0_ ?_; repeat ((first | refine n1_ fun b_ => ?_ | refine n2_ fun b_ => ?_ | refine Nat1.mk fun q_ hq_ => ?_ | refine em_ fun x_ hx_ => ?_ | refine Elem1.mk fun e_ he_ => ?_); refine g0_ ?_))
        (refine g0_ ?_; repeat ((first | refine n1_ fun b_ => ?_ | refine n2_ fun b_ => ?_ | refine Nat1.mk fun q_ hq_ => ?_ | refine em_ fun x_ hx_ => ?_ | refine Elem1.mk fun e_ he_ => ?_); refine g0_ ?_))
        refine brec ?_; intro c_ h1; (try rw [h1]); cases c_ <;> replace h1 := nm_ h1
        · (refine g0_ ?_; repeat ((first | refine n1_ fun b_ => ?_ | refine n2_ fun b_ => ?_ | refine Nat1.mk fun q_ hq_ => ?_ | refine em_ fun x_ hx_ => ?_ | refine Elem1.mk fun e_ he_ => ?_); refine g0_ ?_))
          refine brec ?_; intro c_ h2; (try rw [h2]); cases c_ <;> replace h2 := nm_ h2
          · (refine g0_ ?_; repeat ((first | refine n1_ fun b_ => ?_ | refine n2_ fun b_ => ?_ | refine Nat1.mk fun q_ hq_ => ?_ | refine em_ fun x_ hx_ => ?_ | refine Elem1.mk fun e_ he_ => ?_); refine g0_ ?_))
            refine brec ?_; intro c_ h3; (try rw [h3]); cases c_ <;> replace h3 := nm_ h3
            · (refine g0_ ?_; repeat ((first | refine n1_ fun b_ => ?_ | refine n2_ fun b_ => ?_ | refine Nat1.mk fun q_ hq_ => ?_ | refine em_ fun x_ hx_ => ?_ | refine Elem1.mk fun e_ he_ => ?_); refine g0_ ?_))
              refine brec ?_; intro c_ h4; (try rw [h4]); cases c_ <;> replace h4 := nm_ h4
              · (refine g0_ ?_; repeat ((first | refine n1_ fun b_ => ?_ | refine n2_ fun b_ => ?_ | refine Nat1.mk fun q_ hq_ => ?_ | refine em_ fun x_ hx_ => ?_ | refine Elem1.mk fun e_ he_ => ?_); refine g0_ ?_))
                refine .of_eq (congrArg PV.bool ?_)
                rw [← hR, if_neg (by simp at h ⊢ <;> omega)]
                exact (decide_eq_false (by simp [gB_cons, gB_head, Lib.accLo, Lib.accHi] <;> omega)).symm
              · (refine g0_ ?_; repeat ((first | refine n1_ fun b_ => ?_ | refine n2_ fun b_ => ?_ | refine Nat1.mk fun q_ hq_ => ?_ | refine em_ fun x_ hx_ => ?_ | refine Elem1.mk fun e_ he_ => ?_); refine g0_ ?_))
                refine .of_eq (congrArg PV.bool ?_)
                rw [← hR, if_neg (by simp at h ⊢ <;> omega)]
                exact (decide_eq_true (by simp [gB_cons, gB_head, Lib.accLo, Lib.accHi] <;> omega)).symm
            · (refine g0_ ?_; repeat ((first | refine n1_ fun b_ => ?_ | refine n2_ fun b_ => ?_ | refine Nat1.mk fun q_ hq_ => ?_ | refine em_ fun x_ hx_ => ?_ | refine Elem1.mk fun e_ he_ => ?_); refine g0_ ?_))
              refine .of_eq (congrArg PV.bool ?_)
              rw [← hR, if_neg (by simp at h ⊢ <;> omega)]
              exact (decide_eq_true (by simp [gB_cons, gB_head, Lib.accLo, Lib.accHi] <;> omega)).symm
          · (refine g0_ ?_; repeat ((first | refine n1_ fun b_ => ?_ | refine n2_ fun b_ => ?_ | refine Nat1.mk fun q_ hq_ => ?_ | refine em_ fun x_ hx_ => ?_ | refine Elem1.mk fun e_ he_ => ?_); refine g0_ ?_))
            refine .of_eq (congrArg PV.bool ?_)
            rw [← hR, if_neg (by simp at h ⊢ <;> omega)]
            exact (decide_eq_true (by simp [gB_cons, gB_head, Lib.accLo, Lib.accHi] <;> omega)).symm
        · (refine g0_ ?_; repeat ((first | refine n1_ fun b_ => ?_ | refine n2_ fun b_ => ?_ | refine Nat1.mk fun q_ hq_ => ?_ | refine em_ fun x_ hx_ => ?_ | refine Elem1.mk fun e_ he_ => ?_); refine g0_ ?_))
          refine .of_eq (congrArg PV.bool ?_)
          rw [← hR, if_neg (by simp at h ⊢ <;> omega)]
          exact (decide_eq_true (by simp [gB_cons, gB_head, Lib.accLo, Lib.accHi] <;> omega)).symm
      exfalso; simp at h <;> omega
    · have ha := glob_acc W hT 0 (by omega)
      simp only [Lib.accLo, Lib.accHi, Nat.reduceEqDiff, if_true, if_false] at ha
      refine Pure.of (acalls_of_vc (drawOk W) Tryd.func33 rfl (by decide) (by decide) rfl ?_)
      (refine g0_ ?_; repeat ((first | refine n1_ fun b_ => ?_ | refine n2_ fun b_ => ?_ | refine Nat1.mk fun q_ hq_ => ?_ | refine em_ fun x_ hx_ => ?_ | refine Elem1.mk fun e_ he_ => ?_); refine g0_ ?_))
      refine ⟨_, hf, ?_⟩
      (refine g0_ ?_; repeat ((first | refine n1_ fun b_ => ?_ | refine n2_ fun b_ => ?_ | refine Nat1.mk fun q_ hq_ => ?_ | refine em_ fun x_ hx_ => ?_ | refine Elem1.mk fun e_ he_ => ?_); refine g0_ ?_))
      rw [show bitop .and .u8 ((4 : Nat) : Int) 7 = 4 by decide]
      (refine g0_ ?_; repeat ((first | refine n1_ fun b_ => ?_ | refine n2_ fun b_ => ?_ | refine Nat1.mk fun q_ hq_ => ?_ | refine em_ fun x_ hx_ => ?_ | refine Elem1.mk fun e_ he_ => ?_); refine g0_ ?_))
      refine brec ?_; intro c_ h; (try rw [h]); cases c_ <;> replace h := nm_ h
      rotate_left
      · (refine g0_ ?_; repeat ((first | refine n1_ fun b_ => ?_ | refine n2_ fun b_ => ?_ | refine Nat1.mk fun q_ hq_ => ?_ | refine em_ fun x_ hx_ => ?_ | refine Elem1.mk fun e_ he_ => ?_); refine g0_ ?_))
        exact .of_eq (by rw [← hR, if_pos (by simp at h ⊢ <;> omega)])
      (refine g0_ ?_; repeat ((first | refine n1_ fun b_ => ?_ | refine n2_ fun b_ => ?_ | refine Nat1.mk fun q_ hq_ => ?_ | refine em_ fun x_ hx_ => ?_ | refine Elem1.mk fun e_ he_ => ?_); refine g0_ ?_))
      refine need.mk (by decide) ?_
      refine ⟨_, ha, ?_⟩
      rcases s with _ | ⟨d, s⟩
      · (refine g0_ ?_; repeat ((first | refine n1_ fun b_ => ?_ | refine n2_ fun b_ => ?_ | refine Nat1.mk fun q_ hq_ => ?_ | refine em_ fun x_ hx_ => ?_ | refine Elem1.mk fun e_ he_ => ?_); refine g0_ ?_))
        refine head_ ?_; (refine g0_ ?_; repeat ((first | refine n1_ fun b_ => ?_ | refine n2_ fun b_ => ?_ | refine Nat1.mk fun q_ hq_ => ?_ | refine em_ fun x_ hx_ => ?_ | refine Elem1.mk fun e_ he_ => ?_); refine g0_ ?_))
        (refine g0_ ?_; repeat ((first | refine n1_ fun b_ => ?_ | refine n2_ fun b_ => ?_ | refine Nat1.mk fun q_ hq_ => ?_ | refine em_ fun x_ hx_ => ?_ | refine Elem1.mk fun e_ he_ => ?_); refine g0_ ?_))
        refine .of_eq (congrArg PV.bool ?_)
        rw [← hR, if_neg (by simp at h ⊢ <;> omega)]
        exact (decide_eq_false (by simp [gB_cons, gB_head, Lib.accLo, Lib.accHi] <;> omega)).symm
      rcases s with _ | ⟨e, s⟩
      · (refine g0_ ?_; repeat ((first | refine n1_ fun b_ => ?_ | refine n2_ fun b_ => ?_ | refine Nat1.mk fun q_ hq_ => ?_ | refine em_ fun x_ hx_ => ?_ | refine Elem1.mk fun e_ he_ => ?_); refine g0_ ?_))
        refine head_ ?_; (refine g0_ ?_; repeat ((first | refine n1_ fun b_ => ?_ | refine n2_ fun b_ => ?_ | refine Nat1.mk fun q_ hq_ => ?_ | refine em_ fun x_ hx_ => ?_ | refine Elem1.mk fun e_ he_ => ?_); refine g0_ ?_))
        (refine g0_ ?_; repeat ((first | refine n1_ fun b_ => ?_ | refine n2_ fun b_ => ?_ | refine Nat1.mk fun q_ hq_ => ?_ | refine em_ fun x_ hx_ => ?_ | refine Elem1.mk fun e_ he_ => ?_); refine g0_ ?_))
        refine brec ?_; intro c_ h1; (try rw [h1]); cases c_ <;> replace h1 := nm_ h1
        · (refine g0_ ?_; repeat ((first | refine n1_ fun b_ => ?_ | refine n2_ fun b_ => ?_ | refine Nat1.mk fun q_ hq_ => ?_ | refine em_ fun x_ hx_ => ?_ | refine Elem1.mk fun e_ he_ => ?_); refine g0_ ?_))
          refine brec ?_; intro c_ h2; (try rw [h2]); cases c_ <;> replace h2 := nm_ h2
          · (refine g0_ ?_; repeat ((first | refine n1_ fun b_ => ?_ | refine n2_ fun b_ => ?_ | refine Nat1.mk fun q_ hq_ => ?_ | refine em_ fun x_ hx_ => ?_ | refine Elem1.mk fun e_ he_ => ?_); refine g0_ ?_))
            refine .of_eq (congrArg PV.bool ?_)
            rw [← hR, if_neg (by simp at h ⊢ <;> omega)]
            exact (decide_eq_false (by simp [gB_cons, gB_head, Lib.accLo, Lib.accHi] <;> omega)).symm
          · (refine g0_ ?_; repeat ((first | refine n1_ fun b_ => ?_ | refine n2_ fun b_ => ?_ | refine Nat1.mk fun q_ hq_ => ?_ | refine em_ fun x_ hx_ => ?_ | refine Elem1.mk fun e_ he_ => ?_); refine g0_ ?_))
            refine .of_eq (congrArg PV.bool ?_)
            rw [← hR, if_neg (by simp at h ⊢ <;> omega)]
            exact (decide_eq_true (by simp [gB_cons, gB_head, Lib.accLo, Lib.accHi] <;> omega)).symm
        · (refine g0_ ?_; repeat ((first | refine n1_ fun b_ => ?_ | refine n2_ fun b_ => ?_ | refine Nat1.mk fun q_ hq_ => ?_ | refine em_ fun x_ hx_ => ?_ | refine Elem1.mk fun e_ he_ => ?_); refine g0_ ?_))
          refine .of_eq (congrArg PV.bool ?_)
          rw [← hR, if_neg (by simp at h ⊢ <;> omega)]
          exact (decide_eq_true (by simp [gB_cons, gB_head, Lib.accLo, Lib.accHi] <;> omega)).symm
      rcases s with _ | ⟨f, s⟩
      · (refine g0_ ?_; repeat ((first | refine n1_ fun b_ => ?_ | refine n2_ fun b_ => ?_ | refine Nat1.mk fun q_ hq_ => ?_ | refine em_ fun x_ hx_ => ?_ | refine Elem1.mk fun e_ he_ => ?_); refine g0_ ?_))
        refine head_ ?_; (refine g0_ ?_; repeat ((first | refine n1_ fun b_ => ?_ | refine n2_ fun b_ => ?_ | refine Nat1.mk fun q_ hq_ => ?_ | refine em_ fun x_ hx_ => ?_ | refine Elem1.mk fun e_ he_ => ?_); refine g0_ ?_))
        (refine g0_ ?_; repeat ((first | refine n1_ fun b_ => ?_ | refine n2_ fun b_ => ?_ | refine Nat1.mk fun q_ hq_ => ?_ | refine em_ fun x_ hx_ => ?_ | refine Elem1.mk fun e_ he_ => ?_); refine g0_ ?_))
        refine brec ?_; intro c_ h1; (try rw [h1]); cases c_ <;> replace h1 := nm_ h1
        · (refine g0_ ?_; repeat ((first | refine n1_ fun b_ => ?_ | refine n2_ fun b_ => ?_ | refine Nat1.mk fun q_ hq_ => ?_ | refine em_ fun x_ hx_ => ?_ | refine Elem1.mk fun e_ he_ => ?_); refine g0_ ?_))
          refine brec ?_; intro c_ h2; (try rw [h2]); cases c_ <;> replace h2 := nm_ h2
          · (refine g0_ ?_; repeat ((first | refine n1_ fun b_ => ?_ | refine n2_ fun b_ => ?_ | refine Nat1.mk fun q_ hq_ => ?_ | refine em_ fun x_ hx_ => ?_ | refine Elem1.mk fun e_ he_ => ?_); refine g0_ ?_))
            refine brec ?_; intro c_ h3; (try rw [h3]); cases c_ <;> replace h3 := nm_ h3
            · (refine g0_ ?_; repeat ((first | refine n1_ fun b_ => ?_ | refine n2_ fun b_ => ?_ | refine Nat1.mk fun q_ hq_ => ?_ | refine em_ fun x_ hx_ => ?_ | refine Elem1.mk fun e_ he_ => ?_); refine g0_ ?_))
              refine brec ?_; intro c_ h4; (try rw [h4]); cases c_ <;> replace h4 := nm_ h4
              · (refine g0_ ?_; repeat ((first | refine n1_ fun b_ => ?_ | refine n2_ fun b_ => ?_ | refine Nat1.mk fun q_ hq_ => ?_ | refine em_ fun x_ hx_ => ?_ | refine Elem1.mk fun e_ he_ => ?_); refine g0_ ?_))
                refine .of_eq (congrArg PV.bool ?_)
                rw [← hR, if_neg (by simp at h ⊢ <;> omega)]
                exact (decide_eq_false (by simp [gB_cons, gB_head, Lib.accLo, Lib.accHi] <;> omega)).symm
              · (refine g0_ ?_; repeat ((first | refine n1_ fun b_ => ?_ | refine n2_ fun b_ => ?_ | refine Nat1.mk fun q_ hq_ => ?_ | refine em_ fun x_ hx_ => ?_ | refine Elem1.mk fun e_ he_ => ?_); refine g0_ ?_))
                refine .of_eq (congrArg PV.bool ?_)
                rw [← hR, if_neg (by simp at h ⊢ <;> omega)]
                exact (decide_eq_true (by simp [gB_cons, gB_head, Lib.accLo, Lib.accHi] <;> omega)).symm
            · (refine g0_ ?_; repeat ((first | refine n1_ fun b_ => ?_ | refine n2_ fun b_ => ?_ | refine Nat1.mk fun q_ hq_ => ?_ | refine em_ fun x_ hx_ => ?_ | refine Elem1.mk fun e_ he_ => ?_); refine g0_ ?_))
              refine .of_eq (congrArg PV.bool ?_)
              rw [← hR, if_neg (by simp at h ⊢ <;> omega)]
              exact (decide_eq_true (by simp [gB_cons, gB_head, Lib.accLo, Lib.accHi] <;> omega)).symm
          · (refine g0_ ?_; repeat ((first | refine n1_ fun b_ => ?_ | refine n2_ fun b_ => ?_ | refine Nat1.mk fun q_ hq_ => ?_ | refine em_ fun x_ hx_ => ?_ | refine Elem1.mk fun e_ he_ => ?_); refine g0_ ?_))
            refine .of_eq (congrArg PV.bool ?_)
            rw [← hR, if_neg (by simp at h ⊢ <;> omega)]
            exact (decide_eq_true (by simp [gB_cons, gB_head, Lib.accLo, Lib.accHi] <;> omega)).symm
        · (refine g0_ ?_; repeat ((first | refine n1_ fun b_ => ?_ | refine n2_ fun b_ => ?_ | refine Nat1.mk fun q_ hq_ => ?_ | refine em_ fun x_ hx_ => ?_ | refine Elem1.mk fun e_ he_ => ?_); refine g0_ ?_))
          refine .of_eq (congrArg PV.bool ?_)
          rw [← hR, if_neg (by simp at h ⊢ <;> omega)]
          exact (decide_eq_true (by simp [gB_cons, gB_head, Lib.accLo, Lib.accHi] <;> omega)).symm
      exfalso; simp at h <;> omega
    · have ha := glob_acc W hT 4 (by omega)
      simp only [Lib.accLo, Lib.accHi, Nat.reduceEqDiff, if_true, if_false] at ha
      refine Pure.of (acalls_of_vc (drawOk W) Tryd.func33 rfl (by decide) (by decide) rfl ?_)
      (refine g0_ ?_; repeat ((first | refine n1_ fun b_ => ?_ | refine n2_ fun b_ => ?_ | refine Nat1.mk fun q_ hq_ => ?_ | refine em_ fun x_ hx_ => ?_ | refine Elem1.mk fun e_ he_ => ?_); refine g0_ ?_))
      refine ⟨_, hf, ?_⟩
      (refine g0_ ?_; repeat ((first | refine n1_ fun b_ => ?_ | refine n2_ fun b_ => ?_ | refine Nat1.mk fun q_ hq_ => ?_ | refine em_ fun x_ hx_ => ?_ | refine Elem1.mk fun e_ he_ => ?_); refine g0_ ?_))
      rw [show bitop .and .u8 ((68 : Nat) : Int) 7 = 4 by decide]
      (refine g0_ ?_; repeat ((first | refine n1_ fun b_ => ?_ | refine n2_ fun b_ => ?_ | refine Nat1.mk fun q_ hq_ => ?_ | refine em_ fun x_ hx_ => ?_ | refine Elem1.mk fun e_ he_ => ?_); refine g0_ ?_))
      refine brec ?_; intro c_ h; (try rw [h]); cases c_ <;> replace h := nm_ h
      rotate_left
      · (refine g0_ ?_; repeat ((first | refine n1_ fun b_ => ?_ | refine n2_ fun b_ => ?_ | refine Nat1.mk fun q_ hq_ => ?_ | refine em_ fun x_ hx_ => ?_ | refine Elem1.mk fun e_ he_ => ?_); refine g0_ ?_))
        exact .of_eq (by rw [← hR, if_pos (by simp at h ⊢ <;> omega)])
      (refine g0_ ?_; repeat ((first | refine n1_ fun b_ => ?_ | refine n2_ fun b_ => ?_ | refine Nat1.mk fun q_ hq_ => ?_ | refine em_ fun x_ hx_ => ?_ | refine Elem1.mk fun e_ he_ => ?_); refine g0_ ?_))
      refine need.mk (by decide) ?_
      refine ⟨_, ha, ?_⟩
      rcases s with _ | ⟨d, s⟩
      · (refine g0_ ?_; repeat ((first | refine n1_ fun b_ => ?_ | refine n2_ fun b_ => ?_ | refine Nat1.mk fun q_ hq_ => ?_ | refine em_ fun x_ hx_ => ?_ | refine Elem1.mk fun e_ he_ => ?_); refine g0_ ?_))
        refine head_ ?_; (refine g0_ ?_; repeat ((first | refine n1_ fun b_ => ?_ | refine n2_ fun b_ => ?_ | refine Nat1.mk fun q_ hq_ => ?_ | refine em_ fun x_ hx_ => ?_ | refine Elem1.mk fun e_ he_ => ?_); refine g0_ ?_))
        (refine g0_ ?_; repeat ((first | refine n1_ fun b_ => ?_ | refine n2_ fun b_ => ?_ | refine Nat1.mk fun q_ hq_ => ?_ | refine em_ fun x_ hx_ => ?_ | refine Elem1.mk fun e_ he_ => ?_); refine g0_ ?_))
        refine .of_eq (congrArg PV.bool ?_)
        rw [← hR, if_neg (by simp at h ⊢ <;> omega)]
        exact (decide_eq_false (by simp [gB_cons, gB_head, Lib.accLo, Lib.accHi] <;> omega)).symm
      rcases s with _ | ⟨e, s⟩
      · (refine g0_ ?_; repeat ((first | refine n1_ fun b_ => ?_ | refine n2_ fun b_ => ?_ | refine Nat1.mk fun q_ hq_ => ?_ | refine em_ fun x_ hx_ => ?_ | refine Elem1.mk fun e_ he_ => ?_); refine g0_ ?_))
        refine head_ ?_; (refine g0_ ?_; repeat ((first | refine n1_ fun b_ => ?_ | refine n2_ fun b_ => ?_ | refine Nat1.mk fun q_ hq_ => ?_ | refine em_ fun x_ hx_ => ?_ | refine Elem1.mk fun e_ he_ => ?_); refine g0_ ?_))
        (refine g0_ ?_; repeat ((first | refine n1_ fun b_ => ?_ | refine n2_ fun b_ => ?_ | refine Nat1.mk fun q_ hq_ => ?_ | refine em_ fun x_ hx_ => ?_ | refine Elem1.mk fun e_ he_ => ?_); refine g0_ ?_))
        refine brec ?_; intro c_ h1; (try rw [h1]); cases c_ <;> replace h1 := nm_ h1
        · (refine g0_ ?_; repeat ((first | refine n1_ fun b_ => ?_ | refine n2_ fun b_ => ?_ | refine Nat1.mk fun q_ hq_ => ?_ | refine em_ fun x_ hx_ => ?_ | refine Elem1.mk fun e_ he_ => ?_); refine g0_ ?_))
          refine brec ?_; intro c_ h2; (try rw [h2]); cases c_ <;> replace h2 := nm_ h2
          · (refine g0_ ?_; repeat ((first | refine n1_ fun b_ => ?_ | refine n2_ fun b_ => ?_ | refine Nat1.mk fun q_ hq_ => ?_ | refine em_ fun x_ hx_ => ?_ | refine Elem1.mk fun e_ he_ => ?_); refine g0_ ?_))
            refine .of_eq (congrArg PV.bool ?_)
            rw [← hR, if_neg (by simp at h ⊢ <;> omega)]
            exact (decide_eq_false (by simp [gB_cons, gB_head, Lib.accLo, Lib.accHi] <;> omega)).symm
          · (refine g0_ ?_; repeat ((first | refine n1_ fun b_ => ?_ | refine n2_ fun b_ => ?_ | refine Nat1.mk fun q_ hq_ => ?_ | refine em_ fun x_ hx_ => ?_ | refine Elem1.mk fun e_ he_ => ?_); refine g0_ ?_))
            refine .of_eq (congrArg PV.bool ?_)
            rw [← hR, if_neg (by simp at h ⊢ <;> omega)]
            exact (decide_eq_true (by simp [gB_cons, gB_head, Lib.accLo, Lib.accHi] <;> omega)).symm
        · (refine g0_ ?_; repeat ((first | refine n1_ fun b_ => ?_ | refine n2_ fun b_ => ?_ | refine Nat1.mk fun q_ hq_ => ?_ | refine em_ fun x_ hx_ => ?_ | refine Elem1.mk fun e_ he_ => ?_); refine g0_ ?_))
          refine .of_eq (congrArg PV.bool ?_)
          rw [← hR, if_neg (by simp at h ⊢ <;> omega)]
          exact (decide_eq_true (by simp [gB_cons, gB_head, Lib.accLo, Lib.accHi] <;> omega)).symm
      rcases s with _ | ⟨f, s⟩
      · (refine g0_ ?_; repeat ((first | refine n1_ fun b_ => ?_ | refine n2_ fun b_ => ?_ | refine Nat1.mk fun q_ hq_ => ?_ | refine em_ fun x_ hx_ => ?_ | refine Elem1.mk fun e_ he_ => ?_); refine g0_ ?_))
        refine head_ ?_; (refine g0_ ?_; repeat ((first | refine n1_ fun b_ => ?_ | refine n2_ fun b_ => ?_ | refine Nat1.mk fun q_ hq_ => ?_ | refine em_ fun x_ hx_ => ?_ | refine Elem1.mk fun e_ he_ => ?_); refine g0_ ?_))
        (refine g0_ ?_; repeat ((first | refine n1_ fun b_ => ?_ | refine n2_ fun b_ => ?_ | refine Nat1.mk fun q_ hq_ => ?_ | refine em_ fun x_ hx_ => ?_ | refine Elem1.mk fun e_ he_ => ?_); refine g0_ ?_))
        refine brec ?_; intro c_ h1; (try rw [h1]); cases c_ <;> replace h1 := nm_ h1
        · (refine g0_ ?_; repeat ((first | refine n1_ fun b_ => ?_ | refine n2_ fun b_ => ?_ | refine Nat1.mk fun q_ hq_ => ?_ | refine em_ fun x_ hx_ => ?_ | refine Elem1.mk fun e_ he_ => ?_); refine g0_ ?_))
          refine brec ?_; intro c_ h2; (try rw [h2]); cases c_ <;> replace h2 := nm_ h2
          · (refine g0_ ?_; repeat ((first | refine n1_ fun b_ => ?_ | refine n2_ fun b_ => ?_ | refine Nat1.mk fun q_ hq_ => ?_ | refine em_ fun x_ hx_ => ?_ | refine Elem1.mk fun e_ he_ => ?_); refine g0_ ?_))
            refine brec ?_; intro c_ h3; (try rw [h3]); cases c_ <;> replace h3 := nm_ h3
            · (refine g0_ ?_; repeat ((first | refine n1_ fun b_ => ?_ | refine n2_ fun b_ => ?_ | refine Nat1.mk fun q_ hq_ => ?_ | refine em_ fun x_ hx_ => ?_ | refine Elem1.mk fun e_ he_ => ?_); refine g0_ ?_))
              refine brec ?_; intro c_ h4; (try rw [h4]); cases c_ <;> replace h4 := nm_ h4
              · (refine g0_ ?_; repeat ((first | refine n1_ fun b_ => ?_ | refine n2_ fun b_ => ?_ | refine Nat1.mk fun q_ hq_ => ?_ | refine em_ fun x_ hx_ => ?_ | refine Elem1.mk fun e_ he_ => ?_); refine g0_ ?_))
                refine .of_eq (congrArg PV.bool ?_)
                rw [← hR, if_neg (by simp at h ⊢ <;> omega)]
                exact (decide_eq_false (by simp [gB_cons, gB_head, Lib.accLo, Lib.accHi] <;> omega)).symm
              · (refine g0_ ?_; repeat ((first | refine n1_ fun b_ => ?_ | refine n2_ fun b_ => ?_ | refine Nat1.mk fun q_ hq_ => ?_ | refine em_ fun x_ hx_ => ?_ | refine Elem1.mk fun e_ he_ => ?_); refine g0_ ?_))
                refine .of_eq (congrArg PV.bool ?_)
                rw [← hR, if_neg (by simp at h ⊢ <;> omega)]
                exact (decide_eq_true (by simp [gB_cons, gB_head, Lib.accLo, Lib.accHi] <;> omega)).symm
            · (refine g0_ ?_; repeat ((first | refine n1_ fun b_ => ?_ | refine n2_ fun b_ => ?_ | refine Nat1.mk fun q_ hq_ => ?_ | refine em_ fun x_ hx_ => ?_ | refine Elem1.mk fun e_ he_ => ?_); refine g0_ ?_))
              refine .of_eq (congrArg PV.bool ?_)
              rw [← hR, if_neg (by simp at h ⊢ <;> omega)]
              exact (decide_eq_true (by simp [gB_cons, gB_head, Lib.accLo, Lib.accHi] <;> omega)).symm
          · (refine g0_ ?_; repeat ((first | refine n1_ fun b_ => ?_ | refine n2_ fun b_ => ?_ | refine Nat1.mk fun q_ hq_ => ?_ | refine em_ fun x_ hx_ => ?_ | refine Elem1.mk fun e_ he_ => ?_); refine g0_ ?_))
            refine .of_eq (congrArg PV.bool ?_)
            rw [← hR, if_neg (by simp at h ⊢ <;> omega)]
            exact (decide_eq_true (by simp [gB_cons, gB_head, Lib.accLo, Lib.accHi] <;> omega)).symm
        · (refine g0_ ?_; repeat ((first | refine n1_ fun b_ => ?_ | refine n2_ fun b_ => ?_ | refine Nat1.mk fun q_ hq_ => ?_ | refine em_ fun x_ hx_ => ?_ | refine Elem1.mk fun e_ he_ => ?_); refine g0_ ?_))
          refine .of_eq (congrArg PV.bool ?_)
          rw [← hR, if_neg (by simp at h ⊢ <;> omega)]
          exact (decide_eq_true (by simp [gB_cons, gB_head, Lib.accLo, Lib.accHi] <;> omega)).symm
      exfalso; simp at h <;> omega
end Go.Eng.YtkcldifniomfoaaDoor
end

/- The document's CheckState (b_ x_ q_ e_). -/
section
namespace Go.Eng
open Go
variable {P : Program} {W : World}
def ifaceB : TypeDesc → Bool
  | .interface _ => true
  | _ => false
/-- What is asked of a value's type, whose type is known. -/
theorem opLaw_assert {x : Operand} {s u : TypeId} {env : Env} {σ : Mem} {k : PV → Mem → Prop} {t : TypeId} {p : PV} {d : TypeDesc} (hx : ev env x = .ifc t p) (hu : P.underlying u = some d) (hni : ifaceB d = false) (hc : cellsB (zeroV P u) = true)
    (hk : k (bif Nat.beq t u then .tup [p, .bool true] else .tup [zeroV P u, .bool false]) σ) : OpLaw P W (.typeAssert x s u true) env σ k := by
  refine ⟨fun o' K w a next Q ho hm hp he hn => ?_⟩
  have h1 := he x (by simp [Op.operands])
  rw [hx] at h1
  cases h2 : a.eval x <;> rw [h2] at h1 <;> cases h1
  rename_i v hv
  obtain ⟨dst, op, type, pos, after, guard⟩ := o'
  dsimp only at ho
  subst ho
  obtain ⟨i, z, hi, hz, hzv⟩ := zeroV_rel hc
  have hrun : ∃ pv r, (Instr.typeAssert (a.eval x) s u true).run P w = .ok r w ∧ VRel K w pv r ∧ k pv σ := by
    refine ⟨_, if t = u then .tuple #[v, .bool true] else .tuple #[z, .bool false], ?_, ?_, hk⟩
    · rw [h2]
      unfold Instr.typeAssert
      rw [Sem.run_bind, run_underlying hu, Result.andThen_ok]
      cases d <;> first | cases hni | skip
      all_goals
        by_cases htu : t = u
        · simp [htu]
        · simp [htu, run_zeroValue hi hz]
    · by_cases htu : t = u
      · subst htu
        simp only [Nat.beq_refl, cond_true, if_true]
        have := VRel.tup (K := K) (w := w) [p, .bool true] [v, .bool true] rfl (fun i hi => by
          match i, hi with
          | 0, _ => exact hv
          | 1, _ => exact .bool _)
        simpa using this
      · have hb : Nat.beq t u = false := by
          cases h : Nat.beq t u with
          | true => exact absurd (Nat.eq_of_beq_eq_true h) htu
          | false => rfl
        rw [hb, if_neg htu, cond_false, hzv]
        have := VRel.tup (K := K) (w := w) [ofV z, .bool false] [z, .bool false] rfl (fun i hi => by
          match i, hi with
          | 0, _ => exact ofV_rel z
          | 1, _ => exact .bool _)
        simpa using this
  exact wp_of_does (s := Instr.typeAssert (a.eval x) s u true) rfl (Does.of_pure hm hrun) hn
end Go.Eng
namespace Go.Eng.YtkcldifniomfoaaDoor
open Go Go.Eng Go.Proofs
variable (W : World)
set_option linter.unusedSimpArgs false
set_option maxRecDepth 100000
set_option linter.unusedVariables false
set_option maxHeartbeats 8000000
/-- What is asked whether it is zero. -/
inductive ZIt
  | u (c : UInt8)
  | s (l : List UInt8)
  | b (x : Bool)
  | n (l : List Int)
def encZ : ZIt → PV
  | .u c => .ifc 5 (.int .u8 c.toNat)
  | .s l => .ifc 9 (.str l)
  | .b x => .ifc 4 (.bool x)
  | .n l => .ifc 22 (.sl 1 (l.map (PV.int .i64)))
def ZIt.z : ZIt → Bool
  | .u c => decide (c.toNat = 0)
  | .s l => decide (l = [])
  | .b x => !x
  | .n l => decide (l = [])
theorem take_all {l : List ZIt} {i : Nat} {x : ZIt} (h : l[i]? = some x) : (l.take (i + 1)).all ZIt.z = ((l.take i).all ZIt.z && x.z) := by
  rw [List.take_add_one, h, List.all_append]
  simp
theorem zero_ok (l : List ZIt) (hl : l.length ≤ 100) : Pure Tryd.prog W 31 [.sl 1 (l.map encZ)] (.bool (l.all ZIt.z)) := by
  refine Pure.of (acalls_of_vc (drawOk W) Tryd.func31 rfl (by decide) (by decide) rfl ?_)
  (refine g0_ ?_; repeat ((first | refine n1_ fun b_ => ?_ | refine n2_ fun b_ => ?_ | refine Nat1.mk fun q_ hq_ => ?_ | refine em_ fun x_ hx_ => ?_ | refine Elem1.mk fun e_ he_ => ?_); refine g0_ ?_))
  refine' loopI (α := Nat) (fun i => [(11, .int .i64 i)]) [(9, _), (10, _)] (fun i => []) (fun i => i ≤ l.length ∧ (l.take i).all ZIt.z = true) (fun i => l.length - i) 0 ?_ ?_
  · exact ⟨Nat.zero_le _, rfl⟩
  rintro i ⟨hi, hz⟩
  (refine g0_ ?_; repeat ((first | refine n1_ fun b_ => ?_ | refine n2_ fun b_ => ?_ | refine Nat1.mk fun q_ hq_ => ?_ | refine em_ fun x_ hx_ => ?_ | refine Elem1.mk fun e_ he_ => ?_); refine g0_ ?_))
  refine brec ?_; intro c_ h; (try rw [h]); cases c_ <;> replace h := nm_ h
  · have hil : i = l.length := by rw [List.length_map] at h; omega
    rw [hil, List.take_length] at hz
    (refine g0_ ?_; repeat ((first | refine n1_ fun b_ => ?_ | refine n2_ fun b_ => ?_ | refine Nat1.mk fun q_ hq_ => ?_ | refine em_ fun x_ hx_ => ?_ | refine Elem1.mk fun e_ he_ => ?_); refine g0_ ?_))
    exact .of_eq (by rw [hz])
  · have hil : i < l.length := by rw [List.length_map] at h; omega
    obtain ⟨x, hx⟩ : ∃ x, l[i]? = some x := ⟨l[i], List.getElem?_eq_getElem hil⟩
    have ht := take_all hx
    rw [hz, Bool.true_and] at ht
    have hno : x.z = false → l.all ZIt.z = false := fun h => by
      cases ha : l.all ZIt.z with
      | false => rfl
      | true =>
        have := List.all_eq_true.1 ha x (List.mem_of_getElem? hx)
        rw [h] at this; cases this
    cases x with
    | u c =>
      (refine g0_ ?_; repeat ((first | refine n1_ fun b_ => ?_ | refine n2_ fun b_ => ?_ | refine Nat1.mk fun q_ hq_ => ?_ | refine em_ fun x_ hx_ => ?_ | refine Elem1.mk fun e_ he_ => ?_); refine g0_ ?_))
      refine opLaw_assert rfl Tryd.underlying9 rfl (by decide +kernel) ?_
      (refine g0_ ?_; repeat ((first | refine n1_ fun b_ => ?_ | refine n2_ fun b_ => ?_ | refine Nat1.mk fun q_ hq_ => ?_ | refine em_ fun x_ hx_ => ?_ | refine Elem1.mk fun e_ he_ => ?_); refine g0_ ?_))
      refine opLaw_assert rfl Tryd.underlying5 rfl (by decide +kernel) ?_
      (refine g0_ ?_; repeat ((first | refine n1_ fun b_ => ?_ | refine n2_ fun b_ => ?_ | refine Nat1.mk fun q_ hq_ => ?_ | refine em_ fun x_ hx_ => ?_ | refine Elem1.mk fun e_ he_ => ?_); refine g0_ ?_))
      refine brec ?_; intro c_ h5; (try rw [h5]); cases c_ <;> replace h5 := nm_ h5
      · (refine g0_ ?_; repeat ((first | refine n1_ fun b_ => ?_ | refine n2_ fun b_ => ?_ | refine Nat1.mk fun q_ hq_ => ?_ | refine em_ fun x_ hx_ => ?_ | refine Elem1.mk fun e_ he_ => ?_); refine g0_ ?_))
        refine nx_ (i + 1) ?_ ?_
        · exact ⟨by omega, by rw [ht]; exact decide_eq_true (by omega)⟩
        · ((try dsimp only); (try simp only [List.length_drop, List.length_take, List.length_append, List.length_cons, List.length_nil, List.length_map] at *); omega)
      · (refine g0_ ?_; repeat ((first | refine n1_ fun b_ => ?_ | refine n2_ fun b_ => ?_ | refine Nat1.mk fun q_ hq_ => ?_ | refine em_ fun x_ hx_ => ?_ | refine Elem1.mk fun e_ he_ => ?_); refine g0_ ?_))
        exact .of_eq (by rw [hno (decide_eq_false (by omega))])
    | s t =>
      (refine g0_ ?_; repeat ((first | refine n1_ fun b_ => ?_ | refine n2_ fun b_ => ?_ | refine Nat1.mk fun q_ hq_ => ?_ | refine em_ fun x_ hx_ => ?_ | refine Elem1.mk fun e_ he_ => ?_); refine g0_ ?_))
      refine opLaw_assert rfl Tryd.underlying9 rfl (by decide +kernel) ?_
      (refine g0_ ?_; repeat ((first | refine n1_ fun b_ => ?_ | refine n2_ fun b_ => ?_ | refine Nat1.mk fun q_ hq_ => ?_ | refine em_ fun x_ hx_ => ?_ | refine Elem1.mk fun e_ he_ => ?_); refine g0_ ?_))
      refine brec ?_; intro c_ h5; (try rw [h5]); cases c_ <;> replace h5 := nm_ h5
      · (refine g0_ ?_; repeat ((first | refine n1_ fun b_ => ?_ | refine n2_ fun b_ => ?_ | refine Nat1.mk fun q_ hq_ => ?_ | refine em_ fun x_ hx_ => ?_ | refine Elem1.mk fun e_ he_ => ?_); refine g0_ ?_))
        refine nx_ (i + 1) ?_ ?_
        · exact ⟨by omega, by rw [ht]; exact decide_eq_true h5⟩
        · ((try dsimp only); (try simp only [List.length_drop, List.length_take, List.length_append, List.length_cons, List.length_nil, List.length_map] at *); omega)
      · (refine g0_ ?_; repeat ((first | refine n1_ fun b_ => ?_ | refine n2_ fun b_ => ?_ | refine Nat1.mk fun q_ hq_ => ?_ | refine em_ fun x_ hx_ => ?_ | refine Elem1.mk fun e_ he_ => ?_); refine g0_ ?_))
        exact .of_eq (by rw [hno (decide_eq_false h5)])
    | b y =>
      (refine g0_ ?_; repeat ((first | refine n1_ fun b_ => ?_ | refine n2_ fun b_ => ?_ | refine Nat1.mk fun q_ hq_ => ?_ | refine em_ fun x_ hx_ => ?_ | refine Elem1.mk fun e_ he_ => ?_); refine g0_ ?_))
      refine opLaw_assert rfl Tryd.underlying9 rfl (by decide +kernel) ?_
      (refine g0_ ?_; repeat ((first | refine n1_ fun b_ => ?_ | refine n2_ fun b_ => ?_ | refine Nat1.mk fun q_ hq_ => ?_ | refine em_ fun x_ hx_ => ?_ | refine Elem1.mk fun e_ he_ => ?_); refine g0_ ?_))
      refine opLaw_assert rfl Tryd.underlying5 rfl (by decide +kernel) ?_
      (refine g0_ ?_; repeat ((first | refine n1_ fun b_ => ?_ | refine n2_ fun b_ => ?_ | refine Nat1.mk fun q_ hq_ => ?_ | refine em_ fun x_ hx_ => ?_ | refine Elem1.mk fun e_ he_ => ?_); refine g0_ ?_))
      refine opLaw_assert rfl Tryd.underlying4 rfl (by decide +kernel) ?_
      cases y with
      | false =>
        (refine g0_ ?_; repeat ((first | refine n1_ fun b_ => ?_ | refine n2_ fun b_ => ?_ | refine Nat1.mk fun q_ hq_ => ?_ | refine em_ fun x_ hx_ => ?_ | refine Elem1.mk fun e_ he_ => ?_); refine g0_ ?_))
        refine nx_ (i + 1) ?_ ?_
        · exact ⟨by omega, by rw [ht]; rfl⟩
        · ((try dsimp only); (try simp only [List.length_drop, List.length_take, List.length_append, List.length_cons, List.length_nil, List.length_map] at *); omega)
      | true =>
        (refine g0_ ?_; repeat ((first | refine n1_ fun b_ => ?_ | refine n2_ fun b_ => ?_ | refine Nat1.mk fun q_ hq_ => ?_ | refine em_ fun x_ hx_ => ?_ | refine Elem1.mk fun e_ he_ => ?_); refine g0_ ?_))
        exact .of_eq (by rw [hno rfl])
    | n p =>
      (refine g0_ ?_; repeat ((first | refine n1_ fun b_ => ?_ | refine n2_ fun b_ => ?_ | refine Nat1.mk fun q_ hq_ => ?_ | refine em_ fun x_ hx_ => ?_ | refine Elem1.mk fun e_ he_ => ?_); refine g0_ ?_))
      refine opLaw_assert rfl Tryd.underlying9 rfl (by decide +kernel) ?_
      (refine g0_ ?_; repeat ((first | refine n1_ fun b_ => ?_ | refine n2_ fun b_ => ?_ | refine Nat1.mk fun q_ hq_ => ?_ | refine em_ fun x_ hx_ => ?_ | refine Elem1.mk fun e_ he_ => ?_); refine g0_ ?_))
      refine opLaw_assert rfl Tryd.underlying5 rfl (by decide +kernel) ?_
      (refine g0_ ?_; repeat ((first | refine n1_ fun b_ => ?_ | refine n2_ fun b_ => ?_ | refine Nat1.mk fun q_ hq_ => ?_ | refine em_ fun x_ hx_ => ?_ | refine Elem1.mk fun e_ he_ => ?_); refine g0_ ?_))
      refine opLaw_assert rfl Tryd.underlying4 rfl (by decide +kernel) ?_
      (refine g0_ ?_; repeat ((first | refine n1_ fun b_ => ?_ | refine n2_ fun b_ => ?_ | refine Nat1.mk fun q_ hq_ => ?_ | refine em_ fun x_ hx_ => ?_ | refine Elem1.mk fun e_ he_ => ?_); refine g0_ ?_))
      refine opLaw_assert rfl Tryd.underlying22 rfl (by decide +kernel) ?_
      rcases p with _ | ⟨n, p⟩
      · (refine g0_ ?_; repeat ((first | refine n1_ fun b_ => ?_ | refine n2_ fun b_ => ?_ | refine Nat1.mk fun q_ hq_ => ?_ | refine em_ fun x_ hx_ => ?_ | refine Elem1.mk fun e_ he_ => ?_); refine g0_ ?_))
        refine nx_ (i + 1) ?_ ?_
        · exact ⟨by omega, by rw [ht]; rfl⟩
        · ((try dsimp only); (try simp only [List.length_drop, List.length_take, List.length_append, List.length_cons, List.length_nil, List.length_map] at *); omega)
      · (refine g0_ ?_; repeat ((first | refine n1_ fun b_ => ?_ | refine n2_ fun b_ => ?_ | refine Nat1.mk fun q_ hq_ => ?_ | refine em_ fun x_ hx_ => ?_ | refine Elem1.mk fun e_ he_ => ?_); refine g0_ ?_))
        refine brec ?_; intro c_ h5; (try rw [h5]); cases c_ <;> replace h5 := nm_ h5
        · exfalso; simp at h5 <;> omega
        · (refine g0_ ?_; repeat ((first | refine n1_ fun b_ => ?_ | refine n2_ fun b_ => ?_ | refine Nat1.mk fun q_ hq_ => ?_ | refine em_ fun x_ hx_ => ?_ | refine Elem1.mk fun e_ he_ => ?_); refine g0_ ?_))
          exact .of_eq (by rw [hno rfl])
def cutB : List UInt8 := [32, 33, 34, 35, 36, 37, 38, 39, 40, 41, 42, 43, 44, 45, 46, 47]
theorem cutB_iff (c : UInt8) : cutB.contains c = true ↔ 32 ≤ c.toNat ∧ c.toNat < 48 := by
  have key : ∀ c : Fin 256, cutB.contains (UInt8.ofNat c.val) = true ↔ 32 ≤ c.val ∧ c.val < 48 := by decide +kernel
  have := key ⟨c.toNat, c.toNat_lt⟩
  rwa [show UInt8.ofNat c.toNat = c by simp] at this
theorem trim_ok (s : List UInt8) (hs : s.length ≤ 100) : Pure Tryd.prog W 32 [.str s, .str cutB] (.str (Lib.trimS s cutB)) :=
  Pure.of_below Tryd.func32 rfl (by decide) rfl rfl fun w _ _ => Any.strings_Trim_laid Tryd.lays160 (by kernel_rfl) ⟨s.toArray⟩ ⟨cutB.toArray⟩ w (by simp [ByteArray.size]; omega) (by decide) (ascii_of_all (by decide))
theorem drop_nil (p : UInt8 → Bool) (l : List UInt8) : l.dropWhile p = [] ↔ ∀ c ∈ l, p c = true := by
  induction l with
  | nil => simp
  | cons c l ih =>
    rw [List.dropWhile_cons]
    split
    · rename_i h; rw [ih]; simp [h]
    · rename_i h; simp [h]
theorem trim_nil (s : List UInt8) : Lib.trimS s cutB = [] ↔ ∀ c ∈ s, 32 ≤ c.toNat ∧ c.toNat < 48 := by
  rw [Lib.trimS, Lib.trimLeftS, drop_nil]
  have hr : ∀ l : List UInt8, (∀ c ∈ Lib.trimRightS l cutB, cutB.contains c = true) ↔ ∀ c ∈ l, cutB.contains c = true := by
    intro l
    have key : ∀ m : List UInt8, (∀ c ∈ m.dropWhile (cutB.contains ·), cutB.contains c = true) ↔ ∀ c ∈ m, cutB.contains c = true := by
      intro m
      induction m with
      | nil => simp
      | cons c m ih =>
        rw [List.dropWhile_cons]
        split
        · rename_i h; rw [ih]; simp only [List.mem_cons, forall_eq_or_imp, h, true_and]
        · exact Iff.rfl
    have := key l.reverse
    simpa only [Lib.trimRightS, List.mem_reverse] using this
  rw [hr]
  exact ⟨fun h c hc => (cutB_iff c).1 (h c hc), fun h c hc => (cutB_iff c).2 (h c hc)⟩
theorem u8_bk (b : UInt8) : [(b.toNat : Int)].map (fun n => UInt8.ofNat n.toNat) = [b] := by simp
theorem marks_ok (c : UInt8) : Pure Tryd.prog W 34 [.str [0, 60, 61, 62, 63], .str [c]] (.bool (decide (c.toNat = 0 ∨ (60 ≤ c.toNat ∧ c.toNat ≤ 63)))) := by
  have key : ∀ c : Fin 256, decide (0 ≤ Lib.indexByte [0, 60, 61, 62, 63] (UInt8.ofNat c.val)) = decide (c.val = 0 ∨ (60 ≤ c.val ∧ c.val ≤ 63)) := by decide +kernel
  have hk := key ⟨c.toNat, c.toNat_lt⟩
  rw [show UInt8.ofNat c.toNat = c by simp] at hk
  rw [← hk]
  exact Pure.of_below Tryd.func34 rfl (by decide) rfl rfl fun w _ _ => (Tryd.strings_Contains_one ⟨#[0, 60, 61, 62, 63]⟩ c w).mono fun _ _ h => ⟨h.1, h.2 ▸ RowKit.Below.refl _ _⟩
theorem checkState_a (hT : Tabs W) (s : PSt) (hs : s.fair) (hm : s.middle.length ≤ 2) : Pure Tryd.prog W 18 [encSt s] (.bool (decide s.ok)) := by
  generalize hR : decide s.ok = R
  have h1 := hs.mid
  have h2 := hs.txt
  have h3 := hs.par
  have h4 := hs.lft
  have hF := fullb_ok W hT s.left
  have hz := fun l hl => zero_ok W l hl
  obtain ⟨a, m, mi, p, t, l, la⟩ := s
  simp only [encSt, stV, encInts] at *
  (try dsimp only at hm)
  have ht := trim_ok W mi (by omega)
  have htm : Lib.trimS mi cutB = [] ↔ midOk mi := by
    rw [trim_nil]
    exact ⟨fun h => ⟨hm, h⟩, fun h => h.2⟩
  generalize Lib.trimS mi cutB = T at *
  by_cases h0 : a = 0
  · subst h0
    have hk : PSt.ok ⟨0, m, mi, p, t, l, la⟩ ↔ (l = [] ∨ (128 ≤ gB l 0 ∧ fullL l = false)) ∧ t = [] ∧ la = false ∧ p = [] ∧ m = 0 ∧ mi = [] := by simp [PSt.ok]
    rcases l with _ | ⟨c, l⟩
    · refine Pure.of (acalls_of_vc (drawOk W) Tryd.func18 rfl (by decide) (by decide) rfl ?_)
      (refine g0_ ?_; repeat ((first | refine n1_ fun b_ => ?_ | refine n2_ fun b_ => ?_ | refine Nat1.mk fun q_ hq_ => ?_ | refine em_ fun x_ hx_ => ?_ | refine Elem1.mk fun e_ he_ => ?_); refine g0_ ?_))
      (refine g1_ ?_; repeat ((first | refine n1_ fun b_ => ?_ | refine n2_ fun b_ => ?_ | refine Nat1.mk fun q_ hq_ => ?_ | refine em_ fun x_ hx_ => ?_ | refine Elem1.mk fun e_ he_ => ?_); refine g1_ ?_))
      first
      | (refine ht.use ?_)
      | skip
      (refine g0_ ?_; repeat ((first | refine n1_ fun b_ => ?_ | refine n2_ fun b_ => ?_ | refine Nat1.mk fun q_ hq_ => ?_ | refine em_ fun x_ hx_ => ?_ | refine Elem1.mk fun e_ he_ => ?_); refine g0_ ?_))
      refine .inl ?_
      (refine g0_ ?_; repeat ((first | refine n1_ fun b_ => ?_ | refine n2_ fun b_ => ?_ | refine Nat1.mk fun q_ hq_ => ?_ | refine em_ fun x_ hx_ => ?_ | refine Elem1.mk fun e_ he_ => ?_); refine g0_ ?_))
      refine (hz [ZIt.u m, ZIt.s mi, ZIt.n p, ZIt.s t, ZIt.b la] (by simp)).use ?_; (refine g0_ ?_; repeat ((first | refine n1_ fun b_ => ?_ | refine n2_ fun b_ => ?_ | refine Nat1.mk fun q_ hq_ => ?_ | refine em_ fun x_ hx_ => ?_ | refine Elem1.mk fun e_ he_ => ?_); refine g0_ ?_))
      (refine g0_ ?_; repeat ((first | refine n1_ fun b_ => ?_ | refine n2_ fun b_ => ?_ | refine Nat1.mk fun q_ hq_ => ?_ | refine em_ fun x_ hx_ => ?_ | refine Elem1.mk fun e_ he_ => ?_); refine g0_ ?_))
      refine .of_eq (congrArg PV.bool ?_)
      rw [← hR, Bool.eq_iff_iff, decide_eq_true_iff, hk]
      simp [ZIt.z, m0_iff, and_assoc, and_left_comm, and_comm, htm]
      try first | omega | (intros; simp_all; done) | (intros; simp_all; omega) | (intros; exact ⟨by omega, by simp_all⟩)
    · rw [gB_head] at hk
      refine Pure.of (acalls_of_vc (drawOk W) Tryd.func18 rfl (by decide) (by decide) rfl ?_)
      (refine g0_ ?_; repeat ((first | refine n1_ fun b_ => ?_ | refine n2_ fun b_ => ?_ | refine Nat1.mk fun q_ hq_ => ?_ | refine em_ fun x_ hx_ => ?_ | refine Elem1.mk fun e_ he_ => ?_); refine g0_ ?_))
      (refine g1_ ?_; repeat ((first | refine n1_ fun b_ => ?_ | refine n2_ fun b_ => ?_ | refine Nat1.mk fun q_ hq_ => ?_ | refine em_ fun x_ hx_ => ?_ | refine Elem1.mk fun e_ he_ => ?_); refine g1_ ?_))
      first
      | (refine ht.use ?_)
      | skip
      (refine g0_ ?_; repeat ((first | refine n1_ fun b_ => ?_ | refine n2_ fun b_ => ?_ | refine Nat1.mk fun q_ hq_ => ?_ | refine em_ fun x_ hx_ => ?_ | refine Elem1.mk fun e_ he_ => ?_); refine g0_ ?_))
      refine brec ?_; intro c_ hc; (try rw [hc]); cases c_ <;> replace hc := nm_ hc
      · (refine g0_ ?_; repeat ((first | refine n1_ fun b_ => ?_ | refine n2_ fun b_ => ?_ | refine Nat1.mk fun q_ hq_ => ?_ | refine em_ fun x_ hx_ => ?_ | refine Elem1.mk fun e_ he_ => ?_); refine g0_ ?_))
        refine .of_eq (congrArg PV.bool ?_)
        rw [← hR, Bool.eq_iff_iff, decide_eq_true_iff, hk]
        simp [ZIt.z, m0_iff, and_assoc, and_left_comm, and_comm, htm]
        try first | omega | (intros; simp_all; done) | (intros; simp_all; omega) | (intros; exact ⟨by omega, by simp_all⟩)
      · (refine g0_ ?_; repeat ((first | refine n1_ fun b_ => ?_ | refine n2_ fun b_ => ?_ | refine Nat1.mk fun q_ hq_ => ?_ | refine em_ fun x_ hx_ => ?_ | refine Elem1.mk fun e_ he_ => ?_); refine g0_ ?_))
        refine (hF).use ?_; (refine g0_ ?_; repeat ((first | refine n1_ fun b_ => ?_ | refine n2_ fun b_ => ?_ | refine Nat1.mk fun q_ hq_ => ?_ | refine em_ fun x_ hx_ => ?_ | refine Elem1.mk fun e_ he_ => ?_); refine g0_ ?_))
        (refine g0_ ?_; repeat ((first | refine n1_ fun b_ => ?_ | refine n2_ fun b_ => ?_ | refine Nat1.mk fun q_ hq_ => ?_ | refine em_ fun x_ hx_ => ?_ | refine Elem1.mk fun e_ he_ => ?_); refine g0_ ?_))
        refine brec ?_; intro c_ hf; (try rw [hf]); cases c_ <;> replace hf := nm_ hf
        · (refine g0_ ?_; repeat ((first | refine n1_ fun b_ => ?_ | refine n2_ fun b_ => ?_ | refine Nat1.mk fun q_ hq_ => ?_ | refine em_ fun x_ hx_ => ?_ | refine Elem1.mk fun e_ he_ => ?_); refine g0_ ?_))
          refine .of_eq (congrArg PV.bool ?_)
          rw [← hR, Bool.eq_iff_iff, decide_eq_true_iff, hk]
          simp [ZIt.z, m0_iff, and_assoc, and_left_comm, and_comm, htm]
          try first | omega | (intros; simp_all; done) | (intros; simp_all; omega) | (intros; exact ⟨by omega, by simp_all⟩)
        · (refine g0_ ?_; repeat ((first | refine n1_ fun b_ => ?_ | refine n2_ fun b_ => ?_ | refine Nat1.mk fun q_ hq_ => ?_ | refine em_ fun x_ hx_ => ?_ | refine Elem1.mk fun e_ he_ => ?_); refine g0_ ?_))
          refine .inl ?_
          (refine g0_ ?_; repeat ((first | refine n1_ fun b_ => ?_ | refine n2_ fun b_ => ?_ | refine Nat1.mk fun q_ hq_ => ?_ | refine em_ fun x_ hx_ => ?_ | refine Elem1.mk fun e_ he_ => ?_); refine g0_ ?_))
          refine (hz [ZIt.u m, ZIt.s mi, ZIt.n p, ZIt.s t, ZIt.b la] (by simp)).use ?_; (refine g0_ ?_; repeat ((first | refine n1_ fun b_ => ?_ | refine n2_ fun b_ => ?_ | refine Nat1.mk fun q_ hq_ => ?_ | refine em_ fun x_ hx_ => ?_ | refine Elem1.mk fun e_ he_ => ?_); refine g0_ ?_))
          (refine g0_ ?_; repeat ((first | refine n1_ fun b_ => ?_ | refine n2_ fun b_ => ?_ | refine Nat1.mk fun q_ hq_ => ?_ | refine em_ fun x_ hx_ => ?_ | refine Elem1.mk fun e_ he_ => ?_); refine g0_ ?_))
          refine .of_eq (congrArg PV.bool ?_)
          rw [← hR, Bool.eq_iff_iff, decide_eq_true_iff, hk]
          simp [ZIt.z, m0_iff, and_assoc, and_left_comm, and_comm, htm]
          try first | omega | (intros; simp_all; done) | (intros; simp_all; omega) | (intros; exact ⟨by omega, by simp_all⟩)
  by_cases h1 : a = 1 ∨ a = 5
  · have hk : PSt.ok ⟨a, m, mi, p, t, l, la⟩ ↔ l = [] ∧ t = [] ∧ la = false ∧ p = [] ∧ m = 0 ∧ mi = [] := by rcases h1 with rfl | rfl <;> simp [PSt.ok]
    rcases h1 with rfl | rfl
    all_goals
      refine Pure.of (acalls_of_vc (drawOk W) Tryd.func18 rfl (by decide) (by decide) rfl ?_)
      (refine g0_ ?_; repeat ((first | refine n1_ fun b_ => ?_ | refine n2_ fun b_ => ?_ | refine Nat1.mk fun q_ hq_ => ?_ | refine em_ fun x_ hx_ => ?_ | refine Elem1.mk fun e_ he_ => ?_); refine g0_ ?_))
      (refine g1_ ?_; repeat ((first | refine n1_ fun b_ => ?_ | refine n2_ fun b_ => ?_ | refine Nat1.mk fun q_ hq_ => ?_ | refine em_ fun x_ hx_ => ?_ | refine Elem1.mk fun e_ he_ => ?_); refine g1_ ?_))
      first
      | (refine ht.use ?_)
      | skip
      (refine g0_ ?_; repeat ((first | refine n1_ fun b_ => ?_ | refine n2_ fun b_ => ?_ | refine Nat1.mk fun q_ hq_ => ?_ | refine em_ fun x_ hx_ => ?_ | refine Elem1.mk fun e_ he_ => ?_); refine g0_ ?_))
      refine .inl ?_
      (refine g0_ ?_; repeat ((first | refine n1_ fun b_ => ?_ | refine n2_ fun b_ => ?_ | refine Nat1.mk fun q_ hq_ => ?_ | refine em_ fun x_ hx_ => ?_ | refine Elem1.mk fun e_ he_ => ?_); refine g0_ ?_))
      refine (hz [ZIt.u m, ZIt.s mi, ZIt.n p, ZIt.s t, ZIt.b la, ZIt.s l] (by simp)).use ?_; (refine g0_ ?_; repeat ((first | refine n1_ fun b_ => ?_ | refine n2_ fun b_ => ?_ | refine Nat1.mk fun q_ hq_ => ?_ | refine em_ fun x_ hx_ => ?_ | refine Elem1.mk fun e_ he_ => ?_); refine g0_ ?_))
      (refine g0_ ?_; repeat ((first | refine n1_ fun b_ => ?_ | refine n2_ fun b_ => ?_ | refine Nat1.mk fun q_ hq_ => ?_ | refine em_ fun x_ hx_ => ?_ | refine Elem1.mk fun e_ he_ => ?_); refine g0_ ?_))
      refine .of_eq (congrArg PV.bool ?_)
      rw [← hR, Bool.eq_iff_iff, decide_eq_true_iff, hk]
      simp [ZIt.z, m0_iff, and_assoc, and_left_comm, and_comm, htm]
      try first | omega | (intros; simp_all; done) | (intros; simp_all; omega) | (intros; exact ⟨by omega, by simp_all⟩)
  by_cases h2 : a = 2
  · subst h2
    have hk : PSt.ok ⟨2, m, mi, p, t, l, la⟩ ↔ midOk mi ∧ mi ≠ [] ∧ p = [] ∧ m = 0 ∧ l = [] ∧ t = [] ∧ la = false := by simp [PSt.ok]
    refine Pure.of (acalls_of_vc (drawOk W) Tryd.func18 rfl (by decide) (by decide) rfl ?_)
    (refine g0_ ?_; repeat ((first | refine n1_ fun b_ => ?_ | refine n2_ fun b_ => ?_ | refine Nat1.mk fun q_ hq_ => ?_ | refine em_ fun x_ hx_ => ?_ | refine Elem1.mk fun e_ he_ => ?_); refine g0_ ?_))
    (refine g1_ ?_; repeat ((first | refine n1_ fun b_ => ?_ | refine n2_ fun b_ => ?_ | refine Nat1.mk fun q_ hq_ => ?_ | refine em_ fun x_ hx_ => ?_ | refine Elem1.mk fun e_ he_ => ?_); refine g1_ ?_))
    first
    | (refine ht.use ?_)
    | skip
    (refine g0_ ?_; repeat ((first | refine n1_ fun b_ => ?_ | refine n2_ fun b_ => ?_ | refine Nat1.mk fun q_ hq_ => ?_ | refine em_ fun x_ hx_ => ?_ | refine Elem1.mk fun e_ he_ => ?_); refine g0_ ?_))
    refine brec ?_; intro c_ h5; (try rw [h5]); cases c_ <;> replace h5 := nm_ h5
    · (refine g0_ ?_; repeat ((first | refine n1_ fun b_ => ?_ | refine n2_ fun b_ => ?_ | refine Nat1.mk fun q_ hq_ => ?_ | refine em_ fun x_ hx_ => ?_ | refine Elem1.mk fun e_ he_ => ?_); refine g0_ ?_))
      refine .of_eq (congrArg PV.bool ?_)
      rw [← hR, Bool.eq_iff_iff, decide_eq_true_iff, hk]
      simp [ZIt.z, m0_iff, and_assoc, and_left_comm, and_comm, htm]
      try first | omega | (intros; simp_all; done) | (intros; simp_all; omega) | (intros; exact ⟨by omega, by simp_all⟩)
    · (refine g0_ ?_; repeat ((first | refine n1_ fun b_ => ?_ | refine n2_ fun b_ => ?_ | refine Nat1.mk fun q_ hq_ => ?_ | refine em_ fun x_ hx_ => ?_ | refine Elem1.mk fun e_ he_ => ?_); refine g0_ ?_))
      refine .inl ?_
      (refine g0_ ?_; repeat ((first | refine n1_ fun b_ => ?_ | refine n2_ fun b_ => ?_ | refine Nat1.mk fun q_ hq_ => ?_ | refine em_ fun x_ hx_ => ?_ | refine Elem1.mk fun e_ he_ => ?_); refine g0_ ?_))
      refine (hz [ZIt.u m, ZIt.n p, ZIt.s t, ZIt.b la, ZIt.s l] (by simp)).use ?_; (refine g0_ ?_; repeat ((first | refine n1_ fun b_ => ?_ | refine n2_ fun b_ => ?_ | refine Nat1.mk fun q_ hq_ => ?_ | refine em_ fun x_ hx_ => ?_ | refine Elem1.mk fun e_ he_ => ?_); refine g0_ ?_))
      (refine g0_ ?_; repeat ((first | refine n1_ fun b_ => ?_ | refine n2_ fun b_ => ?_ | refine Nat1.mk fun q_ hq_ => ?_ | refine em_ fun x_ hx_ => ?_ | refine Elem1.mk fun e_ he_ => ?_); refine g0_ ?_))
      refine .of_eq (congrArg PV.bool ?_)
      rw [← hR, Bool.eq_iff_iff, decide_eq_true_iff, hk]
      simp [ZIt.z, m0_iff, and_assoc, and_left_comm, and_comm, htm]
      try first | omega | (intros; simp_all; done) | (intros; simp_all; omega) | (intros; exact ⟨by omega, by simp_all⟩)
  by_cases h3 : a = 3
  · subst h3
    have hk : PSt.ok ⟨3, m, mi, p, t, l, la⟩ ↔ midOk mi ∧ p.length ≤ 16 ∧ (m = 0 ∨ (60 ≤ m.toNat ∧ m.toNat ≤ 63)) ∧ l = [] ∧ t = [] ∧ la = false ∧ ∀ n ∈ p, -1 ≤ n ∧ n ≤ 9999 := by simp [PSt.ok]
    have hmk := marks_ok W m
    refine Pure.of (acalls_of_vc (drawOk W) Tryd.func18 rfl (by decide) (by decide) rfl ?_)
    (refine g0_ ?_; repeat ((first | refine n1_ fun b_ => ?_ | refine n2_ fun b_ => ?_ | refine Nat1.mk fun q_ hq_ => ?_ | refine em_ fun x_ hx_ => ?_ | refine Elem1.mk fun e_ he_ => ?_); refine g0_ ?_))
    (refine g1_ ?_; repeat ((first | refine n1_ fun b_ => ?_ | refine n2_ fun b_ => ?_ | refine Nat1.mk fun q_ hq_ => ?_ | refine em_ fun x_ hx_ => ?_ | refine Elem1.mk fun e_ he_ => ?_); refine g1_ ?_))
    first
    | (refine ht.use ?_)
    | skip
    (refine g0_ ?_; repeat ((first | refine n1_ fun b_ => ?_ | refine n2_ fun b_ => ?_ | refine Nat1.mk fun q_ hq_ => ?_ | refine em_ fun x_ hx_ => ?_ | refine Elem1.mk fun e_ he_ => ?_); refine g0_ ?_))
    refine' loopI (α := Nat) (fun i => [(117, .int .i64 i)]) [(1, _), (3, _), (4, _), (115, _), (116, _)] (fun i => [⟨b_, .row 7 [.agg [.int .i64 3, .int .u8 m.toNat, .str mi, .sl 1 (p.map (PV.int .i64)), .str t, .str l, .bool la]] 0⟩]) (fun i => i ≤ p.length ∧ ∀ n ∈ p.take i, -1 ≤ n ∧ n ≤ 9999) (fun i => p.length - i) 0 ?_ ?_
    · exact ⟨Nat.zero_le _, by simp⟩
    rintro i ⟨hi, hz0⟩
    (refine g0_ ?_; repeat ((first | refine n1_ fun b_ => ?_ | refine n2_ fun b_ => ?_ | refine Nat1.mk fun q_ hq_ => ?_ | refine em_ fun x_ hx_ => ?_ | refine Elem1.mk fun e_ he_ => ?_); refine g0_ ?_))
    refine brec ?_; intro c_ h; (try rw [h]); cases c_ <;> replace h := nm_ h
    · have hil : i = p.length := by rw [List.length_map] at h; omega
      rw [hil, List.take_length] at hz0
      (refine g0_ ?_; repeat ((first | refine n1_ fun b_ => ?_ | refine n2_ fun b_ => ?_ | refine Nat1.mk fun q_ hq_ => ?_ | refine em_ fun x_ hx_ => ?_ | refine Elem1.mk fun e_ he_ => ?_); refine g0_ ?_))
      refine brec ?_; intro c_ h5; (try rw [h5]); cases c_ <;> replace h5 := nm_ h5
      · (refine g0_ ?_; repeat ((first | refine n1_ fun b_ => ?_ | refine n2_ fun b_ => ?_ | refine Nat1.mk fun q_ hq_ => ?_ | refine em_ fun x_ hx_ => ?_ | refine Elem1.mk fun e_ he_ => ?_); refine g0_ ?_))
        have hno : ¬ PSt.ok _ := fun ho => h5 (by have := hk.1 ho; rw [List.length_map]; exact ⟨htm.2 this.1, by omega⟩)
        refine .of_eq (congrArg PV.bool ?_)
        rw [← hR]
        exact (decide_eq_false hno).symm
      · rw [List.length_map] at h5
        have hmid := htm.1 h5.1
        (refine g0_ ?_; repeat ((first | refine n1_ fun b_ => ?_ | refine n2_ fun b_ => ?_ | refine Nat1.mk fun q_ hq_ => ?_ | refine em_ fun x_ hx_ => ?_ | refine Elem1.mk fun e_ he_ => ?_); refine g0_ ?_))
        refine .inl ?_
        (refine g0_ ?_; repeat ((first | refine n1_ fun b_ => ?_ | refine n2_ fun b_ => ?_ | refine Nat1.mk fun q_ hq_ => ?_ | refine em_ fun x_ hx_ => ?_ | refine Elem1.mk fun e_ he_ => ?_); refine g0_ ?_))
        refine ⟨[(m.toNat : Int)], rfl, ?_⟩
        rw [u8_bk]
        (refine g0_ ?_; repeat ((first | refine n1_ fun b_ => ?_ | refine n2_ fun b_ => ?_ | refine Nat1.mk fun q_ hq_ => ?_ | refine em_ fun x_ hx_ => ?_ | refine Elem1.mk fun e_ he_ => ?_); refine g0_ ?_))
        refine (hmk).use ?_; (refine g0_ ?_; repeat ((first | refine n1_ fun b_ => ?_ | refine n2_ fun b_ => ?_ | refine Nat1.mk fun q_ hq_ => ?_ | refine em_ fun x_ hx_ => ?_ | refine Elem1.mk fun e_ he_ => ?_); refine g0_ ?_))
        (refine g0_ ?_; repeat ((first | refine n1_ fun b_ => ?_ | refine n2_ fun b_ => ?_ | refine Nat1.mk fun q_ hq_ => ?_ | refine em_ fun x_ hx_ => ?_ | refine Elem1.mk fun e_ he_ => ?_); refine g0_ ?_))
        refine brec ?_; intro c_ h7; (try rw [h7]); cases c_ <;> replace h7 := nm_ h7
        · (refine g0_ ?_; repeat ((first | refine n1_ fun b_ => ?_ | refine n2_ fun b_ => ?_ | refine Nat1.mk fun q_ hq_ => ?_ | refine em_ fun x_ hx_ => ?_ | refine Elem1.mk fun e_ he_ => ?_); refine g0_ ?_))
          have hno : ¬ PSt.ok _ := fun ho => h7 (by have := (hk.1 ho).2.2.1; rw [← m0_iff] at this; exact this)
          refine .of_eq (congrArg PV.bool ?_)
          rw [← hR]
          exact (decide_eq_false hno).symm
        · (refine g0_ ?_; repeat ((first | refine n1_ fun b_ => ?_ | refine n2_ fun b_ => ?_ | refine Nat1.mk fun q_ hq_ => ?_ | refine em_ fun x_ hx_ => ?_ | refine Elem1.mk fun e_ he_ => ?_); refine g0_ ?_))
          refine .inl ?_
          (refine g0_ ?_; repeat ((first | refine n1_ fun b_ => ?_ | refine n2_ fun b_ => ?_ | refine Nat1.mk fun q_ hq_ => ?_ | refine em_ fun x_ hx_ => ?_ | refine Elem1.mk fun e_ he_ => ?_); refine g0_ ?_))
          refine (hz [ZIt.s t, ZIt.b la, ZIt.s l] (by simp)).use ?_; (refine g0_ ?_; repeat ((first | refine n1_ fun b_ => ?_ | refine n2_ fun b_ => ?_ | refine Nat1.mk fun q_ hq_ => ?_ | refine em_ fun x_ hx_ => ?_ | refine Elem1.mk fun e_ he_ => ?_); refine g0_ ?_))
          (refine g0_ ?_; repeat ((first | refine n1_ fun b_ => ?_ | refine n2_ fun b_ => ?_ | refine Nat1.mk fun q_ hq_ => ?_ | refine em_ fun x_ hx_ => ?_ | refine Elem1.mk fun e_ he_ => ?_); refine g0_ ?_))
          refine .of_eq (congrArg PV.bool ?_)
          rw [← hR, Bool.eq_iff_iff, decide_eq_true_iff, hk]
          have h8 : p.length ≤ 16 := by omega
          have h9 : m = 0 ∨ (60 ≤ m.toNat ∧ m.toNat ≤ 63) := by rw [← m0_iff]; exact h7
          constructor
          · intro hh
            simp [ZIt.z] at hh
            exact ⟨hmid, h8, h9, hh.2.2, hh.1, hh.2.1, hz0⟩
          · rintro ⟨-, -, -, e1, e2, e3, -⟩
            simp [ZIt.z, e1, e2, e3]
    · have hil : i < p.length := by rw [List.length_map] at h; omega
      obtain ⟨x, hx⟩ : ∃ x, p[i]? = some x := ⟨p[i], List.getElem?_eq_getElem hil⟩
      (refine g0_ ?_; repeat ((first | refine n1_ fun b_ => ?_ | refine n2_ fun b_ => ?_ | refine Nat1.mk fun q_ hq_ => ?_ | refine em_ fun x_ hx_ => ?_ | refine Elem1.mk fun e_ he_ => ?_); refine g0_ ?_))
      refine brec ?_; intro c_ h6; (try rw [h6]); cases c_ <;> replace h6 := nm_ h6
      · (refine g0_ ?_; repeat ((first | refine n1_ fun b_ => ?_ | refine n2_ fun b_ => ?_ | refine Nat1.mk fun q_ hq_ => ?_ | refine em_ fun x_ hx_ => ?_ | refine Elem1.mk fun e_ he_ => ?_); refine g0_ ?_))
        refine nx_ (i + 1) ?_ ?_
        · refine ⟨by omega, fun n hn => ?_⟩
          rw [List.take_add_one, hx] at hn
          rcases List.mem_append.1 hn with hn | hn
          · exact hz0 n hn
          · obtain rfl : n = x := by simpa using hn
            omega
        · ((try dsimp only); (try simp only [List.length_drop, List.length_take, List.length_append, List.length_cons, List.length_nil, List.length_map] at *); omega)
      · (refine g0_ ?_; repeat ((first | refine n1_ fun b_ => ?_ | refine n2_ fun b_ => ?_ | refine Nat1.mk fun q_ hq_ => ?_ | refine em_ fun x_ hx_ => ?_ | refine Elem1.mk fun e_ he_ => ?_); refine g0_ ?_))
        have hno : ¬ PSt.ok _ := fun ho => by have := (hk.1 ho).2.2.2.2.2.2 x (List.mem_of_getElem? hx); omega
        refine .of_eq (congrArg PV.bool ?_)
        rw [← hR]
        exact (decide_eq_false hno).symm
  by_cases h4 : a = 4
  · subst h4
    have hk : PSt.ok ⟨4, m, mi, p, t, l, la⟩ ↔ (t.length ≤ 64 ∧ ∀ c ∈ t, 32 ≤ c.toNat) ∧ l = [] ∧ p = [] ∧ m = 0 ∧ mi = [] := by simp [PSt.ok, and_assoc]
    refine Pure.of (acalls_of_vc (drawOk W) Tryd.func18 rfl (by decide) (by decide) rfl ?_)
    (refine g0_ ?_; repeat ((first | refine n1_ fun b_ => ?_ | refine n2_ fun b_ => ?_ | refine Nat1.mk fun q_ hq_ => ?_ | refine em_ fun x_ hx_ => ?_ | refine Elem1.mk fun e_ he_ => ?_); refine g0_ ?_))
    (refine g1_ ?_; repeat ((first | refine n1_ fun b_ => ?_ | refine n2_ fun b_ => ?_ | refine Nat1.mk fun q_ hq_ => ?_ | refine em_ fun x_ hx_ => ?_ | refine Elem1.mk fun e_ he_ => ?_); refine g1_ ?_))
    first
    | (refine ht.use ?_)
    | skip
    (refine g0_ ?_; repeat ((first | refine n1_ fun b_ => ?_ | refine n2_ fun b_ => ?_ | refine Nat1.mk fun q_ hq_ => ?_ | refine em_ fun x_ hx_ => ?_ | refine Elem1.mk fun e_ he_ => ?_); refine g0_ ?_))
    refine' loopI (α := Nat) (fun i => [(161, .int .i64 i)]) [(1, _), (3, _), (160, _)] (fun i => [⟨b_, .row 7 [.agg [.int .i64 4, .int .u8 m.toNat, .str mi, .sl 1 (p.map (PV.int .i64)), .str t, .str l, .bool la]] 0⟩]) (fun i => i ≤ t.length ∧ ∀ c ∈ t.take i, 32 ≤ c.toNat) (fun i => t.length - i) 0 ?_ ?_
    · exact ⟨Nat.zero_le _, by simp⟩
    rintro i ⟨hi, hz0⟩
    (refine g0_ ?_; repeat ((first | refine n1_ fun b_ => ?_ | refine n2_ fun b_ => ?_ | refine Nat1.mk fun q_ hq_ => ?_ | refine em_ fun x_ hx_ => ?_ | refine Elem1.mk fun e_ he_ => ?_); refine g0_ ?_))
    refine brec ?_; intro c_ h; (try rw [h]); cases c_ <;> replace h := nm_ h
    · have hil : i = t.length := by omega
      rw [hil, List.take_length] at hz0
      (refine g0_ ?_; repeat ((first | refine n1_ fun b_ => ?_ | refine n2_ fun b_ => ?_ | refine Nat1.mk fun q_ hq_ => ?_ | refine em_ fun x_ hx_ => ?_ | refine Elem1.mk fun e_ he_ => ?_); refine g0_ ?_))
      refine brec ?_; intro c_ h5; (try rw [h5]); cases c_ <;> replace h5 := nm_ h5
      · (refine g0_ ?_; repeat ((first | refine n1_ fun b_ => ?_ | refine n2_ fun b_ => ?_ | refine Nat1.mk fun q_ hq_ => ?_ | refine em_ fun x_ hx_ => ?_ | refine Elem1.mk fun e_ he_ => ?_); refine g0_ ?_))
        have hno : ¬ PSt.ok _ := fun ho => h5 (by have := (hk.1 ho).1.1; omega)
        refine .of_eq (congrArg PV.bool ?_)
        rw [← hR]
        exact (decide_eq_false hno).symm
      · (refine g0_ ?_; repeat ((first | refine n1_ fun b_ => ?_ | refine n2_ fun b_ => ?_ | refine Nat1.mk fun q_ hq_ => ?_ | refine em_ fun x_ hx_ => ?_ | refine Elem1.mk fun e_ he_ => ?_); refine g0_ ?_))
        refine .inl ?_
        (refine g0_ ?_; repeat ((first | refine n1_ fun b_ => ?_ | refine n2_ fun b_ => ?_ | refine Nat1.mk fun q_ hq_ => ?_ | refine em_ fun x_ hx_ => ?_ | refine Elem1.mk fun e_ he_ => ?_); refine g0_ ?_))
        refine (hz [ZIt.u m, ZIt.s mi, ZIt.n p, ZIt.s l] (by simp)).use ?_; (refine g0_ ?_; repeat ((first | refine n1_ fun b_ => ?_ | refine n2_ fun b_ => ?_ | refine Nat1.mk fun q_ hq_ => ?_ | refine em_ fun x_ hx_ => ?_ | refine Elem1.mk fun e_ he_ => ?_); refine g0_ ?_))
        (refine g0_ ?_; repeat ((first | refine n1_ fun b_ => ?_ | refine n2_ fun b_ => ?_ | refine Nat1.mk fun q_ hq_ => ?_ | refine em_ fun x_ hx_ => ?_ | refine Elem1.mk fun e_ he_ => ?_); refine g0_ ?_))
        refine .of_eq (congrArg PV.bool ?_)
        rw [← hR, Bool.eq_iff_iff, decide_eq_true_iff, hk]
        have h8 : t.length ≤ 64 := by omega
        constructor
        · intro hh
          simp [ZIt.z, m0_iff] at hh
          exact ⟨⟨h8, hz0⟩, hh.2.2.2, hh.2.2.1, hh.1, hh.2.1⟩
        · rintro ⟨-, e1, e2, e3, e4⟩
          simp [ZIt.z, e1, e2, e3, e4]
    · have hil : i < t.length := by omega
      obtain ⟨x, hx⟩ : ∃ x, t[i]? = some x := ⟨t[i], List.getElem?_eq_getElem hil⟩
      (refine g0_ ?_; repeat ((first | refine n1_ fun b_ => ?_ | refine n2_ fun b_ => ?_ | refine Nat1.mk fun q_ hq_ => ?_ | refine em_ fun x_ hx_ => ?_ | refine Elem1.mk fun e_ he_ => ?_); refine g0_ ?_))
      rw [hx] at he_
      obtain rfl := Option.some.inj he_
      refine brec ?_; intro c_ h6; (try rw [h6]); cases c_ <;> replace h6 := nm_ h6
      · (refine g0_ ?_; repeat ((first | refine n1_ fun b_ => ?_ | refine n2_ fun b_ => ?_ | refine Nat1.mk fun q_ hq_ => ?_ | refine em_ fun x_ hx_ => ?_ | refine Elem1.mk fun e_ he_ => ?_); refine g0_ ?_))
        refine nx_ (i + 1) ?_ ?_
        · refine ⟨by omega, fun n hn => ?_⟩
          rw [List.take_add_one, hx] at hn
          rcases List.mem_append.1 hn with hn | hn
          · exact hz0 n hn
          · obtain rfl : n = x := by simpa using hn
            omega
        · ((try dsimp only); (try simp only [List.length_drop, List.length_take, List.length_append, List.length_cons, List.length_nil, List.length_map] at *); omega)
      · (refine g0_ ?_; repeat ((first | refine n1_ fun b_ => ?_ | refine n2_ fun b_ => ?_ | refine Nat1.mk fun q_ hq_ => ?_ | refine em_ fun x_ hx_ => ?_ | refine Elem1.mk fun e_ he_ => ?_); refine g0_ ?_))
        have hno : ¬ PSt.ok _ := fun ho => by have := (hk.1 ho).1.2 x (List.mem_of_getElem? hx); omega
        refine .of_eq (congrArg PV.bool ?_)
        rw [← hR]
        exact (decide_eq_false hno).symm
  · have hk : ¬ PSt.ok ⟨a, m, mi, p, t, l, la⟩ := by simp [PSt.ok]; omega
    refine Pure.of (acalls_of_vc (drawOk W) Tryd.func18 rfl (by decide) (by decide) rfl ?_)
    (refine g0_ ?_; repeat ((first | refine n1_ fun b_ => ?_ | refine n2_ fun b_ => ?_ | refine Nat1.mk fun q_ hq_ => ?_ | refine em_ fun x_ hx_ => ?_ | refine Elem1.mk fun e_ he_ => ?_); refine g0_ ?_))
    (refine g1_ ?_; repeat ((first | refine n1_ fun b_ => ?_ | refine n2_ fun b_ => ?_ | refine Nat1.mk fun q_ hq_ => ?_ | refine em_ fun x_ hx_ => ?_ | refine Elem1.mk fun e_ he_ => ?_); refine g1_ ?_))
    first
    | (refine ht.use ?_)
    | skip
    (refine g0_ ?_; repeat ((first | refine n1_ fun b_ => ?_ | refine n2_ fun b_ => ?_ | refine Nat1.mk fun q_ hq_ => ?_ | refine em_ fun x_ hx_ => ?_ | refine Elem1.mk fun e_ he_ => ?_); refine g0_ ?_))
    (refine g1_ ?_; repeat ((first | refine n1_ fun b_ => ?_ | refine n2_ fun b_ => ?_ | refine Nat1.mk fun q_ hq_ => ?_ | refine em_ fun x_ hx_ => ?_ | refine Elem1.mk fun e_ he_ => ?_); refine g1_ ?_))
    rw [decide_eq_false hk] at hR
    exact .of_eq (by rw [← hR])
theorem checkState_b (hT : Tabs W) (s : PSt) (hs : s.fair) (hm : ¬ s.middle.length ≤ 2) : Pure Tryd.prog W 18 [encSt s] (.bool (decide s.ok)) := by
  generalize hR : decide s.ok = R
  have h1 := hs.mid
  have h2 := hs.txt
  have h3 := hs.par
  have h4 := hs.lft
  have hF := fullb_ok W hT s.left
  have hz := fun l hl => zero_ok W l hl
  obtain ⟨a, m, mi, p, t, l, la⟩ := s
  simp only [encSt, stV, encInts] at *
  (try dsimp only at hm)
  have hmn : ¬ midOk mi := fun h => hm h.1
  have htm : True := trivial
  by_cases h0 : a = 0
  · subst h0
    have hk : PSt.ok ⟨0, m, mi, p, t, l, la⟩ ↔ (l = [] ∨ (128 ≤ gB l 0 ∧ fullL l = false)) ∧ t = [] ∧ la = false ∧ p = [] ∧ m = 0 ∧ mi = [] := by simp [PSt.ok]
    rcases l with _ | ⟨c, l⟩
    · refine Pure.of (acalls_of_vc (drawOk W) Tryd.func18 rfl (by decide) (by decide) rfl ?_)
      (refine g0_ ?_; repeat ((first | refine n1_ fun b_ => ?_ | refine n2_ fun b_ => ?_ | refine Nat1.mk fun q_ hq_ => ?_ | refine em_ fun x_ hx_ => ?_ | refine Elem1.mk fun e_ he_ => ?_); refine g0_ ?_))
      (refine g1_ ?_; repeat ((first | refine n1_ fun b_ => ?_ | refine n2_ fun b_ => ?_ | refine Nat1.mk fun q_ hq_ => ?_ | refine em_ fun x_ hx_ => ?_ | refine Elem1.mk fun e_ he_ => ?_); refine g1_ ?_))
      first
      | (refine ht.use ?_)
      | skip
      (refine g0_ ?_; repeat ((first | refine n1_ fun b_ => ?_ | refine n2_ fun b_ => ?_ | refine Nat1.mk fun q_ hq_ => ?_ | refine em_ fun x_ hx_ => ?_ | refine Elem1.mk fun e_ he_ => ?_); refine g0_ ?_))
      refine .inl ?_
      (refine g0_ ?_; repeat ((first | refine n1_ fun b_ => ?_ | refine n2_ fun b_ => ?_ | refine Nat1.mk fun q_ hq_ => ?_ | refine em_ fun x_ hx_ => ?_ | refine Elem1.mk fun e_ he_ => ?_); refine g0_ ?_))
      refine (hz [ZIt.u m, ZIt.s mi, ZIt.n p, ZIt.s t, ZIt.b la] (by simp)).use ?_; (refine g0_ ?_; repeat ((first | refine n1_ fun b_ => ?_ | refine n2_ fun b_ => ?_ | refine Nat1.mk fun q_ hq_ => ?_ | refine em_ fun x_ hx_ => ?_ | refine Elem1.mk fun e_ he_ => ?_); refine g0_ ?_))
      (refine g0_ ?_; repeat ((first | refine n1_ fun b_ => ?_ | refine n2_ fun b_ => ?_ | refine Nat1.mk fun q_ hq_ => ?_ | refine em_ fun x_ hx_ => ?_ | refine Elem1.mk fun e_ he_ => ?_); refine g0_ ?_))
      refine .of_eq (congrArg PV.bool ?_)
      rw [← hR, Bool.eq_iff_iff, decide_eq_true_iff, hk]
      simp [ZIt.z, m0_iff, and_assoc, and_left_comm, and_comm, htm]
      try first | omega | (intros; simp_all; done) | (intros; simp_all; omega) | (intros; exact ⟨by omega, by simp_all⟩)
    · rw [gB_head] at hk
      refine Pure.of (acalls_of_vc (drawOk W) Tryd.func18 rfl (by decide) (by decide) rfl ?_)
      (refine g0_ ?_; repeat ((first | refine n1_ fun b_ => ?_ | refine n2_ fun b_ => ?_ | refine Nat1.mk fun q_ hq_ => ?_ | refine em_ fun x_ hx_ => ?_ | refine Elem1.mk fun e_ he_ => ?_); refine g0_ ?_))
      (refine g1_ ?_; repeat ((first | refine n1_ fun b_ => ?_ | refine n2_ fun b_ => ?_ | refine Nat1.mk fun q_ hq_ => ?_ | refine em_ fun x_ hx_ => ?_ | refine Elem1.mk fun e_ he_ => ?_); refine g1_ ?_))
      first
      | (refine ht.use ?_)
      | skip
      (refine g0_ ?_; repeat ((first | refine n1_ fun b_ => ?_ | refine n2_ fun b_ => ?_ | refine Nat1.mk fun q_ hq_ => ?_ | refine em_ fun x_ hx_ => ?_ | refine Elem1.mk fun e_ he_ => ?_); refine g0_ ?_))
      refine brec ?_; intro c_ hc; (try rw [hc]); cases c_ <;> replace hc := nm_ hc
      · (refine g0_ ?_; repeat ((first | refine n1_ fun b_ => ?_ | refine n2_ fun b_ => ?_ | refine Nat1.mk fun q_ hq_ => ?_ | refine em_ fun x_ hx_ => ?_ | refine Elem1.mk fun e_ he_ => ?_); refine g0_ ?_))
        refine .of_eq (congrArg PV.bool ?_)
        rw [← hR, Bool.eq_iff_iff, decide_eq_true_iff, hk]
        simp [ZIt.z, m0_iff, and_assoc, and_left_comm, and_comm, htm]
        try first | omega | (intros; simp_all; done) | (intros; simp_all; omega) | (intros; exact ⟨by omega, by simp_all⟩)
      · (refine g0_ ?_; repeat ((first | refine n1_ fun b_ => ?_ | refine n2_ fun b_ => ?_ | refine Nat1.mk fun q_ hq_ => ?_ | refine em_ fun x_ hx_ => ?_ | refine Elem1.mk fun e_ he_ => ?_); refine g0_ ?_))
        refine (hF).use ?_; (refine g0_ ?_; repeat ((first | refine n1_ fun b_ => ?_ | refine n2_ fun b_ => ?_ | refine Nat1.mk fun q_ hq_ => ?_ | refine em_ fun x_ hx_ => ?_ | refine Elem1.mk fun e_ he_ => ?_); refine g0_ ?_))
        (refine g0_ ?_; repeat ((first | refine n1_ fun b_ => ?_ | refine n2_ fun b_ => ?_ | refine Nat1.mk fun q_ hq_ => ?_ | refine em_ fun x_ hx_ => ?_ | refine Elem1.mk fun e_ he_ => ?_); refine g0_ ?_))
        refine brec ?_; intro c_ hf; (try rw [hf]); cases c_ <;> replace hf := nm_ hf
        · (refine g0_ ?_; repeat ((first | refine n1_ fun b_ => ?_ | refine n2_ fun b_ => ?_ | refine Nat1.mk fun q_ hq_ => ?_ | refine em_ fun x_ hx_ => ?_ | refine Elem1.mk fun e_ he_ => ?_); refine g0_ ?_))
          refine .of_eq (congrArg PV.bool ?_)
          rw [← hR, Bool.eq_iff_iff, decide_eq_true_iff, hk]
          simp [ZIt.z, m0_iff, and_assoc, and_left_comm, and_comm, htm]
          try first | omega | (intros; simp_all; done) | (intros; simp_all; omega) | (intros; exact ⟨by omega, by simp_all⟩)
        · (refine g0_ ?_; repeat ((first | refine n1_ fun b_ => ?_ | refine n2_ fun b_ => ?_ | refine Nat1.mk fun q_ hq_ => ?_ | refine em_ fun x_ hx_ => ?_ | refine Elem1.mk fun e_ he_ => ?_); refine g0_ ?_))
          refine .inl ?_
          (refine g0_ ?_; repeat ((first | refine n1_ fun b_ => ?_ | refine n2_ fun b_ => ?_ | refine Nat1.mk fun q_ hq_ => ?_ | refine em_ fun x_ hx_ => ?_ | refine Elem1.mk fun e_ he_ => ?_); refine g0_ ?_))
          refine (hz [ZIt.u m, ZIt.s mi, ZIt.n p, ZIt.s t, ZIt.b la] (by simp)).use ?_; (refine g0_ ?_; repeat ((first | refine n1_ fun b_ => ?_ | refine n2_ fun b_ => ?_ | refine Nat1.mk fun q_ hq_ => ?_ | refine em_ fun x_ hx_ => ?_ | refine Elem1.mk fun e_ he_ => ?_); refine g0_ ?_))
          (refine g0_ ?_; repeat ((first | refine n1_ fun b_ => ?_ | refine n2_ fun b_ => ?_ | refine Nat1.mk fun q_ hq_ => ?_ | refine em_ fun x_ hx_ => ?_ | refine Elem1.mk fun e_ he_ => ?_); refine g0_ ?_))
          refine .of_eq (congrArg PV.bool ?_)
          rw [← hR, Bool.eq_iff_iff, decide_eq_true_iff, hk]
          simp [ZIt.z, m0_iff, and_assoc, and_left_comm, and_comm, htm]
          try first | omega | (intros; simp_all; done) | (intros; simp_all; omega) | (intros; exact ⟨by omega, by simp_all⟩)
  by_cases h1 : a = 1 ∨ a = 5
  · have hk : PSt.ok ⟨a, m, mi, p, t, l, la⟩ ↔ l = [] ∧ t = [] ∧ la = false ∧ p = [] ∧ m = 0 ∧ mi = [] := by rcases h1 with rfl | rfl <;> simp [PSt.ok]
    rcases h1 with rfl | rfl
    all_goals
      refine Pure.of (acalls_of_vc (drawOk W) Tryd.func18 rfl (by decide) (by decide) rfl ?_)
      (refine g0_ ?_; repeat ((first | refine n1_ fun b_ => ?_ | refine n2_ fun b_ => ?_ | refine Nat1.mk fun q_ hq_ => ?_ | refine em_ fun x_ hx_ => ?_ | refine Elem1.mk fun e_ he_ => ?_); refine g0_ ?_))
      (refine g1_ ?_; repeat ((first | refine n1_ fun b_ => ?_ | refine n2_ fun b_ => ?_ | refine Nat1.mk fun q_ hq_ => ?_ | refine em_ fun x_ hx_ => ?_ | refine Elem1.mk fun e_ he_ => ?_); refine g1_ ?_))
      first
      | (refine ht.use ?_)
      | skip
      (refine g0_ ?_; repeat ((first | refine n1_ fun b_ => ?_ | refine n2_ fun b_ => ?_ | refine Nat1.mk fun q_ hq_ => ?_ | refine em_ fun x_ hx_ => ?_ | refine Elem1.mk fun e_ he_ => ?_); refine g0_ ?_))
      refine .inl ?_
      (refine g0_ ?_; repeat ((first | refine n1_ fun b_ => ?_ | refine n2_ fun b_ => ?_ | refine Nat1.mk fun q_ hq_ => ?_ | refine em_ fun x_ hx_ => ?_ | refine Elem1.mk fun e_ he_ => ?_); refine g0_ ?_))
      refine (hz [ZIt.u m, ZIt.s mi, ZIt.n p, ZIt.s t, ZIt.b la, ZIt.s l] (by simp)).use ?_; (refine g0_ ?_; repeat ((first | refine n1_ fun b_ => ?_ | refine n2_ fun b_ => ?_ | refine Nat1.mk fun q_ hq_ => ?_ | refine em_ fun x_ hx_ => ?_ | refine Elem1.mk fun e_ he_ => ?_); refine g0_ ?_))
      (refine g0_ ?_; repeat ((first | refine n1_ fun b_ => ?_ | refine n2_ fun b_ => ?_ | refine Nat1.mk fun q_ hq_ => ?_ | refine em_ fun x_ hx_ => ?_ | refine Elem1.mk fun e_ he_ => ?_); refine g0_ ?_))
      refine .of_eq (congrArg PV.bool ?_)
      rw [← hR, Bool.eq_iff_iff, decide_eq_true_iff, hk]
      simp [ZIt.z, m0_iff, and_assoc, and_left_comm, and_comm, htm]
      try first | omega | (intros; simp_all; done) | (intros; simp_all; omega) | (intros; exact ⟨by omega, by simp_all⟩)
  by_cases h2 : a = 2
  · subst h2
    have hk : PSt.ok ⟨2, m, mi, p, t, l, la⟩ ↔ midOk mi ∧ mi ≠ [] ∧ p = [] ∧ m = 0 ∧ l = [] ∧ t = [] ∧ la = false := by simp [PSt.ok]
    have hno : ¬ PSt.ok _ := fun ho => hmn (hk.1 ho).1
    refine Pure.of (acalls_of_vc (drawOk W) Tryd.func18 rfl (by decide) (by decide) rfl ?_)
    (refine g0_ ?_; repeat ((first | refine n1_ fun b_ => ?_ | refine n2_ fun b_ => ?_ | refine Nat1.mk fun q_ hq_ => ?_ | refine em_ fun x_ hx_ => ?_ | refine Elem1.mk fun e_ he_ => ?_); refine g0_ ?_))
    (refine g1_ ?_; repeat ((first | refine n1_ fun b_ => ?_ | refine n2_ fun b_ => ?_ | refine Nat1.mk fun q_ hq_ => ?_ | refine em_ fun x_ hx_ => ?_ | refine Elem1.mk fun e_ he_ => ?_); refine g1_ ?_))
    first
    | (refine ht.use ?_)
    | skip
    (refine g0_ ?_; repeat ((first | refine n1_ fun b_ => ?_ | refine n2_ fun b_ => ?_ | refine Nat1.mk fun q_ hq_ => ?_ | refine em_ fun x_ hx_ => ?_ | refine Elem1.mk fun e_ he_ => ?_); refine g0_ ?_))
    refine .of_eq (congrArg PV.bool ?_)
    rw [← hR]
    exact (decide_eq_false hno).symm
  by_cases h3 : a = 3
  · subst h3
    have hk : PSt.ok ⟨3, m, mi, p, t, l, la⟩ ↔ midOk mi ∧ p.length ≤ 16 ∧ (m = 0 ∨ (60 ≤ m.toNat ∧ m.toNat ≤ 63)) ∧ l = [] ∧ t = [] ∧ la = false ∧ ∀ n ∈ p, -1 ≤ n ∧ n ≤ 9999 := by simp [PSt.ok]
    have hmk := marks_ok W m
    refine Pure.of (acalls_of_vc (drawOk W) Tryd.func18 rfl (by decide) (by decide) rfl ?_)
    (refine g0_ ?_; repeat ((first | refine n1_ fun b_ => ?_ | refine n2_ fun b_ => ?_ | refine Nat1.mk fun q_ hq_ => ?_ | refine em_ fun x_ hx_ => ?_ | refine Elem1.mk fun e_ he_ => ?_); refine g0_ ?_))
    (refine g1_ ?_; repeat ((first | refine n1_ fun b_ => ?_ | refine n2_ fun b_ => ?_ | refine Nat1.mk fun q_ hq_ => ?_ | refine em_ fun x_ hx_ => ?_ | refine Elem1.mk fun e_ he_ => ?_); refine g1_ ?_))
    first
    | (refine ht.use ?_)
    | skip
    (refine g0_ ?_; repeat ((first | refine n1_ fun b_ => ?_ | refine n2_ fun b_ => ?_ | refine Nat1.mk fun q_ hq_ => ?_ | refine em_ fun x_ hx_ => ?_ | refine Elem1.mk fun e_ he_ => ?_); refine g0_ ?_))
    refine' loopI (α := Nat) (fun i => [(117, .int .i64 i)]) [(1, _), (3, _), (4, _), (115, _), (116, _)] (fun i => [⟨b_, .row 7 [.agg [.int .i64 3, .int .u8 m.toNat, .str mi, .sl 1 (p.map (PV.int .i64)), .str t, .str l, .bool la]] 0⟩]) (fun i => i ≤ p.length ∧ ∀ n ∈ p.take i, -1 ≤ n ∧ n ≤ 9999) (fun i => p.length - i) 0 ?_ ?_
    · exact ⟨Nat.zero_le _, by simp⟩
    rintro i ⟨hi, hz0⟩
    (refine g0_ ?_; repeat ((first | refine n1_ fun b_ => ?_ | refine n2_ fun b_ => ?_ | refine Nat1.mk fun q_ hq_ => ?_ | refine em_ fun x_ hx_ => ?_ | refine Elem1.mk fun e_ he_ => ?_); refine g0_ ?_))
    refine brec ?_; intro c_ h; (try rw [h]); cases c_ <;> replace h := nm_ h
    · have hno : ¬ PSt.ok _ := fun ho => hmn (hk.1 ho).1
      (refine g0_ ?_; repeat ((first | refine n1_ fun b_ => ?_ | refine n2_ fun b_ => ?_ | refine Nat1.mk fun q_ hq_ => ?_ | refine em_ fun x_ hx_ => ?_ | refine Elem1.mk fun e_ he_ => ?_); refine g0_ ?_))
      refine .of_eq (congrArg PV.bool ?_)
      rw [← hR]
      exact (decide_eq_false hno).symm
    · have hil : i < p.length := by rw [List.length_map] at h; omega
      obtain ⟨x, hx⟩ : ∃ x, p[i]? = some x := ⟨p[i], List.getElem?_eq_getElem hil⟩
      (refine g0_ ?_; repeat ((first | refine n1_ fun b_ => ?_ | refine n2_ fun b_ => ?_ | refine Nat1.mk fun q_ hq_ => ?_ | refine em_ fun x_ hx_ => ?_ | refine Elem1.mk fun e_ he_ => ?_); refine g0_ ?_))
      refine brec ?_; intro c_ h6; (try rw [h6]); cases c_ <;> replace h6 := nm_ h6
      · (refine g0_ ?_; repeat ((first | refine n1_ fun b_ => ?_ | refine n2_ fun b_ => ?_ | refine Nat1.mk fun q_ hq_ => ?_ | refine em_ fun x_ hx_ => ?_ | refine Elem1.mk fun e_ he_ => ?_); refine g0_ ?_))
        refine nx_ (i + 1) ?_ ?_
        · refine ⟨by omega, fun n hn => ?_⟩
          rw [List.take_add_one, hx] at hn
          rcases List.mem_append.1 hn with hn | hn
          · exact hz0 n hn
          · obtain rfl : n = x := by simpa using hn
            omega
        · ((try dsimp only); (try simp only [List.length_drop, List.length_take, List.length_append, List.length_cons, List.length_nil, List.length_map] at *); omega)
      · (refine g0_ ?_; repeat ((first | refine n1_ fun b_ => ?_ | refine n2_ fun b_ => ?_ | refine Nat1.mk fun q_ hq_ => ?_ | refine em_ fun x_ hx_ => ?_ | refine Elem1.mk fun e_ he_ => ?_); refine g0_ ?_))
        have hno : ¬ PSt.ok _ := fun ho => by have := (hk.1 ho).2.2.2.2.2.2 x (List.mem_of_getElem? hx); omega
        refine .of_eq (congrArg PV.bool ?_)
        rw [← hR]
        exact (decide_eq_false hno).symm
  by_cases h4 : a = 4
  · subst h4
    have hk : PSt.ok ⟨4, m, mi, p, t, l, la⟩ ↔ (t.length ≤ 64 ∧ ∀ c ∈ t, 32 ≤ c.toNat) ∧ l = [] ∧ p = [] ∧ m = 0 ∧ mi = [] := by simp [PSt.ok, and_assoc]
    refine Pure.of (acalls_of_vc (drawOk W) Tryd.func18 rfl (by decide) (by decide) rfl ?_)
    (refine g0_ ?_; repeat ((first | refine n1_ fun b_ => ?_ | refine n2_ fun b_ => ?_ | refine Nat1.mk fun q_ hq_ => ?_ | refine em_ fun x_ hx_ => ?_ | refine Elem1.mk fun e_ he_ => ?_); refine g0_ ?_))
    (refine g1_ ?_; repeat ((first | refine n1_ fun b_ => ?_ | refine n2_ fun b_ => ?_ | refine Nat1.mk fun q_ hq_ => ?_ | refine em_ fun x_ hx_ => ?_ | refine Elem1.mk fun e_ he_ => ?_); refine g1_ ?_))
    first
    | (refine ht.use ?_)
    | skip
    (refine g0_ ?_; repeat ((first | refine n1_ fun b_ => ?_ | refine n2_ fun b_ => ?_ | refine Nat1.mk fun q_ hq_ => ?_ | refine em_ fun x_ hx_ => ?_ | refine Elem1.mk fun e_ he_ => ?_); refine g0_ ?_))
    refine' loopI (α := Nat) (fun i => [(161, .int .i64 i)]) [(1, _), (3, _), (160, _)] (fun i => [⟨b_, .row 7 [.agg [.int .i64 4, .int .u8 m.toNat, .str mi, .sl 1 (p.map (PV.int .i64)), .str t, .str l, .bool la]] 0⟩]) (fun i => i ≤ t.length ∧ ∀ c ∈ t.take i, 32 ≤ c.toNat) (fun i => t.length - i) 0 ?_ ?_
    · exact ⟨Nat.zero_le _, by simp⟩
    rintro i ⟨hi, hz0⟩
    (refine g0_ ?_; repeat ((first | refine n1_ fun b_ => ?_ | refine n2_ fun b_ => ?_ | refine Nat1.mk fun q_ hq_ => ?_ | refine em_ fun x_ hx_ => ?_ | refine Elem1.mk fun e_ he_ => ?_); refine g0_ ?_))
    refine brec ?_; intro c_ h; (try rw [h]); cases c_ <;> replace h := nm_ h
    · have hil : i = t.length := by omega
      rw [hil, List.take_length] at hz0
      (refine g0_ ?_; repeat ((first | refine n1_ fun b_ => ?_ | refine n2_ fun b_ => ?_ | refine Nat1.mk fun q_ hq_ => ?_ | refine em_ fun x_ hx_ => ?_ | refine Elem1.mk fun e_ he_ => ?_); refine g0_ ?_))
      refine brec ?_; intro c_ h5; (try rw [h5]); cases c_ <;> replace h5 := nm_ h5
      · (refine g0_ ?_; repeat ((first | refine n1_ fun b_ => ?_ | refine n2_ fun b_ => ?_ | refine Nat1.mk fun q_ hq_ => ?_ | refine em_ fun x_ hx_ => ?_ | refine Elem1.mk fun e_ he_ => ?_); refine g0_ ?_))
        have hno : ¬ PSt.ok _ := fun ho => h5 (by have := (hk.1 ho).1.1; omega)
        refine .of_eq (congrArg PV.bool ?_)
        rw [← hR]
        exact (decide_eq_false hno).symm
      · (refine g0_ ?_; repeat ((first | refine n1_ fun b_ => ?_ | refine n2_ fun b_ => ?_ | refine Nat1.mk fun q_ hq_ => ?_ | refine em_ fun x_ hx_ => ?_ | refine Elem1.mk fun e_ he_ => ?_); refine g0_ ?_))
        refine .inl ?_
        (refine g0_ ?_; repeat ((first | refine n1_ fun b_ => ?_ | refine n2_ fun b_ => ?_ | refine Nat1.mk fun q_ hq_ => ?_ | refine em_ fun x_ hx_ => ?_ | refine Elem1.mk fun e_ he_ => ?_); refine g0_ ?_))
        refine (hz [ZIt.u m, ZIt.s mi, ZIt.n p, ZIt.s l] (by simp)).use ?_; (refine g0_ ?_; repeat ((first | refine n1_ fun b_ => ?_ | refine n2_ fun b_ => ?_ | refine Nat1.mk fun q_ hq_ => ?_ | refine em_ fun x_ hx_ => ?_ | refine Elem1.mk fun e_ he_ => ?_); refine g0_ ?_))
        (refine g0_ ?_; repeat ((first | refine n1_ fun b_ => ?_ | refine n2_ fun b_ => ?_ | refine Nat1.mk fun q_ hq_ => ?_ | refine em_ fun x_ hx_ => ?_ | refine Elem1.mk fun e_ he_ => ?_); refine g0_ ?_))
        refine .of_eq (congrArg PV.bool ?_)
        rw [← hR, Bool.eq_iff_iff, decide_eq_true_iff, hk]
        have h8 : t.length ≤ 64 := by omega
        constructor
        · intro hh
          simp [ZIt.z, m0_iff] at hh
          exact ⟨⟨h8, hz0⟩, hh.2.2.2, hh.2.2.1, hh.1, hh.2.1⟩
        · rintro ⟨-, e1, e2, e3, e4⟩
          simp [ZIt.z, e1, e2, e3, e4]
    · have hil : i < t.length := by omega
      obtain ⟨x, hx⟩ : ∃ x, t[i]? = some x := ⟨t[i], List.getElem?_eq_getElem hil⟩
      (refine g0_ ?_; repeat ((first | refine n1_ fun b_ => ?_ | refine n2_ fun b_ => ?_ | refine Nat1.mk fun q_ hq_ => ?_ | refine em_ fun x_ hx_ => ?_ | refine Elem1.mk fun e_ he_ => ?_); refine g0_ ?_))
      rw [hx] at he_
      obtain rfl := Option.some.inj he_
      refine brec ?_; intro c_ h6; (try rw [h6]); cases c_ <;> replace h6 := nm_ h6
      · (refine g0_ ?_; repeat ((first | refine n1_ fun b_ => ?_ | refine n2_ fun b_ => ?_ | refine Nat1.mk fun q_ hq_ => ?_ | refine em_ fun x_ hx_ => ?_ | refine Elem1.mk fun e_ he_ => ?_); refine g0_ ?_))
        refine nx_ (i + 1) ?_ ?_
        · refine ⟨by omega, fun n hn => ?_⟩
          rw [List.take_add_one, hx] at hn
          rcases List.mem_append.1 hn with hn | hn
          · exact hz0 n hn
          · obtain rfl : n = x := by simpa using hn
            omega
        · ((try dsimp only); (try simp only [List.length_drop, List.length_take, List.length_append, List.length_cons, List.length_nil, List.length_map] at *); omega)
      · (refine g0_ ?_; repeat ((first | refine n1_ fun b_ => ?_ | refine n2_ fun b_ => ?_ | refine Nat1.mk fun q_ hq_ => ?_ | refine em_ fun x_ hx_ => ?_ | refine Elem1.mk fun e_ he_ => ?_); refine g0_ ?_))
        have hno : ¬ PSt.ok _ := fun ho => by have := (hk.1 ho).1.2 x (List.mem_of_getElem? hx); omega
        refine .of_eq (congrArg PV.bool ?_)
        rw [← hR]
        exact (decide_eq_false hno).symm
  · have hk : ¬ PSt.ok ⟨a, m, mi, p, t, l, la⟩ := by simp [PSt.ok]; omega
    refine Pure.of (acalls_of_vc (drawOk W) Tryd.func18 rfl (by decide) (by decide) rfl ?_)
    (refine g0_ ?_; repeat ((first | refine n1_ fun b_ => ?_ | refine n2_ fun b_ => ?_ | refine Nat1.mk fun q_ hq_ => ?_ | refine em_ fun x_ hx_ => ?_ | refine Elem1.mk fun e_ he_ => ?_); refine g0_ ?_))
    (refine g1_ ?_; repeat ((first | refine n1_ fun b_ => ?_ | refine n2_ fun b_ => ?_ | refine Nat1.mk fun q_ hq_ => ?_ | refine em_ fun x_ hx_ => ?_ | refine Elem1.mk fun e_ he_ => ?_); refine g1_ ?_))
    first
    | (refine ht.use ?_)
    | skip
    (refine g0_ ?_; repeat ((first | refine n1_ fun b_ => ?_ | refine n2_ fun b_ => ?_ | refine Nat1.mk fun q_ hq_ => ?_ | refine em_ fun x_ hx_ => ?_ | refine Elem1.mk fun e_ he_ => ?_); refine g0_ ?_))
    (refine g1_ ?_; repeat ((first | refine n1_ fun b_ => ?_ | refine n2_ fun b_ => ?_ | refine Nat1.mk fun q_ hq_ => ?_ | refine em_ fun x_ hx_ => ?_ | refine Elem1.mk fun e_ he_ => ?_); refine g1_ ?_))
    rw [decide_eq_false hk] at hR
    exact .of_eq (by rw [← hR])
theorem checkState_ok (hT : Tabs W) (s : PSt) (hs : s.fair) : Pure Tryd.prog W 18 [encSt s] (.bool (decide s.ok)) := by
  by_cases hm : s.middle.length ≤ 2
  · exact checkState_a W hT s hs hm
  · exact checkState_b W hT s hs hm
end Go.Eng.YtkcldifniomfoaaDoor
end
