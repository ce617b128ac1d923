/- Texts put together: Hs10. -/
import Derived.Test.YtmodblkagimhlaaGreatDoorMHS14
/- The law HouseWindow (b_ x_ q_ e_). -/
section
namespace Go.Eng.YtmodblkagimhlaaGreatDoor
open Go Go.Eng Go.Proofs
variable (W : World)
set_option linter.unusedSimpArgs false
set_option maxRecDepth 100000
set_option linter.unusedVariables false
set_option maxHeartbeats 8000000
theorem winN_okW (n : List UInt8) (p : Int) (hn : n.length ≤ 1048576) (hp : i64ok p) : (winN n p).ok :=
  ⟨hn, spl_ok.2 ⟨by decide, hp, by decide, by decide, fun k hk => by cases hk⟩, hp, by (show i64ok 0); decide⟩
theorem winY_ok {h : Hs} (hok : h.ok) (h0 : chkH h = 0) (s : Int) (n : List UInt8) (hn : n.length ≤ 1048576) : (winY h s n).ok := by
  obtain ⟨h1, h2, h3, h4, -, -⟩ := right_ses h0
  have hsr := right_win h0
  have hp : i64ok h.next := ⟨by omega, by omega⟩
  unfold winY
  split
  · exact hok
  · rename_i x hx
    have hxm := List.mem_of_getElem? hx
    have ho := hok.se x hxm
    have hw6 := (hsr x hxm).many.2
    refine ⟨?_, ?_, hok.views, hok.view, ⟨by (show _ ≤ h.next + 1); omega, by (show h.next + 1 ≤ _); omega⟩⟩
    · show (h.ses.set _ _).length ≤ _
      rw [List.length_set]; omega
    · intro y hy
      rcases List.mem_or_eq_of_mem_set hy with hy | rfl
      · exact hok.se y hy
      · refine ⟨ho.name, ?_, ?_, ⟨by (show _ ≤ ((x.wins.length : Nat) : Int)); omega, by (show ((x.wins.length : Nat) : Int) ≤ _); omega⟩, ho.act⟩
        · show (x.wins ++ [_]).length ≤ _
          rw [List.length_append, List.length_singleton]; omega
        · intro w hw
          rcases List.mem_append.1 (show w ∈ x.wins ++ [_] from hw) with hw | hw
          · exact ho.win w hw
          · exact (List.mem_singleton.1 hw) ▸ winN_okW n h.next hn hp
theorem showY_ok {h : Hs} (hok : h.ok) (s k : Int) (hk : i64ok k) : (showY h s k).ok := by
  unfold showY
  split
  · exact hok
  · rename_i x hx
    have ho := hok.se x (List.mem_of_getElem? hx)
    split
    · exact hok
    · refine ⟨?_, ?_, hok.views, hok.view, hok.next⟩
      · show (h.ses.set _ _).length ≤ _
        rw [List.length_set]; exact hok.ses
      · intro y hy
        rcases List.mem_or_eq_of_mem_set hy with hy | rfl
        · exact hok.se y hy
        · exact ⟨ho.name, ho.wins, ho.win, hk, ho.act⟩
theorem hwin2P_ok (hT : Tabs W) (h : Hs) (hok : h.ok) (s : Int) (n : List UInt8) (hns : n.length ≤ 1048576) :
    Pure Tryz.prog W 23 [encHs h, .ip (.int .i64 s) 0, .ip (.str n) 0] (.tup [encHs (chgR h (winE h s n) (winY h s n)).1, .int .i64 (chgR h (winE h s n) (winY h s n)).2]) := by
  have hs := hwinP_ok W hT h hok s n hns
  generalize chgR h (winE h s n) (winY h s n) = R at *
  obtain ⟨X, E⟩ := R
  dsimp only at *
  rw [encHs_mk h, encHs_mk X] at *
  refine Pure.of (acalls_of_vc (drawOk W) Tryz.func23 rfl (by decide) (by decide) rfl ?_)
  (refine g0_ ?_; repeat (refine n1_ fun b_ => ?_; refine g0_ ?_))
  refine (hs).use ?_; refine g0_ ?_
  exact .refl _
theorem hshow4P_ok (hT : Tabs W) (h : Hs) (hok : h.ok) (s k : Int) :
    Pure Tryz.prog W 28 [encHs h, .ip (.int .i64 s) 0, .ip (.int .i64 k) 0] (.tup [encHs (chgR h (showE h s k) (showY h s k)).1, .int .i64 (chgR h (showE h s k) (showY h s k)).2]) := by
  have hs := hshowP_ok W hT h hok s k
  generalize chgR h (showE h s k) (showY h s k) = R at *
  obtain ⟨X, E⟩ := R
  dsimp only at *
  rw [encHs_mk h, encHs_mk X] at *
  refine Pure.of (acalls_of_vc (drawOk W) Tryz.func28 rfl (by decide) (by decide) rfl ?_)
  (refine g0_ ?_; repeat (refine n1_ fun b_ => ?_; refine g0_ ?_))
  refine (hs).use ?_; refine g0_ ?_
  exact .refl _
theorem houseWindow_ok (hT : Tabs W) (h : Hs) (hok : h.ok) (s : Int) (hs : i64ok s) (n : List UInt8) (hns : n.length ≤ 1048576) (k : Int) (hk : i64ok k) : Pure Tryz.prog W 4 [encHs h, .int .i64 s, .str n, .int .i64 k] (.bool true) := by
  have hh1 := houses_ok W hT h hok 23 25 [.ip (.int .i64 s) 0, .ip (.str n) 0] [.ip (.fn 22 [.ip (.int .i64 s) 0]) 0, .ip (.str n) 0, .ip (.int .i64 s) 0] (winY h s n) (winE h s n)
    (fun h0 _ => winY_ok hok h0 s n hns) (hwin2P_ok W hT h hok s n hns) (fun h0 => hwin3_ok W hT h h0 s n hns)
  have hh2 := houses_ok W hT h hok 28 30 [.ip (.int .i64 s) 0, .ip (.int .i64 k) 0] [.ip (.fn 22 [.ip (.int .i64 s) 0]) 0, .ip (.int .i64 k) 0, .ip (.int .i64 s) 0] (showY h s k) (showE h s k)
    (fun h0 _ => showY_ok hok s k hk) (hshow4P_ok W hT h hok s k) (fun h0 => hshow5_ok W h h0 s k)
  rw [encHs_mk h] at *
  refine Pure.of (acalls_of_vc (drawOk W) Tryz.func4 rfl (by decide) (by decide) rfl ?_)
  (refine g0_ ?_; repeat (refine n1_ fun b_ => ?_; refine g0_ ?_))
  rename_i b4 b5 b6 b7
  refine hh1.borrowS (args' := [.agg [.sl 4 (h.ses.map encSes), .sl 3 (h.views.map encVw), .int .i64 h.next], .fn 23 [.ip (.int .i64 s) 0, .ip (.str n) 0], .fn 25 [.ip (.fn 22 [.ip (.int .i64 s) 0]) 0, .ip (.str n) 0, .ip (.int .i64 s) 0]]) rfl rfl (fun j hj => ?_) ?_
  · match j, hj with
    | 0, _ => exact .of (.refl _)
    | 1, _ => exact .fn _ rfl fun j hj => (by match j, hj with | 0, _ => exact .of (.bref _ _ _ _ _ _ (by repeat (first | exact .here _ _ _ | apply Look.there))) | 1, _ => exact .of (.bref _ _ _ _ _ _ (by repeat (first | exact .here _ _ _ | apply Look.there))))
    | 2, _ =>
      refine .fn _ rfl fun j hj => ?_
      match j, hj with
      | 0, _ =>
        refine FrzS.clo (cs := [.bref b5 0]) (fz := 0) ?_ rfl fun j hj => ?_
        · exact ⟨_, by repeat (first | exact .here _ _ _ | apply Look.there)⟩
        · match j, hj with
          | 0, _ => exact .of (.bref _ _ _ _ _ _ (by repeat (first | exact .here _ _ _ | apply Look.there)))
      | 1, _ => exact .of (.bref _ _ _ _ _ _ (by repeat (first | exact .here _ _ _ | apply Look.there)))
      | 2, _ => exact .of (.bref _ _ _ _ _ _ (by repeat (first | exact .here _ _ _ | apply Look.there)))
  refine g0_ ?_
  refine g1_ ?_
  refine hh2.borrowS (args' := [.agg [.sl 4 (h.ses.map encSes), .sl 3 (h.views.map encVw), .int .i64 h.next], .fn 28 [.ip (.int .i64 s) 0, .ip (.int .i64 k) 0], .fn 30 [.ip (.fn 22 [.ip (.int .i64 s) 0]) 0, .ip (.int .i64 k) 0, .ip (.int .i64 s) 0]]) rfl rfl (fun j hj => ?_) ?_
  · match j, hj with
    | 0, _ => exact .of (.refl _)
    | 1, _ => exact .fn _ rfl fun j hj => (by match j, hj with | 0, _ => exact .of (.bref _ _ _ _ _ _ (by repeat (first | exact .here _ _ _ | apply Look.there))) | 1, _ => exact .of (.bref _ _ _ _ _ _ (by repeat (first | exact .here _ _ _ | apply Look.there))))
    | 2, _ =>
      refine .fn _ rfl fun j hj => ?_
      match j, hj with
      | 0, _ =>
        refine FrzS.clo (cs := [.bref b5 0]) (fz := 0) ?_ rfl fun j hj => ?_
        · exact ⟨_, by repeat (first | exact .here _ _ _ | apply Look.there)⟩
        · match j, hj with
          | 0, _ => exact .of (.bref _ _ _ _ _ _ (by repeat (first | exact .here _ _ _ | apply Look.there)))
      | 1, _ => exact .of (.bref _ _ _ _ _ _ (by repeat (first | exact .here _ _ _ | apply Look.there)))
      | 2, _ => exact .of (.bref _ _ _ _ _ _ (by repeat (first | exact .here _ _ _ | apply Look.there)))
  refine g0_ ?_
  refine g1_ ?_
  exact .of_eq (by simp)
end Go.Eng.YtmodblkagimhlaaGreatDoor
end
