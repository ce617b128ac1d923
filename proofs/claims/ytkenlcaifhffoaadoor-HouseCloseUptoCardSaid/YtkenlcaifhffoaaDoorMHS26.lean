/- Texts put together: Hs28. -/
import Derived.Test.YtkenlcaifhffoaaDoorMHS25
import Derived.Test.YtkenlcaifhffoaaDoorMHS6
/- Houses: the document's CloseOf, where the window goes (b_). -/
section
namespace Go.Eng.YtkenlcaifhffoaaDoor
open Go Go.Eng Go.Proofs
variable (W : World)
set_option linter.unusedSimpArgs false
set_option maxRecDepth 100000
set_option linter.unusedVariables false
set_option maxHeartbeats 8000000
theorem permF3 {A B C D E : Blk} {Z : Mem} : (A :: B :: C :: D :: E :: Z).Perm (A :: C :: D :: ([B, E] ++ Z)) := List.Perm.cons A (List.perm_middle (l₁ := [C, D]) (l₂ := E :: Z)).symm
theorem ses_eq (n : List UInt8) (b : Nat) {ws : List Win} {a c a' c' : Int} (h1 : a = a') (h2 : c = c') : PV.agg [.str n, .rsl b 8 0 ws.length, .int .i64 a, .int .i64 c] = sesR (b, ⟨n, ws, a', c'⟩) := by
  subst h1 h2
  rfl
theorem closeOf_win (h : Hs) (hok : h.ok) (h0 : chkH h = 0) (pane : Int) (i k : Nat) (w : Win) (hps : posS h.ses pane = some (i, k)) (hwa : winAt h.ses i k = some w) (hmany : ¬ 1 < (panesT w.s).length) (s0 : Ses) (hs0 : h.ses[i]? = some s0) (hsn : 1 < s0.wins.length) : Pure Tryd.prog W 10 [encHs h, .int .i64 pane] (.tup [encHs ⟨h.ses.set i (lvS s0 k), h.views, h.next⟩, .int .i64 0]) := by
  have hwh := whereR_ok W h hok h0 pane
  unfold whereI at hwh
  rw [hps] at hwh
  dsimp only at hwh
  obtain ⟨s, w', hs, hw, hp, hb1, hb2⟩ := posS_some hps
  obtain rfl : w' = w := by
    unfold winAt at hwa
    rw [hs] at hwa
    exact Option.some.inj (hw.symm.trans hwa)
  have hcl := cloneIn_ok W h hok h0 i s hs
  have hwr := (right_win h0 s (List.mem_of_getElem? hs)).win w' (List.mem_of_getElem? hw)
  have hsm := right_win h0 s (List.mem_of_getElem? hs)
  have hsk := hok.se s (List.mem_of_getElem? hs)
  have hck := checkR_ok W w'.s (hsk.win w' (List.mem_of_getElem? hw)).s
  have hv0 : (chkT w'.s 0 []).1 = 0 := by rw [← chk_eqL]; exact hwr.vis
  rw [chk_panesL hv0, hv0] at hck
  have hl12 := (vis_right hwr.vis).2.2.1
  have hcn := cnt_right w'.s 0 (vis_right hwr.vis).1
  have hln := panesV_len (panesT w'.s)
  obtain rfl : s0 = s := Option.some.inj (hs0.symm.trans hs)
  rw [encSpl_eta] at hck
  rw [encHs_mk] at hwh hcl ⊢
  refine Pure.of (acalls_of_vc (drawOk W) Tryd.func10 rfl (by decide) (by decide) rfl ?_)
  (refine gs_ ?_; repeat (refine n1_ fun b_ => ?_; refine gs_ ?_))
  refine (hwh).use ?_; refine g0_ ?_
  refine gds_ ?_
  refine ACalls.giveE hcl ?_
  rintro ⟨⟨bs, L, o, vs, nx⟩, x0, R, E⟩ ⟨hT2, ho, hx, hs5, hR, hE⟩
  dsimp only at hT2 ho hx hR hE hs5
  subst hs5
  have hil := lt_of_at hx
  have hkl := lt_of_at hw
  have hEl : E.length = x0.2.wins.length := by rw [hE]; exact List.length_map _
  have hRl : R.length = L.length := by rw [hR]; exact List.length_map _
  have hbS : R[0 + i]? = some (.agg [.str x0.2.name, .rsl x0.1 8 0 x0.2.wins.length, .int .i64 x0.2.act, .int .i64 x0.2.bef]) := by
    rw [Nat.zero_add, hR, List.getElem?_map, hx]
    rfl
  have hbW : E[0 + k]? = some (encWin w') := by
    rw [Nat.zero_add, hE, List.getElem?_map, hw]
    rfl
  unfold encWin at hbW
  dsimp only
  have hcw : E.all cellsB = true := List.all_eq_true.2 fun v hv => by
    rw [hE] at hv
    obtain ⟨w, -, rfl⟩ := List.mem_map.1 hv
    rfl
  have hdl := delWnD_ok W x0.1 k (k + 1) rfl E hcw (by omega)
  rw [show ((k + 1 : Nat) : Int) = (k : Int) + 1 from rfl, hEl] at hdl
  have e1 : E.take k ++ E.drop (k + 1) = (lvS x0.2 k).wins.map encWin := by
    rw [hE, lvS, List.eraseIdx_eq_take_drop_succ, List.map_append, List.map_take, List.map_drop]
  have e2 : x0.2.wins.length - 1 = (lvS x0.2 k).wins.length := by
    rw [lvS, List.length_eraseIdx, if_pos hkl]
  rw [e1, e2] at hdl
  have hso := hsm.act
  have hsb := hsm.bef
  have hs6 := hsm.many.2
  have hlv : lvS x0.2 k = ⟨x0.2.name, (lvS x0.2 k).wins, lvD (lvA x0.2.act x0.2.bef k) k, lvD (lvB x0.2.act x0.2.bef k) k⟩ := rfl
  generalize (lvS x0.2 k).wins = NW at *
  unfold lvD lvB lvA at hlv
  by_cases c1 : x0.2.act = k
  · by_cases c2 : x0.2.bef = k
    · by_cases c3 : k = 0
      · rcases o with _ | bo
        · refine gs_ ?_
          refine gs_ ?_
          refine (hck).use ?_; refine g0_ ?_
          refine gds_ ?_
          refine gds_ ?_
          refine gs_ ?_
          refine gds_ ?_
          refine gs_ ?_
          refine gds_ ?_
          refine ACalls.lend1 hdl lk_ ?_
          rintro _ -
          refine gs_ ?_
          refine gs_ ?_
          simp only [List.set_set, Nat.zero_add]
          subst hT2
          rw [hlv]
          refine .tup _ _ rfl fun j hj => ?_
          match j, hj with
          | 0, _ =>
            refine HsDone.frz fun b => done_ses3 (T := [_, _]) hx ?_ rfl ho permF3
            rw [List.map_set, ← hR]
            exact congrArg (fun v => R.set i v) (ses_eq _ _ (by (repeat' split) <;> omega) (by (repeat' split) <;> omega))
          | 1, _ => exact .refl _
        · refine gs_ ?_
          refine gs_ ?_
          refine (hck).use ?_; refine g0_ ?_
          refine gds_ ?_
          refine gds_ ?_
          refine gs_ ?_
          refine gds_ ?_
          refine gs_ ?_
          refine gds_ ?_
          refine ACalls.lend1 hdl lk_ ?_
          rintro _ -
          refine gs_ ?_
          refine gs_ ?_
          simp only [List.set_set, Nat.zero_add]
          subst hT2
          rw [hlv]
          refine .tup _ _ rfl fun j hj => ?_
          match j, hj with
          | 0, _ =>
            refine HsDone.frz fun b => done_ses3 (T := [_, _]) hx ?_ rfl ho permF3
            rw [List.map_set, ← hR]
            exact congrArg (fun v => R.set i v) (ses_eq _ _ (by (repeat' split) <;> omega) (by (repeat' split) <;> omega))
          | 1, _ => exact .refl _
      · rcases o with _ | bo
        · refine gs_ ?_
          refine gs_ ?_
          refine (hck).use ?_; refine g0_ ?_
          refine gds_ ?_
          refine gds_ ?_
          refine gs_ ?_
          refine gds_ ?_
          refine gs_ ?_
          refine gds_ ?_
          refine ACalls.lend1 hdl lk_ ?_
          rintro _ -
          refine gs_ ?_
          refine gs_ ?_
          simp only [List.set_set, Nat.zero_add]
          subst hT2
          rw [hlv]
          refine .tup _ _ rfl fun j hj => ?_
          match j, hj with
          | 0, _ =>
            refine HsDone.frz fun b => done_ses3 (T := [_, _]) hx ?_ rfl ho permF3
            rw [List.map_set, ← hR]
            exact congrArg (fun v => R.set i v) (ses_eq _ _ (by (repeat' split) <;> omega) (by (repeat' split) <;> omega))
          | 1, _ => exact .refl _
        · refine gs_ ?_
          refine gs_ ?_
          refine (hck).use ?_; refine g0_ ?_
          refine gds_ ?_
          refine gds_ ?_
          refine gs_ ?_
          refine gds_ ?_
          refine gs_ ?_
          refine gds_ ?_
          refine ACalls.lend1 hdl lk_ ?_
          rintro _ -
          refine gs_ ?_
          refine gs_ ?_
          simp only [List.set_set, Nat.zero_add]
          subst hT2
          rw [hlv]
          refine .tup _ _ rfl fun j hj => ?_
          match j, hj with
          | 0, _ =>
            refine HsDone.frz fun b => done_ses3 (T := [_, _]) hx ?_ rfl ho permF3
            rw [List.map_set, ← hR]
            exact congrArg (fun v => R.set i v) (ses_eq _ _ (by (repeat' split) <;> omega) (by (repeat' split) <;> omega))
          | 1, _ => exact .refl _
    · by_cases c3 : (k : Int) < x0.2.bef
      · rcases o with _ | bo
        · refine gs_ ?_
          refine gs_ ?_
          refine (hck).use ?_; refine g0_ ?_
          refine gds_ ?_
          refine gds_ ?_
          refine gs_ ?_
          refine gds_ ?_
          refine gs_ ?_
          refine gds_ ?_
          refine ACalls.lend1 hdl lk_ ?_
          rintro _ -
          refine gs_ ?_
          refine gs_ ?_
          simp only [List.set_set, Nat.zero_add]
          subst hT2
          rw [hlv]
          refine .tup _ _ rfl fun j hj => ?_
          match j, hj with
          | 0, _ =>
            refine HsDone.frz fun b => done_ses3 (T := [_, _]) hx ?_ rfl ho permF3
            rw [List.map_set, ← hR]
            exact congrArg (fun v => R.set i v) (ses_eq _ _ (by (repeat' split) <;> omega) (by (repeat' split) <;> omega))
          | 1, _ => exact .refl _
        · refine gs_ ?_
          refine gs_ ?_
          refine (hck).use ?_; refine g0_ ?_
          refine gds_ ?_
          refine gds_ ?_
          refine gs_ ?_
          refine gds_ ?_
          refine gs_ ?_
          refine gds_ ?_
          refine ACalls.lend1 hdl lk_ ?_
          rintro _ -
          refine gs_ ?_
          refine gs_ ?_
          simp only [List.set_set, Nat.zero_add]
          subst hT2
          rw [hlv]
          refine .tup _ _ rfl fun j hj => ?_
          match j, hj with
          | 0, _ =>
            refine HsDone.frz fun b => done_ses3 (T := [_, _]) hx ?_ rfl ho permF3
            rw [List.map_set, ← hR]
            exact congrArg (fun v => R.set i v) (ses_eq _ _ (by (repeat' split) <;> omega) (by (repeat' split) <;> omega))
          | 1, _ => exact .refl _
      · rcases o with _ | bo
        · refine gs_ ?_
          refine gs_ ?_
          refine (hck).use ?_; refine g0_ ?_
          refine gds_ ?_
          refine gds_ ?_
          refine gs_ ?_
          refine gds_ ?_
          refine gs_ ?_
          refine gds_ ?_
          refine ACalls.lend1 hdl lk_ ?_
          rintro _ -
          refine gs_ ?_
          refine gs_ ?_
          simp only [List.set_set, Nat.zero_add]
          subst hT2
          rw [hlv]
          refine .tup _ _ rfl fun j hj => ?_
          match j, hj with
          | 0, _ =>
            refine HsDone.frz fun b => done_ses3 (T := [_, _]) hx ?_ rfl ho permF3
            rw [List.map_set, ← hR]
            exact congrArg (fun v => R.set i v) (ses_eq _ _ (by (repeat' split) <;> omega) (by (repeat' split) <;> omega))
          | 1, _ => exact .refl _
        · refine gs_ ?_
          refine gs_ ?_
          refine (hck).use ?_; refine g0_ ?_
          refine gds_ ?_
          refine gds_ ?_
          refine gs_ ?_
          refine gds_ ?_
          refine gs_ ?_
          refine gds_ ?_
          refine ACalls.lend1 hdl lk_ ?_
          rintro _ -
          refine gs_ ?_
          refine gs_ ?_
          simp only [List.set_set, Nat.zero_add]
          subst hT2
          rw [hlv]
          refine .tup _ _ rfl fun j hj => ?_
          match j, hj with
          | 0, _ =>
            refine HsDone.frz fun b => done_ses3 (T := [_, _]) hx ?_ rfl ho permF3
            rw [List.map_set, ← hR]
            exact congrArg (fun v => R.set i v) (ses_eq _ _ (by (repeat' split) <;> omega) (by (repeat' split) <;> omega))
          | 1, _ => exact .refl _
  · by_cases c2 : x0.2.bef = k
    · by_cases c3 : (k : Int) < x0.2.act
      · rcases o with _ | bo
        · refine gs_ ?_
          refine gs_ ?_
          refine (hck).use ?_; refine g0_ ?_
          refine gds_ ?_
          refine gds_ ?_
          refine gs_ ?_
          refine gds_ ?_
          refine gs_ ?_
          refine gds_ ?_
          refine ACalls.lend1 hdl lk_ ?_
          rintro _ -
          refine gs_ ?_
          refine gs_ ?_
          simp only [List.set_set, Nat.zero_add]
          subst hT2
          rw [hlv]
          refine .tup _ _ rfl fun j hj => ?_
          match j, hj with
          | 0, _ =>
            refine HsDone.frz fun b => done_ses3 (T := [_, _]) hx ?_ rfl ho permF3
            rw [List.map_set, ← hR]
            exact congrArg (fun v => R.set i v) (ses_eq _ _ (by (repeat' split) <;> omega) (by (repeat' split) <;> omega))
          | 1, _ => exact .refl _
        · refine gs_ ?_
          refine gs_ ?_
          refine (hck).use ?_; refine g0_ ?_
          refine gds_ ?_
          refine gds_ ?_
          refine gs_ ?_
          refine gds_ ?_
          refine gs_ ?_
          refine gds_ ?_
          refine ACalls.lend1 hdl lk_ ?_
          rintro _ -
          refine gs_ ?_
          refine gs_ ?_
          simp only [List.set_set, Nat.zero_add]
          subst hT2
          rw [hlv]
          refine .tup _ _ rfl fun j hj => ?_
          match j, hj with
          | 0, _ =>
            refine HsDone.frz fun b => done_ses3 (T := [_, _]) hx ?_ rfl ho permF3
            rw [List.map_set, ← hR]
            exact congrArg (fun v => R.set i v) (ses_eq _ _ (by (repeat' split) <;> omega) (by (repeat' split) <;> omega))
          | 1, _ => exact .refl _
      · rcases o with _ | bo
        · refine gs_ ?_
          refine gs_ ?_
          refine (hck).use ?_; refine g0_ ?_
          refine gds_ ?_
          refine gds_ ?_
          refine gs_ ?_
          refine gds_ ?_
          refine gs_ ?_
          refine gds_ ?_
          refine ACalls.lend1 hdl lk_ ?_
          rintro _ -
          refine gs_ ?_
          refine gs_ ?_
          simp only [List.set_set, Nat.zero_add]
          subst hT2
          rw [hlv]
          refine .tup _ _ rfl fun j hj => ?_
          match j, hj with
          | 0, _ =>
            refine HsDone.frz fun b => done_ses3 (T := [_, _]) hx ?_ rfl ho permF3
            rw [List.map_set, ← hR]
            exact congrArg (fun v => R.set i v) (ses_eq _ _ (by (repeat' split) <;> omega) (by (repeat' split) <;> omega))
          | 1, _ => exact .refl _
        · refine gs_ ?_
          refine gs_ ?_
          refine (hck).use ?_; refine g0_ ?_
          refine gds_ ?_
          refine gds_ ?_
          refine gs_ ?_
          refine gds_ ?_
          refine gs_ ?_
          refine gds_ ?_
          refine ACalls.lend1 hdl lk_ ?_
          rintro _ -
          refine gs_ ?_
          refine gs_ ?_
          simp only [List.set_set, Nat.zero_add]
          subst hT2
          rw [hlv]
          refine .tup _ _ rfl fun j hj => ?_
          match j, hj with
          | 0, _ =>
            refine HsDone.frz fun b => done_ses3 (T := [_, _]) hx ?_ rfl ho permF3
            rw [List.map_set, ← hR]
            exact congrArg (fun v => R.set i v) (ses_eq _ _ (by (repeat' split) <;> omega) (by (repeat' split) <;> omega))
          | 1, _ => exact .refl _
    · by_cases c3 : (k : Int) < x0.2.act
      · by_cases c4 : (k : Int) < x0.2.bef
        · rcases o with _ | bo
          · refine gs_ ?_
            refine gs_ ?_
            refine (hck).use ?_; refine g0_ ?_
            refine gds_ ?_
            refine gds_ ?_
            refine gs_ ?_
            refine gds_ ?_
            refine gs_ ?_
            refine gds_ ?_
            refine ACalls.lend1 hdl lk_ ?_
            rintro _ -
            refine gs_ ?_
            refine gs_ ?_
            simp only [List.set_set, Nat.zero_add]
            subst hT2
            rw [hlv]
            refine .tup _ _ rfl fun j hj => ?_
            match j, hj with
            | 0, _ =>
              refine HsDone.frz fun b => done_ses3 (T := [_, _]) hx ?_ rfl ho permF3
              rw [List.map_set, ← hR]
              exact congrArg (fun v => R.set i v) (ses_eq _ _ (by (repeat' split) <;> omega) (by (repeat' split) <;> omega))
            | 1, _ => exact .refl _
          · refine gs_ ?_
            refine gs_ ?_
            refine (hck).use ?_; refine g0_ ?_
            refine gds_ ?_
            refine gds_ ?_
            refine gs_ ?_
            refine gds_ ?_
            refine gs_ ?_
            refine gds_ ?_
            refine ACalls.lend1 hdl lk_ ?_
            rintro _ -
            refine gs_ ?_
            refine gs_ ?_
            simp only [List.set_set, Nat.zero_add]
            subst hT2
            rw [hlv]
            refine .tup _ _ rfl fun j hj => ?_
            match j, hj with
            | 0, _ =>
              refine HsDone.frz fun b => done_ses3 (T := [_, _]) hx ?_ rfl ho permF3
              rw [List.map_set, ← hR]
              exact congrArg (fun v => R.set i v) (ses_eq _ _ (by (repeat' split) <;> omega) (by (repeat' split) <;> omega))
            | 1, _ => exact .refl _
        · rcases o with _ | bo
          · refine gs_ ?_
            refine gs_ ?_
            refine (hck).use ?_; refine g0_ ?_
            refine gds_ ?_
            refine gds_ ?_
            refine gs_ ?_
            refine gds_ ?_
            refine gs_ ?_
            refine gds_ ?_
            refine ACalls.lend1 hdl lk_ ?_
            rintro _ -
            refine gs_ ?_
            refine gs_ ?_
            simp only [List.set_set, Nat.zero_add]
            subst hT2
            rw [hlv]
            refine .tup _ _ rfl fun j hj => ?_
            match j, hj with
            | 0, _ =>
              refine HsDone.frz fun b => done_ses3 (T := [_, _]) hx ?_ rfl ho permF3
              rw [List.map_set, ← hR]
              exact congrArg (fun v => R.set i v) (ses_eq _ _ (by (repeat' split) <;> omega) (by (repeat' split) <;> omega))
            | 1, _ => exact .refl _
          · refine gs_ ?_
            refine gs_ ?_
            refine (hck).use ?_; refine g0_ ?_
            refine gds_ ?_
            refine gds_ ?_
            refine gs_ ?_
            refine gds_ ?_
            refine gs_ ?_
            refine gds_ ?_
            refine ACalls.lend1 hdl lk_ ?_
            rintro _ -
            refine gs_ ?_
            refine gs_ ?_
            simp only [List.set_set, Nat.zero_add]
            subst hT2
            rw [hlv]
            refine .tup _ _ rfl fun j hj => ?_
            match j, hj with
            | 0, _ =>
              refine HsDone.frz fun b => done_ses3 (T := [_, _]) hx ?_ rfl ho permF3
              rw [List.map_set, ← hR]
              exact congrArg (fun v => R.set i v) (ses_eq _ _ (by (repeat' split) <;> omega) (by (repeat' split) <;> omega))
            | 1, _ => exact .refl _
      · by_cases c4 : (k : Int) < x0.2.bef
        · rcases o with _ | bo
          · refine gs_ ?_
            refine gs_ ?_
            refine (hck).use ?_; refine g0_ ?_
            refine gds_ ?_
            refine gds_ ?_
            refine gs_ ?_
            refine gds_ ?_
            refine gs_ ?_
            refine gds_ ?_
            refine ACalls.lend1 hdl lk_ ?_
            rintro _ -
            refine gs_ ?_
            refine gs_ ?_
            simp only [List.set_set, Nat.zero_add]
            subst hT2
            rw [hlv]
            refine .tup _ _ rfl fun j hj => ?_
            match j, hj with
            | 0, _ =>
              refine HsDone.frz fun b => done_ses3 (T := [_, _]) hx ?_ rfl ho permF3
              rw [List.map_set, ← hR]
              exact congrArg (fun v => R.set i v) (ses_eq _ _ (by (repeat' split) <;> omega) (by (repeat' split) <;> omega))
            | 1, _ => exact .refl _
          · refine gs_ ?_
            refine gs_ ?_
            refine (hck).use ?_; refine g0_ ?_
            refine gds_ ?_
            refine gds_ ?_
            refine gs_ ?_
            refine gds_ ?_
            refine gs_ ?_
            refine gds_ ?_
            refine ACalls.lend1 hdl lk_ ?_
            rintro _ -
            refine gs_ ?_
            refine gs_ ?_
            simp only [List.set_set, Nat.zero_add]
            subst hT2
            rw [hlv]
            refine .tup _ _ rfl fun j hj => ?_
            match j, hj with
            | 0, _ =>
              refine HsDone.frz fun b => done_ses3 (T := [_, _]) hx ?_ rfl ho permF3
              rw [List.map_set, ← hR]
              exact congrArg (fun v => R.set i v) (ses_eq _ _ (by (repeat' split) <;> omega) (by (repeat' split) <;> omega))
            | 1, _ => exact .refl _
        · rcases o with _ | bo
          · refine gs_ ?_
            refine gs_ ?_
            refine (hck).use ?_; refine g0_ ?_
            refine gds_ ?_
            refine gds_ ?_
            refine gs_ ?_
            refine gds_ ?_
            refine gs_ ?_
            refine gds_ ?_
            refine ACalls.lend1 hdl lk_ ?_
            rintro _ -
            refine gs_ ?_
            refine gs_ ?_
            simp only [List.set_set, Nat.zero_add]
            subst hT2
            rw [hlv]
            refine .tup _ _ rfl fun j hj => ?_
            match j, hj with
            | 0, _ =>
              refine HsDone.frz fun b => done_ses3 (T := [_, _]) hx ?_ rfl ho permF3
              rw [List.map_set, ← hR]
              exact congrArg (fun v => R.set i v) (ses_eq _ _ (by (repeat' split) <;> omega) (by (repeat' split) <;> omega))
            | 1, _ => exact .refl _
          · refine gs_ ?_
            refine gs_ ?_
            refine (hck).use ?_; refine g0_ ?_
            refine gds_ ?_
            refine gds_ ?_
            refine gs_ ?_
            refine gds_ ?_
            refine gs_ ?_
            refine gds_ ?_
            refine ACalls.lend1 hdl lk_ ?_
            rintro _ -
            refine gs_ ?_
            refine gs_ ?_
            simp only [List.set_set, Nat.zero_add]
            subst hT2
            rw [hlv]
            refine .tup _ _ rfl fun j hj => ?_
            match j, hj with
            | 0, _ =>
              refine HsDone.frz fun b => done_ses3 (T := [_, _]) hx ?_ rfl ho permF3
              rw [List.map_set, ← hR]
              exact congrArg (fun v => R.set i v) (ses_eq _ _ (by (repeat' split) <;> omega) (by (repeat' split) <;> omega))
            | 1, _ => exact .refl _
end Go.Eng.YtkenlcaifhffoaaDoor
end
