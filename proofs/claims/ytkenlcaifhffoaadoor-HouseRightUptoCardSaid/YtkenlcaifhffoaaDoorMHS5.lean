/- Texts put together: HseS, HseT, HseU. -/
import Derived.Test.YtkenlcaifhffoaaDoorMHS4
/- Houses: a new session, its parts (b_ x_ q_ e_). -/
section
namespace Go.Eng.YtkenlcaifhffoaaDoor
open Go Go.Eng Go.Proofs
variable (W : World)
set_option linter.unusedSimpArgs false
set_option maxRecDepth 100000
set_option linter.unusedVariables false
set_option maxHeartbeats 8000000
theorem sesEq_ok (x : Ses) (n : List UInt8) : Pure Tryd.prog W 87 [encSes x, .ip (.str n) 0] (.bool (decide (x.name = n))) := by
  rw [show encSes x = .agg [.str x.name, .sl 8 (x.wins.map encWin), .int .i64 x.act, .int .i64 x.bef] from rfl]
  refine Pure.of (acalls_of_vc (drawOk W) Tryd.func87 rfl (by decide) (by decide) rfl ?_)
  (refine g0_ ?_; repeat (refine n1_ fun b_ => ?_; refine g0_ ?_))
  exact .refl _
theorem idxSes_ok (l : List Ses) (n : List UInt8) (hl : (l.length : Int) ≤ 9223372036854775807) : Pure Tryd.prog W 110 [.sl 4 (l.map encSes), .fn 87 [.ip (.str n) 0]] (.int .i64 (if n ∈ l.map Ses.name then ((l.map Ses.name).idxOf n : Nat) else -1)) := by
  have hlm : (l.map encSes).length = l.length := List.length_map _
  refine Pure.of (acalls_of_vc (drawOk W) Tryd.func110 rfl (by decide) (by decide) rfl ?_)
  refine g0_ ?_
  refine' loopI (α := Nat) (fun i => [(8, .int .i64 i)]) [(0, _), (1, _), (7, _)] (fun i => []) (fun i => i ≤ l.length ∧ n ∉ (l.take i).map Ses.name) (fun i => l.length - i) 0 ?_ ?_
  · exact ⟨Nat.zero_le _, by simp⟩
  rintro i ⟨hi, hx⟩
  by_cases hie : i = l.length
  · subst hie
    rw [List.take_length] at hx
    refine g0_ ?_
    refine g1_ ?_
    exact .of_eq (by rw [if_neg hx])
  · have hlt : i < l.length := by omega
    obtain ⟨x, hxi⟩ : ∃ x, l[i]? = some x := ⟨_, List.getElem?_eq_getElem hlt⟩
    have he := sesEq_ok W x n
    rw [show encSes x = .agg [.str x.name, .sl 8 (x.wins.map encWin), .int .i64 x.act, .int .i64 x.bef] from rfl] at he
    by_cases h2 : x.name = n
    · rw [decide_eq_true h2] at he
      refine g0_ ?_
      refine g1_ ?_
      refine (he).use ?_; refine g0_ ?_
      refine g1_ ?_
      refine .of_eq ?_
      have hm : n ∈ l.map Ses.name := List.mem_map.2 ⟨x, List.mem_of_getElem? hxi, h2⟩
      have hio : (l.map Ses.name).idxOf n = i := by
        have e : l.map Ses.name = (l.take i).map Ses.name ++ (l.drop i).map Ses.name := by rw [← List.map_append, List.take_append_drop]
        rw [e, List.idxOf_append, if_neg hx, drop_cons_of hxi, List.map_cons, h2, List.idxOf_cons_self, List.length_map, List.length_take]
        omega
      rw [if_pos hm, hio]
    · rw [decide_eq_false h2] at he
      refine g0_ ?_
      refine g1_ ?_
      refine (he).use ?_; refine g0_ ?_
      refine g1_ ?_
      refine nx_ (i + 1) ?_ ?_
      · exact ⟨hlt, by rw [take_snoc_of hxi, List.map_append, List.mem_append, not_or]; exact ⟨hx, by simpa using fun h => h2 h.symm⟩⟩
      · omega
theorem hasSes_ok (l : List Ses) (n : List UInt8) (hl : (l.length : Int) ≤ 9223372036854775807) : Pure Tryd.prog W 86 [.sl 4 (l.map encSes), .fn 87 [.ip (.str n) 0]] (.bool (decide (n ∈ l.map Ses.name))) := by
  have h := idxSes_ok W l n hl
  refine Pure.of (acalls_of_vc (drawOk W) Tryd.func86 rfl (by decide) (by decide) rfl ?_)
  refine g0_ ?_
  refine (h).use ?_; refine g0_ ?_
  refine .of_eq (congrArg PV.bool ?_)
  split
  · next h => simp [h]
  · next h => simp [h]
theorem freshH_ok (b : Nat) (sv vv : PV) (next : Int) (hn : 1 ≤ next ∧ next < 9999) : ACalls Tryd.prog W 48 [.bref b 0] [⟨b, .row 3 [.agg [sv, vv, .int .i64 next]] 0⟩] (Gives (fun _ : Unit => .tup [.int .i64 next, .int .i64 0]) (fun _ => [⟨b, .row 3 [.agg [sv, vv, .int .i64 (next + 1)]] 0⟩]) (fun _ => True)) := by
  refine acalls_of_vc (drawOk W) Tryd.func48 rfl (by decide) (by decide) rfl ?_
  refine g0_ ?_
  refine g1_ ?_
  exact ⟨(), trivial, by rw [Int.add_sub_cancel], wk_⟩
theorem freshH_full (b : Nat) (sv vv : PV) : ACalls Tryd.prog W 48 [.bref b 0] [⟨b, .row 3 [.agg [sv, vv, .int .i64 9999]] 0⟩] (Gives (fun _ : Unit => .tup [.int .i64 0, .int .i64 10]) (fun _ => [⟨b, .row 3 [.agg [sv, vv, .int .i64 9999]] 0⟩]) (fun _ => True)) := by
  refine acalls_of_vc (drawOk W) Tryd.func48 rfl (by decide) (by decide) rfl ?_
  refine g0_ ?_
  refine g1_ ?_
  exact ⟨(), trivial, rfl, wk_⟩
def winN (n : List UInt8) (p : Int) : Win := ⟨n, .mk 0 p 1 [], p, 0, false⟩
theorem windowP_ok (n : List UInt8) (p : Int) : Pure Tryd.prog W 52 [.str n, .int .i64 p] (encWin (winN n p)) := by
  refine Pure.of (acalls_of_vc (drawOk W) Tryd.func52 rfl (by decide) (by decide) rfl ?_)
  (refine g0_ ?_; repeat (refine n1_ fun b_ => ?_; refine g0_ ?_))
  refine .agg _ _ rfl fun j hj => ?_
  match j, hj with
  | 0, _ => exact .refl _
  | 1, _ => exact .refl _
  | 2, _ => exact .refl _
  | 3, _ => exact .refl _
  | 4, _ => exact .nils 4
  | 5, _ => exact .refl _
  | 6, _ => exact .refl _
  | 7, _ => exact .refl _
end Go.Eng.YtkenlcaifhffoaaDoor
end

/- Houses: a new session (b_ x_ q_ e_). -/
section
namespace Go.Eng.YtkenlcaifhffoaaDoor
open Go Go.Eng Go.Proofs
variable (W : World)
set_option linter.unusedSimpArgs false
set_option maxRecDepth 100000
set_option linter.unusedVariables false
set_option maxHeartbeats 8000000
def FrzL (σ : Mem) (es es' : List PV) : Prop := es.length = es'.length ∧ ∀ j, j < es.length → Frz σ (es.getD j .dead) (es'.getD j .dead)
theorem FrzL.one {σ : Mem} {x y : PV} (h : Frz σ x y) : FrzL σ [x] [y] := ⟨rfl, fun j hj => by
  obtain rfl : j = 0 := by simpa using hj
  exact h⟩
theorem FrzL.app {σ : Mem} {a a' b b' : List PV} (h1 : FrzL σ a a') (h2 : FrzL σ b b') : FrzL σ (a ++ b) (a' ++ b') := by
  obtain ⟨e1, h1⟩ := h1
  obtain ⟨e2, h2⟩ := h2
  refine ⟨by rw [List.length_append, List.length_append, e1, e2], fun j hj => ?_⟩
  rw [List.length_append] at hj
  by_cases hja : j < a.length
  · have := h1 j hja
    rw [List.getD_eq_getElem?_getD, List.getD_eq_getElem?_getD] at this ⊢
    rw [List.getElem?_append_left hja, List.getElem?_append_left (by omega)]
    exact this
  · have := h2 (j - a.length) (by omega)
    rw [List.getD_eq_getElem?_getD, List.getD_eq_getElem?_getD] at this ⊢
    rw [List.getElem?_append_right (by omega), List.getElem?_append_right (by omega), ← e1]
    exact this
theorem FrzL.map {α : Type} {σ : Mem} {f g : α → PV} {l : List α} (h : ∀ x ∈ l, Frz σ (f x) (g x)) : FrzL σ (l.map f) (l.map g) := by
  refine ⟨by simp, fun j hj => ?_⟩
  have hjl : j < l.length := by simpa using hj
  have e : ∀ k : α → PV, (l.map k).getD j .dead = k l[j] := fun k => by rw [List.getD_eq_getElem?_getD, List.getElem?_map, List.getElem?_eq_getElem hjl]; rfl
  rw [e, e]
  exact h _ (List.getElem_mem hjl)
theorem FrzL.row {σ r : Mem} {es es' : List PV} {b sz n fz : Nat} (h : FrzL σ es es') (hl : Look σ b (.row sz es fz) r) (hn : n = es.length) : Frz σ (.rsl b sz 0 n) (.sl sz es') := by
  subst hn
  exact .rsl b sz 0 _ es es' fz r hl (by simp) h.1.symm fun j hj => by rw [Nat.zero_add]; exact h.2 j hj
theorem frz_ohS {σ : Mem} {x : OH} (h : wkMem σ x.M) : Frz σ (accV x.bs 4 (x.L.map sesV)) (.sl 4 (x.T.ses.map encSes)) :=
  frz_sess (fun hn => Look.of_wk h (List.mem_append_right _ (List.mem_append_left _ (mem_acc (by simpa using hn))))) fun p hp hn => Look.of_wk h (List.mem_append_right _ (List.mem_append_right _ (mem_famR hp hn)))
theorem frz_ohF {σ : Mem} {L : List (Nat × Ses)} (h : ∀ p ∈ L, p.2.wins ≠ [] → ∃ r, Look σ p.1 (.row 8 (p.2.wins.map encWin) 0) r) : FrzL σ (L.map sesV) ((L.map Prod.snd).map encSes) := by
  rw [List.map_map]
  exact .map fun p hp => frz_ses (h p hp)
def sesE (h : Hs) (n w : List UInt8) : Int := if nameB n = false ∨ nameB w = false then 1 else if n ∈ h.ses.map Ses.name then 7 else if h.ses.length = 4 then 10 else if h.next = 9999 then 10 else 0
def sesY (h : Hs) (n w : List UInt8) : Hs := ⟨h.ses ++ [⟨n, [winN w h.next], 0, 0⟩], h.views, h.next + 1⟩
theorem perm_two {A B C : Blk} {M : Mem} : (A :: (M ++ [B, C])).Perm (A :: B :: C :: M) := List.Perm.cons A (List.perm_append_comm (l₁ := M) (l₂ := [B, C]))
theorem hs_done {b : Nat} {Y : Hs} {σ ρ : Mem} {sv vv : PV} (hp : σ = ⟨b, .row 3 [.agg [sv, vv, .int .i64 Y.next]] 0⟩ :: ρ) (h1 : SlV sv) (h2 : SlV vv) (f1 : Frz ρ sv (.sl 4 (Y.ses.map encSes))) (f2 : Frz ρ vv (.sl 3 (Y.views.map encVw))) : HsDone b Y σ :=
  ⟨sv, vv, ρ, hp ▸ .refl _, h1, h2, f1, f2⟩
theorem session1_ok (hT : Tabs W) (h : Hs) (hok : h.ok) (h0 : chkH h = 0) (hl4 : h.ses.length ≤ 4) (hnx : 1 ≤ h.next ∧ h.next ≤ 9999) (n w : List UInt8) (hns : n.length ≤ 1048576) (hws : w.length ≤ 1048576) (b bn bw : Nat) (x : OH) (hx : x.T = h) (ho : x.o = none → x.views = []) :
    ACalls Tryd.prog W 85 [.bref b 0, .bref bn 0, .bref bw 0] (⟨b, .row 3 [x.V] 0⟩ :: (x.M ++ [⟨bn, .row 1 [.str n] 0⟩, ⟨bw, .row 1 [.str w] 0⟩])) fun v σ' => v = .int .i64 (sesE h n w) ∧ (sesE h n w = 0 → HsDone b (sesY h n w) σ') := by
  have hn := nameP_ok W hT n hns
  have hw := nameP_ok W hT w hws
  obtain ⟨bs, L, o, vs, nx⟩ := x
  subst hx
  have hct := hasSes_ok W (L.map Prod.snd) n (by rw [List.length_map]; simp only [OH.T, List.length_map] at hl4; omega)
  have hlL : L.length ≤ 4 := by simpa [OH.T] using hl4
  have hnx1 : 1 ≤ nx ∧ nx ≤ 9999 := hnx
  clear h0 hok hl4 hnx
  refine ACalls.perm ?_ perm_two
  unfold OH.V OH.M OH.T
  dsimp only at *
  rcases L with _ | ⟨l0, L⟩
  · rcases o with _ | bo
    · by_cases h1 : nameB n = false
      · rw [show sesE ⟨(([] : List (Nat × Ses))).map Prod.snd, vs, nx⟩ n w = 1 from if_pos (.inl h1)]
        rw [h1] at hn
        refine acalls_of_vc (DL_ok (by decide)) Tryd.func85 rfl (by decide) (by decide) rfl ?_
        refine g0_ ?_
        refine (hn).use ?_; refine g0_ ?_
        refine g1_ ?_
        exact ⟨rfl, fun h => by cases h⟩
      · have h1' : nameB n = true := by simpa using h1
        rw [h1'] at hn
        by_cases h2 : nameB w = false
        · rw [show sesE ⟨(([] : List (Nat × Ses))).map Prod.snd, vs, nx⟩ n w = 1 from if_pos (.inr h2)]
          rw [h2] at hw
          refine acalls_of_vc (DL_ok (by decide)) Tryd.func85 rfl (by decide) (by decide) rfl ?_
          refine g0_ ?_
          refine (hn).use ?_; refine g0_ ?_
          refine g1_ ?_
          refine (hw).use ?_; refine g0_ ?_
          refine g1_ ?_
          exact ⟨rfl, fun h => by cases h⟩
        · have h2' : nameB w = true := by simpa using h2
          rw [h2'] at hw
          have hE : sesE ⟨(([] : List (Nat × Ses))).map Prod.snd, vs, nx⟩ n w = _ := if_neg (fun h => h.elim h1 h2)
          dsimp only at hE
          by_cases h3 : n ∈ ((([] : List (Nat × Ses))).map Prod.snd).map Ses.name
          · rw [if_pos h3] at hE
            rw [decide_eq_true h3] at hct
            rw [hE]
            refine acalls_of_vc (DL_ok (by decide)) Tryd.func85 rfl (by decide) (by decide) rfl ?_
            refine g0_ ?_
            refine (hn).use ?_; refine g0_ ?_
            refine g1_ ?_
            refine (hw).use ?_; refine g0_ ?_
            refine g1_ ?_
            refine hct.borrow (args' := [.sl 4 ((((([] : List (Nat × Ses))).map Prod.snd).map encSes)), .fn 87 [.ip (.str n) 0]]) rfl rfl (fun j hj => ?_) ?_
            · match j, hj with
              | 0, _ => exact frz_ohS (x := ⟨bs, ([] : List (Nat × Ses)), none, vs, nx⟩) (by unfold OH.M; dsimp only; (try simp only [vwM, List.nil_append]); (first | exact ⟨_, .refl _⟩ | exact wkMem.rfl' | exact ⟨_, .swap _ _ _⟩ | (repeat (first | exact wkMem.nil _ | exact wkMem.rfl' | exact wk_snoc _ _ _ | exact wk_fam (by assumption) _ _ _ | exact wk_famN (by assumption) _ _ _ | (apply wkMem.cons; (case' hl => (repeat (first | exact .here _ _ _ | apply Look.there)))) | apply wkMem.skip))))
              | 1, _ => exact .fn _ _ _ rfl fun j hj => (by match j, hj with | 0, _ => exact .bref _ _ _ _ _ _ lk_)
            refine g1_ ?_
            exact ⟨rfl, fun h => by cases h⟩
          · rw [if_neg h3] at hE
            rw [decide_eq_false h3] at hct
            by_cases h4 : (([] : List (Nat × Ses))).length = 4
            · rw [if_pos (by rw [List.length_map]; exact h4)] at hE
              rw [hE]
              simp only [List.length_cons, List.length_nil] at h4
              exfalso
              omega
            · rw [if_neg (by rw [List.length_map]; exact h4)] at hE
              simp only [List.length_cons, List.length_nil] at h4
              by_cases h5 : nx = 9999
              · rw [if_pos h5] at hE
                subst h5
                rw [hE]
                refine acalls_of_vc (DL_ok (by decide)) Tryd.func85 rfl (by decide) (by decide) rfl ?_
                refine g0_ ?_
                refine (hn).use ?_; refine g0_ ?_
                refine g1_ ?_
                refine (hw).use ?_; refine g0_ ?_
                refine g1_ ?_
                refine hct.borrow (args' := [.sl 4 ((((([] : List (Nat × Ses))).map Prod.snd).map encSes)), .fn 87 [.ip (.str n) 0]]) rfl rfl (fun j hj => ?_) ?_
                · match j, hj with
                  | 0, _ => exact frz_ohS (x := ⟨bs, ([] : List (Nat × Ses)), none, vs, (9999 : Int)⟩) (by unfold OH.M; dsimp only; (try simp only [vwM, List.nil_append]); (first | exact ⟨_, .refl _⟩ | exact wkMem.rfl' | exact ⟨_, .swap _ _ _⟩ | (repeat (first | exact wkMem.nil _ | exact wkMem.rfl' | exact wk_snoc _ _ _ | exact wk_fam (by assumption) _ _ _ | exact wk_famN (by assumption) _ _ _ | (apply wkMem.cons; (case' hl => (repeat (first | exact .here _ _ _ | apply Look.there)))) | apply wkMem.skip))))
                  | 1, _ => exact .fn _ _ _ rfl fun j hj => (by match j, hj with | 0, _ => exact .bref _ _ _ _ _ _ lk_)
                refine g1_ ?_
                refine ACalls.lend1 (freshH_full W b _ _) lk_ ?_
                rintro _ -
                refine g0_ ?_
                refine g1_ ?_
                have hwn := windowP_ok W w 0
                rw [show encWin (winN w 0) = .agg [.str w, .int .i64 0, .int .i64 0, .int .i64 1, .sl 4 [], .int .i64 0, .int .i64 0, .bool false] from rfl] at hwn
                refine Draws10.chain ⟨16, [.new, .new, .new, .new, .new, .new, .new, .new, .new, .new, .new, .new, .turn, .skip, .skip, .skip], [(12, [.again, .keep, .keep, .keep, .keep, .keep, .keep, .keep, .keep, .keep, .keep, .keep, .keep, .new, .new, .turn]), (15, [.keep, .keep, .keep, .keep, .keep, .keep, .keep, .keep, .keep, .keep, .keep, .keep, .keep, .keep, .keep, .keep])], by decide +kernel, ?_⟩; refine g0_ ?_
                refine ⟨_, (hwn).quiet, ?_⟩; (refine g0_ ?_; repeat (refine n1_ fun b_ => ?_; refine g0_ ?_))
                exact ⟨rfl, fun h => by cases h⟩
              · rw [if_neg h5] at hE
                rw [hE]
                refine acalls_of_vc (DL_ok (by decide)) Tryd.func85 rfl (by decide) (by decide) rfl ?_
                refine g0_ ?_
                refine (hn).use ?_; refine g0_ ?_
                refine g1_ ?_
                refine (hw).use ?_; refine g0_ ?_
                refine g1_ ?_
                refine hct.borrow (args' := [.sl 4 ((((([] : List (Nat × Ses))).map Prod.snd).map encSes)), .fn 87 [.ip (.str n) 0]]) rfl rfl (fun j hj => ?_) ?_
                · match j, hj with
                  | 0, _ => exact frz_ohS (x := ⟨bs, ([] : List (Nat × Ses)), none, vs, nx⟩) (by unfold OH.M; dsimp only; (try simp only [vwM, List.nil_append]); (first | exact ⟨_, .refl _⟩ | exact wkMem.rfl' | exact ⟨_, .swap _ _ _⟩ | (repeat (first | exact wkMem.nil _ | exact wkMem.rfl' | exact wk_snoc _ _ _ | exact wk_fam (by assumption) _ _ _ | exact wk_famN (by assumption) _ _ _ | (apply wkMem.cons; (case' hl => (repeat (first | exact .here _ _ _ | apply Look.there)))) | apply wkMem.skip))))
                  | 1, _ => exact .fn _ _ _ rfl fun j hj => (by match j, hj with | 0, _ => exact .bref _ _ _ _ _ _ lk_)
                refine g1_ ?_
                refine ACalls.lend1 (freshH_ok W b _ _ nx (by omega)) lk_ ?_
                rintro _ -
                refine g0_ ?_
                refine g1_ ?_
                have hwn := windowP_ok W w nx
                rw [show encWin (winN w nx) = .agg [.str w, .int .i64 0, .int .i64 nx, .int .i64 1, .sl 4 [], .int .i64 nx, .int .i64 0, .bool false] from rfl] at hwn
                refine Draws10.chain ⟨16, [.new, .new, .new, .new, .new, .new, .new, .new, .new, .new, .new, .new, .turn, .skip, .skip, .skip], [(12, [.again, .keep, .keep, .keep, .keep, .keep, .keep, .keep, .keep, .keep, .keep, .keep, .keep, .new, .new, .turn]), (15, [.keep, .keep, .keep, .keep, .keep, .keep, .keep, .keep, .keep, .keep, .keep, .keep, .keep, .keep, .keep, .keep])], by decide +kernel, ?_⟩; refine g0_ ?_
                refine ⟨_, (hwn).quiet, ?_⟩; (refine g0_ ?_; repeat (refine n1_ fun b_ => ?_; refine g0_ ?_))
                refine ⟨rfl, fun _ => hs_done rfl ?_ ?_ ?_ ?_⟩
                · exact .inr (.inl ⟨_, _, _, _, rfl⟩)
                · first | exact .inl rfl | exact .inr (.inl ⟨_, _, _, _, rfl⟩)
                · exact FrzL.row (es' := [encSes ⟨n, [winN w nx], 0, 0⟩]) (.one (.of_eq rfl)) lk_ rfl
                · first | exact frz_vw (o := none) ho (fun b hb => by cases hb) | exact frz_row lk_ _ (by simp [sesY])
    · by_cases h1 : nameB n = false
      · rw [show sesE ⟨(([] : List (Nat × Ses))).map Prod.snd, vs, nx⟩ n w = 1 from if_pos (.inl h1)]
        rw [h1] at hn
        refine acalls_of_vc (DL_ok (by decide)) Tryd.func85 rfl (by decide) (by decide) rfl ?_
        refine g0_ ?_
        refine (hn).use ?_; refine g0_ ?_
        refine g1_ ?_
        exact ⟨rfl, fun h => by cases h⟩
      · have h1' : nameB n = true := by simpa using h1
        rw [h1'] at hn
        by_cases h2 : nameB w = false
        · rw [show sesE ⟨(([] : List (Nat × Ses))).map Prod.snd, vs, nx⟩ n w = 1 from if_pos (.inr h2)]
          rw [h2] at hw
          refine acalls_of_vc (DL_ok (by decide)) Tryd.func85 rfl (by decide) (by decide) rfl ?_
          refine g0_ ?_
          refine (hn).use ?_; refine g0_ ?_
          refine g1_ ?_
          refine (hw).use ?_; refine g0_ ?_
          refine g1_ ?_
          exact ⟨rfl, fun h => by cases h⟩
        · have h2' : nameB w = true := by simpa using h2
          rw [h2'] at hw
          have hE : sesE ⟨(([] : List (Nat × Ses))).map Prod.snd, vs, nx⟩ n w = _ := if_neg (fun h => h.elim h1 h2)
          dsimp only at hE
          by_cases h3 : n ∈ ((([] : List (Nat × Ses))).map Prod.snd).map Ses.name
          · rw [if_pos h3] at hE
            rw [decide_eq_true h3] at hct
            rw [hE]
            refine acalls_of_vc (DL_ok (by decide)) Tryd.func85 rfl (by decide) (by decide) rfl ?_
            refine g0_ ?_
            refine (hn).use ?_; refine g0_ ?_
            refine g1_ ?_
            refine (hw).use ?_; refine g0_ ?_
            refine g1_ ?_
            refine hct.borrow (args' := [.sl 4 ((((([] : List (Nat × Ses))).map Prod.snd).map encSes)), .fn 87 [.ip (.str n) 0]]) rfl rfl (fun j hj => ?_) ?_
            · match j, hj with
              | 0, _ => exact frz_ohS (x := ⟨bs, ([] : List (Nat × Ses)), (some bo), vs, nx⟩) (by unfold OH.M; dsimp only; (try simp only [vwM, List.nil_append]); (first | exact ⟨_, .refl _⟩ | exact wkMem.rfl' | exact ⟨_, .swap _ _ _⟩ | (repeat (first | exact wkMem.nil _ | exact wkMem.rfl' | exact wk_snoc _ _ _ | exact wk_fam (by assumption) _ _ _ | exact wk_famN (by assumption) _ _ _ | (apply wkMem.cons; (case' hl => (repeat (first | exact .here _ _ _ | apply Look.there)))) | apply wkMem.skip))))
              | 1, _ => exact .fn _ _ _ rfl fun j hj => (by match j, hj with | 0, _ => exact .bref _ _ _ _ _ _ lk_)
            refine g1_ ?_
            exact ⟨rfl, fun h => by cases h⟩
          · rw [if_neg h3] at hE
            rw [decide_eq_false h3] at hct
            by_cases h4 : (([] : List (Nat × Ses))).length = 4
            · rw [if_pos (by rw [List.length_map]; exact h4)] at hE
              rw [hE]
              simp only [List.length_cons, List.length_nil] at h4
              exfalso
              omega
            · rw [if_neg (by rw [List.length_map]; exact h4)] at hE
              simp only [List.length_cons, List.length_nil] at h4
              by_cases h5 : nx = 9999
              · rw [if_pos h5] at hE
                subst h5
                rw [hE]
                refine acalls_of_vc (DL_ok (by decide)) Tryd.func85 rfl (by decide) (by decide) rfl ?_
                refine g0_ ?_
                refine (hn).use ?_; refine g0_ ?_
                refine g1_ ?_
                refine (hw).use ?_; refine g0_ ?_
                refine g1_ ?_
                refine hct.borrow (args' := [.sl 4 ((((([] : List (Nat × Ses))).map Prod.snd).map encSes)), .fn 87 [.ip (.str n) 0]]) rfl rfl (fun j hj => ?_) ?_
                · match j, hj with
                  | 0, _ => exact frz_ohS (x := ⟨bs, ([] : List (Nat × Ses)), (some bo), vs, (9999 : Int)⟩) (by unfold OH.M; dsimp only; (try simp only [vwM, List.nil_append]); (first | exact ⟨_, .refl _⟩ | exact wkMem.rfl' | exact ⟨_, .swap _ _ _⟩ | (repeat (first | exact wkMem.nil _ | exact wkMem.rfl' | exact wk_snoc _ _ _ | exact wk_fam (by assumption) _ _ _ | exact wk_famN (by assumption) _ _ _ | (apply wkMem.cons; (case' hl => (repeat (first | exact .here _ _ _ | apply Look.there)))) | apply wkMem.skip))))
                  | 1, _ => exact .fn _ _ _ rfl fun j hj => (by match j, hj with | 0, _ => exact .bref _ _ _ _ _ _ lk_)
                refine g1_ ?_
                refine ACalls.lend1 (freshH_full W b _ _) lk_ ?_
                rintro _ -
                refine g0_ ?_
                refine g1_ ?_
                have hwn := windowP_ok W w 0
                rw [show encWin (winN w 0) = .agg [.str w, .int .i64 0, .int .i64 0, .int .i64 1, .sl 4 [], .int .i64 0, .int .i64 0, .bool false] from rfl] at hwn
                refine Draws10.chain ⟨16, [.new, .new, .new, .new, .new, .new, .new, .new, .new, .new, .new, .new, .turn, .skip, .skip, .skip], [(12, [.again, .keep, .keep, .keep, .keep, .keep, .keep, .keep, .keep, .keep, .keep, .keep, .keep, .new, .new, .turn]), (15, [.keep, .keep, .keep, .keep, .keep, .keep, .keep, .keep, .keep, .keep, .keep, .keep, .keep, .keep, .keep, .keep])], by decide +kernel, ?_⟩; refine g0_ ?_
                refine ⟨_, (hwn).quiet, ?_⟩; (refine g0_ ?_; repeat (refine n1_ fun b_ => ?_; refine g0_ ?_))
                exact ⟨rfl, fun h => by cases h⟩
              · rw [if_neg h5] at hE
                rw [hE]
                refine acalls_of_vc (DL_ok (by decide)) Tryd.func85 rfl (by decide) (by decide) rfl ?_
                refine g0_ ?_
                refine (hn).use ?_; refine g0_ ?_
                refine g1_ ?_
                refine (hw).use ?_; refine g0_ ?_
                refine g1_ ?_
                refine hct.borrow (args' := [.sl 4 ((((([] : List (Nat × Ses))).map Prod.snd).map encSes)), .fn 87 [.ip (.str n) 0]]) rfl rfl (fun j hj => ?_) ?_
                · match j, hj with
                  | 0, _ => exact frz_ohS (x := ⟨bs, ([] : List (Nat × Ses)), (some bo), vs, nx⟩) (by unfold OH.M; dsimp only; (try simp only [vwM, List.nil_append]); (first | exact ⟨_, .refl _⟩ | exact wkMem.rfl' | exact ⟨_, .swap _ _ _⟩ | (repeat (first | exact wkMem.nil _ | exact wkMem.rfl' | exact wk_snoc _ _ _ | exact wk_fam (by assumption) _ _ _ | exact wk_famN (by assumption) _ _ _ | (apply wkMem.cons; (case' hl => (repeat (first | exact .here _ _ _ | apply Look.there)))) | apply wkMem.skip))))
                  | 1, _ => exact .fn _ _ _ rfl fun j hj => (by match j, hj with | 0, _ => exact .bref _ _ _ _ _ _ lk_)
                refine g1_ ?_
                refine ACalls.lend1 (freshH_ok W b _ _ nx (by omega)) lk_ ?_
                rintro _ -
                refine g0_ ?_
                refine g1_ ?_
                have hwn := windowP_ok W w nx
                rw [show encWin (winN w nx) = .agg [.str w, .int .i64 0, .int .i64 nx, .int .i64 1, .sl 4 [], .int .i64 nx, .int .i64 0, .bool false] from rfl] at hwn
                refine Draws10.chain ⟨16, [.new, .new, .new, .new, .new, .new, .new, .new, .new, .new, .new, .new, .turn, .skip, .skip, .skip], [(12, [.again, .keep, .keep, .keep, .keep, .keep, .keep, .keep, .keep, .keep, .keep, .keep, .keep, .new, .new, .turn]), (15, [.keep, .keep, .keep, .keep, .keep, .keep, .keep, .keep, .keep, .keep, .keep, .keep, .keep, .keep, .keep, .keep])], by decide +kernel, ?_⟩; refine g0_ ?_
                refine ⟨_, (hwn).quiet, ?_⟩; (refine g0_ ?_; repeat (refine n1_ fun b_ => ?_; refine g0_ ?_))
                refine ⟨rfl, fun _ => hs_done rfl ?_ ?_ ?_ ?_⟩
                · exact .inr (.inl ⟨_, _, _, _, rfl⟩)
                · first | exact .inl rfl | exact .inr (.inl ⟨_, _, _, _, rfl⟩)
                · exact FrzL.row (es' := [encSes ⟨n, [winN w nx], 0, 0⟩]) (.one (.of_eq rfl)) lk_ rfl
                · first | exact frz_vw (o := none) ho (fun b hb => by cases hb) | exact frz_row lk_ _ (by simp [sesY])
  · have hLm : (List.map sesV L).length = L.length := List.length_map _
    have hlL2 : L.length ≤ 3 := by simpa using hlL
    rcases o with _ | bo
    · by_cases h1 : nameB n = false
      · rw [show sesE ⟨((l0 :: L)).map Prod.snd, vs, nx⟩ n w = 1 from if_pos (.inl h1)]
        rw [h1] at hn
        refine acalls_of_vc (DL_ok (by decide)) Tryd.func85 rfl (by decide) (by decide) rfl ?_
        refine g0_ ?_
        refine (hn).use ?_; refine g0_ ?_
        refine g1_ ?_
        exact ⟨rfl, fun h => by cases h⟩
      · have h1' : nameB n = true := by simpa using h1
        rw [h1'] at hn
        by_cases h2 : nameB w = false
        · rw [show sesE ⟨((l0 :: L)).map Prod.snd, vs, nx⟩ n w = 1 from if_pos (.inr h2)]
          rw [h2] at hw
          refine acalls_of_vc (DL_ok (by decide)) Tryd.func85 rfl (by decide) (by decide) rfl ?_
          refine g0_ ?_
          refine (hn).use ?_; refine g0_ ?_
          refine g1_ ?_
          refine (hw).use ?_; refine g0_ ?_
          refine g1_ ?_
          exact ⟨rfl, fun h => by cases h⟩
        · have h2' : nameB w = true := by simpa using h2
          rw [h2'] at hw
          have hE : sesE ⟨((l0 :: L)).map Prod.snd, vs, nx⟩ n w = _ := if_neg (fun h => h.elim h1 h2)
          dsimp only at hE
          by_cases h3 : n ∈ (((l0 :: L)).map Prod.snd).map Ses.name
          · rw [if_pos h3] at hE
            rw [decide_eq_true h3] at hct
            rw [hE]
            refine acalls_of_vc (DL_ok (by decide)) Tryd.func85 rfl (by decide) (by decide) rfl ?_
            refine g0_ ?_
            refine (hn).use ?_; refine g0_ ?_
            refine g1_ ?_
            refine (hw).use ?_; refine g0_ ?_
            refine g1_ ?_
            refine hct.borrow (args' := [.sl 4 (((((l0 :: L)).map Prod.snd).map encSes)), .fn 87 [.ip (.str n) 0]]) rfl rfl (fun j hj => ?_) ?_
            · match j, hj with
              | 0, _ => exact frz_ohS (x := ⟨bs, (l0 :: L), none, vs, nx⟩) (by unfold OH.M; dsimp only; (try simp only [vwM, List.nil_append]); (first | exact ⟨_, .refl _⟩ | exact wkMem.rfl' | exact ⟨_, .swap _ _ _⟩ | (repeat (first | exact wkMem.nil _ | exact wkMem.rfl' | exact wk_snoc _ _ _ | exact wk_fam (by assumption) _ _ _ | exact wk_famN (by assumption) _ _ _ | (apply wkMem.cons; (case' hl => (repeat (first | exact .here _ _ _ | apply Look.there)))) | apply wkMem.skip))))
              | 1, _ => exact .fn _ _ _ rfl fun j hj => (by match j, hj with | 0, _ => exact .bref _ _ _ _ _ _ lk_)
            refine g1_ ?_
            exact ⟨rfl, fun h => by cases h⟩
          · rw [if_neg h3] at hE
            rw [decide_eq_false h3] at hct
            by_cases h4 : ((l0 :: L)).length = 4
            · rw [if_pos (by rw [List.length_map]; exact h4)] at hE
              rw [hE]
              simp only [List.length_cons, List.length_nil] at h4
              refine acalls_of_vc (DL_ok (by decide)) Tryd.func85 rfl (by decide) (by decide) rfl ?_
              refine g0_ ?_
              refine (hn).use ?_; refine g0_ ?_
              refine g1_ ?_
              refine (hw).use ?_; refine g0_ ?_
              refine g1_ ?_
              refine hct.borrow (args' := [.sl 4 (((((l0 :: L)).map Prod.snd).map encSes)), .fn 87 [.ip (.str n) 0]]) rfl rfl (fun j hj => ?_) ?_
              · match j, hj with
                | 0, _ => exact frz_ohS (x := ⟨bs, (l0 :: L), none, vs, nx⟩) (by unfold OH.M; dsimp only; (try simp only [vwM, List.nil_append]); (first | exact ⟨_, .refl _⟩ | exact wkMem.rfl' | exact ⟨_, .swap _ _ _⟩ | (repeat (first | exact wkMem.nil _ | exact wkMem.rfl' | exact wk_snoc _ _ _ | exact wk_fam (by assumption) _ _ _ | exact wk_famN (by assumption) _ _ _ | (apply wkMem.cons; (case' hl => (repeat (first | exact .here _ _ _ | apply Look.there)))) | apply wkMem.skip))))
                | 1, _ => exact .fn _ _ _ rfl fun j hj => (by match j, hj with | 0, _ => exact .bref _ _ _ _ _ _ lk_)
              refine g1_ ?_
              exact ⟨rfl, fun h => by cases h⟩
            · rw [if_neg (by rw [List.length_map]; exact h4)] at hE
              simp only [List.length_cons, List.length_nil] at h4
              by_cases h5 : nx = 9999
              · rw [if_pos h5] at hE
                subst h5
                rw [hE]
                refine acalls_of_vc (DL_ok (by decide)) Tryd.func85 rfl (by decide) (by decide) rfl ?_
                refine g0_ ?_
                refine (hn).use ?_; refine g0_ ?_
                refine g1_ ?_
                refine (hw).use ?_; refine g0_ ?_
                refine g1_ ?_
                refine hct.borrow (args' := [.sl 4 (((((l0 :: L)).map Prod.snd).map encSes)), .fn 87 [.ip (.str n) 0]]) rfl rfl (fun j hj => ?_) ?_
                · match j, hj with
                  | 0, _ => exact frz_ohS (x := ⟨bs, (l0 :: L), none, vs, (9999 : Int)⟩) (by unfold OH.M; dsimp only; (try simp only [vwM, List.nil_append]); (first | exact ⟨_, .refl _⟩ | exact wkMem.rfl' | exact ⟨_, .swap _ _ _⟩ | (repeat (first | exact wkMem.nil _ | exact wkMem.rfl' | exact wk_snoc _ _ _ | exact wk_fam (by assumption) _ _ _ | exact wk_famN (by assumption) _ _ _ | (apply wkMem.cons; (case' hl => (repeat (first | exact .here _ _ _ | apply Look.there)))) | apply wkMem.skip))))
                  | 1, _ => exact .fn _ _ _ rfl fun j hj => (by match j, hj with | 0, _ => exact .bref _ _ _ _ _ _ lk_)
                refine g1_ ?_
                refine ACalls.lend1 (freshH_full W b _ _) lk_ ?_
                rintro _ -
                refine g0_ ?_
                refine g1_ ?_
                have hwn := windowP_ok W w 0
                rw [show encWin (winN w 0) = .agg [.str w, .int .i64 0, .int .i64 0, .int .i64 1, .sl 4 [], .int .i64 0, .int .i64 0, .bool false] from rfl] at hwn
                refine Draws10.chain ⟨16, [.new, .new, .new, .new, .new, .new, .new, .new, .new, .new, .new, .new, .turn, .skip, .skip, .skip], [(12, [.again, .keep, .keep, .keep, .keep, .keep, .keep, .keep, .keep, .keep, .keep, .keep, .keep, .new, .new, .turn]), (15, [.keep, .keep, .keep, .keep, .keep, .keep, .keep, .keep, .keep, .keep, .keep, .keep, .keep, .keep, .keep, .keep])], by decide +kernel, ?_⟩; refine g0_ ?_
                refine ⟨_, (hwn).quiet, ?_⟩; (refine g0_ ?_; repeat (refine n2_ fun b_ => ?_; refine g0_ ?_))
                exact ⟨rfl, fun h => by cases h⟩
              · rw [if_neg h5] at hE
                rw [hE]
                refine acalls_of_vc (DL_ok (by decide)) Tryd.func85 rfl (by decide) (by decide) rfl ?_
                refine g0_ ?_
                refine (hn).use ?_; refine g0_ ?_
                refine g1_ ?_
                refine (hw).use ?_; refine g0_ ?_
                refine g1_ ?_
                refine hct.borrow (args' := [.sl 4 (((((l0 :: L)).map Prod.snd).map encSes)), .fn 87 [.ip (.str n) 0]]) rfl rfl (fun j hj => ?_) ?_
                · match j, hj with
                  | 0, _ => exact frz_ohS (x := ⟨bs, (l0 :: L), none, vs, nx⟩) (by unfold OH.M; dsimp only; (try simp only [vwM, List.nil_append]); (first | exact ⟨_, .refl _⟩ | exact wkMem.rfl' | exact ⟨_, .swap _ _ _⟩ | (repeat (first | exact wkMem.nil _ | exact wkMem.rfl' | exact wk_snoc _ _ _ | exact wk_fam (by assumption) _ _ _ | exact wk_famN (by assumption) _ _ _ | (apply wkMem.cons; (case' hl => (repeat (first | exact .here _ _ _ | apply Look.there)))) | apply wkMem.skip))))
                  | 1, _ => exact .fn _ _ _ rfl fun j hj => (by match j, hj with | 0, _ => exact .bref _ _ _ _ _ _ lk_)
                refine g1_ ?_
                refine ACalls.lend1 (freshH_ok W b _ _ nx (by omega)) lk_ ?_
                rintro _ -
                refine g0_ ?_
                refine g1_ ?_
                have hwn := windowP_ok W w nx
                rw [show encWin (winN w nx) = .agg [.str w, .int .i64 0, .int .i64 nx, .int .i64 1, .sl 4 [], .int .i64 nx, .int .i64 0, .bool false] from rfl] at hwn
                refine Draws10.chain ⟨16, [.new, .new, .new, .new, .new, .new, .new, .new, .new, .new, .new, .new, .turn, .skip, .skip, .skip], [(12, [.again, .keep, .keep, .keep, .keep, .keep, .keep, .keep, .keep, .keep, .keep, .keep, .keep, .new, .new, .turn]), (15, [.keep, .keep, .keep, .keep, .keep, .keep, .keep, .keep, .keep, .keep, .keep, .keep, .keep, .keep, .keep, .keep])], by decide +kernel, ?_⟩; refine g0_ ?_
                refine ⟨_, (hwn).quiet, ?_⟩; (refine g0_ ?_; repeat (refine n2_ fun b_ => ?_; refine g0_ ?_))
                refine ⟨rfl, fun _ => hs_done rfl ?_ ?_ ?_ ?_⟩
                · exact .inr (.inl ⟨_, _, _, _, rfl⟩)
                · first | exact .inl rfl | exact .inr (.inl ⟨_, _, _, _, rfl⟩)
                · have hfl : ∀ {ρ : Mem}, wkMem ρ (famR (l0 :: L)) → FrzL ρ ((sesV l0 :: List.map sesV L) ++ [.agg [.str n, .sl 8 [encWin (winN w nx)], .int .i64 0, .int .i64 0]]) ((((l0 :: L).map Prod.snd) ++ [(⟨n, [winN w nx], 0, 0⟩ : Ses)]).map encSes) := fun hw => by
                    rw [List.map_append]
                    exact (frz_ohF (L := l0 :: L) fun p hp hn => Look.of_wk hw (mem_famR hp hn)).app (.one (.of_eq rfl))
                  refine FrzL.row (hfl ?_) (b := b_) (fz := 0) lk_ (by simp)
                  (first | exact ⟨_, .refl _⟩ | exact wkMem.rfl' | exact ⟨_, .swap _ _ _⟩ | (repeat (first | exact wkMem.nil _ | exact wkMem.rfl' | exact wk_snoc _ _ _ | exact wk_fam (by assumption) _ _ _ | exact wk_famN (by assumption) _ _ _ | (apply wkMem.cons; (case' hl => (repeat (first | exact .here _ _ _ | apply Look.there)))) | apply wkMem.skip)))
                · first | exact frz_vw (o := none) ho (fun b hb => by cases hb) | exact frz_row lk_ _ (by simp [sesY])
    · by_cases h1 : nameB n = false
      · rw [show sesE ⟨((l0 :: L)).map Prod.snd, vs, nx⟩ n w = 1 from if_pos (.inl h1)]
        rw [h1] at hn
        refine acalls_of_vc (DL_ok (by decide)) Tryd.func85 rfl (by decide) (by decide) rfl ?_
        refine g0_ ?_
        refine (hn).use ?_; refine g0_ ?_
        refine g1_ ?_
        exact ⟨rfl, fun h => by cases h⟩
      · have h1' : nameB n = true := by simpa using h1
        rw [h1'] at hn
        by_cases h2 : nameB w = false
        · rw [show sesE ⟨((l0 :: L)).map Prod.snd, vs, nx⟩ n w = 1 from if_pos (.inr h2)]
          rw [h2] at hw
          refine acalls_of_vc (DL_ok (by decide)) Tryd.func85 rfl (by decide) (by decide) rfl ?_
          refine g0_ ?_
          refine (hn).use ?_; refine g0_ ?_
          refine g1_ ?_
          refine (hw).use ?_; refine g0_ ?_
          refine g1_ ?_
          exact ⟨rfl, fun h => by cases h⟩
        · have h2' : nameB w = true := by simpa using h2
          rw [h2'] at hw
          have hE : sesE ⟨((l0 :: L)).map Prod.snd, vs, nx⟩ n w = _ := if_neg (fun h => h.elim h1 h2)
          dsimp only at hE
          by_cases h3 : n ∈ (((l0 :: L)).map Prod.snd).map Ses.name
          · rw [if_pos h3] at hE
            rw [decide_eq_true h3] at hct
            rw [hE]
            refine acalls_of_vc (DL_ok (by decide)) Tryd.func85 rfl (by decide) (by decide) rfl ?_
            refine g0_ ?_
            refine (hn).use ?_; refine g0_ ?_
            refine g1_ ?_
            refine (hw).use ?_; refine g0_ ?_
            refine g1_ ?_
            refine hct.borrow (args' := [.sl 4 (((((l0 :: L)).map Prod.snd).map encSes)), .fn 87 [.ip (.str n) 0]]) rfl rfl (fun j hj => ?_) ?_
            · match j, hj with
              | 0, _ => exact frz_ohS (x := ⟨bs, (l0 :: L), (some bo), vs, nx⟩) (by unfold OH.M; dsimp only; (try simp only [vwM, List.nil_append]); (first | exact ⟨_, .refl _⟩ | exact wkMem.rfl' | exact ⟨_, .swap _ _ _⟩ | (repeat (first | exact wkMem.nil _ | exact wkMem.rfl' | exact wk_snoc _ _ _ | exact wk_fam (by assumption) _ _ _ | exact wk_famN (by assumption) _ _ _ | (apply wkMem.cons; (case' hl => (repeat (first | exact .here _ _ _ | apply Look.there)))) | apply wkMem.skip))))
              | 1, _ => exact .fn _ _ _ rfl fun j hj => (by match j, hj with | 0, _ => exact .bref _ _ _ _ _ _ lk_)
            refine g1_ ?_
            exact ⟨rfl, fun h => by cases h⟩
          · rw [if_neg h3] at hE
            rw [decide_eq_false h3] at hct
            by_cases h4 : ((l0 :: L)).length = 4
            · rw [if_pos (by rw [List.length_map]; exact h4)] at hE
              rw [hE]
              simp only [List.length_cons, List.length_nil] at h4
              refine acalls_of_vc (DL_ok (by decide)) Tryd.func85 rfl (by decide) (by decide) rfl ?_
              refine g0_ ?_
              refine (hn).use ?_; refine g0_ ?_
              refine g1_ ?_
              refine (hw).use ?_; refine g0_ ?_
              refine g1_ ?_
              refine hct.borrow (args' := [.sl 4 (((((l0 :: L)).map Prod.snd).map encSes)), .fn 87 [.ip (.str n) 0]]) rfl rfl (fun j hj => ?_) ?_
              · match j, hj with
                | 0, _ => exact frz_ohS (x := ⟨bs, (l0 :: L), (some bo), vs, nx⟩) (by unfold OH.M; dsimp only; (try simp only [vwM, List.nil_append]); (first | exact ⟨_, .refl _⟩ | exact wkMem.rfl' | exact ⟨_, .swap _ _ _⟩ | (repeat (first | exact wkMem.nil _ | exact wkMem.rfl' | exact wk_snoc _ _ _ | exact wk_fam (by assumption) _ _ _ | exact wk_famN (by assumption) _ _ _ | (apply wkMem.cons; (case' hl => (repeat (first | exact .here _ _ _ | apply Look.there)))) | apply wkMem.skip))))
                | 1, _ => exact .fn _ _ _ rfl fun j hj => (by match j, hj with | 0, _ => exact .bref _ _ _ _ _ _ lk_)
              refine g1_ ?_
              exact ⟨rfl, fun h => by cases h⟩
            · rw [if_neg (by rw [List.length_map]; exact h4)] at hE
              simp only [List.length_cons, List.length_nil] at h4
              by_cases h5 : nx = 9999
              · rw [if_pos h5] at hE
                subst h5
                rw [hE]
                refine acalls_of_vc (DL_ok (by decide)) Tryd.func85 rfl (by decide) (by decide) rfl ?_
                refine g0_ ?_
                refine (hn).use ?_; refine g0_ ?_
                refine g1_ ?_
                refine (hw).use ?_; refine g0_ ?_
                refine g1_ ?_
                refine hct.borrow (args' := [.sl 4 (((((l0 :: L)).map Prod.snd).map encSes)), .fn 87 [.ip (.str n) 0]]) rfl rfl (fun j hj => ?_) ?_
                · match j, hj with
                  | 0, _ => exact frz_ohS (x := ⟨bs, (l0 :: L), (some bo), vs, (9999 : Int)⟩) (by unfold OH.M; dsimp only; (try simp only [vwM, List.nil_append]); (first | exact ⟨_, .refl _⟩ | exact wkMem.rfl' | exact ⟨_, .swap _ _ _⟩ | (repeat (first | exact wkMem.nil _ | exact wkMem.rfl' | exact wk_snoc _ _ _ | exact wk_fam (by assumption) _ _ _ | exact wk_famN (by assumption) _ _ _ | (apply wkMem.cons; (case' hl => (repeat (first | exact .here _ _ _ | apply Look.there)))) | apply wkMem.skip))))
                  | 1, _ => exact .fn _ _ _ rfl fun j hj => (by match j, hj with | 0, _ => exact .bref _ _ _ _ _ _ lk_)
                refine g1_ ?_
                refine ACalls.lend1 (freshH_full W b _ _) lk_ ?_
                rintro _ -
                refine g0_ ?_
                refine g1_ ?_
                have hwn := windowP_ok W w 0
                rw [show encWin (winN w 0) = .agg [.str w, .int .i64 0, .int .i64 0, .int .i64 1, .sl 4 [], .int .i64 0, .int .i64 0, .bool false] from rfl] at hwn
                refine Draws10.chain ⟨16, [.new, .new, .new, .new, .new, .new, .new, .new, .new, .new, .new, .new, .turn, .skip, .skip, .skip], [(12, [.again, .keep, .keep, .keep, .keep, .keep, .keep, .keep, .keep, .keep, .keep, .keep, .keep, .new, .new, .turn]), (15, [.keep, .keep, .keep, .keep, .keep, .keep, .keep, .keep, .keep, .keep, .keep, .keep, .keep, .keep, .keep, .keep])], by decide +kernel, ?_⟩; refine g0_ ?_
                refine ⟨_, (hwn).quiet, ?_⟩; (refine g0_ ?_; repeat (refine n2_ fun b_ => ?_; refine g0_ ?_))
                exact ⟨rfl, fun h => by cases h⟩
              · rw [if_neg h5] at hE
                rw [hE]
                refine acalls_of_vc (DL_ok (by decide)) Tryd.func85 rfl (by decide) (by decide) rfl ?_
                refine g0_ ?_
                refine (hn).use ?_; refine g0_ ?_
                refine g1_ ?_
                refine (hw).use ?_; refine g0_ ?_
                refine g1_ ?_
                refine hct.borrow (args' := [.sl 4 (((((l0 :: L)).map Prod.snd).map encSes)), .fn 87 [.ip (.str n) 0]]) rfl rfl (fun j hj => ?_) ?_
                · match j, hj with
                  | 0, _ => exact frz_ohS (x := ⟨bs, (l0 :: L), (some bo), vs, nx⟩) (by unfold OH.M; dsimp only; (try simp only [vwM, List.nil_append]); (first | exact ⟨_, .refl _⟩ | exact wkMem.rfl' | exact ⟨_, .swap _ _ _⟩ | (repeat (first | exact wkMem.nil _ | exact wkMem.rfl' | exact wk_snoc _ _ _ | exact wk_fam (by assumption) _ _ _ | exact wk_famN (by assumption) _ _ _ | (apply wkMem.cons; (case' hl => (repeat (first | exact .here _ _ _ | apply Look.there)))) | apply wkMem.skip))))
                  | 1, _ => exact .fn _ _ _ rfl fun j hj => (by match j, hj with | 0, _ => exact .bref _ _ _ _ _ _ lk_)
                refine g1_ ?_
                refine ACalls.lend1 (freshH_ok W b _ _ nx (by omega)) lk_ ?_
                rintro _ -
                refine g0_ ?_
                refine g1_ ?_
                have hwn := windowP_ok W w nx
                rw [show encWin (winN w nx) = .agg [.str w, .int .i64 0, .int .i64 nx, .int .i64 1, .sl 4 [], .int .i64 nx, .int .i64 0, .bool false] from rfl] at hwn
                refine Draws10.chain ⟨16, [.new, .new, .new, .new, .new, .new, .new, .new, .new, .new, .new, .new, .turn, .skip, .skip, .skip], [(12, [.again, .keep, .keep, .keep, .keep, .keep, .keep, .keep, .keep, .keep, .keep, .keep, .keep, .new, .new, .turn]), (15, [.keep, .keep, .keep, .keep, .keep, .keep, .keep, .keep, .keep, .keep, .keep, .keep, .keep, .keep, .keep, .keep])], by decide +kernel, ?_⟩; refine g0_ ?_
                refine ⟨_, (hwn).quiet, ?_⟩; (refine g0_ ?_; repeat (refine n2_ fun b_ => ?_; refine g0_ ?_))
                refine ⟨rfl, fun _ => hs_done rfl ?_ ?_ ?_ ?_⟩
                · exact .inr (.inl ⟨_, _, _, _, rfl⟩)
                · first | exact .inl rfl | exact .inr (.inl ⟨_, _, _, _, rfl⟩)
                · have hfl : ∀ {ρ : Mem}, wkMem ρ (famR (l0 :: L)) → FrzL ρ ((sesV l0 :: List.map sesV L) ++ [.agg [.str n, .sl 8 [encWin (winN w nx)], .int .i64 0, .int .i64 0]]) ((((l0 :: L).map Prod.snd) ++ [(⟨n, [winN w nx], 0, 0⟩ : Ses)]).map encSes) := fun hw => by
                    rw [List.map_append]
                    exact (frz_ohF (L := l0 :: L) fun p hp hn => Look.of_wk hw (mem_famR hp hn)).app (.one (.of_eq rfl))
                  refine FrzL.row (hfl ?_) (b := b_) (fz := 0) lk_ (by simp)
                  (first | exact ⟨_, .refl _⟩ | exact wkMem.rfl' | exact ⟨_, .swap _ _ _⟩ | (repeat (first | exact wkMem.nil _ | exact wkMem.rfl' | exact wk_snoc _ _ _ | exact wk_fam (by assumption) _ _ _ | exact wk_famN (by assumption) _ _ _ | (apply wkMem.cons; (case' hl => (repeat (first | exact .here _ _ _ | apply Look.there)))) | apply wkMem.skip)))
                · first | exact frz_vw (o := none) ho (fun b hb => by cases hb) | exact frz_row lk_ _ (by simp [sesY])
end Go.Eng.YtkenlcaifhffoaaDoor
end

/- Houses: package house's Session (b_ x_ q_ e_). -/
section
namespace Go.Eng
open Go
theorem lookH2 {σ r1 r2 : Mem} {b1 b2 : Nat} {c1 c2 : Cont} (h1 : Look σ b1 c1 r1) (h2 : Look r1 b2 c2 r2) : σ.Perm ([⟨b1, c1⟩, ⟨b2, c2⟩] ++ r2) := h1.perm.trans (h2.perm.cons _)
theorem lookH1 {σ r1 : Mem} {b1 : Nat} {c1 : Cont} (h1 : Look σ b1 c1 r1) : σ.Perm ([⟨b1, c1⟩] ++ r1) := h1.perm
theorem lookH3 {σ r1 r2 r3 : Mem} {b1 b2 b3 : Nat} {c1 c2 c3 : Cont} (h1 : Look σ b1 c1 r1) (h2 : Look r1 b2 c2 r2) (h3 : Look r2 b3 c3 r3) : σ.Perm ([⟨b1, c1⟩, ⟨b2, c2⟩, ⟨b3, c3⟩] ++ r3) :=
  h1.perm.trans ((h2.perm.trans (h3.perm.cons _)).cons _)
end Go.Eng
namespace Go.Eng.YtkenlcaifhffoaaDoor
open Go Go.Eng Go.Proofs
variable (W : World)
set_option linter.unusedSimpArgs false
set_option maxRecDepth 100000
set_option linter.unusedVariables false
set_option maxHeartbeats 8000000
theorem right_ses {h : Hs} (h0 : chkH h = 0) : h.ses.length ≤ 4 ∧ h.views.length ≤ 4 ∧ 1 ≤ h.next ∧ h.next ≤ 9999 ∧ chkSs h.next h.ses [] [] = 0 ∧ chkVs h.ses.length h.views = 0 := by
  unfold chkH at h0
  split at h0
  · cases h0
  · rename_i h1
    split at h0
    · rename_i h2; exact absurd h0 h2
    · rename_i h2
      split at h0
      · cases h0
      · exact ⟨by omega, by omega, by omega, by omega, Decidable.not_not.1 h2, h0⟩
def chgR (h : Hs) (E : Int) (Y : Hs) : Hs × Int := if chkH h ≠ 0 then (noHs, chkH h) else if E = 0 then (Y, 0) else (noHs, E)
theorem encHs_mk (h : Hs) : encHs h = .agg [.sl 4 (h.ses.map encSes), .sl 3 (h.views.map encVw), .int .i64 h.next] := rfl
theorem sessionP_ok (hT : Tabs W) (h : Hs) (hok : h.ok) (n w : List UInt8) (hns : n.length ≤ 1048576) (hws : w.length ≤ 1048576) :
    Pure Tryd.prog W 55 [encHs h, .str n, .str w] (.tup [encHs (chgR h (sesE h n w) (sesY h n w)).1, .int .i64 (chgR h (sesE h n w) (sesY h n w)).2]) := by
  have hg := fun h0 b bn bw x hx ho => session1_ok W hT h hok h0 (right_ses h0).1 ⟨(right_ses h0).2.2.1, (right_ses h0).2.2.2.1⟩ n w hns hws b bn bw x hx ho
  generalize sesE h n w = E at *
  generalize sesY h n w = Y at *
  by_cases h0 : chkH h = 0
  · have hg := hg h0
    have hc := fun cap τ hg => changeH_ok W hT h hok h0 85 cap τ E Y hg
    unfold chgR
    rw [if_neg (by simpa using h0)]
    by_cases hE : E = 0
    · rw [if_pos hE, ← hE]
      rw [if_pos hE] at hc
      dsimp only
      rw [encHs_mk h] at *
      rw [encHs_mk Y] at *
      refine Pure.of (acalls_of_vc (drawOk W) Tryd.func55 rfl (by decide) (by decide) rfl ?_)
      (refine g0_ ?_; repeat (refine n1_ fun b_ => ?_; refine g0_ ?_))
      refine ACalls.lendF (hc _ _ (fun b x hx ho => hg b _ _ x hx ho)) (lookH2 lk_ lk_) ?_
      refine g0_ ?_
      exact .refl _
    · rw [if_neg hE]
      rw [if_neg hE] at hc
      dsimp only
      rw [encHs_mk h] at *
      rw [encHs_mk noHs] at *
      refine Pure.of (acalls_of_vc (drawOk W) Tryd.func55 rfl (by decide) (by decide) rfl ?_)
      (refine g0_ ?_; repeat (refine n1_ fun b_ => ?_; refine g0_ ?_))
      refine ACalls.lendF (hc _ _ (fun b x hx ho => hg b _ _ x hx ho)) (lookH2 lk_ lk_) ?_
      refine g0_ ?_
      exact .refl _
  · have hc := fun cap => changeH_bad W hT h hok h0 85 cap
    unfold chgR
    rw [if_pos h0]
    dsimp only
    generalize chkH h = C at *
    rw [encHs_mk h, encHs_mk noHs] at *
    refine Pure.of (acalls_of_vc (drawOk W) Tryd.func55 rfl (by decide) (by decide) rfl ?_)
    (refine g0_ ?_; repeat (refine n1_ fun b_ => ?_; refine g0_ ?_))
    refine (hc _).use ?_; refine g0_ ?_
    exact .refl _
end Go.Eng.YtkenlcaifhffoaaDoor
end
