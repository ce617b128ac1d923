/- Texts put together: HseC. -/
import Derived.Test.YtkenlcaifhffoaaDoorMHS1
import Derived.Test.YtkenlcaifhffoaaDoorMSE
import Derived.Test.YtkenlcaifhffoaaDoorMSS1
import Derived.Test.YtkenlcaifhffoaaDoorMRE
/- Houses: package house's check (b_ x_ q_ e_). -/
section
namespace Go.Eng.YtkenlcaifhffoaaDoor
open Go Go.Eng Go.Proofs Go.Maps
variable (W : World)
set_option linter.unusedSimpArgs false
set_option maxRecDepth 100000
set_option linter.unusedVariables false
set_option maxHeartbeats 8000000
def nmE (l : List (List UInt8)) : List (PV × PV) := l.map fun n => (.str n, .bool true)
def pnE (l : List Int) : List (PV × PV) := l.map fun p => (.int .i64 p, .bool true)
theorem new_nm {s : List UInt8} : ∀ {l : List (List UInt8)}, s ∉ l → newKey (.str s) (nmE l) = true
  | [], _ => rfl
  | n :: l, h => by
    rw [List.mem_cons, not_or] at h
    have ih := new_nm h.2
    unfold nmE at ih ⊢
    rw [List.map_cons, newKey, ih, decide_eq_false h.1]
    rfl
theorem new_pn {p : Int} : ∀ {l : List Int}, p ∉ l → newKey (.int .i64 p) (pnE l) = true
  | [], _ => rfl
  | n :: l, h => by
    rw [List.mem_cons, not_or] at h
    have ih := new_pn h.2
    unfold pnE at ih ⊢
    rw [List.map_cons, newKey, ih, decide_eq_false h.1]
    rfl
theorem str_nm : ∀ l : List (List UInt8), strKeys (nmE l) = true
  | [] => rfl
  | n :: l => by
    have ih := str_nm l
    unfold nmE at ih ⊢
    rw [List.map_cons, strKeys, ih]
theorem int_pn : ∀ l : List Int, intKeys .i64 (pnE l) = true
  | [] => rfl
  | n :: l => by
    have ih := int_pn l
    unfold pnE at ih ⊢
    rw [List.map_cons, intKeys, ih]
    rfl
theorem get_nm (s : List UInt8) : ∀ l : List (List UInt8), (getS (nmE l) s).getD (.bool false) = .bool (decide (s ∈ l))
  | [] => by simp [nmE, getS]
  | n :: l => by
    have ih := get_nm s l
    unfold nmE at ih ⊢
    rw [List.map_cons, getS]
    by_cases h : s = n
    · subst h; simp
    · rw [if_neg h, ih]
      simp [h]
theorem get_pn (p : Int) : ∀ l : List Int, (getI (pnE l) p).getD (.bool false) = .bool (decide (p ∈ l))
  | [] => by simp [pnE, getI]
  | n :: l => by
    have ih := get_pn p l
    unfold pnE at ih ⊢
    rw [List.map_cons, getI]
    by_cases h : p = n
    · subst h; simp
    · rw [if_neg h, ih]
      simp [h]
theorem look_nm {b : Nat} {s : List UInt8} {l : List (List UInt8)} {σ r : Mem} (hl : Look σ b (.mpc (nmE l)) r) (v : Bool) (hv : decide (s ∈ l) = v) : LookLaw Tryd.prog 88 (.mp b) (.str s) false σ (.bool v) :=
  look_str (kt := 9) (et := 4) (i0 := (Tryd.prog.info? 4).getD default) (z := .bool false) hl (show Tryd.prog.underlying 88 = _ by kernel_rfl) (show Tryd.prog.underlying 9 = _ by kernel_rfl) (by kernel_rfl) (by kernel_rfl) (str_nm l) (hv ▸ get_nm s l)
theorem look_pn {b : Nat} {p : Int} {l : List Int} {σ r : Mem} (hl : Look σ b (.mpc (pnE l)) r) (v : Bool) (hv : decide (p ∈ l) = v) : LookLaw Tryd.prog 87 (.mp b) (.int .i64 p) false σ (.bool v) :=
  look_int (kt := 3) (et := 4) (i0 := (Tryd.prog.info? 4).getD default) (z := .bool false) hl (show Tryd.prog.underlying 87 = _ by kernel_rfl) (show Tryd.prog.underlying 3 = _ by kernel_rfl) (by kernel_rfl) (by kernel_rfl) (int_pn l) (hv ▸ get_pn p l)
theorem ins_nm {s : List UInt8} {l : List (List UInt8)} (h : s ∉ l) : InsLaw Tryd.prog 88 (nmE l) (.str s) (.bool true) (nmE (l ++ [s])) := by
  rw [show nmE (l ++ [s]) = nmE l ++ [(.str s, .bool true)] by simp [nmE]]
  exact insLaw_new (by kernel_rfl) (new_nm h)
theorem ins_pn {p : Int} {l : List Int} (h : p ∉ l) : InsLaw Tryd.prog 87 (pnE l) (.int .i64 p) (.bool true) (pnE (l ++ [p])) := by
  rw [show pnE (l ++ [p]) = pnE l ++ [(.int .i64 p, .bool true)] by simp [pnE]]
  exact insLaw_new (by kernel_rfl) (new_pn h)
theorem checkH_ok (hT : Tabs W) (h : Hs) (hok : h.ok) : Pure Tryd.prog W 12 [encHs h] (.int .i64 (chkH h)) := by
  obtain ⟨hsl, hse, hvl, hvv, hnx⟩ := hok
  obtain ⟨ses, views, next⟩ := h
  dsimp only at hsl hse hvl hvv hnx
  have hm1 : (ses.map encSes).length = ses.length := List.length_map _
  have hm2 : (views.map encVw).length = views.length := List.length_map _
  unfold chkH encHs
  dsimp only
  by_cases h1 : 4 < ses.length ∨ 4 < views.length
  · rw [if_pos h1]
    by_cases h2 : 4 < ses.length
    · refine Pure.of (acalls_of_vc (drawOk W) Tryd.func12 rfl (by decide) (by decide) rfl ?_)
      (refine g0_ ?_; repeat (refine n1_ fun b_ => ?_; refine g0_ ?_))
      refine g1_ ?_
      exact .refl _
    · have h3 : 4 < views.length := by omega
      refine Pure.of (acalls_of_vc (drawOk W) Tryd.func12 rfl (by decide) (by decide) rfl ?_)
      (refine g0_ ?_; repeat (refine n1_ fun b_ => ?_; refine g0_ ?_))
      refine g1_ ?_
      exact .refl _
  · rw [if_neg h1]
    have h2 : ses.length ≤ 4 := by omega
    have h3 : views.length ≤ 4 := by omega
    generalize hE : chkSs next ses [] [] = E
    refine Pure.of (acalls_of_vc (drawOk W) Tryd.func12 rfl (by decide) (by decide) rfl ?_)
    (refine gm_ ?_; repeat (refine n1_ fun b_ => ?_; refine gm_ ?_))
    (refine gdm_ ?_; repeat (refine n1_ fun b_ => ?_; refine gdm_ ?_))
    rename_i bH bP
    obtain ⟨bN, rfl⟩ : ∃ z, z = b_ := ⟨_, rfl⟩
    refine' loopI (α := Nat × (List (List UInt8)) × (List Int)) (fun (i, seen, met) => [(30, .int .i64 i)]) [(1, _), (3, _), (4, _), (28, _), (29, _)] (fun (i, seen, met) => [⟨bN, .mpc (nmE seen)⟩, ⟨bP, .mpc (pnE met)⟩, ⟨bH, .row 3 [.agg [.sl 4 (ses.map encSes), .sl 3 (views.map encVw), .int .i64 next]] 0⟩]) (fun (i, seen, met) => i ≤ ses.length ∧ chkSs next (ses.drop i) seen met = E) (fun (i, seen, met) => ses.length - i) (0, [], []) ?_ ?_
    · exact ⟨Nat.zero_le _, hE⟩
    clear hE
    rintro ⟨i, seen, met⟩ ⟨hi, hE⟩
    by_cases hie : i = ses.length
    · subst hie
      rw [List.drop_length, chkSs] at hE
      subst hE
      rw [if_neg (by decide)]
      by_cases h4 : next < 1 ∨ 9999 < next
      · rw [if_pos h4]
        by_cases h5 : next < 1
        · refine gdm_ ?_
          exact .refl _
        · have h6 : 9999 < next := by omega
          refine gdm_ ?_
          exact .refl _
      · rw [if_neg h4]
        have h5 : 1 ≤ next ∧ next ≤ 9999 := by omega
        generalize hV : chkVs ses.length views = V
        refine gdm_ ?_
        refine' loopI (α := Nat) (fun k => [(145, .int .i64 k)]) [(1, _), (143, _), (144, _)] (fun k => [⟨bH, .row 3 [.agg [.sl 4 (ses.map encSes), .sl 3 (views.map encVw), .int .i64 next]] 0⟩]) (fun k => k ≤ views.length ∧ chkVs ses.length (views.drop k) = V) (fun k => views.length - k) 0 ?_ ?_
        · exact ⟨Nat.zero_le _, hV⟩
        clear hV
        rintro k ⟨hk, hV⟩
        by_cases hke : k = views.length
        · subst hke
          rw [List.drop_length, chkVs] at hV
          subst hV
          refine gdm_ ?_
          exact .refl _
        · have hkl : k < views.length := by omega
          obtain ⟨v, hv⟩ : ∃ v, views[k]? = some v := ⟨_, List.getElem?_eq_getElem hkl⟩
          rw [drop_cons_of hv, chkVs] at hV
          have hvk := hvv v (List.mem_of_getElem? hv)
          unfold chkV at hV
          by_cases a1 : v.s < 0 ∨ (ses.length : Int) ≤ v.s
          · rw [if_pos a1, if_pos (by decide)] at hV
            subst hV
            by_cases a2 : v.s < 0
            · (refine gdm_ ?_; repeat (refine n1_ fun b_ => ?_; refine gdm_ ?_))
              exact .refl _
            · have a3 : (ses.length : Int) ≤ v.s := by omega
              (refine gdm_ ?_; repeat (refine n1_ fun b_ => ?_; refine gdm_ ?_))
              exact .refl _
          · have a2 : 0 ≤ v.s ∧ v.s < (ses.length : Int) := by omega
            rw [if_neg a1] at hV
            by_cases b1 : v.w < 1 ∨ 120 < v.w ∨ v.h < 1 ∨ 60 < v.h
            · rw [if_pos b1, if_pos (by decide)] at hV
              subst hV
              by_cases b2 : v.w < 1
              · (refine gdm_ ?_; repeat (refine n1_ fun b_ => ?_; refine gdm_ ?_))
                exact .refl _
              · by_cases b3 : 120 < v.w
                · (refine gdm_ ?_; repeat (refine n1_ fun b_ => ?_; refine gdm_ ?_))
                  exact .refl _
                · by_cases b4 : v.h < 1
                  · (refine gdm_ ?_; repeat (refine n1_ fun b_ => ?_; refine gdm_ ?_))
                    exact .refl _
                  · have b5 : 60 < v.h := by omega
                    (refine gdm_ ?_; repeat (refine n1_ fun b_ => ?_; refine gdm_ ?_))
                    exact .refl _
            · rw [if_neg b1, if_neg (by decide)] at hV
              have b2 : 1 ≤ v.w ∧ v.w ≤ 120 ∧ 1 ≤ v.h ∧ v.h ≤ 60 := by omega
              (refine gdm_ ?_; repeat (refine n1_ fun b_ => ?_; refine gdm_ ?_))
              refine nx_ (k + 1) ?_ ?_
              · exact ⟨hkl, hV⟩
              · ((try dsimp only); (try simp only [List.length_drop, List.length_take, List.length_append, List.length_cons, List.length_nil, List.length_map] at *); omega)
    · have hil : i < ses.length := by omega
      obtain ⟨x, hx⟩ : ∃ x, ses[i]? = some x := ⟨_, List.getElem?_eq_getElem hil⟩
      rw [drop_cons_of hx, chkSs] at hE
      obtain ⟨hxn, hxw, hxx, -, -⟩ := hse x (List.mem_of_getElem? hx)
      have hn := nameP_ok W hT x.name hxn
      have hwm : (x.wins.map encWin).length = x.wins.length := List.length_map _
      generalize hS : chkS1 x seen = S1 at hE
      unfold chkS1 at hS
      cases hnm : nameB x.name with
      | false =>
        rw [hnm, if_pos rfl] at hS
        rw [hnm] at hn
        subst hS
        rw [if_pos (by decide)] at hE
        subst hE
        (refine gdm_ ?_; repeat (refine n1_ fun b_ => ?_; refine gdm_ ?_))
        refine hn.use ?_
        refine gdm_ ?_
        exact .refl _
      | true =>
        rw [hnm, if_neg (by decide)] at hS
        rw [hnm] at hn
        by_cases hin : x.name ∈ seen
        · rw [if_pos hin] at hS
          subst hS
          rw [if_pos (by decide)] at hE
          subst hE
          (refine gdm_ ?_; repeat (refine n1_ fun b_ => ?_; refine gdm_ ?_))
          refine hn.use ?_
          refine gdm_ ?_
          refine ⟨_, look_nm lk_ true (decide_eq_true hin), ?_⟩
          refine gdm_ ?_
          exact .refl _
        · rw [if_neg hin] at hS
          by_cases hw6 : x.wins.length < 1 ∨ 6 < x.wins.length
          · rw [if_pos hw6] at hS
            subst hS
            rw [if_pos (by decide)] at hE
            subst hE
            by_cases hw1 : x.wins.length < 1
            · (refine gdm_ ?_; repeat (refine n1_ fun b_ => ?_; refine gdm_ ?_))
              refine hn.use ?_
              refine gdm_ ?_
              refine ⟨_, look_nm lk_ false (decide_eq_false hin), ?_⟩
              refine gdm_ ?_
              refine .law _ _ _ lk_ (ins_nm hin) ?_
              refine gdm_ ?_
              exact .refl _
            · have hw7 : 6 < x.wins.length := by omega
              (refine gdm_ ?_; repeat (refine n1_ fun b_ => ?_; refine gdm_ ?_))
              refine hn.use ?_
              refine gdm_ ?_
              refine ⟨_, look_nm lk_ false (decide_eq_false hin), ?_⟩
              refine gdm_ ?_
              refine .law _ _ _ lk_ (ins_nm hin) ?_
              refine gdm_ ?_
              exact .refl _
          · rw [if_neg hw6] at hS
            have hw7 : 1 ≤ x.wins.length ∧ x.wins.length ≤ 6 := by omega
            by_cases ha : x.act < 0 ∨ (x.wins.length : Int) ≤ x.act ∨ x.bef < 0 ∨ (x.wins.length : Int) ≤ x.bef
            · rw [if_pos ha] at hS
              subst hS
              rw [if_pos (by decide)] at hE
              subst hE
              by_cases ha1 : x.act < 0
              · (refine gdm_ ?_; repeat (refine n1_ fun b_ => ?_; refine gdm_ ?_))
                refine hn.use ?_
                refine gdm_ ?_
                refine ⟨_, look_nm lk_ false (decide_eq_false hin), ?_⟩
                refine gdm_ ?_
                refine .law _ _ _ lk_ (ins_nm hin) ?_
                refine gdm_ ?_
                exact .refl _
              · by_cases ha2 : (x.wins.length : Int) ≤ x.act
                · (refine gdm_ ?_; repeat (refine n1_ fun b_ => ?_; refine gdm_ ?_))
                  refine hn.use ?_
                  refine gdm_ ?_
                  refine ⟨_, look_nm lk_ false (decide_eq_false hin), ?_⟩
                  refine gdm_ ?_
                  refine .law _ _ _ lk_ (ins_nm hin) ?_
                  refine gdm_ ?_
                  exact .refl _
                · by_cases ha3 : x.bef < 0
                  · (refine gdm_ ?_; repeat (refine n1_ fun b_ => ?_; refine gdm_ ?_))
                    refine hn.use ?_
                    refine gdm_ ?_
                    refine ⟨_, look_nm lk_ false (decide_eq_false hin), ?_⟩
                    refine gdm_ ?_
                    refine .law _ _ _ lk_ (ins_nm hin) ?_
                    refine gdm_ ?_
                    exact .refl _
                  · have ha4 : (x.wins.length : Int) ≤ x.bef := by omega
                    (refine gdm_ ?_; repeat (refine n1_ fun b_ => ?_; refine gdm_ ?_))
                    refine hn.use ?_
                    refine gdm_ ?_
                    refine ⟨_, look_nm lk_ false (decide_eq_false hin), ?_⟩
                    refine gdm_ ?_
                    refine .law _ _ _ lk_ (ins_nm hin) ?_
                    refine gdm_ ?_
                    exact .refl _
            · rw [if_neg ha] at hS
              subst hS
              rw [if_neg (by decide)] at hE
              have ha1 : 0 ≤ x.act ∧ x.act < (x.wins.length : Int) ∧ 0 ≤ x.bef ∧ x.bef < (x.wins.length : Int) := by omega
              (refine gdm_ ?_; repeat (refine n1_ fun b_ => ?_; refine gdm_ ?_))
              refine hn.use ?_
              refine gdm_ ?_
              refine ⟨_, look_nm lk_ false (decide_eq_false hin), ?_⟩
              refine gdm_ ?_
              refine .law _ _ _ lk_ (ins_nm hin) ?_
              refine gdm_ ?_
              obtain ⟨bx, rfl⟩ : ∃ z, z = b_ := ⟨_, rfl⟩
              generalize hR : chkWs next x.wins met = R at hE
              refine' loopI (α := Nat × (List Int)) (fun (j, met) => [(82, .int .i64 j)]) [(1, _), (3, _), (4, _), (28, _), (29, _), (30, _), (80, _), (81, _)] (fun (j, met) => [⟨bN, .mpc (nmE (seen ++ [x.name]))⟩, ⟨bP, .mpc (pnE met)⟩, ⟨bH, .row 3 [.agg [.sl 4 (ses.map encSes), .sl 3 (views.map encVw), .int .i64 next]] 0⟩]) (fun (j, met) => j ≤ x.wins.length ∧ chkWs next (x.wins.drop j) met = R) (fun (j, met) => x.wins.length - j) (0, met) ?_ ?_
              · exact ⟨Nat.zero_le _, hR⟩
              clear hR
              rintro ⟨j, met⟩ ⟨hj, hR⟩
              by_cases hje : j = x.wins.length
              · subst hje
                rw [List.drop_length, chkWs] at hR
                subst hR
                dsimp only at hE
                rw [if_neg (by decide)] at hE
                refine gdm_ ?_
                refine nx_ (i + 1, seen ++ [x.name], met) ?_ ?_
                · exact ⟨hil, hE⟩
                · ((try dsimp only); (try simp only [List.length_drop, List.length_take, List.length_append, List.length_cons, List.length_nil, List.length_map] at *); omega)
              · have hjl : j < x.wins.length := by omega
                obtain ⟨w, hw⟩ : ∃ w, x.wins[j]? = some w := ⟨_, List.getElem?_eq_getElem hjl⟩
                rw [drop_cons_of hw, chkWs] at hR
                generalize hS : chkW next w met = S at hR
                unfold chkW at hS
                obtain ⟨hwn, hws, -, -⟩ := hxx w (List.mem_of_getElem? hw)
                have hn2 := nameP_ok W hT w.name hwn
                have hck := checkS_ok W w.s hws
                have hvr := @vis_right w.s
                have hpn := fun h => panes_ok W w.s 0 (hvr h).1 (hvr h).2.2.1
                rw [encSpl_eta] at hck hpn
                clear hn hws hwn
                cases hnm2 : nameB w.name with
                | false =>
                  rw [hnm2, if_pos rfl] at hS
                  rw [hnm2] at hn2
                  subst hS
                  rw [if_pos (by dsimp only; decide)] at hR
                  subst hR
                  rw [if_pos (by dsimp only; decide)] at hE
                  subst hE
                  (refine gdm_ ?_; repeat (refine n1_ fun b_ => ?_; refine gdm_ ?_))
                  refine hn2.use ?_
                  refine gdm_ ?_
                  exact .refl _
                | true =>
                  rw [hnm2, if_neg (by decide)] at hS
                  rw [hnm2] at hn2
                  generalize visS w.s 0 (0, []) = st at *
                  by_cases hv0 : st.1 = 0
                  · rw [if_neg (by simpa using hv0)] at hS
                    have hpn := hpn hv0
                    obtain ⟨hrt, -, hl12, -⟩ := hvr hv0
                    rw [hv0] at hck
                    clear hvr
                    generalize panesT w.s = l at *
                    have hln := panesV_len l
                    have hc1 := containsI_ok W l w.act (by omega)
                    have hc2 := containsI_ok W l w.bef (by omega)
                    by_cases hact : w.act ∈ l
                    · rw [decide_eq_true hact] at hc1
                      by_cases hb : w.bef ≠ 0 ∧ w.bef ∉ l
                      · rw [if_pos (.inr hb)] at hS
                        rw [decide_eq_false hb.2] at hc2
                        have hb0 := hb.1
                        subst hS
                        rw [if_pos (by dsimp only; decide)] at hR
                        subst hR
                        rw [if_pos (by dsimp only; decide)] at hE
                        subst hE
                        (refine gdm_ ?_; repeat (refine n1_ fun b_ => ?_; refine gdm_ ?_))
                        refine hn2.use ?_
                        refine gdm_ ?_
                        refine hck.use ?_
                        refine gdm_ ?_
                        refine hpn.use ?_
                        refine gdm_ ?_
                        refine hc1.use ?_
                        refine gdm_ ?_
                        refine hc2.use ?_
                        refine gdm_ ?_
                        exact .refl _
                      · rw [if_neg (fun h => h.elim (fun h => h hact) hb)] at hS
                        by_cases hb0 : w.bef = 0
                        · (refine gdm_ ?_; repeat (refine n1_ fun b_ => ?_; refine gdm_ ?_))
                          refine hn2.use ?_
                          refine gdm_ ?_
                          refine hck.use ?_
                          refine gdm_ ?_
                          refine hpn.use ?_
                          refine gdm_ ?_
                          refine hc1.use ?_
                          refine gdm_ ?_
                          clear hb
                          refine' loopI (α := Nat × (List Int)) (fun (k, met) => [(118, .int .i64 k)]) [(1, _), (3, _), (4, _), (28, _), (29, _), (30, _), (80, _), (81, _), (82, _), (116, _), (117, _)] (fun (k, met) => [⟨bN, .mpc (nmE (seen ++ [x.name]))⟩, ⟨bP, .mpc (pnE met)⟩, ⟨bH, .row 3 [.agg [.sl 4 (ses.map encSes), .sl 3 (views.map encVw), .int .i64 next]] 0⟩]) (fun (k, met) => k ≤ l.length ∧ chkPs next (l.drop k) met = S) (fun (k, met) => l.length - k) (0, met) ?_ ?_
                          · exact ⟨Nat.zero_le _, hS⟩
                          clear hS
                          rintro ⟨k, met⟩ ⟨hk, hS⟩
                          by_cases hke : k = l.length
                          · subst hke
                            rw [List.drop_length, chkPs] at hS
                            subst hS
                            rw [if_neg (by dsimp only; decide)] at hR
                            refine gdm_ ?_
                            refine nx_ (j + 1, met) ?_ ?_
                            · exact ⟨hjl, hR⟩
                            · ((try dsimp only); (try simp only [List.length_drop, List.length_take, List.length_append, List.length_cons, List.length_nil, List.length_map] at *); omega)
                          · have hkl : k < l.length := by omega
                            obtain ⟨q, hq⟩ : ∃ q, l[k]? = some q := ⟨_, List.getElem?_eq_getElem hkl⟩
                            rw [drop_cons_of hq, chkPs] at hS
                            by_cases hqm : q ∈ met
                            · rw [if_pos hqm] at hS
                              subst hS
                              rw [if_pos (by dsimp only; decide)] at hR
                              subst hR
                              rw [if_pos (by dsimp only; decide)] at hE
                              subst hE
                              refine gdm_ ?_
                              refine ⟨_, look_pn lk_ true (decide_eq_true hqm), ?_⟩
                              refine gdm_ ?_
                              exact .refl _
                            · rw [if_neg hqm] at hS
                              by_cases hqn : next ≤ q
                              · rw [if_pos hqn] at hS
                                subst hS
                                rw [if_pos (by dsimp only; decide)] at hR
                                subst hR
                                rw [if_pos (by dsimp only; decide)] at hE
                                subst hE
                                refine gdm_ ?_
                                refine ⟨_, look_pn lk_ false (decide_eq_false hqm), ?_⟩
                                refine gdm_ ?_
                                exact .refl _
                              · rw [if_neg hqn] at hS
                                refine gdm_ ?_
                                refine ⟨_, look_pn lk_ false (decide_eq_false hqm), ?_⟩
                                refine gdm_ ?_
                                refine .law _ _ _ lk_ (ins_pn hqm) ?_
                                refine gm_ ?_
                                refine nx_ (k + 1, met ++ [q]) ?_ ?_
                                · exact ⟨hkl, hS⟩
                                · ((try dsimp only); (try simp only [List.length_drop, List.length_take, List.length_append, List.length_cons, List.length_nil, List.length_map] at *); omega)
                        · have hbl : w.bef ∈ l := Decidable.not_not.1 fun h => hb ⟨hb0, h⟩
                          rw [decide_eq_true hbl] at hc2
                          (refine gdm_ ?_; repeat (refine n1_ fun b_ => ?_; refine gdm_ ?_))
                          refine hn2.use ?_
                          refine gdm_ ?_
                          refine hck.use ?_
                          refine gdm_ ?_
                          refine hpn.use ?_
                          refine gdm_ ?_
                          refine hc1.use ?_
                          refine gdm_ ?_
                          refine hc2.use ?_
                          refine gdm_ ?_
                          clear hb
                          refine' loopI (α := Nat × (List Int)) (fun (k, met) => [(118, .int .i64 k)]) [(1, _), (3, _), (4, _), (28, _), (29, _), (30, _), (80, _), (81, _), (82, _), (116, _), (117, _)] (fun (k, met) => [⟨bN, .mpc (nmE (seen ++ [x.name]))⟩, ⟨bP, .mpc (pnE met)⟩, ⟨bH, .row 3 [.agg [.sl 4 (ses.map encSes), .sl 3 (views.map encVw), .int .i64 next]] 0⟩]) (fun (k, met) => k ≤ l.length ∧ chkPs next (l.drop k) met = S) (fun (k, met) => l.length - k) (0, met) ?_ ?_
                          · exact ⟨Nat.zero_le _, hS⟩
                          clear hS
                          rintro ⟨k, met⟩ ⟨hk, hS⟩
                          by_cases hke : k = l.length
                          · subst hke
                            rw [List.drop_length, chkPs] at hS
                            subst hS
                            rw [if_neg (by dsimp only; decide)] at hR
                            refine gdm_ ?_
                            refine nx_ (j + 1, met) ?_ ?_
                            · exact ⟨hjl, hR⟩
                            · ((try dsimp only); (try simp only [List.length_drop, List.length_take, List.length_append, List.length_cons, List.length_nil, List.length_map] at *); omega)
                          · have hkl : k < l.length := by omega
                            obtain ⟨q, hq⟩ : ∃ q, l[k]? = some q := ⟨_, List.getElem?_eq_getElem hkl⟩
                            rw [drop_cons_of hq, chkPs] at hS
                            by_cases hqm : q ∈ met
                            · rw [if_pos hqm] at hS
                              subst hS
                              rw [if_pos (by dsimp only; decide)] at hR
                              subst hR
                              rw [if_pos (by dsimp only; decide)] at hE
                              subst hE
                              refine gdm_ ?_
                              refine ⟨_, look_pn lk_ true (decide_eq_true hqm), ?_⟩
                              refine gdm_ ?_
                              exact .refl _
                            · rw [if_neg hqm] at hS
                              by_cases hqn : next ≤ q
                              · rw [if_pos hqn] at hS
                                subst hS
                                rw [if_pos (by dsimp only; decide)] at hR
                                subst hR
                                rw [if_pos (by dsimp only; decide)] at hE
                                subst hE
                                refine gdm_ ?_
                                refine ⟨_, look_pn lk_ false (decide_eq_false hqm), ?_⟩
                                refine gdm_ ?_
                                exact .refl _
                              · rw [if_neg hqn] at hS
                                refine gdm_ ?_
                                refine ⟨_, look_pn lk_ false (decide_eq_false hqm), ?_⟩
                                refine gdm_ ?_
                                refine .law _ _ _ lk_ (ins_pn hqm) ?_
                                refine gm_ ?_
                                refine nx_ (k + 1, met ++ [q]) ?_ ?_
                                · exact ⟨hkl, hS⟩
                                · ((try dsimp only); (try simp only [List.length_drop, List.length_take, List.length_append, List.length_cons, List.length_nil, List.length_map] at *); omega)
                    · rw [if_pos (.inl hact)] at hS
                      rw [decide_eq_false hact] at hc1
                      subst hS
                      rw [if_pos (by dsimp only; decide)] at hR
                      subst hR
                      rw [if_pos (by dsimp only; decide)] at hE
                      subst hE
                      (refine gdm_ ?_; repeat (refine n1_ fun b_ => ?_; refine gdm_ ?_))
                      refine hn2.use ?_
                      refine gdm_ ?_
                      refine hck.use ?_
                      refine gdm_ ?_
                      refine hpn.use ?_
                      refine gdm_ ?_
                      refine hc1.use ?_
                      refine gdm_ ?_
                      exact .refl _
                  · rw [if_pos hv0] at hS
                    subst hS
                    rw [if_pos hv0] at hR
                    subst hR
                    rw [if_pos hv0] at hE
                    subst hE
                    obtain ⟨c, qs⟩ := st
                    dsimp only at hv0 hck
                    (refine gdm_ ?_; repeat (refine n1_ fun b_ => ?_; refine gdm_ ?_))
                    refine hn2.use ?_
                    refine gdm_ ?_
                    refine hck.use ?_
                    refine gdm_ ?_
                    exact .of_eq (by dsimp only; rw [if_pos hv0])
end Go.Eng.YtkenlcaifhffoaaDoor
end
