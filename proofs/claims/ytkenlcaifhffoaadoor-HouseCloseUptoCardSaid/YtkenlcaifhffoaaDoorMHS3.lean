/- Texts put together: HseD, HseE. -/
import Derived.Test.YtkenlcaifhffoaaDoorMHS1
import Derived.Test.YtkenlcaifhffoaaDoorMH1
import Derived.Lib.IndexAny
import Derived.Test.YtkenlcaifhffoaaDoorMSE
/- Houses: the document's names (b_ x_ q_ e_). -/
section
namespace Go.Eng.YtkenlcaifhffoaaDoor
open Go Go.Eng Go.Proofs
variable (W : World)
set_option linter.unusedSimpArgs false
set_option maxRecDepth 100000
set_option linter.unusedVariables false
set_option maxHeartbeats 4000000
theorem contains1H_ok (s : List UInt8) (c : UInt8) : Pure Tryd.prog W 88 [.str s, .str [c]] (.bool (s.contains c)) := by
  rw [Lib.contains_iff_indexByte]
  exact Pure.of_below Tryd.func88 rfl (by decide) rfl rfl fun w _ _ => (Tryd.strings_Contains_one ⟨s.toArray⟩ c w).mono fun _ _ h => ⟨h.1, h.2 ▸ RowKit.Below.refl _ _⟩
theorem valid_encH : ∀ (l : List Nat) (n : Nat), (∀ r ∈ l, validR (r : Int)) → (encHL l).length ≤ n → Lib.validGoD n (encHL l) = true
  | [], n, _, _ => by cases n <;> simp [encHL, Lib.validGoD]
  | r :: l, n, h, hn => by
    have hd := dec_enc r (h r (by simp)) (encHL l)
    have hp : 0 < (Lib.encodeRune r).length := by
      have := Lib.encodeRuneZ_length r
      exact Nat.lt_of_lt_of_le Nat.zero_lt_one (by simpa [Lib.encodeRune] using this.1)
    have hne : encHL (r :: l) ≠ [] := by
      rw [encHL]
      intro e
      have := congrArg List.length e
      rw [List.length_append, List.length_nil] at this
      omega
    rw [encHL, List.length_append] at hn
    obtain ⟨n, rfl⟩ : ∃ k, n = k + 1 := ⟨n - 1, by omega⟩
    rw [Lib.validGoD, if_neg hne, ← dec_LV hne, encHL, hd]
    rw [if_neg ?_, List.drop_left]
    · exact valid_encH l n (fun q hq => h q (List.mem_cons_of_mem _ hq)) (by omega)
    · rintro ⟨h1, h2⟩
      dsimp only at h1 h2
      rw [h1] at h2
      revert h2
      decide
theorem valid_clean {s : List UInt8} (h : cleanL s = s) : Lib.validD s = true := by
  have h1 := clean_pos h
  have := valid_encH ((runes s).map Prod.fst) s.length (fun r hr => by
    obtain ⟨p, hp, rfl⟩ := List.mem_map.1 hr
    exact valid_of_width (h1 p hp)) (by rw [enc_clean h]; exact Nat.le_refl _)
  rw [enc_clean h] at this
  exact this
theorem isNameR_ok (hT : Tabs W) (s : List UInt8) (hs : s.length ≤ 1048576) : Pure Tryd.prog W 72 [.str s] (.bool (nameB s)) := by
  have hcl := cleanOf_ok W s hs
  have hrv := runesV_eqH s
  have hct := contains1H_ok W s 32
  have hvd := valid_ok W hT s (by omega)
  have hvc := valid_clean (s := s)
  unfold nameB
  have hlm : (List.map runeI ((runes s).map Prod.fst)).length = (runes s).length := by simp
  generalize (runes s).map Prod.fst = R at *
  generalize (runes s).length = N at *
  by_cases h1 : 0 < N
  · by_cases h2 : N ≤ 20
    · by_cases h3 : cleanL s = s
      · rw [h3] at hcl
        rw [hvc h3] at hvd
        cases h4 : s.contains 32 with
        | true =>
          rw [h4] at hct
          refine Pure.of (acalls_of_vc (drawOk W) Tryd.func72 rfl (by decide) (by decide) rfl ?_)
          refine g0_ ?_
          rw [hrv]
          refine g1_ ?_
          refine (hcl).use ?_; refine g0_ ?_
          refine g1_ ?_
          refine (hct).use ?_; refine g0_ ?_
          refine g1_ ?_
          exact .of_eq (by simp [h1, h2, h3])
        | false =>
          rw [h4] at hct
          refine Pure.of (acalls_of_vc (drawOk W) Tryd.func72 rfl (by decide) (by decide) rfl ?_)
          refine g0_ ?_
          rw [hrv]
          refine g1_ ?_
          refine (hcl).use ?_; refine g0_ ?_
          refine g1_ ?_
          refine (hct).use ?_; refine g0_ ?_
          refine g1_ ?_
          refine (hvd).use ?_; refine g0_ ?_
          refine g1_ ?_
          exact .of_eq (by simp [h1, h2, h3])
      · refine Pure.of (acalls_of_vc (drawOk W) Tryd.func72 rfl (by decide) (by decide) rfl ?_)
        refine g0_ ?_
        rw [hrv]
        refine g1_ ?_
        refine (hcl).use ?_; refine g0_ ?_
        refine g1_ ?_
        exact .of_eq (by simp [h1, h2, h3])
    · refine Pure.of (acalls_of_vc (drawOk W) Tryd.func72 rfl (by decide) (by decide) rfl ?_)
      refine g0_ ?_
      rw [hrv]
      refine g1_ ?_
      exact .of_eq (by simp [h1, h2])
  · refine Pure.of (acalls_of_vc (drawOk W) Tryd.func72 rfl (by decide) (by decide) rfl ?_)
    refine g0_ ?_
    rw [hrv]
    refine g1_ ?_
    exact .of_eq (by simp [h1])
end Go.Eng.YtkenlcaifhffoaaDoor
end

/- Houses: the document's check (b_ x_ q_ e_). -/
section
namespace Go.Eng.YtkenlcaifhffoaaDoor
open Go Go.Eng Go.Proofs
variable (W : World)
set_option linter.unusedSimpArgs false
set_option maxRecDepth 100000
set_option linter.unusedVariables false
set_option maxHeartbeats 8000000
theorem checkHR_ok (hT : Tabs W) (h : Hs) (hok : h.ok) : Pure Tryd.prog W 26 [encHs h] (.int .i64 (chkH h)) := by
  obtain ⟨hsl, hse, hvl, hvv, hnx⟩ := hok
  obtain ⟨ses, views, next⟩ := h
  dsimp only at hsl hse hvl hvv hnx
  have hm1 : (ses.map encSes).length = ses.length := List.length_map _
  have hm2 : (views.map encVw).length = views.length := List.length_map _
  unfold chkH encHs
  dsimp only
  by_cases h1 : 4 < ses.length ∨ 4 < views.length
  · rw [if_pos h1]
    by_cases h2 : 4 < ses.length
    · refine Pure.of (acalls_of_vc (drawOk W) Tryd.func26 rfl (by decide) (by decide) rfl ?_)
      (refine g0_ ?_; repeat (refine n1_ fun b_ => ?_; refine g0_ ?_))
      refine g1_ ?_
      exact .refl _
    · have h3 : 4 < views.length := by omega
      refine Pure.of (acalls_of_vc (drawOk W) Tryd.func26 rfl (by decide) (by decide) rfl ?_)
      (refine g0_ ?_; repeat (refine n1_ fun b_ => ?_; refine g0_ ?_))
      refine g1_ ?_
      exact .refl _
  · rw [if_neg h1]
    have h2 : ses.length ≤ 4 := by omega
    have h3 : views.length ≤ 4 := by omega
    generalize hE : chkSs next ses [] [] = E
    refine Pure.of (acalls_of_vc (drawOk W) Tryd.func26 rfl (by decide) (by decide) rfl ?_)
    (refine g0_ ?_; repeat (refine n1_ fun b_ => ?_; refine g0_ ?_))
    refine g1_ ?_
    obtain ⟨bH, rfl⟩ : ∃ z, z = b_ := ⟨_, rfl⟩
    refine' loopI (α := Nat × Nat × (List Int)) (fun (i, bm, met) => [(30, .int .i64 i), (3, accV bm 1 (panesV met))]) [(1, _), (28, _), (29, _)] (fun (i, bm, met) => ⟨bH, .row 3 [.agg [.sl 4 (ses.map encSes), .sl 3 (views.map encVw), .int .i64 next]] 0⟩ :: accM bm 1 (panesV met)) (fun (i, bm, met) => i ≤ ses.length ∧ met.length ≤ 72 * i ∧ chkSs next (ses.drop i) ((ses.take i).map Ses.name) met = E) (fun (i, bm, met) => ses.length - i) (0, 0, []) ?_ ?_
    · exact ⟨Nat.zero_le _, Nat.zero_le _, hE⟩
    clear hE
    rintro ⟨i, bm, met⟩ ⟨hi, hml, hE⟩
    by_cases hie : i = ses.length
    · subst hie
      rw [List.drop_length, chkSs] at hE
      subst hE
      rw [if_neg (by decide)]
      by_cases h4 : next < 1 ∨ 9999 < next
      · rw [if_pos h4]
        by_cases h5 : next < 1
        · refine g1_ ?_
          exact .refl _
        · have h6 : 9999 < next := by omega
          refine g1_ ?_
          exact .refl _
      · rw [if_neg h4]
        have h5 : 1 ≤ next ∧ next ≤ 9999 := by omega
        generalize hV : chkVs ses.length views = V
        refine g1_ ?_
        refine' loopI (α := Nat) (fun k => [(146, .int .i64 k)]) [(1, _), (144, _), (145, _)] (fun k => [⟨bH, .row 3 [.agg [.sl 4 (ses.map encSes), .sl 3 (views.map encVw), .int .i64 next]] 0⟩]) (fun k => k ≤ views.length ∧ chkVs ses.length (views.drop k) = V) (fun k => views.length - k) 0 ?_ ?_
        · exact ⟨Nat.zero_le _, hV⟩
        clear hV
        rintro k ⟨hk, hV⟩
        by_cases hke : k = views.length
        · subst hke
          rw [List.drop_length, chkVs] at hV
          subst hV
          refine g1_ ?_
          exact .refl _
        · have hkl : k < views.length := by omega
          obtain ⟨v, hv⟩ : ∃ v, views[k]? = some v := ⟨_, List.getElem?_eq_getElem hkl⟩
          rw [drop_cons_of hv, chkVs] at hV
          have hvk := hvv v (List.mem_of_getElem? hv)
          unfold chkV at hV
          by_cases a1 : v.s < 0 ∨ (ses.length : Int) ≤ v.s
          · rw [if_pos a1, if_pos (by decide)] at hV
            subst hV
            by_cases a2 : v.s < 0
            · (refine g1_ ?_; repeat (refine n1_ fun b_ => ?_; refine g1_ ?_))
              exact .refl _
            · have a3 : (ses.length : Int) ≤ v.s := by omega
              (refine g1_ ?_; repeat (refine n1_ fun b_ => ?_; refine g1_ ?_))
              exact .refl _
          · have a2 : 0 ≤ v.s ∧ v.s < (ses.length : Int) := by omega
            rw [if_neg a1] at hV
            by_cases b1 : v.w < 1 ∨ 120 < v.w ∨ v.h < 1 ∨ 60 < v.h
            · rw [if_pos b1, if_pos (by decide)] at hV
              subst hV
              by_cases b2 : v.w < 1
              · (refine g1_ ?_; repeat (refine n1_ fun b_ => ?_; refine g1_ ?_))
                exact .refl _
              · by_cases b3 : 120 < v.w
                · (refine g1_ ?_; repeat (refine n1_ fun b_ => ?_; refine g1_ ?_))
                  exact .refl _
                · by_cases b4 : v.h < 1
                  · (refine g1_ ?_; repeat (refine n1_ fun b_ => ?_; refine g1_ ?_))
                    exact .refl _
                  · have b5 : 60 < v.h := by omega
                    (refine g1_ ?_; repeat (refine n1_ fun b_ => ?_; refine g1_ ?_))
                    exact .refl _
            · rw [if_neg b1, if_neg (by decide)] at hV
              have b2 : 1 ≤ v.w ∧ v.w ≤ 120 ∧ 1 ≤ v.h ∧ v.h ≤ 60 := by omega
              (refine g1_ ?_; repeat (refine n1_ fun b_ => ?_; refine g1_ ?_))
              refine nx_ (k + 1) ?_ ?_
              · exact ⟨hkl, hV⟩
              · ((try dsimp only); (try simp only [List.length_drop, List.length_take, List.length_append, List.length_cons, List.length_nil, List.length_map] at *); omega)
    · have hil : i < ses.length := by omega
      obtain ⟨x, hx⟩ : ∃ x, ses[i]? = some x := ⟨_, List.getElem?_eq_getElem hil⟩
      rw [drop_cons_of hx, chkSs] at hE
      obtain ⟨hxn, hxw, hxx, -, -⟩ := hse x (List.mem_of_getElem? hx)
      have hn := isNameR_ok W hT x.name hxn
      have hwm : (x.wins.map encWin).length = x.wins.length := List.length_map _
      generalize hS : chkS1 x ((ses.take i).map Ses.name) = S1 at hE
      unfold chkS1 at hS
      cases hnm : nameB x.name with
      | false =>
        rw [hnm, if_pos rfl] at hS
        rw [hnm] at hn
        subst hS
        rw [if_pos (by decide)] at hE
        subst hE
        (refine g1_ ?_; repeat (refine n1_ fun b_ => ?_; refine g1_ ?_))
        refine hn.use ?_
        refine g1_ ?_
        exact .refl _
      | true =>
        rw [hnm, if_neg (by decide)] at hS
        rw [hnm] at hn
        by_cases hin : x.name ∈ (ses.take i).map Ses.name
        · rw [if_pos hin] at hS
          subst hS
          rw [if_pos (by decide)] at hE
          subst hE
          (refine g1_ ?_; repeat (refine n1_ fun b_ => ?_; refine g1_ ?_))
          refine hn.use ?_
          refine g1_ ?_
          obtain ⟨bx, rfl⟩ : ∃ z, z = b_ := ⟨_, rfl⟩
          refine' loopI (α := Nat) (fun k => [(44, .int .i64 k)]) [(1, _), (3, _), (5, _), (28, _), (29, _), (30, _), (42, _), (43, _)] (fun k => ⟨bx, .row 4 [.agg [.str x.name, .sl 8 (x.wins.map encWin), .int .i64 x.act, .int .i64 x.bef]] 0⟩ :: ⟨bH, .row 3 [.agg [.sl 4 (ses.map encSes), .sl 3 (views.map encVw), .int .i64 next]] 0⟩ :: accM bm 1 (panesV met)) (fun k => k ≤ i ∧ x.name ∉ (ses.take k).map Ses.name) (fun k => i - k) 0 ?_ ?_
          · exact ⟨Nat.zero_le _, by simp⟩
          rintro k ⟨hk, hkn⟩
          have htl : ((ses.take i).map encSes).length = i := by rw [List.length_map, List.length_take]; omega
          by_cases hki : k = i
          · exfalso
            exact hkn (hki ▸ hin)
          · have hkl : k < (ses.take i).length := by rw [List.length_take]; omega
            obtain ⟨o, ho⟩ : ∃ o, (ses.take i)[k]? = some o := ⟨_, List.getElem?_eq_getElem hkl⟩
            have ho2 : ses[k]? = some o := by rwa [List.getElem?_take, if_pos (by omega)] at ho
            by_cases hon : o.name = x.name
            · (refine g1_ ?_; repeat (refine n1_ fun b_ => ?_; refine g1_ ?_))
              exact .refl _
            · (refine g1_ ?_; repeat (refine n1_ fun b_ => ?_; refine g1_ ?_))
              refine nx_ (k + 1) ?_ ?_
              · exact ⟨by omega, by rw [take_snoc_of ho2, List.map_append, List.mem_append, not_or]; exact ⟨hkn, by simpa using fun h => hon h.symm⟩⟩
              · ((try dsimp only); (try simp only [List.length_drop, List.length_take, List.length_append, List.length_cons, List.length_nil, List.length_map] at *); omega)
        · rw [if_neg hin] at hS
          (refine g1_ ?_; repeat (refine n1_ fun b_ => ?_; refine g1_ ?_))
          refine hn.use ?_
          refine g1_ ?_
          obtain ⟨bx, rfl⟩ : ∃ z, z = b_ := ⟨_, rfl⟩
          refine' loopI (α := Nat) (fun k => [(44, .int .i64 k)]) [(1, _), (3, _), (5, _), (28, _), (29, _), (30, _), (42, _), (43, _)] (fun k => ⟨bx, .row 4 [.agg [.str x.name, .sl 8 (x.wins.map encWin), .int .i64 x.act, .int .i64 x.bef]] 0⟩ :: ⟨bH, .row 3 [.agg [.sl 4 (ses.map encSes), .sl 3 (views.map encVw), .int .i64 next]] 0⟩ :: accM bm 1 (panesV met)) (fun k => k ≤ i ∧ x.name ∉ (ses.take k).map Ses.name) (fun k => i - k) 0 ?_ ?_
          · exact ⟨Nat.zero_le _, by simp⟩
          rintro k ⟨hk, hkn⟩
          have htl : ((ses.take i).map encSes).length = i := by rw [List.length_map, List.length_take]; omega
          by_cases hki : k = i
          · subst k
            clear hkn
            refine g1_ ?_
            by_cases hw6 : x.wins.length < 1 ∨ 6 < x.wins.length
            · rw [if_pos hw6] at hS
              subst hS
              rw [if_pos (by decide)] at hE
              subst hE
              by_cases hw1 : x.wins.length < 1
              · refine g1_ ?_
                exact .refl _
              · have hw7 : 6 < x.wins.length := by omega
                refine g1_ ?_
                exact .refl _
            · rw [if_neg hw6] at hS
              have hw7 : 1 ≤ x.wins.length ∧ x.wins.length ≤ 6 := by omega
              by_cases ha : x.act < 0 ∨ (x.wins.length : Int) ≤ x.act ∨ x.bef < 0 ∨ (x.wins.length : Int) ≤ x.bef
              · rw [if_pos ha] at hS
                subst hS
                rw [if_pos (by decide)] at hE
                subst hE
                by_cases ha1 : x.act < 0 ∨ x.bef < 0
                · have ha2 : min x.act x.bef < 0 := by omega
                  refine g1_ ?_
                  exact .refl _
                · have ha2 : ¬ min x.act x.bef < 0 := by omega
                  have ha3 : (x.wins.length : Int) ≤ max x.act x.bef := by omega
                  refine g1_ ?_
                  exact .refl _
              · rw [if_neg ha] at hS
                subst hS
                rw [if_neg (by decide)] at hE
                have ha1 : 0 ≤ x.act ∧ x.act < (x.wins.length : Int) ∧ 0 ≤ x.bef ∧ x.bef < (x.wins.length : Int) := by omega
                have hsn : (ses.take (i + 1)).map Ses.name = (ses.take i).map Ses.name ++ [x.name] := by rw [take_snoc_of hx, List.map_append]; rfl
                rw [← hsn] at hE
                clear hsn
                refine g1_ ?_
                generalize hR : chkWs next x.wins met = R at hE
                refine' loopI (α := Nat × Nat × (List Int)) (fun (j, bm, met) => [(81, .int .i64 j), (3, accV bm 1 (panesV met))]) [(1, _), (28, _), (29, _), (30, _), (79, _), (80, _)] (fun (j, bm, met) => ⟨bH, .row 3 [.agg [.sl 4 (ses.map encSes), .sl 3 (views.map encVw), .int .i64 next]] 0⟩ :: accM bm 1 (panesV met)) (fun (j, bm, met) => j ≤ x.wins.length ∧ met.length ≤ 72 * i + 12 * j ∧ chkWs next (x.wins.drop j) met = R) (fun (j, bm, met) => x.wins.length - j) (0, bm, met) ?_ ?_
                · exact ⟨Nat.zero_le _, hml, hR⟩
                clear hR hml
                rintro ⟨j, bm, met⟩ ⟨hj, hml, hR⟩
                by_cases hje : j = x.wins.length
                · subst hje
                  rw [List.drop_length, chkWs] at hR
                  subst hR
                  dsimp only at hE
                  rw [if_neg (by decide)] at hE
                  refine g1_ ?_
                  refine nx_ (i + 1, bm, met) ?_ ?_
                  · exact ⟨hil, by omega, hE⟩
                  · ((try dsimp only); (try simp only [List.length_drop, List.length_take, List.length_append, List.length_cons, List.length_nil, List.length_map] at *); omega)
                · have hjl : j < x.wins.length := by omega
                  obtain ⟨w, hw⟩ : ∃ w, x.wins[j]? = some w := ⟨_, List.getElem?_eq_getElem hjl⟩
                  rw [drop_cons_of hw, chkWs] at hR
                  generalize hS : chkW next w met = S at hR
                  unfold chkW at hS
                  obtain ⟨hwn, hws, -, -⟩ := hxx w (List.mem_of_getElem? hw)
                  have hn2 := isNameR_ok W hT w.name hwn
                  have hck := checkR_ok W w.s hws
                  have hce := chk_eq w.s
                  have hcp := @chk_panes w.s
                  have hvr := @vis_right w.s
                  rw [encSpl_eta] at hck
                  rw [hce] at hS hvr
                  clear hn hws hwn hce
                  cases hnm2 : nameB w.name with
                  | false =>
                    rw [hnm2, if_pos rfl] at hS
                    rw [hnm2] at hn2
                    subst hS
                    rw [if_pos (by dsimp only; decide)] at hR
                    subst hR
                    rw [if_pos (by dsimp only; decide)] at hE
                    subst hE
                    (refine g1_ ?_; repeat (refine n1_ fun b_ => ?_; refine g1_ ?_))
                    refine hn2.use ?_
                    refine g1_ ?_
                    exact .refl _
                  | true =>
                    rw [hnm2, if_neg (by decide)] at hS
                    rw [hnm2] at hn2
                    generalize chkT w.s 0 [] = st at *
                    obtain ⟨c, qs⟩ := st
                    dsimp only at *
                    by_cases hv0 : c = 0
                    · subst hv0
                      rw [if_neg (by decide)] at hS
                      obtain rfl := hcp rfl
                      obtain ⟨-, -, hl12, -⟩ := hvr rfl
                      clear hvr hcp
                      generalize panesT w.s = l at *
                      have hln := panesV_len l
                      have hc1 := containsI_ok W l w.act (by omega)
                      have hc2 := containsI_ok W l w.bef (by omega)
                      by_cases hact : w.act ∈ l
                      · rw [decide_eq_true hact] at hc1
                        by_cases hb : w.bef ≠ 0 ∧ w.bef ∉ l
                        · rw [if_pos (.inr hb)] at hS
                          rw [decide_eq_false hb.2] at hc2
                          have hb0 := hb.1
                          subst hS
                          rw [if_pos (by dsimp only; decide)] at hR
                          subst hR
                          rw [if_pos (by dsimp only; decide)] at hE
                          subst hE
                          (refine g1_ ?_; repeat (refine n1_ fun b_ => ?_; refine g1_ ?_))
                          refine hn2.use ?_
                          refine g1_ ?_
                          refine hck.use ?_
                          refine g1_ ?_
                          refine hc1.use ?_
                          refine g1_ ?_
                          refine hc2.use ?_
                          refine g1_ ?_
                          exact .refl _
                        · rw [if_neg (fun h => h.elim (fun h => h hact) hb)] at hS
                          by_cases hb0 : w.bef = 0
                          · (refine g1_ ?_; repeat (refine n1_ fun b_ => ?_; refine g1_ ?_))
                            refine hn2.use ?_
                            refine g1_ ?_
                            refine hck.use ?_
                            refine g1_ ?_
                            refine hc1.use ?_
                            refine g1_ ?_
                            refine' loopI (α := Nat × Nat × (List Int)) (fun (k, bm, met) => [(117, .int .i64 k), (3, accV bm 1 (panesV met))]) [(1, _), (28, _), (29, _), (30, _), (79, _), (80, _), (81, _), (115, _), (116, _)] (fun (k, bm, met) => ⟨bH, .row 3 [.agg [.sl 4 (ses.map encSes), .sl 3 (views.map encVw), .int .i64 next]] 0⟩ :: accM bm 1 (panesV met)) (fun (k, bm, met) => k ≤ l.length ∧ met.length ≤ 72 * i + 12 * j + k ∧ chkPs next (l.drop k) met = S) (fun (k, bm, met) => l.length - k) (0, bm, met) ?_ ?_
                            · exact ⟨Nat.zero_le _, hml, hS⟩
                            clear hS
                            rintro ⟨k, bm, met⟩ ⟨hk, hml, hS⟩
                            by_cases hke : k = l.length
                            · subst hke
                              rw [List.drop_length, chkPs] at hS
                              subst hS
                              rw [if_neg (by dsimp only; decide)] at hR
                              refine g1_ ?_
                              refine nx_ (j + 1, bm, met) ?_ ?_
                              · exact ⟨hjl, (show met.length ≤ 72 * i + 12 * (j + 1) by omega), hR⟩
                              · ((try dsimp only); (try simp only [List.length_drop, List.length_take, List.length_append, List.length_cons, List.length_nil, List.length_map] at *); omega)
                            · have hkl : k < l.length := by omega
                              obtain ⟨q, hq⟩ : ∃ q, l[k]? = some q := ⟨_, List.getElem?_eq_getElem hkl⟩
                              rw [drop_cons_of hq, chkPs] at hS
                              rcases met with _ | ⟨m0, met⟩
                              · have hct := containsI_ok W ([] : List Int) q (by simp only [List.length_cons, List.length_nil] at hml ⊢; omega)
                                by_cases hqm : q ∈ ([] : List Int)
                                · rw [if_pos hqm] at hS
                                  rw [decide_eq_true hqm] at hct
                                  subst hS
                                  rw [if_pos (by dsimp only; decide)] at hR
                                  subst hR
                                  rw [if_pos (by dsimp only; decide)] at hE
                                  subst hE
                                  refine g1_ ?_
                                  refine hct.borrow rfl rfl (fun j hj => ?_) ?_
                                  · match j, hj with
                                    | 0, _ => exact .nils 1
                                    | 1, _ => exact .refl _
                                  refine g1_ ?_
                                  exact .refl _
                                · rw [if_neg hqm] at hS
                                  rw [decide_eq_false hqm] at hct
                                  by_cases hqn : next ≤ q
                                  · rw [if_pos hqn] at hS
                                    subst hS
                                    rw [if_pos (by dsimp only; decide)] at hR
                                    subst hR
                                    rw [if_pos (by dsimp only; decide)] at hE
                                    subst hE
                                    refine g1_ ?_
                                    refine hct.borrow rfl rfl (fun j hj => ?_) ?_
                                    · match j, hj with
                                      | 0, _ => exact .nils 1
                                      | 1, _ => exact .refl _
                                    refine g1_ ?_
                                    exact .refl _
                                  · rw [if_neg hqn] at hS
                                    have hmm := hml
                                    simp only [List.length_cons, List.length_nil] at hmm
                                    refine g1_ ?_
                                    refine hct.borrow rfl rfl (fun j hj => ?_) ?_
                                    · match j, hj with
                                      | 0, _ => exact .nils 1
                                      | 1, _ => exact .refl _
                                    refine g1_ ?_
                                    refine .inl ?_
                                    (refine g0_ ?_; repeat (refine n1_ fun b_ => ?_; refine g0_ ?_))
                                    try rw [show (List.map (PV.int .i64) met).length + 1 + [PV.int .i64 q].length = (List.map (PV.int .i64) (met ++ [q])).length + 1 from by simp]
                                    try rw [show (PV.int .i64 m0 :: List.map (PV.int .i64) met) ++ [PV.int .i64 q] = panesV (m0 :: met ++ [q]) from by simp [panesV]]
                                    refine nx_ (k + 1, b_, ([] : List Int) ++ [q]) ?_ ?_
                                    · exact ⟨hkl, by simp only [List.length_append, List.length_cons, List.length_nil]; omega, hS⟩
                                    · ((try dsimp only); (try simp only [List.length_drop, List.length_take, List.length_append, List.length_cons, List.length_nil, List.length_map] at *); omega)
                              · have hct := containsI_ok W (m0 :: met) q (by simp only [List.length_cons, List.length_nil] at hml ⊢; omega)
                                by_cases hqm : q ∈ (m0 :: met)
                                · rw [if_pos hqm] at hS
                                  rw [decide_eq_true hqm] at hct
                                  subst hS
                                  rw [if_pos (by dsimp only; decide)] at hR
                                  subst hR
                                  rw [if_pos (by dsimp only; decide)] at hE
                                  subst hE
                                  refine g1_ ?_
                                  refine hct.borrow rfl rfl (fun j hj => ?_) ?_
                                  · match j, hj with
                                    | 0, _ => exact frz_row lk_ _ rfl
                                    | 1, _ => exact .refl _
                                  refine g1_ ?_
                                  exact .refl _
                                · rw [if_neg hqm] at hS
                                  rw [decide_eq_false hqm] at hct
                                  by_cases hqn : next ≤ q
                                  · rw [if_pos hqn] at hS
                                    subst hS
                                    rw [if_pos (by dsimp only; decide)] at hR
                                    subst hR
                                    rw [if_pos (by dsimp only; decide)] at hE
                                    subst hE
                                    refine g1_ ?_
                                    refine hct.borrow rfl rfl (fun j hj => ?_) ?_
                                    · match j, hj with
                                      | 0, _ => exact frz_row lk_ _ rfl
                                      | 1, _ => exact .refl _
                                    refine g1_ ?_
                                    exact .refl _
                                  · rw [if_neg hqn] at hS
                                    have hmm := hml
                                    simp only [List.length_cons, List.length_nil] at hmm
                                    refine g1_ ?_
                                    refine hct.borrow rfl rfl (fun j hj => ?_) ?_
                                    · match j, hj with
                                      | 0, _ => exact frz_row lk_ _ rfl
                                      | 1, _ => exact .refl _
                                    refine g1_ ?_
                                    refine .inl ?_
                                    (refine g0_ ?_; repeat (refine n2_ fun b_ => ?_; refine g0_ ?_))
                                    try rw [show (List.map (PV.int .i64) met).length + 1 + [PV.int .i64 q].length = (List.map (PV.int .i64) (met ++ [q])).length + 1 from by simp]
                                    try rw [show (PV.int .i64 m0 :: List.map (PV.int .i64) met) ++ [PV.int .i64 q] = panesV (m0 :: met ++ [q]) from by simp [panesV]]
                                    refine nx_ (k + 1, b_, (m0 :: met) ++ [q]) ?_ ?_
                                    · exact ⟨hkl, by simp only [List.length_append, List.length_cons, List.length_nil]; omega, hS⟩
                                    · ((try dsimp only); (try simp only [List.length_drop, List.length_take, List.length_append, List.length_cons, List.length_nil, List.length_map] at *); omega)
                          · have hbl : w.bef ∈ l := Decidable.not_not.1 fun h => hb ⟨hb0, h⟩
                            rw [decide_eq_true hbl] at hc2
                            (refine g1_ ?_; repeat (refine n1_ fun b_ => ?_; refine g1_ ?_))
                            refine hn2.use ?_
                            refine g1_ ?_
                            refine hck.use ?_
                            refine g1_ ?_
                            refine hc1.use ?_
                            refine g1_ ?_
                            refine hc2.use ?_
                            refine g1_ ?_
                            refine' loopI (α := Nat × Nat × (List Int)) (fun (k, bm, met) => [(117, .int .i64 k), (3, accV bm 1 (panesV met))]) [(1, _), (28, _), (29, _), (30, _), (79, _), (80, _), (81, _), (115, _), (116, _)] (fun (k, bm, met) => ⟨bH, .row 3 [.agg [.sl 4 (ses.map encSes), .sl 3 (views.map encVw), .int .i64 next]] 0⟩ :: accM bm 1 (panesV met)) (fun (k, bm, met) => k ≤ l.length ∧ met.length ≤ 72 * i + 12 * j + k ∧ chkPs next (l.drop k) met = S) (fun (k, bm, met) => l.length - k) (0, bm, met) ?_ ?_
                            · exact ⟨Nat.zero_le _, hml, hS⟩
                            clear hS
                            rintro ⟨k, bm, met⟩ ⟨hk, hml, hS⟩
                            by_cases hke : k = l.length
                            · subst hke
                              rw [List.drop_length, chkPs] at hS
                              subst hS
                              rw [if_neg (by dsimp only; decide)] at hR
                              refine g1_ ?_
                              refine nx_ (j + 1, bm, met) ?_ ?_
                              · exact ⟨hjl, (show met.length ≤ 72 * i + 12 * (j + 1) by omega), hR⟩
                              · ((try dsimp only); (try simp only [List.length_drop, List.length_take, List.length_append, List.length_cons, List.length_nil, List.length_map] at *); omega)
                            · have hkl : k < l.length := by omega
                              obtain ⟨q, hq⟩ : ∃ q, l[k]? = some q := ⟨_, List.getElem?_eq_getElem hkl⟩
                              rw [drop_cons_of hq, chkPs] at hS
                              rcases met with _ | ⟨m0, met⟩
                              · have hct := containsI_ok W ([] : List Int) q (by simp only [List.length_cons, List.length_nil] at hml ⊢; omega)
                                by_cases hqm : q ∈ ([] : List Int)
                                · rw [if_pos hqm] at hS
                                  rw [decide_eq_true hqm] at hct
                                  subst hS
                                  rw [if_pos (by dsimp only; decide)] at hR
                                  subst hR
                                  rw [if_pos (by dsimp only; decide)] at hE
                                  subst hE
                                  refine g1_ ?_
                                  refine hct.borrow rfl rfl (fun j hj => ?_) ?_
                                  · match j, hj with
                                    | 0, _ => exact .nils 1
                                    | 1, _ => exact .refl _
                                  refine g1_ ?_
                                  exact .refl _
                                · rw [if_neg hqm] at hS
                                  rw [decide_eq_false hqm] at hct
                                  by_cases hqn : next ≤ q
                                  · rw [if_pos hqn] at hS
                                    subst hS
                                    rw [if_pos (by dsimp only; decide)] at hR
                                    subst hR
                                    rw [if_pos (by dsimp only; decide)] at hE
                                    subst hE
                                    refine g1_ ?_
                                    refine hct.borrow rfl rfl (fun j hj => ?_) ?_
                                    · match j, hj with
                                      | 0, _ => exact .nils 1
                                      | 1, _ => exact .refl _
                                    refine g1_ ?_
                                    exact .refl _
                                  · rw [if_neg hqn] at hS
                                    have hmm := hml
                                    simp only [List.length_cons, List.length_nil] at hmm
                                    refine g1_ ?_
                                    refine hct.borrow rfl rfl (fun j hj => ?_) ?_
                                    · match j, hj with
                                      | 0, _ => exact .nils 1
                                      | 1, _ => exact .refl _
                                    refine g1_ ?_
                                    refine .inl ?_
                                    (refine g0_ ?_; repeat (refine n1_ fun b_ => ?_; refine g0_ ?_))
                                    try rw [show (List.map (PV.int .i64) met).length + 1 + [PV.int .i64 q].length = (List.map (PV.int .i64) (met ++ [q])).length + 1 from by simp]
                                    try rw [show (PV.int .i64 m0 :: List.map (PV.int .i64) met) ++ [PV.int .i64 q] = panesV (m0 :: met ++ [q]) from by simp [panesV]]
                                    refine nx_ (k + 1, b_, ([] : List Int) ++ [q]) ?_ ?_
                                    · exact ⟨hkl, by simp only [List.length_append, List.length_cons, List.length_nil]; omega, hS⟩
                                    · ((try dsimp only); (try simp only [List.length_drop, List.length_take, List.length_append, List.length_cons, List.length_nil, List.length_map] at *); omega)
                              · have hct := containsI_ok W (m0 :: met) q (by simp only [List.length_cons, List.length_nil] at hml ⊢; omega)
                                by_cases hqm : q ∈ (m0 :: met)
                                · rw [if_pos hqm] at hS
                                  rw [decide_eq_true hqm] at hct
                                  subst hS
                                  rw [if_pos (by dsimp only; decide)] at hR
                                  subst hR
                                  rw [if_pos (by dsimp only; decide)] at hE
                                  subst hE
                                  refine g1_ ?_
                                  refine hct.borrow rfl rfl (fun j hj => ?_) ?_
                                  · match j, hj with
                                    | 0, _ => exact frz_row lk_ _ rfl
                                    | 1, _ => exact .refl _
                                  refine g1_ ?_
                                  exact .refl _
                                · rw [if_neg hqm] at hS
                                  rw [decide_eq_false hqm] at hct
                                  by_cases hqn : next ≤ q
                                  · rw [if_pos hqn] at hS
                                    subst hS
                                    rw [if_pos (by dsimp only; decide)] at hR
                                    subst hR
                                    rw [if_pos (by dsimp only; decide)] at hE
                                    subst hE
                                    refine g1_ ?_
                                    refine hct.borrow rfl rfl (fun j hj => ?_) ?_
                                    · match j, hj with
                                      | 0, _ => exact frz_row lk_ _ rfl
                                      | 1, _ => exact .refl _
                                    refine g1_ ?_
                                    exact .refl _
                                  · rw [if_neg hqn] at hS
                                    have hmm := hml
                                    simp only [List.length_cons, List.length_nil] at hmm
                                    refine g1_ ?_
                                    refine hct.borrow rfl rfl (fun j hj => ?_) ?_
                                    · match j, hj with
                                      | 0, _ => exact frz_row lk_ _ rfl
                                      | 1, _ => exact .refl _
                                    refine g1_ ?_
                                    refine .inl ?_
                                    (refine g0_ ?_; repeat (refine n2_ fun b_ => ?_; refine g0_ ?_))
                                    try rw [show (List.map (PV.int .i64) met).length + 1 + [PV.int .i64 q].length = (List.map (PV.int .i64) (met ++ [q])).length + 1 from by simp]
                                    try rw [show (PV.int .i64 m0 :: List.map (PV.int .i64) met) ++ [PV.int .i64 q] = panesV (m0 :: met ++ [q]) from by simp [panesV]]
                                    refine nx_ (k + 1, b_, (m0 :: met) ++ [q]) ?_ ?_
                                    · exact ⟨hkl, by simp only [List.length_append, List.length_cons, List.length_nil]; omega, hS⟩
                                    · ((try dsimp only); (try simp only [List.length_drop, List.length_take, List.length_append, List.length_cons, List.length_nil, List.length_map] at *); omega)
                      · rw [if_pos (.inl hact)] at hS
                        rw [decide_eq_false hact] at hc1
                        subst hS
                        rw [if_pos (by dsimp only; decide)] at hR
                        subst hR
                        rw [if_pos (by dsimp only; decide)] at hE
                        subst hE
                        (refine g1_ ?_; repeat (refine n1_ fun b_ => ?_; refine g1_ ?_))
                        refine hn2.use ?_
                        refine g1_ ?_
                        refine hck.use ?_
                        refine g1_ ?_
                        refine hc1.use ?_
                        refine g1_ ?_
                        exact .refl _
                    · rw [if_pos hv0] at hS
                      subst hS
                      rw [if_pos hv0] at hR
                      subst hR
                      rw [if_pos hv0] at hE
                      subst hE
                      (refine g1_ ?_; repeat (refine n1_ fun b_ => ?_; refine g1_ ?_))
                      refine hn2.use ?_
                      refine g1_ ?_
                      refine hck.use ?_
                      refine g1_ ?_
                      exact .of_eq (by dsimp only; rw [if_pos hv0])
          · have hkl : k < (ses.take i).length := by rw [List.length_take]; omega
            obtain ⟨o, ho⟩ : ∃ o, (ses.take i)[k]? = some o := ⟨_, List.getElem?_eq_getElem hkl⟩
            have ho2 : ses[k]? = some o := by rwa [List.getElem?_take, if_pos (by omega)] at ho
            by_cases hon : o.name = x.name
            · exfalso
              exact hin (List.mem_map.2 ⟨o, List.mem_of_getElem? ho, hon⟩)
            · (refine g1_ ?_; repeat (refine n1_ fun b_ => ?_; refine g1_ ?_))
              refine nx_ (k + 1) ?_ ?_
              · exact ⟨by omega, by rw [take_snoc_of ho2, List.map_append, List.mem_append, not_or]; exact ⟨hkn, by simpa using fun h => hon h.symm⟩⟩
              · ((try dsimp only); (try simp only [List.length_drop, List.length_take, List.length_append, List.length_cons, List.length_nil, List.length_map] at *); omega)
end Go.Eng.YtkenlcaifhffoaaDoor
end
