/- Texts put together: Spl43, Spl44. -/
import Derived.Test.YtkenlcaifhffoaaDoorMSB
import Derived.Test.YtkenlcaifhffoaaDoorMSS1
import Derived.Test.YtkenlcaifhffoaaDoorMSI
/- Splits: what was renamed, turned round, swapped (plain). -/
section
namespace Go.Eng.YtkenlcaifhffoaaDoor
open Go Go.Eng Go.Proofs
set_option linter.unusedSimpArgs false
set_option maxRecDepth 100000
set_option linter.unusedVariables false
theorem chk_of (t : Spl) : ∀ (way : Int) (ps : List Int), t.right way → (ps ++ panesT t).Nodup → (ps ++ panesT t).length ≤ 12 → chkT t way ps = (0, ps ++ panesT t) := by
  induction t using spl_induct with
  | h w p s ks ih =>
    intro way ps hr hn hl
    rw [right_mk] at hr
    rw [panesT_mk] at hn hl ⊢
    rw [chkT]
    rcases hr.2 with ⟨h0, hk, h1⟩ | ⟨hw, hwy, hk2, hp, hkr⟩
    · subst h0 hk
      rw [if_pos rfl] at hn hl ⊢
      rw [if_pos (.inr rfl)]
      have hps : p ∉ ps := fun h => by
        rw [List.nodup_append] at hn
        exact hn.2.2 p h p (by simp) rfl
      rw [List.length_append, List.length_singleton] at hl
      unfold ownR
      rw [if_neg (by omega), if_pos rfl, if_neg (by simp), if_neg (by omega), if_neg hps, if_neg (by omega)]
    · have hw0 : w ≠ 0 := by omega
      rw [if_neg hw0] at hn hl ⊢
      have ho : ownR w p s ks.length way ps = (0, ps) := by
        unfold ownR
        rw [if_neg (by omega), if_neg hw0, if_neg (by omega)]
      rw [ho, if_neg (by simp [hw0])]
      have key : ∀ (l : List Spl) (ps : List Int), (∀ k ∈ l, k ∈ ks) → (ps ++ l.flatMap panesT).Nodup → (ps ++ l.flatMap panesT).length ≤ 12 → chkTs l w ps = (0, ps ++ l.flatMap panesT) := by
        intro l
        induction l with
        | nil => intro ps _ _ _; rw [chkTs, List.flatMap_nil, List.append_nil]
        | cons k l ihl =>
          intro ps hm hn hl
          rw [List.flatMap_cons, ← List.append_assoc] at hn hl ⊢
          have hk := ih k (hm k (by simp)) w ps (hkr k (hm k (by simp))) (List.nodup_append.1 hn).1 (by rw [List.length_append] at hl; omega)
          rw [chkTs, hk, if_neg (by simp)]
          exact ihl _ (fun x hx => hm x (List.mem_cons_of_mem _ hx)) hn hl
      exact key ks ps (fun _ h => h) hn hl
theorem vis_of {t : Spl} (hr : t.right 0) (hn : (panesT t).Nodup) (hl : (panesT t).length ≤ 12) : (visS t 0 (0, [])).1 = 0 := by
  rw [(checks_agree t 0 [] (by decide)).1, chk_of t 0 [] hr (by simpa using hn) (by simpa using hl)]
theorem right_okS (t : Spl) : ∀ way, t.right way → (panesT t).length ≤ 12 → t.ok := by
  induction t using spl_induct with
  | h w p s ks ih =>
    intro way hr hl
    rw [right_mk] at hr
    rw [panesT_mk] at hl
    rw [spl_ok]
    unfold i64ok
    rcases hr.2 with ⟨h0, hk, h1⟩ | ⟨hw, hwy, hk2, hp, hkr⟩
    · subst h0 hk
      exact ⟨by omega, by omega, by omega, by simp, by simp⟩
    · rw [if_neg (by omega)] at hl
      have := kids_panes hkr
      exact ⟨by omega, by omega, by omega, by omega, fun k hk => ih k hk w (hkr k hk) (Nat.le_trans (kid_panes hk) hl)⟩
theorem flatS_congr {f g : Spl → List Int} : ∀ {l : List Spl}, (∀ x ∈ l, f x = g x) → l.flatMap f = l.flatMap g
  | [], _ => rfl
  | a :: l, h => by rw [List.flatMap_cons, List.flatMap_cons, h a (by simp), flatS_congr fun x hx => h x (List.mem_cons_of_mem _ hx)]
/-! ### Turned round -/
def turnI (t : Spl) (i : Nat) (y : Spl) : Prop := ∃ g : Int → Int, y = renT g t ∧ (panesT t).map g = (panesT t).drop ((panesT t).length - i) ++ (panesT t).take ((panesT t).length - i)
/-! ### Swapped -/
end Go.Eng.YtkenlcaifhffoaaDoor
end

/- Splits: who was cut off and is dropped (plain). -/
section
namespace Go.Eng.YtkenlcaifhffoaaDoor
open Go Go.Eng Go.Proofs
set_option linter.unusedSimpArgs false
set_option maxRecDepth 100000
set_option linter.unusedVariables false
def putL (pane fresh : Int) (l : List Int) : List Int := l.flatMap fun p => if p = pane then [pane, fresh] else [p]
theorem putL_none {pane fresh : Int} : ∀ {l : List Int}, pane ∉ l → putL pane fresh l = l
  | [], _ => rfl
  | p :: l, h => by
    have h1 : p ≠ pane := fun e => h (by simp [e])
    have h2 := putL_none (fresh := fresh) (l := l) fun e => h (List.mem_cons_of_mem _ e)
    unfold putL at h2 ⊢
    rw [List.flatMap_cons, if_neg h1, h2]
    rfl
theorem putL_some {pane fresh : Int} {l : List Int} (hn : l.Nodup) (hm : pane ∈ l) : ∃ A B, l = A ++ pane :: B ∧ putL pane fresh l = A ++ pane :: fresh :: B := by
  obtain ⟨A, B, rfl⟩ := List.append_of_mem hm
  rw [List.nodup_append] at hn
  have hA : pane ∉ A := fun h => hn.2.2 pane h pane (by simp) rfl
  have hB : pane ∉ B := (List.nodup_cons.1 hn.2.1).1
  refine ⟨A, B, rfl, ?_⟩
  have h1 := putL_none (fresh := fresh) hA
  have h2 := putL_none (fresh := fresh) hB
  unfold putL at h1 h2 ⊢
  rw [List.flatMap_append, List.flatMap_cons, if_pos rfl, h1, h2]
  rfl
theorem cut_panes {pane way fresh : Int} (hw : way ≠ 0) (t : Spl) : ∀ in_, t.right in_ → panesT (cutT pane way fresh t) = putL pane fresh (panesT t) := by
  induction t using spl_induct with
  | h w p s ks ih =>
    intro in_ hr
    rw [right_mk] at hr
    rw [cutT_mk, panesT_mk]
    rcases hr.2 with ⟨h0, hk, h1⟩ | ⟨hw1, hwy, hk2, hp, hkr⟩
    · subst h0 hk
      rw [if_pos rfl, if_pos rfl]
      by_cases h : p = pane
      · rw [if_pos h, panesT_mk, if_neg hw]
        simp [putL, panesT_mk, h]
      · rw [if_neg h, panesT_mk, if_pos rfl]
        simp [putL, h]
    · have hw0 : w ≠ 0 := by omega
      rw [if_neg hw0, if_neg hw0, panesT_mk, if_neg hw0, putL, List.flatMap_assoc, List.flatMap_assoc]
      refine flatS_congr fun k hk => ?_
      unfold cutK
      split
      · rename_i h
        obtain ⟨h1, h2, h3⟩ := h
        have hkp := leaf_panes h1 h2
        rw [hkp]
        simp [hkp, panesT_mk]
      · rw [List.flatMap_cons, List.flatMap_nil, List.append_nil, ih k hk w (hkr k hk)]
        rfl
theorem cut_right {pane way fresh : Int} (hw : way = 1 ∨ way = 2) (hp : 1 ≤ pane ∧ pane ≤ 9999) (hf : 1 ≤ fresh ∧ fresh ≤ 9999) (t : Spl) : ∀ in_, t.right in_ → (t.way = 0 → t.pane = pane → way ≠ in_) → (cutT pane way fresh t).right in_ := by
  induction t using spl_induct with
  | h w p s ks ih =>
    intro in_ hr hin
    rw [right_mk] at hr
    rw [cutT_mk]
    rcases hr.2 with ⟨h0, hk, h1⟩ | ⟨hw1, hwy, hk2, hp0, hkr⟩
    · subst h0 hk
      rw [if_pos rfl]
      split
      · rename_i h
        rw [right_mk]
        refine ⟨hr.1, .inr ⟨hw, hin rfl h, by simp, rfl, fun k hk => ?_⟩⟩
        simp only [List.mem_cons, List.not_mem_nil, or_false] at hk
        rcases hk with rfl | rfl
        · rw [right_mk]; exact ⟨by decide, .inl ⟨rfl, rfl, hp⟩⟩
        · rw [right_mk]; exact ⟨by decide, .inl ⟨rfl, rfl, hf⟩⟩
      · rw [right_mk]; exact hr
    · have hw0 : w ≠ 0 := by omega
      rw [if_neg hw0, right_mk]
      refine ⟨hr.1, .inr ⟨hw1, hwy, ?_, rfl, fun x hx => ?_⟩⟩
      · have key : ∀ l : List Spl, l.length ≤ (l.flatMap (cutK pane way fresh w)).length := by
          intro l
          induction l with
          | nil => simp
          | cons k l ihl =>
            have : 1 ≤ (cutK pane way fresh w k).length := by unfold cutK; split <;> simp
            rw [List.flatMap_cons, List.length_append, List.length_cons]
            omega
        exact Nat.le_trans hk2 (key ks)
      · obtain ⟨k, hk, hxk⟩ := List.mem_flatMap.1 hx
        have hk1 := hkr k hk
        unfold cutK at hxk
        split at hxk
        · rename_i h
          simp only [List.mem_cons, List.not_mem_nil, or_false] at hxk
          rcases hxk with rfl | rfl
          · exact hk1
          · obtain ⟨kw, kp, kz, kk⟩ := k
            rw [right_mk] at hk1 ⊢
            exact ⟨hk1.1, .inl ⟨rfl, rfl, hf⟩⟩
        · rename_i h
          obtain rfl := List.mem_singleton.1 hxk
          exact ih k hk w hk1 fun h1 h2 h3 => h ⟨h1, h2, h3.symm⟩
/-! ### Dropped -/
theorem with_panes (fresh : Int) (t : Spl) : ∀ in_, (withT noD fresh t in_).flatMap panesT = (panesT t).filter fun p => decide (p ≠ fresh) := by
  induction t using spl_induct with
  | h w p s ks ih =>
    intro in_
    rw [withT_mk, panesT_mk]
    split
    · split
      · rename_i h; simp [noD, h]
      · rename_i h; simp [panesT_mk, h, *]
    · rename_i hw0
      rw [List.flatMap_cons, List.flatMap_nil, List.append_nil, panesT_mk, if_neg hw0, List.flatMap_assoc, List.filter_flatMap]
      exact flatS_congr fun k hk => ih k hk w
theorem kidsOf_panes {w : Int} (hw : w ≠ 0) (c : Spl) : (kidsOf w c).flatMap panesT = panesT c := by
  obtain ⟨cw, cp, cs, ck⟩ := c
  unfold kidsOf
  split
  · rename_i e
    replace e : cw = w := e
    rw [panesT_mk, if_neg (by rw [e]; exact hw)]
    rfl
  · simp
theorem wrap_panes {w p s : Int} (hw : w ≠ 0) : ∀ l : List Spl, panesT (wrapT w p s l) = l.flatMap panesT
  | [] => by rw [wrapT, panesT_mk, if_neg hw]; exact fun x h => by cases h
  | [x] => by
    obtain ⟨cw, cp, cs, ck⟩ := x
    rw [List.flatMap_cons, List.flatMap_nil, List.append_nil]
    show panesT (.mk cw cp s ck) = panesT (.mk cw cp cs ck)
    rw [panesT_mk, panesT_mk]
  | x :: y :: l => by
    show panesT (.mk w p s (x :: y :: l)) = _
    rw [panesT_mk, if_neg hw]
theorem plain_panes (t : Spl) : panesT (plainT t) = panesT t := by
  induction t using spl_induct with
  | h w p s ks ih =>
    rw [plainT_mk]
    split
    · rfl
    · rename_i hw0
      rw [wrap_panes hw0, List.flatMap_assoc, panesT_mk, if_neg hw0]
      exact flatS_congr fun k hk => by rw [kidsOf_panes hw0, ih k hk]
theorem right_in {t : Spl} {w : Int} (h : t.right 0) (hw : t.way ≠ w ∨ t.way = 0) : t.right w := by
  obtain ⟨tw, tp, ts, tk⟩ := t
  rw [right_mk] at h ⊢
  refine ⟨h.1, ?_⟩
  rcases h.2 with h1 | ⟨a, b, c⟩
  · exact .inl h1
  · exact .inr ⟨a, hw.resolve_right (by show tw ≠ 0; omega), c⟩
theorem kidsOf_right {w : Int} (hw : w ≠ 0) {c : Spl} (h : c.right 0) : ∀ x ∈ kidsOf w c, x.right w := by
  intro x hx
  unfold kidsOf at hx
  split at hx
  · rename_i e
    obtain ⟨cw, cp, cs, ck⟩ := c
    replace e : cw = w := e
    rw [right_mk] at h
    rcases h.2 with h1 | ⟨_, _, _, _, hk⟩
    · exact absurd (e.symm.trans h1.1) hw
    · rw [← e]
      exact hk x hx
  · rename_i e
    obtain rfl := List.mem_singleton.1 hx
    exact right_in h (.inl e)
theorem plain_right (fresh : Int) (t : Spl) : ∀ in_, t.right in_ → (panesT t).Nodup → ∀ u, withT noD fresh t in_ = [u] → (plainT u).right 0 := by
  induction t using spl_induct with
  | h w p s ks ih =>
    intro in_ hr hnd u hu
    have hrel := drop_rel fresh (.mk w p s ks) in_ hr hnd
    have hr' := hr
    rw [right_mk] at hr
    rcases hr.2 with ⟨h0, hk, h1⟩ | ⟨hw1, hwy, hk2, hp0, hkr⟩
    · subst h0 hk
      rw [withT_mk, if_pos rfl] at hu
      split at hu
      · cases hu
      · obtain rfl := (List.cons.inj hu).1
        rw [plainT_mk, if_pos rfl, right_mk]
        exact ⟨hr.1, .inl ⟨rfl, rfl, h1⟩⟩
    · have hw0 : w ≠ 0 := by omega
      rw [panesT_mk, if_neg hw0] at hnd
      have htwo : twoT (plainT u) := by
        rcases hrel with h | ⟨t', h1, -, h3⟩
        · exact absurd h.1 hw0
        · rw [hu] at h1
          obtain rfl := (List.cons.inj h1).1
          exact h3
      rw [withT_mk, if_neg hw0] at hu
      obtain rfl := (List.cons.inj hu).1
      rw [plainT_mk, if_neg hw0] at htwo ⊢
      have hM : ∀ x ∈ (ks.flatMap fun k => withT noD fresh k w).flatMap (fun k => kidsOf w (plainT k)), x.right w := by
        intro x hx
        obtain ⟨k', hk', hx'⟩ := List.mem_flatMap.1 hx
        obtain ⟨k, hk, hkk⟩ := List.mem_flatMap.1 hk'
        have hkn : (panesT k).Nodup := by
          obtain ⟨a, b, rfl⟩ := List.append_of_mem hk
          rw [List.flatMap_append, List.flatMap_cons] at hnd
          exact (List.nodup_append.1 (List.nodup_append.1 hnd).2.1).1
        rcases drop_rel fresh k w (hkr k hk) hkn with h | ⟨t', h1, -, -⟩
        · rw [h.2.2.1] at hkk
          cases hkk
        · rw [h1] at hkk
          obtain rfl := List.mem_singleton.1 hkk
          exact kidsOf_right hw0 (ih k hk w (hkr k hk) hkn k' h1) x hx'
      generalize (ks.flatMap fun k => withT noD fresh k w).flatMap (fun k => kidsOf w (plainT k)) = M at *
      match M, htwo, hM with
      | [], htwo, _ =>
        rcases htwo with h | h
        · exact absurd h hw0
        · exact absurd h (by show ¬ 2 ≤ 0; decide)
      | [x], _, hM =>
        have hx := hM x (by simp)
        obtain ⟨cw, cp, cs, ck⟩ := x
        show (Spl.mk cw cp s ck).right 0
        rw [right_mk] at hx ⊢
        refine ⟨hr.1, ?_⟩
        rcases hx.2 with h | ⟨a, b, c⟩
        · exact .inl h
        · exact .inr ⟨a, by omega, c⟩
      | x :: y :: l, _, hM =>
        show (Spl.mk w p s (x :: y :: l)).right 0
        rw [right_mk]
        exact ⟨hr.1, .inr ⟨hw1, hw0, by simp, hp0, hM⟩⟩
theorem cut_drop {t : Spl} {pane way fresh : Int} (h : (cutR t pane way fresh).2 = 0) :
    (cutR t pane way fresh).1.ok ∧ (visS (cutR t pane way fresh).1 0 (0, [])).1 = 0 ∧ (dropR (cutR t pane way fresh).1 fresh).2 = 0 ∧ (dropR (cutR t pane way fresh).1 fresh).1.ok ∧
      (dropR (cutR t pane way fresh).1 fresh).1.right 0 ∧ (visS (dropR (cutR t pane way fresh).1 fresh).1 0 (0, [])).1 = 0 ∧ panesT (dropR (cutR t pane way fresh).1 fresh).1 = panesT t := by
  unfold cutR at h
  split at h
  · rename_i h0
    exact absurd h h0
  · rename_i h0
    split at h
    · cases h
    · rename_i hpm
      split at h
      · cases h
      · rename_i hwf
        split at h
        · cases h
        · rename_i hfm
          split at h
          · cases h
          · rename_i hl12
            have hv : (visS t 0 (0, [])).1 = 0 := by simpa using h0
            obtain ⟨hr, -, h12, hnd⟩ := vis_right hv
            have hpm' : pane ∈ panesT t := by simpa using hpm
            have hpb := right_bounds t 0 hr pane hpm'
            have e : cutR t pane way fresh = (cutT pane way fresh t, 0) := by unfold cutR; rw [if_neg h0, if_neg hpm, if_neg hwf, if_neg hfm, if_neg hl12]
            rw [e]
            dsimp only
            have hcp := cut_panes (pane := pane) (fresh := fresh) (show way ≠ 0 by omega) t 0 hr
            have hcr := cut_right (pane := pane) (way := way) (fresh := fresh) (by omega) hpb (by omega) t 0 hr fun _ _ => by omega
            obtain ⟨A, B, hAB, hput⟩ := putL_some (fresh := fresh) hnd hpm'
            rw [hput] at hcp
            have hfA : fresh ∉ A ∧ fresh ∉ B ∧ fresh ≠ pane := by
              rw [hAB] at hfm
              simp only [List.mem_append, List.mem_cons, not_or] at hfm
              exact ⟨hfm.1, hfm.2.2, hfm.2.1⟩
            have hcn : (panesT (cutT pane way fresh t)).Nodup := by
              rw [hcp]
              have hq : (A ++ pane :: fresh :: B).Perm (fresh :: (A ++ pane :: B)) := by
                rw [show A ++ pane :: fresh :: B = (A ++ [pane]) ++ fresh :: B by simp, show A ++ pane :: B = (A ++ [pane]) ++ B by simp]
                exact List.perm_middle
              rw [hq.nodup_iff, List.nodup_cons, ← hAB]
              exact ⟨hfm, hnd⟩
            have hcl : (panesT (cutT pane way fresh t)).length = (panesT t).length + 1 := by
              rw [hcp, hAB]
              simp only [List.length_append, List.length_cons]
              omega
            have hcv := vis_of hcr hcn (by omega)
            have hcf : fresh ∈ panesT (cutT pane way fresh t) := by rw [hcp]; simp
            have hfil : (panesT (cutT pane way fresh t)).filter (fun p => decide (p ≠ fresh)) = panesT t := by
              rw [hcp, hAB, List.filter_append, List.filter_cons_of_pos (by simpa using hfA.2.2.symm), List.filter_cons_of_neg (by simp)]
              rw [List.filter_eq_self.2 fun x hx => by simp; rintro rfl; exact hfA.1 hx, List.filter_eq_self.2 fun x hx => by simp; rintro rfl; exact hfA.2.1 hx]
            have hpos := right_panes t 0 hr
            obtain ⟨u, hu⟩ : ∃ u, withT noD fresh (cutT pane way fresh t) 0 = [u] := by
              rcases drop_rel fresh _ 0 hcr hcn with h | ⟨t', h1, -, -⟩
              · have := leaf_panes h.1 h.2.1
                rw [this, List.length_singleton] at hcl
                omega
              · exact ⟨t', h1⟩
            have hdr := plain_right fresh _ 0 hcr hcn u hu
            have hdp : panesT (plainT u) = panesT t := by
              have := with_panes fresh (cutT pane way fresh t) 0
              rw [hu, hfil, List.flatMap_cons, List.flatMap_nil, List.append_nil] at this
              rw [plain_panes, this]
            have ed : dropR (cutT pane way fresh t) fresh = (plainT u, 0) := by
              unfold dropR
              rw [if_neg (by simpa using hcv), if_neg (by simpa using hcf), if_neg (by omega), hu]
              rfl
            rw [ed]
            exact ⟨right_okS _ 0 hcr (by omega), hcv, rfl, right_okS _ 0 hdr (by rw [hdp]; exact h12), hdr, vis_of hdr (by rw [hdp]; exact hnd) (by rw [hdp]; exact h12), hdp⟩
end Go.Eng.YtkenlcaifhffoaaDoor
end
