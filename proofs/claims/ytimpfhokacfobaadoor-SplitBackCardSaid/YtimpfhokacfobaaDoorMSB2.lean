/- Texts put together: Spl43, Spl44, Spl42, Spl45. -/
import Derived.Test.YtimpfhokacfobaaDoorMSB
import Derived.Test.YtimpfhokacfobaaDoorMSS1
import Derived.Test.YtimpfhokacfobaaDoorMSI
import Derived.Test.YtimpfhokacfobaaDoorMSB1
import Derived.Test.YtimpfhokacfobaaDoorMSC
import Derived.Test.YtimpfhokacfobaaDoorMSD
import Derived.Test.YtimpfhokacfobaaDoorME3
import Derived.Test.YtimpfhokacfobaaDoorME9
/- Splits: what was renamed, turned round, swapped (plain). -/
section
namespace Go.Eng.YtimpfhokacfobaaDoor
open Go Go.Eng Go.Proofs
set_option linter.unusedSimpArgs false
set_option maxRecDepth 100000
set_option linter.unusedVariables false
theorem chk_of (t : Spl) : ∀ (way : Int) (ps : List Int), t.right way → (ps ++ panesT t).Nodup → (ps ++ panesT t).length ≤ 12 → chkT t way ps = (0, ps ++ panesT t) := by
  induction t using spl_induct with
  | h w p s ks ih =>
    intro way ps hr hn hl
    rw [right_mk] at hr
    rw [panesT_mk] at hn hl ⊢
    rw [chkT]
    rcases hr.2 with ⟨h0, hk, h1⟩ | ⟨hw, hwy, hk2, hp, hkr⟩
    · subst h0 hk
      rw [if_pos rfl] at hn hl ⊢
      rw [if_pos (.inr rfl)]
      have hps : p ∉ ps := fun h => by
        rw [List.nodup_append] at hn
        exact hn.2.2 p h p (by simp) rfl
      rw [List.length_append, List.length_singleton] at hl
      unfold ownR
      rw [if_neg (by omega), if_pos rfl, if_neg (by simp), if_neg (by omega), if_neg hps, if_neg (by omega)]
    · have hw0 : w ≠ 0 := by omega
      rw [if_neg hw0] at hn hl ⊢
      have ho : ownR w p s ks.length way ps = (0, ps) := by
        unfold ownR
        rw [if_neg (by omega), if_neg hw0, if_neg (by omega)]
      rw [ho, if_neg (by simp [hw0])]
      have key : ∀ (l : List Spl) (ps : List Int), (∀ k ∈ l, k ∈ ks) → (ps ++ l.flatMap panesT).Nodup → (ps ++ l.flatMap panesT).length ≤ 12 → chkTs l w ps = (0, ps ++ l.flatMap panesT) := by
        intro l
        induction l with
        | nil => intro ps _ _ _; rw [chkTs, List.flatMap_nil, List.append_nil]
        | cons k l ihl =>
          intro ps hm hn hl
          rw [List.flatMap_cons, ← List.append_assoc] at hn hl ⊢
          have hk := ih k (hm k (by simp)) w ps (hkr k (hm k (by simp))) (List.nodup_append.1 hn).1 (by rw [List.length_append] at hl; omega)
          rw [chkTs, hk, if_neg (by simp)]
          exact ihl _ (fun x hx => hm x (List.mem_cons_of_mem _ hx)) hn hl
      exact key ks ps (fun _ h => h) hn hl
/-- A right split is found right. -/
theorem vis_of {t : Spl} (hr : t.right 0) (hn : (panesT t).Nodup) (hl : (panesT t).length ≤ 12) : (visS t 0 (0, [])).1 = 0 := by
  rw [(checks_agree t 0 [] (by decide)).1, chk_of t 0 [] hr (by simpa using hn) (by simpa using hl)]
theorem right_okS (t : Spl) : ∀ way, t.right way → (panesT t).length ≤ 12 → t.ok := by
  induction t using spl_induct with
  | h w p s ks ih =>
    intro way hr hl
    rw [right_mk] at hr
    rw [panesT_mk] at hl
    rw [spl_ok]
    unfold i64ok
    rcases hr.2 with ⟨h0, hk, h1⟩ | ⟨hw, hwy, hk2, hp, hkr⟩
    · subst h0 hk
      exact ⟨by omega, by omega, by omega, by simp, by simp⟩
    · rw [if_neg (by omega)] at hl
      have := kids_panes hkr
      exact ⟨by omega, by omega, by omega, by omega, fun k hk => ih k hk w (hkr k hk) (Nat.le_trans (kid_panes hk) hl)⟩
theorem flatS_congr {f g : Spl → List Int} : ∀ {l : List Spl}, (∀ x ∈ l, f x = g x) → l.flatMap f = l.flatMap g
  | [], _ => rfl
  | a :: l, h => by rw [List.flatMap_cons, List.flatMap_cons, h a (by simp), flatS_congr fun x hx => h x (List.mem_cons_of_mem _ hx)]
theorem ren_panes (f : Int → Int) (t : Spl) : panesT (renT f t) = (panesT t).map f := by
  induction t using spl_induct with
  | h w p s ks ih =>
    rw [renT_mk, panesT_mk]
    split
    · rw [panesT_mk, if_pos ‹_›]; rfl
    · rw [panesT_mk, if_neg ‹_›, List.flatMap_map, List.map_flatMap]
      exact flatS_congr ih
theorem ren_right {f : Int → Int} (t : Spl) : ∀ way, t.right way → (∀ p ∈ panesT t, 1 ≤ f p ∧ f p ≤ 9999) → (renT f t).right way := by
  induction t using spl_induct with
  | h w p s ks ih =>
    intro way hr hf
    rw [right_mk] at hr
    rw [panesT_mk] at hf
    rw [renT_mk]
    rcases hr.2 with ⟨h0, hk, h1⟩ | ⟨hw, hwy, hk2, hp, hkr⟩
    · subst h0 hk
      rw [if_pos rfl] at hf ⊢
      rw [right_mk]
      exact ⟨hr.1, .inl ⟨rfl, rfl, hf p (by simp)⟩⟩
    · rw [if_neg (by omega)] at hf ⊢
      rw [right_mk]
      refine ⟨hr.1, .inr ⟨hw, hwy, by rw [List.length_map]; exact hk2, hp, fun k hk => ?_⟩⟩
      obtain ⟨x, hx, rfl⟩ := List.mem_map.1 hk
      exact ih x hx w (hkr x hx) fun q hq => hf q (List.mem_flatMap.2 ⟨x, hx, hq⟩)
theorem ren_comp (f g : Int → Int) (t : Spl) : renT g (renT f t) = renT (fun p => g (f p)) t := by
  induction t using spl_induct with
  | h w p s ks ih =>
    rw [renT_mk, renT_mk]
    split
    · rw [renT_mk, if_pos ‹_›]
    · rw [renT_mk, if_neg ‹_›, List.map_map]
      congr 1
      exact List.map_congr_left ih
theorem ren_id {f : Int → Int} (t : Spl) : (∀ p ∈ panesT t, f p = p) → renT f t = t := by
  induction t using spl_induct with
  | h w p s ks ih =>
    intro hf
    rw [panesT_mk] at hf
    rw [renT_mk]
    split
    · rw [if_pos ‹_›] at hf
      rw [hf p (by simp)]
    · rw [if_neg ‹_›] at hf
      congr 1
      conv => rhs; rw [← List.map_id ks]
      exact List.map_congr_left fun x hx => ih x hx fun q hq => hf q (List.mem_flatMap.2 ⟨x, hx, hq⟩)
/-! ### Turned round -/
theorem rot_back {L : List Int} (hn : L.Nodup) : (rotL L).map (rotF L) = L := by
  refine List.ext_getElem? fun i => ?_
  rw [List.getElem?_map]
  by_cases hi : i < L.length
  · have h1 : (rotL L)[i]? = some ((rotL L)[i]'(by rw [rotL_len]; exact hi)) := List.getElem?_eq_getElem _
    have h2 : L[i]? = some (L[i]) := List.getElem?_eq_getElem hi
    rw [h1, h2, Option.map_some, rotF_at hn h1 h2]
  · rw [List.getElem?_eq_none (by rw [rotL_len]; omega), List.getElem?_eq_none (by omega)]
    rfl
theorem rotL_map (f : Int → Int) (L : List Int) : rotL (L.map f) = (rotL L).map f := by
  unfold rotL
  rw [List.map_append, List.map_drop, List.map_take]
theorem rotL_inj : ∀ {a b : List Int}, a.length = b.length → rotL a = rotL b → a = b
  | [], [], _, _ => rfl
  | [], _ :: _, h, _ => by simp at h
  | _ :: _, [], h, _ => by simp at h
  | x :: a, y :: b, hl, h => by
    have h' : a ++ [x] = b ++ [y] := h
    have := List.append_inj h' (by simpa using hl)
    rw [this.1, (List.cons.inj this.2).1]
theorem rotL_step {l : List Int} {m : Nat} (hm : m < l.length) : rotL (l.drop m ++ l.take m) = l.drop (m + 1) ++ l.take (m + 1) := by
  have h := List.getElem?_eq_getElem hm
  rw [List.drop_eq_getElem_cons hm, take_snoc_of h]
  show (l.drop (m + 1) ++ l.take m) ++ [l[m]] = _
  rw [List.append_assoc]
theorem rot_next {l L : List Int} {m : Nat} (hn : l.Nodup) (hm : m < l.length) (hL : L = l.drop (m + 1) ++ l.take (m + 1)) : L.map (rotF L) = l.drop m ++ l.take m := by
  have hp : L.Perm l := by rw [hL]; exact List.perm_append_comm.trans (List.Perm.of_eq (List.take_append_drop _ _))
  have hLn : L.Nodup := hp.nodup_iff.2 hn
  refine rotL_inj (by rw [List.length_map, hp.length_eq, List.length_append, List.length_drop, List.length_take]; omega) ?_
  rw [rotL_map, rot_back hLn, rotL_step hm, hL]
/-- What stands behind so many turns. -/
def turnI (t : Spl) (i : Nat) (y : Spl) : Prop := ∃ g : Int → Int, y = renT g t ∧ (panesT t).map g = (panesT t).drop ((panesT t).length - i) ++ (panesT t).take ((panesT t).length - i)
theorem turn_zero (t : Spl) : turnI t 0 t := ⟨fun p => p, (ren_id t fun _ _ => rfl).symm, by simp⟩
theorem turn_panes {t y : Spl} {i : Nat} (h : turnI t i y) : (panesT y).Perm (panesT t) ∧ panesT y = (panesT t).drop ((panesT t).length - i) ++ (panesT t).take ((panesT t).length - i) := by
  obtain ⟨g, rfl, hg⟩ := h
  rw [ren_panes, hg]
  exact ⟨List.perm_append_comm.trans (List.Perm.of_eq (List.take_append_drop _ _)), rfl⟩
theorem turn_right {t y : Spl} {i : Nat} (hr : t.right 0) (hb : ∀ p ∈ panesT t, 1 ≤ p ∧ p ≤ 9999) (h : turnI t i y) : y.right 0 := by
  have hp := (turn_panes h).1
  obtain ⟨g, rfl, hg⟩ := h
  rw [ren_panes] at hp
  exact ren_right t 0 hr fun p hpm => hb _ (hp.mem_iff.1 (List.mem_map_of_mem hpm))
theorem turn_next {t y : Spl} {i : Nat} (hr : t.right 0) (hn : (panesT t).Nodup) (hl : (panesT t).length ≤ 12) (hi : i < (panesT t).length) (h : turnI t i y) : (rotR y).2 = 0 ∧ turnI t (i + 1) (rotR y).1 := by
  have hb := right_bounds t 0 hr
  have hyr := turn_right hr hb h
  obtain ⟨hp, hpe⟩ := turn_panes h
  have hv := vis_of hyr (hp.nodup_iff.2 hn) (by rw [hp.length_eq]; exact hl)
  unfold rotR
  rw [if_neg (by simpa using hv)]
  refine ⟨rfl, ?_⟩
  obtain ⟨g, rfl, hg⟩ := h
  refine ⟨fun p => rotF (panesT (renT g t)) (g p), ren_comp _ _ _, ?_⟩
  have key : ∀ F : Int → Int, (panesT t).map (fun p => F (g p)) = (panesT (renT g t)).map F := fun F => by
    rw [ren_panes, List.map_map]
    rfl
  have hs : (panesT t).length - i = (panesT t).length - (i + 1) + 1 := by omega
  rw [key]
  exact rot_next hn (by omega) (by rw [hpe, hs])
theorem turn_all {t y : Spl} (h : turnI t (panesT t).length y) : y = t := by
  obtain ⟨g, rfl, hg⟩ := h
  rw [Nat.sub_self, List.drop_zero, List.take_zero, List.append_nil] at hg
  refine ren_id t fun p hp => ?_
  obtain ⟨i, hi, rfl⟩ := List.getElem_of_mem hp
  have := congrArg (·[i]?) hg
  simp only [List.getElem?_map, List.getElem?_eq_getElem hi, Option.map_some, Option.some.injEq] at this
  exact this
/-! ### Swapped -/
theorem swapF_inv (a b p : Int) : swapF a b (swapF a b p) = p := by
  unfold swapF
  (repeat' split) <;> omega
theorem swap_back {t : Spl} {a b : Int} (h : (swapR t a b).2 = 0) : (swapR t a b).1.ok ∧ swapR (swapR t a b).1 a b = (t, 0) := by
  unfold swapR at h
  split at h
  · rename_i h0
    exact absurd h h0
  · rename_i h0
    split at h
    · rename_i hab
      have hv : (visS t 0 (0, [])).1 = 0 := by simpa using h0
      obtain ⟨hr, -, h12, hnd⟩ := vis_right hv
      have hb := right_bounds t 0 hr
      have e : swapR t a b = (renT (swapF a b) t, 0) := by unfold swapR; rw [if_neg h0, if_pos hab]
      have hfm : ∀ p ∈ panesT t, swapF a b p ∈ panesT t := by
        intro p hp
        unfold swapF
        split
        · exact hab.1
        · split
          · exact hab.2
          · exact hp
      have hr2 : (renT (swapF a b) t).right 0 := ren_right t 0 hr fun p hp => hb _ (hfm p hp)
      have hl2 : (panesT (renT (swapF a b) t)).length ≤ 12 := by rw [ren_panes, List.length_map]; exact h12
      have hn2 : (panesT (renT (swapF a b) t)).Nodup := by
        rw [ren_panes, List.Nodup, List.pairwise_map]
        exact List.Pairwise.imp (fun {x y} hxy he => hxy (by rw [← swapF_inv a b x, he, swapF_inv])) hnd
      have hm2 : ∀ p ∈ panesT t, p ∈ panesT (renT (swapF a b) t) := fun p hp => by
        rw [ren_panes]
        exact List.mem_map.2 ⟨swapF a b p, hfm p hp, swapF_inv a b p⟩
      rw [e]
      refine ⟨right_okS _ 0 hr2 hl2, ?_⟩
      unfold swapR
      rw [if_neg (by simpa using vis_of hr2 hn2 hl2), if_pos ⟨hm2 a hab.1, hm2 b hab.2⟩, ren_comp, ren_id t fun p _ => swapF_inv a b p]
    · cases h
end Go.Eng.YtimpfhokacfobaaDoor
end

/- Splits: who was cut off and is dropped (plain). -/
section
namespace Go.Eng.YtimpfhokacfobaaDoor
open Go Go.Eng Go.Proofs
set_option linter.unusedSimpArgs false
set_option maxRecDepth 100000
set_option linter.unusedVariables false
/-- A fresh pane behind a pane, in a list. -/
def putL (pane fresh : Int) (l : List Int) : List Int := l.flatMap fun p => if p = pane then [pane, fresh] else [p]
theorem putL_none {pane fresh : Int} : ∀ {l : List Int}, pane ∉ l → putL pane fresh l = l
  | [], _ => rfl
  | p :: l, h => by
    have h1 : p ≠ pane := fun e => h (by simp [e])
    have h2 := putL_none (fresh := fresh) (l := l) fun e => h (List.mem_cons_of_mem _ e)
    unfold putL at h2 ⊢
    rw [List.flatMap_cons, if_neg h1, h2]
    rfl
theorem putL_some {pane fresh : Int} {l : List Int} (hn : l.Nodup) (hm : pane ∈ l) : ∃ A B, l = A ++ pane :: B ∧ putL pane fresh l = A ++ pane :: fresh :: B := by
  obtain ⟨A, B, rfl⟩ := List.append_of_mem hm
  rw [List.nodup_append] at hn
  have hA : pane ∉ A := fun h => hn.2.2 pane h pane (by simp) rfl
  have hB : pane ∉ B := (List.nodup_cons.1 hn.2.1).1
  refine ⟨A, B, rfl, ?_⟩
  have h1 := putL_none (fresh := fresh) hA
  have h2 := putL_none (fresh := fresh) hB
  unfold putL at h1 h2 ⊢
  rw [List.flatMap_append, List.flatMap_cons, if_pos rfl, h1, h2]
  rfl
theorem cut_panes {pane way fresh : Int} (hw : way ≠ 0) (t : Spl) : ∀ in_, t.right in_ → panesT (cutT pane way fresh t) = putL pane fresh (panesT t) := by
  induction t using spl_induct with
  | h w p s ks ih =>
    intro in_ hr
    rw [right_mk] at hr
    rw [cutT_mk, panesT_mk]
    rcases hr.2 with ⟨h0, hk, h1⟩ | ⟨hw1, hwy, hk2, hp, hkr⟩
    · subst h0 hk
      rw [if_pos rfl, if_pos rfl]
      by_cases h : p = pane
      · rw [if_pos h, panesT_mk, if_neg hw]
        simp [putL, panesT_mk, h]
      · rw [if_neg h, panesT_mk, if_pos rfl]
        simp [putL, h]
    · have hw0 : w ≠ 0 := by omega
      rw [if_neg hw0, if_neg hw0, panesT_mk, if_neg hw0, putL, List.flatMap_assoc, List.flatMap_assoc]
      refine flatS_congr fun k hk => ?_
      unfold cutK
      split
      · rename_i h
        obtain ⟨h1, h2, h3⟩ := h
        have hkp := leaf_panes h1 h2
        rw [hkp]
        simp [hkp, panesT_mk]
      · rw [List.flatMap_cons, List.flatMap_nil, List.append_nil, ih k hk w (hkr k hk)]
        rfl
theorem cut_right {pane way fresh : Int} (hw : way = 1 ∨ way = 2) (hp : 1 ≤ pane ∧ pane ≤ 9999) (hf : 1 ≤ fresh ∧ fresh ≤ 9999) (t : Spl) : ∀ in_, t.right in_ → (t.way = 0 → t.pane = pane → way ≠ in_) → (cutT pane way fresh t).right in_ := by
  induction t using spl_induct with
  | h w p s ks ih =>
    intro in_ hr hin
    rw [right_mk] at hr
    rw [cutT_mk]
    rcases hr.2 with ⟨h0, hk, h1⟩ | ⟨hw1, hwy, hk2, hp0, hkr⟩
    · subst h0 hk
      rw [if_pos rfl]
      split
      · rename_i h
        rw [right_mk]
        refine ⟨hr.1, .inr ⟨hw, hin rfl h, by simp, rfl, fun k hk => ?_⟩⟩
        simp only [List.mem_cons, List.not_mem_nil, or_false] at hk
        rcases hk with rfl | rfl
        · rw [right_mk]; exact ⟨by decide, .inl ⟨rfl, rfl, hp⟩⟩
        · rw [right_mk]; exact ⟨by decide, .inl ⟨rfl, rfl, hf⟩⟩
      · rw [right_mk]; exact hr
    · have hw0 : w ≠ 0 := by omega
      rw [if_neg hw0, right_mk]
      refine ⟨hr.1, .inr ⟨hw1, hwy, ?_, rfl, fun x hx => ?_⟩⟩
      · have key : ∀ l : List Spl, l.length ≤ (l.flatMap (cutK pane way fresh w)).length := by
          intro l
          induction l with
          | nil => simp
          | cons k l ihl =>
            have : 1 ≤ (cutK pane way fresh w k).length := by unfold cutK; split <;> simp
            rw [List.flatMap_cons, List.length_append, List.length_cons]
            omega
        exact Nat.le_trans hk2 (key ks)
      · obtain ⟨k, hk, hxk⟩ := List.mem_flatMap.1 hx
        have hk1 := hkr k hk
        unfold cutK at hxk
        split at hxk
        · rename_i h
          simp only [List.mem_cons, List.not_mem_nil, or_false] at hxk
          rcases hxk with rfl | rfl
          · exact hk1
          · obtain ⟨kw, kp, kz, kk⟩ := k
            rw [right_mk] at hk1 ⊢
            exact ⟨hk1.1, .inl ⟨rfl, rfl, hf⟩⟩
        · rename_i h
          obtain rfl := List.mem_singleton.1 hxk
          exact ih k hk w hk1 fun h1 h2 h3 => h ⟨h1, h2, h3.symm⟩
/-! ### Dropped -/
theorem with_panes (fresh : Int) (t : Spl) : ∀ in_, (withT noD fresh t in_).flatMap panesT = (panesT t).filter fun p => decide (p ≠ fresh) := by
  induction t using spl_induct with
  | h w p s ks ih =>
    intro in_
    rw [withT_mk, panesT_mk]
    split
    · split
      · rename_i h; simp [noD, h]
      · rename_i h; simp [panesT_mk, h, *]
    · rename_i hw0
      rw [List.flatMap_cons, List.flatMap_nil, List.append_nil, panesT_mk, if_neg hw0, List.flatMap_assoc, List.filter_flatMap]
      exact flatS_congr fun k hk => ih k hk w
theorem kidsOf_panes {w : Int} (hw : w ≠ 0) (c : Spl) : (kidsOf w c).flatMap panesT = panesT c := by
  obtain ⟨cw, cp, cs, ck⟩ := c
  unfold kidsOf
  split
  · rename_i e
    replace e : cw = w := e
    rw [panesT_mk, if_neg (by rw [e]; exact hw)]
    rfl
  · simp
theorem wrap_panes {w p s : Int} (hw : w ≠ 0) : ∀ l : List Spl, panesT (wrapT w p s l) = l.flatMap panesT
  | [] => by rw [wrapT, panesT_mk, if_neg hw]; exact fun x h => by cases h
  | [x] => by
    obtain ⟨cw, cp, cs, ck⟩ := x
    rw [List.flatMap_cons, List.flatMap_nil, List.append_nil]
    show panesT (.mk cw cp s ck) = panesT (.mk cw cp cs ck)
    rw [panesT_mk, panesT_mk]
  | x :: y :: l => by
    show panesT (.mk w p s (x :: y :: l)) = _
    rw [panesT_mk, if_neg hw]
theorem plain_panes (t : Spl) : panesT (plainT t) = panesT t := by
  induction t using spl_induct with
  | h w p s ks ih =>
    rw [plainT_mk]
    split
    · rfl
    · rename_i hw0
      rw [wrap_panes hw0, List.flatMap_assoc, panesT_mk, if_neg hw0]
      exact flatS_congr fun k hk => by rw [kidsOf_panes hw0, ih k hk]
theorem right_in {t : Spl} {w : Int} (h : t.right 0) (hw : t.way ≠ w ∨ t.way = 0) : t.right w := by
  obtain ⟨tw, tp, ts, tk⟩ := t
  rw [right_mk] at h ⊢
  refine ⟨h.1, ?_⟩
  rcases h.2 with h1 | ⟨a, b, c⟩
  · exact .inl h1
  · exact .inr ⟨a, hw.resolve_right (by show tw ≠ 0; omega), c⟩
theorem kidsOf_right {w : Int} (hw : w ≠ 0) {c : Spl} (h : c.right 0) : ∀ x ∈ kidsOf w c, x.right w := by
  intro x hx
  unfold kidsOf at hx
  split at hx
  · rename_i e
    obtain ⟨cw, cp, cs, ck⟩ := c
    replace e : cw = w := e
    rw [right_mk] at h
    rcases h.2 with h1 | ⟨_, _, _, _, hk⟩
    · exact absurd (e.symm.trans h1.1) hw
    · rw [← e]
      exact hk x hx
  · rename_i e
    obtain rfl := List.mem_singleton.1 hx
    exact right_in h (.inl e)
theorem plain_right (fresh : Int) (t : Spl) : ∀ in_, t.right in_ → (panesT t).Nodup → ∀ u, withT noD fresh t in_ = [u] → (plainT u).right 0 := by
  induction t using spl_induct with
  | h w p s ks ih =>
    intro in_ hr hnd u hu
    have hrel := drop_rel fresh (.mk w p s ks) in_ hr hnd
    have hr' := hr
    rw [right_mk] at hr
    rcases hr.2 with ⟨h0, hk, h1⟩ | ⟨hw1, hwy, hk2, hp0, hkr⟩
    · subst h0 hk
      rw [withT_mk, if_pos rfl] at hu
      split at hu
      · cases hu
      · obtain rfl := (List.cons.inj hu).1
        rw [plainT_mk, if_pos rfl, right_mk]
        exact ⟨hr.1, .inl ⟨rfl, rfl, h1⟩⟩
    · have hw0 : w ≠ 0 := by omega
      rw [panesT_mk, if_neg hw0] at hnd
      have htwo : twoT (plainT u) := by
        rcases hrel with h | ⟨t', h1, -, h3⟩
        · exact absurd h.1 hw0
        · rw [hu] at h1
          obtain rfl := (List.cons.inj h1).1
          exact h3
      rw [withT_mk, if_neg hw0] at hu
      obtain rfl := (List.cons.inj hu).1
      rw [plainT_mk, if_neg hw0] at htwo ⊢
      have hM : ∀ x ∈ (ks.flatMap fun k => withT noD fresh k w).flatMap (fun k => kidsOf w (plainT k)), x.right w := by
        intro x hx
        obtain ⟨k', hk', hx'⟩ := List.mem_flatMap.1 hx
        obtain ⟨k, hk, hkk⟩ := List.mem_flatMap.1 hk'
        have hkn : (panesT k).Nodup := by
          obtain ⟨a, b, rfl⟩ := List.append_of_mem hk
          rw [List.flatMap_append, List.flatMap_cons] at hnd
          exact (List.nodup_append.1 (List.nodup_append.1 hnd).2.1).1
        rcases drop_rel fresh k w (hkr k hk) hkn with h | ⟨t', h1, -, -⟩
        · rw [h.2.2.1] at hkk
          cases hkk
        · rw [h1] at hkk
          obtain rfl := List.mem_singleton.1 hkk
          exact kidsOf_right hw0 (ih k hk w (hkr k hk) hkn k' h1) x hx'
      generalize (ks.flatMap fun k => withT noD fresh k w).flatMap (fun k => kidsOf w (plainT k)) = M at *
      match M, htwo, hM with
      | [], htwo, _ =>
        rcases htwo with h | h
        · exact absurd h hw0
        · exact absurd h (by show ¬ 2 ≤ 0; decide)
      | [x], _, hM =>
        have hx := hM x (by simp)
        obtain ⟨cw, cp, cs, ck⟩ := x
        show (Spl.mk cw cp s ck).right 0
        rw [right_mk] at hx ⊢
        refine ⟨hr.1, ?_⟩
        rcases hx.2 with h | ⟨a, b, c⟩
        · exact .inl h
        · exact .inr ⟨a, by omega, c⟩
      | x :: y :: l, _, hM =>
        show (Spl.mk w p s (x :: y :: l)).right 0
        rw [right_mk]
        exact ⟨hr.1, .inr ⟨hw1, hw0, by simp, hp0, hM⟩⟩
/-- What was cut and dropped: both are splits, and the panes are those that there were. -/
theorem cut_drop {t : Spl} {pane way fresh : Int} (h : (cutR t pane way fresh).2 = 0) :
    (cutR t pane way fresh).1.ok ∧ (visS (cutR t pane way fresh).1 0 (0, [])).1 = 0 ∧ (dropR (cutR t pane way fresh).1 fresh).2 = 0 ∧ (dropR (cutR t pane way fresh).1 fresh).1.ok ∧
      (dropR (cutR t pane way fresh).1 fresh).1.right 0 ∧ (visS (dropR (cutR t pane way fresh).1 fresh).1 0 (0, [])).1 = 0 ∧ panesT (dropR (cutR t pane way fresh).1 fresh).1 = panesT t := by
  unfold cutR at h
  split at h
  · rename_i h0
    exact absurd h h0
  · rename_i h0
    split at h
    · cases h
    · rename_i hpm
      split at h
      · cases h
      · rename_i hwf
        split at h
        · cases h
        · rename_i hfm
          split at h
          · cases h
          · rename_i hl12
            have hv : (visS t 0 (0, [])).1 = 0 := by simpa using h0
            obtain ⟨hr, -, h12, hnd⟩ := vis_right hv
            have hpm' : pane ∈ panesT t := by simpa using hpm
            have hpb := right_bounds t 0 hr pane hpm'
            have e : cutR t pane way fresh = (cutT pane way fresh t, 0) := by unfold cutR; rw [if_neg h0, if_neg hpm, if_neg hwf, if_neg hfm, if_neg hl12]
            rw [e]
            dsimp only
            have hcp := cut_panes (pane := pane) (fresh := fresh) (show way ≠ 0 by omega) t 0 hr
            have hcr := cut_right (pane := pane) (way := way) (fresh := fresh) (by omega) hpb (by omega) t 0 hr fun _ _ => by omega
            obtain ⟨A, B, hAB, hput⟩ := putL_some (fresh := fresh) hnd hpm'
            rw [hput] at hcp
            have hfA : fresh ∉ A ∧ fresh ∉ B ∧ fresh ≠ pane := by
              rw [hAB] at hfm
              simp only [List.mem_append, List.mem_cons, not_or] at hfm
              exact ⟨hfm.1, hfm.2.2, hfm.2.1⟩
            have hcn : (panesT (cutT pane way fresh t)).Nodup := by
              rw [hcp]
              have hq : (A ++ pane :: fresh :: B).Perm (fresh :: (A ++ pane :: B)) := by
                rw [show A ++ pane :: fresh :: B = (A ++ [pane]) ++ fresh :: B by simp, show A ++ pane :: B = (A ++ [pane]) ++ B by simp]
                exact List.perm_middle
              rw [hq.nodup_iff, List.nodup_cons, ← hAB]
              exact ⟨hfm, hnd⟩
            have hcl : (panesT (cutT pane way fresh t)).length = (panesT t).length + 1 := by
              rw [hcp, hAB]
              simp only [List.length_append, List.length_cons]
              omega
            have hcv := vis_of hcr hcn (by omega)
            have hcf : fresh ∈ panesT (cutT pane way fresh t) := by rw [hcp]; simp
            have hfil : (panesT (cutT pane way fresh t)).filter (fun p => decide (p ≠ fresh)) = panesT t := by
              rw [hcp, hAB, List.filter_append, List.filter_cons_of_pos (by simpa using hfA.2.2.symm), List.filter_cons_of_neg (by simp)]
              rw [List.filter_eq_self.2 fun x hx => by simp; rintro rfl; exact hfA.1 hx, List.filter_eq_self.2 fun x hx => by simp; rintro rfl; exact hfA.2.1 hx]
            have hpos := right_panes t 0 hr
            obtain ⟨u, hu⟩ : ∃ u, withT noD fresh (cutT pane way fresh t) 0 = [u] := by
              rcases drop_rel fresh _ 0 hcr hcn with h | ⟨t', h1, -, -⟩
              · have := leaf_panes h.1 h.2.1
                rw [this, List.length_singleton] at hcl
                omega
              · exact ⟨t', h1⟩
            have hdr := plain_right fresh _ 0 hcr hcn u hu
            have hdp : panesT (plainT u) = panesT t := by
              have := with_panes fresh (cutT pane way fresh t) 0
              rw [hu, hfil, List.flatMap_cons, List.flatMap_nil, List.append_nil] at this
              rw [plain_panes, this]
            have ed : dropR (cutT pane way fresh t) fresh = (plainT u, 0) := by
              unfold dropR
              rw [if_neg (by simpa using hcv), if_neg (by simpa using hcf), if_neg (by omega), hu]
              rfl
            rw [ed]
            exact ⟨right_okS _ 0 hcr (by omega), hcv, rfl, right_okS _ 0 hdr (by rw [hdp]; exact h12), hdr, vis_of hdr (by rw [hdp]; exact hnd) (by rw [hdp]; exact h12), hdp⟩
end Go.Eng.YtimpfhokacfobaaDoor
end

/- Splits: Parse of what is printed (b_ x_ q_ e_). -/
section
namespace Go.Eng.YtimpfhokacfobaaDoor
open Go Go.Eng Go.Proofs Go.RowKit
variable (W : World)
set_option linter.unusedSimpArgs false
set_option maxRecDepth 100000
set_option linter.unusedVariables false
set_option maxHeartbeats 4000000
theorem stop_nil : stopB [] := ⟨fun c hc => by simp at hc, by simp⟩
theorem parseP_ok (t : Spl) (ht : t.ok) (h0 : (visS t 0 (0, [])).1 = 0) : Pure Tryd.prog W 8 [.str (wrS t)] (.tup [encSpl t, .int .i64 0, .int .i64 0]) := by
  have hck := checkS_ok W t ht
  rw [h0] at hck
  obtain ⟨hr, -, h12, -⟩ := vis_right h0
  have hl := wrS_len t 0 hr
  have hg := fun b => splitG_ok W b (wrS t) (by omega) t 0 0 1 [] hr (by decide) (by omega) (by rw [List.drop_zero, List.append_nil]) stop_nil
  clear hr h0 ht
  rw [Nat.zero_add] at hg
  unfold SpOut at hg
  have hlS : (wrS t).length ≤ 4000 := by omega
  generalize wrS t = S at *
  obtain ⟨w, p, z, ks⟩ := t
  rw [encSpl_mk] at *
  simp only [rdM] at hg
  refine Pure.of (acalls_of_end Tryd.func8 rfl (by decide) rfl ?_)
  refine WpE.seq (DD_ok (by decide)) (.inl rfl) (by decide) ?_
  (refine g0_ ?_; repeat ((first | refine n1_ fun b_ => ?_ | refine n2_ fun b_ => ?_ | refine Nat1.mk fun q_ hq_ => ?_ | refine em_ fun x_ hx_ => ?_ | refine Elem1.mk fun e_ he_ => ?_); refine g0_ ?_))
  rename_i bA bB
  refine WpE.seq (DD_ok (by decide)) (.inl rfl) (by decide) ?_
  (refine g0_ ?_; repeat ((first | refine n1_ fun b_ => ?_ | refine n2_ fun b_ => ?_ | refine Nat1.mk fun q_ hq_ => ?_ | refine em_ fun x_ hx_ => ?_ | refine Elem1.mk fun e_ he_ => ?_); refine g0_ ?_))
  (refine g1_ ?_; repeat ((first | refine n1_ fun b_ => ?_ | refine n2_ fun b_ => ?_ | refine Nat1.mk fun q_ hq_ => ?_ | refine em_ fun x_ hx_ => ?_ | refine Elem1.mk fun e_ he_ => ?_); refine g1_ ?_))
  refine ⟨fun K a w' hs => ?_⟩
  have e2 : VRel K w' (.bref bA 0) (a.tmps.getD 2 undef) := hs.env 2
  have e3 : VRel K w' (.bref bB 0) (a.tmps.getD 3 undef) := hs.env 3
  have e4 : VRel K w' (.bref b_ 0) (a.tmps.getD 4 undef) := hs.env 4
  have hsz : a.tmps.size = 37 := hs.sz
  generalize hv2 : a.tmps.getD 2 undef = v2 at e2
  generalize hv3 : a.tmps.getD 3 undef = v3 at e3
  generalize hv4 : a.tmps.getD 4 undef = v4 at e4
  cases e2
  cases e3
  cases e4
  refine wp_seq (wp_defer2 (by rw [hsz]; decide) ?_)
  have hd : Idle Tryd.prog { target := .fn (.func 25) #[.pointer (some ⟨bA, 0, none⟩), .pointer (some ⟨bB, 0, none⟩), .pointer (some ⟨b_, 0, none⟩)], args := #[] } :=
    ⟨_, _, _, _, rfl, fun w => by simp [go_sem], fun w => idle0 ⟨bA, 0, none⟩ ⟨bB, 0, none⟩ ⟨b_, 0, none⟩ w⟩
  have hs' := (hs.put (dst := some 11) (pv := .dead) (v := .func (.func 25) #[] (#[Operand.tmp 2, Operand.tmp 3, Operand.tmp 4].map a.eval)) rfl (.dead _) hs.mem (Ext.refl _ _ _)).defer { target := .fn (.func 25) (#[Operand.tmp 2, Operand.tmp 3, Operand.tmp 4].map a.eval), args := #[] }
  have e5 : #[Operand.tmp 2, Operand.tmp 3, Operand.tmp 4].map a.eval = #[.pointer (some ⟨bA, 0, none⟩), .pointer (some ⟨bB, 0, none⟩), .pointer (some ⟨b_, 0, none⟩)] := by
    simp [Act.eval, hv2, hv3, hv4]
  rw [e5] at hs' ⊢
  refine WpE.run (WpE.last (DD_ok (by decide)) (.inr ⟨_, rfl, hd⟩) (by decide) ?_) K _ w' hs'
  (refine g0_ ?_; repeat ((first | refine n1_ fun b_ => ?_ | refine n2_ fun b_ => ?_ | refine Nat1.mk fun q_ hq_ => ?_ | refine em_ fun x_ hx_ => ?_ | refine Elem1.mk fun e_ he_ => ?_); refine g0_ ?_))
  refine ACalls.lendK (hg b_) (List.Perm.refl _) ?_
  (refine g0_ ?_; repeat ((first | refine n1_ fun b_ => ?_ | refine n2_ fun b_ => ?_ | refine Nat1.mk fun q_ hq_ => ?_ | refine em_ fun x_ hx_ => ?_ | refine Elem1.mk fun e_ he_ => ?_); refine g0_ ?_))
  (refine g1_ ?_; repeat ((first | refine n1_ fun b_ => ?_ | refine n2_ fun b_ => ?_ | refine Nat1.mk fun q_ hq_ => ?_ | refine em_ fun x_ hx_ => ?_ | refine Elem1.mk fun e_ he_ => ?_); refine g1_ ?_))
  refine (hck).use ?_; (refine g0_ ?_; repeat ((first | refine n1_ fun b_ => ?_ | refine n2_ fun b_ => ?_ | refine Nat1.mk fun q_ hq_ => ?_ | refine em_ fun x_ hx_ => ?_ | refine Elem1.mk fun e_ he_ => ?_); refine g0_ ?_))
  (refine g1_ ?_; repeat ((first | refine n1_ fun b_ => ?_ | refine n2_ fun b_ => ?_ | refine Nat1.mk fun q_ hq_ => ?_ | refine em_ fun x_ hx_ => ?_ | refine Elem1.mk fun e_ he_ => ?_); refine g1_ ?_))
  exact .refl _
end Go.Eng.YtimpfhokacfobaaDoor
end

/- Splits: the law SplitBack (b_ x_ q_ e_). -/
section
namespace Go.Eng.YtimpfhokacfobaaDoor
open Go Go.Eng Go.Proofs
variable (W : World)
set_option linter.unusedSimpArgs false
set_option maxRecDepth 100000
set_option linter.unusedVariables false
set_option maxHeartbeats 8000000
theorem splitBack_ok (hN : Nums W) (t : Spl) (ht : t.ok) (pane : Int) (hp : i64ok pane) (way : Int) (hw : i64ok way) (fresh : Int) (hf : i64ok fresh) :
    Pure Tryd.prog W 3 [encSpl t, .int .i64 pane, .int .i64 way, .int .i64 fresh] (.bool true) := by
  have hpt := parted_ok W
  have hck := checkS_ok W t ht
  by_cases h0 : (visS t 0 (0, [])).1 = 0
  · rw [h0] at hck
    obtain ⟨hr, -, hl12, hnd⟩ := vis_right h0
    have hb := right_bounds t 0 hr
    have hpos := right_panes t 0 hr
    have hpr := printP_ok W hN t ht h0
    have hps := parseP_ok W t ht h0
    have hsm := sameT_ok W t ht t
    rw [sameT_rfl] at hsm
    have hpn := panes_ok W t 0 hr hl12
    have hrot : ∀ i y, turnI t i y → i < (panesT t).length → ∃ z, turnI t (i + 1) z ∧ Pure Tryd.prog W 11 [encSpl y] (.tup [encSpl z, .int .i64 0]) := by
      intro i y hy hi
      obtain ⟨h1, h2⟩ := turn_next hr hnd hl12 hi hy
      have hyr := turn_right hr hb hy
      have hyl : (panesT y).length ≤ 12 := by rw [(turn_panes hy).1.length_eq]; exact hl12
      have := rotP_ok W y (right_okS y 0 hyr hyl)
      rw [h1] at this
      exact ⟨_, h2, this⟩
    have hz := turn_zero t
    have hall := fun y => turn_all (t := t) (y := y)
    have hs1 := fun a => swapP_ok W t ht pane a
    have hs2 := fun a => swap_back (t := t) (a := pane) (b := a)
    have hcu := cutP_ok W t ht pane way fresh
    have hcd := cut_drop (t := t) (pane := pane) (way := way) (fresh := fresh)
    clear h0 hr hb ht
    generalize hl : panesT t = l at *
    obtain ⟨a0, l, rfl⟩ : ∃ a m, l = a :: m := by
      cases l with
      | nil => simp at hpos
      | cons a m => exact ⟨a, m, rfl⟩
    have hlm : (panesV (a0 :: l)).length = l.length + 1 := List.length_map _
    have hlm2 : (panesV l).length = l.length := List.length_map _
    have hs1 := hs1 a0
    have hs2 := hs2 a0
    obtain ⟨T, hT⟩ : ∃ T, T = t := ⟨t, rfl⟩
    rw [← hT] at hrot hz hall
    generalize hSR : swapR t pane a0 = SR at *
    obtain ⟨S1, f1⟩ := SR
    generalize hCR : cutR t pane way fresh = CR at *
    obtain ⟨C1, f2⟩ := CR
    generalize wrS t = txt at *
    dsimp only at *
    obtain ⟨w, p, s, ks⟩ := t
    simp only [encSpl] at hck hpr hps hsm hpn hs1 hcu ⊢
    rw [show panesV (a0 :: l) = .int .i64 a0 :: panesV l from rfl] at hpn
    clear hl hnd
    refine Pure.of (acalls_of_vc (DL_ok (by decide)) Tryd.func3 rfl (by decide) (by decide) rfl ?_)
    (refine g0_ ?_; repeat ((first | refine n1_ fun b_ => ?_ | refine n2_ fun b_ => ?_ | refine Nat1.mk fun q_ hq_ => ?_ | refine em_ fun x_ hx_ => ?_ | refine Elem1.mk fun e_ he_ => ?_); refine g0_ ?_))
    refine (hpt).use ?_; (refine g0_ ?_; repeat ((first | refine n1_ fun b_ => ?_ | refine n2_ fun b_ => ?_ | refine Nat1.mk fun q_ hq_ => ?_ | refine em_ fun x_ hx_ => ?_ | refine Elem1.mk fun e_ he_ => ?_); refine g0_ ?_))
    (refine g0_ ?_; repeat ((first | refine n1_ fun b_ => ?_ | refine n2_ fun b_ => ?_ | refine Nat1.mk fun q_ hq_ => ?_ | refine em_ fun x_ hx_ => ?_ | refine Elem1.mk fun e_ he_ => ?_); refine g0_ ?_))
    refine (hck).use ?_; (refine g0_ ?_; repeat ((first | refine n1_ fun b_ => ?_ | refine n2_ fun b_ => ?_ | refine Nat1.mk fun q_ hq_ => ?_ | refine em_ fun x_ hx_ => ?_ | refine Elem1.mk fun e_ he_ => ?_); refine g0_ ?_))
    (refine g1_ ?_; repeat ((first | refine n1_ fun b_ => ?_ | refine n2_ fun b_ => ?_ | refine Nat1.mk fun q_ hq_ => ?_ | refine em_ fun x_ hx_ => ?_ | refine Elem1.mk fun e_ he_ => ?_); refine g1_ ?_))
    refine (hpr).use ?_; (refine g0_ ?_; repeat ((first | refine n1_ fun b_ => ?_ | refine n2_ fun b_ => ?_ | refine Nat1.mk fun q_ hq_ => ?_ | refine em_ fun x_ hx_ => ?_ | refine Elem1.mk fun e_ he_ => ?_); refine g0_ ?_))
    (refine g1_ ?_; repeat ((first | refine n1_ fun b_ => ?_ | refine n2_ fun b_ => ?_ | refine Nat1.mk fun q_ hq_ => ?_ | refine em_ fun x_ hx_ => ?_ | refine Elem1.mk fun e_ he_ => ?_); refine g1_ ?_))
    refine (hps).use ?_; (refine g0_ ?_; repeat ((first | refine n1_ fun b_ => ?_ | refine n2_ fun b_ => ?_ | refine Nat1.mk fun q_ hq_ => ?_ | refine em_ fun x_ hx_ => ?_ | refine Elem1.mk fun e_ he_ => ?_); refine g0_ ?_))
    (refine g1_ ?_; repeat ((first | refine n1_ fun b_ => ?_ | refine n2_ fun b_ => ?_ | refine Nat1.mk fun q_ hq_ => ?_ | refine em_ fun x_ hx_ => ?_ | refine Elem1.mk fun e_ he_ => ?_); refine g1_ ?_))
    refine (hsm).use ?_; (refine g0_ ?_; repeat ((first | refine n1_ fun b_ => ?_ | refine n2_ fun b_ => ?_ | refine Nat1.mk fun q_ hq_ => ?_ | refine em_ fun x_ hx_ => ?_ | refine Elem1.mk fun e_ he_ => ?_); refine g0_ ?_))
    (refine g1_ ?_; repeat ((first | refine n1_ fun b_ => ?_ | refine n2_ fun b_ => ?_ | refine Nat1.mk fun q_ hq_ => ?_ | refine em_ fun x_ hx_ => ?_ | refine Elem1.mk fun e_ he_ => ?_); refine g1_ ?_))
    refine (hpn).use ?_; (refine g0_ ?_; repeat ((first | refine n1_ fun b_ => ?_ | refine n2_ fun b_ => ?_ | refine Nat1.mk fun q_ hq_ => ?_ | refine em_ fun x_ hx_ => ?_ | refine Elem1.mk fun e_ he_ => ?_); refine g0_ ?_))
    (refine g0_ ?_; repeat ((first | refine n1_ fun b_ => ?_ | refine n2_ fun b_ => ?_ | refine Nat1.mk fun q_ hq_ => ?_ | refine em_ fun x_ hx_ => ?_ | refine Elem1.mk fun e_ he_ => ?_); refine g0_ ?_))
    (refine g1_ ?_; repeat ((first | refine n1_ fun b_ => ?_ | refine n2_ fun b_ => ?_ | refine Nat1.mk fun q_ hq_ => ?_ | refine em_ fun x_ hx_ => ?_ | refine Elem1.mk fun e_ he_ => ?_); refine g1_ ?_))
    rename_i bT bX
    obtain ⟨bY, rfl⟩ : ∃ z, z = b_ := ⟨_, rfl⟩
    refine' loopI (α := Nat × Spl) (fun (i, y) => [(61, .int .i64 i), (10, .int .i64 0)]) [(1, _), (2, _), (3, _), (4, _), (14, _), (15, _), (60, _)] (fun (i, y) => [⟨bY, .row 4 [encSpl y] 0⟩, ⟨bX, .row 4 [.agg [.int .i64 w, .int .i64 p, .int .i64 s, .sl 4 (encSpls ks)]] 0⟩, ⟨bT, .row 4 [.agg [.int .i64 w, .int .i64 p, .int .i64 s, .sl 4 (encSpls ks)]] 0⟩]) (fun (i, y) => i ≤ l.length + 1 ∧ turnI T i y) (fun (i, y) => l.length + 1 - i) (0, .mk w p s ks) ?_ ?_
    · exact ⟨Nat.zero_le _, hT ▸ hz⟩
    rintro ⟨i, y⟩ ⟨hi, hy⟩
    by_cases hie : i = l.length + 1
    · subst hie
      obtain rfl := hall y hy
      subst hT
      clear hall hrot hz hy hi
      (refine g0_ ?_; repeat ((first | refine n1_ fun b_ => ?_ | refine n2_ fun b_ => ?_ | refine Nat1.mk fun q_ hq_ => ?_ | refine em_ fun x_ hx_ => ?_ | refine Elem1.mk fun e_ he_ => ?_); refine g0_ ?_))
      (refine g1_ ?_; repeat ((first | refine n1_ fun b_ => ?_ | refine n2_ fun b_ => ?_ | refine Nat1.mk fun q_ hq_ => ?_ | refine em_ fun x_ hx_ => ?_ | refine Elem1.mk fun e_ he_ => ?_); refine g1_ ?_))
      refine (hsm).use ?_; (refine g0_ ?_; repeat ((first | refine n1_ fun b_ => ?_ | refine n2_ fun b_ => ?_ | refine Nat1.mk fun q_ hq_ => ?_ | refine em_ fun x_ hx_ => ?_ | refine Elem1.mk fun e_ he_ => ?_); refine g0_ ?_))
      (refine g1_ ?_; repeat ((first | refine n1_ fun b_ => ?_ | refine n2_ fun b_ => ?_ | refine Nat1.mk fun q_ hq_ => ?_ | refine em_ fun x_ hx_ => ?_ | refine Elem1.mk fun e_ he_ => ?_); refine g1_ ?_))
      obtain ⟨sw, sp, ss, sk⟩ := S1
      obtain ⟨cw, cp, cs, ck⟩ := C1
      simp only [encSpl] at hs1 hcu
      refine Draws10.chain ⟨11, [.new, .new, .new, .new, .new, .new, .new, .new, .new, .turn, .skip], [(9, [.again, .again, .again, .again, .again, .again, .again, .again, .again, .keep, .turn]), (10, [.keep, .keep, .keep, .keep, .keep, .keep, .keep, .keep, .again, .keep, .keep])], by decide +kernel, ?_⟩; (refine g0_ ?_; repeat ((first | refine n1_ fun b_ => ?_ | refine n2_ fun b_ => ?_ | refine Nat1.mk fun q_ hq_ => ?_ | refine em_ fun x_ hx_ => ?_ | refine Elem1.mk fun e_ he_ => ?_); refine g0_ ?_))
      refine ⟨_, (hs1).quiet, ?_⟩; (refine g0_ ?_; repeat ((first | refine n1_ fun b_ => ?_ | refine n2_ fun b_ => ?_ | refine Nat1.mk fun q_ hq_ => ?_ | refine em_ fun x_ hx_ => ?_ | refine Elem1.mk fun e_ he_ => ?_); refine g0_ ?_))
      refine ⟨_, (hs1).quiet, ?_⟩; (refine g0_ ?_; repeat ((first | refine n1_ fun b_ => ?_ | refine n2_ fun b_ => ?_ | refine Nat1.mk fun q_ hq_ => ?_ | refine em_ fun x_ hx_ => ?_ | refine Elem1.mk fun e_ he_ => ?_); refine g0_ ?_))
      by_cases hf1 : f1 = 0
      · subst hf1
        obtain ⟨h1, h2⟩ := hs2 rfl
        have hs3 := swapP_ok W _ h1 pane a0
        rw [h2] at hs3
        simp only [encSpl] at hs3
        clear hs2 h1 h2
        (refine g0_ ?_; repeat ((first | refine n1_ fun b_ => ?_ | refine n2_ fun b_ => ?_ | refine Nat1.mk fun q_ hq_ => ?_ | refine em_ fun x_ hx_ => ?_ | refine Elem1.mk fun e_ he_ => ?_); refine g0_ ?_))
        (refine g1_ ?_; repeat ((first | refine n1_ fun b_ => ?_ | refine n2_ fun b_ => ?_ | refine Nat1.mk fun q_ hq_ => ?_ | refine em_ fun x_ hx_ => ?_ | refine Elem1.mk fun e_ he_ => ?_); refine g1_ ?_))
        refine Draws10.chain ⟨11, [.new, .new, .new, .new, .new, .new, .new, .new, .new, .turn, .skip], [(9, [.again, .again, .again, .again, .again, .again, .again, .again, .again, .keep, .turn]), (10, [.keep, .keep, .keep, .keep, .keep, .keep, .keep, .keep, .again, .keep, .keep])], by decide +kernel, ?_⟩; (refine g0_ ?_; repeat ((first | refine n1_ fun b_ => ?_ | refine n2_ fun b_ => ?_ | refine Nat1.mk fun q_ hq_ => ?_ | refine em_ fun x_ hx_ => ?_ | refine Elem1.mk fun e_ he_ => ?_); refine g0_ ?_))
        refine ⟨_, (hs3).quiet, ?_⟩; (refine g0_ ?_; repeat ((first | refine n1_ fun b_ => ?_ | refine n2_ fun b_ => ?_ | refine Nat1.mk fun q_ hq_ => ?_ | refine em_ fun x_ hx_ => ?_ | refine Elem1.mk fun e_ he_ => ?_); refine g0_ ?_))
        refine ⟨_, (hs3).quiet, ?_⟩; (refine g0_ ?_; repeat ((first | refine n1_ fun b_ => ?_ | refine n2_ fun b_ => ?_ | refine Nat1.mk fun q_ hq_ => ?_ | refine em_ fun x_ hx_ => ?_ | refine Elem1.mk fun e_ he_ => ?_); refine g0_ ?_))
        (refine g0_ ?_; repeat ((first | refine n1_ fun b_ => ?_ | refine n2_ fun b_ => ?_ | refine Nat1.mk fun q_ hq_ => ?_ | refine em_ fun x_ hx_ => ?_ | refine Elem1.mk fun e_ he_ => ?_); refine g0_ ?_))
        (refine g1_ ?_; repeat ((first | refine n1_ fun b_ => ?_ | refine n2_ fun b_ => ?_ | refine Nat1.mk fun q_ hq_ => ?_ | refine em_ fun x_ hx_ => ?_ | refine Elem1.mk fun e_ he_ => ?_); refine g1_ ?_))
        refine (hsm).use ?_; (refine g0_ ?_; repeat ((first | refine n1_ fun b_ => ?_ | refine n2_ fun b_ => ?_ | refine Nat1.mk fun q_ hq_ => ?_ | refine em_ fun x_ hx_ => ?_ | refine Elem1.mk fun e_ he_ => ?_); refine g0_ ?_))
        (refine g1_ ?_; repeat ((first | refine n1_ fun b_ => ?_ | refine n2_ fun b_ => ?_ | refine Nat1.mk fun q_ hq_ => ?_ | refine em_ fun x_ hx_ => ?_ | refine Elem1.mk fun e_ he_ => ?_); refine g1_ ?_))
        refine (hcu).use ?_; (refine g0_ ?_; repeat ((first | refine n1_ fun b_ => ?_ | refine n2_ fun b_ => ?_ | refine Nat1.mk fun q_ hq_ => ?_ | refine em_ fun x_ hx_ => ?_ | refine Elem1.mk fun e_ he_ => ?_); refine g0_ ?_))
        by_cases hf2 : f2 = 0
        · subst hf2
          obtain ⟨c1, c2, c3, c4, c5, c6, c7⟩ := hcd rfl
          have hdr := dropP_ok W _ c1 fresh
          have hckc := checkS_ok W _ c1
          have hckd := checkS_ok W _ c4
          have hpd := panes_ok W _ 0 c5 (by rw [c7]; exact hl12)
          have heq := equal_ints W (a0 :: l) (a0 :: l) (by omega)
          rw [decide_eq_true rfl] at heq
          rw [c2] at hckc
          rw [c6] at hckd
          rw [c3] at hdr
          rw [c7] at hpd
          clear hcd c1 c2 c3 c4 c5 c6 c7
          generalize (dropR (.mk cw cp cs ck) fresh).1 = D1 at *
          obtain ⟨dw, dp, ds, dk⟩ := D1
          simp only [encSpl] at hdr hckc hckd hpd
          rw [show panesV (a0 :: l) = .int .i64 a0 :: panesV l from rfl] at hpd
          rw [show (a0 :: l).map (PV.int .i64) = .int .i64 a0 :: panesV l from rfl] at heq
          (refine g0_ ?_; repeat ((first | refine n1_ fun b_ => ?_ | refine n2_ fun b_ => ?_ | refine Nat1.mk fun q_ hq_ => ?_ | refine em_ fun x_ hx_ => ?_ | refine Elem1.mk fun e_ he_ => ?_); refine g0_ ?_))
          (refine g1_ ?_; repeat ((first | refine n1_ fun b_ => ?_ | refine n2_ fun b_ => ?_ | refine Nat1.mk fun q_ hq_ => ?_ | refine em_ fun x_ hx_ => ?_ | refine Elem1.mk fun e_ he_ => ?_); refine g1_ ?_))
          refine (hdr).use ?_; (refine g0_ ?_; repeat ((first | refine n1_ fun b_ => ?_ | refine n2_ fun b_ => ?_ | refine Nat1.mk fun q_ hq_ => ?_ | refine em_ fun x_ hx_ => ?_ | refine Elem1.mk fun e_ he_ => ?_); refine g0_ ?_))
          (refine g1_ ?_; repeat ((first | refine n1_ fun b_ => ?_ | refine n2_ fun b_ => ?_ | refine Nat1.mk fun q_ hq_ => ?_ | refine em_ fun x_ hx_ => ?_ | refine Elem1.mk fun e_ he_ => ?_); refine g1_ ?_))
          refine (hckc).use ?_; (refine g0_ ?_; repeat ((first | refine n1_ fun b_ => ?_ | refine n2_ fun b_ => ?_ | refine Nat1.mk fun q_ hq_ => ?_ | refine em_ fun x_ hx_ => ?_ | refine Elem1.mk fun e_ he_ => ?_); refine g0_ ?_))
          (refine g1_ ?_; repeat ((first | refine n1_ fun b_ => ?_ | refine n2_ fun b_ => ?_ | refine Nat1.mk fun q_ hq_ => ?_ | refine em_ fun x_ hx_ => ?_ | refine Elem1.mk fun e_ he_ => ?_); refine g1_ ?_))
          refine (hckd).use ?_; (refine g0_ ?_; repeat ((first | refine n1_ fun b_ => ?_ | refine n2_ fun b_ => ?_ | refine Nat1.mk fun q_ hq_ => ?_ | refine em_ fun x_ hx_ => ?_ | refine Elem1.mk fun e_ he_ => ?_); refine g0_ ?_))
          (refine g1_ ?_; repeat ((first | refine n1_ fun b_ => ?_ | refine n2_ fun b_ => ?_ | refine Nat1.mk fun q_ hq_ => ?_ | refine em_ fun x_ hx_ => ?_ | refine Elem1.mk fun e_ he_ => ?_); refine g1_ ?_))
          refine (hpd).use ?_; (refine g0_ ?_; repeat ((first | refine n1_ fun b_ => ?_ | refine n2_ fun b_ => ?_ | refine Nat1.mk fun q_ hq_ => ?_ | refine em_ fun x_ hx_ => ?_ | refine Elem1.mk fun e_ he_ => ?_); refine g0_ ?_))
          (refine g1_ ?_; repeat ((first | refine n1_ fun b_ => ?_ | refine n2_ fun b_ => ?_ | refine Nat1.mk fun q_ hq_ => ?_ | refine em_ fun x_ hx_ => ?_ | refine Elem1.mk fun e_ he_ => ?_); refine g1_ ?_))
          refine (heq).use ?_; (refine g0_ ?_; repeat ((first | refine n1_ fun b_ => ?_ | refine n2_ fun b_ => ?_ | refine Nat1.mk fun q_ hq_ => ?_ | refine em_ fun x_ hx_ => ?_ | refine Elem1.mk fun e_ he_ => ?_); refine g0_ ?_))
          (refine g1_ ?_; repeat ((first | refine n1_ fun b_ => ?_ | refine n2_ fun b_ => ?_ | refine Nat1.mk fun q_ hq_ => ?_ | refine em_ fun x_ hx_ => ?_ | refine Elem1.mk fun e_ he_ => ?_); refine g1_ ?_))
          exact .refl _
        · clear hcd
          (refine g0_ ?_; repeat ((first | refine n1_ fun b_ => ?_ | refine n2_ fun b_ => ?_ | refine Nat1.mk fun q_ hq_ => ?_ | refine em_ fun x_ hx_ => ?_ | refine Elem1.mk fun e_ he_ => ?_); refine g0_ ?_))
          (refine g1_ ?_; repeat ((first | refine n1_ fun b_ => ?_ | refine n2_ fun b_ => ?_ | refine Nat1.mk fun q_ hq_ => ?_ | refine em_ fun x_ hx_ => ?_ | refine Elem1.mk fun e_ he_ => ?_); refine g1_ ?_))
          exact .refl _
      · clear hs2
        (refine g0_ ?_; repeat ((first | refine n1_ fun b_ => ?_ | refine n2_ fun b_ => ?_ | refine Nat1.mk fun q_ hq_ => ?_ | refine em_ fun x_ hx_ => ?_ | refine Elem1.mk fun e_ he_ => ?_); refine g0_ ?_))
        (refine g1_ ?_; repeat ((first | refine n1_ fun b_ => ?_ | refine n2_ fun b_ => ?_ | refine Nat1.mk fun q_ hq_ => ?_ | refine em_ fun x_ hx_ => ?_ | refine Elem1.mk fun e_ he_ => ?_); refine g1_ ?_))
        refine (hcu).use ?_; (refine g0_ ?_; repeat ((first | refine n1_ fun b_ => ?_ | refine n2_ fun b_ => ?_ | refine Nat1.mk fun q_ hq_ => ?_ | refine em_ fun x_ hx_ => ?_ | refine Elem1.mk fun e_ he_ => ?_); refine g0_ ?_))
        by_cases hf2 : f2 = 0
        · subst hf2
          obtain ⟨c1, c2, c3, c4, c5, c6, c7⟩ := hcd rfl
          have hdr := dropP_ok W _ c1 fresh
          have hckc := checkS_ok W _ c1
          have hckd := checkS_ok W _ c4
          have hpd := panes_ok W _ 0 c5 (by rw [c7]; exact hl12)
          have heq := equal_ints W (a0 :: l) (a0 :: l) (by omega)
          rw [decide_eq_true rfl] at heq
          rw [c2] at hckc
          rw [c6] at hckd
          rw [c3] at hdr
          rw [c7] at hpd
          clear hcd c1 c2 c3 c4 c5 c6 c7
          generalize (dropR (.mk cw cp cs ck) fresh).1 = D1 at *
          obtain ⟨dw, dp, ds, dk⟩ := D1
          simp only [encSpl] at hdr hckc hckd hpd
          rw [show panesV (a0 :: l) = .int .i64 a0 :: panesV l from rfl] at hpd
          rw [show (a0 :: l).map (PV.int .i64) = .int .i64 a0 :: panesV l from rfl] at heq
          (refine g0_ ?_; repeat ((first | refine n1_ fun b_ => ?_ | refine n2_ fun b_ => ?_ | refine Nat1.mk fun q_ hq_ => ?_ | refine em_ fun x_ hx_ => ?_ | refine Elem1.mk fun e_ he_ => ?_); refine g0_ ?_))
          (refine g1_ ?_; repeat ((first | refine n1_ fun b_ => ?_ | refine n2_ fun b_ => ?_ | refine Nat1.mk fun q_ hq_ => ?_ | refine em_ fun x_ hx_ => ?_ | refine Elem1.mk fun e_ he_ => ?_); refine g1_ ?_))
          refine (hdr).use ?_; (refine g0_ ?_; repeat ((first | refine n1_ fun b_ => ?_ | refine n2_ fun b_ => ?_ | refine Nat1.mk fun q_ hq_ => ?_ | refine em_ fun x_ hx_ => ?_ | refine Elem1.mk fun e_ he_ => ?_); refine g0_ ?_))
          (refine g1_ ?_; repeat ((first | refine n1_ fun b_ => ?_ | refine n2_ fun b_ => ?_ | refine Nat1.mk fun q_ hq_ => ?_ | refine em_ fun x_ hx_ => ?_ | refine Elem1.mk fun e_ he_ => ?_); refine g1_ ?_))
          refine (hckc).use ?_; (refine g0_ ?_; repeat ((first | refine n1_ fun b_ => ?_ | refine n2_ fun b_ => ?_ | refine Nat1.mk fun q_ hq_ => ?_ | refine em_ fun x_ hx_ => ?_ | refine Elem1.mk fun e_ he_ => ?_); refine g0_ ?_))
          (refine g1_ ?_; repeat ((first | refine n1_ fun b_ => ?_ | refine n2_ fun b_ => ?_ | refine Nat1.mk fun q_ hq_ => ?_ | refine em_ fun x_ hx_ => ?_ | refine Elem1.mk fun e_ he_ => ?_); refine g1_ ?_))
          refine (hckd).use ?_; (refine g0_ ?_; repeat ((first | refine n1_ fun b_ => ?_ | refine n2_ fun b_ => ?_ | refine Nat1.mk fun q_ hq_ => ?_ | refine em_ fun x_ hx_ => ?_ | refine Elem1.mk fun e_ he_ => ?_); refine g0_ ?_))
          (refine g1_ ?_; repeat ((first | refine n1_ fun b_ => ?_ | refine n2_ fun b_ => ?_ | refine Nat1.mk fun q_ hq_ => ?_ | refine em_ fun x_ hx_ => ?_ | refine Elem1.mk fun e_ he_ => ?_); refine g1_ ?_))
          refine (hpd).use ?_; (refine g0_ ?_; repeat ((first | refine n1_ fun b_ => ?_ | refine n2_ fun b_ => ?_ | refine Nat1.mk fun q_ hq_ => ?_ | refine em_ fun x_ hx_ => ?_ | refine Elem1.mk fun e_ he_ => ?_); refine g0_ ?_))
          (refine g1_ ?_; repeat ((first | refine n1_ fun b_ => ?_ | refine n2_ fun b_ => ?_ | refine Nat1.mk fun q_ hq_ => ?_ | refine em_ fun x_ hx_ => ?_ | refine Elem1.mk fun e_ he_ => ?_); refine g1_ ?_))
          refine (heq).use ?_; (refine g0_ ?_; repeat ((first | refine n1_ fun b_ => ?_ | refine n2_ fun b_ => ?_ | refine Nat1.mk fun q_ hq_ => ?_ | refine em_ fun x_ hx_ => ?_ | refine Elem1.mk fun e_ he_ => ?_); refine g0_ ?_))
          (refine g1_ ?_; repeat ((first | refine n1_ fun b_ => ?_ | refine n2_ fun b_ => ?_ | refine Nat1.mk fun q_ hq_ => ?_ | refine em_ fun x_ hx_ => ?_ | refine Elem1.mk fun e_ he_ => ?_); refine g1_ ?_))
          exact .refl _
        · clear hcd
          (refine g0_ ?_; repeat ((first | refine n1_ fun b_ => ?_ | refine n2_ fun b_ => ?_ | refine Nat1.mk fun q_ hq_ => ?_ | refine em_ fun x_ hx_ => ?_ | refine Elem1.mk fun e_ he_ => ?_); refine g0_ ?_))
          (refine g1_ ?_; repeat ((first | refine n1_ fun b_ => ?_ | refine n2_ fun b_ => ?_ | refine Nat1.mk fun q_ hq_ => ?_ | refine em_ fun x_ hx_ => ?_ | refine Elem1.mk fun e_ he_ => ?_); refine g1_ ?_))
          exact .refl _
    · obtain ⟨z, hz1, hz2⟩ := hrot i y hy (by rw [List.length_cons]; omega)
      obtain ⟨zw, zp, zs, zk⟩ := z
      obtain ⟨yw, yp, ys, yk⟩ := y
      simp only [encSpl] at hz2
      clear hall hrot hz hs2 hcd
      have hil : i < l.length + 1 := by omega
      have hi12 : i ≤ 12 := by rw [List.length_cons] at hl12; omega
      have hlt : ((i : Nat) : Int) < ((PV.int .i64 a0 :: panesV l).length : Int) := by rw [List.length_cons]; omega
      clear hT hy hie hi hck hpr hps hsm hpn hs1 hcu hlm hpos hp hw hf hN hpt
      (refine g0_ ?_; repeat ((first | refine n1_ fun b_ => ?_ | refine n2_ fun b_ => ?_ | refine Nat1.mk fun q_ hq_ => ?_ | refine em_ fun x_ hx_ => ?_ | refine Elem1.mk fun e_ he_ => ?_); refine g0_ ?_))
      rw [decide_eq_true hlt]
      (refine g1_ ?_; repeat ((first | refine n1_ fun b_ => ?_ | refine n2_ fun b_ => ?_ | refine Nat1.mk fun q_ hq_ => ?_ | refine em_ fun x_ hx_ => ?_ | refine Elem1.mk fun e_ he_ => ?_); refine g1_ ?_))
      refine (hz2).use ?_; (refine g0_ ?_; repeat ((first | refine n1_ fun b_ => ?_ | refine n2_ fun b_ => ?_ | refine Nat1.mk fun q_ hq_ => ?_ | refine em_ fun x_ hx_ => ?_ | refine Elem1.mk fun e_ he_ => ?_); refine g0_ ?_))
      (refine g1_ ?_; repeat ((first | refine n1_ fun b_ => ?_ | refine n2_ fun b_ => ?_ | refine Nat1.mk fun q_ hq_ => ?_ | refine em_ fun x_ hx_ => ?_ | refine Elem1.mk fun e_ he_ => ?_); refine g1_ ?_))
      refine nx_ (i + 1, Spl.mk zw zp zs zk) ?_ ?_
      · exact ⟨by omega, hz1⟩
      · ((try dsimp only); (try simp only [List.length_drop, List.length_take, List.length_append, List.length_cons, List.length_nil, List.length_map] at *); omega)
  · generalize (visS t 0 (0, [])).1 = e at *
    obtain ⟨w, p, s, ks⟩ := t
    rw [encSpl_mk] at *
    refine Pure.of (acalls_of_vc (drawOk W) Tryd.func3 rfl (by decide) (by decide) rfl ?_)
    (refine g0_ ?_; repeat ((first | refine n1_ fun b_ => ?_ | refine n2_ fun b_ => ?_ | refine Nat1.mk fun q_ hq_ => ?_ | refine em_ fun x_ hx_ => ?_ | refine Elem1.mk fun e_ he_ => ?_); refine g0_ ?_))
    refine (hpt).use ?_; (refine g0_ ?_; repeat ((first | refine n1_ fun b_ => ?_ | refine n2_ fun b_ => ?_ | refine Nat1.mk fun q_ hq_ => ?_ | refine em_ fun x_ hx_ => ?_ | refine Elem1.mk fun e_ he_ => ?_); refine g0_ ?_))
    (refine g0_ ?_; repeat ((first | refine n1_ fun b_ => ?_ | refine n2_ fun b_ => ?_ | refine Nat1.mk fun q_ hq_ => ?_ | refine em_ fun x_ hx_ => ?_ | refine Elem1.mk fun e_ he_ => ?_); refine g0_ ?_))
    refine (hck).use ?_; (refine g0_ ?_; repeat ((first | refine n1_ fun b_ => ?_ | refine n2_ fun b_ => ?_ | refine Nat1.mk fun q_ hq_ => ?_ | refine em_ fun x_ hx_ => ?_ | refine Elem1.mk fun e_ he_ => ?_); refine g0_ ?_))
    (refine g1_ ?_; repeat ((first | refine n1_ fun b_ => ?_ | refine n2_ fun b_ => ?_ | refine Nat1.mk fun q_ hq_ => ?_ | refine em_ fun x_ hx_ => ?_ | refine Elem1.mk fun e_ he_ => ?_); refine g1_ ?_))
    refine (hpt).use ?_; (refine g0_ ?_; repeat ((first | refine n1_ fun b_ => ?_ | refine n2_ fun b_ => ?_ | refine Nat1.mk fun q_ hq_ => ?_ | refine em_ fun x_ hx_ => ?_ | refine Elem1.mk fun e_ he_ => ?_); refine g0_ ?_))
    (refine g1_ ?_; repeat ((first | refine n1_ fun b_ => ?_ | refine n2_ fun b_ => ?_ | refine Nat1.mk fun q_ hq_ => ?_ | refine em_ fun x_ hx_ => ?_ | refine Elem1.mk fun e_ he_ => ?_); refine g1_ ?_))
    exact .refl _
end Go.Eng.YtimpfhokacfobaaDoor
end
