/- Texts put together: HsR1, HsR2, HsR3, HsR4. -/
import Derived.Test.YtkenlcaifhffoaaDoorMHS24
import Derived.Test.YtkenlcaifhffoaaDoorMHS13
import Derived.Test.YtkenlcaifhffoaaDoorMHS12
import Derived.Test.YtkenlcaifhffoaaDoorMSB2
import Derived.Test.YtkenlcaifhffoaaDoorMHS17
import Derived.Test.YtkenlcaifhffoaaDoorMHSC
import Derived.Test.YtkenlcaifhffoaaDoorMHS14
import Derived.Test.YtkenlcaifhffoaaDoorMHS7
/- Houses, plain: what makes a house right; what stays right (full). -/
section
namespace Go.Eng.YtkenlcaifhffoaaDoor
open Go Go.Eng Go.Proofs
set_option linter.unusedSimpArgs false
set_option maxRecDepth 100000
set_option linter.unusedVariables false
set_option maxHeartbeats 4000000
theorem chkPs_of {next : Int} : ∀ {l met : List Int}, (∀ p ∈ l, p < next) → (met ++ l).Nodup → chkPs next l met = (0, met ++ l)
  | [], met, _, _ => by simp [chkPs]
  | p :: l, met, h, hn => by
    have h1 : p ∉ met := fun hp => by
      rw [List.nodup_append] at hn
      exact hn.2.2 p hp p (by simp) rfl
    have h2 := h p (by simp)
    rw [chkPs, if_neg h1, if_neg (by omega), chkPs_of (fun q hq => h q (List.mem_cons_of_mem _ hq)) (by simpa using hn)]
    simp
theorem chkW_of {next : Int} {w : Win} {met : List Int} (h : WinR next w) (hn : (met ++ panesT w.s).Nodup) : chkW next w met = (0, met ++ panesT w.s) := by
  unfold chkW
  rw [if_neg (by rw [h.name]; simp), if_neg (by simpa using h.vis), if_neg, chkPs_of h.lt hn]
  rintro (h1 | ⟨h1, h2⟩)
  · exact h1 h.act
  · exact h.bef.elim h1 h2
theorem chkWs_of {next : Int} : ∀ {l : List Win} {met : List Int}, (∀ w ∈ l, WinR next w) → (met ++ l.flatMap fun w => panesT w.s).Nodup → chkWs next l met = (0, met ++ l.flatMap fun w => panesT w.s)
  | [], met, _, _ => by simp [chkWs]
  | w :: l, met, h, hn => by
    rw [List.flatMap_cons, ← List.append_assoc] at hn
    have h1 := chkW_of (h w (by simp)) (List.nodup_append.1 hn).1
    rw [chkWs, h1]
    dsimp only
    rw [if_neg (by simp), chkWs_of (fun x hx => h x (List.mem_cons_of_mem _ hx)) hn]
    simp
theorem chkSs_of {next : Int} : ∀ {l : List Ses} {seen : List (List UInt8)} {met : List Int}, (∀ s ∈ l, SesR next s) → (met ++ l.flatMap panesS).Nodup → (seen ++ l.map Ses.name).Nodup → chkSs next l seen met = 0
  | [], _, _, _, _, _ => rfl
  | s :: l, seen, met, h, hn, hm => by
    rw [List.flatMap_cons, ← List.append_assoc] at hn
    rw [List.map_cons] at hm
    have hs := h s (by simp)
    have hms : s.name ∉ seen := fun hp => by
      rw [List.nodup_append] at hm
      exact hm.2.2 _ hp _ (by simp) rfl
    have h1 : chkS1 s seen = 0 := by
      unfold chkS1
      have a1 := hs.many
      have a2 := hs.act
      have a3 := hs.bef
      rw [if_neg (by rw [hs.name]; simp), if_neg hms, if_neg (by omega), if_neg (by omega)]
    have h2 := chkWs_of (next := next) (met := met) hs.win (List.nodup_append.1 hn).1
    rw [chkSs, h1, if_neg (by simp), h2]
    dsimp only
    rw [if_neg (by simp)]
    exact chkSs_of (fun x hx => h x (List.mem_cons_of_mem _ hx)) hn (by simpa using hm)
theorem chkVs_iff {n : Nat} : ∀ {l : List Vw}, chkVs n l = 0 ↔ ∀ v ∈ l, (0 ≤ v.s ∧ v.s < n) ∧ (1 ≤ v.w ∧ v.w ≤ 120) ∧ 1 ≤ v.h ∧ v.h ≤ 60
  | [] => by simp [chkVs]
  | v :: l => by
    have ih := chkVs_iff (n := n) (l := l)
    have hv : chkV n v = 0 ↔ (0 ≤ v.s ∧ v.s < n) ∧ (1 ≤ v.w ∧ v.w ≤ 120) ∧ 1 ≤ v.h ∧ v.h ≤ 60 := by
      unfold chkV
      split
      · exact ⟨fun h => (by cases h), fun h => (by omega)⟩
      split
      · exact ⟨fun h => (by cases h), fun h => (by omega)⟩
      · exact ⟨fun _ => by omega, fun _ => rfl⟩
    rw [chkVs]
    by_cases h : chkV n v = 0
    · rw [if_neg (by simpa using h), ih]
      exact ⟨fun hl x hx => by
        rcases List.mem_cons.1 hx with rfl | hx
        · exact hv.1 h
        · exact hl x hx, fun hl x hx => hl x (List.mem_cons_of_mem _ hx)⟩
    · rw [if_pos h]
      exact ⟨fun h' => absurd h' h, fun hl => absurd (hv.2 (hl v (by simp))) h⟩
structure HsR (h : Hs) : Prop where
  few : h.ses.length ≤ 4 ∧ h.views.length ≤ 4
  next : 1 ≤ h.next ∧ h.next ≤ 9999
  ses : ∀ s ∈ h.ses, SesR h.next s
  panes : (h.ses.flatMap panesS).Nodup
  names : (h.ses.map Ses.name).Nodup
  view : ∀ v ∈ h.views, (0 ≤ v.s ∧ v.s < h.ses.length) ∧ (1 ≤ v.w ∧ v.w ≤ 120) ∧ 1 ≤ v.h ∧ v.h ≤ 60
theorem hsR_of {h : Hs} (h0 : chkH h = 0) : HsR h := by
  obtain ⟨h1, h2, h3, h4, h5, h6⟩ := right_ses h0
  obtain ⟨a1, a2, a3⟩ := chkSs_zero h5
  exact ⟨⟨h1, h2⟩, ⟨h3, h4⟩, a1, by simpa using a2 List.nodup_nil, by simpa using a3 List.nodup_nil, chkVs_iff.1 h6⟩
theorem chkH_of {h : Hs} (h0 : HsR h) : chkH h = 0 := by
  have h1 := h0.few
  have h2 := h0.next
  unfold chkH
  rw [if_neg (by omega), if_neg (by simpa using chkSs_of (seen := []) (met := []) h0.ses (by simpa using h0.panes) (by simpa using h0.names)), if_neg (by omega)]
  exact chkVs_iff.2 h0.view
/-! ### One session is another -/
theorem flat_set {α β : Type} (f : α → List β) {l : List α} {i : Nat} {x : α} (h : l[i]? = some x) (y : α) : (l.set i y).flatMap f = (l.take i).flatMap f ++ (f y ++ (l.drop (i + 1)).flatMap f) := by
  have hi := lt_of_at h
  rw [List.set_eq_take_append_cons_drop, if_pos hi, List.flatMap_append, List.flatMap_cons]
theorem flat_at {α β : Type} (f : α → List β) {l : List α} {i : Nat} {x : α} (h : l[i]? = some x) : l.flatMap f = (l.take i).flatMap f ++ (f x ++ (l.drop (i + 1)).flatMap f) := by
  have := flat_set f h x
  rwa [set_self h] at this
theorem WinR.up {n m : Int} {w : Win} (h : WinR n w) (hm : n ≤ m) : WinR m w := ⟨h.name, h.vis, h.act, h.bef, fun p hp => Int.lt_of_lt_of_le (h.lt p hp) hm⟩
theorem SesR.up {n m : Int} {s : Ses} (h : SesR n s) (hm : n ≤ m) : SesR m s := ⟨h.name, h.many, h.act, h.bef, fun w hw => (h.win w hw).up hm⟩
theorem setS_right {h : Hs} (hr : HsR h) {i : Nat} {s s' : Ses} (hs : h.ses[i]? = some s) {m : Int} (hm : h.next ≤ m ∧ m ≤ 9999) (hn : s'.name = s.name) (hs' : SesR m s') (hp : ((h.ses.take i).flatMap panesS ++ (panesS s' ++ (h.ses.drop (i + 1)).flatMap panesS)).Nodup) : HsR ⟨h.ses.set i s', h.views, m⟩ := by
  refine ⟨⟨by rw [List.length_set]; exact hr.few.1, hr.few.2⟩, ⟨by show 1 ≤ m; have := hr.next.1; omega, hm.2⟩, fun x hx => ?_, by rw [flat_set panesS hs]; exact hp, ?_, fun v hv => by rw [List.length_set]; exact hr.view v hv⟩
  · rcases List.mem_or_eq_of_mem_set hx with h1 | rfl
    · exact (hr.ses x h1).up hm.1
    · exact hs'
  · have e : (h.ses.set i s').map Ses.name = h.ses.map Ses.name := by
      rw [List.map_set, hn, set_self (by rw [List.getElem?_map, hs]; rfl)]
    rw [e]
    exact hr.names
theorem panes_at {h : Hs} (hr : HsR h) {i : Nat} {s : Ses} (hs : h.ses[i]? = some s) : ((h.ses.take i).flatMap panesS ++ (panesS s ++ (h.ses.drop (i + 1)).flatMap panesS)).Nodup := by
  have := hr.panes
  rwa [flat_at panesS hs] at this
theorem lt_next {h : Hs} (hr : HsR h) {s : Ses} (hs : s ∈ h.ses) : ∀ p ∈ panesS s, p < h.next := fun p hp => by
  obtain ⟨w, hw, hp⟩ := List.mem_flatMap.1 hp
  exact ((hr.ses s hs).win w hw).lt p hp
theorem fresh_no {h : Hs} (hr : HsR h) {i : Nat} {s : Ses} (hs : h.ses[i]? = some s) : h.next ∉ (h.ses.take i).flatMap panesS ++ (panesS s ++ (h.ses.drop (i + 1)).flatMap panesS) := fun hm => by
  rw [← flat_at panesS hs] at hm
  obtain ⟨s', hs', hp⟩ := List.mem_flatMap.1 hm
  have := lt_next hr hs' _ hp
  omega
theorem nodup_put {α : Type} {A B C C' : List α} {x : α} (hp : C'.Perm (x :: C)) (hn : (A ++ (C ++ B)).Nodup) (hx : x ∉ A ++ (C ++ B)) : (A ++ (C' ++ B)).Nodup := by
  have : (A ++ (C' ++ B)).Perm (x :: (A ++ (C ++ B))) := ((hp.append_right B).append_left A).trans List.perm_middle
  rw [this.nodup_iff, List.nodup_cons]
  exact ⟨hx, hn⟩
theorem nodup_sub {α : Type} {A B C C' : List α} (hp : C'.Sublist C) (hn : (A ++ (C ++ B)).Nodup) : (A ++ (C' ++ B)).Nodup := hn.sublist ((hp.append_right B).append_left A)
end Go.Eng.YtkenlcaifhffoaaDoor
end

/- Houses, plain: what each change leaves right (full). -/
section
namespace Go.Eng.YtkenlcaifhffoaaDoor
open Go Go.Eng Go.Proofs
set_option linter.unusedSimpArgs false
set_option maxRecDepth 100000
set_option linter.unusedVariables false
set_option maxHeartbeats 4000000
theorem showY_right {h : Hs} (hr : HsR h) {s k : Int} (hE : showE h s k = 0) : HsR (showY h s k) := by
  unfold showE at hE
  unfold showY
  split at hE
  · cases hE
  cases hs : h.ses[s.toNat]? with
  | none => exact hr
  | some x =>
    rw [hs] at hE
    dsimp only at hE ⊢
    split at hE
    · cases hE
    split at hE
    · cases hE
    split
    · exact hr
    have hx := hr.ses x (List.mem_of_getElem? hs)
    have hpn := panes_at hr hs
    refine setS_right (s := x) (s' := ⟨x.name, x.wins, k, x.act⟩) hr hs ⟨Int.le_refl _, hr.next.2⟩ rfl ⟨hx.name, hx.many, ?_, hx.act, hx.win⟩ hpn
    show 0 ≤ k ∧ k < (x.wins.length : Int)
    omega
theorem lookY_right {h : Hs} (hr : HsR h) {s w t : Int} (hE : lookE h s w t = 0) : HsR (lookY h s w t) := by
  unfold lookE at hE
  (repeat' (split at hE <;> first | (cases hE; done) | skip))
  have h2 := hr.few.2
  refine ⟨⟨hr.few.1, ?_⟩, hr.next, hr.ses, hr.panes, hr.names, fun v hv => ?_⟩
  · show (h.views ++ [_]).length ≤ 4
    rw [List.length_append, List.length_singleton]
    omega
  · rcases List.mem_append.1 (show v ∈ h.views ++ [⟨s, w, t⟩] from hv) with h1 | h1
    · exact hr.view v h1
    · rw [List.mem_singleton.1 h1]
      show (0 ≤ s ∧ s < (h.ses.length : Int)) ∧ (1 ≤ w ∧ w ≤ 120) ∧ 1 ≤ t ∧ t ≤ 60
      omega
theorem leaf_win {n : List UInt8} {p m : Int} (hn : nameB n = true) (hp : 1 ≤ p ∧ p ≤ 9999) (hm : p < m) : WinR m (winN n p) := by
  have hpt : panesT (winN n p).s = [p] := by rw [winN, panesT_mk, if_pos rfl]
  refine ⟨hn, vis_of (right_mk.2 ⟨by decide, .inl ⟨rfl, rfl, hp⟩⟩) (by rw [hpt]; simp) (by rw [hpt]; simp), by rw [hpt]; exact List.mem_singleton.2 rfl, .inl rfl, fun q hq => by rw [hpt] at hq; rw [List.mem_singleton.1 hq]; exact hm⟩
theorem winY_right {h : Hs} (hr : HsR h) {s : Int} {n : List UInt8} (hE : winE h s n = 0) : HsR (winY h s n) := by
  unfold winE at hE
  unfold winY
  split at hE
  · cases hE
  cases hs : h.ses[s.toNat]? with
  | none => exact hr
  | some x =>
    rw [hs] at hE
    dsimp only at hE ⊢
    split at hE
    · cases hE
    rename_i hnb
    split at hE
    · cases hE
    split at hE
    · cases hE
    have hx := hr.ses x (List.mem_of_getElem? hs)
    have h1 := hr.next
    have hx6 := hx.many
    have hxa := hx.act
    have hpt : panesT (winN n h.next).s = [h.next] := by rw [winN, panesT_mk, if_pos rfl]
    refine setS_right hr hs (s' := ⟨x.name, x.wins ++ [winN n h.next], x.wins.length, x.act⟩) ⟨by omega, by omega⟩ rfl ⟨hx.name, ?_, ?_, ?_, fun w hw => ?_⟩ ?_
    · show 1 ≤ (x.wins ++ [_]).length ∧ (x.wins ++ [_]).length ≤ 6
      rw [List.length_append, List.length_singleton]
      omega
    · show 0 ≤ (x.wins.length : Int) ∧ (x.wins.length : Int) < ((x.wins ++ [_]).length : Int)
      rw [List.length_append, List.length_singleton]
      omega
    · show 0 ≤ x.act ∧ x.act < ((x.wins ++ [_]).length : Int)
      rw [List.length_append, List.length_singleton]
      omega
    · rcases List.mem_append.1 (show w ∈ x.wins ++ [winN n h.next] from hw) with h2 | h2
      · exact (hx.win w h2).up (by omega)
      · rw [List.mem_singleton.1 h2]
        exact leaf_win (by simpa using hnb) h1 (by omega)
    · refine nodup_put (x := h.next) ?_ (panes_at hr hs) (fresh_no hr hs)
      show (List.flatMap (fun w => panesT w.s) (x.wins ++ [winN n h.next])).Perm (h.next :: panesS x)
      rw [List.flatMap_append, List.flatMap_cons, List.flatMap_nil, List.append_nil, hpt]
      exact List.perm_append_comm
theorem setW_rightH {h : Hs} (hr : HsR h) {i k : Nat} {s : Ses} {w w' : Win} (hs : h.ses[i]? = some s) (hw : s.wins[k]? = some w) {m : Int} (hm : h.next ≤ m ∧ m ≤ 9999) (hw' : WinR m w') (hp : (panesT w'.s).Sublist (panesT w.s) ∨ (panesT w'.s).Perm (h.next :: panesT w.s)) : HsR ⟨setW h.ses i k w', h.views, m⟩ := by
  have hx := hr.ses s (List.mem_of_getElem? hs)
  have e : setW h.ses i k w' = h.ses.set i ⟨s.name, s.wins.set k w', s.act, s.bef⟩ := by
    unfold setW
    rw [hs]
  rw [e]
  have hpn := panes_at hr hs
  have e1 : panesS s = (s.wins.take k).flatMap (fun w => panesT w.s) ++ (panesT w.s ++ (s.wins.drop (k + 1)).flatMap fun w => panesT w.s) := flat_at _ hw
  have e2 : panesS ⟨s.name, s.wins.set k w', s.act, s.bef⟩ = (s.wins.take k).flatMap (fun w => panesT w.s) ++ (panesT w'.s ++ (s.wins.drop (k + 1)).flatMap fun w => panesT w.s) := flat_set _ hw w'
  refine setS_right hr hs hm rfl ⟨hx.name, by (show 1 ≤ (s.wins.set k w').length ∧ _); rw [List.length_set]; exact hx.many, by (show _ ∧ _ < ((s.wins.set k w').length : Int)); rw [List.length_set]; exact hx.act, by (show _ ∧ _ < ((s.wins.set k w').length : Int)); rw [List.length_set]; exact hx.bef, fun x hxw => ?_⟩ ?_
  · rcases List.mem_or_eq_of_mem_set hxw with h1 | rfl
    · exact (hx.win x h1).up hm.1
    · exact hw'
  · rw [e2]
    rcases hp with hp | hp
    · refine nodup_sub ?_ hpn
      rw [e1]
      exact (hp.append_right _).append_left _
    · refine nodup_put (x := h.next) ?_ hpn (fresh_no hr hs)
      rw [e1]
      exact ((hp.append_right _).append_left _).trans List.perm_middle
theorem zoom_right {h : Hs} (hr : HsR h) {pane : Int} : HsR (onW (zoomW pane) h pane) := by
  unfold onW
  cases hps : posS h.ses pane with
  | none => exact hr
  | some y =>
    obtain ⟨i, k⟩ := y
    obtain ⟨s, w, hs, hw, hp, -, -⟩ := posS_some hps
    have hwa : winAt h.ses i k = some w := by rw [winAt, hs]; exact hw
    dsimp only
    rw [hwa]
    have hwr := (hr.ses s (List.mem_of_getElem? hs)).win w (List.mem_of_getElem? hw)
    refine setW_rightH hr hs hw ⟨Int.le_refl _, hr.next.2⟩ ⟨hwr.name, hwr.vis, hp, ?_, hwr.lt⟩ (.inl (List.Sublist.refl _))
    show (if w.act = pane then w.bef else w.act) = 0 ∨ (if w.act = pane then w.bef else w.act) ∈ panesT w.s
    split
    · exact hwr.bef
    · exact .inr hwr.act
end Go.Eng.YtkenlcaifhffoaaDoor
end

/- Houses, plain: a pane cut or closed leaves a house right; who closes what he cut has the panes that there were (full). -/
section
namespace Go.Eng.YtkenlcaifhffoaaDoor
open Go Go.Eng Go.Proofs
set_option linter.unusedSimpArgs false
set_option maxRecDepth 100000
set_option linter.unusedVariables false
set_option maxHeartbeats 4000000
theorem drop_many {t : Spl} {pane : Int} (hv : (visS t 0 (0, [])).1 = 0) (hp : pane ∈ panesT t) (hm : 1 < (panesT t).length) : (visS (dropR t pane).1 0 (0, [])).1 = 0 ∧ panesT (dropR t pane).1 = (panesT t).filter fun p => decide (p ≠ pane) := by
  obtain ⟨hr, -, h12, hnd⟩ := vis_right hv
  obtain ⟨u, hu⟩ : ∃ u, withT noD pane t 0 = [u] := by
    rcases drop_rel pane _ 0 hr hnd with h | ⟨t', h1, -, -⟩
    · have := leaf_panes h.1 h.2.1
      rw [this, List.length_singleton] at hm
      omega
    · exact ⟨t', h1⟩
  have hdr := plain_right pane _ 0 hr hnd u hu
  have hdp : panesT (plainT u) = (panesT t).filter fun p => decide (p ≠ pane) := by
    have := with_panes pane t 0
    rw [hu, List.flatMap_cons, List.flatMap_nil, List.append_nil] at this
    rw [plain_panes, this]
  have ed : dropR t pane = (plainT u, 0) := by
    unfold dropR
    rw [if_neg (by simpa using hv), if_neg (by simpa using hp), if_neg (by omega), hu]
    rfl
  rw [ed]
  exact ⟨vis_of hdr (by rw [hdp]; exact hnd.sublist List.filter_sublist) (by rw [hdp]; exact Nat.le_trans (List.length_filter_le _ _) h12), hdp⟩
theorem nextP_mem {l : List Int} {p : Int} (hn : l.Nodup) (hp : p ∈ l) (hm : 1 < l.length) : nextP l p ∈ l.filter fun q => decide (q ≠ p) := by
  obtain ⟨A, B, rfl⟩ := List.append_of_mem hp
  have hA : p ∉ A ∧ p ∉ B := by
    rw [List.nodup_append] at hn
    exact ⟨fun h => hn.2.2 p h p (by simp) rfl, (List.nodup_cons.1 hn.2.1).1⟩
  have hi : (A ++ p :: B).idxOf p = A.length := by rw [List.idxOf_append, if_neg hA.1, List.idxOf_cons_self, Nat.zero_add]
  have hf : (A ++ p :: B).filter (fun q => decide (q ≠ p)) = A ++ B := by
    rw [List.filter_append, List.filter_cons_of_neg (by simp), List.filter_eq_self.2 fun x hx => by simp; rintro rfl; exact hA.1 hx, List.filter_eq_self.2 fun x hx => by simp; rintro rfl; exact hA.2 hx]
  rw [hf]
  unfold nextP
  have ht : (A ++ p :: B).take A.length = A := by simp
  have hd : (A ++ p :: B).drop (A.length + 1) = B := by
    rw [show A ++ p :: B = (A ++ [p]) ++ B by simp, List.drop_left' (by simp)]
  rw [hi, ht, hd]
  rw [List.length_append, List.length_cons] at hm
  have hlt : A.length - 1 < (A ++ B).length := by rw [List.length_append]; omega
  rw [List.getD_eq_getElem?_getD, List.getElem?_eq_getElem hlt]
  exact List.getElem_mem hlt
theorem sub_flat {α β : Type} (f : α → List β) {l m : List α} (h : l.Sublist m) : (l.flatMap f).Sublist (m.flatMap f) := by
  induction h with
  | slnil => exact .slnil
  | cons a _ ih => rw [List.flatMap_cons]; exact ih.trans (List.sublist_append_right _ _)
  | cons_cons a _ ih => rw [List.flatMap_cons, List.flatMap_cons]; exact ih.append_left _
theorem setW_of {l : List Ses} {i : Nat} {s : Ses} (h : l[i]? = some s) (k : Nat) (w : Win) : setW l i k w = l.set i ⟨s.name, s.wins.set k w, s.act, s.bef⟩ := by
  unfold setW
  rw [h]
theorem clsV_s (w : Win) (pane : Int) : (clsV w pane).s = (dropR w.s pane).1 ∧ (clsV w pane).name = w.name := by
  unfold clsV clsW
  split
  · exact ⟨rfl, rfl⟩
  · split <;> exact ⟨rfl, rfl⟩
theorem clsV_right {n : Int} {w : Win} {pane : Int} (hw : WinR n w) (hp : pane ∈ panesT w.s) (hm : 1 < (panesT w.s).length) : WinR n (clsV w pane) := by
  obtain ⟨hv, hd⟩ := drop_many hw.vis hp hm
  obtain ⟨-, -, -, hnd⟩ := vis_right hw.vis
  obtain ⟨e1, e2⟩ := clsV_s w pane
  have hin : ∀ q, q ∈ panesT w.s → q ≠ pane → q ∈ panesT (dropR w.s pane).1 := fun q h1 h2 => by rw [hd]; exact List.mem_filter.2 ⟨h1, by simpa using h2⟩
  refine ⟨by rw [e2]; exact hw.name, by rw [e1]; exact hv, ?_, ?_, fun q hq => hw.lt q (by rw [e1, hd] at hq; exact (List.mem_filter.1 hq).1)⟩
  · rw [e1]
    unfold clsV clsW
    split
    · show nextP _ _ ∈ _
      rw [hd]
      exact nextP_mem hnd hp hm
    · rename_i h1
      split
      · rename_i h2
        show (if w.bef = pane then 0 else w.bef) ∈ _
        have h3 : w.bef ≠ pane ∧ w.bef ≠ 0 := ⟨fun h => h1 ⟨h2, .inl h⟩, fun h => h1 ⟨h2, .inr h⟩⟩
        rw [if_neg h3.1]
        exact hin _ (hw.bef.resolve_left h3.2) h3.1
      · rename_i h2
        exact hin _ hw.act h2
  · rw [e1]
    unfold clsV clsW
    split
    · exact .inl rfl
    · split
      · exact .inl rfl
      · show (if w.bef = pane then 0 else w.bef) = 0 ∨ (if w.bef = pane then 0 else w.bef) ∈ _
        split
        · exact .inl rfl
        · rename_i h3
          exact hw.bef.imp id fun h => hin _ h h3
theorem lv_bounds {n k : Nat} (hk : k < n) (hn : 1 < n) {a b : Int} (ha : 0 ≤ a ∧ a < n) (hb : 0 ≤ b ∧ b < n) : (0 ≤ lvD (lvA a b k) k ∧ lvD (lvA a b k) k < ((n - 1 : Nat) : Int)) ∧ 0 ≤ lvD (lvB a b k) k ∧ lvD (lvB a b k) k < ((n - 1 : Nat) : Int) := by
  have h1 : (0 ≤ lvA a b k ∧ lvA a b k < n) ∧ lvA a b k ≠ k := by
    unfold lvA
    split
    · split
      · split <;> omega
      · omega
    · omega
  have h2 : (0 ≤ lvB a b k ∧ lvB a b k < n) ∧ lvB a b k ≠ k := by
    unfold lvB
    split
    · exact h1
    · omega
  have h3 : ∀ c : Int, (0 ≤ c ∧ c < n) ∧ c ≠ k → 0 ≤ lvD c k ∧ lvD c k < ((n - 1 : Nat) : Int) := fun c hc => by
    unfold lvD
    split <;> omega
  exact ⟨h3 _ h1, h3 _ h2⟩
theorem closeY_right {h : Hs} (hr : HsR h) (pane : Int) : HsR (closeY h pane) := by
  unfold closeY
  cases hps : posS h.ses pane with
  | none => exact hr
  | some y =>
    obtain ⟨i, k⟩ := y
    obtain ⟨s, w, hs, hw, hp, -, -⟩ := posS_some hps
    have hwa : winAt h.ses i k = some w := by rw [winAt, hs]; exact hw
    dsimp only
    rw [hwa]
    dsimp only
    have hx := hr.ses s (List.mem_of_getElem? hs)
    have hwr := hx.win w (List.mem_of_getElem? hw)
    split
    · rename_i hm
      refine setW_rightH hr hs hw ⟨Int.le_refl _, hr.next.2⟩ (clsV_right hwr hp hm) (.inl ?_)
      rw [(clsV_s w pane).1, (drop_many hwr.vis hp hm).2]
      exact List.filter_sublist
    · rw [hs]
      dsimp only
      have hi := lt_of_at hs
      have hk := lt_of_at hw
      split
      · rename_i hm
        obtain ⟨h1, h2⟩ := lv_bounds hk hm hx.act hx.bef
        have hxm := hx.many
        have hle : (s.wins.eraseIdx k).length = s.wins.length - 1 := List.length_eraseIdx_of_lt hk
        refine setS_right hr hs (s' := lvS s k) ⟨Int.le_refl _, hr.next.2⟩ rfl ⟨hx.name, ?_, ?_, ?_, fun x h => hx.win x (List.mem_of_mem_eraseIdx h)⟩ (nodup_sub ?_ (panes_at hr hs))
        · show 1 ≤ (s.wins.eraseIdx k).length ∧ (s.wins.eraseIdx k).length ≤ 6
          omega
        · show 0 ≤ lvD (lvA s.act s.bef k) k ∧ lvD (lvA s.act s.bef k) k < ((s.wins.eraseIdx k).length : Int)
          rw [hle]
          exact h1
        · show 0 ≤ lvD (lvB s.act s.bef k) k ∧ lvD (lvB s.act s.bef k) k < ((s.wins.eraseIdx k).length : Int)
          rw [hle]
          exact h2
        · exact sub_flat _ (List.eraseIdx_sublist _ _)
      · have hle : (h.ses.eraseIdx i).length = h.ses.length - 1 := List.length_eraseIdx_of_lt hi
        have h4 := hr.few
        have hvl : (goneV i h.views).length ≤ h.views.length := by
          unfold goneV stayV
          rw [List.length_map]
          exact List.length_filter_le _ _
        refine ⟨⟨?_, ?_⟩, hr.next, fun x h => hr.ses x (List.mem_of_mem_eraseIdx h), hr.panes.sublist (sub_flat _ (List.eraseIdx_sublist _ _)), hr.names.sublist ((List.eraseIdx_sublist _ _).map _), fun v hv => ?_⟩
        · show (h.ses.eraseIdx i).length ≤ 4
          omega
        · exact Nat.le_trans hvl h4.2
        · obtain ⟨v', hv', rfl⟩ := List.mem_map.1 (show v ∈ (stayV i h.views).map (decV i) from hv)
          obtain ⟨h5, h6⟩ := List.mem_filter.1 hv'
          have h6 : v'.s ≠ i := by simpa using h6
          have h7 := hr.view v' h5
          show (0 ≤ (decV i v').s ∧ (decV i v').s < ((h.ses.eraseIdx i).length : Int)) ∧ _
          rw [hle]
          unfold decV
          split
          · show (0 ≤ v'.s - 1 ∧ v'.s - 1 < ((h.ses.length - 1 : Nat) : Int)) ∧ _
            exact ⟨by omega, h7.2⟩
          · exact ⟨by omega, h7.2⟩
theorem cutY_right {h : Hs} (hr : HsR h) {pane way : Int} (hE : cutE h pane way = 0) : HsR (cutY h pane way) ∧ onE (cutY h pane way) h.next = 0 ∧ panesH (closeY (cutY h pane way) h.next) = panesH h := by
  unfold cutE at hE
  unfold cutY
  cases hps : posS h.ses pane with
  | none => rw [hps] at hE; cases hE
  | some y =>
    obtain ⟨i, k⟩ := y
    obtain ⟨s, w, hs, hw, hp, -, -⟩ := posS_some hps
    have hwa : winAt h.ses i k = some w := by rw [winAt, hs]; exact hw
    rw [hps] at hE
    dsimp only at hE ⊢
    rw [hwa] at hE ⊢
    dsimp only at hE ⊢
    have hx := hr.ses s (List.mem_of_getElem? hs)
    have hwr := hx.win w (List.mem_of_getElem? hw)
    split at hE
    · rename_i h1
      exact absurd hE h1
    rename_i he
    split at hE
    · cases hE
    have he : (cutR w.s pane way h.next).2 = 0 := by simpa using he
    have hnx := hr.next
    obtain ⟨-, hcv, -, -, -, -, hdp⟩ := cut_drop he
    have hcr := cutR_right (way := way) hwr hp hnx
    obtain ⟨e, hway⟩ : cutR w.s pane way h.next = (cutT pane way h.next w.s, 0) ∧ way ≠ 0 := by
      rw [hcr] at he
      rw [hcr]
      split at he
      · cases he
      rename_i h1
      rw [if_neg h1]
      split at he
      · cases he
      rename_i h2
      rw [if_neg h2]
      exact ⟨rfl, by omega⟩
    obtain ⟨hwrr, -, -, hnd⟩ := vis_right hwr.vis
    have hcp := cut_panes (pane := pane) (fresh := h.next) hway w.s 0 hwrr
    obtain ⟨A, B, hAB, hput⟩ := putL_some (fresh := h.next) hnd hp
    rw [hput] at hcp
    have ep : panesT (cutR w.s pane way h.next).1 = A ++ pane :: h.next :: B := by rw [e]; exact hcp
    generalize hc : (cutR w.s pane way h.next).1 = c at *
    have hperm : (panesT c).Perm (h.next :: panesT w.s) := by
      rw [ep, hAB, show A ++ pane :: h.next :: B = (A ++ [pane]) ++ h.next :: B by simp, show A ++ pane :: B = (A ++ [pane]) ++ B by simp]
      exact List.perm_middle
    have hwr' : WinR (h.next + 1) ⟨w.name, c, h.next, w.act, false⟩ := by
      refine ⟨hwr.name, hcv, ?_, .inr ?_, fun q hq => ?_⟩
      · show h.next ∈ panesT c
        exact hperm.mem_iff.2 (by simp)
      · show w.act ∈ panesT c
        exact hperm.mem_iff.2 (List.mem_cons_of_mem _ hwr.act)
      · rcases List.mem_cons.1 (hperm.mem_iff.1 hq) with rfl | h1
        · omega
        · have := hwr.lt q h1
          omega
    refine ⟨setW_rightH hr hs hw ⟨by omega, by omega⟩ hwr' (.inr hperm), ?_⟩
    have eS : setW h.ses i k ⟨w.name, c, h.next, w.act, false⟩ = h.ses.set i ⟨s.name, s.wins.set k ⟨w.name, c, h.next, w.act, false⟩, s.act, s.bef⟩ := by
      unfold setW
      rw [hs]
    have hi := lt_of_at hs
    have hk := lt_of_at hw
    have hsY : (setW h.ses i k ⟨w.name, c, h.next, w.act, false⟩)[i]? = some ⟨s.name, s.wins.set k ⟨w.name, c, h.next, w.act, false⟩, s.act, s.bef⟩ := by rw [eS]; exact List.getElem?_set_self hi
    have hwY : (s.wins.set k ⟨w.name, c, h.next, w.act, false⟩)[k]? = some ⟨w.name, c, h.next, w.act, false⟩ := List.getElem?_set_self hk
    have hno : ∀ s' ∈ h.ses, ∀ w' ∈ s'.wins, h.next ∉ panesT w'.s := fun s' h1 w' h2 h3 => by
      have := ((hr.ses s' h1).win w' h2).lt _ h3
      omega
    have hpos : posS (setW h.ses i k ⟨w.name, c, h.next, w.act, false⟩) h.next = some (i, k) := by
      cases hp2 : posS (setW h.ses i k ⟨w.name, c, h.next, w.act, false⟩) h.next with
      | none =>
        exact absurd (show h.next ∈ panesT c from hperm.mem_iff.2 (by simp)) (posS_none hp2 _ (List.mem_of_getElem? hsY) _ (List.mem_of_getElem? hwY))
      | some y =>
        obtain ⟨i2, k2⟩ := y
        obtain ⟨s2, w2, hs2, hw2, hin, -, -⟩ := posS_some hp2
        by_cases h1 : i = i2
        · subst h1
          obtain rfl := Option.some.inj (hsY.symm.trans hs2)
          by_cases h2 : k = k2
          · subst h2
            rfl
          · rw [List.getElem?_set_ne h2] at hw2
            exact absurd hin (hno s (List.mem_of_getElem? hs) w2 (List.mem_of_getElem? hw2))
        · rw [eS, List.getElem?_set_ne h1] at hs2
          exact absurd hin (hno s2 (List.mem_of_getElem? hs2) w2 (List.mem_of_getElem? hw2))
    refine ⟨by unfold onE; rw [show posS _ _ = _ from hpos, if_neg (by simp)], ?_⟩
    unfold closeY
    rw [show posS _ _ = _ from hpos]
    dsimp only
    rw [show winAt (setW h.ses i k ⟨w.name, c, h.next, w.act, false⟩) i k = some ⟨w.name, c, h.next, w.act, false⟩ by rw [winAt, hsY]; exact hwY]
    dsimp only
    rw [if_pos (by rw [ep, List.length_append, List.length_cons, List.length_cons]; omega)]
    have hcs := (clsV_s ⟨w.name, c, h.next, w.act, false⟩ h.next).1
    generalize clsV ⟨w.name, c, h.next, w.act, false⟩ h.next = w2 at *
    have hp2 : panesT w2.s = panesT w.s := by rw [hcs]; exact hdp
    have eS2 : setW (setW h.ses i k ⟨w.name, c, h.next, w.act, false⟩) i k w2 = h.ses.set i ⟨s.name, s.wins.set k w2, s.act, s.bef⟩ := by
      rw [setW_of hsY, eS]
      dsimp only
      rw [List.set_set, List.set_set]
    show (setW (setW h.ses i k _) i k w2).flatMap panesS = h.ses.flatMap panesS
    rw [eS2, flat_set panesS hs, flat_at panesS hs]
    have e3 : panesS ⟨s.name, s.wins.set k w2, s.act, s.bef⟩ = panesS s := by
      show List.flatMap (fun w => panesT w.s) (s.wins.set k w2) = List.flatMap (fun w => panesT w.s) s.wins
      rw [flat_set _ hw, flat_at (fun w => panesT w.s) hw, hp2]
    rw [e3]
end Go.Eng.YtkenlcaifhffoaaDoor
end

/- Houses: the law HouseRight, walked (full). -/
section
namespace Go.Eng.YtkenlcaifhffoaaDoor
open Go Go.Eng Go.Proofs
variable (W : World)
set_option linter.unusedSimpArgs false
set_option maxRecDepth 100000
set_option linter.unusedVariables false
set_option maxHeartbeats 8000000
theorem flatC_len {α β : Type} (f : α → List β) {c : Nat} : ∀ {l : List α}, (∀ x ∈ l, (f x).length ≤ c) → (l.flatMap f).length ≤ l.length * c
  | [], _ => by simp
  | x :: l, h => by
    have h1 := h x (by simp)
    have h2 := flatC_len f (l := l) fun y hy => h y (List.mem_cons_of_mem _ hy)
    rw [List.flatMap_cons, List.length_append, List.length_cons, Nat.succ_mul]
    omega
theorem panesH_len {h : Hs} (h0 : chkH h = 0) : ((panesH h).length : Int) ≤ 9223372036854775807 := by
  have hr := hsR_of h0
  have h1 : (panesH h).length ≤ h.ses.length * (6 * 12) := flatC_len panesS fun s hs => by
    have hx := hr.ses s hs
    have h2 : (panesS s).length ≤ s.wins.length * 12 := flatC_len (fun w => panesT w.s) fun w hw => (vis_right (hx.win w hw).vis).2.2.1
    have := hx.many
    omega
  have := hr.few
  omega
theorem hright1_ok (hT : Tabs W) (X : Hs) (E : Int) (h : E = 0 → X.ok ∧ chkH X = 0) : Pure Tryd.prog W 11 [encHs X, .int .i64 E] (.bool true) := by
  by_cases hE : E = 0
  · obtain ⟨hok, h0⟩ := h hE
    have hck := checkH_ok W hT X hok
    rw [h0] at hck
    clear h
    rw [encHs_mk X] at *
    refine Pure.of (acalls_of_vc (drawOk W) Tryd.func11 rfl (by decide) (by decide) rfl ?_)
    (refine g0_ ?_; repeat (refine n1_ fun b_ => ?_; refine g0_ ?_))
    refine g1_ ?_
    refine (hck).use ?_; refine g0_ ?_
    refine g1_ ?_
    exact .of_eq (by simp)
  · clear h
    rw [encHs_mk X] at *
    refine Pure.of (acalls_of_vc (drawOk W) Tryd.func11 rfl (by decide) (by decide) rfl ?_)
    (refine g0_ ?_; repeat (refine n1_ fun b_ => ?_; refine g0_ ?_))
    refine g1_ ?_
    exact .refl _
theorem chg_right {h : Hs} {E : Int} {Y : Hs} (h1 : chkH h = 0 → E = 0 → Y.ok ∧ HsR Y) : (chgR h E Y).2 = 0 → (chgR h E Y).1.ok ∧ chkH (chgR h E Y).1 = 0 := by
  unfold chgR
  split
  · rename_i h0
    exact fun h => absurd h h0
  · rename_i h0
    split
    · rename_i hE
      exact fun _ => ⟨(h1 (by simpa using h0) hE).1, chkH_of (h1 (by simpa using h0) hE).2⟩
    · rename_i hE
      exact fun h => absurd h hE
theorem chg_ok {h : Hs} {E : Int} {Y : Hs} (h1 : (chgR h E Y).2 = 0) : chkH h = 0 ∧ E = 0 ∧ (chgR h E Y).1 = Y := by
  unfold chgR at *
  split at h1
  · rename_i h0
    exact absurd h1 h0
  · rename_i h0
    split at h1
    · rename_i hE
      rw [if_neg h0, if_pos hE]
      exact ⟨by simpa using h0, hE, rfl⟩
    · rename_i hE
      exact absurd h1 hE
theorem houseRight_ok (hT : Tabs W) (h : Hs) (hok : h.ok) (pane : Int) (hpa : i64ok pane) (way : Int) (hwa : i64ok way) (s : Int) (hs : i64ok s) (w : Int) (hw : i64ok w) (n : List UInt8) (hn : n.length ≤ 1048576) :
    Pure Tryd.prog W 4 [encHs h, .int .i64 pane, .int .i64 way, .int .i64 s, .int .i64 w, .str n] (.bool true) := by
  have ha := cutHP_ok W hT h hok pane way
  have hb := hcloseP_ok W hT h hok pane
  have hc := hzoomP_ok W hT h hok pane
  have hd := hwinP_ok W hT h hok s n hn
  have hsh := hshowP_ok W hT h hok s w
  have hl := hlookP_ok W hT h hok s w way
  have ra := chg_right (h := h) (E := cutE h pane way) (Y := cutY h pane way) fun h0 hE => ⟨cutY_ok hok h0 pane way hpa hwa hE, (cutY_right (hsR_of h0) hE).1⟩
  have rb := chg_right (h := h) (E := onE h pane) (Y := closeY h pane) fun h0 hE => ⟨closeY_ok hok h0 pane, closeY_right (hsR_of h0) pane⟩
  have rc := chg_right (h := h) (E := onE h pane) (Y := onW (zoomW pane) h pane) fun h0 hE => ⟨onW_ok hok _ (zoomW_ok hpa) pane, zoom_right (hsR_of h0)⟩
  have rd := chg_right (h := h) (E := winE h s n) (Y := winY h s n) fun h0 hE => ⟨winY_ok hok h0 s n hn, winY_right (hsR_of h0) hE⟩
  have rs := chg_right (h := h) (E := showE h s w) (Y := showY h s w) fun h0 hE => ⟨showY_ok hok s w hw, showY_right (hsR_of h0) hE⟩
  have rl := chg_right (h := h) (E := lookE h s w way) (Y := lookY h s w way) fun h0 hE => ⟨lookY_ok hok h0 s w way hs hw hwa, lookY_right (hsR_of h0) hE⟩
  have hfin : (chgR h (cutE h pane way) (cutY h pane way)).2 = 0 → chkH h = 0 ∧ onE (chgR h (cutE h pane way) (cutY h pane way)).1 h.next = 0 ∧ panesH (closeY (chgR h (cutE h pane way) (cutY h pane way)).1 h.next) = panesH h := fun h1 => by
    obtain ⟨h0, hE, e⟩ := chg_ok h1
    rw [e]
    exact ⟨h0, (cutY_right (hsR_of h0) hE).2⟩
  generalize chgR h (cutE h pane way) (cutY h pane way) = RA at *
  generalize chgR h (onE h pane) (closeY h pane) = RB at *
  generalize chgR h (onE h pane) (onW (zoomW pane) h pane) = RC at *
  generalize chgR h (winE h s n) (winY h s n) = RD at *
  generalize chgR h (showE h s w) (showY h s w) = RS at *
  generalize chgR h (lookE h s w way) (lookY h s w way) = RL at *
  obtain ⟨A, ea⟩ := RA
  obtain ⟨B, eb⟩ := RB
  obtain ⟨C, ec⟩ := RC
  obtain ⟨D, ed⟩ := RD
  obtain ⟨S, es⟩ := RS
  obtain ⟨L, el⟩ := RL
  dsimp only at *
  have ka := hright1_ok W hT A ea ra
  have kb := hright1_ok W hT B eb rb
  have kc := hright1_ok W hT C ec rc
  have kd := hright1_ok W hT D ed rd
  have ks := hright1_ok W hT S es rs
  have kl := hright1_ok W hT L el rl
  have hhd := housed_ok W hT
  by_cases hE : ea = 0
  · obtain ⟨h0, hon, hpn⟩ := hfin hE
    obtain ⟨hokA, h0A⟩ := ra hE
    have hcl := hcloseP_ok W hT A hokA h.next
    have hcr := closeY_right (hsR_of h0A) h.next
    have hco := closeY_ok hokA h0A h.next
    have hch : chgR A (onE A h.next) (closeY A h.next) = (closeY A h.next, 0) := by
      unfold chgR
      rw [if_neg (by simpa using h0A), if_pos hon]
    rw [hch] at hcl
    dsimp only at hcl
    have hp1 := panesHP_ok W hT h hok h0
    have hp2 := panesHP_ok W hT (closeY A h.next) hco (chkH_of hcr)
    rw [hpn] at hp2
    have hlen : ((panesH h).length : Int) ≤ 9223372036854775807 := panesH_len h0
    have heq := equal_ints W (panesH h) (panesH h) hlen
    rw [decide_eq_true rfl] at heq
    generalize closeY A h.next = Z at *
    generalize panesH h = P at *
    clear ra rb rc rd rs rl hfin hpn hch hcr hco hon h0A hokA h0
    subst hE
    rw [encHs_mk h, encHs_mk A, encHs_mk B, encHs_mk C, encHs_mk D, encHs_mk S, encHs_mk L, encHs_mk Z] at *
    refine Pure.of (acalls_of_vc (drawOk W) Tryd.func4 rfl (by decide) (by decide) rfl ?_)
    (refine g0_ ?_; repeat (refine n1_ fun b_ => ?_; refine g0_ ?_))
    refine (ha).use ?_; (refine g0_ ?_; repeat (refine n1_ fun b_ => ?_; refine g0_ ?_))
    refine g0_ ?_
    refine (hb).use ?_; (refine g0_ ?_; repeat (refine n1_ fun b_ => ?_; refine g0_ ?_))
    refine g0_ ?_
    refine (hc).use ?_; (refine g0_ ?_; repeat (refine n1_ fun b_ => ?_; refine g0_ ?_))
    refine g0_ ?_
    refine (hd).use ?_; (refine g0_ ?_; repeat (refine n1_ fun b_ => ?_; refine g0_ ?_))
    refine g0_ ?_
    refine (hsh).use ?_; (refine g0_ ?_; repeat (refine n1_ fun b_ => ?_; refine g0_ ?_))
    refine g0_ ?_
    refine (hl).use ?_; (refine g0_ ?_; repeat (refine n1_ fun b_ => ?_; refine g0_ ?_))
    refine g0_ ?_
    refine (hhd).use ?_; refine g0_ ?_
    refine g1_ ?_
    refine (ka).use ?_; refine g0_ ?_
    refine g1_ ?_
    refine (kb).use ?_; refine g0_ ?_
    refine g1_ ?_
    refine (kc).use ?_; refine g0_ ?_
    refine g1_ ?_
    refine (kd).use ?_; refine g0_ ?_
    refine g1_ ?_
    refine (ks).use ?_; refine g0_ ?_
    refine g1_ ?_
    refine (kl).use ?_; refine g0_ ?_
    refine g1_ ?_
    refine (hp1).use ?_; refine g0_ ?_
    refine g0_ ?_
    refine (hcl).use ?_; (refine g0_ ?_; repeat (refine n1_ fun b_ => ?_; refine g0_ ?_))
    refine g0_ ?_
    refine (hp2).use ?_; refine g0_ ?_
    refine g1_ ?_
    refine (heq).use ?_; refine g0_ ?_
    refine g1_ ?_
    exact .refl _
  · clear ra rb rc rd rs rl hfin
    rw [encHs_mk h, encHs_mk A, encHs_mk B, encHs_mk C, encHs_mk D, encHs_mk S, encHs_mk L] at *
    refine Pure.of (acalls_of_vc (drawOk W) Tryd.func4 rfl (by decide) (by decide) rfl ?_)
    (refine g0_ ?_; repeat (refine n1_ fun b_ => ?_; refine g0_ ?_))
    refine (ha).use ?_; (refine g0_ ?_; repeat (refine n1_ fun b_ => ?_; refine g0_ ?_))
    refine g0_ ?_
    refine (hb).use ?_; (refine g0_ ?_; repeat (refine n1_ fun b_ => ?_; refine g0_ ?_))
    refine g0_ ?_
    refine (hc).use ?_; (refine g0_ ?_; repeat (refine n1_ fun b_ => ?_; refine g0_ ?_))
    refine g0_ ?_
    refine (hd).use ?_; (refine g0_ ?_; repeat (refine n1_ fun b_ => ?_; refine g0_ ?_))
    refine g0_ ?_
    refine (hsh).use ?_; (refine g0_ ?_; repeat (refine n1_ fun b_ => ?_; refine g0_ ?_))
    refine g0_ ?_
    refine (hl).use ?_; (refine g0_ ?_; repeat (refine n1_ fun b_ => ?_; refine g0_ ?_))
    refine g0_ ?_
    refine (hhd).use ?_; refine g0_ ?_
    refine g1_ ?_
    refine (ka).use ?_; refine g0_ ?_
    refine g1_ ?_
    refine (kb).use ?_; refine g0_ ?_
    refine g1_ ?_
    refine (kc).use ?_; refine g0_ ?_
    refine g1_ ?_
    refine (kd).use ?_; refine g0_ ?_
    refine g1_ ?_
    refine (ks).use ?_; refine g0_ ?_
    refine g1_ ?_
    refine (kl).use ?_; refine g0_ ?_
    refine g1_ ?_
    exact .refl _
end Go.Eng.YtkenlcaifhffoaaDoor
end
