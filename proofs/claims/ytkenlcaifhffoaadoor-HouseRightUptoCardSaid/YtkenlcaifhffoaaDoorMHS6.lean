/- Texts put together: HseP, HseF, HseH, HseI, HsA. -/
import Derived.Test.YtkenlcaifhffoaaDoorMHS1
import Derived.Test.YtkenlcaifhffoaaDoorMHS4
import Derived.Test.YtkenlcaifhffoaaDoorMSE
import Derived.Test.YtkenlcaifhffoaaDoorMHS5
import Derived.Test.YtkenlcaifhffoaaDoorMSH
/- Houses: where a pane is; what a right house is (plain). -/
section
namespace Go.Eng.YtkenlcaifhffoaaDoor
open Go Go.Eng Go.Proofs
set_option linter.unusedSimpArgs false
set_option maxRecDepth 100000
set_option linter.unusedVariables false
set_option maxHeartbeats 4000000
def posW : List Win → Int → Option Nat
  | [], _ => none
  | w :: l, p => if p ∈ panesT w.s then some 0 else (posW l p).map (· + 1)
def posS : List Ses → Int → Option (Nat × Nat)
  | [], _ => none
  | s :: l, p => match posW s.wins p with
    | some k => some (0, k)
    | none => (posS l p).map fun q => (q.1 + 1, q.2)
theorem posW_none : ∀ {l : List Win} {p : Int}, posW l p = none → ∀ w ∈ l, p ∉ panesT w.s
  | [], p, _, w, hw => by cases hw
  | x :: l, p, h, w, hw => by
    rw [posW] at h
    split at h
    · cases h
    · rename_i hx
      have h2 : posW l p = none := by cases hq : posW l p with
        | none => rfl
        | some k => rw [hq] at h; cases h
      rcases List.mem_cons.1 hw with rfl | hw
      · exact hx
      · exact posW_none h2 w hw
theorem posW_some : ∀ {l : List Win} {p : Int} {k : Nat}, posW l p = some k → ∃ w, l[k]? = some w ∧ p ∈ panesT w.s ∧ ∀ w' ∈ l.take k, p ∉ panesT w'.s
  | [], p, k, h => by cases h
  | x :: l, p, k, h => by
    rw [posW] at h
    split at h
    · rename_i hx
      obtain rfl := Option.some.inj h
      exact ⟨x, rfl, hx, by simp⟩
    · rename_i hx
      cases hq : posW l p with
      | none => rw [hq] at h; cases h
      | some j =>
        rw [hq] at h
        obtain rfl : j + 1 = k := Option.some.inj h
        obtain ⟨w, h1, h2, h3⟩ := posW_some hq
        refine ⟨w, by simpa using h1, h2, fun w' hw' => ?_⟩
        rw [List.take_succ_cons] at hw'
        rcases List.mem_cons.1 hw' with rfl | hw'
        · exact hx
        · exact h3 w' hw'
theorem posS_none : ∀ {l : List Ses} {p : Int}, posS l p = none → ∀ s ∈ l, ∀ w ∈ s.wins, p ∉ panesT w.s
  | [], p, _, s, hs => by cases hs
  | x :: l, p, h, s, hs => by
    rw [posS] at h
    cases hq : posW x.wins p with
    | some k => rw [hq] at h; cases h
    | none =>
      rw [hq] at h
      dsimp only at h
      have h2 : posS l p = none := by cases hq2 : posS l p with
        | none => rfl
        | some k => rw [hq2] at h; cases h
      rcases List.mem_cons.1 hs with rfl | hs
      · exact posW_none hq
      · exact posS_none h2 s hs
theorem posS_some : ∀ {l : List Ses} {p : Int} {i k : Nat}, posS l p = some (i, k) → ∃ s w, l[i]? = some s ∧ s.wins[k]? = some w ∧ p ∈ panesT w.s ∧ (∀ s' ∈ l.take i, ∀ w' ∈ s'.wins, p ∉ panesT w'.s) ∧ ∀ w' ∈ s.wins.take k, p ∉ panesT w'.s
  | [], p, i, k, h => by cases h
  | x :: l, p, i, k, h => by
    rw [posS] at h
    cases hq : posW x.wins p with
    | some j =>
      rw [hq] at h
      dsimp only at h
      obtain ⟨rfl, rfl⟩ := Prod.mk.inj (Option.some.inj h)
      obtain ⟨w, h1, h2, h3⟩ := posW_some hq
      exact ⟨x, w, rfl, h1, h2, by simp, h3⟩
    | none =>
      rw [hq] at h
      dsimp only at h
      cases hq2 : posS l p with
      | none => rw [hq2] at h; cases h
      | some y =>
        obtain ⟨i', k'⟩ := y
        rw [hq2] at h
        obtain ⟨rfl, rfl⟩ := Prod.mk.inj (Option.some.inj h)
        obtain ⟨s, w, h1, h2, h3, h4, h5⟩ := posS_some hq2
        refine ⟨s, w, by simpa using h1, h2, h3, fun s' hs' => ?_, h5⟩
        rw [List.take_succ_cons] at hs'
        rcases List.mem_cons.1 hs' with rfl | hs'
        · exact posW_none hq
        · exact h4 s' hs'
structure WinR (next : Int) (w : Win) : Prop where
  name : nameB w.name = true
  vis : (visS w.s 0 (0, [])).1 = 0
  act : w.act ∈ panesT w.s
  bef : w.bef = 0 ∨ w.bef ∈ panesT w.s
  lt : ∀ p ∈ panesT w.s, p < next
structure SesR (next : Int) (s : Ses) : Prop where
  name : nameB s.name = true
  many : 1 ≤ s.wins.length ∧ s.wins.length ≤ 6
  act : 0 ≤ s.act ∧ s.act < s.wins.length
  bef : 0 ≤ s.bef ∧ s.bef < s.wins.length
  win : ∀ w ∈ s.wins, WinR next w
theorem chkPs_zero {next : Int} : ∀ {l met : List Int}, (chkPs next l met).1 = 0 → (∀ p ∈ l, p < next) ∧ (chkPs next l met).2 = met ++ l ∧ (met.Nodup → (met ++ l).Nodup)
  | [], met, _ => ⟨by simp, by simp [chkPs], by simp⟩
  | p :: l, met, h => by
    rw [chkPs] at h ⊢
    split at h
    · cases h
    · rename_i h1
      split at h
      · cases h
      · rename_i h2
        rw [if_neg h1, if_neg h2]
        obtain ⟨a1, a2, a3⟩ := chkPs_zero h
        refine ⟨fun q hq => ?_, by rw [a2]; simp, fun hn => ?_⟩
        · rcases List.mem_cons.1 hq with rfl | hq
          · omega
          · exact a1 q hq
        · have := a3 (by rw [List.nodup_append]; exact ⟨hn, by simp, fun a ha b hb e => h1 (by rw [List.mem_singleton] at hb; rw [← hb, ← e]; exact ha)⟩)
          simpa using this
theorem chkW_zero {next : Int} {w : Win} {met : List Int} (h : (chkW next w met).1 = 0) : WinR next w ∧ (chkW next w met).2 = met ++ panesT w.s ∧ (met.Nodup → (met ++ panesT w.s).Nodup) := by
  unfold chkW at h ⊢
  split at h
  · cases h
  · rename_i h1
    split at h
    · rename_i h2; exact absurd h h2
    · rename_i h2
      split at h
      · cases h
      · rename_i h3
        rw [if_neg h1, if_neg h2, if_neg h3]
        obtain ⟨a1, a2, a3⟩ := chkPs_zero h
        obtain ⟨b1, b2⟩ := not_or.1 h3
        refine ⟨⟨by simpa using h1, Decidable.not_not.1 h2, Decidable.not_not.1 b1, ?_, a1⟩, a2, a3⟩
        by_cases h0 : w.bef = 0
        · exact .inl h0
        · exact .inr (Decidable.not_not.1 fun h => b2 ⟨h0, h⟩)
theorem chkWs_zero {next : Int} : ∀ {l : List Win} {met : List Int}, (chkWs next l met).1 = 0 → (∀ w ∈ l, WinR next w) ∧ (chkWs next l met).2 = met ++ l.flatMap (fun w => panesT w.s) ∧ (met.Nodup → (met ++ l.flatMap fun w => panesT w.s).Nodup)
  | [], met, _ => ⟨by simp, by simp [chkWs], by simp⟩
  | w :: l, met, h => by
    rw [chkWs] at h ⊢
    by_cases h1 : (chkW next w met).1 = 0
    · rw [if_neg (by simpa using h1)] at h ⊢
      obtain ⟨a1, a2, a3⟩ := chkW_zero h1
      obtain ⟨b1, b2, b3⟩ := chkWs_zero h
      rw [a2] at b2 b3
      refine ⟨fun x hx => ?_, by rw [a2, b2]; simp, fun hn => by have := b3 (a3 hn); simpa using this⟩
      rcases List.mem_cons.1 hx with rfl | hx
      · exact a1
      · exact b1 x hx
    · rw [if_pos h1] at h
      exact absurd h h1
def panesS (s : Ses) : List Int := s.wins.flatMap fun w => panesT w.s
theorem chkSs_zero {next : Int} : ∀ {l : List Ses} {seen : List (List UInt8)} {met : List Int}, chkSs next l seen met = 0 → (∀ s ∈ l, SesR next s) ∧ (met.Nodup → (met ++ l.flatMap panesS).Nodup) ∧ (seen.Nodup → (seen ++ l.map Ses.name).Nodup)
  | [], seen, met, _ => ⟨by simp, by simp, by simp⟩
  | s :: l, seen, met, h => by
    rw [chkSs] at h
    by_cases h1 : chkS1 s seen = 0
    · rw [if_neg (by simpa using h1)] at h
      by_cases h2 : (chkWs next s.wins met).1 = 0
      · rw [if_neg (by simpa using h2)] at h
        obtain ⟨a1, a2, a3⟩ := chkWs_zero h2
        obtain ⟨b1, b2, b3⟩ := chkSs_zero h
        rw [a2] at b2
        unfold chkS1 at h1
        split at h1
        · cases h1
        · rename_i c1
          split at h1
          · cases h1
          · rename_i c2
            split at h1
            · cases h1
            · rename_i c3
              split at h1
              · cases h1
              · rename_i c4
                refine ⟨fun x hx => ?_, fun hn => by have := b2 (a3 hn); simpa [panesS] using this, fun hn => ?_⟩
                · rcases List.mem_cons.1 hx with rfl | hx
                  · exact ⟨by simpa using c1, by omega, by omega, by omega, a1⟩
                  · exact b1 x hx
                · have := b3 (by rw [List.nodup_append]; exact ⟨hn, by simp, fun a ha b hb e => c2 (by rw [List.mem_singleton] at hb; rw [← hb, ← e]; exact ha)⟩)
                  simpa using this
      · rw [if_pos h2] at h
        exact absurd h h2
    · rw [if_pos h1] at h
      exact absurd h h1
end Go.Eng.YtkenlcaifhffoaaDoor
end

/- Houses: the window of a pane (b_ x_ q_ e_). -/
section
namespace Go.Eng.YtkenlcaifhffoaaDoor
open Go Go.Eng Go.Proofs
variable (W : World)
set_option linter.unusedSimpArgs false
set_option maxRecDepth 100000
set_option linter.unusedVariables false
set_option maxHeartbeats 8000000
def sesR (p : Nat × Ses) : PV := .agg [.str p.2.name, .rsl p.1 8 0 p.2.wins.length, .int .i64 p.2.act, .int .i64 p.2.bef]
def winsP (p : Nat × Ses) : Nat × List Win := (p.1, p.2.wins)
theorem sesV_R {p : Nat × Ses} (h : p.2.wins ≠ []) : sesV p = sesR p := by
  unfold sesV sesR
  cases hw : p.2.wins with
  | nil => exact absurd hw h
  | cons w l => simp [accV]
theorem sess_R {L : List (Nat × Ses)} (h : ∀ p ∈ L, p.2.wins ≠ []) : L.map sesV = L.map sesR := List.map_congr_left fun p hp => sesV_R (h p hp)
theorem famR_perm {L : List (Nat × Ses)} (h : ∀ p ∈ L, p.2.wins ≠ []) : (famR L).Perm (famM 8 encWin (L.map winsP)) := by
  have e : ∀ l : List (Nat × Ses), (∀ p ∈ l, p.2.wins ≠ []) → l.flatMap (fun p => accM p.1 8 (p.2.wins.map encWin)) = famM 8 encWin (l.map winsP) := by
    intro l
    induction l with
    | nil => intro _; rfl
    | cons p l ih =>
      intro hl
      rw [List.flatMap_cons, ih fun q hq => hl q (List.mem_cons_of_mem _ hq), List.map_cons, famM_cons]
      have hp := hl p (by simp)
      cases hw : p.2.wins with
      | nil => exact absurd hw hp
      | cons w ws => simp [accM, winsP, hw]
  rw [famR, e _ fun p hp => h p (List.mem_reverse.1 hp)]
  unfold famM
  exact ((List.reverse_perm L).map winsP).map _
theorem winsP_at {L : List (Nat × Ses)} {i : Nat} {p : Nat × Ses} (h : L[i]? = some p) : (L.map winsP)[i]? = some (p.1, p.2.wins) := by
  rw [List.getElem?_map, h]; rfl
def hsM (b bs : Nat) (vv : PV) (next : Int) (L : List (Nat × Ses)) : Mem := ⟨b, .row 3 [.agg [.rsl bs 4 0 L.length, vv, .int .i64 next]] 0⟩ :: ⟨bs, .row 4 (L.map sesR) 0⟩ :: (famM 8 encWin (L.map winsP) ++ [])
def WinT (w : Win) : Prop := w.s.right 0 ∧ (panesT w.s).length ≤ 12
theorem find_none (b bs : Nat) (vv : PV) (next : Int) (L : List (Nat × Ses)) (pane : Int) (hl4 : L.length ≤ 4) (hw6 : ∀ p ∈ L, p.2.wins.length ≤ 6) (hr : ∀ p ∈ L, ∀ w ∈ p.2.wins, WinT w) (hn : ∀ p ∈ L, ∀ w ∈ p.2.wins, pane ∉ panesT w.s) :
    ACalls Tryd.prog W 30 [.bref b 0, .int .i64 pane] (hsM b bs vv next L) (Gives (fun _ : Unit => .lit (.pointer none)) (fun _ => hsM b bs vv next L) (fun _ => True)) := by
  have hm1 : (L.map sesR).length = L.length := List.length_map _
  unfold hsM
  refine acalls_of_vc (drawOk W) Tryd.func30 rfl (by decide) (by decide) rfl ?_
  refine g0_ ?_
  refine' loopI (α := Nat) (fun i => [(13, .int .i64 i)]) [(0, _), (1, _), (12, _)] (fun i => ⟨b, .row 3 [.agg [.rsl bs 4 0 L.length, vv, .int .i64 next]] 0⟩ :: ⟨bs, .row 4 (L.map sesR) 0⟩ :: (famM 8 encWin (L.map winsP) ++ [])) (fun i => i ≤ L.length) (fun i => L.length - i) 0 ?_ ?_
  · exact Nat.zero_le _
  rintro i hi
  by_cases hie : i = L.length
  · subst hie
    refine g0_ ?_
    refine g1_ ?_
    exact ⟨(), trivial, rfl, wkMem.rfl'⟩
  · have hil : i < L.length := by omega
    obtain ⟨x, hx⟩ : ∃ x, L[i]? = some x := ⟨_, List.getElem?_eq_getElem hil⟩
    have hfx := winsP_at hx
    have hxz0 : L[0 + i]? = some x := by rw [Nat.zero_add]; exact hx
    have hx6 := hw6 x (List.mem_of_getElem? hx)
    have hxm : (List.map encWin x.2.wins).length = x.2.wins.length := List.length_map _
    refine g0_ ?_
    refine g1_ ?_
    refine' loopI (α := Nat) (fun k => [(25, .int .i64 k)]) [(0, _), (1, _), (5, _), (12, _), (13, _), (24, _)] (fun k => ⟨b, .row 3 [.agg [.rsl bs 4 0 L.length, vv, .int .i64 next]] 0⟩ :: ⟨bs, .row 4 (L.map sesR) 0⟩ :: (famM 8 encWin (L.map winsP) ++ [])) (fun k => k ≤ x.2.wins.length) (fun k => x.2.wins.length - k) 0 ?_ ?_
    · exact Nat.zero_le _
    rintro k hk
    by_cases hke : k = x.2.wins.length
    · subst hke
      refine g0_ ?_
      refine g1_ ?_
      refine nx_ (i + 1) ?_ ?_
      · exact hil
      · ((try dsimp only); (try simp only [List.length_drop, List.length_take, List.length_append, List.length_cons, List.length_nil, List.length_map] at *); omega)
    · have hkl : k < x.2.wins.length := by omega
      obtain ⟨y, hy⟩ : ∃ y, x.2.wins[k]? = some y := ⟨_, List.getElem?_eq_getElem hkl⟩
      have hy0 : x.2.wins[0 + k]? = some y := by rw [Nat.zero_add]; exact hy
      have hyt := hr x (List.mem_of_getElem? hx) y (List.mem_of_getElem? hy)
      have hpn := panes_ok W y.s 0 hyt.1 hyt.2
      have hct := containsI_ok W (panesT y.s) pane (by have := hyt.2; omega)
      rw [encSpl_eta] at hpn
      rw [decide_eq_false (hn x (List.mem_of_getElem? hx) y (List.mem_of_getElem? hy))] at hct
      refine g0_ ?_
      refine g1_ ?_
      refine (hpn).use ?_; refine g0_ ?_
      refine g1_ ?_
      refine (hct).use ?_; refine g0_ ?_
      refine g1_ ?_
      refine nx_ (k + 1) ?_ ?_
      · exact hkl
      · ((try dsimp only); (try simp only [List.length_drop, List.length_take, List.length_append, List.length_cons, List.length_nil, List.length_map] at *); omega)
theorem find_some (b bs : Nat) (vv : PV) (next : Int) (L : List (Nat × Ses)) (pane : Int) (hl4 : L.length ≤ 4) (hw6 : ∀ p ∈ L, p.2.wins.length ≤ 6) (hr : ∀ p ∈ L, ∀ w ∈ p.2.wins, WinT w) (i0 k0 : Nat) (x0 : Nat × Ses) (w0 : Win) (hx0 : L[i0]? = some x0) (hw0 : x0.2.wins[k0]? = some w0) (hp : pane ∈ panesT w0.s)
    (hn : ∀ p ∈ L.take i0, ∀ w ∈ p.2.wins, pane ∉ panesT w.s) (hn2 : ∀ w ∈ x0.2.wins.take k0, pane ∉ panesT w.s) :
    ACalls Tryd.prog W 30 [.bref b 0, .int .i64 pane] (hsM b bs vv next L) (Gives (fun _ : Unit => .ref x0.1 8 k0 0) (fun _ => hsM b bs vv next L) (fun _ => True)) := by
  have hm1 : (L.map sesR).length = L.length := List.length_map _
  have hi0 := lt_of_at hx0
  have hk0 := lt_of_at hw0
  unfold hsM
  refine acalls_of_vc (drawOk W) Tryd.func30 rfl (by decide) (by decide) rfl ?_
  refine g0_ ?_
  refine' loopI (α := Nat) (fun i => [(13, .int .i64 i)]) [(0, _), (1, _), (12, _)] (fun i => ⟨b, .row 3 [.agg [.rsl bs 4 0 L.length, vv, .int .i64 next]] 0⟩ :: ⟨bs, .row 4 (L.map sesR) 0⟩ :: (famM 8 encWin (L.map winsP) ++ [])) (fun i => i ≤ i0) (fun i => i0 - i) 0 ?_ ?_
  · exact Nat.zero_le _
  rintro i hi
  by_cases hie : i = i0
  · subst hie
    have hil := hi0
    obtain ⟨x, hx⟩ : ∃ x, L[i]? = some x := ⟨_, List.getElem?_eq_getElem hil⟩
    have hfx := winsP_at hx
    have hxz0 : L[0 + i]? = some x := by rw [Nat.zero_add]; exact hx
    have hx6 := hw6 x (List.mem_of_getElem? hx)
    have hxm : (List.map encWin x.2.wins).length = x.2.wins.length := List.length_map _
    obtain rfl : x = x0 := Option.some.inj (hx.symm.trans hx0)
    refine g0_ ?_
    refine g1_ ?_
    refine' loopI (α := Nat) (fun k => [(25, .int .i64 k)]) [(0, _), (1, _), (5, _), (12, _), (13, _), (24, _)] (fun k => ⟨b, .row 3 [.agg [.rsl bs 4 0 L.length, vv, .int .i64 next]] 0⟩ :: ⟨bs, .row 4 (L.map sesR) 0⟩ :: (famM 8 encWin (L.map winsP) ++ [])) (fun k => k ≤ k0) (fun k => k0 - k) 0 ?_ ?_
    · exact Nat.zero_le _
    rintro k hk
    by_cases hke : k = k0
    · subst hke
      have hkl := hk0
      obtain ⟨y, hy⟩ : ∃ y, x.2.wins[k]? = some y := ⟨_, List.getElem?_eq_getElem hkl⟩
      have hy0 : x.2.wins[0 + k]? = some y := by rw [Nat.zero_add]; exact hy
      have hyt := hr x (List.mem_of_getElem? hx) y (List.mem_of_getElem? hy)
      have hpn := panes_ok W y.s 0 hyt.1 hyt.2
      have hct := containsI_ok W (panesT y.s) pane (by have := hyt.2; omega)
      rw [encSpl_eta] at hpn
      obtain rfl : y = w0 := Option.some.inj (hy.symm.trans hw0)
      rw [decide_eq_true hp] at hct
      refine g0_ ?_
      refine g1_ ?_
      refine (hpn).use ?_; refine g0_ ?_
      refine g1_ ?_
      refine (hct).use ?_; refine g0_ ?_
      refine g1_ ?_
      exact ⟨(), trivial, by rw [Nat.zero_add], wkMem.rfl'⟩
    · have hkl : k < x.2.wins.length := by omega
      obtain ⟨y, hy⟩ : ∃ y, x.2.wins[k]? = some y := ⟨_, List.getElem?_eq_getElem hkl⟩
      have hy0 : x.2.wins[0 + k]? = some y := by rw [Nat.zero_add]; exact hy
      have hyt := hr x (List.mem_of_getElem? hx) y (List.mem_of_getElem? hy)
      have hpn := panes_ok W y.s 0 hyt.1 hyt.2
      have hct := containsI_ok W (panesT y.s) pane (by have := hyt.2; omega)
      rw [encSpl_eta] at hpn
      have hyk : y ∈ x.2.wins.take k0 := List.mem_of_getElem? (i := k) (by rw [List.getElem?_take, if_pos (by omega)]; exact hy)
      rw [decide_eq_false (hn2 y hyk)] at hct
      refine g0_ ?_
      refine g1_ ?_
      refine (hpn).use ?_; refine g0_ ?_
      refine g1_ ?_
      refine (hct).use ?_; refine g0_ ?_
      refine g1_ ?_
      refine nx_ (k + 1) ?_ ?_
      · exact (show k + 1 ≤ k0 by omega)
      · ((try dsimp only); (try simp only [List.length_drop, List.length_take, List.length_append, List.length_cons, List.length_nil, List.length_map] at *); omega)
  · have hil : i < L.length := by omega
    obtain ⟨x, hx⟩ : ∃ x, L[i]? = some x := ⟨_, List.getElem?_eq_getElem hil⟩
    have hfx := winsP_at hx
    have hxz0 : L[0 + i]? = some x := by rw [Nat.zero_add]; exact hx
    have hx6 := hw6 x (List.mem_of_getElem? hx)
    have hxm : (List.map encWin x.2.wins).length = x.2.wins.length := List.length_map _
    have hxk : x ∈ L.take i0 := List.mem_of_getElem? (i := i) (by rw [List.getElem?_take, if_pos (by omega)]; exact hx)
    refine g0_ ?_
    refine g1_ ?_
    refine' loopI (α := Nat) (fun k => [(25, .int .i64 k)]) [(0, _), (1, _), (5, _), (12, _), (13, _), (24, _)] (fun k => ⟨b, .row 3 [.agg [.rsl bs 4 0 L.length, vv, .int .i64 next]] 0⟩ :: ⟨bs, .row 4 (L.map sesR) 0⟩ :: (famM 8 encWin (L.map winsP) ++ [])) (fun k => k ≤ x.2.wins.length) (fun k => x.2.wins.length - k) 0 ?_ ?_
    · exact Nat.zero_le _
    rintro k hk
    by_cases hke : k = x.2.wins.length
    · subst hke
      refine g0_ ?_
      refine g1_ ?_
      refine nx_ (i + 1) ?_ ?_
      · exact (show i + 1 ≤ i0 by omega)
      · ((try dsimp only); (try simp only [List.length_drop, List.length_take, List.length_append, List.length_cons, List.length_nil, List.length_map] at *); omega)
    · have hkl : k < x.2.wins.length := by omega
      obtain ⟨y, hy⟩ : ∃ y, x.2.wins[k]? = some y := ⟨_, List.getElem?_eq_getElem hkl⟩
      have hy0 : x.2.wins[0 + k]? = some y := by rw [Nat.zero_add]; exact hy
      have hyt := hr x (List.mem_of_getElem? hx) y (List.mem_of_getElem? hy)
      have hpn := panes_ok W y.s 0 hyt.1 hyt.2
      have hct := containsI_ok W (panesT y.s) pane (by have := hyt.2; omega)
      rw [encSpl_eta] at hpn
      rw [decide_eq_false (hn x hxk y (List.mem_of_getElem? hy))] at hct
      refine g0_ ?_
      refine g1_ ?_
      refine (hpn).use ?_; refine g0_ ?_
      refine g1_ ?_
      refine (hct).use ?_; refine g0_ ?_
      refine g1_ ?_
      refine nx_ (k + 1) ?_ ?_
      · exact hkl
      · ((try dsimp only); (try simp only [List.length_drop, List.length_take, List.length_append, List.length_cons, List.length_nil, List.length_map] at *); omega)
end Go.Eng.YtkenlcaifhffoaaDoor
end

/- Houses: a pane cut in two (b_ x_ q_ e_). -/
section
namespace Go.Eng
open Go
variable {P : Program} {W : World}
theorem ACalls.sameN {f : FuncId} {args : List PV} {σ τ r : Mem} {v : PV} {R : Unit → Prop} {k : PV → Mem → Prop} (h : ACalls P W f args τ (Gives (fun _ : Unit => v) (fun _ => τ) R)) (hp : σ.Perm (τ ++ r)) (hk : k v σ) : ACalls P W f args σ k := by
  refine ACalls.weak (ACalls.lend h hp fun x _ => ?_)
  exact ⟨σ, hk, [], by rw [List.append_nil]; exact hp.symm⟩
end Go.Eng
namespace Go.Eng.YtkenlcaifhffoaaDoor
open Go Go.Eng Go.Proofs
variable (W : World)
set_option linter.unusedSimpArgs false
set_option maxRecDepth 100000
set_option linter.unusedVariables false
set_option maxHeartbeats 8000000
theorem find_nil (b : Nat) (vv : PV) (next pane : Int) : ACalls Tryd.prog W 30 [.bref b 0, .int .i64 pane] [⟨b, .row 3 [.agg [.nils, vv, .int .i64 next]] 0⟩] (Gives (fun _ : Unit => .lit (.pointer none)) (fun _ => [⟨b, .row 3 [.agg [.nils, vv, .int .i64 next]] 0⟩]) (fun _ => True)) := by
  refine acalls_of_vc (drawOk W) Tryd.func30 rfl (by decide) (by decide) rfl ?_
  (refine g0_ ?_; repeat ((first | refine n1_ fun b_ => ?_ | refine n2_ fun b_ => ?_ | refine Nat1.mk fun q_ hq_ => ?_ | refine em_ fun x_ hx_ => ?_ | refine Elem1.mk fun e_ he_ => ?_); refine g0_ ?_))
  refine' loopI (α := Nat) (fun i => [(13, .int .i64 i)]) [(0, _), (1, _), (12, _)] (fun i => [⟨b, .row 3 [.agg [.nils, vv, .int .i64 next]] 0⟩]) (fun i => i = 0) (fun i => 0 - i) 0 ?_ ?_
  · rfl
  rintro i rfl
  (refine g0_ ?_; repeat ((first | refine n1_ fun b_ => ?_ | refine n2_ fun b_ => ?_ | refine Nat1.mk fun q_ hq_ => ?_ | refine em_ fun x_ hx_ => ?_ | refine Elem1.mk fun e_ he_ => ?_); refine g0_ ?_))
  (refine g1_ ?_; repeat ((first | refine n1_ fun b_ => ?_ | refine n2_ fun b_ => ?_ | refine Nat1.mk fun q_ hq_ => ?_ | refine em_ fun x_ hx_ => ?_ | refine Elem1.mk fun e_ he_ => ?_); refine g1_ ?_))
  exact ⟨(), trivial, rfl, wkMem.rfl'⟩
theorem frz_R {σ : Mem} {bs n : Nat} {L : List (Nat × Ses)} (h : wkMem σ (⟨bs, .row 4 (L.map sesR) 0⟩ :: (famM 8 encWin (L.map winsP) ++ []))) (hn : n = L.length) : Frz σ (.rsl bs 4 0 n) (.sl 4 ((L.map Prod.snd).map encSes)) := by
  obtain ⟨r, hr⟩ := Look.of_wk h List.mem_cons_self
  refine FrzL.row (es := L.map sesR) ?_ hr (by rw [hn, List.length_map])
  rw [List.map_map]
  refine .map fun p hp => ?_
  have hm : ⟨p.1, .row 8 (p.2.wins.map encWin) 0⟩ ∈ famM 8 encWin (L.map winsP) := by
    unfold famM
    rw [List.map_map]
    exact List.mem_map.2 ⟨p, hp, rfl⟩
  obtain ⟨r2, hr2⟩ := Look.of_wk h (List.mem_cons_of_mem _ (List.mem_append_left _ hm))
  refine .agg _ _ rfl fun j hj => ?_
  match j, hj with
  | 0, _ => exact .refl _
  | 1, _ => exact frz_row hr2 _ (by simp)
  | 2, _ => exact .refl _
  | 3, _ => exact .refl _
def setW (l : List Ses) (i k : Nat) (w : Win) : List Ses := match l[i]? with
  | some s => l.set i { s with wins := s.wins.set k w }
  | none => l
theorem set_R {L : List (Nat × Ses)} {i : Nat} {x : Nat × Ses} (h : L[i]? = some x) (k : Nat) (w : Win) : (L.set i (x.1, { x.2 with wins := x.2.wins.set k w })).map sesR = L.map sesR := by
  rw [List.map_set]
  refine set_self ?_
  rw [List.getElem?_map, h]
  simp [sesR]
theorem set_T {L : List (Nat × Ses)} {i : Nat} {x : Nat × Ses} (h : L[i]? = some x) (k : Nat) (w : Win) : (L.set i (x.1, { x.2 with wins := x.2.wins.set k w })).map Prod.snd = setW (L.map Prod.snd) i k w := by
  rw [setW, List.getElem?_map, h, List.map_set]
  rfl
theorem done_win {b bs i k : Nat} {L : List (Nat × Ses)} {x : Nat × Ses} {w : Win} {next : Int} {vv : PV} {vs : List Vw} {σ ρ : Mem} {Y : Hs} (hx : L[i]? = some x) (hσ : σ.Perm (⟨b, .row 3 [.agg [.rsl bs 4 0 L.length, vv, .int .i64 next]] 0⟩ :: ρ))
    (hY : Y = ⟨setW (L.map Prod.snd) i k w, vs, next⟩) (hw : wkMem ρ (⟨bs, .row 4 (L.map sesR) 0⟩ :: ⟨x.1, .row 8 ((x.2.wins.set k w).map encWin) 0⟩ :: (famM 8 encWin ((L.map winsP).eraseIdx i) ++ []))) (h2 : SlV vv) (f2 : Frz ρ vv (.sl 3 (vs.map encVw))) : HsDone b Y σ := by
  subst hY
  refine ⟨_, _, _, hσ, .inr (.inl ⟨_, _, _, _, rfl⟩), h2, ?_, f2⟩
  have h3 := frz_R (σ := ρ) (bs := bs) (n := L.length) (L := L.set i (x.1, { x.2 with wins := x.2.wins.set k w })) ?_ (by simp)
  · rw [set_T hx] at h3
    exact h3
  · rw [set_R hx, List.map_set]
    obtain ⟨q1, hq1⟩ := hw
    obtain ⟨q2, hq2⟩ := wk_fam (sz := 8) (f := encWin) (winsP_at hx) x.1 (x.2.wins.set k w) []
    refine ⟨q2 ++ q1, hq1.trans ?_⟩
    refine List.Perm.cons _ ((hq2.append_right q1).trans ?_)
    rw [List.append_assoc]
    exact .refl _
end Go.Eng.YtkenlcaifhffoaaDoor
end

/- Houses: a pane cut in two: what is done (b_ x_ q_ e_). -/
section
namespace Go.Eng.YtkenlcaifhffoaaDoor
open Go Go.Eng Go.Proofs
variable (W : World)
set_option linter.unusedSimpArgs false
set_option maxRecDepth 100000
set_option linter.unusedVariables false
set_option maxHeartbeats 8000000
theorem eqlH_nil {t e : TypeId} {xo yo : Operand} (ht : Tryd.prog.underlying t = some (.pointer e)) : EqLaw Tryd.prog .eql t xo yo (.lit (.pointer none)) (.lit (.pointer none)) true := by
  refine ⟨fun K w u v h1 h2 => ?_⟩
  cases h1; cases h2
  have hp : Tryd.prog.pointee t = e := by simp [Program.pointee, ht]
  have := run_eql_pointer_nil (P := Tryd.prog) w t none (by rw [hp]; exact ht)
  have e0 : (eqGuard .eql t xo yo (.pointer none) (.pointer none)).run Tryd.prog w = .ok () w := by simp [eqGuard]
  rw [Sem.run_bind, e0, Result.andThen_ok, this]; rfl
theorem eqlH_ref {t e : TypeId} {b sz i f : Nat} {xo yo : Operand} (ht : Tryd.prog.underlying t = some (.pointer e)) : EqLaw Tryd.prog .eql t xo yo (.ref b sz i f) (.lit (.pointer none)) false := by
  refine ⟨fun K w u v h1 h2 => ?_⟩
  cases h1; cases h2
  have hp : Tryd.prog.pointee t = e := by simp [Program.pointee, ht]
  have := run_eql_pointer_nil (P := Tryd.prog) w t (some ⟨b, i * sz + f, none⟩) (by rw [hp]; exact ht)
  have e0 : (eqGuard .eql t xo yo (.pointer (some ⟨b, i * sz + f, none⟩)) (.pointer none)).run Tryd.prog w = .ok () w := by simp [eqGuard]
  rw [Sem.run_bind, e0, Result.andThen_ok, this]; rfl
theorem permO (V F T : Mem) (B : Blk) : (V ++ ([B] ++ F) ++ T).Perm (B :: ((T ++ V) ++ F)) := by
  refine (List.perm_append_comm (l₁ := V ++ ([B] ++ F)) (l₂ := T)).trans ?_
  rw [← List.append_assoc]
  exact List.perm_middle
theorem own_perm {x : OH} (hne : x.L ≠ []) (hw : ∀ p ∈ x.L, p.2.wins ≠ []) (b : Nat) (T : Mem) : (⟨b, .row 3 [x.V] 0⟩ :: (x.M ++ T)).Perm (⟨b, .row 3 [.agg [.rsl x.bs 4 0 x.L.length, vwV x.o x.views, .int .i64 x.next]] 0⟩ :: ⟨x.bs, .row 4 (x.L.map sesR) 0⟩ :: ((T ++ vwM x.o x.views) ++ (famM 8 encWin (x.L.map winsP) ++ []))) := by
  have hm : x.L.map sesR ≠ [] := by simpa using hne
  unfold OH.V OH.M
  rw [sess_R hw, accV_neH hm, accM_neH hm, List.length_map]
  refine List.Perm.cons _ ((permO _ _ _ _).trans (List.Perm.cons _ (List.Perm.append_left _ ?_)))
  rw [List.append_nil]
  exact famR_perm hw
theorem permF {A B : Blk} (X F : Mem) : (A :: B :: (X ++ F)).Perm ((A :: B :: F) ++ X) := List.Perm.cons _ (List.Perm.cons _ List.perm_append_comm)
def winAt (l : List Ses) (i k : Nat) : Option Win := (l[i]?).bind fun s => s.wins[k]?
def cutE (h : Hs) (pane way : Int) : Int := match posS h.ses pane with
  | none => 6
  | some (i, k) => match winAt h.ses i k with
    | none => 6
    | some w => if (cutR w.s pane way h.next).2 ≠ 0 then (cutR w.s pane way h.next).2 else if h.next = 9999 then 10 else 0
def cutY (h : Hs) (pane way : Int) : Hs := match posS h.ses pane with
  | none => h
  | some (i, k) => match winAt h.ses i k with
    | none => h
    | some w => ⟨setW h.ses i k ⟨w.name, (cutR w.s pane way h.next).1, h.next, w.act, false⟩, h.views, h.next + 1⟩
theorem right_win {h : Hs} (h0 : chkH h = 0) : ∀ s ∈ h.ses, SesR h.next s := (chkSs_zero (right_ses h0).2.2.2.2.1).1
theorem winT_of {next : Int} {w : Win} (h : WinR next w) : WinT w := ⟨(vis_right h.vis).1, (vis_right h.vis).2.2.1⟩
theorem hcut1_ok (hT : Tabs W) (h : Hs) (hok : h.ok) (h0 : chkH h = 0) (pane way : Int) (b bp bw : Nat) (x : OH) (hx : x.T = h) (ho : x.o = none → x.views = []) :
    ACalls Tryd.prog W 46 [.bref b 0, .bref bp 0, .bref bw 0] (⟨b, .row 3 [x.V] 0⟩ :: (x.M ++ [⟨bp, .row 1 [.int .i64 pane] 0⟩, ⟨bw, .row 1 [.int .i64 way] 0⟩])) fun v σ' => v = .int .i64 (cutE h pane way) ∧ (cutE h pane way = 0 → HsDone b (cutY h pane way) σ') := by
  have hsr := right_win h0
  obtain ⟨hl4, -, hn1, hn2, -, -⟩ := right_ses h0
  subst hx
  have hwr : ∀ p ∈ x.L, SesR x.next p.2 := fun p hp => hsr p.2 (List.mem_map.2 ⟨p, hp, rfl⟩)
  have hl4' : x.L.length ≤ 4 := by simpa [OH.T] using hl4
  have hse : ∀ p ∈ x.L, p.2.ok := fun p hp => hok.se p.2 (List.mem_map.2 ⟨p, hp, rfl⟩)
  by_cases hne : x.L = []
  · obtain ⟨bs, L, o, vs, nx⟩ := x
    dsimp only at hne
    subst hne
    refine ACalls.perm ?_ perm_two
    unfold OH.V OH.M OH.T cutE cutY
    dsimp only
    have hfn := fun vv => find_nil W b vv nx pane
    rcases o with _ | bo
    · refine acalls_of_vc (DL_ok (by decide)) Tryd.func46 rfl (by decide) (by decide) rfl ?_
      refine g0_ ?_
      refine ACalls.sameN (hfn _) (lookH1 lk_) ?_
      refine g0_ ?_
      refine ⟨_, eqlH_nil Tryd.underlying59, ?_⟩
      refine g0_ ?_
      refine g1_ ?_
      exact ⟨rfl, fun h => by cases h⟩
    · refine acalls_of_vc (DL_ok (by decide)) Tryd.func46 rfl (by decide) (by decide) rfl ?_
      refine g0_ ?_
      refine ACalls.sameN (hfn _) (lookH1 lk_) ?_
      refine g0_ ?_
      refine ⟨_, eqlH_nil Tryd.underlying59, ?_⟩
      refine g0_ ?_
      refine g1_ ?_
      exact ⟨rfl, fun h => by cases h⟩
  · refine ACalls.perm ?_ (own_perm hne (fun p hp h => by have := (hwr p hp).many; rw [h] at this; simp at this) b _)
    obtain ⟨bs, L, o, vs, nx⟩ := x
    unfold OH.T at *
    dsimp only at *
    have hw6 : ∀ p ∈ L, p.2.wins.length ≤ 6 := fun p hp => (hwr p hp).many.2
    have hwt : ∀ p ∈ L, ∀ w ∈ p.2.wins, WinT w := fun p hp w hw => winT_of ((hwr p hp).win w hw)
    unfold cutE cutY
    dsimp only
    cases hps : posS (L.map Prod.snd) pane with
    | none =>
      have hfn := find_none W b bs (vwV o vs) nx L pane hl4' hw6 hwt (fun p hp => posS_none hps p.2 (List.mem_map.2 ⟨p, hp, rfl⟩))
      dsimp only
      rcases o with _ | bo
      · refine acalls_of_vc (DL_ok (by decide)) Tryd.func46 rfl (by decide) (by decide) rfl ?_
        refine g0_ ?_
        refine ACalls.sameN hfn (permF [_, _] _) ?_
        refine g0_ ?_
        refine ⟨_, eqlH_nil Tryd.underlying59, ?_⟩
        refine g0_ ?_
        refine g1_ ?_
        exact ⟨rfl, fun h => by cases h⟩
      · refine acalls_of_vc (DL_ok (by decide)) Tryd.func46 rfl (by decide) (by decide) rfl ?_
        refine g0_ ?_
        refine ACalls.sameN hfn (permF [_, _, _] _) ?_
        refine g0_ ?_
        refine ⟨_, eqlH_nil Tryd.underlying59, ?_⟩
        refine g0_ ?_
        refine g1_ ?_
        exact ⟨rfl, fun h => by cases h⟩
    | some y =>
      obtain ⟨i, k⟩ := y
      obtain ⟨s, w, hs, hw, hp, hb1, hb2⟩ := posS_some hps
      rw [List.getElem?_map] at hs
      obtain ⟨x0, hx, rfl⟩ := Option.map_eq_some_iff.1 hs
      have hfn := find_some W b bs (vwV o vs) nx L pane hl4' hw6 hwt i k x0 w hx hw hp (fun p hp => hb1 p.2 (by rw [← List.map_take]; exact List.mem_map.2 ⟨p, hp, rfl⟩)) hb2
      have hfx := winsP_at hx
      have hkw := lt_of_at hw
      have hb : (List.map encWin x0.2.wins)[k]? = some (encWin w) := by rw [List.getElem?_map, hw]; rfl
      have hkl : k < (List.map encWin x0.2.wins).length := by rw [List.length_map]; exact lt_of_at hw
      have hxm := List.mem_of_getElem? hx
      have hwm := List.mem_of_getElem? hw
      have hcut := cutP_ok W w.s ((hse x0 hxm).win w hwm).s pane way nx
      have hwa : winAt (L.map Prod.snd) i k = some w := by rw [winAt, List.getElem?_map, hx]; exact hw
      dsimp only
      rw [hwa]
      dsimp only
      generalize cutR w.s pane way nx = R at *
      obtain ⟨S, e⟩ := R
      dsimp only at hcut ⊢
      rw [encSpl_eta, encSpl_eta S] at hcut
      by_cases he : e = 0
      · subst he
        rw [if_neg (by decide)]
        by_cases h9 : nx = 9999
        · rw [if_pos h9]
          subst h9
          rcases o with _ | bo
          · refine acalls_of_vc (DL_ok (by decide)) Tryd.func46 rfl (by decide) (by decide) rfl ?_
            refine g0_ ?_
            refine ACalls.sameN hfn (permF [_, _] _) ?_
            refine g0_ ?_
            refine ⟨_, eqlH_ref Tryd.underlying59, ?_⟩
            refine g0_ ?_
            refine g1_ ?_
            refine Draws10.chain ⟨13, [.new, .new, .new, .new, .new, .new, .new, .new, .new, .new, .new, .turn, .skip], [(11, [.again, .again, .again, .again, .again, .again, .again, .again, .again, .again, .again, .keep, .turn]), (12, [.keep, .keep, .keep, .keep, .keep, .keep, .keep, .keep, .keep, .keep, .again, .keep, .keep])], by decide +kernel, ?_⟩; refine g0_ ?_
            refine ⟨_, (hcut).quiet, ?_⟩; (refine g0_ ?_; repeat (refine n1_ fun b_ => ?_; refine g0_ ?_))
            refine ⟨_, (hcut).quiet, ?_⟩; refine g0_ ?_
            refine g1_ ?_
            refine ACalls.lend1 (freshH_full W b _ _) lk_ ?_
            rintro _ -
            refine g0_ ?_
            refine g1_ ?_
            exact ⟨rfl, fun h => by cases h⟩
          · refine acalls_of_vc (DL_ok (by decide)) Tryd.func46 rfl (by decide) (by decide) rfl ?_
            refine g0_ ?_
            refine ACalls.sameN hfn (permF [_, _, _] _) ?_
            refine g0_ ?_
            refine ⟨_, eqlH_ref Tryd.underlying59, ?_⟩
            refine g0_ ?_
            refine g1_ ?_
            refine Draws10.chain ⟨13, [.new, .new, .new, .new, .new, .new, .new, .new, .new, .new, .new, .turn, .skip], [(11, [.again, .again, .again, .again, .again, .again, .again, .again, .again, .again, .again, .keep, .turn]), (12, [.keep, .keep, .keep, .keep, .keep, .keep, .keep, .keep, .keep, .keep, .again, .keep, .keep])], by decide +kernel, ?_⟩; refine g0_ ?_
            refine ⟨_, (hcut).quiet, ?_⟩; (refine g0_ ?_; repeat (refine n1_ fun b_ => ?_; refine g0_ ?_))
            refine ⟨_, (hcut).quiet, ?_⟩; refine g0_ ?_
            refine g1_ ?_
            refine ACalls.lend1 (freshH_full W b _ _) lk_ ?_
            rintro _ -
            refine g0_ ?_
            refine g1_ ?_
            exact ⟨rfl, fun h => by cases h⟩
        · rw [if_neg h9]
          rcases o with _ | bo
          · refine acalls_of_vc (DL_ok (by decide)) Tryd.func46 rfl (by decide) (by decide) rfl ?_
            refine g0_ ?_
            refine ACalls.sameN hfn (permF [_, _] _) ?_
            refine g0_ ?_
            refine ⟨_, eqlH_ref Tryd.underlying59, ?_⟩
            refine g0_ ?_
            refine g1_ ?_
            refine Draws10.chain ⟨13, [.new, .new, .new, .new, .new, .new, .new, .new, .new, .new, .new, .turn, .skip], [(11, [.again, .again, .again, .again, .again, .again, .again, .again, .again, .again, .again, .keep, .turn]), (12, [.keep, .keep, .keep, .keep, .keep, .keep, .keep, .keep, .keep, .keep, .again, .keep, .keep])], by decide +kernel, ?_⟩; refine g0_ ?_
            refine ⟨_, (hcut).quiet, ?_⟩; (refine g0_ ?_; repeat (refine n1_ fun b_ => ?_; refine g0_ ?_))
            refine ⟨_, (hcut).quiet, ?_⟩; refine g0_ ?_
            refine g1_ ?_
            refine ACalls.lend1 (freshH_ok W b _ _ nx (by omega)) lk_ ?_
            rintro _ -
            refine g0_ ?_
            refine g1_ ?_
            refine Draws10.chain ⟨22, [.new, .new, .new, .new, .new, .new, .new, .new, .new, .new, .new, .new, .turn, .skip, .skip, .skip, .skip, .skip, .skip, .skip, .skip, .skip], [(12, [.keep, .again, .again, .again, .keep, .keep, .keep, .keep, .keep, .again, .keep, .keep, .keep, .new, .new, .turn, .skip, .skip, .skip, .skip, .skip, .skip]), (15, [.keep, .keep, .again, .again, .keep, .keep, .keep, .keep, .keep, .again, .keep, .keep, .keep, .keep, .keep, .keep, .new, .new, .turn, .skip, .skip, .skip]), (18, [.keep, .keep, .keep, .again, .keep, .keep, .keep, .keep, .keep, .keep, .keep, .keep, .keep, .keep, .keep, .keep, .keep, .keep, .keep, .new, .new, .turn]), (21, [.keep, .keep, .keep, .keep, .keep, .keep, .keep, .keep, .keep, .keep, .keep, .keep, .keep, .keep, .keep, .keep, .keep, .keep, .keep, .keep, .keep, .keep])], by decide +kernel, ?_⟩; (refine g0_ ?_; repeat (refine Elem1.mk fun e_ he_ => ?_; refine g0_ ?_))
            obtain rfl := Option.some.inj ((set_at hb _).symm.trans he_)
            clear he_
            (refine g0_ ?_; repeat (refine Elem1.mk fun e_ he_ => ?_; refine g0_ ?_))
            obtain rfl := Option.some.inj ((set_at (set_at hb _) _).symm.trans he_)
            clear he_
            (refine g0_ ?_; repeat (refine Elem1.mk fun e_ he_ => ?_; refine g0_ ?_))
            obtain rfl := Option.some.inj ((set_at (set_at (set_at hb _) _) _).symm.trans he_)
            clear he_
            refine g0_ ?_
            refine ⟨rfl, fun _ => ?_⟩
            simp only [List.set_set]
            refine done_win (w := ⟨w.name, S, nx, w.act, false⟩) hx (List.Perm.swap _ _ _) rfl ?_ (.inl rfl) (frz_vw (o := none) ho (fun b hb => by cases hb))
            rw [List.map_set]
            (first | exact ⟨_, .refl _⟩ | exact wkMem.rfl' | exact ⟨_, .swap _ _ _⟩ | (repeat (first | exact wkMem.nil _ | exact wkMem.rfl' | exact wk_snoc _ _ _ | exact wk_fam (by assumption) _ _ _ | exact wk_famN (by assumption) _ _ _ | (apply wkMem.cons; (case' hl => (repeat (first | exact .here _ _ _ | apply Look.there)))) | apply wkMem.skip)))
          · refine acalls_of_vc (DL_ok (by decide)) Tryd.func46 rfl (by decide) (by decide) rfl ?_
            refine g0_ ?_
            refine ACalls.sameN hfn (permF [_, _, _] _) ?_
            refine g0_ ?_
            refine ⟨_, eqlH_ref Tryd.underlying59, ?_⟩
            refine g0_ ?_
            refine g1_ ?_
            refine Draws10.chain ⟨13, [.new, .new, .new, .new, .new, .new, .new, .new, .new, .new, .new, .turn, .skip], [(11, [.again, .again, .again, .again, .again, .again, .again, .again, .again, .again, .again, .keep, .turn]), (12, [.keep, .keep, .keep, .keep, .keep, .keep, .keep, .keep, .keep, .keep, .again, .keep, .keep])], by decide +kernel, ?_⟩; refine g0_ ?_
            refine ⟨_, (hcut).quiet, ?_⟩; (refine g0_ ?_; repeat (refine n1_ fun b_ => ?_; refine g0_ ?_))
            refine ⟨_, (hcut).quiet, ?_⟩; refine g0_ ?_
            refine g1_ ?_
            refine ACalls.lend1 (freshH_ok W b _ _ nx (by omega)) lk_ ?_
            rintro _ -
            refine g0_ ?_
            refine g1_ ?_
            refine Draws10.chain ⟨22, [.new, .new, .new, .new, .new, .new, .new, .new, .new, .new, .new, .new, .turn, .skip, .skip, .skip, .skip, .skip, .skip, .skip, .skip, .skip], [(12, [.keep, .again, .again, .again, .keep, .keep, .keep, .keep, .keep, .again, .keep, .keep, .keep, .new, .new, .turn, .skip, .skip, .skip, .skip, .skip, .skip]), (15, [.keep, .keep, .again, .again, .keep, .keep, .keep, .keep, .keep, .again, .keep, .keep, .keep, .keep, .keep, .keep, .new, .new, .turn, .skip, .skip, .skip]), (18, [.keep, .keep, .keep, .again, .keep, .keep, .keep, .keep, .keep, .keep, .keep, .keep, .keep, .keep, .keep, .keep, .keep, .keep, .keep, .new, .new, .turn]), (21, [.keep, .keep, .keep, .keep, .keep, .keep, .keep, .keep, .keep, .keep, .keep, .keep, .keep, .keep, .keep, .keep, .keep, .keep, .keep, .keep, .keep, .keep])], by decide +kernel, ?_⟩; (refine g0_ ?_; repeat (refine Elem1.mk fun e_ he_ => ?_; refine g0_ ?_))
            obtain rfl := Option.some.inj ((set_at hb _).symm.trans he_)
            clear he_
            (refine g0_ ?_; repeat (refine Elem1.mk fun e_ he_ => ?_; refine g0_ ?_))
            obtain rfl := Option.some.inj ((set_at (set_at hb _) _).symm.trans he_)
            clear he_
            (refine g0_ ?_; repeat (refine Elem1.mk fun e_ he_ => ?_; refine g0_ ?_))
            obtain rfl := Option.some.inj ((set_at (set_at (set_at hb _) _) _).symm.trans he_)
            clear he_
            refine g0_ ?_
            refine ⟨rfl, fun _ => ?_⟩
            simp only [List.set_set]
            refine done_win (w := ⟨w.name, S, nx, w.act, false⟩) hx (List.Perm.swap _ _ _) rfl ?_ (.inr (.inl ⟨_, _, _, _, rfl⟩)) ?_
            · rw [List.map_set]
              (first | exact ⟨_, .refl _⟩ | exact wkMem.rfl' | exact ⟨_, .swap _ _ _⟩ | (repeat (first | exact wkMem.nil _ | exact wkMem.rfl' | exact wk_snoc _ _ _ | exact wk_fam (by assumption) _ _ _ | exact wk_famN (by assumption) _ _ _ | (apply wkMem.cons; (case' hl => (repeat (first | exact .here _ _ _ | apply Look.there)))) | apply wkMem.skip)))
            · exact frz_row lk_ _ (by simp)
      · rw [if_pos he]
        rcases o with _ | bo
        · refine acalls_of_vc (DL_ok (by decide)) Tryd.func46 rfl (by decide) (by decide) rfl ?_
          refine g0_ ?_
          refine ACalls.sameN hfn (permF [_, _] _) ?_
          refine g0_ ?_
          refine ⟨_, eqlH_ref Tryd.underlying59, ?_⟩
          refine g0_ ?_
          refine g1_ ?_
          refine Draws10.chain ⟨13, [.new, .new, .new, .new, .new, .new, .new, .new, .new, .new, .new, .turn, .skip], [(11, [.again, .again, .again, .again, .again, .again, .again, .again, .again, .again, .again, .keep, .turn]), (12, [.keep, .keep, .keep, .keep, .keep, .keep, .keep, .keep, .keep, .keep, .again, .keep, .keep])], by decide +kernel, ?_⟩; refine g0_ ?_
          refine ⟨_, (hcut).quiet, ?_⟩; (refine g0_ ?_; repeat (refine n1_ fun b_ => ?_; refine g0_ ?_))
          refine ⟨_, (hcut).quiet, ?_⟩; refine g0_ ?_
          refine g1_ ?_
          exact ⟨rfl, fun h => absurd h he⟩
        · refine acalls_of_vc (DL_ok (by decide)) Tryd.func46 rfl (by decide) (by decide) rfl ?_
          refine g0_ ?_
          refine ACalls.sameN hfn (permF [_, _, _] _) ?_
          refine g0_ ?_
          refine ⟨_, eqlH_ref Tryd.underlying59, ?_⟩
          refine g0_ ?_
          refine g1_ ?_
          refine Draws10.chain ⟨13, [.new, .new, .new, .new, .new, .new, .new, .new, .new, .new, .new, .turn, .skip], [(11, [.again, .again, .again, .again, .again, .again, .again, .again, .again, .again, .again, .keep, .turn]), (12, [.keep, .keep, .keep, .keep, .keep, .keep, .keep, .keep, .keep, .keep, .again, .keep, .keep])], by decide +kernel, ?_⟩; refine g0_ ?_
          refine ⟨_, (hcut).quiet, ?_⟩; (refine g0_ ?_; repeat (refine n1_ fun b_ => ?_; refine g0_ ?_))
          refine ⟨_, (hcut).quiet, ?_⟩; refine g0_ ?_
          refine g1_ ?_
          exact ⟨rfl, fun h => absurd h he⟩
end Go.Eng.YtkenlcaifhffoaaDoor
end

/- The engine: an element of one's own row that is known is taken at once. -/
section
namespace Go.Eng
open Go
theorem at_set {α : Type} {l : List α} {q : Nat} {v : α} {k : α → Prop} (h : l[q]? = some v) (hk : k v) : Elem1 l q k :=
  ⟨fun e he => by rw [h] at he; exact Option.some.inj he ▸ hk⟩
end Go.Eng
namespace Go.Eng.YtkenlcaifhffoaaDoor
open Go Go.Eng
theorem at_ {α : Type} {l : List α} {q : Nat} {v : α} {k : α → Prop} (hk : k v) (h : l[q]? = some v := by repeat (first | with_reducible assumption | with_reducible apply set_at)) : Elem1 l q k := at_set h hk
theorem gs_ {p q : Prop} (hq : q) (h : Hide q → p := by (intro hq_; refine wh ?_; (repeat ((first | (refine at_set (by repeat (first | with_reducible assumption | with_reducible apply set_at)) ?_) | refine CondC.part ?_ | (refine GuardC.part ?_; refine wh ?_; fail_if_success refine brec ?_) | (apply GuardC.sp; (case' h1 => (refine wh ?_; (repeat ((refine need.mk ?_ ?_; focus (first | with_reducible exact fun h => h | with_reducible exact not_of_false | exact fun _ => rfl | (intro h_; simp [h_]; done) | (intro h_; simp_all; done))); refine wh ?_)); exact trivial)); (case' h2 => (intro hg_; (refine wh ?_; repeat ((first | (apply RowAt.mk; (case' hl => (repeat (first | exact .here _ _ _ | apply Look.there | exact Look.fam (by assumption) _)))) | refine Fits.ok (by omega) (by omega) ?_ | (refine need.mk ?_ ?_; focus (first | (first | omega | exact wkMem.skip wkMem.rfl' | rfl | (simp; done) | (simp [cellsB, PV.flat, cellB]; done) | (simp <;> omega) | (simp only [true_and, and_true, Bool.true_and, Bool.and_true, Bool.not_true, Bool.not_false, Bool.and_eq_true, Bool.not_eq_true, Bool.not_eq_false, Bool.or_eq_true, Bool.not_eq_true', Bool.not_eq_false', decide_eq_true_eq, decide_eq_false_iff_not, Decidable.not_not, ne_eq, beq_iff_eq]; omega) | (rw [Bool.eq_false_iff]; simp only [true_and, and_true, Bool.true_and, Bool.and_true, Bool.not_true, Bool.not_false, Bool.and_eq_true, Bool.not_eq_true, Bool.not_eq_false, Bool.or_eq_true, Bool.not_eq_true', Bool.not_eq_false', decide_eq_true_eq, decide_eq_false_iff_not, Decidable.not_not, ne_eq, beq_iff_eq]; omega)) | (simp at hg_; omega) | (intros; simp_all; done) | (intros; simp_all; omega))) | (refine New1.mk fun b_ hb_ => ?_; clear hb_) | (refine New2.mk fun b_ hb_ => ?_; clear hb_) | (refine Nat1.mk fun q_ hq_ => ?_; (first | (obtain rfl := Int.ofNat.inj hq_; clear hq_) | skip)) | refine at_known (by assumption) ?_ | (refine Elem1.mk fun e_ he_ => ?_; (first | (obtain ⟨x_, hx_, rfl⟩ := getMap he_; clear he_) | (obtain rfl := Option.some.inj he_; clear he_) | skip)) | (refine Lst1.mk fun s_ hs_ => ?_; (try simp only [List.take_length, List.drop_zero, ← List.map_take, ← List.map_drop] at hs_); subst hs_)); refine wh ?_)); refine And.intro ?_ rfl; exact Eq.refl _))) | refine GuardC.part ?_ | (refine needO.mk ?_ ?_; focus (refine wh ?_; (repeat ((refine need.mk ?_ ?_; focus (first | with_reducible exact fun h => h | with_reducible exact not_of_false | exact fun _ => rfl | (intro h_; simp [h_]; done) | (intro h_; simp_all; done))); refine wh ?_)); exact trivial)) | with_reducible refine need.mk (fun h => h) ?_ | with_reducible refine need.mk not_of_false ?_ | (apply RowAt.mk; (case' hl => (repeat (first | exact .here _ _ _ | apply Look.there | exact Look.fam (by assumption) _)))) | refine Fits.ok (by omega) (by omega) ?_ | (refine need.mk ?_ ?_; focus (first | omega | exact wkMem.skip wkMem.rfl' | rfl | (simp; done) | (simp [cellsB, PV.flat, cellB]; done) | (simp <;> omega) | (simp only [true_and, and_true, Bool.true_and, Bool.and_true, Bool.not_true, Bool.not_false, Bool.and_eq_true, Bool.not_eq_true, Bool.not_eq_false, Bool.or_eq_true, Bool.not_eq_true', Bool.not_eq_false', decide_eq_true_eq, decide_eq_false_iff_not, Decidable.not_not, ne_eq, beq_iff_eq]; omega) | (rw [Bool.eq_false_iff]; simp only [true_and, and_true, Bool.true_and, Bool.and_true, Bool.not_true, Bool.not_false, Bool.and_eq_true, Bool.not_eq_true, Bool.not_eq_false, Bool.or_eq_true, Bool.not_eq_true', Bool.not_eq_false', decide_eq_true_eq, decide_eq_false_iff_not, Decidable.not_not, ne_eq, beq_iff_eq]; omega))) | (refine Alt.a ?_ ?_; focus (first | omega | exact wkMem.skip wkMem.rfl' | rfl | (simp; done) | (simp [cellsB, PV.flat, cellB]; done) | (simp <;> omega) | (simp only [true_and, and_true, Bool.true_and, Bool.and_true, Bool.not_true, Bool.not_false, Bool.and_eq_true, Bool.not_eq_true, Bool.not_eq_false, Bool.or_eq_true, Bool.not_eq_true', Bool.not_eq_false', decide_eq_true_eq, decide_eq_false_iff_not, Decidable.not_not, ne_eq, beq_iff_eq]; omega) | (rw [Bool.eq_false_iff]; simp only [true_and, and_true, Bool.true_and, Bool.and_true, Bool.not_true, Bool.not_false, Bool.and_eq_true, Bool.not_eq_true, Bool.not_eq_false, Bool.or_eq_true, Bool.not_eq_true', Bool.not_eq_false', decide_eq_true_eq, decide_eq_false_iff_not, Decidable.not_not, ne_eq, beq_iff_eq]; omega))) | refine at_known (by assumption) ?_ | (refine InsAt.new ?_; refine wh ?_; apply MapAt.mk; (case' hl => (repeat (first | exact .here _ _ _ | apply Look.there)))) | refine Nat1.o ?_ | refine Lst1.m ?_ | refine ek_ ?_); refine wh ?_)); exact Hide.out hq_)) : p := h ⟨hq⟩
theorem gds_ {p q : Prop} (hq : q) (h : Hide q → p := by (intro hq_; refine wh ?_; (repeat ((first | (refine at_set (by repeat (first | with_reducible assumption | with_reducible apply set_at)) ?_) | refine CondC.part ?_ | (refine GuardC.part ?_; refine wh ?_; fail_if_success refine brec ?_) | (apply GuardC.sp; (case' h1 => (refine wh ?_; (repeat ((refine need.mk ?_ ?_; focus (first | with_reducible exact fun h => h | with_reducible exact not_of_false | exact fun _ => rfl | (intro h_; simp [h_]; done) | (intro h_; simp_all; done))); refine wh ?_)); exact trivial)); (case' h2 => (intro hg_; (refine wh ?_; repeat ((first | (apply RowAt.mk; (case' hl => (repeat (first | exact .here _ _ _ | apply Look.there | exact Look.fam (by assumption) _)))) | refine Fits.ok (by omega) (by omega) ?_ | (refine need.mk ?_ ?_; focus (first | (first | omega | exact wkMem.skip wkMem.rfl' | rfl | (simp; done) | (simp [cellsB, PV.flat, cellB]; done) | (simp <;> omega) | (simp only [true_and, and_true, Bool.true_and, Bool.and_true, Bool.not_true, Bool.not_false, Bool.and_eq_true, Bool.not_eq_true, Bool.not_eq_false, Bool.or_eq_true, Bool.not_eq_true', Bool.not_eq_false', decide_eq_true_eq, decide_eq_false_iff_not, Decidable.not_not, ne_eq, beq_iff_eq]; omega) | (rw [Bool.eq_false_iff]; simp only [true_and, and_true, Bool.true_and, Bool.and_true, Bool.not_true, Bool.not_false, Bool.and_eq_true, Bool.not_eq_true, Bool.not_eq_false, Bool.or_eq_true, Bool.not_eq_true', Bool.not_eq_false', decide_eq_true_eq, decide_eq_false_iff_not, Decidable.not_not, ne_eq, beq_iff_eq]; omega)) | (simp at hg_; omega) | (intros; simp_all; done) | (intros; simp_all; omega))) | (refine New1.mk fun b_ hb_ => ?_; clear hb_) | (refine New2.mk fun b_ hb_ => ?_; clear hb_) | (refine Nat1.mk fun q_ hq_ => ?_; (first | (obtain rfl := Int.ofNat.inj hq_; clear hq_) | skip)) | refine at_known (by assumption) ?_ | (refine Elem1.mk fun e_ he_ => ?_; (first | (obtain ⟨x_, hx_, rfl⟩ := getMap he_; clear he_) | (obtain rfl := Option.some.inj he_; clear he_) | skip)) | (refine Lst1.mk fun s_ hs_ => ?_; (try simp only [List.take_length, List.drop_zero, ← List.map_take, ← List.map_drop] at hs_); subst hs_)); refine wh ?_)); refine And.intro ?_ rfl; exact Eq.refl _))) | refine GuardC.part ?_ | (refine needO.mk ?_ ?_; focus (refine wh ?_; (repeat ((refine need.mk ?_ ?_; focus (first | with_reducible exact fun h => h | with_reducible exact not_of_false | exact fun _ => rfl | (intro h_; simp [h_]; done) | (intro h_; simp_all; done))); refine wh ?_)); exact trivial)) | with_reducible refine need.mk (fun h => h) ?_ | with_reducible refine need.mk not_of_false ?_ | (apply RowAt.mk; (case' hl => (repeat (first | exact .here _ _ _ | apply Look.there | exact Look.fam (by assumption) _)))) | refine Fits.ok (by omega) (by omega) ?_ | (refine need.mk ?_ ?_; focus (first | omega | exact wkMem.skip wkMem.rfl' | rfl | (simp; done) | (simp [cellsB, PV.flat, cellB]; done) | (simp <;> omega) | (simp only [true_and, and_true, Bool.true_and, Bool.and_true, Bool.not_true, Bool.not_false, Bool.and_eq_true, Bool.not_eq_true, Bool.not_eq_false, Bool.or_eq_true, Bool.not_eq_true', Bool.not_eq_false', decide_eq_true_eq, decide_eq_false_iff_not, Decidable.not_not, ne_eq, beq_iff_eq]; omega) | (rw [Bool.eq_false_iff]; simp only [true_and, and_true, Bool.true_and, Bool.and_true, Bool.not_true, Bool.not_false, Bool.and_eq_true, Bool.not_eq_true, Bool.not_eq_false, Bool.or_eq_true, Bool.not_eq_true', Bool.not_eq_false', decide_eq_true_eq, decide_eq_false_iff_not, Decidable.not_not, ne_eq, beq_iff_eq]; omega))) | (refine Alt.a ?_ ?_; focus (first | omega | exact wkMem.skip wkMem.rfl' | rfl | (simp; done) | (simp [cellsB, PV.flat, cellB]; done) | (simp <;> omega) | (simp only [true_and, and_true, Bool.true_and, Bool.and_true, Bool.not_true, Bool.not_false, Bool.and_eq_true, Bool.not_eq_true, Bool.not_eq_false, Bool.or_eq_true, Bool.not_eq_true', Bool.not_eq_false', decide_eq_true_eq, decide_eq_false_iff_not, Decidable.not_not, ne_eq, beq_iff_eq]; omega) | (rw [Bool.eq_false_iff]; simp only [true_and, and_true, Bool.true_and, Bool.and_true, Bool.not_true, Bool.not_false, Bool.and_eq_true, Bool.not_eq_true, Bool.not_eq_false, Bool.or_eq_true, Bool.not_eq_true', Bool.not_eq_false', decide_eq_true_eq, decide_eq_false_iff_not, Decidable.not_not, ne_eq, beq_iff_eq]; omega))) | refine at_known (by assumption) ?_ | (refine InsAt.new ?_; refine wh ?_; apply MapAt.mk; (case' hl => (repeat (first | exact .here _ _ _ | apply Look.there)))) | refine Nat1.o ?_ | refine Lst1.m ?_ | refine ek_ ?_ | ((first | (refine brec_t2 ?_ ?_; focus (first | (simp only [true_and, and_true, Bool.true_and, Bool.and_true, Bool.not_true, Bool.not_false, Bool.and_eq_true, Bool.not_eq_true, Bool.not_eq_false, Bool.or_eq_true, Bool.not_eq_true', Bool.not_eq_false', decide_eq_true_eq, decide_eq_false_iff_not, Decidable.not_not, ne_eq, beq_iff_eq]; omega) | (simp_all; done))) | (refine brec_f2 ?_ ?_; focus (first | (rw [Bool.eq_false_iff]; simp only [true_and, and_true, Bool.true_and, Bool.and_true, Bool.not_true, Bool.not_false, Bool.and_eq_true, Bool.not_eq_true, Bool.not_eq_false, Bool.or_eq_true, Bool.not_eq_true', Bool.not_eq_false', decide_eq_true_eq, decide_eq_false_iff_not, Decidable.not_not, ne_eq, beq_iff_eq]; omega) | (simp_all; done)))); intro hd_; (try rw [hd_]); clear hd_)); refine wh ?_)); exact Hide.out hq_)) : p := h ⟨hq⟩
end Go.Eng.YtkenlcaifhffoaaDoor
end
