/- Texts put together: ScrT, ScrU. -/
import Derived.Test.YtphoefglfbifdaaDoorMW12
import Derived.Test.YtphoefglfbifdaaDoorMW13
/- Texts printed on a screen: package put's Text. -/
section
namespace Go.Eng.YtphoefglfbifdaaDoor
open Go Go.Eng Go.Proofs
variable (W : World)
set_option linter.unusedSimpArgs false
set_option maxRecDepth 100000
set_option linter.unusedVariables false
set_option maxHeartbeats 8000000
/-- A text printed, rune by rune. -/
def printT (p : Wk) (l : List (Nat × Nat)) : Wk := l.foldl (fun p q => printW p (q.1 : Int)) p
theorem printT_right {w h : Nat} : ∀ (l : List (Nat × Nat)) {p : Wk}, WkR p w h → (∀ q ∈ l, i32ok (q.1 : Int)) → WkR (printT p l) w h
  | [], _, f, _ => f
  | q :: l, _, f, hl => printT_right l (printW_right f (hl q (List.mem_cons_self))) fun q' hq => hl q' (List.mem_cons_of_mem _ hq)
theorem dec_i32 (t : List UInt8) : i32ok ((dec t).1 : Int) := by
  have := dec_range t
  unfold i32ok; omega
theorem runes_i32 (t : List UInt8) : ∀ q ∈ runes t, i32ok (q.1 : Int) := by
  refine runes_ind (Q := fun t => ∀ q ∈ runes t, i32ok (q.1 : Int)) (by rw [runes_nil]; intro q hq; cases hq) (fun s h ih => ?_) t
  rw [runes_cons h]
  intro q hq
  rcases List.mem_cons.1 hq with rfl | hq
  · exact dec_i32 s
  · exact ih q hq
theorem text1_ok (hT : Tabs W) (b bc : Nat) (tv : PV) (p : Wk) {w h : Nat} (hk : WkR p w h) (bg : Nat) (pre : List PV) (hp : pre = [] ∨ p.2.2 ≠ []) (bt : Nat) (t : List UInt8) (ht : t.length ≤ 4000) :
    ACalls Tryd.prog W 24 [.bref b 0, .bref bt 0] (wkM b bc (h * w) tv bg pre p ++ [strB bt t])
      (Gives (fun _ : Nat × List PV => .tup []) (fun x => wkM b bc (h * w) tv x.1 x.2 (printT p (runes t)) ++ [strB bt []]) (fun x => x.2 = [] ∨ (printT p (runes t)).2.2 ≠ [])) := by
  have hpr := fun (p' : Wk) (f' : WkR p' w h) (r : Int) (hr : i32ok r) (bg' : Nat) (pre' : List PV) (hp' : pre' = [] ∨ p'.2.2 ≠ []) => printW_ok W b bc tv p' f' r hr bg' pre' hp'
  generalize hP : printT p (runes t) = P
  refine acalls_of_vc (drawOk W) Tryd.func24 rfl (by decide) (by decide) rfl ?_
  refine g0_ ?_
  refine' loopI (α := Wk × (List UInt8) × Nat × (List PV)) (fun (p', r, bg', pre') => []) [(0, _), (1, _)] (fun (p', r, bg', pre') => [scrB b bc (h * w) tv (.rsl bg' 1 pre'.length p'.2.2.length) p'.1, ⟨bc, .row 4 (p'.2.1.flatten.map encCell) 0⟩, gonB bg' pre' p'.2.2, ⟨bt, .row 1 [.str r] 0⟩]) (fun (p', r, bg', pre') => WkR p' w h ∧ printT p' (runes r) = P ∧ (pre' = [] ∨ p'.2.2 ≠ []) ∧ r.length ≤ 4000) (fun (p', r, bg', pre') => r.length) (p, t, bg, pre) ?_ ?_
  · exact ⟨hk, hP, hp, ht⟩
  rintro ⟨p', r, bg', pre'⟩ ⟨f', hit, hp', hrl⟩
  refine g0_ ?_
  refine brec ?_; intro c_ hr; (try rw [hr]); cases c_ <;> replace hr := nm_ hr
  · subst hr
    rw [runes_nil] at hit
    subst hit
    refine g0_ ?_
    exact ⟨(bg', pre'), hp', rfl, by (first | exact ⟨_, .refl _⟩ | exact wkMem.rfl' | exact ⟨_, .swap _ _ _⟩ | (repeat (first | exact wkMem.nil _ | exact wkMem.rfl' | exact wk_snoc _ _ _ | exact wk_fam (by assumption) _ _ _ | exact wk_famN (by assumption) _ _ _ | (apply wkMem.cons; (case' hl => (repeat (first | exact .here _ _ _ | apply Look.there)))) | apply wkMem.skip)))⟩
  · have hd := dec_le r
    have hps := dec_pos r hr
    have hl0 : 0 < r.length := List.length_pos_iff.2 hr
    have hn2 := nextL_of hr
    have h1 := hpr p' f' _ (dec_i32 r) bg' pre' hp'
    have f2 := printW_right f' (dec_i32 r)
    refine g0_ ?_
    refine (next_ok W hT r).use ?_; refine g0_ ?_
    rw [hn2]
    refine g0_ ?_
    refine ACalls.lend h1 (r := [⟨bt, .row 1 [.str (r.drop (dec r).2)] 0⟩]) (List.perm_append_comm (l₁ := [_]) (l₂ := [_, _, _])) ?_
    rintro ⟨bg2, pre2⟩ hp2
    refine g0_ ?_
    refine nx_ (printW p' (dec r).1, r.drop (dec r).2, bg2, pre2) ?_ ?_
    · refine ⟨f2, ?_, hp2, by ((try dsimp only); (try simp only [List.length_drop, List.length_take, List.length_append, List.length_cons, List.length_nil, List.length_map] at *); omega)⟩
      rw [← hit, runes_cons hr]; rfl
    · ((try dsimp only); (try simp only [List.length_drop, List.length_take, List.length_append, List.length_cons, List.length_nil, List.length_map] at *); omega)
end Go.Eng.YtphoefglfbifdaaDoor
end

/- Texts printed on a screen, looks: the law ModeKeeps. -/
section
namespace Go.Eng.YtphoefglfbifdaaDoor
open Go Go.Eng Go.Proofs
variable (W : World)
set_option linter.unusedSimpArgs false
set_option maxRecDepth 100000
set_option linter.unusedVariables false
set_option maxHeartbeats 8000000
theorem change_rowsL (hT : Tabs W) (s : Scr) (hok : s.ok) (hb : checkS s = 0) {w h : Nat} (hr : s.right w h) (g : Nat) (cap : List PV) (τ τ' : Mem) (s1 : Scr) (L G : List (List Cell)) (hs1 : s1.tabs = s.tabs) (hL : L.flatten.length = h * w)
    (hg : ∀ b bc tv bg, ACalls Tryd.prog W g (.bref b 0 :: cap) (scrB b bc (h * w) tv (.rsl bg 1 0 s.gone.length) s :: ⟨bc, .row 4 (s.g.rows.flatten.map encCell) 0⟩ :: gonB bg [] s.gone :: τ)
      (Gives (fun _ : Nat × List PV => .tup []) (fun x => scrB b bc (h * w) tv (.rsl x.1 1 x.2.length G.length) s1 :: ⟨bc, .row 4 (L.flatten.map encCell) 0⟩ :: gonB x.1 x.2 G :: τ') (fun _ => True))) :
    ACalls Tryd.prog W 23 [encScr s, .fn g cap] τ fun v σ' => Frz σ' v (.tup [encScr (s1.put L G), .int .i64 0]) := by
  refine change_ok W hT s hok hb g cap τ (s1.put L G) (fun b bc bt bg => ?_)
  have hx := hg b bc (.rsl bt 1 0 s.tabs.length) bg
  rw [hr.fit.flat, show h * w = s.g.cs.length by rw [hr.fit.len, Nat.mul_comm]] at hx
  refine ACalls.lend hx (r := [⟨bt, .row 1 (s.tabs.map PV.bool) 0⟩]) ?_ ?_
  · refine List.Perm.cons _ (List.Perm.cons _ ?_)
    exact List.perm_append_comm (l₁ := [_]) (l₂ := gonB bg [] s.gone :: τ)
  rintro ⟨bg', pre⟩ -
  refine ⟨rfl, ?_⟩
  have hd := done_rows b bc bt bg' pre s1 L G s.g.cs.length (by rw [hL, hr.fit.len, Nat.mul_comm]) τ'
  obtain ⟨c, n1, t, n2, gv, ρ, hp, h2, h3, h4, h5⟩ := hd
  refine ⟨c, n1, t, n2, gv, ρ, List.Perm.trans ?_ hp, h2, h3, h4, h5⟩
  rw [hs1]
  refine List.Perm.cons _ (List.Perm.cons _ (List.Perm.cons _ ?_))
  exact List.perm_append_comm (l₁ := τ') (l₂ := [_])
/-- What printing keeps. -/
def keepS (s : Scr) : Int × Int × Style × Int × Int × List Bool := (s.kx, s.ky, s.ks, s.km, s.modes, s.tabs)
theorem feedW_keep (p : Wk) : keepS (feedW p).1 = keepS p.1 := by
  unfold feedW; split <;> rfl
theorem beforeW_keep (p : Wk) (k : Int) : keepS (beforeW p k).1 = keepS p.1 := by
  unfold beforeW; split
  · exact feedW_keep _
  · rfl
theorem afterW_keep (q : Wk) (r : Int) : keepS (afterW q r).1 = keepS q.1 := by
  unfold afterW; split
  · rfl
  · show keepS (behind q.1 r) = _
    unfold behind; split <;> rfl
theorem printW_keep (p : Wk) (r : Int) : keepS (printW p r).1 = keepS p.1 := by
  unfold printW; split
  · rfl
  · rw [afterW_keep, beforeW_keep]
theorem printT_keep : ∀ (l : List (Nat × Nat)) (p : Wk), keepS (printT p l).1 = keepS p.1
  | [], _ => rfl
  | q :: l, p => (printT_keep l (printW p q.1)).trans (printW_keep p q.1)
def putW (p : Wk) : Scr := p.1.put p.2.1 p.2.2
def textS (s : Scr) (t : List UInt8) : Scr := putW (printT (s, s.g.rows, s.gone) (runes t))
theorem textS_keep (s : Scr) (t : List UInt8) : keepS (textS s t) = keepS s := printT_keep (runes t) (s, s.g.rows, s.gone)
theorem textS_R {s : Scr} (h0 : checkS s = 0) (ho : s.ok) (t : List UInt8) : checkS (textS s t) = 0 ∧ (textS s t).ok ∧ (textS s t).g.w = s.g.w ∧ (textS s t).g.h = s.g.h := by
  obtain ⟨w, h, hr⟩ := right_of h0
  have hk := printT_right (runes t) (wkR_of ((check_iff s).1 h0) ho hr.fit) (runes_i32 t)
  exact ⟨(check_iff _).2 hk.right, hk.okS, hk.ew.trans hr.fit.ew.symm, hk.eh.trans hr.fit.eh.symm⟩
theorem putText_ok (hT : Tabs W) (s : Scr) (hok : s.ok) (t : List UInt8) (ht : t.length ≤ 4000) : Pure Tryd.prog W 7 [encScr s, .str t] (.tup [encScr (moveE s (textS s t)).1, .int .i64 (moveE s (textS s t)).2]) := by
  by_cases h0 : checkS s = 0
  · obtain ⟨w, h, hr⟩ := right_of h0
    have hk := wkR_of ((check_iff s).1 h0) hok hr.fit
    have hk2 := printT_right (runes t) hk (runes_i32 t)
    rw [moveE, if_pos h0]
    refine Pure.of (acalls_of_vc (drawOk W) Tryd.func7 rfl (by decide) (by decide) rfl ?_)
    (refine g0_ ?_; repeat ((first | refine n1_ fun b_ => ?_ | refine n2_ fun b_ => ?_ | refine n3_ fun b_ pre_ => ?_ | refine Nat1.mk fun q_ hq_ => ?_ | refine em_ fun x_ hx_ => ?_ | refine Elem1.mk fun e_ he_ => ?_); refine g0_ ?_))
    (refine g1_ ?_; repeat ((first | refine n1_ fun b_ => ?_ | refine n2_ fun b_ => ?_ | refine n3_ fun b_ pre_ => ?_ | refine Nat1.mk fun q_ hq_ => ?_ | refine em_ fun x_ hx_ => ?_ | refine Elem1.mk fun e_ he_ => ?_); refine g1_ ?_))
    rename_i b1 b2
    refine ACalls.lendF (change_rowsL W hT s hok h0 hr 24 [.bref b2 0] [strB b2 t] [strB b2 []] (printT (s, s.g.rows, s.gone) (runes t)).1 (printT (s, s.g.rows, s.gone) (runes t)).2.1 (printT (s, s.g.rows, s.gone) (runes t)).2.2 (congrArg (fun k => k.2.2.2.2.2) (printT_keep (runes t) (s, s.g.rows, s.gone))) hk2.rows.ok.flat ?_) (.swap _ _ _) ?_
    · intro b bc tv bg
      exact (text1_ok W hT b bc tv (s, s.g.rows, s.gone) hk bg [] (.inl rfl) b2 t ht).mono fun v σ ⟨x, hx, hv, hm⟩ => ⟨x, trivial, hv, hm⟩
    · (refine g0_ ?_; repeat ((first | refine n1_ fun b_ => ?_ | refine n2_ fun b_ => ?_ | refine n3_ fun b_ pre_ => ?_ | refine Nat1.mk fun q_ hq_ => ?_ | refine em_ fun x_ hx_ => ?_ | refine Elem1.mk fun e_ he_ => ?_); refine g0_ ?_))
      exact .refl _
  · have hb := change_bad W hT s hok h0
    rw [moveE, if_neg h0]
    refine Pure.of (acalls_of_vc (drawOk W) Tryd.func7 rfl (by decide) (by decide) rfl ?_)
    (refine g0_ ?_; repeat ((first | refine n1_ fun b_ => ?_ | refine n2_ fun b_ => ?_ | refine n3_ fun b_ pre_ => ?_ | refine Nat1.mk fun q_ hq_ => ?_ | refine em_ fun x_ hx_ => ?_ | refine Elem1.mk fun e_ he_ => ?_); refine g0_ ?_))
    (refine g1_ ?_; repeat ((first | refine n1_ fun b_ => ?_ | refine n2_ fun b_ => ?_ | refine n3_ fun b_ pre_ => ?_ | refine Nat1.mk fun q_ hq_ => ?_ | refine em_ fun x_ hx_ => ?_ | refine Elem1.mk fun e_ he_ => ?_); refine g1_ ?_))
    rename_i b1 b2
    refine (hb 24 [.bref b2 0]).use ?_
    (refine g0_ ?_; repeat ((first | refine n1_ fun b_ => ?_ | refine n2_ fun b_ => ?_ | refine n3_ fun b_ pre_ => ?_ | refine Nat1.mk fun q_ hq_ => ?_ | refine em_ fun x_ hx_ => ?_ | refine Elem1.mk fun e_ he_ => ?_); refine g0_ ?_))
    exact .refl _
end Go.Eng.YtphoefglfbifdaaDoor
end
