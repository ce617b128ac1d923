/- Texts put together: Dsk22. -/
import Derived.Test.YtphoefglfbifdaaDoorMK15
import Derived.Test.YtphoefglfbifdaaDoorMW14
import Derived.Test.YtphoefglfbifdaaDoorMW6
import Derived.Test.YtphoefglfbifdaaDoorMK16
/- A desk: the last rune again. The law PutAgain. -/
section
namespace Go.Eng.YtphoefglfbifdaaDoor
open Go Go.Eng Go.Proofs
variable (W : World)
set_option linter.unusedSimpArgs false
set_option maxRecDepth 100000
set_option linter.unusedVariables false
set_option maxHeartbeats 8000000
def againW (p : Wk) : Wk := printW p p.1.last
def againN (n : Int) : Nat := (min (max n 1) 7200).toNat
theorem feedW_last (p : Wk) : (feedW p).1.last = p.1.last := by
  unfold feedW; split <;> rfl
theorem again_last (p : Wk) : (againW p).1.last = p.1.last := by
  have h1 : (beforeW p (widthL p.1.last)).1.last = p.1.last := by
    unfold beforeW; split
    · exact feedW_last _
    · rfl
  unfold againW printW; split
  · rfl
  · unfold afterW; split
    · exact h1
    · show (behind _ _).last = _
      unfold behind; split <;> rfl
theorem again_none {p : Wk} (h : p.1.last = 0) : againW p = p := by
  unfold againW printW
  rw [if_pos (.inl (by rw [h]; exact w0))]
theorem again_nones (n : Nat) : ∀ {p : Wk}, p.1.last = 0 → iterF againW n p = p := by
  induction n with
  | zero => intro p _; rfl
  | succ n ih =>
    intro p h
    show iterF againW n (againW p) = p
    rw [again_none h]
    exact ih h
theorem again_right {p : Wk} {w h : Nat} (f : WkR p w h) : WkR (againW p) w h := printW_right f f.ok.last
theorem agains_right {w h : Nat} : ∀ (n : Nat) {p : Wk}, WkR p w h → WkR (iterF againW n p) w h
  | 0, _, f => f
  | n + 1, _, f => agains_right n (again_right f)
theorem agains_g : ∀ (n : Nat) (p : Wk), (iterF againW n p).1.g = p.1.g
  | 0, _ => rfl
  | n + 1, p => (agains_g n (againW p)).trans (printW_g p _)
theorem agains_keep : ∀ (n : Nat) (p : Wk), keepS (iterF againW n p).1 = keepS p.1
  | 0, _ => rfl
  | n + 1, p => (agains_keep n (againW p)).trans (printW_keep p _)
/-- What a block of a screen is, whatever its fields. -/
theorem again1_ok (b bc bn : Nat) (tv : PV) (p : Wk) {w h : Nat} (hk : WkR p w h) (bg : Nat) (pre : List PV) (hp : pre = [] ∨ p.2.2 ≠ []) (n : Int) :
    ACalls Tryd.prog W 38 [.bref b 0, .bref bn 0] (wkM b bc (h * w) tv bg pre p ++ [numB bn n])
      (Gives (fun _ : Nat × List PV => .tup []) (fun x => wkM b bc (h * w) tv x.1 x.2 (iterF againW (againN n) p) ++ [numB bn n]) (fun x => x.2 = [] ∨ (iterF againW (againN n) p).2.2 ≠ [])) := by
  have hpr := fun (p' : Wk) (f' : WkR p' w h) (bg' : Nat) (pre' : List PV) (hp' : pre' = [] ∨ p'.2.2 ≠ []) => printW_ok W b bc tv p' f' _ f'.ok.last bg' pre' hp'
  obtain ⟨K, hK⟩ : ∃ K, K = againN n := ⟨_, rfl⟩
  have hK2 : (K : Int) = min (max n 1) 7200 := by rw [hK, againN]; omega
  rw [← hK]
  generalize hP : iterF againW K p = P
  refine acalls_of_vc (drawOk W) Tryd.func38 rfl (by decide) (by decide) rfl ?_
  (refine g0_ ?_; repeat ((first | refine n1_ fun b_ => ?_ | refine n2_ fun b_ => ?_); refine g0_ ?_))
  simp only [ifmin, ifmax]
  rw [← hK2]
  refine' loopI (α := Nat × Wk × Nat × (List PV)) (fun (i, p', bg', pre') => [(6, .int .i64 i)]) [(0, _), (5, _)] (fun (i, p', bg', pre') => [scrB b bc (h * w) tv (.rsl bg' 1 pre'.length p'.2.2.length) p'.1, ⟨bc, .row 4 (p'.2.1.flatten.map encCell) 0⟩, gonB bg' pre' p'.2.2, ⟨bn, .row 1 [.int .i64 n] 0⟩]) (fun (i, p', bg', pre') => WkR p' w h ∧ i ≤ K ∧ iterF againW (K - i) p' = P ∧ (pre' = [] ∨ p'.2.2 ≠ [])) (fun (i, p', bg', pre') => K - i) (0, p, bg, pre) ?_ ?_
  · exact ⟨hk, Nat.zero_le _, hP, hp⟩
  rintro ⟨i, p', bg', pre'⟩ ⟨f', hi, hit, hp'⟩
  (refine g0_ ?_; repeat ((first | refine n1_ fun b_ => ?_ | refine n2_ fun b_ => ?_); refine g0_ ?_))
  refine brec ?_; intro c_ h1; (try rw [h1]); cases c_ <;> replace h1 := nm_ h1
  · have e : i = K := by omega
    rw [e, Nat.sub_self] at hit
    subst hit
    (refine g0_ ?_; repeat ((first | refine n1_ fun b_ => ?_ | refine n2_ fun b_ => ?_); refine g0_ ?_))
    exact ⟨(bg', pre'), hp', rfl, by (first | exact ⟨_, .refl _⟩ | exact wkMem.rfl' | exact ⟨_, .swap _ _ _⟩ | (repeat (first | exact wkMem.nil _ | exact wkMem.rfl' | exact wk_snoc _ _ _ | exact wk_fam (by assumption) _ _ _ | exact wk_famN (by assumption) _ _ _ | (apply wkMem.cons; (case' hl => (repeat (first | exact .here _ _ _ | apply Look.there)))) | apply wkMem.skip)))⟩
  · have hiK : i < K := by omega
    rw [show K - i = (K - (i + 1)) + 1 by omega] at hit
    by_cases h0 : p'.1.last = 0
    · rw [show iterF againW (K - (i + 1) + 1) p' = iterF againW (K - (i + 1)) (againW p') from rfl, again_none h0] at hit
      (refine g1_ ?_; repeat ((first | refine n1_ fun b_ => ?_ | refine n2_ fun b_ => ?_); refine g1_ ?_))
      refine nx_ (i + 1, p', bg', pre') ?_ ?_
      · exact ⟨f', by omega, hit, hp'⟩
      · show K - (i + 1) < K - i
        omega
    · have h1 := hpr p' f' bg' pre' hp'
      (refine g1_ ?_; repeat ((first | refine n1_ fun b_ => ?_ | refine n2_ fun b_ => ?_); refine g1_ ?_))
      refine ACalls.lend h1 (r := [⟨bn, .row 1 [.int .i64 n] 0⟩]) (.refl _) ?_
      rintro ⟨bg2, pre2⟩ hp2
      (refine g0_ ?_; repeat ((first | refine n1_ fun b_ => ?_ | refine n2_ fun b_ => ?_); refine g0_ ?_))
      refine nx_ (i + 1, againW p', bg2, pre2) ?_ ?_
      · exact ⟨again_right f', by omega, hit, hp2⟩
      · show K - (i + 1) < K - i
        omega
def againS (s : Scr) (n : Int) : Scr := putW (iterF againW (againN n) (s, s.g.rows, s.gone))
theorem putAgainP_ok (hT : Tabs W) (s : Scr) (hok : s.ok) (n : Int) : Pure Tryd.prog W 15 [encScr s, .int .i64 n] (.tup [encScr (moveE s (againS s n)).1, .int .i64 (moveE s (againS s n)).2]) := by
  by_cases h0 : checkS s = 0
  · obtain ⟨w, h, hr⟩ := right_of h0
    have hk := wkR_of ((check_iff s).1 h0) hok hr.fit
    have hk2 := agains_right (againN n) hk
    rw [moveE, if_pos h0]
    refine Pure.of (acalls_of_vc (drawOk W) Tryd.func15 rfl (by decide) (by decide) rfl ?_)
    (refine g0_ ?_; repeat ((first | refine n1_ fun b_ => ?_ | refine n2_ fun b_ => ?_); refine g0_ ?_))
    rename_i b1
    refine ACalls.lendF (change_rowsL W hT s hok h0 hr 38 [.bref b1 0] [numB b1 n] [numB b1 n] (iterF againW (againN n) (s, s.g.rows, s.gone)).1 (iterF againW (againN n) (s, s.g.rows, s.gone)).2.1 (iterF againW (againN n) (s, s.g.rows, s.gone)).2.2 (congrArg (fun k => k.2.2.2.2.2) (agains_keep (againN n) (s, s.g.rows, s.gone))) hk2.rows.ok.flat ?_) (.swap _ _ _) ?_
    · intro b bc tv bg
      exact (again1_ok W b bc b1 tv (s, s.g.rows, s.gone) hk bg [] (.inl rfl) n).mono fun v σ ⟨x, hx, hv, hm⟩ => ⟨x, trivial, hv, hm⟩
    · (refine g0_ ?_; repeat ((first | refine n1_ fun b_ => ?_ | refine n2_ fun b_ => ?_); refine g0_ ?_))
      exact .refl _
  · have hb := change_bad W hT s hok h0
    rw [moveE, if_neg h0]
    refine Pure.of (acalls_of_vc (drawOk W) Tryd.func15 rfl (by decide) (by decide) rfl ?_)
    (refine g0_ ?_; repeat ((first | refine n1_ fun b_ => ?_ | refine n2_ fun b_ => ?_); refine g0_ ?_))
    rename_i b1
    refine (hb 38 [.bref b1 0]).use ?_
    (refine g0_ ?_; repeat ((first | refine n1_ fun b_ => ?_ | refine n2_ fun b_ => ?_); refine g0_ ?_))
    exact .refl _
theorem actAgain_ok (d : Nat) (cv tv : PV) (p : Wk) (x : RolS) {w h : Nat} (hk : WkR p w h) (hx : DkOk x p.2.1 p.2.2) (n m : Int) :
    ACalls Tryd.prog W 48 (actArgs [97, 103, 97, 105, 110] n m d) (rolX d cv tv x p.1)
      (Gives (fun _ : RolS => .tup []) (fun x' => rolX d cv tv x' (iterF againW (againN n) p).1) (fun x' => DkOk x' (iterF againW (againN n) p).2.1 (iterF againW (againN n) p).2.2)) := by
  have hpr := fun (p' : Wk) (f' : WkR p' w h) (x' : RolS) (hx' : DkOk x' p'.2.1 p'.2.2) => dprint_ok W d cv tv p' x' f' _ f'.ok.last hx'
  obtain ⟨K, hK⟩ : ∃ K, K = againN n := ⟨_, rfl⟩
  have hK2 : (K : Int) = min (max n 1) 7200 := by rw [hK, againN]; omega
  rw [← hK]
  generalize hP : iterF againW K p = P
  refine acalls_of_vc (DM_ok (by decide)) Tryd.func48 rfl (by decide) (by decide) rfl ?_
  (refine g0_ ?_; repeat ((first | refine n1_ fun b_ => ?_ | refine n2_ fun b_ => ?_); refine g0_ ?_))
  refine' loopI (α := Nat × Wk × RolS) (fun (i, p', x') => [(26, .int .i64 i)]) [(0, _), (2, _)] (fun (i, p', x') => rolX d cv tv x' p'.1) (fun (i, p', x') => WkR p' w h ∧ i ≤ K ∧ iterF againW (K - i) p' = P ∧ DkOk x' p'.2.1 p'.2.2) (fun (i, p', x') => K - i) (0, p, x) ?_ ?_
  · exact ⟨hk, Nat.zero_le _, hP, hx⟩
  rintro ⟨i, p', x'⟩ ⟨f', hi, hit, hx'⟩
  (refine g0_ ?_; repeat ((first | refine n1_ fun b_ => ?_ | refine n2_ fun b_ => ?_); refine g0_ ?_))
  simp only [ifmax]
  refine brec ?_; intro c_ h2; (try rw [h2]); cases c_ <;> replace h2 := nm_ h2
  · have hP2 : p' = P := by
      by_cases h1 : i = K
      · rw [h1, Nat.sub_self] at hit
        exact hit
      · by_cases h0 : p'.1.last = 0
        · rw [again_nones _ h0] at hit
          exact hit
        · refine absurd ?_ h2
          exact ⟨⟨by omega, by omega⟩, h0⟩
    subst hP2
    (refine g0_ ?_; repeat ((first | refine n1_ fun b_ => ?_ | refine n2_ fun b_ => ?_); refine g0_ ?_))
    exact ⟨x', hx', rfl, wkMem.rfl'⟩
  · obtain ⟨⟨h3, h4⟩, h0⟩ : ((i : Int) < max n 1 ∧ (i : Int) < 7200) ∧ ¬ p'.1.last = 0 := h2
    have hiK : i < K := by omega
    rw [show K - i = (K - (i + 1)) + 1 by omega] at hit
    have h1 := hpr p' f' x' hx'
    (refine g0_ ?_; repeat ((first | refine n1_ fun b_ => ?_ | refine n2_ fun b_ => ?_); refine g0_ ?_))
    refine ACalls.lendW h1 (ρ := []) (List.Perm.of_eq (List.append_nil _).symm) ?_
    rintro v σ1 ⟨x2, hx2, rfl, hm⟩
    refine ⟨_, (List.append_nil σ1).symm ▸ hm, ?_⟩
    (refine g0_ ?_; repeat ((first | refine n1_ fun b_ => ?_ | refine n2_ fun b_ => ?_); refine g0_ ?_))
    refine nx_ (i + 1, againW p', x2) ?_ ?_ (hM := wkMem.rfl')
    · exact ⟨again_right f', by omega, hit, hx2⟩
    · show K - (i + 1) < K - i
      omega
theorem againOp_ok (s : Scr) (hs : s.ok) (n m : Int) : (moveE s (againS s n)).1.ok ∧ ActOp W s (moveE s (againS s n)).1 (moveE s (againS s n)).2 [97, 103, 97, 105, 110] n m := by
  refine ⟨moveE_ok hs fun h0 => ?_, ?_⟩
  · obtain ⟨w, h, hr⟩ := right_of h0
    exact (agains_right (againN n) (wkR_of ((check_iff s).1 h0) hs hr.fit)).okS
  · refine deskOp_rol W (s1 := (iterF againW (againN n) (s, s.g.rows, s.gone)).1) (L := (iterF againW (againN n) (s, s.g.rows, s.gone)).2.1) (G := (iterF againW (againN n) (s, s.g.rows, s.gone)).2.2) _ _ _ (congrArg (fun k => k.2.2.2.2.2) (agains_keep (againN n) (s, s.g.rows, s.gone))) (congrArg Grid.w (agains_g _ _)) (congrArg Grid.h (agains_g _ _)) (fun h0 w h hr => (agains_right (againN n) (wkR_of ((check_iff s).1 h0) hs hr.fit)).rows.ok) fun h0 w h hr d cv tv x hx => ?_
    rw [List.append_nil]
    have := actAgain_ok W d cv tv (s, s.g.rows, s.gone) x (wkR_of ((check_iff s).1 h0) hs hr.fit) hx n m
    exact this.mono fun v σ ⟨x', h1, h2, h3⟩ => ⟨x', h1, h2, by (show wkMem σ (rolX d cv tv x' _ ++ [])); rw [List.append_nil]; exact h3⟩
theorem putAgain_ok (hT : Tabs W) (s : Scr) (hs : s.ok) (n : Int) (hn : -9223372036854775808 ≤ n ∧ n ≤ 9223372036854775807) :
    Pure Tryd.prog W 4 [encScr s, .int .i64 n] (.bool true) := by
  have i1 := againOp_ok W s hs n 0
  have h1 := one_ok W hT s hs 15 _ _ i1.1 [97, 103, 97, 105, 110] n (putAgainP_ok W hT s hs n) i1.2
  clear i1
  refine Pure.of (acalls_of_vc (drawOk W) Tryd.func4 rfl (by decide) (by decide) rfl ?_)
  (refine g0_ ?_; repeat ((first | refine n1_ fun b_ => ?_ | refine n2_ fun b_ => ?_); refine g0_ ?_))
  refine (h1).use ?_; (refine g0_ ?_; repeat ((first | refine n1_ fun b_ => ?_ | refine n2_ fun b_ => ?_); refine g0_ ?_))
  exact .refl _
end Go.Eng.YtphoefglfbifdaaDoor
end
