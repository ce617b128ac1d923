/- Texts put together: DskPG, Dsk20. -/
import Derived.Test.YtphoefglfbifdaaDoorMW7
import Derived.Test.YtphoefglfbifdaaDoorMK15
import Derived.Test.YtphoefglfbifdaaDoorMW14
import Derived.Test.YtphoefglfbifdaaDoorMW19
/- What printing leaves as it is: plain. -/
section
namespace Go.Eng.YtphoefglfbifdaaDoor
open Go Go.Eng Go.Proofs
theorem feedW_g (p : Wk) : (feedW p).1.g = p.1.g := by
  unfold feedW; split <;> rfl
theorem printW_g (p : Wk) (r : Int) : (printW p r).1.g = p.1.g := by
  have h1 : (beforeW p (widthL r)).1.g = p.1.g := by
    unfold beforeW; split
    · exact feedW_g _
    · rfl
  unfold printW; split
  · rfl
  · rw [← h1]
    unfold afterW; split
    · rfl
    · show (behind _ r).g = _
      unfold behind; split <;> rfl
end Go.Eng.YtphoefglfbifdaaDoor
end

/- The law PutText. -/
section
namespace Go.Eng.YtphoefglfbifdaaDoor
open Go Go.Eng Go.Proofs
variable (W : World)
set_option linter.unusedSimpArgs false
set_option maxRecDepth 100000
set_option linter.unusedVariables false
set_option maxHeartbeats 8000000
theorem printT_g : ∀ (l : List (Nat × Nat)) (p : Wk), (printT p l).1.g = p.1.g
  | [], _ => rfl
  | q :: l, p => (printT_g l (printW p q.1)).trans (printW_g p q.1)
theorem text2_ok (d : Nat) (cv tv : PV) (p : Wk) (x : RolS) {w h : Nat} (hk : WkR p w h) (hx : DkOk x p.2.1 p.2.2) (bt : Nat) (t : List UInt8) (ht : t.length ≤ 4000) :
    ACalls Tryd.prog W 12 [.bref d 0, .bref bt 0] (rolX d cv tv x p.1 ++ [strB bt t])
      (Gives (fun _ : RolS => .tup []) (fun x' => rolX d cv tv x' (printT p (runes t)).1 ++ [strB bt t]) (fun x' => DkOk x' (printT p (runes t)).2.1 (printT p (runes t)).2.2)) := by
  have hpr := fun (p' : Wk) (f' : WkR p' w h) (r : Int) (hr : i32ok r) (x' : RolS) (hx' : DkOk x' p'.2.1 p'.2.2) => dprint_ok W d cv tv p' x' f' r hr hx'
  generalize hP : printT p (runes t) = P
  refine ACalls.perm (σ := strB bt t :: rolX d cv tv x p.1) ?_ (List.perm_append_comm (l₂ := [_]))
  refine acalls_of_vc (DM_ok (by decide)) Tryd.func12 rfl (by decide) (by decide) rfl ?_
  (refine g0_ ?_; repeat ((first | refine n1_ fun b_ => ?_ | refine n2_ fun b_ => ?_); refine g0_ ?_))
  refine' loopI (α := Nat × Wk × RolS) (fun (pos, p', x') => []) [(0, _), (6, _)] (fun (pos, p', x') => ⟨b_, .iter t pos⟩ :: strB bt t :: rolX d cv tv x' p'.1) (fun (pos, p', x') => WkR p' w h ∧ printT p' (runes (t.drop pos)) = P ∧ DkOk x' p'.2.1 p'.2.2 ∧ pos ≤ t.length) (fun (pos, p', x') => t.length - pos) (0, p, x) ?_ ?_
  · exact ⟨hk, hP, hx, Nat.zero_le _⟩
  rintro ⟨pos, p', x'⟩ ⟨f', hit, hx', hpos⟩
  (refine g0_ ?_; repeat ((first | refine n1_ fun b_ => ?_ | refine n2_ fun b_ => ?_); refine g0_ ?_))
  refine IterAt.mk _ _ _ (by repeat (first | exact .here _ _ _ | apply Look.there)) (fun hl => ?_) (fun hl => ?_)
  · have hne : t.drop pos ≠ [] := by simp; omega
    have hd := dec_le (t.drop pos)
    have hdp := dec_pos (t.drop pos) hne
    rw [List.length_drop] at hd
    rw [runes_cons hne, List.drop_drop] at hit
    have h1 := hpr p' f' _ (dec_i32 (t.drop pos)) x' hx'
    have f2 := printW_right f' (dec_i32 (t.drop pos))
    (refine g0_ ?_; repeat ((first | refine n1_ fun b_ => ?_ | refine n2_ fun b_ => ?_); refine g0_ ?_))
    rw [decode_drop t pos hl]
    refine ACalls.lendW h1 (ρ := [⟨b_, .iter t (pos + (dec (t.drop pos)).2)⟩, strB bt t]) (List.perm_append_comm (l₁ := [_, _])) ?_
    rintro v σ1 ⟨x2, hx2, rfl, hm⟩
    refine ⟨⟨b_, .iter t (pos + (dec (t.drop pos)).2)⟩ :: strB bt t :: σ1, ⟨[], by rw [List.append_nil]; exact List.perm_append_comm (l₂ := [_, _])⟩, ?_⟩
    (refine g0_ ?_; repeat ((first | refine n1_ fun b_ => ?_ | refine n2_ fun b_ => ?_); refine g0_ ?_))
    refine nx_ (pos + (dec (t.drop pos)).2, printW p' (dec (t.drop pos)).1, x2) ?_ ?_ (hM := wkMem.cons (.here _ _ _) (wkMem.cons (.here _ _ _) hm))
    · refine ⟨f2, ?_, hx2, by omega⟩
      rw [← hit]; rfl
    · show t.length - (pos + (dec (t.drop pos)).2) < t.length - pos
      omega
  · have e : t.drop pos = [] := List.drop_eq_nil_of_le (by omega)
    rw [e, runes_nil] at hit
    subst hit
    (refine g0_ ?_; repeat ((first | refine n1_ fun b_ => ?_ | refine n2_ fun b_ => ?_); refine g0_ ?_))
    exact ⟨x', hx', rfl, wkMem.skip ⟨[], by rw [List.append_nil]; exact List.perm_append_comm (l₁ := [_])⟩⟩
theorem text1C_ok (hT : Tabs W) (s : Scr) (hs : s.ok) (t : List UInt8) (ht : t.length ≤ 4000) (bl : Nat) : ACalls Tryd.prog W 11 [encScr s, .bref bl 0] [strB bl t] fun v σ' => ∃ ρ', σ'.Perm ([strB bl t] ++ ρ') ∧ Frz ρ' v (.tup [encScr (moveE s (textS s t)).1, .int .i64 (moveE s (textS s t)).2]) := by
  have h := putText_ok W hT s hs t ht
  refine acalls_of_vc (drawOk W) Tryd.func11 rfl (by decide) (by decide) rfl ?_
  (refine g0_ ?_; repeat ((first | refine n1_ fun b_ => ?_ | refine n2_ fun b_ => ?_); refine g0_ ?_))
  refine (h).use ?_; (refine g0_ ?_; repeat ((first | refine n1_ fun b_ => ?_ | refine n2_ fun b_ => ?_); refine g0_ ?_))
  exact ⟨[_, _], List.perm_append_comm (l₁ := [_, _]) (l₂ := [_]), .refl _⟩
theorem putLong_ok (s : Scr) (t : List UInt8) (ht : 4000 < t.length) : Pure Tryd.prog W 7 [encScr s, .str t] (.tup [encScr Scr.none, .int .i64 2]) := by
  refine Pure.of (acalls_of_vc (drawOk W) Tryd.func7 rfl (by decide) (by decide) rfl ?_)
  (refine g0_ ?_; repeat ((first | refine n1_ fun b_ => ?_ | refine n2_ fun b_ => ?_); refine g0_ ?_))
  (refine g1_ ?_; repeat ((first | refine n1_ fun b_ => ?_ | refine n2_ fun b_ => ?_); refine g1_ ?_))
  exact frz_tup2 (frz_scr (s := Scr.none) (.nils _) (.nils _) (.nils _)) (.refl _)
theorem putTextLaw_ok (hT : Tabs W) (s : Scr) (hs : s.ok) (t : List UInt8) (ht : t.length ≤ 1048576) :
    Pure Tryd.prog W 3 [encScr s, .str t] (.bool true) := by
  by_cases hl : 4000 < t.length
  · have h1 := putLong_ok W s t hl
    have hp := printed_ok W hT
    have hno := noScreen_ok W Scr.none noneS_ok
    rw [show decide (sameP Scr.none Scr.none) = true from decide_eq_true (sameP_rfl _)] at hno
    refine Pure.of (acalls_of_vc (drawOk W) Tryd.func3 rfl (by decide) (by decide) rfl ?_)
    (refine g0_ ?_; repeat ((first | refine n1_ fun b_ => ?_ | refine n2_ fun b_ => ?_); refine g0_ ?_))
    (refine g1_ ?_; repeat ((first | refine n1_ fun b_ => ?_ | refine n2_ fun b_ => ?_); refine g1_ ?_))
    refine (h1).use ?_; (refine g0_ ?_; repeat ((first | refine n1_ fun b_ => ?_ | refine n2_ fun b_ => ?_); refine g0_ ?_))
    (refine g1_ ?_; repeat ((first | refine n1_ fun b_ => ?_ | refine n2_ fun b_ => ?_); refine g1_ ?_))
    refine (hp).use ?_; (refine g0_ ?_; repeat ((first | refine n1_ fun b_ => ?_ | refine n2_ fun b_ => ?_); refine g0_ ?_))
    (refine g1_ ?_; repeat ((first | refine n1_ fun b_ => ?_ | refine n2_ fun b_ => ?_); refine g1_ ?_))
    refine (hno).use ?_; (refine g0_ ?_; repeat ((first | refine n1_ fun b_ => ?_ | refine n2_ fun b_ => ?_); refine g0_ ?_))
    exact .refl _
  · have h1 := fun bl => does_okS W hT s hs 11 [.bref bl 0] 12 [.bref bl 0] [strB bl t] _ _ (moveE_ok hs fun h0 => (textS_R h0 hs t).2.1) (text1C_ok W hT s hs t (by omega) bl)
      (deskOp_rol W (s1 := (printT (s, s.g.rows, s.gone) (runes t)).1) (L := (printT (s, s.g.rows, s.gone) (runes t)).2.1) (G := (printT (s, s.g.rows, s.gone) (runes t)).2.2) _ _ _ (congrArg (fun k => k.2.2.2.2.2) (printT_keep (runes t) (s, s.g.rows, s.gone))) (congrArg Grid.w (printT_g _ _)) (congrArg Grid.h (printT_g _ _))
        (fun h0 w h hr => (printT_right (runes t) (wkR_of ((check_iff s).1 h0) hs hr.fit) (runes_i32 t)).rows.ok) fun h0 w h hr d cv tv x hx => text2_ok W d cv tv (s, s.g.rows, s.gone) x (wkR_of ((check_iff s).1 h0) hs hr.fit) hx bl t (by omega))
    refine Pure.of (acalls_of_vc (drawOk W) Tryd.func3 rfl (by decide) (by decide) rfl ?_)
    (refine g0_ ?_; repeat ((first | refine n1_ fun b_ => ?_ | refine n2_ fun b_ => ?_); refine g0_ ?_))
    (refine g1_ ?_; repeat ((first | refine n1_ fun b_ => ?_ | refine n2_ fun b_ => ?_); refine g1_ ?_))
    rename_i bs
    refine ACalls.lendW (h1 b_) (ρ := [⟨bs, .row 22 [encScr s] 0⟩]) (by first | exact .refl _ | exact .swap _ _ _) ?_
    rintro v σ1 rfl
    refine ⟨σ1 ++ [⟨bs, .row 22 [encScr s] 0⟩], ⟨[], by rw [List.append_nil]⟩, ?_⟩
    (refine g0_ ?_; repeat ((first | refine n1_ fun b_ => ?_ | refine n2_ fun b_ => ?_); refine g0_ ?_))
    exact .refl _
end Go.Eng.YtphoefglfbifdaaDoor
end
