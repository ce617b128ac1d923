/- Texts put together: ScrV0. -/
import Derived.Test.YtphoefglfbifdaaDoorMK1
/- The laws' does, where the call and what is done read the same memory. -/
section
namespace Go.Eng
open Go
variable {P : Program} {W : World}
/-- A call that is lent some blocks and gives them back; what it made is written no more. -/
theorem ACalls.lendH {f : FuncId} {args : List PV} {σ τ τ1 ρ : Mem} {r : PV} {k : PV → Mem → Prop} (h : ACalls P W f args τ fun v σ' => ∃ ρ', σ'.Perm (τ1 ++ ρ') ∧ Frz ρ' v r) (hp : σ.Perm (τ ++ ρ)) (hk : k r (ρ ++ τ1)) : ACalls P W f args σ k := by
  refine ACalls.frz ((h.frame ρ).perm hp) ?_
  rintro v σ' ⟨σ1, ⟨ρ', hp', hf⟩, rfl⟩
  refine ⟨ρ ++ τ1, ρ', r, (hp'.append_right ρ).trans ?_, hf, hk⟩
  rw [List.append_assoc, List.append_assoc]
  exact (List.perm_append_comm.append_left _).trans (by rw [← List.append_assoc, ← List.append_assoc]; exact List.perm_append_comm.append_right _)
end Go.Eng
namespace Go.Eng.YtphoefglfbifdaaDoor
open Go Go.Eng Go.Proofs
variable (W : World)
set_option linter.unusedSimpArgs false
set_option maxRecDepth 100000
set_option linter.unusedVariables false
set_option maxHeartbeats 8000000
/-- does_ok, where the call and what is done read the same memory. -/
theorem does_okS (hT : Tabs W) (s : Scr) (hs : s.ok) (gc : Nat) (cc : List PV) (gd : Nat) (cd : List PV) (τ : Mem) (X : Scr) (E : Int) (hX : X.ok)
    (hcall : ACalls Tryd.prog W gc (encScr s :: cc) τ fun v σ' => ∃ ρ', σ'.Perm (τ ++ ρ') ∧ Frz ρ' v (.tup [encScr X, .int .i64 E]))
    (h : DeskOp W s X E τ gd fun d => .bref d 0 :: cd) :
    ACalls Tryd.prog W 10 [encScr s, .fn gc cc, .fn gd cd] τ fun v _ => v = .bool true := by
  obtain ⟨hbad, hdo⟩ := h
  have hp := printed_ok W hT
  have how := ownScreen_ok W s hs
  have hck := checkScreen_ok W s hs
  have hse := sameScreen_ok W s s hs hs
  rw [show decide (sameP s s) = true from decide_eq_true (sameP_rfl s)] at hse
  by_cases h0 : checkS s = 0
  · obtain ⟨rfl, s', L, w, hL, hL0, hw, hl, hw2, rfl, hd⟩ := hdo h0
    obtain ⟨w0, h0', hr⟩ := right_of h0
    have hta := dtake_ok W s hr
    rw [h0] at hck
    have hXX := sameScreen_ok W _ _ hX hX
    rw [show ∀ Y : Scr, decide (sameP Y Y) = true from fun Y => decide_eq_true (sameP_rfl Y)] at hXX
    have hgv := fun d σ (h : DeskP d s' L σ) => dgive_ok W d s' L hL hL0 hw hl hw2 h
    clear hdo hbad
    generalize hE : ({ s' with g := ⟨w, L.length, L.flatten⟩ } : Scr) = X at *
    clear hE
    refine acalls_of_vc (DL_ok (by decide)) Tryd.func10 rfl (by decide) (by decide) rfl ?_
    (refine g0_ ?_; repeat ((first | refine n1_ fun b_ => ?_ | refine n2_ fun b_ => ?_); refine g0_ ?_))
    refine (how).use ?_; (refine g0_ ?_; repeat ((first | refine n1_ fun b_ => ?_ | refine n2_ fun b_ => ?_); refine g0_ ?_))
    rename_i b1
    rw [forceL_eq]
    refine callV_of ?_
    refine ACalls.lendH hcall (ρ := [⟨b_, .row 22 [encScr s] 0⟩, ⟨b1, .row 22 [encScr s] 0⟩]) (List.perm_append_comm (l₁ := [_, _]) (l₂ := τ)) ?_
    (refine g0_ ?_; repeat ((first | refine n1_ fun b_ => ?_ | refine n2_ fun b_ => ?_); refine g0_ ?_))
    refine (hp).use ?_; (refine g0_ ?_; repeat ((first | refine n1_ fun b_ => ?_ | refine n2_ fun b_ => ?_); refine g0_ ?_))
    (refine g1_ ?_; repeat ((first | refine n1_ fun b_ => ?_ | refine n2_ fun b_ => ?_); refine g1_ ?_))
    refine (hse).use ?_; (refine g0_ ?_; repeat ((first | refine n1_ fun b_ => ?_ | refine n2_ fun b_ => ?_); refine g0_ ?_))
    (refine g1_ ?_; repeat ((first | refine n1_ fun b_ => ?_ | refine n2_ fun b_ => ?_); refine g1_ ?_))
    refine (hck).use ?_; (refine g0_ ?_; repeat ((first | refine n1_ fun b_ => ?_ | refine n2_ fun b_ => ?_); refine g0_ ?_))
    (refine g1_ ?_; repeat ((first | refine n1_ fun b_ => ?_ | refine n2_ fun b_ => ?_); refine g1_ ?_))
    rename_i b2
    refine ACalls.give hta ?_
    rintro ⟨d, bt, bo, gx, l⟩ ⟨hrows, hgx⟩
    dsimp only at hrows hgx ⊢
    (refine g0_ ?_; repeat ((first | refine n1_ fun b_ => ?_ | refine n2_ fun b_ => ?_); refine g0_ ?_))
    rw [forceL_eq]
    refine callV_of ?_
    refine ACalls.lendW (hd d bt bo gx l hrows hgx) (ρ := [⟨b_, .row 22 [encScr X] 0⟩, ⟨b2, .row 22 [encScr s] 0⟩, ⟨b1, .row 22 [encScr s] 0⟩]) ((List.Perm.append_left _ (List.perm_append_comm (l₁ := [_, _, _]) (l₂ := τ))).trans (by rw [List.append_assoc]; exact .refl _)) ?_
    rintro _ σ1 ⟨rfl, hP⟩
    refine ⟨[⟨b_, .row 22 [encScr X] 0⟩, ⟨b2, .row 22 [encScr s] 0⟩, ⟨b1, .row 22 [encScr s] 0⟩] ++ σ1, ⟨[], by rw [List.append_nil]; exact List.perm_append_comm⟩, ?_⟩
    (refine g0_ ?_; repeat ((first | refine n1_ fun b_ => ?_ | refine n2_ fun b_ => ?_); refine g0_ ?_))
    refine Draws10.chain ⟨6, [.new, .new, .new, .new, .new, .turn], [(5, [.keep, .keep, .keep, .again, .keep, .keep])], by decide +kernel, ?_⟩; (refine g0_ ?_; repeat ((first | refine n1_ fun b_ => ?_ | refine n2_ fun b_ => ?_); refine g0_ ?_))
    refine ACalls.lendF (hgv d σ1 hP) (ρ := [⟨b_, .row 22 [encScr X] 0⟩, ⟨b2, .row 22 [encScr s] 0⟩, ⟨b1, .row 22 [encScr s] 0⟩]) (List.perm_append_comm (l₁ := [_, _, _]) (l₂ := σ1)) ?_
    (refine g0_ ?_; repeat ((first | refine n1_ fun b_ => ?_ | refine n2_ fun b_ => ?_); refine g0_ ?_))
    refine (hXX).use ?_; (refine g0_ ?_; repeat ((first | refine n1_ fun b_ => ?_ | refine n2_ fun b_ => ?_); refine g0_ ?_))
    exact rfl
  · obtain ⟨rfl, rfl⟩ := hbad h0
    have hno := noScreen_ok W Scr.none noneS_ok
    rw [show decide (sameP Scr.none Scr.none) = true from decide_eq_true (sameP_rfl _)] at hno
    refine acalls_of_vc (DL_ok (by decide)) Tryd.func10 rfl (by decide) (by decide) rfl ?_
    (refine g0_ ?_; repeat ((first | refine n1_ fun b_ => ?_ | refine n2_ fun b_ => ?_); refine g0_ ?_))
    refine (how).use ?_; (refine g0_ ?_; repeat ((first | refine n1_ fun b_ => ?_ | refine n2_ fun b_ => ?_); refine g0_ ?_))
    rename_i b1
    rw [forceL_eq]
    refine callV_of ?_
    refine ACalls.lendH hcall (ρ := [⟨b_, .row 22 [encScr s] 0⟩, ⟨b1, .row 22 [encScr s] 0⟩]) (List.perm_append_comm (l₁ := [_, _]) (l₂ := τ)) ?_
    (refine g0_ ?_; repeat ((first | refine n1_ fun b_ => ?_ | refine n2_ fun b_ => ?_); refine g0_ ?_))
    refine (hp).use ?_; (refine g0_ ?_; repeat ((first | refine n1_ fun b_ => ?_ | refine n2_ fun b_ => ?_); refine g0_ ?_))
    (refine g1_ ?_; repeat ((first | refine n1_ fun b_ => ?_ | refine n2_ fun b_ => ?_); refine g1_ ?_))
    refine (hse).use ?_; (refine g0_ ?_; repeat ((first | refine n1_ fun b_ => ?_ | refine n2_ fun b_ => ?_); refine g0_ ?_))
    (refine g1_ ?_; repeat ((first | refine n1_ fun b_ => ?_ | refine n2_ fun b_ => ?_); refine g1_ ?_))
    refine (hck).use ?_; (refine g0_ ?_; repeat ((first | refine n1_ fun b_ => ?_ | refine n2_ fun b_ => ?_); refine g0_ ?_))
    (refine g1_ ?_; repeat ((first | refine n1_ fun b_ => ?_ | refine n2_ fun b_ => ?_); refine g1_ ?_))
    refine (hno).use ?_; (refine g0_ ?_; repeat ((first | refine n1_ fun b_ => ?_ | refine n2_ fun b_ => ?_); refine g0_ ?_))
    exact rfl
end Go.Eng.YtphoefglfbifdaaDoor
end
