/- Texts put together: Spl30. -/
import Derived.Test.YtkbfojigbbokcaaMSA
import Derived.Test.YtkbfojigbbokcaaMSG
import Derived.Test.YtkbfojigbbokcaaMSI
/- The law SplitCut (b_ x_ q_ e_). -/
section
namespace Go.Eng.Ytkbfojigbbokcaa
open Go Go.Eng Go.Proofs
variable (W : World)
set_option linter.unusedSimpArgs false
set_option maxRecDepth 100000
set_option linter.unusedVariables false
set_option maxHeartbeats 4000000
theorem splitCut_ok (_ : Free W) (t : Spl) (ht : t.ok) (pane : Int) (hp : i64ok pane) (way : Int) (hw : i64ok way) (fresh : Int) (hf : i64ok fresh) :
    Pure Try.prog W 5 [encSpl t, .int .i64 pane, .int .i64 way, .int .i64 fresh] (.bool true) := by
  have hown := ownSplit_ok W t ht
  have hck := checkR_ok W t ht
  have hpt := parted_ok W
  have hcu := cutP_ok W t ht pane way fresh
  have hdr := dropP_ok W t ht pane
  have hsm := sameT_ok W t ht t
  rw [sameT_rfl] at hsm
  have hno := noSplit_ok W zeroT zeroT_ok
  rw [sameT_rfl, zeroV_eq] at hno
  have hr := @vis_right t
  have heq := chk_eqL t
  have hcp := @chk_panesL t
  unfold cutR at hcu
  unfold dropR at hdr
  rw [← heq] at hck hcp
  generalize visS t 0 (0, []) = st at *
  generalize chkT t 0 [] = cp at *
  by_cases h0 : st.1 = 0
  · rw [if_neg (by simpa using h0)] at hcu hdr
    have hl12 := (hr h0).2.2.1
    have hnd := (hr h0).2.2.2
    have hct := containsI_ok W (panesT t) pane (by omega)
    have hcf := containsI_ok W (panesT t) fresh (by omega)
    rw [hcp h0] at hck
    by_cases h1 : pane ∈ panesT t
    · rw [if_neg (by simpa using h1)] at hcu hdr
      rw [decide_eq_true h1] at hct
      by_cases h2 : (way ≠ 1 ∧ way ≠ 2) ∨ fresh < 1 ∨ 9999 < fresh
      · rw [if_pos h2, zeroV_eq] at hcu
        by_cases h5 : (panesT t).length = 1
        · rw [if_pos h5, zeroV_eq] at hdr
          generalize panesT t = l at *
          have hln := panesV_len l
          obtain ⟨w', p, s, ks⟩ := t
          simp only [encSpl_mk] at *
          refine Pure.of (acalls_of_vc (drawOk W) Try.func5 rfl (by decide) (by decide) rfl ?_)
          (refine g0_ ?_; repeat ((first | refine n1_ fun b_ => ?_ | refine n2_ fun b_ => ?_ | refine Nat1.mk fun q_ hq_ => ?_ | refine em_ fun x_ hx_ => ?_ | refine Elem1.mk fun e_ he_ => ?_); refine g0_ ?_))
          refine (hown).use ?_; (refine g0_ ?_; repeat ((first | refine n1_ fun b_ => ?_ | refine n2_ fun b_ => ?_ | refine Nat1.mk fun q_ hq_ => ?_ | refine em_ fun x_ hx_ => ?_ | refine Elem1.mk fun e_ he_ => ?_); refine g0_ ?_))
          (refine g0_ ?_; repeat ((first | refine n1_ fun b_ => ?_ | refine n2_ fun b_ => ?_ | refine Nat1.mk fun q_ hq_ => ?_ | refine em_ fun x_ hx_ => ?_ | refine Elem1.mk fun e_ he_ => ?_); refine g0_ ?_))
          refine (hcu).use ?_; (refine g0_ ?_; repeat ((first | refine n1_ fun b_ => ?_ | refine n2_ fun b_ => ?_ | refine Nat1.mk fun q_ hq_ => ?_ | refine em_ fun x_ hx_ => ?_ | refine Elem1.mk fun e_ he_ => ?_); refine g0_ ?_))
          (refine g0_ ?_; repeat ((first | refine n1_ fun b_ => ?_ | refine n2_ fun b_ => ?_ | refine Nat1.mk fun q_ hq_ => ?_ | refine em_ fun x_ hx_ => ?_ | refine Elem1.mk fun e_ he_ => ?_); refine g0_ ?_))
          refine (hdr).use ?_; (refine g0_ ?_; repeat ((first | refine n1_ fun b_ => ?_ | refine n2_ fun b_ => ?_ | refine Nat1.mk fun q_ hq_ => ?_ | refine em_ fun x_ hx_ => ?_ | refine Elem1.mk fun e_ he_ => ?_); refine g0_ ?_))
          (refine g0_ ?_; repeat ((first | refine n1_ fun b_ => ?_ | refine n2_ fun b_ => ?_ | refine Nat1.mk fun q_ hq_ => ?_ | refine em_ fun x_ hx_ => ?_ | refine Elem1.mk fun e_ he_ => ?_); refine g0_ ?_))
          refine (hck).use ?_; (refine g0_ ?_; repeat ((first | refine n1_ fun b_ => ?_ | refine n2_ fun b_ => ?_ | refine Nat1.mk fun q_ hq_ => ?_ | refine em_ fun x_ hx_ => ?_ | refine Elem1.mk fun e_ he_ => ?_); refine g0_ ?_))
          (refine g1_ ?_; repeat ((first | refine n1_ fun b_ => ?_ | refine n2_ fun b_ => ?_ | refine Nat1.mk fun q_ hq_ => ?_ | refine em_ fun x_ hx_ => ?_ | refine Elem1.mk fun e_ he_ => ?_); refine g1_ ?_))
          refine (hpt).use ?_; (refine g0_ ?_; repeat ((first | refine n1_ fun b_ => ?_ | refine n2_ fun b_ => ?_ | refine Nat1.mk fun q_ hq_ => ?_ | refine em_ fun x_ hx_ => ?_ | refine Elem1.mk fun e_ he_ => ?_); refine g0_ ?_))
          (refine g1_ ?_; repeat ((first | refine n1_ fun b_ => ?_ | refine n2_ fun b_ => ?_ | refine Nat1.mk fun q_ hq_ => ?_ | refine em_ fun x_ hx_ => ?_ | refine Elem1.mk fun e_ he_ => ?_); refine g1_ ?_))
          refine (hsm).use ?_; (refine g0_ ?_; repeat ((first | refine n1_ fun b_ => ?_ | refine n2_ fun b_ => ?_ | refine Nat1.mk fun q_ hq_ => ?_ | refine em_ fun x_ hx_ => ?_ | refine Elem1.mk fun e_ he_ => ?_); refine g0_ ?_))
          (refine g1_ ?_; repeat ((first | refine n1_ fun b_ => ?_ | refine n2_ fun b_ => ?_ | refine Nat1.mk fun q_ hq_ => ?_ | refine em_ fun x_ hx_ => ?_ | refine Elem1.mk fun e_ he_ => ?_); refine g1_ ?_))
          refine (hct).use ?_; (refine g0_ ?_; repeat ((first | refine n1_ fun b_ => ?_ | refine n2_ fun b_ => ?_ | refine Nat1.mk fun q_ hq_ => ?_ | refine em_ fun x_ hx_ => ?_ | refine Elem1.mk fun e_ he_ => ?_); refine g0_ ?_))
          (refine g1_ ?_; repeat ((first | refine n1_ fun b_ => ?_ | refine n2_ fun b_ => ?_ | refine Nat1.mk fun q_ hq_ => ?_ | refine em_ fun x_ hx_ => ?_ | refine Elem1.mk fun e_ he_ => ?_); refine g1_ ?_))
          refine head_ ?_; (refine g0_ ?_; repeat ((first | refine n1_ fun b_ => ?_ | refine n2_ fun b_ => ?_ | refine Nat1.mk fun q_ hq_ => ?_ | refine em_ fun x_ hx_ => ?_ | refine Elem1.mk fun e_ he_ => ?_); refine g0_ ?_))
          refine ⟨_, (hno).quiet, ?_⟩; (refine g0_ ?_; repeat ((first | refine n1_ fun b_ => ?_ | refine n2_ fun b_ => ?_ | refine Nat1.mk fun q_ hq_ => ?_ | refine em_ fun x_ hx_ => ?_ | refine Elem1.mk fun e_ he_ => ?_); refine g0_ ?_))
          (refine g1_ ?_; repeat ((first | refine n1_ fun b_ => ?_ | refine n2_ fun b_ => ?_ | refine Nat1.mk fun q_ hq_ => ?_ | refine em_ fun x_ hx_ => ?_ | refine Elem1.mk fun e_ he_ => ?_); refine g1_ ?_))
          refine (hno).use ?_; (refine g0_ ?_; repeat ((first | refine n1_ fun b_ => ?_ | refine n2_ fun b_ => ?_ | refine Nat1.mk fun q_ hq_ => ?_ | refine em_ fun x_ hx_ => ?_ | refine Elem1.mk fun e_ he_ => ?_); refine g0_ ?_))
          exact .refl _
        · have hcn := cnt_right t 0 (hr h0).1
          have hds := dropSplit_ok W pane t (by omega)
          rcases drop_rel pane t 0 (hr h0).1 hnd with ⟨g1, g2, -⟩ | ⟨t', g1, g2, -⟩
          · rw [leaf_panes g1 g2] at h5
            exact absurd rfl h5
          have hok := plain_okT t' (by have := cnt_with pane t 0; rw [g1, cntTs, cntTs] at this; omega) (with_okT pane t (by omega) ht 0 t' (by rw [g1]; simp))
          have hsp := sameT_ok W _ hok (plainT t')
          rw [sameT_rfl] at hsp
          rw [if_neg h5, g1, List.headD_cons] at hdr
          rw [g2] at hds
          generalize plainT t' = C at *
          generalize panesT t = l at *
          have hln := panesV_len l
          obtain ⟨w', p, s, ks⟩ := t
          obtain ⟨w3, p3, s3, ks3⟩ := C
          simp only [encSpl_mk] at *
          refine Pure.of (acalls_of_vc (drawOk W) Try.func5 rfl (by decide) (by decide) rfl ?_)
          (refine g0_ ?_; repeat ((first | refine n1_ fun b_ => ?_ | refine n2_ fun b_ => ?_ | refine Nat1.mk fun q_ hq_ => ?_ | refine em_ fun x_ hx_ => ?_ | refine Elem1.mk fun e_ he_ => ?_); refine g0_ ?_))
          refine (hown).use ?_; (refine g0_ ?_; repeat ((first | refine n1_ fun b_ => ?_ | refine n2_ fun b_ => ?_ | refine Nat1.mk fun q_ hq_ => ?_ | refine em_ fun x_ hx_ => ?_ | refine Elem1.mk fun e_ he_ => ?_); refine g0_ ?_))
          (refine g0_ ?_; repeat ((first | refine n1_ fun b_ => ?_ | refine n2_ fun b_ => ?_ | refine Nat1.mk fun q_ hq_ => ?_ | refine em_ fun x_ hx_ => ?_ | refine Elem1.mk fun e_ he_ => ?_); refine g0_ ?_))
          refine (hcu).use ?_; (refine g0_ ?_; repeat ((first | refine n1_ fun b_ => ?_ | refine n2_ fun b_ => ?_ | refine Nat1.mk fun q_ hq_ => ?_ | refine em_ fun x_ hx_ => ?_ | refine Elem1.mk fun e_ he_ => ?_); refine g0_ ?_))
          (refine g0_ ?_; repeat ((first | refine n1_ fun b_ => ?_ | refine n2_ fun b_ => ?_ | refine Nat1.mk fun q_ hq_ => ?_ | refine em_ fun x_ hx_ => ?_ | refine Elem1.mk fun e_ he_ => ?_); refine g0_ ?_))
          refine (hdr).use ?_; (refine g0_ ?_; repeat ((first | refine n1_ fun b_ => ?_ | refine n2_ fun b_ => ?_ | refine Nat1.mk fun q_ hq_ => ?_ | refine em_ fun x_ hx_ => ?_ | refine Elem1.mk fun e_ he_ => ?_); refine g0_ ?_))
          (refine g0_ ?_; repeat ((first | refine n1_ fun b_ => ?_ | refine n2_ fun b_ => ?_ | refine Nat1.mk fun q_ hq_ => ?_ | refine em_ fun x_ hx_ => ?_ | refine Elem1.mk fun e_ he_ => ?_); refine g0_ ?_))
          refine (hck).use ?_; (refine g0_ ?_; repeat ((first | refine n1_ fun b_ => ?_ | refine n2_ fun b_ => ?_ | refine Nat1.mk fun q_ hq_ => ?_ | refine em_ fun x_ hx_ => ?_ | refine Elem1.mk fun e_ he_ => ?_); refine g0_ ?_))
          (refine g1_ ?_; repeat ((first | refine n1_ fun b_ => ?_ | refine n2_ fun b_ => ?_ | refine Nat1.mk fun q_ hq_ => ?_ | refine em_ fun x_ hx_ => ?_ | refine Elem1.mk fun e_ he_ => ?_); refine g1_ ?_))
          refine (hpt).use ?_; (refine g0_ ?_; repeat ((first | refine n1_ fun b_ => ?_ | refine n2_ fun b_ => ?_ | refine Nat1.mk fun q_ hq_ => ?_ | refine em_ fun x_ hx_ => ?_ | refine Elem1.mk fun e_ he_ => ?_); refine g0_ ?_))
          (refine g1_ ?_; repeat ((first | refine n1_ fun b_ => ?_ | refine n2_ fun b_ => ?_ | refine Nat1.mk fun q_ hq_ => ?_ | refine em_ fun x_ hx_ => ?_ | refine Elem1.mk fun e_ he_ => ?_); refine g1_ ?_))
          refine (hsm).use ?_; (refine g0_ ?_; repeat ((first | refine n1_ fun b_ => ?_ | refine n2_ fun b_ => ?_ | refine Nat1.mk fun q_ hq_ => ?_ | refine em_ fun x_ hx_ => ?_ | refine Elem1.mk fun e_ he_ => ?_); refine g0_ ?_))
          (refine g1_ ?_; repeat ((first | refine n1_ fun b_ => ?_ | refine n2_ fun b_ => ?_ | refine Nat1.mk fun q_ hq_ => ?_ | refine em_ fun x_ hx_ => ?_ | refine Elem1.mk fun e_ he_ => ?_); refine g1_ ?_))
          refine (hct).use ?_; (refine g0_ ?_; repeat ((first | refine n1_ fun b_ => ?_ | refine n2_ fun b_ => ?_ | refine Nat1.mk fun q_ hq_ => ?_ | refine em_ fun x_ hx_ => ?_ | refine Elem1.mk fun e_ he_ => ?_); refine g0_ ?_))
          (refine g1_ ?_; repeat ((first | refine n1_ fun b_ => ?_ | refine n2_ fun b_ => ?_ | refine Nat1.mk fun q_ hq_ => ?_ | refine em_ fun x_ hx_ => ?_ | refine Elem1.mk fun e_ he_ => ?_); refine g1_ ?_))
          refine head_ ?_; (refine g0_ ?_; repeat ((first | refine n1_ fun b_ => ?_ | refine n2_ fun b_ => ?_ | refine Nat1.mk fun q_ hq_ => ?_ | refine em_ fun x_ hx_ => ?_ | refine Elem1.mk fun e_ he_ => ?_); refine g0_ ?_))
          refine ⟨_, (hno).quiet, ?_⟩; (refine g0_ ?_; repeat ((first | refine n1_ fun b_ => ?_ | refine n2_ fun b_ => ?_ | refine Nat1.mk fun q_ hq_ => ?_ | refine em_ fun x_ hx_ => ?_ | refine Elem1.mk fun e_ he_ => ?_); refine g0_ ?_))
          (refine g1_ ?_; repeat ((first | refine n1_ fun b_ => ?_ | refine n2_ fun b_ => ?_ | refine Nat1.mk fun q_ hq_ => ?_ | refine em_ fun x_ hx_ => ?_ | refine Elem1.mk fun e_ he_ => ?_); refine g1_ ?_))
          refine (hds).use ?_; (refine g0_ ?_; repeat ((first | refine n1_ fun b_ => ?_ | refine n2_ fun b_ => ?_ | refine Nat1.mk fun q_ hq_ => ?_ | refine em_ fun x_ hx_ => ?_ | refine Elem1.mk fun e_ he_ => ?_); refine g0_ ?_))
          (refine g1_ ?_; repeat ((first | refine n1_ fun b_ => ?_ | refine n2_ fun b_ => ?_ | refine Nat1.mk fun q_ hq_ => ?_ | refine em_ fun x_ hx_ => ?_ | refine Elem1.mk fun e_ he_ => ?_); refine g1_ ?_))
          refine (hsp).use ?_; (refine g0_ ?_; repeat ((first | refine n1_ fun b_ => ?_ | refine n2_ fun b_ => ?_ | refine Nat1.mk fun q_ hq_ => ?_ | refine em_ fun x_ hx_ => ?_ | refine Elem1.mk fun e_ he_ => ?_); refine g0_ ?_))
          exact .refl _
      · rw [if_neg h2] at hcu
        have hw12 : way = 1 ∨ way = 2 := by omega
        by_cases h3 : fresh ∈ panesT t
        · rw [if_pos h3, zeroV_eq] at hcu
          rw [decide_eq_true h3] at hcf
          by_cases h5 : (panesT t).length = 1
          · rw [if_pos h5, zeroV_eq] at hdr
            generalize panesT t = l at *
            have hln := panesV_len l
            obtain ⟨w', p, s, ks⟩ := t
            simp only [encSpl_mk] at *
            refine Pure.of (acalls_of_vc (drawOk W) Try.func5 rfl (by decide) (by decide) rfl ?_)
            (refine g0_ ?_; repeat ((first | refine n1_ fun b_ => ?_ | refine n2_ fun b_ => ?_ | refine Nat1.mk fun q_ hq_ => ?_ | refine em_ fun x_ hx_ => ?_ | refine Elem1.mk fun e_ he_ => ?_); refine g0_ ?_))
            refine (hown).use ?_; (refine g0_ ?_; repeat ((first | refine n1_ fun b_ => ?_ | refine n2_ fun b_ => ?_ | refine Nat1.mk fun q_ hq_ => ?_ | refine em_ fun x_ hx_ => ?_ | refine Elem1.mk fun e_ he_ => ?_); refine g0_ ?_))
            (refine g0_ ?_; repeat ((first | refine n1_ fun b_ => ?_ | refine n2_ fun b_ => ?_ | refine Nat1.mk fun q_ hq_ => ?_ | refine em_ fun x_ hx_ => ?_ | refine Elem1.mk fun e_ he_ => ?_); refine g0_ ?_))
            refine (hcu).use ?_; (refine g0_ ?_; repeat ((first | refine n1_ fun b_ => ?_ | refine n2_ fun b_ => ?_ | refine Nat1.mk fun q_ hq_ => ?_ | refine em_ fun x_ hx_ => ?_ | refine Elem1.mk fun e_ he_ => ?_); refine g0_ ?_))
            (refine g0_ ?_; repeat ((first | refine n1_ fun b_ => ?_ | refine n2_ fun b_ => ?_ | refine Nat1.mk fun q_ hq_ => ?_ | refine em_ fun x_ hx_ => ?_ | refine Elem1.mk fun e_ he_ => ?_); refine g0_ ?_))
            refine (hdr).use ?_; (refine g0_ ?_; repeat ((first | refine n1_ fun b_ => ?_ | refine n2_ fun b_ => ?_ | refine Nat1.mk fun q_ hq_ => ?_ | refine em_ fun x_ hx_ => ?_ | refine Elem1.mk fun e_ he_ => ?_); refine g0_ ?_))
            (refine g0_ ?_; repeat ((first | refine n1_ fun b_ => ?_ | refine n2_ fun b_ => ?_ | refine Nat1.mk fun q_ hq_ => ?_ | refine em_ fun x_ hx_ => ?_ | refine Elem1.mk fun e_ he_ => ?_); refine g0_ ?_))
            refine (hck).use ?_; (refine g0_ ?_; repeat ((first | refine n1_ fun b_ => ?_ | refine n2_ fun b_ => ?_ | refine Nat1.mk fun q_ hq_ => ?_ | refine em_ fun x_ hx_ => ?_ | refine Elem1.mk fun e_ he_ => ?_); refine g0_ ?_))
            (refine g1_ ?_; repeat ((first | refine n1_ fun b_ => ?_ | refine n2_ fun b_ => ?_ | refine Nat1.mk fun q_ hq_ => ?_ | refine em_ fun x_ hx_ => ?_ | refine Elem1.mk fun e_ he_ => ?_); refine g1_ ?_))
            refine (hpt).use ?_; (refine g0_ ?_; repeat ((first | refine n1_ fun b_ => ?_ | refine n2_ fun b_ => ?_ | refine Nat1.mk fun q_ hq_ => ?_ | refine em_ fun x_ hx_ => ?_ | refine Elem1.mk fun e_ he_ => ?_); refine g0_ ?_))
            (refine g1_ ?_; repeat ((first | refine n1_ fun b_ => ?_ | refine n2_ fun b_ => ?_ | refine Nat1.mk fun q_ hq_ => ?_ | refine em_ fun x_ hx_ => ?_ | refine Elem1.mk fun e_ he_ => ?_); refine g1_ ?_))
            refine (hsm).use ?_; (refine g0_ ?_; repeat ((first | refine n1_ fun b_ => ?_ | refine n2_ fun b_ => ?_ | refine Nat1.mk fun q_ hq_ => ?_ | refine em_ fun x_ hx_ => ?_ | refine Elem1.mk fun e_ he_ => ?_); refine g0_ ?_))
            (refine g1_ ?_; repeat ((first | refine n1_ fun b_ => ?_ | refine n2_ fun b_ => ?_ | refine Nat1.mk fun q_ hq_ => ?_ | refine em_ fun x_ hx_ => ?_ | refine Elem1.mk fun e_ he_ => ?_); refine g1_ ?_))
            refine (hct).use ?_; (refine g0_ ?_; repeat ((first | refine n1_ fun b_ => ?_ | refine n2_ fun b_ => ?_ | refine Nat1.mk fun q_ hq_ => ?_ | refine em_ fun x_ hx_ => ?_ | refine Elem1.mk fun e_ he_ => ?_); refine g0_ ?_))
            (refine g1_ ?_; repeat ((first | refine n1_ fun b_ => ?_ | refine n2_ fun b_ => ?_ | refine Nat1.mk fun q_ hq_ => ?_ | refine em_ fun x_ hx_ => ?_ | refine Elem1.mk fun e_ he_ => ?_); refine g1_ ?_))
            refine (hcf).use ?_; (refine g0_ ?_; repeat ((first | refine n1_ fun b_ => ?_ | refine n2_ fun b_ => ?_ | refine Nat1.mk fun q_ hq_ => ?_ | refine em_ fun x_ hx_ => ?_ | refine Elem1.mk fun e_ he_ => ?_); refine g0_ ?_))
            (refine g1_ ?_; repeat ((first | refine n1_ fun b_ => ?_ | refine n2_ fun b_ => ?_ | refine Nat1.mk fun q_ hq_ => ?_ | refine em_ fun x_ hx_ => ?_ | refine Elem1.mk fun e_ he_ => ?_); refine g1_ ?_))
            refine head_ ?_; (refine g0_ ?_; repeat ((first | refine n1_ fun b_ => ?_ | refine n2_ fun b_ => ?_ | refine Nat1.mk fun q_ hq_ => ?_ | refine em_ fun x_ hx_ => ?_ | refine Elem1.mk fun e_ he_ => ?_); refine g0_ ?_))
            refine ⟨_, (hno).quiet, ?_⟩; (refine g0_ ?_; repeat ((first | refine n1_ fun b_ => ?_ | refine n2_ fun b_ => ?_ | refine Nat1.mk fun q_ hq_ => ?_ | refine em_ fun x_ hx_ => ?_ | refine Elem1.mk fun e_ he_ => ?_); refine g0_ ?_))
            (refine g1_ ?_; repeat ((first | refine n1_ fun b_ => ?_ | refine n2_ fun b_ => ?_ | refine Nat1.mk fun q_ hq_ => ?_ | refine em_ fun x_ hx_ => ?_ | refine Elem1.mk fun e_ he_ => ?_); refine g1_ ?_))
            refine (hno).use ?_; (refine g0_ ?_; repeat ((first | refine n1_ fun b_ => ?_ | refine n2_ fun b_ => ?_ | refine Nat1.mk fun q_ hq_ => ?_ | refine em_ fun x_ hx_ => ?_ | refine Elem1.mk fun e_ he_ => ?_); refine g0_ ?_))
            exact .refl _
          · have hcn := cnt_right t 0 (hr h0).1
            have hds := dropSplit_ok W pane t (by omega)
            rcases drop_rel pane t 0 (hr h0).1 hnd with ⟨g1, g2, -⟩ | ⟨t', g1, g2, -⟩
            · rw [leaf_panes g1 g2] at h5
              exact absurd rfl h5
            have hok := plain_okT t' (by have := cnt_with pane t 0; rw [g1, cntTs, cntTs] at this; omega) (with_okT pane t (by omega) ht 0 t' (by rw [g1]; simp))
            have hsp := sameT_ok W _ hok (plainT t')
            rw [sameT_rfl] at hsp
            rw [if_neg h5, g1, List.headD_cons] at hdr
            rw [g2] at hds
            generalize plainT t' = C at *
            generalize panesT t = l at *
            have hln := panesV_len l
            obtain ⟨w', p, s, ks⟩ := t
            obtain ⟨w3, p3, s3, ks3⟩ := C
            simp only [encSpl_mk] at *
            refine Pure.of (acalls_of_vc (drawOk W) Try.func5 rfl (by decide) (by decide) rfl ?_)
            (refine g0_ ?_; repeat ((first | refine n1_ fun b_ => ?_ | refine n2_ fun b_ => ?_ | refine Nat1.mk fun q_ hq_ => ?_ | refine em_ fun x_ hx_ => ?_ | refine Elem1.mk fun e_ he_ => ?_); refine g0_ ?_))
            refine (hown).use ?_; (refine g0_ ?_; repeat ((first | refine n1_ fun b_ => ?_ | refine n2_ fun b_ => ?_ | refine Nat1.mk fun q_ hq_ => ?_ | refine em_ fun x_ hx_ => ?_ | refine Elem1.mk fun e_ he_ => ?_); refine g0_ ?_))
            (refine g0_ ?_; repeat ((first | refine n1_ fun b_ => ?_ | refine n2_ fun b_ => ?_ | refine Nat1.mk fun q_ hq_ => ?_ | refine em_ fun x_ hx_ => ?_ | refine Elem1.mk fun e_ he_ => ?_); refine g0_ ?_))
            refine (hcu).use ?_; (refine g0_ ?_; repeat ((first | refine n1_ fun b_ => ?_ | refine n2_ fun b_ => ?_ | refine Nat1.mk fun q_ hq_ => ?_ | refine em_ fun x_ hx_ => ?_ | refine Elem1.mk fun e_ he_ => ?_); refine g0_ ?_))
            (refine g0_ ?_; repeat ((first | refine n1_ fun b_ => ?_ | refine n2_ fun b_ => ?_ | refine Nat1.mk fun q_ hq_ => ?_ | refine em_ fun x_ hx_ => ?_ | refine Elem1.mk fun e_ he_ => ?_); refine g0_ ?_))
            refine (hdr).use ?_; (refine g0_ ?_; repeat ((first | refine n1_ fun b_ => ?_ | refine n2_ fun b_ => ?_ | refine Nat1.mk fun q_ hq_ => ?_ | refine em_ fun x_ hx_ => ?_ | refine Elem1.mk fun e_ he_ => ?_); refine g0_ ?_))
            (refine g0_ ?_; repeat ((first | refine n1_ fun b_ => ?_ | refine n2_ fun b_ => ?_ | refine Nat1.mk fun q_ hq_ => ?_ | refine em_ fun x_ hx_ => ?_ | refine Elem1.mk fun e_ he_ => ?_); refine g0_ ?_))
            refine (hck).use ?_; (refine g0_ ?_; repeat ((first | refine n1_ fun b_ => ?_ | refine n2_ fun b_ => ?_ | refine Nat1.mk fun q_ hq_ => ?_ | refine em_ fun x_ hx_ => ?_ | refine Elem1.mk fun e_ he_ => ?_); refine g0_ ?_))
            (refine g1_ ?_; repeat ((first | refine n1_ fun b_ => ?_ | refine n2_ fun b_ => ?_ | refine Nat1.mk fun q_ hq_ => ?_ | refine em_ fun x_ hx_ => ?_ | refine Elem1.mk fun e_ he_ => ?_); refine g1_ ?_))
            refine (hpt).use ?_; (refine g0_ ?_; repeat ((first | refine n1_ fun b_ => ?_ | refine n2_ fun b_ => ?_ | refine Nat1.mk fun q_ hq_ => ?_ | refine em_ fun x_ hx_ => ?_ | refine Elem1.mk fun e_ he_ => ?_); refine g0_ ?_))
            (refine g1_ ?_; repeat ((first | refine n1_ fun b_ => ?_ | refine n2_ fun b_ => ?_ | refine Nat1.mk fun q_ hq_ => ?_ | refine em_ fun x_ hx_ => ?_ | refine Elem1.mk fun e_ he_ => ?_); refine g1_ ?_))
            refine (hsm).use ?_; (refine g0_ ?_; repeat ((first | refine n1_ fun b_ => ?_ | refine n2_ fun b_ => ?_ | refine Nat1.mk fun q_ hq_ => ?_ | refine em_ fun x_ hx_ => ?_ | refine Elem1.mk fun e_ he_ => ?_); refine g0_ ?_))
            (refine g1_ ?_; repeat ((first | refine n1_ fun b_ => ?_ | refine n2_ fun b_ => ?_ | refine Nat1.mk fun q_ hq_ => ?_ | refine em_ fun x_ hx_ => ?_ | refine Elem1.mk fun e_ he_ => ?_); refine g1_ ?_))
            refine (hct).use ?_; (refine g0_ ?_; repeat ((first | refine n1_ fun b_ => ?_ | refine n2_ fun b_ => ?_ | refine Nat1.mk fun q_ hq_ => ?_ | refine em_ fun x_ hx_ => ?_ | refine Elem1.mk fun e_ he_ => ?_); refine g0_ ?_))
            (refine g1_ ?_; repeat ((first | refine n1_ fun b_ => ?_ | refine n2_ fun b_ => ?_ | refine Nat1.mk fun q_ hq_ => ?_ | refine em_ fun x_ hx_ => ?_ | refine Elem1.mk fun e_ he_ => ?_); refine g1_ ?_))
            refine (hcf).use ?_; (refine g0_ ?_; repeat ((first | refine n1_ fun b_ => ?_ | refine n2_ fun b_ => ?_ | refine Nat1.mk fun q_ hq_ => ?_ | refine em_ fun x_ hx_ => ?_ | refine Elem1.mk fun e_ he_ => ?_); refine g0_ ?_))
            (refine g1_ ?_; repeat ((first | refine n1_ fun b_ => ?_ | refine n2_ fun b_ => ?_ | refine Nat1.mk fun q_ hq_ => ?_ | refine em_ fun x_ hx_ => ?_ | refine Elem1.mk fun e_ he_ => ?_); refine g1_ ?_))
            refine head_ ?_; (refine g0_ ?_; repeat ((first | refine n1_ fun b_ => ?_ | refine n2_ fun b_ => ?_ | refine Nat1.mk fun q_ hq_ => ?_ | refine em_ fun x_ hx_ => ?_ | refine Elem1.mk fun e_ he_ => ?_); refine g0_ ?_))
            refine ⟨_, (hno).quiet, ?_⟩; (refine g0_ ?_; repeat ((first | refine n1_ fun b_ => ?_ | refine n2_ fun b_ => ?_ | refine Nat1.mk fun q_ hq_ => ?_ | refine em_ fun x_ hx_ => ?_ | refine Elem1.mk fun e_ he_ => ?_); refine g0_ ?_))
            (refine g1_ ?_; repeat ((first | refine n1_ fun b_ => ?_ | refine n2_ fun b_ => ?_ | refine Nat1.mk fun q_ hq_ => ?_ | refine em_ fun x_ hx_ => ?_ | refine Elem1.mk fun e_ he_ => ?_); refine g1_ ?_))
            refine (hds).use ?_; (refine g0_ ?_; repeat ((first | refine n1_ fun b_ => ?_ | refine n2_ fun b_ => ?_ | refine Nat1.mk fun q_ hq_ => ?_ | refine em_ fun x_ hx_ => ?_ | refine Elem1.mk fun e_ he_ => ?_); refine g0_ ?_))
            (refine g1_ ?_; repeat ((first | refine n1_ fun b_ => ?_ | refine n2_ fun b_ => ?_ | refine Nat1.mk fun q_ hq_ => ?_ | refine em_ fun x_ hx_ => ?_ | refine Elem1.mk fun e_ he_ => ?_); refine g1_ ?_))
            refine (hsp).use ?_; (refine g0_ ?_; repeat ((first | refine n1_ fun b_ => ?_ | refine n2_ fun b_ => ?_ | refine Nat1.mk fun q_ hq_ => ?_ | refine em_ fun x_ hx_ => ?_ | refine Elem1.mk fun e_ he_ => ?_); refine g0_ ?_))
            exact .refl _
        · rw [if_neg h3] at hcu
          rw [decide_eq_false h3] at hcf
          by_cases h4 : (panesT t).length = 12
          · rw [if_pos h4, zeroV_eq] at hcu
            have h5 : ¬ (panesT t).length = 1 := by omega
            have hcn := cnt_right t 0 (hr h0).1
            have hds := dropSplit_ok W pane t (by omega)
            rcases drop_rel pane t 0 (hr h0).1 hnd with ⟨g1, g2, -⟩ | ⟨t', g1, g2, -⟩
            · rw [leaf_panes g1 g2] at h5
              exact absurd rfl h5
            have hok := plain_okT t' (by have := cnt_with pane t 0; rw [g1, cntTs, cntTs] at this; omega) (with_okT pane t (by omega) ht 0 t' (by rw [g1]; simp))
            have hsp := sameT_ok W _ hok (plainT t')
            rw [sameT_rfl] at hsp
            rw [if_neg h5, g1, List.headD_cons] at hdr
            rw [g2] at hds
            generalize plainT t' = C at *
            generalize panesT t = l at *
            have hln := panesV_len l
            obtain ⟨w', p, s, ks⟩ := t
            obtain ⟨w3, p3, s3, ks3⟩ := C
            simp only [encSpl_mk] at *
            refine Pure.of (acalls_of_vc (drawOk W) Try.func5 rfl (by decide) (by decide) rfl ?_)
            (refine g0_ ?_; repeat ((first | refine n1_ fun b_ => ?_ | refine n2_ fun b_ => ?_ | refine Nat1.mk fun q_ hq_ => ?_ | refine em_ fun x_ hx_ => ?_ | refine Elem1.mk fun e_ he_ => ?_); refine g0_ ?_))
            refine (hown).use ?_; (refine g0_ ?_; repeat ((first | refine n1_ fun b_ => ?_ | refine n2_ fun b_ => ?_ | refine Nat1.mk fun q_ hq_ => ?_ | refine em_ fun x_ hx_ => ?_ | refine Elem1.mk fun e_ he_ => ?_); refine g0_ ?_))
            (refine g0_ ?_; repeat ((first | refine n1_ fun b_ => ?_ | refine n2_ fun b_ => ?_ | refine Nat1.mk fun q_ hq_ => ?_ | refine em_ fun x_ hx_ => ?_ | refine Elem1.mk fun e_ he_ => ?_); refine g0_ ?_))
            refine (hcu).use ?_; (refine g0_ ?_; repeat ((first | refine n1_ fun b_ => ?_ | refine n2_ fun b_ => ?_ | refine Nat1.mk fun q_ hq_ => ?_ | refine em_ fun x_ hx_ => ?_ | refine Elem1.mk fun e_ he_ => ?_); refine g0_ ?_))
            (refine g0_ ?_; repeat ((first | refine n1_ fun b_ => ?_ | refine n2_ fun b_ => ?_ | refine Nat1.mk fun q_ hq_ => ?_ | refine em_ fun x_ hx_ => ?_ | refine Elem1.mk fun e_ he_ => ?_); refine g0_ ?_))
            refine (hdr).use ?_; (refine g0_ ?_; repeat ((first | refine n1_ fun b_ => ?_ | refine n2_ fun b_ => ?_ | refine Nat1.mk fun q_ hq_ => ?_ | refine em_ fun x_ hx_ => ?_ | refine Elem1.mk fun e_ he_ => ?_); refine g0_ ?_))
            (refine g0_ ?_; repeat ((first | refine n1_ fun b_ => ?_ | refine n2_ fun b_ => ?_ | refine Nat1.mk fun q_ hq_ => ?_ | refine em_ fun x_ hx_ => ?_ | refine Elem1.mk fun e_ he_ => ?_); refine g0_ ?_))
            refine (hck).use ?_; (refine g0_ ?_; repeat ((first | refine n1_ fun b_ => ?_ | refine n2_ fun b_ => ?_ | refine Nat1.mk fun q_ hq_ => ?_ | refine em_ fun x_ hx_ => ?_ | refine Elem1.mk fun e_ he_ => ?_); refine g0_ ?_))
            (refine g1_ ?_; repeat ((first | refine n1_ fun b_ => ?_ | refine n2_ fun b_ => ?_ | refine Nat1.mk fun q_ hq_ => ?_ | refine em_ fun x_ hx_ => ?_ | refine Elem1.mk fun e_ he_ => ?_); refine g1_ ?_))
            refine (hpt).use ?_; (refine g0_ ?_; repeat ((first | refine n1_ fun b_ => ?_ | refine n2_ fun b_ => ?_ | refine Nat1.mk fun q_ hq_ => ?_ | refine em_ fun x_ hx_ => ?_ | refine Elem1.mk fun e_ he_ => ?_); refine g0_ ?_))
            (refine g1_ ?_; repeat ((first | refine n1_ fun b_ => ?_ | refine n2_ fun b_ => ?_ | refine Nat1.mk fun q_ hq_ => ?_ | refine em_ fun x_ hx_ => ?_ | refine Elem1.mk fun e_ he_ => ?_); refine g1_ ?_))
            refine (hsm).use ?_; (refine g0_ ?_; repeat ((first | refine n1_ fun b_ => ?_ | refine n2_ fun b_ => ?_ | refine Nat1.mk fun q_ hq_ => ?_ | refine em_ fun x_ hx_ => ?_ | refine Elem1.mk fun e_ he_ => ?_); refine g0_ ?_))
            (refine g1_ ?_; repeat ((first | refine n1_ fun b_ => ?_ | refine n2_ fun b_ => ?_ | refine Nat1.mk fun q_ hq_ => ?_ | refine em_ fun x_ hx_ => ?_ | refine Elem1.mk fun e_ he_ => ?_); refine g1_ ?_))
            refine (hct).use ?_; (refine g0_ ?_; repeat ((first | refine n1_ fun b_ => ?_ | refine n2_ fun b_ => ?_ | refine Nat1.mk fun q_ hq_ => ?_ | refine em_ fun x_ hx_ => ?_ | refine Elem1.mk fun e_ he_ => ?_); refine g0_ ?_))
            (refine g1_ ?_; repeat ((first | refine n1_ fun b_ => ?_ | refine n2_ fun b_ => ?_ | refine Nat1.mk fun q_ hq_ => ?_ | refine em_ fun x_ hx_ => ?_ | refine Elem1.mk fun e_ he_ => ?_); refine g1_ ?_))
            refine (hcf).use ?_; (refine g0_ ?_; repeat ((first | refine n1_ fun b_ => ?_ | refine n2_ fun b_ => ?_ | refine Nat1.mk fun q_ hq_ => ?_ | refine em_ fun x_ hx_ => ?_ | refine Elem1.mk fun e_ he_ => ?_); refine g0_ ?_))
            (refine g1_ ?_; repeat ((first | refine n1_ fun b_ => ?_ | refine n2_ fun b_ => ?_ | refine Nat1.mk fun q_ hq_ => ?_ | refine em_ fun x_ hx_ => ?_ | refine Elem1.mk fun e_ he_ => ?_); refine g1_ ?_))
            refine head_ ?_; (refine g0_ ?_; repeat ((first | refine n1_ fun b_ => ?_ | refine n2_ fun b_ => ?_ | refine Nat1.mk fun q_ hq_ => ?_ | refine em_ fun x_ hx_ => ?_ | refine Elem1.mk fun e_ he_ => ?_); refine g0_ ?_))
            refine ⟨_, (hno).quiet, ?_⟩; (refine g0_ ?_; repeat ((first | refine n1_ fun b_ => ?_ | refine n2_ fun b_ => ?_ | refine Nat1.mk fun q_ hq_ => ?_ | refine em_ fun x_ hx_ => ?_ | refine Elem1.mk fun e_ he_ => ?_); refine g0_ ?_))
            (refine g1_ ?_; repeat ((first | refine n1_ fun b_ => ?_ | refine n2_ fun b_ => ?_ | refine Nat1.mk fun q_ hq_ => ?_ | refine em_ fun x_ hx_ => ?_ | refine Elem1.mk fun e_ he_ => ?_); refine g1_ ?_))
            refine (hds).use ?_; (refine g0_ ?_; repeat ((first | refine n1_ fun b_ => ?_ | refine n2_ fun b_ => ?_ | refine Nat1.mk fun q_ hq_ => ?_ | refine em_ fun x_ hx_ => ?_ | refine Elem1.mk fun e_ he_ => ?_); refine g0_ ?_))
            (refine g1_ ?_; repeat ((first | refine n1_ fun b_ => ?_ | refine n2_ fun b_ => ?_ | refine Nat1.mk fun q_ hq_ => ?_ | refine em_ fun x_ hx_ => ?_ | refine Elem1.mk fun e_ he_ => ?_); refine g1_ ?_))
            refine (hsp).use ?_; (refine g0_ ?_; repeat ((first | refine n1_ fun b_ => ?_ | refine n2_ fun b_ => ?_ | refine Nat1.mk fun q_ hq_ => ?_ | refine em_ fun x_ hx_ => ?_ | refine Elem1.mk fun e_ he_ => ?_); refine g0_ ?_))
            exact .refl _
          · rw [if_neg h4] at hcu
            have hcs := splCut_ok W pane way fresh t 0 (hr h0).1 hl12
            have hcn0 := cnt_right t 0 (hr h0).1
            have hss := sameT_ok W _ (cut_okT hp hw hf t (by omega) ht) (cutT pane way fresh t)
            rw [sameT_rfl] at hss
            generalize cutT pane way fresh t = D at *
            obtain ⟨w5, p5, s5, ks5⟩ := D
            by_cases h5 : (panesT t).length = 1
            · rw [if_pos h5, zeroV_eq] at hdr
              generalize panesT t = l at *
              have hln := panesV_len l
              obtain ⟨w', p, s, ks⟩ := t
              simp only [encSpl_mk] at *
              refine Pure.of (acalls_of_vc (drawOk W) Try.func5 rfl (by decide) (by decide) rfl ?_)
              (refine g0_ ?_; repeat ((first | refine n1_ fun b_ => ?_ | refine n2_ fun b_ => ?_ | refine Nat1.mk fun q_ hq_ => ?_ | refine em_ fun x_ hx_ => ?_ | refine Elem1.mk fun e_ he_ => ?_); refine g0_ ?_))
              refine (hown).use ?_; (refine g0_ ?_; repeat ((first | refine n1_ fun b_ => ?_ | refine n2_ fun b_ => ?_ | refine Nat1.mk fun q_ hq_ => ?_ | refine em_ fun x_ hx_ => ?_ | refine Elem1.mk fun e_ he_ => ?_); refine g0_ ?_))
              (refine g0_ ?_; repeat ((first | refine n1_ fun b_ => ?_ | refine n2_ fun b_ => ?_ | refine Nat1.mk fun q_ hq_ => ?_ | refine em_ fun x_ hx_ => ?_ | refine Elem1.mk fun e_ he_ => ?_); refine g0_ ?_))
              refine (hcu).use ?_; (refine g0_ ?_; repeat ((first | refine n1_ fun b_ => ?_ | refine n2_ fun b_ => ?_ | refine Nat1.mk fun q_ hq_ => ?_ | refine em_ fun x_ hx_ => ?_ | refine Elem1.mk fun e_ he_ => ?_); refine g0_ ?_))
              (refine g0_ ?_; repeat ((first | refine n1_ fun b_ => ?_ | refine n2_ fun b_ => ?_ | refine Nat1.mk fun q_ hq_ => ?_ | refine em_ fun x_ hx_ => ?_ | refine Elem1.mk fun e_ he_ => ?_); refine g0_ ?_))
              refine (hdr).use ?_; (refine g0_ ?_; repeat ((first | refine n1_ fun b_ => ?_ | refine n2_ fun b_ => ?_ | refine Nat1.mk fun q_ hq_ => ?_ | refine em_ fun x_ hx_ => ?_ | refine Elem1.mk fun e_ he_ => ?_); refine g0_ ?_))
              (refine g0_ ?_; repeat ((first | refine n1_ fun b_ => ?_ | refine n2_ fun b_ => ?_ | refine Nat1.mk fun q_ hq_ => ?_ | refine em_ fun x_ hx_ => ?_ | refine Elem1.mk fun e_ he_ => ?_); refine g0_ ?_))
              refine (hck).use ?_; (refine g0_ ?_; repeat ((first | refine n1_ fun b_ => ?_ | refine n2_ fun b_ => ?_ | refine Nat1.mk fun q_ hq_ => ?_ | refine em_ fun x_ hx_ => ?_ | refine Elem1.mk fun e_ he_ => ?_); refine g0_ ?_))
              (refine g1_ ?_; repeat ((first | refine n1_ fun b_ => ?_ | refine n2_ fun b_ => ?_ | refine Nat1.mk fun q_ hq_ => ?_ | refine em_ fun x_ hx_ => ?_ | refine Elem1.mk fun e_ he_ => ?_); refine g1_ ?_))
              refine (hpt).use ?_; (refine g0_ ?_; repeat ((first | refine n1_ fun b_ => ?_ | refine n2_ fun b_ => ?_ | refine Nat1.mk fun q_ hq_ => ?_ | refine em_ fun x_ hx_ => ?_ | refine Elem1.mk fun e_ he_ => ?_); refine g0_ ?_))
              (refine g1_ ?_; repeat ((first | refine n1_ fun b_ => ?_ | refine n2_ fun b_ => ?_ | refine Nat1.mk fun q_ hq_ => ?_ | refine em_ fun x_ hx_ => ?_ | refine Elem1.mk fun e_ he_ => ?_); refine g1_ ?_))
              refine (hsm).use ?_; (refine g0_ ?_; repeat ((first | refine n1_ fun b_ => ?_ | refine n2_ fun b_ => ?_ | refine Nat1.mk fun q_ hq_ => ?_ | refine em_ fun x_ hx_ => ?_ | refine Elem1.mk fun e_ he_ => ?_); refine g0_ ?_))
              (refine g1_ ?_; repeat ((first | refine n1_ fun b_ => ?_ | refine n2_ fun b_ => ?_ | refine Nat1.mk fun q_ hq_ => ?_ | refine em_ fun x_ hx_ => ?_ | refine Elem1.mk fun e_ he_ => ?_); refine g1_ ?_))
              refine (hct).use ?_; (refine g0_ ?_; repeat ((first | refine n1_ fun b_ => ?_ | refine n2_ fun b_ => ?_ | refine Nat1.mk fun q_ hq_ => ?_ | refine em_ fun x_ hx_ => ?_ | refine Elem1.mk fun e_ he_ => ?_); refine g0_ ?_))
              (refine g1_ ?_; repeat ((first | refine n1_ fun b_ => ?_ | refine n2_ fun b_ => ?_ | refine Nat1.mk fun q_ hq_ => ?_ | refine em_ fun x_ hx_ => ?_ | refine Elem1.mk fun e_ he_ => ?_); refine g1_ ?_))
              refine (hcf).use ?_; (refine g0_ ?_; repeat ((first | refine n1_ fun b_ => ?_ | refine n2_ fun b_ => ?_ | refine Nat1.mk fun q_ hq_ => ?_ | refine em_ fun x_ hx_ => ?_ | refine Elem1.mk fun e_ he_ => ?_); refine g0_ ?_))
              (refine g1_ ?_; repeat ((first | refine n1_ fun b_ => ?_ | refine n2_ fun b_ => ?_ | refine Nat1.mk fun q_ hq_ => ?_ | refine em_ fun x_ hx_ => ?_ | refine Elem1.mk fun e_ he_ => ?_); refine g1_ ?_))
              refine head_ ?_; (refine g0_ ?_; repeat ((first | refine n1_ fun b_ => ?_ | refine n2_ fun b_ => ?_ | refine Nat1.mk fun q_ hq_ => ?_ | refine em_ fun x_ hx_ => ?_ | refine Elem1.mk fun e_ he_ => ?_); refine g0_ ?_))
              refine ⟨_, (hcs).quiet, ?_⟩; (refine g0_ ?_; repeat ((first | refine n1_ fun b_ => ?_ | refine n2_ fun b_ => ?_ | refine Nat1.mk fun q_ hq_ => ?_ | refine em_ fun x_ hx_ => ?_ | refine Elem1.mk fun e_ he_ => ?_); refine g0_ ?_))
              refine ⟨_, (hss).quiet, ?_⟩; (refine g0_ ?_; repeat ((first | refine n1_ fun b_ => ?_ | refine n2_ fun b_ => ?_ | refine Nat1.mk fun q_ hq_ => ?_ | refine em_ fun x_ hx_ => ?_ | refine Elem1.mk fun e_ he_ => ?_); refine g0_ ?_))
              (refine g1_ ?_; repeat ((first | refine n1_ fun b_ => ?_ | refine n2_ fun b_ => ?_ | refine Nat1.mk fun q_ hq_ => ?_ | refine em_ fun x_ hx_ => ?_ | refine Elem1.mk fun e_ he_ => ?_); refine g1_ ?_))
              refine (hno).use ?_; (refine g0_ ?_; repeat ((first | refine n1_ fun b_ => ?_ | refine n2_ fun b_ => ?_ | refine Nat1.mk fun q_ hq_ => ?_ | refine em_ fun x_ hx_ => ?_ | refine Elem1.mk fun e_ he_ => ?_); refine g0_ ?_))
              exact .refl _
            · have hcn := cnt_right t 0 (hr h0).1
              have hds := dropSplit_ok W pane t (by omega)
              rcases drop_rel pane t 0 (hr h0).1 hnd with ⟨g1, g2, -⟩ | ⟨t', g1, g2, -⟩
              · rw [leaf_panes g1 g2] at h5
                exact absurd rfl h5
              have hok := plain_okT t' (by have := cnt_with pane t 0; rw [g1, cntTs, cntTs] at this; omega) (with_okT pane t (by omega) ht 0 t' (by rw [g1]; simp))
              have hsp := sameT_ok W _ hok (plainT t')
              rw [sameT_rfl] at hsp
              rw [if_neg h5, g1, List.headD_cons] at hdr
              rw [g2] at hds
              generalize plainT t' = C at *
              generalize panesT t = l at *
              have hln := panesV_len l
              obtain ⟨w', p, s, ks⟩ := t
              obtain ⟨w3, p3, s3, ks3⟩ := C
              simp only [encSpl_mk] at *
              refine Pure.of (acalls_of_vc (drawOk W) Try.func5 rfl (by decide) (by decide) rfl ?_)
              (refine g0_ ?_; repeat ((first | refine n1_ fun b_ => ?_ | refine n2_ fun b_ => ?_ | refine Nat1.mk fun q_ hq_ => ?_ | refine em_ fun x_ hx_ => ?_ | refine Elem1.mk fun e_ he_ => ?_); refine g0_ ?_))
              refine (hown).use ?_; (refine g0_ ?_; repeat ((first | refine n1_ fun b_ => ?_ | refine n2_ fun b_ => ?_ | refine Nat1.mk fun q_ hq_ => ?_ | refine em_ fun x_ hx_ => ?_ | refine Elem1.mk fun e_ he_ => ?_); refine g0_ ?_))
              (refine g0_ ?_; repeat ((first | refine n1_ fun b_ => ?_ | refine n2_ fun b_ => ?_ | refine Nat1.mk fun q_ hq_ => ?_ | refine em_ fun x_ hx_ => ?_ | refine Elem1.mk fun e_ he_ => ?_); refine g0_ ?_))
              refine (hcu).use ?_; (refine g0_ ?_; repeat ((first | refine n1_ fun b_ => ?_ | refine n2_ fun b_ => ?_ | refine Nat1.mk fun q_ hq_ => ?_ | refine em_ fun x_ hx_ => ?_ | refine Elem1.mk fun e_ he_ => ?_); refine g0_ ?_))
              (refine g0_ ?_; repeat ((first | refine n1_ fun b_ => ?_ | refine n2_ fun b_ => ?_ | refine Nat1.mk fun q_ hq_ => ?_ | refine em_ fun x_ hx_ => ?_ | refine Elem1.mk fun e_ he_ => ?_); refine g0_ ?_))
              refine (hdr).use ?_; (refine g0_ ?_; repeat ((first | refine n1_ fun b_ => ?_ | refine n2_ fun b_ => ?_ | refine Nat1.mk fun q_ hq_ => ?_ | refine em_ fun x_ hx_ => ?_ | refine Elem1.mk fun e_ he_ => ?_); refine g0_ ?_))
              (refine g0_ ?_; repeat ((first | refine n1_ fun b_ => ?_ | refine n2_ fun b_ => ?_ | refine Nat1.mk fun q_ hq_ => ?_ | refine em_ fun x_ hx_ => ?_ | refine Elem1.mk fun e_ he_ => ?_); refine g0_ ?_))
              refine (hck).use ?_; (refine g0_ ?_; repeat ((first | refine n1_ fun b_ => ?_ | refine n2_ fun b_ => ?_ | refine Nat1.mk fun q_ hq_ => ?_ | refine em_ fun x_ hx_ => ?_ | refine Elem1.mk fun e_ he_ => ?_); refine g0_ ?_))
              (refine g1_ ?_; repeat ((first | refine n1_ fun b_ => ?_ | refine n2_ fun b_ => ?_ | refine Nat1.mk fun q_ hq_ => ?_ | refine em_ fun x_ hx_ => ?_ | refine Elem1.mk fun e_ he_ => ?_); refine g1_ ?_))
              refine (hpt).use ?_; (refine g0_ ?_; repeat ((first | refine n1_ fun b_ => ?_ | refine n2_ fun b_ => ?_ | refine Nat1.mk fun q_ hq_ => ?_ | refine em_ fun x_ hx_ => ?_ | refine Elem1.mk fun e_ he_ => ?_); refine g0_ ?_))
              (refine g1_ ?_; repeat ((first | refine n1_ fun b_ => ?_ | refine n2_ fun b_ => ?_ | refine Nat1.mk fun q_ hq_ => ?_ | refine em_ fun x_ hx_ => ?_ | refine Elem1.mk fun e_ he_ => ?_); refine g1_ ?_))
              refine (hsm).use ?_; (refine g0_ ?_; repeat ((first | refine n1_ fun b_ => ?_ | refine n2_ fun b_ => ?_ | refine Nat1.mk fun q_ hq_ => ?_ | refine em_ fun x_ hx_ => ?_ | refine Elem1.mk fun e_ he_ => ?_); refine g0_ ?_))
              (refine g1_ ?_; repeat ((first | refine n1_ fun b_ => ?_ | refine n2_ fun b_ => ?_ | refine Nat1.mk fun q_ hq_ => ?_ | refine em_ fun x_ hx_ => ?_ | refine Elem1.mk fun e_ he_ => ?_); refine g1_ ?_))
              refine (hct).use ?_; (refine g0_ ?_; repeat ((first | refine n1_ fun b_ => ?_ | refine n2_ fun b_ => ?_ | refine Nat1.mk fun q_ hq_ => ?_ | refine em_ fun x_ hx_ => ?_ | refine Elem1.mk fun e_ he_ => ?_); refine g0_ ?_))
              (refine g1_ ?_; repeat ((first | refine n1_ fun b_ => ?_ | refine n2_ fun b_ => ?_ | refine Nat1.mk fun q_ hq_ => ?_ | refine em_ fun x_ hx_ => ?_ | refine Elem1.mk fun e_ he_ => ?_); refine g1_ ?_))
              refine (hcf).use ?_; (refine g0_ ?_; repeat ((first | refine n1_ fun b_ => ?_ | refine n2_ fun b_ => ?_ | refine Nat1.mk fun q_ hq_ => ?_ | refine em_ fun x_ hx_ => ?_ | refine Elem1.mk fun e_ he_ => ?_); refine g0_ ?_))
              (refine g1_ ?_; repeat ((first | refine n1_ fun b_ => ?_ | refine n2_ fun b_ => ?_ | refine Nat1.mk fun q_ hq_ => ?_ | refine em_ fun x_ hx_ => ?_ | refine Elem1.mk fun e_ he_ => ?_); refine g1_ ?_))
              refine head_ ?_; (refine g0_ ?_; repeat ((first | refine n1_ fun b_ => ?_ | refine n2_ fun b_ => ?_ | refine Nat1.mk fun q_ hq_ => ?_ | refine em_ fun x_ hx_ => ?_ | refine Elem1.mk fun e_ he_ => ?_); refine g0_ ?_))
              refine ⟨_, (hcs).quiet, ?_⟩; (refine g0_ ?_; repeat ((first | refine n1_ fun b_ => ?_ | refine n2_ fun b_ => ?_ | refine Nat1.mk fun q_ hq_ => ?_ | refine em_ fun x_ hx_ => ?_ | refine Elem1.mk fun e_ he_ => ?_); refine g0_ ?_))
              refine ⟨_, (hss).quiet, ?_⟩; (refine g0_ ?_; repeat ((first | refine n1_ fun b_ => ?_ | refine n2_ fun b_ => ?_ | refine Nat1.mk fun q_ hq_ => ?_ | refine em_ fun x_ hx_ => ?_ | refine Elem1.mk fun e_ he_ => ?_); refine g0_ ?_))
              (refine g1_ ?_; repeat ((first | refine n1_ fun b_ => ?_ | refine n2_ fun b_ => ?_ | refine Nat1.mk fun q_ hq_ => ?_ | refine em_ fun x_ hx_ => ?_ | refine Elem1.mk fun e_ he_ => ?_); refine g1_ ?_))
              refine (hds).use ?_; (refine g0_ ?_; repeat ((first | refine n1_ fun b_ => ?_ | refine n2_ fun b_ => ?_ | refine Nat1.mk fun q_ hq_ => ?_ | refine em_ fun x_ hx_ => ?_ | refine Elem1.mk fun e_ he_ => ?_); refine g0_ ?_))
              (refine g1_ ?_; repeat ((first | refine n1_ fun b_ => ?_ | refine n2_ fun b_ => ?_ | refine Nat1.mk fun q_ hq_ => ?_ | refine em_ fun x_ hx_ => ?_ | refine Elem1.mk fun e_ he_ => ?_); refine g1_ ?_))
              refine (hsp).use ?_; (refine g0_ ?_; repeat ((first | refine n1_ fun b_ => ?_ | refine n2_ fun b_ => ?_ | refine Nat1.mk fun q_ hq_ => ?_ | refine em_ fun x_ hx_ => ?_ | refine Elem1.mk fun e_ he_ => ?_); refine g0_ ?_))
              exact .refl _
    · rw [if_pos h1, zeroV_eq] at hcu hdr
      rw [decide_eq_false h1] at hct
      generalize panesT t = l at *
      obtain ⟨w', p, s, ks⟩ := t
      rw [encSpl_mk] at *
      refine Pure.of (acalls_of_vc (drawOk W) Try.func5 rfl (by decide) (by decide) rfl ?_)
      (refine g0_ ?_; repeat ((first | refine n1_ fun b_ => ?_ | refine n2_ fun b_ => ?_ | refine Nat1.mk fun q_ hq_ => ?_ | refine em_ fun x_ hx_ => ?_ | refine Elem1.mk fun e_ he_ => ?_); refine g0_ ?_))
      refine (hown).use ?_; (refine g0_ ?_; repeat ((first | refine n1_ fun b_ => ?_ | refine n2_ fun b_ => ?_ | refine Nat1.mk fun q_ hq_ => ?_ | refine em_ fun x_ hx_ => ?_ | refine Elem1.mk fun e_ he_ => ?_); refine g0_ ?_))
      (refine g0_ ?_; repeat ((first | refine n1_ fun b_ => ?_ | refine n2_ fun b_ => ?_ | refine Nat1.mk fun q_ hq_ => ?_ | refine em_ fun x_ hx_ => ?_ | refine Elem1.mk fun e_ he_ => ?_); refine g0_ ?_))
      refine (hcu).use ?_; (refine g0_ ?_; repeat ((first | refine n1_ fun b_ => ?_ | refine n2_ fun b_ => ?_ | refine Nat1.mk fun q_ hq_ => ?_ | refine em_ fun x_ hx_ => ?_ | refine Elem1.mk fun e_ he_ => ?_); refine g0_ ?_))
      (refine g0_ ?_; repeat ((first | refine n1_ fun b_ => ?_ | refine n2_ fun b_ => ?_ | refine Nat1.mk fun q_ hq_ => ?_ | refine em_ fun x_ hx_ => ?_ | refine Elem1.mk fun e_ he_ => ?_); refine g0_ ?_))
      refine (hdr).use ?_; (refine g0_ ?_; repeat ((first | refine n1_ fun b_ => ?_ | refine n2_ fun b_ => ?_ | refine Nat1.mk fun q_ hq_ => ?_ | refine em_ fun x_ hx_ => ?_ | refine Elem1.mk fun e_ he_ => ?_); refine g0_ ?_))
      (refine g0_ ?_; repeat ((first | refine n1_ fun b_ => ?_ | refine n2_ fun b_ => ?_ | refine Nat1.mk fun q_ hq_ => ?_ | refine em_ fun x_ hx_ => ?_ | refine Elem1.mk fun e_ he_ => ?_); refine g0_ ?_))
      refine (hck).use ?_; (refine g0_ ?_; repeat ((first | refine n1_ fun b_ => ?_ | refine n2_ fun b_ => ?_ | refine Nat1.mk fun q_ hq_ => ?_ | refine em_ fun x_ hx_ => ?_ | refine Elem1.mk fun e_ he_ => ?_); refine g0_ ?_))
      (refine g1_ ?_; repeat ((first | refine n1_ fun b_ => ?_ | refine n2_ fun b_ => ?_ | refine Nat1.mk fun q_ hq_ => ?_ | refine em_ fun x_ hx_ => ?_ | refine Elem1.mk fun e_ he_ => ?_); refine g1_ ?_))
      refine (hpt).use ?_; (refine g0_ ?_; repeat ((first | refine n1_ fun b_ => ?_ | refine n2_ fun b_ => ?_ | refine Nat1.mk fun q_ hq_ => ?_ | refine em_ fun x_ hx_ => ?_ | refine Elem1.mk fun e_ he_ => ?_); refine g0_ ?_))
      (refine g1_ ?_; repeat ((first | refine n1_ fun b_ => ?_ | refine n2_ fun b_ => ?_ | refine Nat1.mk fun q_ hq_ => ?_ | refine em_ fun x_ hx_ => ?_ | refine Elem1.mk fun e_ he_ => ?_); refine g1_ ?_))
      refine (hsm).use ?_; (refine g0_ ?_; repeat ((first | refine n1_ fun b_ => ?_ | refine n2_ fun b_ => ?_ | refine Nat1.mk fun q_ hq_ => ?_ | refine em_ fun x_ hx_ => ?_ | refine Elem1.mk fun e_ he_ => ?_); refine g0_ ?_))
      (refine g1_ ?_; repeat ((first | refine n1_ fun b_ => ?_ | refine n2_ fun b_ => ?_ | refine Nat1.mk fun q_ hq_ => ?_ | refine em_ fun x_ hx_ => ?_ | refine Elem1.mk fun e_ he_ => ?_); refine g1_ ?_))
      refine (hct).use ?_; (refine g0_ ?_; repeat ((first | refine n1_ fun b_ => ?_ | refine n2_ fun b_ => ?_ | refine Nat1.mk fun q_ hq_ => ?_ | refine em_ fun x_ hx_ => ?_ | refine Elem1.mk fun e_ he_ => ?_); refine g0_ ?_))
      (refine g1_ ?_; repeat ((first | refine n1_ fun b_ => ?_ | refine n2_ fun b_ => ?_ | refine Nat1.mk fun q_ hq_ => ?_ | refine em_ fun x_ hx_ => ?_ | refine Elem1.mk fun e_ he_ => ?_); refine g1_ ?_))
      refine head_ ?_; (refine g0_ ?_; repeat ((first | refine n1_ fun b_ => ?_ | refine n2_ fun b_ => ?_ | refine Nat1.mk fun q_ hq_ => ?_ | refine em_ fun x_ hx_ => ?_ | refine Elem1.mk fun e_ he_ => ?_); refine g0_ ?_))
      refine ⟨_, (hno).quiet, ?_⟩; (refine g0_ ?_; repeat ((first | refine n1_ fun b_ => ?_ | refine n2_ fun b_ => ?_ | refine Nat1.mk fun q_ hq_ => ?_ | refine em_ fun x_ hx_ => ?_ | refine Elem1.mk fun e_ he_ => ?_); refine g0_ ?_))
      (refine g1_ ?_; repeat ((first | refine n1_ fun b_ => ?_ | refine n2_ fun b_ => ?_ | refine Nat1.mk fun q_ hq_ => ?_ | refine em_ fun x_ hx_ => ?_ | refine Elem1.mk fun e_ he_ => ?_); refine g1_ ?_))
      refine (hno).use ?_; (refine g0_ ?_; repeat ((first | refine n1_ fun b_ => ?_ | refine n2_ fun b_ => ?_ | refine Nat1.mk fun q_ hq_ => ?_ | refine em_ fun x_ hx_ => ?_ | refine Elem1.mk fun e_ he_ => ?_); refine g0_ ?_))
      exact .refl _
  · rw [if_pos h0, zeroV_eq] at hcu hdr
    obtain ⟨w', p, s, ks⟩ := t
    rw [encSpl_mk] at *
    refine Pure.of (acalls_of_vc (drawOk W) Try.func5 rfl (by decide) (by decide) rfl ?_)
    (refine g0_ ?_; repeat ((first | refine n1_ fun b_ => ?_ | refine n2_ fun b_ => ?_ | refine Nat1.mk fun q_ hq_ => ?_ | refine em_ fun x_ hx_ => ?_ | refine Elem1.mk fun e_ he_ => ?_); refine g0_ ?_))
    refine (hown).use ?_; (refine g0_ ?_; repeat ((first | refine n1_ fun b_ => ?_ | refine n2_ fun b_ => ?_ | refine Nat1.mk fun q_ hq_ => ?_ | refine em_ fun x_ hx_ => ?_ | refine Elem1.mk fun e_ he_ => ?_); refine g0_ ?_))
    (refine g0_ ?_; repeat ((first | refine n1_ fun b_ => ?_ | refine n2_ fun b_ => ?_ | refine Nat1.mk fun q_ hq_ => ?_ | refine em_ fun x_ hx_ => ?_ | refine Elem1.mk fun e_ he_ => ?_); refine g0_ ?_))
    refine (hcu).use ?_; (refine g0_ ?_; repeat ((first | refine n1_ fun b_ => ?_ | refine n2_ fun b_ => ?_ | refine Nat1.mk fun q_ hq_ => ?_ | refine em_ fun x_ hx_ => ?_ | refine Elem1.mk fun e_ he_ => ?_); refine g0_ ?_))
    (refine g0_ ?_; repeat ((first | refine n1_ fun b_ => ?_ | refine n2_ fun b_ => ?_ | refine Nat1.mk fun q_ hq_ => ?_ | refine em_ fun x_ hx_ => ?_ | refine Elem1.mk fun e_ he_ => ?_); refine g0_ ?_))
    refine (hdr).use ?_; (refine g0_ ?_; repeat ((first | refine n1_ fun b_ => ?_ | refine n2_ fun b_ => ?_ | refine Nat1.mk fun q_ hq_ => ?_ | refine em_ fun x_ hx_ => ?_ | refine Elem1.mk fun e_ he_ => ?_); refine g0_ ?_))
    (refine g0_ ?_; repeat ((first | refine n1_ fun b_ => ?_ | refine n2_ fun b_ => ?_ | refine Nat1.mk fun q_ hq_ => ?_ | refine em_ fun x_ hx_ => ?_ | refine Elem1.mk fun e_ he_ => ?_); refine g0_ ?_))
    refine (hck).use ?_; (refine g0_ ?_; repeat ((first | refine n1_ fun b_ => ?_ | refine n2_ fun b_ => ?_ | refine Nat1.mk fun q_ hq_ => ?_ | refine em_ fun x_ hx_ => ?_ | refine Elem1.mk fun e_ he_ => ?_); refine g0_ ?_))
    (refine g1_ ?_; repeat ((first | refine n1_ fun b_ => ?_ | refine n2_ fun b_ => ?_ | refine Nat1.mk fun q_ hq_ => ?_ | refine em_ fun x_ hx_ => ?_ | refine Elem1.mk fun e_ he_ => ?_); refine g1_ ?_))
    refine (hpt).use ?_; (refine g0_ ?_; repeat ((first | refine n1_ fun b_ => ?_ | refine n2_ fun b_ => ?_ | refine Nat1.mk fun q_ hq_ => ?_ | refine em_ fun x_ hx_ => ?_ | refine Elem1.mk fun e_ he_ => ?_); refine g0_ ?_))
    (refine g1_ ?_; repeat ((first | refine n1_ fun b_ => ?_ | refine n2_ fun b_ => ?_ | refine Nat1.mk fun q_ hq_ => ?_ | refine em_ fun x_ hx_ => ?_ | refine Elem1.mk fun e_ he_ => ?_); refine g1_ ?_))
    refine (hsm).use ?_; (refine g0_ ?_; repeat ((first | refine n1_ fun b_ => ?_ | refine n2_ fun b_ => ?_ | refine Nat1.mk fun q_ hq_ => ?_ | refine em_ fun x_ hx_ => ?_ | refine Elem1.mk fun e_ he_ => ?_); refine g0_ ?_))
    (refine g1_ ?_; repeat ((first | refine n1_ fun b_ => ?_ | refine n2_ fun b_ => ?_ | refine Nat1.mk fun q_ hq_ => ?_ | refine em_ fun x_ hx_ => ?_ | refine Elem1.mk fun e_ he_ => ?_); refine g1_ ?_))
    refine (hpt).use ?_; (refine g0_ ?_; repeat ((first | refine n1_ fun b_ => ?_ | refine n2_ fun b_ => ?_ | refine Nat1.mk fun q_ hq_ => ?_ | refine em_ fun x_ hx_ => ?_ | refine Elem1.mk fun e_ he_ => ?_); refine g0_ ?_))
    (refine g1_ ?_; repeat ((first | refine n1_ fun b_ => ?_ | refine n2_ fun b_ => ?_ | refine Nat1.mk fun q_ hq_ => ?_ | refine em_ fun x_ hx_ => ?_ | refine Elem1.mk fun e_ he_ => ?_); refine g1_ ?_))
    refine (hsm).use ?_; (refine g0_ ?_; repeat ((first | refine n1_ fun b_ => ?_ | refine n2_ fun b_ => ?_ | refine Nat1.mk fun q_ hq_ => ?_ | refine em_ fun x_ hx_ => ?_ | refine Elem1.mk fun e_ he_ => ?_); refine g0_ ?_))
    (refine g1_ ?_; repeat ((first | refine n1_ fun b_ => ?_ | refine n2_ fun b_ => ?_ | refine Nat1.mk fun q_ hq_ => ?_ | refine em_ fun x_ hx_ => ?_ | refine Elem1.mk fun e_ he_ => ?_); refine g1_ ?_))
    refine (hno).use ?_; (refine g0_ ?_; repeat ((first | refine n1_ fun b_ => ?_ | refine n2_ fun b_ => ?_ | refine Nat1.mk fun q_ hq_ => ?_ | refine em_ fun x_ hx_ => ?_ | refine Elem1.mk fun e_ he_ => ?_); refine g0_ ?_))
    (refine g1_ ?_; repeat ((first | refine n1_ fun b_ => ?_ | refine n2_ fun b_ => ?_ | refine Nat1.mk fun q_ hq_ => ?_ | refine em_ fun x_ hx_ => ?_ | refine Elem1.mk fun e_ he_ => ?_); refine g1_ ?_))
    refine (hno).use ?_; (refine g0_ ?_; repeat ((first | refine n1_ fun b_ => ?_ | refine n2_ fun b_ => ?_ | refine Nat1.mk fun q_ hq_ => ?_ | refine em_ fun x_ hx_ => ?_ | refine Elem1.mk fun e_ he_ => ?_); refine g0_ ?_))
    exact .refl _
end Go.Eng.Ytkbfojigbbokcaa
end
