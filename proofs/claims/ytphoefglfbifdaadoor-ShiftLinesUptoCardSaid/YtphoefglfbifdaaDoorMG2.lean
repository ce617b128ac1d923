/- Texts put together: Check, GridP, GridN, GridN2, GridW, GridE, GridY, GridZ. -/
import Derived.Test.YtphoefglfbifdaaDoorMG1
import Derived.Test.YtphoefglfbifdaaDoorMS1
import Derived.Lib.TrimByte
import Derived.Test.YtphoefglfbifdaaDoorMT1
/- Grids checked: package grid's, and the document's. -/
section
namespace Go.Eng.YtphoefglfbifdaaDoor
open Go Go.Eng Go.Proofs
variable (W : World)
set_option linter.unusedSimpArgs false
set_option maxRecDepth 100000
set_option linter.unusedVariables false
set_option maxHeartbeats 4000000
theorem check_ok (g : Grid) (hg : g.ok) : Pure Tryd.prog W 83 [encGrid g] (.int .i64 (checkG g)) := by
  obtain ⟨gw, gh, cs⟩ := g
  have hlen : (cs.map encCell).length = cs.length := List.length_map ..
  rw [show encGrid ⟨gw, gh, cs⟩ = .agg [.int .i64 gw, .int .i64 gh, .sl 4 (cs.map encCell)] from rfl]
  refine Pure.of (acalls_of_vc (drawOk W) Tryd.func83 rfl (by decide) (by decide) rfl ?_)
  (refine g0_ ?_; repeat ((first | refine n1_ fun b_ => ?_ | refine n2_ fun b_ => ?_ | refine Nat1.mk fun q_ hq_ => ?_ | refine em_ fun x_ hx_ => ?_); refine g0_ ?_))
  refine brec ?_; intro c_ hs; (try rw [hs]); cases c_ <;> replace hs := nm_ hs
  · obtain ⟨w, rfl⟩ := Int.eq_ofNat_of_zero_le (show 0 ≤ gw by omega)
    obtain ⟨h, rfl⟩ := Int.eq_ofNat_of_zero_le (show 0 ≤ gh by omega)
    have hm0 : w * h ≤ 120 * 60 := Nat.mul_le_mul (by omega) (by omega)
    have hm : (w : Int) * h ≤ 7200 := by exact_mod_cast hm0
    have hm1 : 0 ≤ (w : Int) * h := Int.mul_nonneg (by omega) (by omega)
    (refine g0_ ?_; repeat ((first | refine n1_ fun b_ => ?_ | refine n2_ fun b_ => ?_ | refine Nat1.mk fun q_ hq_ => ?_ | refine em_ fun x_ hx_ => ?_); refine g0_ ?_))
    (refine g1_ ?_; repeat ((first | refine n1_ fun b_ => ?_ | refine n2_ fun b_ => ?_ | refine Nat1.mk fun q_ hq_ => ?_ | refine em_ fun x_ hx_ => ?_); refine g1_ ?_))
    refine brec ?_; intro c_ hc; (try rw [hc]); cases c_ <;> replace hc := nm_ hc
    · have hn : cs.length = w * h := by
        simp only [List.length_map] at hc
        exact_mod_cast hc
      have hG : checkG ⟨w, h, cs⟩ = errFrom w cs 0 cs := by
        rw [checkG, if_pos ⟨by simp [sizeB]; omega, by rw [hn]; push_cast; rfl⟩, Int.toNat_natCast]
      (refine g0_ ?_; repeat ((first | refine n1_ fun b_ => ?_ | refine n2_ fun b_ => ?_ | refine Nat1.mk fun q_ hq_ => ?_ | refine em_ fun x_ hx_ => ?_); refine g0_ ?_))
      refine' loopI (α := Nat) (fun i => [(37, .int .i64 i)]) [(1, _), (35, _), (36, _)] (fun i => [⟨b_, .row 3 [.agg [.int .i64 w, .int .i64 h, .sl 4 (cs.map encCell)]] 0⟩]) (fun i => i ≤ cs.length ∧ errFrom w cs i (cs.drop i) = errFrom w cs 0 cs) (fun i => cs.length - i) 0 ?_ ?_
      · exact ⟨Nat.zero_le _, rfl⟩
      rintro i ⟨hi, hw⟩
      (refine g0_ ?_; repeat ((first | refine n1_ fun b_ => ?_ | refine n2_ fun b_ => ?_ | refine Nat1.mk fun q_ hq_ => ?_ | refine em_ fun x_ hx_ => ?_); refine g0_ ?_))
      refine brec ?_; intro c_ h1; (try rw [h1]); cases c_ <;> replace h1 := nm_ h1
      · (refine g0_ ?_; repeat ((first | refine n1_ fun b_ => ?_ | refine n2_ fun b_ => ?_ | refine Nat1.mk fun q_ hq_ => ?_ | refine em_ fun x_ hx_ => ?_); refine g0_ ?_))
        rw [List.drop_of_length_le (by omega)] at hw
        rw [hG, ← hw]
        exact .refl _
      · (refine g0_ ?_; repeat ((first | refine n1_ fun b_ => ?_ | refine n2_ fun b_ => ?_ | refine Nat1.mk fun q_ hq_ => ?_ | refine em_ fun x_ hx_ => ?_); refine g0_ ?_))
        obtain ⟨c, rfl⟩ : ∃ c, c = x_ := ⟨_, rfl⟩
        have hc1 := hx_
        clear hx_
        rw [drop_cons_of hc1, errFrom] at hw
        obtain ⟨T, hT⟩ : ∃ T : Nat, T = i % w := ⟨_, rfl⟩
        have hTm : (i : Int).tmod w = T := by rw [tmod_nat, hT]
        have hA : T = 0 ∨ 1 ≤ i := by rcases i with _ | i; · left; simp [hT]
                                      · right; omega
        have hB : (T : Int) = (w : Int) - 1 ∨ i + 1 < cs.length := by
          by_cases hl : i + 1 < w * h
          · right; omega
          · left; have := last_mod (by omega) hl; omega
        refine brec ?_; intro c_ hr; (try rw [hr]); cases c_ <;> replace hr := nm_ hr
        · (refine g0_ ?_; repeat ((first | refine n1_ fun b_ => ?_ | refine n2_ fun b_ => ?_ | refine Nat1.mk fun q_ hq_ => ?_ | refine em_ fun x_ hx_ => ?_); refine g0_ ?_))
          (refine g1_ ?_; repeat ((first | refine n1_ fun b_ => ?_ | refine n2_ fun b_ => ?_ | refine Nat1.mk fun q_ hq_ => ?_ | refine em_ fun x_ hx_ => ?_); refine g1_ ?_))
          refine (styleCheck_ok W c.s).use ?_; (refine g0_ ?_; repeat ((first | refine n1_ fun b_ => ?_ | refine n2_ fun b_ => ?_ | refine Nat1.mk fun q_ hq_ => ?_ | refine em_ fun x_ hx_ => ?_); refine g0_ ?_))
          (refine g1_ ?_; repeat ((first | refine n1_ fun b_ => ?_ | refine n2_ fun b_ => ?_ | refine Nat1.mk fun q_ hq_ => ?_ | refine em_ fun x_ hx_ => ?_); refine g1_ ?_))
          refine brec ?_; intro c_ hst; (try rw [hst]); cases c_ <;> replace hst := nm_ hst
          · have hbad : ¬ badCell c := by
              rintro (⟨h, -⟩ | h)
              · exact h hr
              · simp_all
            have hwr : widthL c.r = 0 := by rw [hr, w0]
            rw [if_neg hbad] at hw
            (refine g0_ ?_; repeat ((first | refine n1_ fun b_ => ?_ | refine n2_ fun b_ => ?_ | refine Nat1.mk fun q_ hq_ => ?_ | refine em_ fun x_ hx_ => ?_); refine g0_ ?_))
            refine Draws.head ⟨59, by decide +kernel, ?_⟩; (refine g0_ ?_; repeat ((first | refine n1_ fun b_ => ?_ | refine n2_ fun b_ => ?_ | refine Nat1.mk fun q_ hq_ => ?_ | refine em_ fun x_ hx_ => ?_); refine g0_ ?_))
            (refine g1_ ?_; repeat ((first | refine n1_ fun b_ => ?_ | refine n2_ fun b_ => ?_ | refine Nat1.mk fun q_ hq_ => ?_ | refine em_ fun x_ hx_ => ?_); refine g1_ ?_))
            refine brec ?_; intro c_ hT0; (try rw [hT0]); cases c_ <;> replace hT0 := nm_ hT0
            · (refine g0_ ?_; repeat ((first | refine n1_ fun b_ => ?_ | refine n2_ fun b_ => ?_ | refine Nat1.mk fun q_ hq_ => ?_ | refine em_ fun x_ hx_ => ?_); refine g0_ ?_))
              (refine g1_ ?_; repeat ((first | refine n1_ fun b_ => ?_ | refine n2_ fun b_ => ?_ | refine Nat1.mk fun q_ hq_ => ?_ | refine em_ fun x_ hx_ => ?_); refine g1_ ?_))
              obtain ⟨p, rfl⟩ : ∃ p, p = x_ := ⟨_, rfl⟩
              have hq1 : q_ = i - 1 := by omega
              have hp1 := hx_
              rw [hq1] at hp1
              refine ⟨_, (width_ok W p.r).quiet, ?_⟩; (refine g0_ ?_; repeat ((first | refine n1_ fun b_ => ?_ | refine n2_ fun b_ => ?_ | refine Nat1.mk fun q_ hq_ => ?_ | refine em_ fun x_ hx_ => ?_); refine g0_ ?_))
              (refine g1_ ?_; repeat ((first | refine n1_ fun b_ => ?_ | refine n2_ fun b_ => ?_ | refine Nat1.mk fun q_ hq_ => ?_ | refine em_ fun x_ hx_ => ?_); refine g1_ ?_))
              refine brec ?_; intro c_ hp2; (try rw [hp2]); cases c_ <;> replace hp2 := nm_ hp2
              · (refine g0_ ?_; repeat ((first | refine n1_ fun b_ => ?_ | refine n2_ fun b_ => ?_ | refine Nat1.mk fun q_ hq_ => ?_ | refine em_ fun x_ hx_ => ?_); refine g0_ ?_))
                (refine g1_ ?_; repeat ((first | refine n1_ fun b_ => ?_ | refine n2_ fun b_ => ?_ | refine Nat1.mk fun q_ hq_ => ?_ | refine em_ fun x_ hx_ => ?_); refine g1_ ?_))
                obtain rfl : p = x_ := by
                  rw [show q_ = i - 1 by omega, hp1] at hx_
                  exact Option.some.inj hx_
                refine ⟨_, neq_style p.s c.s (hg.2.2.1 p (List.mem_of_getElem? hp1)).2 (hg.2.2.1 c (List.mem_of_getElem? hc1)).2 _ _, ?_⟩
                (refine g0_ ?_; repeat ((first | refine n1_ fun b_ => ?_ | refine n2_ fun b_ => ?_ | refine Nat1.mk fun q_ hq_ => ?_ | refine em_ fun x_ hx_ => ?_); refine g0_ ?_))
                (refine g1_ ?_; repeat ((first | refine n1_ fun b_ => ?_ | refine n2_ fun b_ => ?_ | refine Nat1.mk fun q_ hq_ => ?_ | refine em_ fun x_ hx_ => ?_); refine g1_ ?_))
                refine brec ?_; intro c_ hs2; (try rw [hs2]); cases c_ <;> replace hs2 := nm_ hs2
                · (refine g0_ ?_; repeat ((first | refine n1_ fun b_ => ?_ | refine n2_ fun b_ => ?_ | refine Nat1.mk fun q_ hq_ => ?_ | refine em_ fun x_ hx_ => ?_); refine g0_ ?_))
                  (refine g1_ ?_; repeat ((first | refine n1_ fun b_ => ?_ | refine n2_ fun b_ => ?_ | refine Nat1.mk fun q_ hq_ => ?_ | refine em_ fun x_ hx_ => ?_); refine g1_ ?_))
                  refine ⟨_, (width_ok W c.r).quiet, ?_⟩; (refine g0_ ?_; repeat ((first | refine n1_ fun b_ => ?_ | refine n2_ fun b_ => ?_ | refine Nat1.mk fun q_ hq_ => ?_ | refine em_ fun x_ hx_ => ?_); refine g0_ ?_))
                  (refine g1_ ?_; repeat ((first | refine n1_ fun b_ => ?_ | refine n2_ fun b_ => ?_ | refine Nat1.mk fun q_ hq_ => ?_ | refine em_ fun x_ hx_ => ?_); refine g1_ ?_))
                  have hH : ¬ halfCell w cs i c := by rintro (⟨-, h | h⟩ | ⟨h, -⟩) <;> first | omega | (rw [hTm, hT] at hT0; omega) | (apply h; simp only [leftOk, hp1]; exact ⟨by omega, by simpa using hs2⟩)
                  rw [if_neg hH] at hw
                  (refine g0_ ?_; repeat ((first | refine n1_ fun b_ => ?_ | refine n2_ fun b_ => ?_ | refine Nat1.mk fun q_ hq_ => ?_ | refine em_ fun x_ hx_ => ?_); refine g0_ ?_))
                  (refine g1_ ?_; repeat ((first | refine n1_ fun b_ => ?_ | refine n2_ fun b_ => ?_ | refine Nat1.mk fun q_ hq_ => ?_ | refine em_ fun x_ hx_ => ?_); refine g1_ ?_))
                  refine nx_ (i + 1) ?_ ?_
                  · exact ⟨by omega, hw⟩
                  · omega
                · have hH : halfCell w cs i c := .inl ⟨hr, .inr (by simp only [leftOk, hp1]; rintro ⟨-, h⟩; simp [h] at hs2)⟩
                  rw [if_pos hH] at hw
                  (refine g0_ ?_; repeat ((first | refine n1_ fun b_ => ?_ | refine n2_ fun b_ => ?_ | refine Nat1.mk fun q_ hq_ => ?_ | refine em_ fun x_ hx_ => ?_); refine g0_ ?_))
                  (refine g1_ ?_; repeat ((first | refine n1_ fun b_ => ?_ | refine n2_ fun b_ => ?_ | refine Nat1.mk fun q_ hq_ => ?_ | refine em_ fun x_ hx_ => ?_); refine g1_ ?_))
                  rw [hG, ← hw]
                  exact .refl _
              · have hH : halfCell w cs i c := .inl ⟨hr, .inr (by simp only [leftOk, hp1]; rintro ⟨h, -⟩; omega)⟩
                rw [if_pos hH] at hw
                (refine g0_ ?_; repeat ((first | refine n1_ fun b_ => ?_ | refine n2_ fun b_ => ?_ | refine Nat1.mk fun q_ hq_ => ?_ | refine em_ fun x_ hx_ => ?_); refine g0_ ?_))
                (refine g1_ ?_; repeat ((first | refine n1_ fun b_ => ?_ | refine n2_ fun b_ => ?_ | refine Nat1.mk fun q_ hq_ => ?_ | refine em_ fun x_ hx_ => ?_); refine g1_ ?_))
                rw [hG, ← hw]
                exact .refl _
            · have hH : halfCell w cs i c := .inl ⟨hr, .inl (by rw [hTm, hT] at hT0; omega)⟩
              rw [if_pos hH] at hw
              (refine g0_ ?_; repeat ((first | refine n1_ fun b_ => ?_ | refine n2_ fun b_ => ?_ | refine Nat1.mk fun q_ hq_ => ?_ | refine em_ fun x_ hx_ => ?_); refine g0_ ?_))
              (refine g1_ ?_; repeat ((first | refine n1_ fun b_ => ?_ | refine n2_ fun b_ => ?_ | refine Nat1.mk fun q_ hq_ => ?_ | refine em_ fun x_ hx_ => ?_); refine g1_ ?_))
              rw [hG, ← hw]
              exact .refl _
          · have hbad : badCell c := .inr (by simp_all)
            rw [if_pos hbad] at hw
            (refine g0_ ?_; repeat ((first | refine n1_ fun b_ => ?_ | refine n2_ fun b_ => ?_ | refine Nat1.mk fun q_ hq_ => ?_ | refine em_ fun x_ hx_ => ?_); refine g0_ ?_))
            rw [hG, ← hw]
            exact .refl _
        · (refine g0_ ?_; repeat ((first | refine n1_ fun b_ => ?_ | refine n2_ fun b_ => ?_ | refine Nat1.mk fun q_ hq_ => ?_ | refine em_ fun x_ hx_ => ?_); refine g0_ ?_))
          (refine g1_ ?_; repeat ((first | refine n1_ fun b_ => ?_ | refine n2_ fun b_ => ?_ | refine Nat1.mk fun q_ hq_ => ?_ | refine em_ fun x_ hx_ => ?_); refine g1_ ?_))
          refine (width_ok W c.r).use ?_; (refine g0_ ?_; repeat ((first | refine n1_ fun b_ => ?_ | refine n2_ fun b_ => ?_ | refine Nat1.mk fun q_ hq_ => ?_ | refine em_ fun x_ hx_ => ?_); refine g0_ ?_))
          refine brec ?_; intro c_ hz; (try rw [hz]); cases c_ <;> replace hz := nm_ hz
          · (refine g0_ ?_; repeat ((first | refine n1_ fun b_ => ?_ | refine n2_ fun b_ => ?_ | refine Nat1.mk fun q_ hq_ => ?_ | refine em_ fun x_ hx_ => ?_); refine g0_ ?_))
            (refine g1_ ?_; repeat ((first | refine n1_ fun b_ => ?_ | refine n2_ fun b_ => ?_ | refine Nat1.mk fun q_ hq_ => ?_ | refine em_ fun x_ hx_ => ?_); refine g1_ ?_))
            refine (styleCheck_ok W c.s).use ?_; (refine g0_ ?_; repeat ((first | refine n1_ fun b_ => ?_ | refine n2_ fun b_ => ?_ | refine Nat1.mk fun q_ hq_ => ?_ | refine em_ fun x_ hx_ => ?_); refine g0_ ?_))
            (refine g1_ ?_; repeat ((first | refine n1_ fun b_ => ?_ | refine n2_ fun b_ => ?_ | refine Nat1.mk fun q_ hq_ => ?_ | refine em_ fun x_ hx_ => ?_); refine g1_ ?_))
            refine brec ?_; intro c_ hst; (try rw [hst]); cases c_ <;> replace hst := nm_ hst
            · have hbad : ¬ badCell c := by
                rintro (⟨-, h⟩ | h)
                · omega
                · simp_all
              rw [if_neg hbad] at hw
              (refine g0_ ?_; repeat ((first | refine n1_ fun b_ => ?_ | refine n2_ fun b_ => ?_ | refine Nat1.mk fun q_ hq_ => ?_ | refine em_ fun x_ hx_ => ?_); refine g0_ ?_))
              refine Draws.head ⟨59, by decide +kernel, ?_⟩; (refine g0_ ?_; repeat ((first | refine n1_ fun b_ => ?_ | refine n2_ fun b_ => ?_ | refine Nat1.mk fun q_ hq_ => ?_ | refine em_ fun x_ hx_ => ?_); refine g0_ ?_))
              (refine g1_ ?_; repeat ((first | refine n1_ fun b_ => ?_ | refine n2_ fun b_ => ?_ | refine Nat1.mk fun q_ hq_ => ?_ | refine em_ fun x_ hx_ => ?_); refine g1_ ?_))
              refine ⟨_, (width_ok W c.r).quiet, ?_⟩; (refine g0_ ?_; repeat ((first | refine n1_ fun b_ => ?_ | refine n2_ fun b_ => ?_ | refine Nat1.mk fun q_ hq_ => ?_ | refine em_ fun x_ hx_ => ?_); refine g0_ ?_))
              (refine g1_ ?_; repeat ((first | refine n1_ fun b_ => ?_ | refine n2_ fun b_ => ?_ | refine Nat1.mk fun q_ hq_ => ?_ | refine em_ fun x_ hx_ => ?_); refine g1_ ?_))
              refine brec ?_; intro c_ hw2; (try rw [hw2]); cases c_ <;> replace hw2 := nm_ hw2
              · (refine g0_ ?_; repeat ((first | refine n1_ fun b_ => ?_ | refine n2_ fun b_ => ?_ | refine Nat1.mk fun q_ hq_ => ?_ | refine em_ fun x_ hx_ => ?_); refine g0_ ?_))
                (refine g1_ ?_; repeat ((first | refine n1_ fun b_ => ?_ | refine n2_ fun b_ => ?_ | refine Nat1.mk fun q_ hq_ => ?_ | refine em_ fun x_ hx_ => ?_); refine g1_ ?_))
                have hH : ¬ halfCell w cs i c := by rintro (⟨h, -⟩ | ⟨h, -⟩) <;> omega
                rw [if_neg hH] at hw
                (refine g0_ ?_; repeat ((first | refine n1_ fun b_ => ?_ | refine n2_ fun b_ => ?_ | refine Nat1.mk fun q_ hq_ => ?_ | refine em_ fun x_ hx_ => ?_); refine g0_ ?_))
                (refine g1_ ?_; repeat ((first | refine n1_ fun b_ => ?_ | refine n2_ fun b_ => ?_ | refine Nat1.mk fun q_ hq_ => ?_ | refine em_ fun x_ hx_ => ?_); refine g1_ ?_))
                refine nx_ (i + 1) ?_ ?_
                · exact ⟨by omega, hw⟩
                · omega
              · (refine g0_ ?_; repeat ((first | refine n1_ fun b_ => ?_ | refine n2_ fun b_ => ?_ | refine Nat1.mk fun q_ hq_ => ?_ | refine em_ fun x_ hx_ => ?_); refine g0_ ?_))
                (refine g1_ ?_; repeat ((first | refine n1_ fun b_ => ?_ | refine n2_ fun b_ => ?_ | refine Nat1.mk fun q_ hq_ => ?_ | refine em_ fun x_ hx_ => ?_); refine g1_ ?_))
                refine brec ?_; intro c_ hT0; (try rw [hT0]); cases c_ <;> replace hT0 := nm_ hT0
                · (refine g0_ ?_; repeat ((first | refine n1_ fun b_ => ?_ | refine n2_ fun b_ => ?_ | refine Nat1.mk fun q_ hq_ => ?_ | refine em_ fun x_ hx_ => ?_); refine g0_ ?_))
                  (refine g1_ ?_; repeat ((first | refine n1_ fun b_ => ?_ | refine n2_ fun b_ => ?_ | refine Nat1.mk fun q_ hq_ => ?_ | refine em_ fun x_ hx_ => ?_); refine g1_ ?_))
                  obtain ⟨p, rfl⟩ : ∃ p, p = x_ := ⟨_, rfl⟩
                  have hp1 := hx_
                  refine brec ?_; intro c_ hp2; (try rw [hp2]); cases c_ <;> replace hp2 := nm_ hp2
                  · have hH : ¬ halfCell w cs i c := by rintro (⟨h, -⟩ | ⟨-, h | h⟩) <;> first | omega | (rw [hTm, hT] at hT0; omega) | (apply h; simp only [rightOk, hp1]; omega)
                    rw [if_neg hH] at hw
                    (refine g0_ ?_; repeat ((first | refine n1_ fun b_ => ?_ | refine n2_ fun b_ => ?_ | refine Nat1.mk fun q_ hq_ => ?_ | refine em_ fun x_ hx_ => ?_); refine g0_ ?_))
                    (refine g1_ ?_; repeat ((first | refine n1_ fun b_ => ?_ | refine n2_ fun b_ => ?_ | refine Nat1.mk fun q_ hq_ => ?_ | refine em_ fun x_ hx_ => ?_); refine g1_ ?_))
                    refine nx_ (i + 1) ?_ ?_
                    · exact ⟨by omega, hw⟩
                    · omega
                  · have hH : halfCell w cs i c := .inr ⟨by omega, .inr (by simp only [rightOk, hp1]; omega)⟩
                    rw [if_pos hH] at hw
                    (refine g0_ ?_; repeat ((first | refine n1_ fun b_ => ?_ | refine n2_ fun b_ => ?_ | refine Nat1.mk fun q_ hq_ => ?_ | refine em_ fun x_ hx_ => ?_); refine g0_ ?_))
                    (refine g1_ ?_; repeat ((first | refine n1_ fun b_ => ?_ | refine n2_ fun b_ => ?_ | refine Nat1.mk fun q_ hq_ => ?_ | refine em_ fun x_ hx_ => ?_); refine g1_ ?_))
                    rw [hG, ← hw]
                    exact .refl _
                · have hH : halfCell w cs i c := .inr ⟨by omega, .inl (by rw [hTm, hT] at hT0; omega)⟩
                  rw [if_pos hH] at hw
                  (refine g0_ ?_; repeat ((first | refine n1_ fun b_ => ?_ | refine n2_ fun b_ => ?_ | refine Nat1.mk fun q_ hq_ => ?_ | refine em_ fun x_ hx_ => ?_); refine g0_ ?_))
                  (refine g1_ ?_; repeat ((first | refine n1_ fun b_ => ?_ | refine n2_ fun b_ => ?_ | refine Nat1.mk fun q_ hq_ => ?_ | refine em_ fun x_ hx_ => ?_); refine g1_ ?_))
                  rw [hG, ← hw]
                  exact .refl _
            · have hbad : badCell c := .inr (by simp_all)
              rw [if_pos hbad] at hw
              (refine g0_ ?_; repeat ((first | refine n1_ fun b_ => ?_ | refine n2_ fun b_ => ?_ | refine Nat1.mk fun q_ hq_ => ?_ | refine em_ fun x_ hx_ => ?_); refine g0_ ?_))
              rw [hG, ← hw]
              exact .refl _
          · have hbad : badCell c := .inl ⟨hr, by omega⟩
            rw [if_pos hbad] at hw
            (refine g0_ ?_; repeat ((first | refine n1_ fun b_ => ?_ | refine n2_ fun b_ => ?_ | refine Nat1.mk fun q_ hq_ => ?_ | refine em_ fun x_ hx_ => ?_); refine g0_ ?_))
            (refine g1_ ?_; repeat ((first | refine n1_ fun b_ => ?_ | refine n2_ fun b_ => ?_ | refine Nat1.mk fun q_ hq_ => ?_ | refine em_ fun x_ hx_ => ?_); refine g1_ ?_))
            rw [hG, ← hw]
            exact .refl _
    · have hG : checkG ⟨w, h, cs⟩ = 3 := by
        rw [checkG, if_neg (by rintro ⟨-, h2⟩; apply hc; rw [List.length_map]; exact h2)]
      (refine g0_ ?_; repeat ((first | refine n1_ fun b_ => ?_ | refine n2_ fun b_ => ?_ | refine Nat1.mk fun q_ hq_ => ?_ | refine em_ fun x_ hx_ => ?_); refine g0_ ?_))
      rw [hG]
      exact .refl _
  · have hG : checkG ⟨gw, gh, cs⟩ = 3 := by
      rw [checkG, if_neg (by rintro ⟨h1, -⟩; simp [sizeB] at h1; omega)]
    (refine g0_ ?_; repeat ((first | refine n1_ fun b_ => ?_ | refine n2_ fun b_ => ?_ | refine Nat1.mk fun q_ hq_ => ?_ | refine em_ fun x_ hx_ => ?_); refine g0_ ?_))
    (refine g1_ ?_; repeat ((first | refine n1_ fun b_ => ?_ | refine n2_ fun b_ => ?_ | refine Nat1.mk fun q_ hq_ => ?_ | refine em_ fun x_ hx_ => ?_); refine g1_ ?_))
    rw [hG]
    exact .refl _

theorem checkGrid_ok (g : Grid) (hg : g.ok) : Pure Tryd.prog W 63 [encGrid g] (.int .i64 (checkG g)) := by
  obtain ⟨gw, gh, cs⟩ := g
  have hlen : (cs.map encCell).length = cs.length := List.length_map ..
  rw [show encGrid ⟨gw, gh, cs⟩ = .agg [.int .i64 gw, .int .i64 gh, .sl 4 (cs.map encCell)] from rfl]
  refine Pure.of (acalls_of_vc (drawOk W) Tryd.func63 rfl (by decide) (by decide) rfl ?_)
  (refine g0_ ?_; repeat ((first | refine n1_ fun b_ => ?_ | refine n2_ fun b_ => ?_ | refine Nat1.mk fun q_ hq_ => ?_ | refine em_ fun x_ hx_ => ?_); refine g0_ ?_))
  refine brec ?_; intro c_ hs; (try rw [hs]); cases c_ <;> replace hs := nm_ hs
  · obtain ⟨w, rfl⟩ := Int.eq_ofNat_of_zero_le (show 0 ≤ gw by omega)
    obtain ⟨h, rfl⟩ := Int.eq_ofNat_of_zero_le (show 0 ≤ gh by omega)
    have hm0 : w * h ≤ 120 * 60 := Nat.mul_le_mul (by omega) (by omega)
    have hm : (w : Int) * h ≤ 7200 := by exact_mod_cast hm0
    have hm1 : 0 ≤ (w : Int) * h := Int.mul_nonneg (by omega) (by omega)
    (refine g0_ ?_; repeat ((first | refine n1_ fun b_ => ?_ | refine n2_ fun b_ => ?_ | refine Nat1.mk fun q_ hq_ => ?_ | refine em_ fun x_ hx_ => ?_); refine g0_ ?_))
    (refine g1_ ?_; repeat ((first | refine n1_ fun b_ => ?_ | refine n2_ fun b_ => ?_ | refine Nat1.mk fun q_ hq_ => ?_ | refine em_ fun x_ hx_ => ?_); refine g1_ ?_))
    refine brec ?_; intro c_ hc; (try rw [hc]); cases c_ <;> replace hc := nm_ hc
    · have hn : cs.length = w * h := by
        simp only [List.length_map] at hc
        exact_mod_cast hc
      have hG : checkG ⟨w, h, cs⟩ = errFrom w cs 0 cs := by
        rw [checkG, if_pos ⟨by simp [sizeB]; omega, by rw [hn]; push_cast; rfl⟩, Int.toNat_natCast]
      (refine g0_ ?_; repeat ((first | refine n1_ fun b_ => ?_ | refine n2_ fun b_ => ?_ | refine Nat1.mk fun q_ hq_ => ?_ | refine em_ fun x_ hx_ => ?_); refine g0_ ?_))
      refine' loopI (α := Nat) (fun i => [(39, .int .i64 i)]) [(1, _), (37, _), (38, _)] (fun i => [⟨b_, .row 3 [.agg [.int .i64 w, .int .i64 h, .sl 4 (cs.map encCell)]] 0⟩]) (fun i => i ≤ cs.length ∧ errFrom w cs i (cs.drop i) = errFrom w cs 0 cs) (fun i => cs.length - i) 0 ?_ ?_
      · exact ⟨Nat.zero_le _, rfl⟩
      rintro i ⟨hi, hw⟩
      (refine g0_ ?_; repeat ((first | refine n1_ fun b_ => ?_ | refine n2_ fun b_ => ?_ | refine Nat1.mk fun q_ hq_ => ?_ | refine em_ fun x_ hx_ => ?_); refine g0_ ?_))
      refine brec ?_; intro c_ h1; (try rw [h1]); cases c_ <;> replace h1 := nm_ h1
      · (refine g0_ ?_; repeat ((first | refine n1_ fun b_ => ?_ | refine n2_ fun b_ => ?_ | refine Nat1.mk fun q_ hq_ => ?_ | refine em_ fun x_ hx_ => ?_); refine g0_ ?_))
        rw [List.drop_of_length_le (by omega)] at hw
        rw [hG, ← hw]
        exact .refl _
      · (refine g0_ ?_; repeat ((first | refine n1_ fun b_ => ?_ | refine n2_ fun b_ => ?_ | refine Nat1.mk fun q_ hq_ => ?_ | refine em_ fun x_ hx_ => ?_); refine g0_ ?_))
        obtain ⟨c, rfl⟩ : ∃ c, c = x_ := ⟨_, rfl⟩
        have hc1 := hx_
        clear hx_
        rw [drop_cons_of hc1, errFrom] at hw
        obtain ⟨T, hT⟩ : ∃ T : Nat, T = i % w := ⟨_, rfl⟩
        have hTm : (i : Int).tmod w = T := by rw [tmod_nat, hT]
        have hA : T = 0 ∨ 1 ≤ i := by rcases i with _ | i; · left; simp [hT]
                                      · right; omega
        have hB : (T : Int) = (w : Int) - 1 ∨ i + 1 < cs.length := by
          by_cases hl : i + 1 < w * h
          · right; omega
          · left; have := last_mod (by omega) hl; omega
        refine (widthOf_ok W c.r).use ?_; (refine g0_ ?_; repeat ((first | refine n1_ fun b_ => ?_ | refine n2_ fun b_ => ?_ | refine Nat1.mk fun q_ hq_ => ?_ | refine em_ fun x_ hx_ => ?_); refine g0_ ?_))
        rw [← width_eq]
        (refine g0_ ?_; repeat ((first | refine n1_ fun b_ => ?_ | refine n2_ fun b_ => ?_ | refine Nat1.mk fun q_ hq_ => ?_ | refine em_ fun x_ hx_ => ?_); refine g0_ ?_))
        refine brec ?_; intro c_ hz; (try rw [hz]); cases c_ <;> replace hz := nm_ hz
        · (refine g0_ ?_; repeat ((first | refine n1_ fun b_ => ?_ | refine n2_ fun b_ => ?_ | refine Nat1.mk fun q_ hq_ => ?_ | refine em_ fun x_ hx_ => ?_); refine g0_ ?_))
          (refine g1_ ?_; repeat ((first | refine n1_ fun b_ => ?_ | refine n2_ fun b_ => ?_ | refine Nat1.mk fun q_ hq_ => ?_ | refine em_ fun x_ hx_ => ?_); refine g1_ ?_))
          refine (isStyle_ok W c.s).use ?_; (refine g0_ ?_; repeat ((first | refine n1_ fun b_ => ?_ | refine n2_ fun b_ => ?_ | refine Nat1.mk fun q_ hq_ => ?_ | refine em_ fun x_ hx_ => ?_); refine g0_ ?_))
          (refine g1_ ?_; repeat ((first | refine n1_ fun b_ => ?_ | refine n2_ fun b_ => ?_ | refine Nat1.mk fun q_ hq_ => ?_ | refine em_ fun x_ hx_ => ?_); refine g1_ ?_))
          refine brec ?_; intro c_ hst; (try rw [hst]); cases c_ <;> replace hst := nm_ hst
          · have hbad : ¬ badCell c := by
              rintro (⟨h1, h2⟩ | h)
              · omega
              · simp_all
            rw [if_neg hbad] at hw
            (refine g0_ ?_; repeat ((first | refine n1_ fun b_ => ?_ | refine n2_ fun b_ => ?_ | refine Nat1.mk fun q_ hq_ => ?_ | refine em_ fun x_ hx_ => ?_); refine g0_ ?_))
            refine Draws.head ⟨30, by decide +kernel, ?_⟩; (refine g0_ ?_; repeat ((first | refine n1_ fun b_ => ?_ | refine n2_ fun b_ => ?_ | refine Nat1.mk fun q_ hq_ => ?_ | refine em_ fun x_ hx_ => ?_); refine g0_ ?_))
            (refine g1_ ?_; repeat ((first | refine n1_ fun b_ => ?_ | refine n2_ fun b_ => ?_ | refine Nat1.mk fun q_ hq_ => ?_ | refine em_ fun x_ hx_ => ?_); refine g1_ ?_))
            refine brec ?_; intro c_ hr; (try rw [hr]); cases c_ <;> replace hr := nm_ hr
            · (refine g0_ ?_; repeat ((first | refine n1_ fun b_ => ?_ | refine n2_ fun b_ => ?_ | refine Nat1.mk fun q_ hq_ => ?_ | refine em_ fun x_ hx_ => ?_); refine g0_ ?_))
              (refine g1_ ?_; repeat ((first | refine n1_ fun b_ => ?_ | refine n2_ fun b_ => ?_ | refine Nat1.mk fun q_ hq_ => ?_ | refine em_ fun x_ hx_ => ?_); refine g1_ ?_))
              refine brec ?_; intro c_ hw2; (try rw [hw2]); cases c_ <;> replace hw2 := nm_ hw2
              · (refine g0_ ?_; repeat ((first | refine n1_ fun b_ => ?_ | refine n2_ fun b_ => ?_ | refine Nat1.mk fun q_ hq_ => ?_ | refine em_ fun x_ hx_ => ?_); refine g0_ ?_))
                (refine g1_ ?_; repeat ((first | refine n1_ fun b_ => ?_ | refine n2_ fun b_ => ?_ | refine Nat1.mk fun q_ hq_ => ?_ | refine em_ fun x_ hx_ => ?_); refine g1_ ?_))
                obtain ⟨p, rfl⟩ : ∃ p, p = x_ := ⟨_, rfl⟩
                have hp1 := hx_
                refine brec ?_; intro c_ hp2; (try rw [hp2]); cases c_ <;> replace hp2 := nm_ hp2
                · have hH : ¬ halfCell w cs i c := by rintro (⟨h, -⟩ | ⟨-, h | h⟩) <;> first | omega | (apply h; simp only [rightOk, hp1]; omega)
                  rw [if_neg hH] at hw
                  (refine g0_ ?_; repeat ((first | refine n1_ fun b_ => ?_ | refine n2_ fun b_ => ?_ | refine Nat1.mk fun q_ hq_ => ?_ | refine em_ fun x_ hx_ => ?_); refine g0_ ?_))
                  (refine g1_ ?_; repeat ((first | refine n1_ fun b_ => ?_ | refine n2_ fun b_ => ?_ | refine Nat1.mk fun q_ hq_ => ?_ | refine em_ fun x_ hx_ => ?_); refine g1_ ?_))
                  refine nx_ (i + 1) ?_ ?_
                  · exact ⟨by omega, hw⟩
                  · omega
                · have hH : halfCell w cs i c := .inr ⟨by omega, .inr (by simp only [rightOk, hp1]; omega)⟩
                  rw [if_pos hH] at hw
                  (refine g0_ ?_; repeat ((first | refine n1_ fun b_ => ?_ | refine n2_ fun b_ => ?_ | refine Nat1.mk fun q_ hq_ => ?_ | refine em_ fun x_ hx_ => ?_); refine g0_ ?_))
                  (refine g1_ ?_; repeat ((first | refine n1_ fun b_ => ?_ | refine n2_ fun b_ => ?_ | refine Nat1.mk fun q_ hq_ => ?_ | refine em_ fun x_ hx_ => ?_); refine g1_ ?_))
                  rw [hG, ← hw]
                  exact .refl _
              · (refine g0_ ?_; repeat ((first | refine n1_ fun b_ => ?_ | refine n2_ fun b_ => ?_ | refine Nat1.mk fun q_ hq_ => ?_ | refine em_ fun x_ hx_ => ?_); refine g0_ ?_))
                (refine g1_ ?_; repeat ((first | refine n1_ fun b_ => ?_ | refine n2_ fun b_ => ?_ | refine Nat1.mk fun q_ hq_ => ?_ | refine em_ fun x_ hx_ => ?_); refine g1_ ?_))
                refine brec ?_; intro c_ hw3; (try rw [hw3]); cases c_ <;> replace hw3 := nm_ hw3
                · have hH : ¬ halfCell w cs i c := by rintro (⟨h, -⟩ | ⟨h, -⟩) <;> omega
                  rw [if_neg hH] at hw
                  (refine g0_ ?_; repeat ((first | refine n1_ fun b_ => ?_ | refine n2_ fun b_ => ?_ | refine Nat1.mk fun q_ hq_ => ?_ | refine em_ fun x_ hx_ => ?_); refine g0_ ?_))
                  (refine g1_ ?_; repeat ((first | refine n1_ fun b_ => ?_ | refine n2_ fun b_ => ?_ | refine Nat1.mk fun q_ hq_ => ?_ | refine em_ fun x_ hx_ => ?_); refine g1_ ?_))
                  refine nx_ (i + 1) ?_ ?_
                  · exact ⟨by omega, hw⟩
                  · omega
                · have hH : halfCell w cs i c := .inr ⟨by omega, .inl (by omega)⟩
                  rw [if_pos hH] at hw
                  (refine g0_ ?_; repeat ((first | refine n1_ fun b_ => ?_ | refine n2_ fun b_ => ?_ | refine Nat1.mk fun q_ hq_ => ?_ | refine em_ fun x_ hx_ => ?_); refine g0_ ?_))
                  (refine g1_ ?_; repeat ((first | refine n1_ fun b_ => ?_ | refine n2_ fun b_ => ?_ | refine Nat1.mk fun q_ hq_ => ?_ | refine em_ fun x_ hx_ => ?_); refine g1_ ?_))
                  rw [hG, ← hw]
                  exact .refl _
            · have hwr : widthL c.r = 0 := by rw [hr, w0]
              (refine g0_ ?_; repeat ((first | refine n1_ fun b_ => ?_ | refine n2_ fun b_ => ?_ | refine Nat1.mk fun q_ hq_ => ?_ | refine em_ fun x_ hx_ => ?_); refine g0_ ?_))
              (refine g1_ ?_; repeat ((first | refine n1_ fun b_ => ?_ | refine n2_ fun b_ => ?_ | refine Nat1.mk fun q_ hq_ => ?_ | refine em_ fun x_ hx_ => ?_); refine g1_ ?_))
              refine brec ?_; intro c_ hT0; (try rw [hT0]); cases c_ <;> replace hT0 := nm_ hT0
              · (refine g0_ ?_; repeat ((first | refine n1_ fun b_ => ?_ | refine n2_ fun b_ => ?_ | refine Nat1.mk fun q_ hq_ => ?_ | refine em_ fun x_ hx_ => ?_); refine g0_ ?_))
                (refine g1_ ?_; repeat ((first | refine n1_ fun b_ => ?_ | refine n2_ fun b_ => ?_ | refine Nat1.mk fun q_ hq_ => ?_ | refine em_ fun x_ hx_ => ?_); refine g1_ ?_))
                obtain ⟨p, rfl⟩ : ∃ p, p = x_ := ⟨_, rfl⟩
                have hq1 : q_ = i - 1 := by omega
                have hp1 := hx_
                rw [hq1] at hp1
                refine ⟨_, (widthOf_ok W p.r).quiet, ?_⟩; (refine g0_ ?_; repeat ((first | refine n1_ fun b_ => ?_ | refine n2_ fun b_ => ?_ | refine Nat1.mk fun q_ hq_ => ?_ | refine em_ fun x_ hx_ => ?_); refine g0_ ?_))
                rw [← width_eq]
                (refine g0_ ?_; repeat ((first | refine n1_ fun b_ => ?_ | refine n2_ fun b_ => ?_ | refine Nat1.mk fun q_ hq_ => ?_ | refine em_ fun x_ hx_ => ?_); refine g0_ ?_))
                (refine g1_ ?_; repeat ((first | refine n1_ fun b_ => ?_ | refine n2_ fun b_ => ?_ | refine Nat1.mk fun q_ hq_ => ?_ | refine em_ fun x_ hx_ => ?_); refine g1_ ?_))
                refine brec ?_; intro c_ hp2; (try rw [hp2]); cases c_ <;> replace hp2 := nm_ hp2
                · (refine g0_ ?_; repeat ((first | refine n1_ fun b_ => ?_ | refine n2_ fun b_ => ?_ | refine Nat1.mk fun q_ hq_ => ?_ | refine em_ fun x_ hx_ => ?_); refine g0_ ?_))
                  (refine g1_ ?_; repeat ((first | refine n1_ fun b_ => ?_ | refine n2_ fun b_ => ?_ | refine Nat1.mk fun q_ hq_ => ?_ | refine em_ fun x_ hx_ => ?_); refine g1_ ?_))
                  obtain rfl : p = x_ := by
                    rw [show q_ = i - 1 by omega, hp1] at hx_
                    exact Option.some.inj hx_
                  refine ⟨_, neq_style p.s c.s (hg.2.2.1 p (List.mem_of_getElem? hp1)).2 (hg.2.2.1 c (List.mem_of_getElem? hc1)).2 _ _, ?_⟩
                  (refine g0_ ?_; repeat ((first | refine n1_ fun b_ => ?_ | refine n2_ fun b_ => ?_ | refine Nat1.mk fun q_ hq_ => ?_ | refine em_ fun x_ hx_ => ?_); refine g0_ ?_))
                  (refine g1_ ?_; repeat ((first | refine n1_ fun b_ => ?_ | refine n2_ fun b_ => ?_ | refine Nat1.mk fun q_ hq_ => ?_ | refine em_ fun x_ hx_ => ?_); refine g1_ ?_))
                  refine brec ?_; intro c_ hs2; (try rw [hs2]); cases c_ <;> replace hs2 := nm_ hs2
                  · have hH : ¬ halfCell w cs i c := by rintro (⟨-, h | h⟩ | ⟨h, -⟩) <;> first | omega | (rw [hTm, hT] at hT0; omega) | (apply h; simp only [leftOk, hp1]; exact ⟨by omega, by simpa using hs2⟩)
                    rw [if_neg hH] at hw
                    (refine g0_ ?_; repeat ((first | refine n1_ fun b_ => ?_ | refine n2_ fun b_ => ?_ | refine Nat1.mk fun q_ hq_ => ?_ | refine em_ fun x_ hx_ => ?_); refine g0_ ?_))
                    (refine g1_ ?_; repeat ((first | refine n1_ fun b_ => ?_ | refine n2_ fun b_ => ?_ | refine Nat1.mk fun q_ hq_ => ?_ | refine em_ fun x_ hx_ => ?_); refine g1_ ?_))
                    refine nx_ (i + 1) ?_ ?_
                    · exact ⟨by omega, hw⟩
                    · omega
                  · have hH : halfCell w cs i c := .inl ⟨hr, .inr (by simp only [leftOk, hp1]; rintro ⟨-, h⟩; simp [h] at hs2)⟩
                    rw [if_pos hH] at hw
                    (refine g0_ ?_; repeat ((first | refine n1_ fun b_ => ?_ | refine n2_ fun b_ => ?_ | refine Nat1.mk fun q_ hq_ => ?_ | refine em_ fun x_ hx_ => ?_); refine g0_ ?_))
                    (refine g1_ ?_; repeat ((first | refine n1_ fun b_ => ?_ | refine n2_ fun b_ => ?_ | refine Nat1.mk fun q_ hq_ => ?_ | refine em_ fun x_ hx_ => ?_); refine g1_ ?_))
                    rw [hG, ← hw]
                    exact .refl _
                · have hH : halfCell w cs i c := .inl ⟨hr, .inr (by simp only [leftOk, hp1]; rintro ⟨h, -⟩; omega)⟩
                  rw [if_pos hH] at hw
                  (refine g0_ ?_; repeat ((first | refine n1_ fun b_ => ?_ | refine n2_ fun b_ => ?_ | refine Nat1.mk fun q_ hq_ => ?_ | refine em_ fun x_ hx_ => ?_); refine g0_ ?_))
                  (refine g1_ ?_; repeat ((first | refine n1_ fun b_ => ?_ | refine n2_ fun b_ => ?_ | refine Nat1.mk fun q_ hq_ => ?_ | refine em_ fun x_ hx_ => ?_); refine g1_ ?_))
                  rw [hG, ← hw]
                  exact .refl _
              · have hH : halfCell w cs i c := .inl ⟨hr, .inl (by rw [hTm, hT] at hT0; omega)⟩
                rw [if_pos hH] at hw
                (refine g0_ ?_; repeat ((first | refine n1_ fun b_ => ?_ | refine n2_ fun b_ => ?_ | refine Nat1.mk fun q_ hq_ => ?_ | refine em_ fun x_ hx_ => ?_); refine g0_ ?_))
                (refine g1_ ?_; repeat ((first | refine n1_ fun b_ => ?_ | refine n2_ fun b_ => ?_ | refine Nat1.mk fun q_ hq_ => ?_ | refine em_ fun x_ hx_ => ?_); refine g1_ ?_))
                rw [hG, ← hw]
                exact .refl _
          · have hbad : badCell c := .inr (by simp_all)
            rw [if_pos hbad] at hw
            (refine g0_ ?_; repeat ((first | refine n1_ fun b_ => ?_ | refine n2_ fun b_ => ?_ | refine Nat1.mk fun q_ hq_ => ?_ | refine em_ fun x_ hx_ => ?_); refine g0_ ?_))
            rw [hG, ← hw]
            exact .refl _
        · have hbad : badCell c := .inl ⟨by omega, by omega⟩
          rw [if_pos hbad] at hw
          (refine g0_ ?_; repeat ((first | refine n1_ fun b_ => ?_ | refine n2_ fun b_ => ?_ | refine Nat1.mk fun q_ hq_ => ?_ | refine em_ fun x_ hx_ => ?_); refine g0_ ?_))
          (refine g1_ ?_; repeat ((first | refine n1_ fun b_ => ?_ | refine n2_ fun b_ => ?_ | refine Nat1.mk fun q_ hq_ => ?_ | refine em_ fun x_ hx_ => ?_); refine g1_ ?_))
          rw [hG, ← hw]
          exact .refl _
    · have hG : checkG ⟨w, h, cs⟩ = 3 := by
        rw [checkG, if_neg (by rintro ⟨-, h2⟩; apply hc; rw [List.length_map]; exact h2)]
      (refine g0_ ?_; repeat ((first | refine n1_ fun b_ => ?_ | refine n2_ fun b_ => ?_ | refine Nat1.mk fun q_ hq_ => ?_ | refine em_ fun x_ hx_ => ?_); refine g0_ ?_))
      rw [hG]
      exact .refl _
  · have hG : checkG ⟨gw, gh, cs⟩ = 3 := by
      rw [checkG, if_neg (by rintro ⟨h1, -⟩; simp [sizeB] at h1; omega)]
    (refine g0_ ?_; repeat ((first | refine n1_ fun b_ => ?_ | refine n2_ fun b_ => ?_ | refine Nat1.mk fun q_ hq_ => ?_ | refine em_ fun x_ hx_ => ?_); refine g0_ ?_))
    (refine g1_ ?_; repeat ((first | refine n1_ fun b_ => ?_ | refine n2_ fun b_ => ?_ | refine Nat1.mk fun q_ hq_ => ?_ | refine em_ fun x_ hx_ => ?_); refine g1_ ?_))
    rw [hG]
    exact .refl _
end Go.Eng.YtphoefglfbifdaaDoor
end

/- Grids: package grid's inside and Fill. -/
section
namespace Go.Eng.YtphoefglfbifdaaDoor
open Go Go.Eng Go.Proofs
variable (W : World)
set_option linter.unusedSimpArgs false
set_option maxRecDepth 100000
set_option linter.unusedVariables false
set_option maxHeartbeats 4000000
/-- What of a part lies in a grid: a corner, and how much. -/
structure Inside (r : Rect) (w h X Y A B : Nat) : Prop where
  xa : X + A ≤ w
  yb : Y + B ≤ h
  x : ∀ k : Nat, k < w → (inB r.x0 r.x1 k = true ↔ X ≤ k ∧ k < X + A)
  y : ∀ k : Nat, k < h → (inB r.y0 r.y1 k = true ↔ Y ≤ k ∧ k < Y + B)
def insA (a n : Int) (w : Nat) : Nat := (max (min (clampL a + max (clampL n) 0) w - min (max (clampL a) 0) w) 0).toNat
def insX (a : Int) (w : Nat) : Nat := (min (max (clampL a) 0) w).toNat
theorem inside_span (a n : Int) (w : Nat) : insX a w + insA a n w ≤ w ∧ ∀ k : Nat, k < w → (inB (clampL a) (clampL a + max (clampL n) 0) k = true ↔ insX a w ≤ k ∧ k < insX a w + insA a n w) := by
  unfold insX insA inB
  refine ⟨by omega, fun k hk => ?_⟩
  simp only [Bool.and_eq_true, decide_eq_true_eq]
  omega
theorem inside_of (r : Rect) (w h : Nat) : Inside r w h (insX r.x w) (insX r.y h) (insA r.x r.w w) (insA r.y r.h h) :=
  ⟨(inside_span r.x r.w w).1, (inside_span r.y r.h h).1, (inside_span r.x r.w w).2, (inside_span r.y r.h h).2⟩
def encIns (r : Rect) (w h : Nat) : PV := .agg [.int .i64 (insX r.x w), .int .i64 (insX r.y h), .int .i64 (insA r.x r.w w), .int .i64 (insA r.y r.h h)]
theorem agg4 {a b c d a' b' c' d' : Int} (h1 : a = a') (h2 : b = b') (h3 : c = c') (h4 : d = d') : PV.agg [.int .i64 a, .int .i64 b, .int .i64 c, .int .i64 d] = .agg [.int .i64 a', .int .i64 b', .int .i64 c', .int .i64 d'] := by subst h1 h2 h3 h4; rfl
theorem ifmin (a b : Int) : (if b < a then b else a) = min a b := by rw [Int.min_def]; split <;> split <;> omega
theorem ifmax (a b : Int) : (if a < b then b else a) = max a b := by rw [Int.max_def]; split <;> split <;> omega
theorem set_mid {pre seg post : List Cell} {x : Nat} (hx : x < seg.length) (c : Cell) {n : Nat} (hn : n = pre.length) : ((pre ++ seg ++ post).map encCell).set (n + x) (.agg [.int .i32 c.r, .int .i64 c.s.fore, .int .i64 c.s.back, .int .i64 c.s.bits]) = (pre ++ seg.set x c ++ post).map encCell := by
  subst hn
  rw [show (.agg [.int .i32 c.r, .int .i64 c.s.fore, .int .i64 c.s.back, .int .i64 c.s.bits] : PV) = encCell c from rfl, ← List.map_set]
  congr 1
  rw [List.append_assoc, List.set_append_right _ _ (by omega), Nat.add_sub_cancel_left, List.set_append_left _ _ hx, List.append_assoc]
theorem at_mid {pre seg post : List Cell} {x : Nat} {d : Cell} (hx : seg[x]? = some d) {n : Nat} (hn : n = pre.length) : (pre ++ seg ++ post)[n + x]? = some d := by
  subst hn
  rw [List.append_assoc, List.getElem?_append_right (by omega), Nat.add_sub_cancel_left, List.getElem?_append_left (lt_of_at hx), hx]
/-- What Fill answers. -/
def fillE (g : Grid) (r : Rect) (c : Cell) : Grid × Int := if checkG g ≠ 0 then (.none, checkG g) else if widthL c.r ≠ 1 ∨ checkStyle c.s = false then (.none, 4) else (fillG g r c, 0)
theorem frz_none {σ : Mem} : Frz σ (.agg [.int .i64 0, .int .i64 0, .nils]) (encGrid .none) := .agg _ _ rfl fun j hj => by
  match j, hj with
  | 0, _ => exact .refl _
  | 1, _ => exact .refl _
  | 2, _ => exact .nils _
end Go.Eng.YtphoefglfbifdaaDoor
end

/- Grids: new ones. -/
section
namespace Go.Eng.YtphoefglfbifdaaDoor
open Go Go.Eng Go.Proofs
variable (W : World)
set_option linter.unusedSimpArgs false
set_option maxRecDepth 100000
set_option linter.unusedVariables false
set_option maxHeartbeats 4000000
theorem tup_u64 {a b a' b' : Int} (h1 : a = a') (h2 : b = b') : PV.tup [.int .u64 a, .int .u64 b] = .tup [.int .u64 a', .int .u64 b'] := by subst h1 h2; rfl
theorem of_range {k : Nat} {P : Nat → Prop} (h : ∀ n ∈ List.range (k + 1), P n) : ∀ n, n ≤ k → P n := fun n hn => h n (List.mem_range.2 (by omega))
theorem mul64_ok (n : Nat) (hn : n ≤ 10000) : Pure Tryd.prog W 103 [.int .u64 1, .int .u64 n] (.tup [.int .u64 0, .int .u64 n]) := by
  refine Pure.of (acalls_of_vc (drawOk W) Tryd.func103 rfl (by decide) (by decide) rfl ?_)
  (refine g0_ ?_; repeat ((first | refine n1_ fun b_ => ?_ | refine n2_ fun b_ => ?_ | refine n3_ fun b_ pre_ => ?_ | refine Nat1.mk fun q_ hq_ => ?_ | refine em_ fun x_ hx_ => ?_ | refine Elem1.mk fun e_ he_ => ?_); refine g0_ ?_))
  refine Frz.of_eq (tup_u64 ?_ ?_)
  · revert n
    exact of_range (by decide +kernel)
  · revert n
    exact of_range (by decide +kernel)
theorem mul_ok (n : Nat) (hn : n ≤ 10000) : Pure Tryd.prog W 95 [.int .u64 1, .int .u64 n] (.tup [.int .u64 0, .int .u64 n]) := by
  refine Pure.of (acalls_of_vc (drawOk W) Tryd.func95 rfl (by decide) (by decide) rfl ?_)
  (refine g0_ ?_; repeat ((first | refine n1_ fun b_ => ?_ | refine n2_ fun b_ => ?_ | refine n3_ fun b_ pre_ => ?_ | refine Nat1.mk fun q_ hq_ => ?_ | refine em_ fun x_ hx_ => ?_ | refine Elem1.mk fun e_ he_ => ?_); refine g0_ ?_))
  refine (mul64_ok W n hn).use ?_; (refine g0_ ?_; repeat ((first | refine n1_ fun b_ => ?_ | refine n2_ fun b_ => ?_ | refine n3_ fun b_ pre_ => ?_ | refine Nat1.mk fun q_ hq_ => ?_ | refine em_ fun x_ hx_ => ?_ | refine Elem1.mk fun e_ he_ => ?_); refine g0_ ?_))
  exact .refl _
theorem blank_ok1 : Pure Tryd.prog W 90 [.int .i64 0] (encCell blankC) := by
  refine Pure.of (acalls_of_vc (drawOk W) Tryd.func90 rfl (by decide) (by decide) rfl ?_)
  (refine g0_ ?_; repeat ((first | refine n1_ fun b_ => ?_ | refine n2_ fun b_ => ?_ | refine n3_ fun b_ pre_ => ?_ | refine Nat1.mk fun q_ hq_ => ?_ | refine em_ fun x_ hx_ => ?_ | refine Elem1.mk fun e_ he_ => ?_); refine g0_ ?_))
  exact .refl _
def zeroC : Cell := ⟨0, ⟨0, 0, 0⟩⟩
theorem zero_cell : zeroV Tryd.prog 56 = encCell zeroC := by kernel_rfl
theorem rep_zero (n : Nat) : List.replicate n (zeroV Tryd.prog 56) = (List.replicate n zeroC).map encCell := by rw [List.map_replicate, zero_cell]
theorem rep_set (n i : Nat) (hi : i < n) : (List.replicate i blankC ++ List.replicate (n - i) zeroC).set i blankC = List.replicate (i + 1) blankC ++ List.replicate (n - (i + 1)) zeroC := by
  rw [List.set_append_right _ _ (by simp), List.length_replicate, Nat.sub_self, show n - i = (n - (i + 1)) + 1 by omega, List.replicate_succ, List.set_cons_zero, List.replicate_succ', List.append_assoc]; rfl
def newE (w h : Int) : Grid × Int := if sizeB w h then (newG w h, 0) else (.none, 3)
theorem set_encS (l : List Cell) (i : Nat) (r : Int) (s : Style) : (l.map encCell).set (0 + i) (.agg [.int .i32 r, .int .i64 s.fore, .int .i64 s.back, .int .i64 s.bits]) = (l.set i ⟨r, s⟩).map encCell := set_enc l i ⟨r, s⟩
theorem new_ok (w0 h0 : Int) : Pure Tryd.prog W 58 [.int .i64 w0, .int .i64 h0] (.tup [encGrid (newE w0 h0).1, .int .i64 (newE w0 h0).2]) := by
  refine Pure.of (acalls_of_vc (drawOk W) Tryd.func58 rfl (by decide) (by decide) rfl ?_)
  (refine g0_ ?_; repeat ((first | refine n1_ fun b_ => ?_ | refine n2_ fun b_ => ?_ | refine n3_ fun b_ pre_ => ?_ | refine Nat1.mk fun q_ hq_ => ?_ | refine em_ fun x_ hx_ => ?_ | refine Elem1.mk fun e_ he_ => ?_); refine g0_ ?_))
  refine brec ?_; intro c_ h1; (try rw [h1]); cases c_ <;> replace h1 := nm_ h1
  · have hs : newE w0 h0 = (newG w0 h0, 0) := by rw [newE, if_pos]; unfold sizeB; simp only [Bool.and_eq_true, decide_eq_true_eq]; omega
    rw [hs]
    obtain ⟨w, rfl⟩ := Int.eq_ofNat_of_zero_le (show 0 ≤ w0 by omega)
    obtain ⟨h, rfl⟩ := Int.eq_ofNat_of_zero_le (show 0 ≤ h0 by omega)
    have hsm : w * h ≤ 120 * 60 := Nat.mul_le_mul (by omega) (by omega)
    have hm1 : 0 ≤ (w : Int) * h := Int.mul_nonneg (by omega) (by omega)
    have hm2 : (w : Int) * h ≤ 7200 := by exact_mod_cast hsm
    (refine g0_ ?_; repeat ((first | refine n1_ fun b_ => ?_ | refine n2_ fun b_ => ?_ | refine n3_ fun b_ pre_ => ?_ | refine Nat1.mk fun q_ hq_ => ?_ | refine em_ fun x_ hx_ => ?_ | refine Elem1.mk fun e_ he_ => ?_); refine g0_ ?_))
    rw [rep_zero]
    rename_i b1 b2
    obtain ⟨b3, rfl⟩ : ∃ b3, b3 = b_ := ⟨_, rfl⟩
    refine' loopI (α := Nat × (List Cell)) (fun (i, cs) => [(33, .int .i64 i)]) [(4, _), (6, _), (32, _)] (fun (i, cs) => [⟨b3, .row 3 [.agg [.int .i64 w, .int .i64 h, .rsl b2 4 0 (w * h)]] 0⟩, ⟨b2, .row 4 (cs.map encCell) 0⟩, ⟨b1, .row 3 [.agg [.int .i64 0, .int .i64 0, .nils]] 0⟩]) (fun (i, cs) => i ≤ w * h ∧ cs = List.replicate i blankC ++ List.replicate (w * h - i) zeroC) (fun (i, cs) => w * h - i) (0, List.replicate (w * h) zeroC) ?_ ?_
    · exact ⟨Nat.zero_le _, by simp⟩
    rintro ⟨i, cs⟩ ⟨hi, hcs⟩
    have hcl : cs.length = w * h := by rw [hcs]; simp; omega
    (refine g0_ ?_; repeat ((first | refine n1_ fun b_ => ?_ | refine n2_ fun b_ => ?_ | refine n3_ fun b_ pre_ => ?_ | refine Nat1.mk fun q_ hq_ => ?_ | refine em_ fun x_ hx_ => ?_ | refine Elem1.mk fun e_ he_ => ?_); refine g0_ ?_))
    refine brec ?_; intro c_ h2; (try rw [h2]); cases c_ <;> replace h2 := nm_ h2
    · have : i = w * h := by omega
      subst this
      have hG : newG w h = ⟨w, h, cs⟩ := by
        rw [newG, hcs, Nat.sub_self, List.replicate_zero, List.append_nil]
        congr 2
      (refine g0_ ?_; repeat ((first | refine n1_ fun b_ => ?_ | refine n2_ fun b_ => ?_ | refine n3_ fun b_ pre_ => ?_ | refine Nat1.mk fun q_ hq_ => ?_ | refine em_ fun x_ hx_ => ?_ | refine Elem1.mk fun e_ he_ => ?_); refine g0_ ?_))
      rw [hG]
      exact frz_tup2 (frz_grid (.there _ _ _ _ _ (.there _ _ _ _ _ (.here _ _ _))) hcl.symm) (.refl _)
    · have hst := rep_set (w * h) i (by omega)
      rw [← hcs] at hst
      (refine g0_ ?_; repeat ((first | refine n1_ fun b_ => ?_ | refine n2_ fun b_ => ?_ | refine n3_ fun b_ pre_ => ?_ | refine Nat1.mk fun q_ hq_ => ?_ | refine em_ fun x_ hx_ => ?_ | refine Elem1.mk fun e_ he_ => ?_); refine g0_ ?_))
      refine head_ ?_; (refine g0_ ?_; repeat ((first | refine n1_ fun b_ => ?_ | refine n2_ fun b_ => ?_ | refine n3_ fun b_ pre_ => ?_ | refine Nat1.mk fun q_ hq_ => ?_ | refine em_ fun x_ hx_ => ?_ | refine Elem1.mk fun e_ he_ => ?_); refine g0_ ?_))
      refine ⟨_, (blank_ok1 W).quiet, ?_⟩; (refine g0_ ?_; repeat ((first | refine n1_ fun b_ => ?_ | refine n2_ fun b_ => ?_ | refine n3_ fun b_ pre_ => ?_ | refine Nat1.mk fun q_ hq_ => ?_ | refine em_ fun x_ hx_ => ?_ | refine Elem1.mk fun e_ he_ => ?_); refine g0_ ?_))
      dsimp only
      rw [set_encS]
      refine nx_ (i + 1, cs.set i blankC) ?_ ?_
      · exact ⟨by omega, hst⟩
      · ((try dsimp only); (try simp only [List.length_drop, List.length_take, List.length_append, List.length_cons, List.length_nil, List.length_map] at *); omega)
  · have hs : newE w0 h0 = (.none, 3) := by rw [newE, if_neg]; unfold sizeB; simp only [Bool.and_eq_true, decide_eq_true_eq]; omega
    rw [hs]
    (refine g0_ ?_; repeat ((first | refine n1_ fun b_ => ?_ | refine n2_ fun b_ => ?_ | refine n3_ fun b_ pre_ => ?_ | refine Nat1.mk fun q_ hq_ => ?_ | refine em_ fun x_ hx_ => ?_ | refine Elem1.mk fun e_ he_ => ?_); refine g0_ ?_))
    exact frz_tup2 frz_none (.refl _)
end Go.Eng.YtphoefglfbifdaaDoor
end

/- Grids: the document's new ones. -/
section
namespace Go.Eng.YtphoefglfbifdaaDoor
open Go Go.Eng Go.Proofs
variable (W : World)
set_option linter.unusedSimpArgs false
set_option maxRecDepth 100000
set_option linter.unusedVariables false
set_option maxHeartbeats 4000000
theorem rep_copy (n k : Nat) (hk : k ≤ n) {cs : List Cell} (hcs : cs = List.replicate k blankC ++ List.replicate (n - k) zeroC) : cs.take k ++ (cs.take k).take (n - k) ++ cs.drop (k + min (n - k) k) = List.replicate (k + min (n - k) k) blankC ++ List.replicate (n - (k + min (n - k) k)) zeroC := by
  subst hcs
  have e1 : (List.replicate k blankC ++ List.replicate (n - k) zeroC).take k = List.replicate k blankC := by rw [List.take_left' (by simp)]
  rw [e1, List.take_replicate, ← List.replicate_append_replicate (n := k) (m := min (n - k) k)]
  congr 1
  rw [List.drop_append, List.drop_of_length_le (by simp), List.nil_append, List.length_replicate, List.drop_replicate]
  congr 1
  omega
theorem repeat_ok1 (n : Nat) (h1 : 1 ≤ n) (hn : n ≤ 10000) : ACalls Tryd.prog W 80 [.sl 4 [encCell blankC], .int .i64 n] [] (GivesRow 4 ((List.replicate n blankC).map encCell)) := by
  refine acalls_of_vc (drawOk W) Tryd.func80 rfl (by decide) (by decide) rfl ?_
  (refine g0_ ?_; repeat ((first | refine n1_ fun b_ => ?_ | refine n2_ fun b_ => ?_); refine g0_ ?_))
  rw [show IntKind.u64.wrap ([encCell blankC].length : Nat) = 1 by rfl, show IntKind.u64.wrap (n : Int) = n by rw [IntKind.wrap_u64]; omega]
  refine (mul_ok W n hn).use ?_; (refine g0_ ?_; repeat ((first | refine n1_ fun b_ => ?_ | refine n2_ fun b_ => ?_); refine g0_ ?_))
  have h2 : ¬ (9223372036854775807 < (n : Int)) := by omega
  (refine g0_ ?_; repeat ((first | refine n1_ fun b_ => ?_ | refine n2_ fun b_ => ?_); refine g0_ ?_))
  (refine g1_ ?_; repeat ((first | refine n1_ fun b_ => ?_ | refine n2_ fun b_ => ?_); refine g1_ ?_))
  rw [rep_zero]
  have hcb : cellsB (encCell blankC) = true := by rfl
  (refine g0_ ?_; repeat ((first | refine n1_ fun b_ => ?_ | refine n2_ fun b_ => ?_); refine g0_ ?_))
  have e1 : min n [encCell blankC].length = 1 := by rw [List.length_singleton]; omega
  rw [e1]
  have e2 : List.take n [encCell blankC] = (List.replicate 1 blankC).map encCell := by rw [List.take_of_length_le (by rw [List.length_singleton]; omega)]; rfl
  have e3 : List.drop (0 + 1) ((List.replicate n zeroC).map encCell) = (List.replicate (n - 1) zeroC).map encCell := by rw [← List.map_drop, List.drop_replicate]
  rw [e2, e3, List.take_zero, List.nil_append, ← List.map_append]
  refine' loopI (α := Nat × (List Cell)) (fun (k, cs) => [(8, .int .i64 k)]) [(7, _)] (fun (k, cs) => [⟨b_, .row 4 (cs.map encCell) 0⟩]) (fun (k, cs) => 1 ≤ k ∧ k ≤ n ∧ cs = List.replicate k blankC ++ List.replicate (n - k) zeroC) (fun (k, cs) => n - k) (1, List.replicate 1 blankC ++ List.replicate (n - 1) zeroC) ?_ ?_
  · exact ⟨Nat.le_refl _, h1, rfl⟩
  rintro ⟨k, cs⟩ ⟨hk1, hk2, hcs⟩
  have hcl : cs.length = n := by rw [hcs]; simp; omega
  (refine g0_ ?_; repeat ((first | refine n1_ fun b_ => ?_ | refine n2_ fun b_ => ?_); refine g0_ ?_))
  refine brec ?_; intro c_ h3; (try rw [h3]); cases c_ <;> replace h3 := nm_ h3
  · have : k = n := by omega
    subst this
    rw [Nat.sub_self, List.replicate_zero, List.append_nil] at hcs
    (refine g0_ ?_; repeat ((first | refine n1_ fun b_ => ?_ | refine n2_ fun b_ => ?_); refine g0_ ?_))
    rw [← hcs]
    exact GivesRow.mk _ (by simp [hcl]) wkMem.rfl'
  · have hrc := rep_copy n k hk2 hcs
    have hca := cells_all (cs.take k)
    (refine g0_ ?_; repeat ((first | refine n1_ fun b_ => ?_ | refine n2_ fun b_ => ?_); refine g0_ ?_))
    have hlen2 : (cs.map encCell).length = n := by simp [hcl]
    have hca2 : (List.take (k - 0) (List.drop (0 + 0) (cs.map encCell))).all cellsB = true := by simpa [List.map_take] using hca
    have hml : (List.take (k - 0) (List.drop (0 + 0) (cs.map encCell))).length = k := by simp; omega
    have hrow : List.take (0 + k) (cs.map encCell) ++ List.take (n - k) (List.take (k - 0) (List.drop (0 + 0) (cs.map encCell))) ++ List.drop (0 + k + min (n - k) k) (cs.map encCell) = (List.replicate (k + min (n - k) k) blankC ++ List.replicate (n - (k + min (n - k) k)) zeroC).map encCell := by
      rw [← hrc]; simp [List.map_take, List.map_drop]
    refine Draws.free ⟨7, by decide +kernel, ?_⟩; (refine g0_ ?_; repeat ((first | refine n1_ fun b_ => ?_ | refine n2_ fun b_ => ?_); refine g0_ ?_))
    refine need.mk ⟨by omega, hca2, by omega⟩ ?_
    dsimp only
    rw [hml]
    (refine g0_ ?_; repeat ((first | refine n1_ fun b_ => ?_ | refine n2_ fun b_ => ?_); refine g0_ ?_))
    rw [hrow]
    refine nx_ (k + min (n - k) k, List.replicate (k + min (n - k) k) blankC ++ List.replicate (n - (k + min (n - k) k)) zeroC) ?_ ?_
    · exact ⟨by omega, by omega, rfl⟩
    · ((try dsimp only); (try simp only [List.length_drop, List.length_take, List.length_append, List.length_cons, List.length_nil, List.length_map] at *); omega)
theorem newGrid_ok (w h : Nat) (hw : 1 ≤ w) (hw2 : w ≤ 120) (hh : 1 ≤ h) (hh2 : h ≤ 60) : Pure Tryd.prog W 96 [.int .i64 w, .int .i64 h] (encGrid (newG w h)) := by
  have hsm : w * h ≤ 120 * 60 := Nat.mul_le_mul (by omega) (by omega)
  have hs1 : 1 * 1 ≤ w * h := Nat.mul_le_mul (by omega) (by omega)
  have hm2 : (w : Int) * h ≤ 7200 := by exact_mod_cast hsm
  have hm1 : 0 ≤ (w : Int) * h := Int.mul_nonneg (by omega) (by omega)
  refine Pure.of (acalls_of_vc (drawOk W) Tryd.func96 rfl (by decide) (by decide) rfl ?_)
  (refine g0_ ?_; repeat ((first | refine n1_ fun b_ => ?_ | refine n2_ fun b_ => ?_); refine g0_ ?_))
  refine .inl ?_
  (refine g0_ ?_; repeat ((first | refine n1_ fun b_ => ?_ | refine n2_ fun b_ => ?_); refine g0_ ?_))
  refine ACalls.give (show ACalls Tryd.prog W 80 [.sl 4 [encCell blankC], .int .i64 (w * h : Int)] [] _ from by exact_mod_cast repeat_ok1 W (w * h) (by omega) (by omega)) ?_
  rintro b' -
  (refine g0_ ?_; repeat ((first | refine n1_ fun b_ => ?_ | refine n2_ fun b_ => ?_); refine g0_ ?_))
  have hG : newG w h = ⟨w, h, List.replicate (w * h) blankC⟩ := by
    rw [newG]; congr 2
  rw [hG]
  exact frz_grid (by repeat (first | exact .here _ _ _ | apply Look.there)) (by simp)
end Go.Eng.YtphoefglfbifdaaDoor
end

/- Grids: texts written, the document's way and package grid's. -/
section
namespace Go.Eng.YtphoefglfbifdaaDoor
open Go Go.Eng Go.Proofs
variable (W : World)
set_option linter.unusedSimpArgs false
set_option maxRecDepth 100000
set_option linter.unusedVariables false
set_option maxHeartbeats 4000000
theorem writeRs_len (w : Nat) (look : Style) : ∀ (l : List (Nat × Nat)) (x : Nat) (row : List Cell), (writeRs w look x l row).length = row.length
  | [], _, _ => rfl
  | p :: l, x, row => by
    have h1 := writeRs_len w look l
    rw [writeRs]
    (repeat' split) <;> first | rfl | (rw [h1, List.length_set, List.length_set]) | (rw [h1, List.length_set]) | (rw [h1])
theorem modify_set {α : Type} {l : List α} {y : Nat} {r : α} (h : l[y]? = some r) (f : α → α) : l.modify y f = l.set y (f r) := by
  refine List.ext_getElem? fun k => ?_
  rw [List.getElem?_modify, List.getElem?_set]
  by_cases e : y = k
  · subst e; rw [if_pos rfl, if_pos (lt_of_at h), h]; simp
  · simp [e]
/-! ### Package grid's -/
def writeE (g : Grid) (x y : Int) (s : List UInt8) (look : Style) : Grid × Int :=
  if checkG g ≠ 0 then (.none, checkG g) else if x < 0 ∨ g.w ≤ x ∨ y < 0 ∨ g.h ≤ y ∨ checkStyle look = false then (.none, 4) else (writeG g x.toNat y.toNat s look, 0)
theorem set_midS {pre seg post : List Cell} {x : Nat} (hx : x < seg.length) (r : Int) (s : Style) {n : Nat} (hn : n = pre.length) : ((pre ++ seg ++ post).map encCell).set (n + x) (.agg [.int .i32 r, .int .i64 s.fore, .int .i64 s.back, .int .i64 s.bits]) = (pre ++ seg.set x ⟨r, s⟩ ++ post).map encCell := set_mid hx ⟨r, s⟩ hn
def Grid.writeR (g : Grid) (X y : Nat) (s : List UInt8) (look : Style) : Grid := writeG g X y s look
end Go.Eng.YtphoefglfbifdaaDoor
end

/- Grids: their lines. -/
section
namespace Go.Eng.YtphoefglfbifdaaDoor
open Go Go.Eng Go.Proofs
variable (W : World)
set_option linter.unusedSimpArgs false
set_option maxRecDepth 100000
set_option linter.unusedVariables false
set_option maxHeartbeats 4000000
def lineFrom : List Cell → List UInt8
  | [] => []
  | c :: r => if c.r = 0 then lineFrom r else Lib.encodeRune c.r ++ lineFrom r
def lineL (row : List Cell) : List UInt8 := Lib.trimRightB (lineFrom row) 32
theorem lineFrom_len : ∀ row : List Cell, (lineFrom row).length ≤ 4 * row.length
  | [] => by simp [lineFrom]
  | c :: r => by
    have := lineFrom_len r
    have := enc_le c.r
    rw [lineFrom]
    split <;> simp <;> omega
def encStrs (l : List (List UInt8)) : PV := .sl 1 (l.map PV.str)
def linesL (g : Grid) : List (List UInt8) := g.rows.map lineL
def linesE (g : Grid) : List (List UInt8) × Int := if checkG g ≠ 0 then ([], checkG g) else (linesL g, 0)
theorem rows_mem {g : Grid} {w h : Nat} (f : g.fit w h) {r : List Cell} (hr : r ∈ g.rows) {c : Cell} (hc : c ∈ r) : c ∈ g.cs := by
  rw [← f.flat]; exact List.mem_flatten.2 ⟨r, hr, hc⟩
end Go.Eng.YtphoefglfbifdaaDoor
end

/- Grids laid upon others: package grid's. -/
section
namespace Go.Eng.YtphoefglfbifdaaDoor
open Go Go.Eng Go.Proofs
variable (W : World)
set_option linter.unusedSimpArgs false
set_option maxRecDepth 100000
set_option linter.unusedVariables false
set_option maxHeartbeats 4000000
theorem layQ_len (A : List (List Cell)) (n w : Nat) (x y : Int) (v : Nat) (row : List Cell) : (layQ A n w x y v row).length = row.length := by
  unfold layQ
  split
  · rw [mendL_len]; simp [layRow]
  · rfl
def layE (g on : Grid) (x y : Int) : Grid × Int := if checkG g ≠ 0 then (.none, checkG g) else if checkG on ≠ 0 then (.none, checkG on) else (layG g on x y, 0)
theorem clamp_clamp (x : Int) : clampL (clampL x) = clampL x := by unfold clampL; omega
theorem clamp_small (n : Nat) (h : n ≤ 1000) : clampL (n : Int) = n := by unfold clampL; omega
theorem layRow_cut {row a : List Cell} {w X A x' : Nat} {cx : Int} (hrow : row.length = w) (hX : X + A ≤ w) (hx : (X : Int) - cx = x') (span : ∀ k, k < w → (inB cx (cx + a.length) k = true ↔ X ≤ k ∧ k < X + A)) (hA : 0 < A) :
    A ≤ (a.drop x').length ∧ layRow a cx row = row.take X ++ (a.drop x').take A ++ row.drop (X + A) := by
  have h1 := (span (X + A - 1) (by omega)).2 (by omega)
  unfold inB at h1
  simp only [Bool.and_eq_true, decide_eq_true_eq] at h1
  have hle : A ≤ (a.drop x').length := by rw [List.length_drop]; omega
  refine ⟨hle, ?_⟩
  rw [List.length_drop] at hle
  refine List.ext_getElem? fun k => ?_
  rw [layRow, List.getElem?_mapIdx]
  by_cases hk : k < w
  · have hkr : row[k]? = some row[k] := List.getElem?_eq_getElem _
    rw [hkr, Option.map_some, layP]
    have hsp := span k hk
    by_cases hin : X ≤ k ∧ k < X + A
    · rw [if_pos (hsp.2 hin), List.append_assoc, List.getElem?_append_right (by simp; omega), List.getElem?_append_left (by simp; omega), List.getElem?_take, if_pos (by simp; omega), List.getElem?_drop]
      have e1 : ((k : Int) - cx).toNat = x' + (k - (row.take X).length) := by simp; omega
      have e2 : x' + (k - (row.take X).length) < a.length := by simp; omega
      rw [e1, List.getD_eq_getElem?_getD, List.getElem?_eq_getElem e2]; rfl
    · rw [if_neg (fun h => hin (hsp.1 h))]
      by_cases hk2 : k < X
      · rw [List.append_assoc, List.getElem?_append_left (by simp; omega), List.getElem?_take, if_pos hk2, hkr]
      · rw [List.getElem?_append_right (by simp; omega), List.getElem?_drop, ← hkr]
        congr 1
        simp
        omega
  · rw [List.getElem?_eq_none (by omega), List.getElem?_eq_none (by simp; omega)]; rfl
theorem lay_copy {pre row post a : List Cell} {w X A x' : Nat} {cx : Int} (hrow : row.length = w) (hX : X + A ≤ w) (hx : (X : Int) - cx = x') (span : ∀ k, k < w → (inB cx (cx + a.length) k = true ↔ X ≤ k ∧ k < X + A)) (hA : 0 < A) :
    (pre ++ row ++ post).take (pre.length + X) ++ (a.drop x').take A ++ (pre ++ row ++ post).drop (pre.length + X + min A (a.drop x').length) = pre ++ layRow a cx row ++ post := by
  obtain ⟨h1, h2⟩ := layRow_cut hrow hX hx span hA
  rw [h2, Nat.min_eq_left h1, Nat.add_assoc, List.append_assoc pre row post, List.take_length_add_append, List.drop_length_add_append, List.take_append_of_le_length (by omega), List.drop_append_of_le_length (by omega)]
  simp
end Go.Eng.YtphoefglfbifdaaDoor
end

/- Grids laid upon others: the document's way. -/
section
namespace Go.Eng.YtphoefglfbifdaaDoor
open Go Go.Eng Go.Proofs
variable (W : World)
set_option linter.unusedSimpArgs false
set_option maxRecDepth 100000
set_option linter.unusedVariables false
set_option maxHeartbeats 4000000
/-- One row under way. -/
def layX (A : List (List Cell)) (x y : Int) (v : Nat) (u : Nat) (d : Cell) : Cell := if inB y (y + A.length) v then layP (A.getD ((v : Int) - y).toNat []) x u d else d
theorem layX_row (A : List (List Cell)) (x y : Int) (v : Nat) (row : List Cell) : row.mapIdx (layX A x y v) = if inB y (y + A.length) v then layRow (A.getD ((v : Int) - y).toNat []) x row else row := by
  refine List.ext_getElem? fun k => ?_
  rw [List.getElem?_mapIdx]
  cases hy : inB y (y + A.length) v
  · rw [if_neg (by decide)]
    cases row[k]? with
    | none => rfl
    | some d => simp [layX, hy]
  · rw [if_pos rfl, layRow, List.getElem?_mapIdx]
    cases row[k]? with
    | none => rfl
    | some d => simp [layX, hy]
theorem layRow_none {a row : List Cell} {x : Int} {n w : Nat} (ha : a.length = n) (hr : row.length = w) (hm : meets x n w = false) : layRow a x row = row := by
  refine List.ext_getElem? fun k => ?_
  rw [layRow, List.getElem?_mapIdx]
  cases hk : row[k]? with
  | none => rfl
  | some d =>
    have := lt_of_at hk
    rw [Option.map_some, layP, if_neg]
    unfold meets at hm
    unfold inB
    rw [Bool.eq_false_iff] at hm
    simp only [ne_eq, Bool.and_eq_true, decide_eq_true_eq] at hm ⊢
    omega
theorem row_of_in {G : List (List Cell)} {cy : Int} {v gw : Nat} (hG : ∀ r ∈ G, r.length = gw) (h : inB cy (cy + G.length) v = true) : ∃ j r, (v : Int) - cy = (j : Nat) ∧ G[j]? = some r ∧ G.getD ((v : Int) - cy).toNat [] = r ∧ r.length = gw := by
  unfold inB at h
  simp only [Bool.and_eq_true, decide_eq_true_eq] at h
  obtain ⟨j, hj⟩ := Int.eq_ofNat_of_zero_le (show 0 ≤ (v : Int) - cy by omega)
  have hjl : j < G.length := by omega
  have hjr : G[j]? = some G[j] := List.getElem?_eq_getElem _
  exact ⟨j, G[j], hj, hjr, by rw [hj, Int.toNat_natCast, List.getD_eq_getElem?_getD, hjr]; rfl, hG _ (List.getElem_mem _)⟩
/-- Has a place before u been met? -/
def metB (A : List (List Cell)) (n : Nat) (x y : Int) (v u : Nat) : Bool := inB y (y + A.length) v && decide (max x 0 < min (u : Int) (x + n))
end Go.Eng.YtphoefglfbifdaaDoor
end
