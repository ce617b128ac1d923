/- Texts put together: Check, GridP, GridN, GridW, GridE, GridY, GridZ, GridN2. -/
import Derived.Test.YtjkdkofpabocmaaDoorMG1
import Derived.Test.YtjkdkofpabocmaaDoorMS1
import Derived.Lib.TrimByte
import Derived.Test.YtjkdkofpabocmaaDoorMT1
/- Grids checked: package grid's, and the document's. -/
section
namespace Go.Eng.YtjkdkofpabocmaaDoor
open Go Go.Eng Go.Proofs
variable (W : World)
set_option linter.unusedSimpArgs false
set_option maxRecDepth 100000
set_option linter.unusedVariables false
set_option maxHeartbeats 4000000
theorem check_ok (g : Grid) (hg : g.ok) : Pure Tryd.prog W 12 [encGrid g] (.int .i64 (checkG g)) := by
  obtain ⟨gw, gh, cs⟩ := g
  have hlen : (cs.map encCell).length = cs.length := List.length_map ..
  rw [show encGrid ⟨gw, gh, cs⟩ = .agg [.int .i64 gw, .int .i64 gh, .sl 4 (cs.map encCell)] from rfl]
  refine Pure.of (acalls_of_vc (drawOk W) Tryd.func12 rfl (by decide) (by decide) rfl ?_)
  (refine g0_ ?_; repeat ((first | refine n1_ fun b_ => ?_ | refine n2_ fun b_ => ?_ | refine Nat1.mk fun q_ hq_ => ?_ | refine em_ fun x_ hx_ => ?_); refine g0_ ?_))
  refine brec ?_; intro c_ hs; (try rw [hs]); cases c_ <;> replace hs := nm_ hs
  · obtain ⟨w, rfl⟩ := Int.eq_ofNat_of_zero_le (show 0 ≤ gw by omega)
    obtain ⟨h, rfl⟩ := Int.eq_ofNat_of_zero_le (show 0 ≤ gh by omega)
    have hm0 : w * h ≤ 120 * 60 := Nat.mul_le_mul (by omega) (by omega)
    have hm : (w : Int) * h ≤ 7200 := by exact_mod_cast hm0
    have hm1 : 0 ≤ (w : Int) * h := Int.mul_nonneg (by omega) (by omega)
    (refine g0_ ?_; repeat ((first | refine n1_ fun b_ => ?_ | refine n2_ fun b_ => ?_ | refine Nat1.mk fun q_ hq_ => ?_ | refine em_ fun x_ hx_ => ?_); refine g0_ ?_))
    (refine g1_ ?_; repeat ((first | refine n1_ fun b_ => ?_ | refine n2_ fun b_ => ?_ | refine Nat1.mk fun q_ hq_ => ?_ | refine em_ fun x_ hx_ => ?_); refine g1_ ?_))
    refine brec ?_; intro c_ hc; (try rw [hc]); cases c_ <;> replace hc := nm_ hc
    · have hn : cs.length = w * h := by
        simp only [List.length_map] at hc
        exact_mod_cast hc
      have hG : checkG ⟨w, h, cs⟩ = errFrom w cs 0 cs := by
        rw [checkG, if_pos ⟨by simp [sizeB]; omega, by rw [hn]; push_cast; rfl⟩, Int.toNat_natCast]
      (refine g0_ ?_; repeat ((first | refine n1_ fun b_ => ?_ | refine n2_ fun b_ => ?_ | refine Nat1.mk fun q_ hq_ => ?_ | refine em_ fun x_ hx_ => ?_); refine g0_ ?_))
      refine' loopI (α := Nat) (fun i => [(37, .int .i64 i)]) [(1, _), (35, _), (36, _)] (fun i => [⟨b_, .row 3 [.agg [.int .i64 w, .int .i64 h, .sl 4 (cs.map encCell)]] 0⟩]) (fun i => i ≤ cs.length ∧ errFrom w cs i (cs.drop i) = errFrom w cs 0 cs) (fun i => cs.length - i) 0 ?_ ?_
      · exact ⟨Nat.zero_le _, rfl⟩
      rintro i ⟨hi, hw⟩
      (refine g0_ ?_; repeat ((first | refine n1_ fun b_ => ?_ | refine n2_ fun b_ => ?_ | refine Nat1.mk fun q_ hq_ => ?_ | refine em_ fun x_ hx_ => ?_); refine g0_ ?_))
      refine brec ?_; intro c_ h1; (try rw [h1]); cases c_ <;> replace h1 := nm_ h1
      · (refine g0_ ?_; repeat ((first | refine n1_ fun b_ => ?_ | refine n2_ fun b_ => ?_ | refine Nat1.mk fun q_ hq_ => ?_ | refine em_ fun x_ hx_ => ?_); refine g0_ ?_))
        rw [List.drop_of_length_le (by omega)] at hw
        rw [hG, ← hw]
        exact .refl _
      · (refine g0_ ?_; repeat ((first | refine n1_ fun b_ => ?_ | refine n2_ fun b_ => ?_ | refine Nat1.mk fun q_ hq_ => ?_ | refine em_ fun x_ hx_ => ?_); refine g0_ ?_))
        obtain ⟨c, rfl⟩ : ∃ c, c = x_ := ⟨_, rfl⟩
        have hc1 := hx_
        clear hx_
        rw [drop_cons_of hc1, errFrom] at hw
        obtain ⟨T, hT⟩ : ∃ T : Nat, T = i % w := ⟨_, rfl⟩
        have hTm : (i : Int).tmod w = T := by rw [tmod_nat, hT]
        have hA : T = 0 ∨ 1 ≤ i := by rcases i with _ | i; · left; simp [hT]
                                      · right; omega
        have hB : (T : Int) = (w : Int) - 1 ∨ i + 1 < cs.length := by
          by_cases hl : i + 1 < w * h
          · right; omega
          · left; have := last_mod (by omega) hl; omega
        refine brec ?_; intro c_ hr; (try rw [hr]); cases c_ <;> replace hr := nm_ hr
        · (refine g0_ ?_; repeat ((first | refine n1_ fun b_ => ?_ | refine n2_ fun b_ => ?_ | refine Nat1.mk fun q_ hq_ => ?_ | refine em_ fun x_ hx_ => ?_); refine g0_ ?_))
          (refine g1_ ?_; repeat ((first | refine n1_ fun b_ => ?_ | refine n2_ fun b_ => ?_ | refine Nat1.mk fun q_ hq_ => ?_ | refine em_ fun x_ hx_ => ?_); refine g1_ ?_))
          refine (styleCheck_ok W c.s).use ?_; (refine g0_ ?_; repeat ((first | refine n1_ fun b_ => ?_ | refine n2_ fun b_ => ?_ | refine Nat1.mk fun q_ hq_ => ?_ | refine em_ fun x_ hx_ => ?_); refine g0_ ?_))
          (refine g1_ ?_; repeat ((first | refine n1_ fun b_ => ?_ | refine n2_ fun b_ => ?_ | refine Nat1.mk fun q_ hq_ => ?_ | refine em_ fun x_ hx_ => ?_); refine g1_ ?_))
          refine brec ?_; intro c_ hst; (try rw [hst]); cases c_ <;> replace hst := nm_ hst
          · have hbad : ¬ badCell c := by
              rintro (⟨h, -⟩ | h)
              · exact h hr
              · simp_all
            have hwr : widthL c.r = 0 := by rw [hr, w0]
            rw [if_neg hbad] at hw
            (refine g0_ ?_; repeat ((first | refine n1_ fun b_ => ?_ | refine n2_ fun b_ => ?_ | refine Nat1.mk fun q_ hq_ => ?_ | refine em_ fun x_ hx_ => ?_); refine g0_ ?_))
            refine Draws.head ⟨59, by decide +kernel, ?_⟩; (refine g0_ ?_; repeat ((first | refine n1_ fun b_ => ?_ | refine n2_ fun b_ => ?_ | refine Nat1.mk fun q_ hq_ => ?_ | refine em_ fun x_ hx_ => ?_); refine g0_ ?_))
            (refine g1_ ?_; repeat ((first | refine n1_ fun b_ => ?_ | refine n2_ fun b_ => ?_ | refine Nat1.mk fun q_ hq_ => ?_ | refine em_ fun x_ hx_ => ?_); refine g1_ ?_))
            refine brec ?_; intro c_ hT0; (try rw [hT0]); cases c_ <;> replace hT0 := nm_ hT0
            · (refine g0_ ?_; repeat ((first | refine n1_ fun b_ => ?_ | refine n2_ fun b_ => ?_ | refine Nat1.mk fun q_ hq_ => ?_ | refine em_ fun x_ hx_ => ?_); refine g0_ ?_))
              (refine g1_ ?_; repeat ((first | refine n1_ fun b_ => ?_ | refine n2_ fun b_ => ?_ | refine Nat1.mk fun q_ hq_ => ?_ | refine em_ fun x_ hx_ => ?_); refine g1_ ?_))
              obtain ⟨p, rfl⟩ : ∃ p, p = x_ := ⟨_, rfl⟩
              have hq1 : q_ = i - 1 := by omega
              have hp1 := hx_
              rw [hq1] at hp1
              refine ⟨_, (width_ok W p.r).quiet, ?_⟩; (refine g0_ ?_; repeat ((first | refine n1_ fun b_ => ?_ | refine n2_ fun b_ => ?_ | refine Nat1.mk fun q_ hq_ => ?_ | refine em_ fun x_ hx_ => ?_); refine g0_ ?_))
              (refine g1_ ?_; repeat ((first | refine n1_ fun b_ => ?_ | refine n2_ fun b_ => ?_ | refine Nat1.mk fun q_ hq_ => ?_ | refine em_ fun x_ hx_ => ?_); refine g1_ ?_))
              refine brec ?_; intro c_ hp2; (try rw [hp2]); cases c_ <;> replace hp2 := nm_ hp2
              · (refine g0_ ?_; repeat ((first | refine n1_ fun b_ => ?_ | refine n2_ fun b_ => ?_ | refine Nat1.mk fun q_ hq_ => ?_ | refine em_ fun x_ hx_ => ?_); refine g0_ ?_))
                (refine g1_ ?_; repeat ((first | refine n1_ fun b_ => ?_ | refine n2_ fun b_ => ?_ | refine Nat1.mk fun q_ hq_ => ?_ | refine em_ fun x_ hx_ => ?_); refine g1_ ?_))
                obtain rfl : p = x_ := by
                  rw [show q_ = i - 1 by omega, hp1] at hx_
                  exact Option.some.inj hx_
                refine ⟨_, neq_style p.s c.s (hg.2.2.1 p (List.mem_of_getElem? hp1)).2 (hg.2.2.1 c (List.mem_of_getElem? hc1)).2 _ _, ?_⟩
                (refine g0_ ?_; repeat ((first | refine n1_ fun b_ => ?_ | refine n2_ fun b_ => ?_ | refine Nat1.mk fun q_ hq_ => ?_ | refine em_ fun x_ hx_ => ?_); refine g0_ ?_))
                (refine g1_ ?_; repeat ((first | refine n1_ fun b_ => ?_ | refine n2_ fun b_ => ?_ | refine Nat1.mk fun q_ hq_ => ?_ | refine em_ fun x_ hx_ => ?_); refine g1_ ?_))
                refine brec ?_; intro c_ hs2; (try rw [hs2]); cases c_ <;> replace hs2 := nm_ hs2
                · (refine g0_ ?_; repeat ((first | refine n1_ fun b_ => ?_ | refine n2_ fun b_ => ?_ | refine Nat1.mk fun q_ hq_ => ?_ | refine em_ fun x_ hx_ => ?_); refine g0_ ?_))
                  (refine g1_ ?_; repeat ((first | refine n1_ fun b_ => ?_ | refine n2_ fun b_ => ?_ | refine Nat1.mk fun q_ hq_ => ?_ | refine em_ fun x_ hx_ => ?_); refine g1_ ?_))
                  refine ⟨_, (width_ok W c.r).quiet, ?_⟩; (refine g0_ ?_; repeat ((first | refine n1_ fun b_ => ?_ | refine n2_ fun b_ => ?_ | refine Nat1.mk fun q_ hq_ => ?_ | refine em_ fun x_ hx_ => ?_); refine g0_ ?_))
                  (refine g1_ ?_; repeat ((first | refine n1_ fun b_ => ?_ | refine n2_ fun b_ => ?_ | refine Nat1.mk fun q_ hq_ => ?_ | refine em_ fun x_ hx_ => ?_); refine g1_ ?_))
                  have hH : ¬ halfCell w cs i c := by rintro (⟨-, h | h⟩ | ⟨h, -⟩) <;> first | omega | (rw [hTm, hT] at hT0; omega) | (apply h; simp only [leftOk, hp1]; exact ⟨by omega, by simpa using hs2⟩)
                  rw [if_neg hH] at hw
                  (refine g0_ ?_; repeat ((first | refine n1_ fun b_ => ?_ | refine n2_ fun b_ => ?_ | refine Nat1.mk fun q_ hq_ => ?_ | refine em_ fun x_ hx_ => ?_); refine g0_ ?_))
                  (refine g1_ ?_; repeat ((first | refine n1_ fun b_ => ?_ | refine n2_ fun b_ => ?_ | refine Nat1.mk fun q_ hq_ => ?_ | refine em_ fun x_ hx_ => ?_); refine g1_ ?_))
                  refine nx_ (i + 1) ?_ ?_
                  · exact ⟨by omega, hw⟩
                  · omega
                · have hH : halfCell w cs i c := .inl ⟨hr, .inr (by simp only [leftOk, hp1]; rintro ⟨-, h⟩; simp [h] at hs2)⟩
                  rw [if_pos hH] at hw
                  (refine g0_ ?_; repeat ((first | refine n1_ fun b_ => ?_ | refine n2_ fun b_ => ?_ | refine Nat1.mk fun q_ hq_ => ?_ | refine em_ fun x_ hx_ => ?_); refine g0_ ?_))
                  (refine g1_ ?_; repeat ((first | refine n1_ fun b_ => ?_ | refine n2_ fun b_ => ?_ | refine Nat1.mk fun q_ hq_ => ?_ | refine em_ fun x_ hx_ => ?_); refine g1_ ?_))
                  rw [hG, ← hw]
                  exact .refl _
              · have hH : halfCell w cs i c := .inl ⟨hr, .inr (by simp only [leftOk, hp1]; rintro ⟨h, -⟩; omega)⟩
                rw [if_pos hH] at hw
                (refine g0_ ?_; repeat ((first | refine n1_ fun b_ => ?_ | refine n2_ fun b_ => ?_ | refine Nat1.mk fun q_ hq_ => ?_ | refine em_ fun x_ hx_ => ?_); refine g0_ ?_))
                (refine g1_ ?_; repeat ((first | refine n1_ fun b_ => ?_ | refine n2_ fun b_ => ?_ | refine Nat1.mk fun q_ hq_ => ?_ | refine em_ fun x_ hx_ => ?_); refine g1_ ?_))
                rw [hG, ← hw]
                exact .refl _
            · have hH : halfCell w cs i c := .inl ⟨hr, .inl (by rw [hTm, hT] at hT0; omega)⟩
              rw [if_pos hH] at hw
              (refine g0_ ?_; repeat ((first | refine n1_ fun b_ => ?_ | refine n2_ fun b_ => ?_ | refine Nat1.mk fun q_ hq_ => ?_ | refine em_ fun x_ hx_ => ?_); refine g0_ ?_))
              (refine g1_ ?_; repeat ((first | refine n1_ fun b_ => ?_ | refine n2_ fun b_ => ?_ | refine Nat1.mk fun q_ hq_ => ?_ | refine em_ fun x_ hx_ => ?_); refine g1_ ?_))
              rw [hG, ← hw]
              exact .refl _
          · have hbad : badCell c := .inr (by simp_all)
            rw [if_pos hbad] at hw
            (refine g0_ ?_; repeat ((first | refine n1_ fun b_ => ?_ | refine n2_ fun b_ => ?_ | refine Nat1.mk fun q_ hq_ => ?_ | refine em_ fun x_ hx_ => ?_); refine g0_ ?_))
            rw [hG, ← hw]
            exact .refl _
        · (refine g0_ ?_; repeat ((first | refine n1_ fun b_ => ?_ | refine n2_ fun b_ => ?_ | refine Nat1.mk fun q_ hq_ => ?_ | refine em_ fun x_ hx_ => ?_); refine g0_ ?_))
          (refine g1_ ?_; repeat ((first | refine n1_ fun b_ => ?_ | refine n2_ fun b_ => ?_ | refine Nat1.mk fun q_ hq_ => ?_ | refine em_ fun x_ hx_ => ?_); refine g1_ ?_))
          refine (width_ok W c.r).use ?_; (refine g0_ ?_; repeat ((first | refine n1_ fun b_ => ?_ | refine n2_ fun b_ => ?_ | refine Nat1.mk fun q_ hq_ => ?_ | refine em_ fun x_ hx_ => ?_); refine g0_ ?_))
          refine brec ?_; intro c_ hz; (try rw [hz]); cases c_ <;> replace hz := nm_ hz
          · (refine g0_ ?_; repeat ((first | refine n1_ fun b_ => ?_ | refine n2_ fun b_ => ?_ | refine Nat1.mk fun q_ hq_ => ?_ | refine em_ fun x_ hx_ => ?_); refine g0_ ?_))
            (refine g1_ ?_; repeat ((first | refine n1_ fun b_ => ?_ | refine n2_ fun b_ => ?_ | refine Nat1.mk fun q_ hq_ => ?_ | refine em_ fun x_ hx_ => ?_); refine g1_ ?_))
            refine (styleCheck_ok W c.s).use ?_; (refine g0_ ?_; repeat ((first | refine n1_ fun b_ => ?_ | refine n2_ fun b_ => ?_ | refine Nat1.mk fun q_ hq_ => ?_ | refine em_ fun x_ hx_ => ?_); refine g0_ ?_))
            (refine g1_ ?_; repeat ((first | refine n1_ fun b_ => ?_ | refine n2_ fun b_ => ?_ | refine Nat1.mk fun q_ hq_ => ?_ | refine em_ fun x_ hx_ => ?_); refine g1_ ?_))
            refine brec ?_; intro c_ hst; (try rw [hst]); cases c_ <;> replace hst := nm_ hst
            · have hbad : ¬ badCell c := by
                rintro (⟨-, h⟩ | h)
                · omega
                · simp_all
              rw [if_neg hbad] at hw
              (refine g0_ ?_; repeat ((first | refine n1_ fun b_ => ?_ | refine n2_ fun b_ => ?_ | refine Nat1.mk fun q_ hq_ => ?_ | refine em_ fun x_ hx_ => ?_); refine g0_ ?_))
              refine Draws.head ⟨59, by decide +kernel, ?_⟩; (refine g0_ ?_; repeat ((first | refine n1_ fun b_ => ?_ | refine n2_ fun b_ => ?_ | refine Nat1.mk fun q_ hq_ => ?_ | refine em_ fun x_ hx_ => ?_); refine g0_ ?_))
              (refine g1_ ?_; repeat ((first | refine n1_ fun b_ => ?_ | refine n2_ fun b_ => ?_ | refine Nat1.mk fun q_ hq_ => ?_ | refine em_ fun x_ hx_ => ?_); refine g1_ ?_))
              refine ⟨_, (width_ok W c.r).quiet, ?_⟩; (refine g0_ ?_; repeat ((first | refine n1_ fun b_ => ?_ | refine n2_ fun b_ => ?_ | refine Nat1.mk fun q_ hq_ => ?_ | refine em_ fun x_ hx_ => ?_); refine g0_ ?_))
              (refine g1_ ?_; repeat ((first | refine n1_ fun b_ => ?_ | refine n2_ fun b_ => ?_ | refine Nat1.mk fun q_ hq_ => ?_ | refine em_ fun x_ hx_ => ?_); refine g1_ ?_))
              refine brec ?_; intro c_ hw2; (try rw [hw2]); cases c_ <;> replace hw2 := nm_ hw2
              · (refine g0_ ?_; repeat ((first | refine n1_ fun b_ => ?_ | refine n2_ fun b_ => ?_ | refine Nat1.mk fun q_ hq_ => ?_ | refine em_ fun x_ hx_ => ?_); refine g0_ ?_))
                (refine g1_ ?_; repeat ((first | refine n1_ fun b_ => ?_ | refine n2_ fun b_ => ?_ | refine Nat1.mk fun q_ hq_ => ?_ | refine em_ fun x_ hx_ => ?_); refine g1_ ?_))
                have hH : ¬ halfCell w cs i c := by rintro (⟨h, -⟩ | ⟨h, -⟩) <;> omega
                rw [if_neg hH] at hw
                (refine g0_ ?_; repeat ((first | refine n1_ fun b_ => ?_ | refine n2_ fun b_ => ?_ | refine Nat1.mk fun q_ hq_ => ?_ | refine em_ fun x_ hx_ => ?_); refine g0_ ?_))
                (refine g1_ ?_; repeat ((first | refine n1_ fun b_ => ?_ | refine n2_ fun b_ => ?_ | refine Nat1.mk fun q_ hq_ => ?_ | refine em_ fun x_ hx_ => ?_); refine g1_ ?_))
                refine nx_ (i + 1) ?_ ?_
                · exact ⟨by omega, hw⟩
                · omega
              · (refine g0_ ?_; repeat ((first | refine n1_ fun b_ => ?_ | refine n2_ fun b_ => ?_ | refine Nat1.mk fun q_ hq_ => ?_ | refine em_ fun x_ hx_ => ?_); refine g0_ ?_))
                (refine g1_ ?_; repeat ((first | refine n1_ fun b_ => ?_ | refine n2_ fun b_ => ?_ | refine Nat1.mk fun q_ hq_ => ?_ | refine em_ fun x_ hx_ => ?_); refine g1_ ?_))
                refine brec ?_; intro c_ hT0; (try rw [hT0]); cases c_ <;> replace hT0 := nm_ hT0
                · (refine g0_ ?_; repeat ((first | refine n1_ fun b_ => ?_ | refine n2_ fun b_ => ?_ | refine Nat1.mk fun q_ hq_ => ?_ | refine em_ fun x_ hx_ => ?_); refine g0_ ?_))
                  (refine g1_ ?_; repeat ((first | refine n1_ fun b_ => ?_ | refine n2_ fun b_ => ?_ | refine Nat1.mk fun q_ hq_ => ?_ | refine em_ fun x_ hx_ => ?_); refine g1_ ?_))
                  obtain ⟨p, rfl⟩ : ∃ p, p = x_ := ⟨_, rfl⟩
                  have hp1 := hx_
                  refine brec ?_; intro c_ hp2; (try rw [hp2]); cases c_ <;> replace hp2 := nm_ hp2
                  · have hH : ¬ halfCell w cs i c := by rintro (⟨h, -⟩ | ⟨-, h | h⟩) <;> first | omega | (rw [hTm, hT] at hT0; omega) | (apply h; simp only [rightOk, hp1]; omega)
                    rw [if_neg hH] at hw
                    (refine g0_ ?_; repeat ((first | refine n1_ fun b_ => ?_ | refine n2_ fun b_ => ?_ | refine Nat1.mk fun q_ hq_ => ?_ | refine em_ fun x_ hx_ => ?_); refine g0_ ?_))
                    (refine g1_ ?_; repeat ((first | refine n1_ fun b_ => ?_ | refine n2_ fun b_ => ?_ | refine Nat1.mk fun q_ hq_ => ?_ | refine em_ fun x_ hx_ => ?_); refine g1_ ?_))
                    refine nx_ (i + 1) ?_ ?_
                    · exact ⟨by omega, hw⟩
                    · omega
                  · have hH : halfCell w cs i c := .inr ⟨by omega, .inr (by simp only [rightOk, hp1]; omega)⟩
                    rw [if_pos hH] at hw
                    (refine g0_ ?_; repeat ((first | refine n1_ fun b_ => ?_ | refine n2_ fun b_ => ?_ | refine Nat1.mk fun q_ hq_ => ?_ | refine em_ fun x_ hx_ => ?_); refine g0_ ?_))
                    (refine g1_ ?_; repeat ((first | refine n1_ fun b_ => ?_ | refine n2_ fun b_ => ?_ | refine Nat1.mk fun q_ hq_ => ?_ | refine em_ fun x_ hx_ => ?_); refine g1_ ?_))
                    rw [hG, ← hw]
                    exact .refl _
                · have hH : halfCell w cs i c := .inr ⟨by omega, .inl (by rw [hTm, hT] at hT0; omega)⟩
                  rw [if_pos hH] at hw
                  (refine g0_ ?_; repeat ((first | refine n1_ fun b_ => ?_ | refine n2_ fun b_ => ?_ | refine Nat1.mk fun q_ hq_ => ?_ | refine em_ fun x_ hx_ => ?_); refine g0_ ?_))
                  (refine g1_ ?_; repeat ((first | refine n1_ fun b_ => ?_ | refine n2_ fun b_ => ?_ | refine Nat1.mk fun q_ hq_ => ?_ | refine em_ fun x_ hx_ => ?_); refine g1_ ?_))
                  rw [hG, ← hw]
                  exact .refl _
            · have hbad : badCell c := .inr (by simp_all)
              rw [if_pos hbad] at hw
              (refine g0_ ?_; repeat ((first | refine n1_ fun b_ => ?_ | refine n2_ fun b_ => ?_ | refine Nat1.mk fun q_ hq_ => ?_ | refine em_ fun x_ hx_ => ?_); refine g0_ ?_))
              rw [hG, ← hw]
              exact .refl _
          · have hbad : badCell c := .inl ⟨hr, by omega⟩
            rw [if_pos hbad] at hw
            (refine g0_ ?_; repeat ((first | refine n1_ fun b_ => ?_ | refine n2_ fun b_ => ?_ | refine Nat1.mk fun q_ hq_ => ?_ | refine em_ fun x_ hx_ => ?_); refine g0_ ?_))
            (refine g1_ ?_; repeat ((first | refine n1_ fun b_ => ?_ | refine n2_ fun b_ => ?_ | refine Nat1.mk fun q_ hq_ => ?_ | refine em_ fun x_ hx_ => ?_); refine g1_ ?_))
            rw [hG, ← hw]
            exact .refl _
    · have hG : checkG ⟨w, h, cs⟩ = 3 := by
        rw [checkG, if_neg (by rintro ⟨-, h2⟩; apply hc; rw [List.length_map]; exact h2)]
      (refine g0_ ?_; repeat ((first | refine n1_ fun b_ => ?_ | refine n2_ fun b_ => ?_ | refine Nat1.mk fun q_ hq_ => ?_ | refine em_ fun x_ hx_ => ?_); refine g0_ ?_))
      rw [hG]
      exact .refl _
  · have hG : checkG ⟨gw, gh, cs⟩ = 3 := by
      rw [checkG, if_neg (by rintro ⟨h1, -⟩; simp [sizeB] at h1; omega)]
    (refine g0_ ?_; repeat ((first | refine n1_ fun b_ => ?_ | refine n2_ fun b_ => ?_ | refine Nat1.mk fun q_ hq_ => ?_ | refine em_ fun x_ hx_ => ?_); refine g0_ ?_))
    (refine g1_ ?_; repeat ((first | refine n1_ fun b_ => ?_ | refine n2_ fun b_ => ?_ | refine Nat1.mk fun q_ hq_ => ?_ | refine em_ fun x_ hx_ => ?_); refine g1_ ?_))
    rw [hG]
    exact .refl _

end Go.Eng.YtjkdkofpabocmaaDoor
end

/- Grids: package grid's inside and Fill. -/
section
namespace Go.Eng.YtjkdkofpabocmaaDoor
open Go Go.Eng Go.Proofs
variable (W : World)
set_option linter.unusedSimpArgs false
set_option maxRecDepth 100000
set_option linter.unusedVariables false
set_option maxHeartbeats 4000000
/-- What of a part lies in a grid: a corner, and how much. -/
structure Inside (r : Rect) (w h X Y A B : Nat) : Prop where
  xa : X + A ≤ w
  yb : Y + B ≤ h
  x : ∀ k : Nat, k < w → (inB r.x0 r.x1 k = true ↔ X ≤ k ∧ k < X + A)
  y : ∀ k : Nat, k < h → (inB r.y0 r.y1 k = true ↔ Y ≤ k ∧ k < Y + B)
def insA (a n : Int) (w : Nat) : Nat := (max (min (clampL a + max (clampL n) 0) w - min (max (clampL a) 0) w) 0).toNat
def insX (a : Int) (w : Nat) : Nat := (min (max (clampL a) 0) w).toNat
theorem inside_span (a n : Int) (w : Nat) : insX a w + insA a n w ≤ w ∧ ∀ k : Nat, k < w → (inB (clampL a) (clampL a + max (clampL n) 0) k = true ↔ insX a w ≤ k ∧ k < insX a w + insA a n w) := by
  unfold insX insA inB
  refine ⟨by omega, fun k hk => ?_⟩
  simp only [Bool.and_eq_true, decide_eq_true_eq]
  omega
theorem inside_of (r : Rect) (w h : Nat) : Inside r w h (insX r.x w) (insX r.y h) (insA r.x r.w w) (insA r.y r.h h) :=
  ⟨(inside_span r.x r.w w).1, (inside_span r.y r.h h).1, (inside_span r.x r.w w).2, (inside_span r.y r.h h).2⟩
def encIns (r : Rect) (w h : Nat) : PV := .agg [.int .i64 (insX r.x w), .int .i64 (insX r.y h), .int .i64 (insA r.x r.w w), .int .i64 (insA r.y r.h h)]
theorem agg4 {a b c d a' b' c' d' : Int} (h1 : a = a') (h2 : b = b') (h3 : c = c') (h4 : d = d') : PV.agg [.int .i64 a, .int .i64 b, .int .i64 c, .int .i64 d] = .agg [.int .i64 a', .int .i64 b', .int .i64 c', .int .i64 d'] := by subst h1 h2 h3 h4; rfl
theorem ifmin (a b : Int) : (if b < a then b else a) = min a b := by rw [Int.min_def]; split <;> split <;> omega
theorem ifmax (a b : Int) : (if a < b then b else a) = max a b := by rw [Int.max_def]; split <;> split <;> omega
theorem insideB_ok (w h : Nat) (b n : Nat) (r : Rect) (hw2 : w ≤ 1000) (hh2 : h ≤ 1000) : Pure Tryd.prog W 67 [.agg [.int .i64 w, .int .i64 h, .rsl b 4 0 n], encRect r] (encIns r w h) := by
  have hx := clampL_le r.x
  have hy := clampL_le r.y
  have hw := clampL_le r.w
  have hh := clampL_le r.h
  refine Pure.of (acalls_of_vc (drawOk W) Tryd.func67 rfl (by decide) (by decide) rfl ?_)
  (refine g0_ ?_; repeat ((first | refine n1_ fun b_ => ?_ | refine n2_ fun b_ => ?_); refine g0_ ?_))
  refine head_ ?_; (refine g0_ ?_; repeat ((first | refine n1_ fun b_ => ?_ | refine n2_ fun b_ => ?_); refine g0_ ?_))
  refine ⟨_, (clamp_ok W r.x).quiet, ?_⟩; (refine g0_ ?_; repeat ((first | refine n1_ fun b_ => ?_ | refine n2_ fun b_ => ?_); refine g0_ ?_))
  refine ⟨_, (clamp_ok W r.y).quiet, ?_⟩; (refine g0_ ?_; repeat ((first | refine n1_ fun b_ => ?_ | refine n2_ fun b_ => ?_); refine g0_ ?_))
  refine head_ ?_; (refine g0_ ?_; repeat ((first | refine n1_ fun b_ => ?_ | refine n2_ fun b_ => ?_); refine g0_ ?_))
  refine ⟨_, (clamp_ok W r.w).quiet, ?_⟩; (refine g0_ ?_; repeat ((first | refine n1_ fun b_ => ?_ | refine n2_ fun b_ => ?_); refine g0_ ?_))
  refine ⟨_, (clamp_ok W r.h).quiet, ?_⟩; (refine g0_ ?_; repeat ((first | refine n1_ fun b_ => ?_ | refine n2_ fun b_ => ?_); refine g0_ ?_))
  refine head_ ?_; (refine g0_ ?_; repeat ((first | refine n1_ fun b_ => ?_ | refine n2_ fun b_ => ?_); refine g0_ ?_))
  (refine Frz.of_eq ?_; (conv => lhs; whnf))
  simp only [ifmin, ifmax]
  exact agg4 (by unfold insX; omega) (by unfold insX; omega) (by unfold insA; omega) (by unfold insA; omega)
theorem insideS_ok (w h : Nat) (l : List PV) (r : Rect) (hw2 : w ≤ 1000) (hh2 : h ≤ 1000) : Pure Tryd.prog W 67 [.agg [.int .i64 w, .int .i64 h, .sl 4 l], encRect r] (encIns r w h) := by
  have hx := clampL_le r.x
  have hy := clampL_le r.y
  have hw := clampL_le r.w
  have hh := clampL_le r.h
  refine Pure.of (acalls_of_vc (drawOk W) Tryd.func67 rfl (by decide) (by decide) rfl ?_)
  (refine g0_ ?_; repeat ((first | refine n1_ fun b_ => ?_ | refine n2_ fun b_ => ?_); refine g0_ ?_))
  refine head_ ?_; (refine g0_ ?_; repeat ((first | refine n1_ fun b_ => ?_ | refine n2_ fun b_ => ?_); refine g0_ ?_))
  refine ⟨_, (clamp_ok W r.x).quiet, ?_⟩; (refine g0_ ?_; repeat ((first | refine n1_ fun b_ => ?_ | refine n2_ fun b_ => ?_); refine g0_ ?_))
  refine ⟨_, (clamp_ok W r.y).quiet, ?_⟩; (refine g0_ ?_; repeat ((first | refine n1_ fun b_ => ?_ | refine n2_ fun b_ => ?_); refine g0_ ?_))
  refine head_ ?_; (refine g0_ ?_; repeat ((first | refine n1_ fun b_ => ?_ | refine n2_ fun b_ => ?_); refine g0_ ?_))
  refine ⟨_, (clamp_ok W r.w).quiet, ?_⟩; (refine g0_ ?_; repeat ((first | refine n1_ fun b_ => ?_ | refine n2_ fun b_ => ?_); refine g0_ ?_))
  refine ⟨_, (clamp_ok W r.h).quiet, ?_⟩; (refine g0_ ?_; repeat ((first | refine n1_ fun b_ => ?_ | refine n2_ fun b_ => ?_); refine g0_ ?_))
  refine head_ ?_; (refine g0_ ?_; repeat ((first | refine n1_ fun b_ => ?_ | refine n2_ fun b_ => ?_); refine g0_ ?_))
  (refine Frz.of_eq ?_; (conv => lhs; whnf))
  simp only [ifmin, ifmax]
  exact agg4 (by unfold insX; omega) (by unfold insX; omega) (by unfold insA; omega) (by unfold insA; omega)
theorem set_mid {pre seg post : List Cell} {x : Nat} (hx : x < seg.length) (c : Cell) {n : Nat} (hn : n = pre.length) : ((pre ++ seg ++ post).map encCell).set (n + x) (.agg [.int .i32 c.r, .int .i64 c.s.fore, .int .i64 c.s.back, .int .i64 c.s.bits]) = (pre ++ seg.set x c ++ post).map encCell := by
  subst hn
  rw [show (.agg [.int .i32 c.r, .int .i64 c.s.fore, .int .i64 c.s.back, .int .i64 c.s.bits] : PV) = encCell c from rfl, ← List.map_set]
  congr 1
  rw [List.append_assoc, List.set_append_right _ _ (by omega), Nat.add_sub_cancel_left, List.set_append_left _ _ hx, List.append_assoc]
theorem at_mid {pre seg post : List Cell} {x : Nat} {d : Cell} (hx : seg[x]? = some d) {n : Nat} (hn : n = pre.length) : (pre ++ seg ++ post)[n + x]? = some d := by
  subst hn
  rw [List.append_assoc, List.getElem?_append_right (by omega), Nat.add_sub_cancel_left, List.getElem?_append_left (lt_of_at hx), hx]
/-- What Fill answers. -/
def fillE (g : Grid) (r : Rect) (c : Cell) : Grid × Int := if checkG g ≠ 0 then (.none, checkG g) else if widthL c.r ≠ 1 ∨ checkStyle c.s = false then (.none, 4) else (fillG g r c, 0)
theorem frz_none {σ : Mem} : Frz σ (.agg [.int .i64 0, .int .i64 0, .nils]) (encGrid .none) := .agg _ _ rfl fun j hj => by
  match j, hj with
  | 0, _ => exact .refl _
  | 1, _ => exact .refl _
  | 2, _ => exact .nils _
theorem fill_ok (g : Grid) (hg : g.ok) (r : Rect) (c : Cell) : Pure Tryd.prog W 30 [encGrid g, encRect r, encCell c] (.tup [encGrid (fillE g r c).1, .int .i64 (fillE g r c).2]) := by
  refine Pure.of (acalls_of_vc (drawOk W) Tryd.func30 rfl (by decide) (by decide) rfl ?_)
  (refine g0_ ?_; repeat ((first | refine n1_ fun b_ => ?_ | refine n2_ fun b_ => ?_); refine g0_ ?_))
  refine (check_ok W g hg).use ?_; (refine g0_ ?_; repeat ((first | refine n1_ fun b_ => ?_ | refine n2_ fun b_ => ?_); refine g0_ ?_))
  refine brec ?_; intro c_ h1; (try rw [h1]); cases c_ <;> replace h1 := nm_ h1
  · have hE : fillE g r c = if widthL c.r ≠ 1 ∨ checkStyle c.s = false then (.none, 4) else (fillG g r c, 0) := by rw [fillE, if_neg (by simpa using h1)]
    obtain ⟨w, h, f⟩ := fit_of (g := g) (by simpa using h1)
    (refine g0_ ?_; repeat ((first | refine n1_ fun b_ => ?_ | refine n2_ fun b_ => ?_); refine g0_ ?_))
    refine (width_ok W c.r).use ?_; (refine g0_ ?_; repeat ((first | refine n1_ fun b_ => ?_ | refine n2_ fun b_ => ?_); refine g0_ ?_))
    refine brec ?_; intro c_ h2; (try rw [h2]); cases c_ <;> replace h2 := nm_ h2
    · (refine g0_ ?_; repeat ((first | refine n1_ fun b_ => ?_ | refine n2_ fun b_ => ?_); refine g0_ ?_))
      refine (styleCheck_ok W c.s).use ?_; (refine g0_ ?_; repeat ((first | refine n1_ fun b_ => ?_ | refine n2_ fun b_ => ?_); refine g0_ ?_))
      refine brec ?_; intro c_ h3; (try rw [h3]); cases c_ <;> replace h3 := nm_ h3
      · have hE2 : fillE g r c = (fillG g r c, 0) := by rw [hE, if_neg (fun h => h.elim (fun h => h (by omega)) (fun h => by rw [h] at h3; cases h3))]
        obtain ⟨gw, gh, cs⟩ := g
        obtain rfl : gw = w := f.ew
        obtain rfl : gh = h := f.eh
        have hsm := f.small
        have hlen : cs.length = w * h := f.len
        have hne : cs ≠ [] := by rintro rfl; have := f.w1; have := f.h1; have : 1 * 1 ≤ w * h := Nat.mul_le_mul f.w1 f.h1; simp at hlen; omega
        have hins := inside_of r w h
        (refine g0_ ?_; repeat ((first | refine n1_ fun b_ => ?_ | refine n2_ fun b_ => ?_); refine g0_ ?_))
        rename_i b1 b2 b3
        obtain ⟨b4, rfl⟩ : ∃ b4, b4 = b_ := ⟨_, rfl⟩
        refine ACalls.giveE (copy_ok W w h cs hne (by omega)) ?_
        rintro bc -
        rw [hlen]
        (refine g0_ ?_; repeat ((first | refine n1_ fun b_ => ?_ | refine n2_ fun b_ => ?_); refine g0_ ?_))
        have hw2 := f.w2
        have hh2 := f.h2
        refine (insideB_ok W w h bc (w * h) r (by omega) (by omega)).use ?_; (refine g0_ ?_; repeat ((first | refine n1_ fun b_ => ?_ | refine n2_ fun b_ => ?_); refine g0_ ?_))
        generalize insX r.x w = X at *
        generalize insX r.y h = Y at *
        generalize insA r.x r.w w = A at *
        generalize insA r.y r.h h = B at *
        have hL := f.row
        have hLl := f.rlen
        have hLf := f.flat
        have hya := hins.yb
        have hxa := hins.xa
        rw [fillG] at hE2
        generalize (Grid.rows ⟨w, h, cs⟩) = L at *
        have hQy : ∀ (k : Nat) (d : List Cell), L[k]? = some d → (¬ (Y ≤ k ∧ k < Y + B)) → fillQ c r.x0 r.x1 r.y0 r.y1 k d = d := fun k d hk hn => by
          have := lt_of_at hk
          rw [fillQ, if_neg (by rw [hins.y k (by omega)]; exact hn)]
        (refine g0_ ?_; repeat ((first | refine n1_ fun b_ => ?_ | refine n2_ fun b_ => ?_); refine g0_ ?_))
        refine' loopI (α := Nat × (List Cell)) (fun (y, cs') => [(9, .int .i64 y)]) [(3, _), (4, _), (5, _), (6, _)] (fun (y, cs') => [⟨b2, .row 4 [.agg [.int .i64 X, .int .i64 Y, .int .i64 A, .int .i64 B]] 0⟩, ⟨b1, .row 3 [.agg [.int .i64 w, .int .i64 h, .rsl bc 4 0 (w * h)]] 0⟩, ⟨b4, .row 3 [.agg [.int .i64 0, .int .i64 0, .nils]] 0⟩, ⟨b3, .row 4 [encCell c] 0⟩, ⟨bc, .row 4 (cs'.map encCell) 0⟩]) (fun (y, cs') => Y ≤ y ∧ y ≤ Y + B ∧ cs' = (upto (fillQ c r.x0 r.x1 r.y0 r.y1) y L).flatten) (fun (y, cs') => Y + B - y) (Y, cs) ?_ ?_
        · exact ⟨Nat.le_refl _, Nat.le_add_right _ _, by rw [upto_from fun k d hk hn => hQy k d hk (by omega), hLf]⟩
        rintro ⟨y, cs'⟩ ⟨hy1, hy2, rfl⟩
        (refine g0_ ?_; repeat ((first | refine n1_ fun b_ => ?_ | refine n2_ fun b_ => ?_); refine g0_ ?_))
        refine brec ?_; intro c_ h4; (try rw [h4]); cases c_ <;> replace h4 := nm_ h4
        · have hyB : y = Y + B := by omega
          subst hyB
          rw [upto_all fun k d hk hn => hQy k d hk (by omega)]
          have hfl := flat_len w _ (mapIdx_row (fillQ_len c r.x0 r.x1 r.y0 r.y1) hL)
          rw [List.length_mapIdx, hLl] at hfl
          rw [hE2]
          (refine g0_ ?_; repeat ((first | refine n1_ fun b_ => ?_ | refine n2_ fun b_ => ?_); refine g0_ ?_))
          exact frz_tup2 (frz_grid (by repeat (first | exact .here _ _ _ | apply Look.there)) (by rw [hfl, Nat.mul_comm])) (.refl _)
        · obtain ⟨row, hr0⟩ : ∃ row, L[y]? = some row := ⟨L[y], List.getElem?_eq_getElem _⟩
          have hr := upto_at (fillQ c r.x0 r.x1 r.y0 r.y1) hr0
          have hrl := hL row (List.mem_of_getElem? hr0)
          have hnx := (congrArg List.flatten (upto_set (p := fillQ c r.x0 r.x1 r.y0 r.y1) hr0)).trans (flat_set hr _)
          have hpre := take_flat_len (w := w) (L := upto (fillQ c r.x0 r.x1 r.y0 r.y1) y L) (by
            intro q hq
            obtain ⟨k, hk⟩ := List.getElem?_of_mem hq
            rw [upto_get] at hk
            cases hg : L[k]? with
            | none => rw [hg] at hk; cases hk
            | some d =>
              rw [hg] at hk
              obtain rfl := Option.some.inj hk
              have := hL d (List.mem_of_getElem? hg)
              split
              · rw [fillQ_len]; exact this
              · exact this) (y := y) (by rw [upto_len]; omega)
          rw [flat_at hr]
          rw [fillQ, if_pos ((hins.y y (by omega)).2 (by omega))] at hnx
          generalize (List.take y (upto (fillQ c r.x0 r.x1 r.y0 r.y1) y L)).flatten = pre at *
          generalize (List.drop (y + 1) (upto (fillQ c r.x0 r.x1 r.y0 r.y1) y L)).flatten = post at *
          have hyw : (y + 1) * w ≤ h * w := Nat.mul_le_mul_right w (by omega)
          rw [Nat.mul_comm h w] at hyw
          (refine g0_ ?_; repeat ((first | refine n1_ fun b_ => ?_ | refine n2_ fun b_ => ?_); refine g0_ ?_))
          refine (rowOwn_ok W bc (w * h) w y h hyw (by omega) (by omega) (by omega)).use ?_; (refine g0_ ?_; repeat ((first | refine n1_ fun b_ => ?_ | refine n2_ fun b_ => ?_); refine g0_ ?_))
          have hPx : ∀ (k : Nat) (d : Cell), row[k]? = some d → (¬ (X ≤ k ∧ k < X + A)) → fillP c r.x0 r.x1 k d = d := fun k d hk hn => by
            have := lt_of_at hk
            rw [fillP, if_neg (by rw [hins.x k (by omega)]; exact hn)]
          refine' loopI (α := Nat × (List Cell)) (fun (x, seg) => [(11, .int .i64 x)]) [(3, _), (4, _), (5, _), (6, _), (9, _), (10, _)] (fun (x, seg) => [⟨b2, .row 4 [.agg [.int .i64 X, .int .i64 Y, .int .i64 A, .int .i64 B]] 0⟩, ⟨b1, .row 3 [.agg [.int .i64 w, .int .i64 h, .rsl bc 4 0 (w * h)]] 0⟩, ⟨b4, .row 3 [.agg [.int .i64 0, .int .i64 0, .nils]] 0⟩, ⟨b3, .row 4 [encCell c] 0⟩, ⟨bc, .row 4 ((pre ++ seg ++ post).map encCell) 0⟩]) (fun (x, seg) => X ≤ x ∧ x ≤ X + A ∧ seg = upto (fillP c r.x0 r.x1) x row) (fun (x, seg) => X + A - x) (X, row) ?_ ?_
          · exact ⟨Nat.le_refl _, Nat.le_add_right _ _, by rw [upto_from fun k d hk hn => hPx k d hk (by omega)]⟩
          rintro ⟨x, seg⟩ ⟨hx1, hx2, hseg⟩
          have hsl : seg.length = w := by rw [hseg, upto_len, hrl]
          (refine g0_ ?_; repeat ((first | refine n1_ fun b_ => ?_ | refine n2_ fun b_ => ?_); refine g0_ ?_))
          refine brec ?_; intro c_ h5; (try rw [h5]); cases c_ <;> replace h5 := nm_ h5
          · have hxA : x = X + A := by omega
            subst hxA
            rw [upto_all fun k d hk hn => hPx k d hk (by omega)] at hseg
            have hm := mend_ok W bc pre seg post (by omega)
            rw [hpre, hsl] at hm
            (refine g0_ ?_; repeat ((first | refine n1_ fun b_ => ?_ | refine n2_ fun b_ => ?_); refine g0_ ?_))
            refine ACalls.lend1 hm (by repeat (first | exact .here _ _ _ | apply Look.there)) ?_
            rintro _ -
            (refine g0_ ?_; repeat ((first | refine n1_ fun b_ => ?_ | refine n2_ fun b_ => ?_); refine g0_ ?_))
            refine nx_ (y + 1, pre ++ mendL seg ++ post) ?_ ?_
            · exact ⟨by omega, by omega, by rw [hnx, hseg]; rfl⟩
            · ((try dsimp only); (try simp only [List.length_drop, List.length_take, List.length_append, List.length_cons, List.length_nil, List.length_map] at *); omega)
          · obtain ⟨d, hd⟩ : ∃ d, row[x]? = some d := ⟨row[x], List.getElem?_eq_getElem _⟩
            have hs := upto_set (p := fillP c r.x0 r.x1) hd
            rw [← hseg, show fillP c r.x0 r.x1 x d = c by rw [fillP, if_pos ((hins.x x (by omega)).2 (by omega))]] at hs
            have hd' : (pre ++ seg ++ post)[y * w + x]? = some d := at_mid (by rw [hseg]; exact upto_at _ hd) hpre.symm
            (refine g0_ ?_; repeat ((first | refine n1_ fun b_ => ?_ | refine n2_ fun b_ => ?_); refine g0_ ?_))
            dsimp only
            rw [set_mid (by omega) c hpre.symm]
            refine nx_ (x + 1, seg.set x c) ?_ ?_
            · exact ⟨by omega, by omega, hs.symm⟩
            · ((try dsimp only); (try simp only [List.length_drop, List.length_take, List.length_append, List.length_cons, List.length_nil, List.length_map] at *); omega)
      · have hE2 : fillE g r c = (.none, 4) := by rw [hE, if_pos (.inr (by simpa using h3))]
        (refine g0_ ?_; repeat ((first | refine n1_ fun b_ => ?_ | refine n2_ fun b_ => ?_); refine g0_ ?_))
        rw [hE2]
        exact frz_tup2 frz_none (.refl _)
    · have hE2 : fillE g r c = (.none, 4) := by rw [hE, if_pos (.inl (by omega))]
      (refine g0_ ?_; repeat ((first | refine n1_ fun b_ => ?_ | refine n2_ fun b_ => ?_); refine g0_ ?_))
      rw [hE2]
      exact frz_tup2 frz_none (.refl _)
  · have hE : fillE g r c = (.none, checkG g) := by rw [fillE, if_pos h1]
    (refine g0_ ?_; repeat ((first | refine n1_ fun b_ => ?_ | refine n2_ fun b_ => ?_); refine g0_ ?_))
    rw [hE]
    exact frz_tup2 frz_none (.refl _)
end Go.Eng.YtjkdkofpabocmaaDoor
end

/- Grids: new ones. -/
section
namespace Go.Eng.YtjkdkofpabocmaaDoor
open Go Go.Eng Go.Proofs
variable (W : World)
set_option linter.unusedSimpArgs false
set_option maxRecDepth 100000
set_option linter.unusedVariables false
set_option maxHeartbeats 4000000
theorem tup_u64 {a b a' b' : Int} (h1 : a = a') (h2 : b = b') : PV.tup [.int .u64 a, .int .u64 b] = .tup [.int .u64 a', .int .u64 b'] := by subst h1 h2; rfl
theorem of_range {k : Nat} {P : Nat → Prop} (h : ∀ n ∈ List.range (k + 1), P n) : ∀ n, n ≤ k → P n := fun n hn => h n (List.mem_range.2 (by omega))
theorem blank_ok1 : Pure Tryd.prog W 76 [.int .i64 0] (encCell blankC) := by
  refine Pure.of (acalls_of_vc (drawOk W) Tryd.func76 rfl (by decide) (by decide) rfl ?_)
  (refine g0_ ?_; repeat ((first | refine n1_ fun b_ => ?_ | refine n2_ fun b_ => ?_ | refine n3_ fun b_ pre_ => ?_ | refine Nat1.mk fun q_ hq_ => ?_ | refine em_ fun x_ hx_ => ?_ | refine Elem1.mk fun e_ he_ => ?_); refine g0_ ?_))
  exact .refl _
def zeroC : Cell := ⟨0, ⟨0, 0, 0⟩⟩
theorem zero_cell : zeroV Tryd.prog 80 = encCell zeroC := by kernel_rfl
theorem rep_zero (n : Nat) : List.replicate n (zeroV Tryd.prog 80) = (List.replicate n zeroC).map encCell := by rw [List.map_replicate, zero_cell]
theorem rep_set (n i : Nat) (hi : i < n) : (List.replicate i blankC ++ List.replicate (n - i) zeroC).set i blankC = List.replicate (i + 1) blankC ++ List.replicate (n - (i + 1)) zeroC := by
  rw [List.set_append_right _ _ (by simp), List.length_replicate, Nat.sub_self, show n - i = (n - (i + 1)) + 1 by omega, List.replicate_succ, List.set_cons_zero, List.replicate_succ', List.append_assoc]; rfl
def newE (w h : Int) : Grid × Int := if sizeB w h then (newG w h, 0) else (.none, 3)
theorem set_encS (l : List Cell) (i : Nat) (r : Int) (s : Style) : (l.map encCell).set (0 + i) (.agg [.int .i32 r, .int .i64 s.fore, .int .i64 s.back, .int .i64 s.bits]) = (l.set i ⟨r, s⟩).map encCell := set_enc l i ⟨r, s⟩
theorem new_ok (w0 h0 : Int) : Pure Tryd.prog W 44 [.int .i64 w0, .int .i64 h0] (.tup [encGrid (newE w0 h0).1, .int .i64 (newE w0 h0).2]) := by
  refine Pure.of (acalls_of_vc (drawOk W) Tryd.func44 rfl (by decide) (by decide) rfl ?_)
  (refine g0_ ?_; repeat ((first | refine n1_ fun b_ => ?_ | refine n2_ fun b_ => ?_ | refine n3_ fun b_ pre_ => ?_ | refine Nat1.mk fun q_ hq_ => ?_ | refine em_ fun x_ hx_ => ?_ | refine Elem1.mk fun e_ he_ => ?_); refine g0_ ?_))
  refine brec ?_; intro c_ h1; (try rw [h1]); cases c_ <;> replace h1 := nm_ h1
  · have hs : newE w0 h0 = (newG w0 h0, 0) := by rw [newE, if_pos]; unfold sizeB; simp only [Bool.and_eq_true, decide_eq_true_eq]; omega
    rw [hs]
    obtain ⟨w, rfl⟩ := Int.eq_ofNat_of_zero_le (show 0 ≤ w0 by omega)
    obtain ⟨h, rfl⟩ := Int.eq_ofNat_of_zero_le (show 0 ≤ h0 by omega)
    have hsm : w * h ≤ 120 * 60 := Nat.mul_le_mul (by omega) (by omega)
    have hm1 : 0 ≤ (w : Int) * h := Int.mul_nonneg (by omega) (by omega)
    have hm2 : (w : Int) * h ≤ 7200 := by exact_mod_cast hsm
    (refine g0_ ?_; repeat ((first | refine n1_ fun b_ => ?_ | refine n2_ fun b_ => ?_ | refine n3_ fun b_ pre_ => ?_ | refine Nat1.mk fun q_ hq_ => ?_ | refine em_ fun x_ hx_ => ?_ | refine Elem1.mk fun e_ he_ => ?_); refine g0_ ?_))
    rw [rep_zero]
    rename_i b1 b2
    obtain ⟨b3, rfl⟩ : ∃ b3, b3 = b_ := ⟨_, rfl⟩
    refine' loopI (α := Nat × (List Cell)) (fun (i, cs) => [(33, .int .i64 i)]) [(4, _), (6, _), (32, _)] (fun (i, cs) => [⟨b3, .row 3 [.agg [.int .i64 w, .int .i64 h, .rsl b2 4 0 (w * h)]] 0⟩, ⟨b2, .row 4 (cs.map encCell) 0⟩, ⟨b1, .row 3 [.agg [.int .i64 0, .int .i64 0, .nils]] 0⟩]) (fun (i, cs) => i ≤ w * h ∧ cs = List.replicate i blankC ++ List.replicate (w * h - i) zeroC) (fun (i, cs) => w * h - i) (0, List.replicate (w * h) zeroC) ?_ ?_
    · exact ⟨Nat.zero_le _, by simp⟩
    rintro ⟨i, cs⟩ ⟨hi, hcs⟩
    have hcl : cs.length = w * h := by rw [hcs]; simp; omega
    (refine g0_ ?_; repeat ((first | refine n1_ fun b_ => ?_ | refine n2_ fun b_ => ?_ | refine n3_ fun b_ pre_ => ?_ | refine Nat1.mk fun q_ hq_ => ?_ | refine em_ fun x_ hx_ => ?_ | refine Elem1.mk fun e_ he_ => ?_); refine g0_ ?_))
    refine brec ?_; intro c_ h2; (try rw [h2]); cases c_ <;> replace h2 := nm_ h2
    · have : i = w * h := by omega
      subst this
      have hG : newG w h = ⟨w, h, cs⟩ := by
        rw [newG, hcs, Nat.sub_self, List.replicate_zero, List.append_nil]
        congr 2
      (refine g0_ ?_; repeat ((first | refine n1_ fun b_ => ?_ | refine n2_ fun b_ => ?_ | refine n3_ fun b_ pre_ => ?_ | refine Nat1.mk fun q_ hq_ => ?_ | refine em_ fun x_ hx_ => ?_ | refine Elem1.mk fun e_ he_ => ?_); refine g0_ ?_))
      rw [hG]
      exact frz_tup2 (frz_grid (.there _ _ _ _ _ (.there _ _ _ _ _ (.here _ _ _))) hcl.symm) (.refl _)
    · have hst := rep_set (w * h) i (by omega)
      rw [← hcs] at hst
      (refine g0_ ?_; repeat ((first | refine n1_ fun b_ => ?_ | refine n2_ fun b_ => ?_ | refine n3_ fun b_ pre_ => ?_ | refine Nat1.mk fun q_ hq_ => ?_ | refine em_ fun x_ hx_ => ?_ | refine Elem1.mk fun e_ he_ => ?_); refine g0_ ?_))
      refine head_ ?_; (refine g0_ ?_; repeat ((first | refine n1_ fun b_ => ?_ | refine n2_ fun b_ => ?_ | refine n3_ fun b_ pre_ => ?_ | refine Nat1.mk fun q_ hq_ => ?_ | refine em_ fun x_ hx_ => ?_ | refine Elem1.mk fun e_ he_ => ?_); refine g0_ ?_))
      refine ⟨_, (blank_ok1 W).quiet, ?_⟩; (refine g0_ ?_; repeat ((first | refine n1_ fun b_ => ?_ | refine n2_ fun b_ => ?_ | refine n3_ fun b_ pre_ => ?_ | refine Nat1.mk fun q_ hq_ => ?_ | refine em_ fun x_ hx_ => ?_ | refine Elem1.mk fun e_ he_ => ?_); refine g0_ ?_))
      dsimp only
      rw [set_encS]
      refine nx_ (i + 1, cs.set i blankC) ?_ ?_
      · exact ⟨by omega, hst⟩
      · ((try dsimp only); (try simp only [List.length_drop, List.length_take, List.length_append, List.length_cons, List.length_nil, List.length_map] at *); omega)
  · have hs : newE w0 h0 = (.none, 3) := by rw [newE, if_neg]; unfold sizeB; simp only [Bool.and_eq_true, decide_eq_true_eq]; omega
    rw [hs]
    (refine g0_ ?_; repeat ((first | refine n1_ fun b_ => ?_ | refine n2_ fun b_ => ?_ | refine n3_ fun b_ pre_ => ?_ | refine Nat1.mk fun q_ hq_ => ?_ | refine em_ fun x_ hx_ => ?_ | refine Elem1.mk fun e_ he_ => ?_); refine g0_ ?_))
    exact frz_tup2 frz_none (.refl _)
end Go.Eng.YtjkdkofpabocmaaDoor
end

/- Grids: texts written, the document's way and package grid's. -/
section
namespace Go.Eng.YtjkdkofpabocmaaDoor
open Go Go.Eng Go.Proofs
variable (W : World)
set_option linter.unusedSimpArgs false
set_option maxRecDepth 100000
set_option linter.unusedVariables false
set_option maxHeartbeats 4000000
theorem writeRs_len (w : Nat) (look : Style) : ∀ (l : List (Nat × Nat)) (x : Nat) (row : List Cell), (writeRs w look x l row).length = row.length
  | [], _, _ => rfl
  | p :: l, x, row => by
    have h1 := writeRs_len w look l
    rw [writeRs]
    (repeat' split) <;> first | rfl | (rw [h1, List.length_set, List.length_set]) | (rw [h1, List.length_set]) | (rw [h1])
theorem modify_set {α : Type} {l : List α} {y : Nat} {r : α} (h : l[y]? = some r) (f : α → α) : l.modify y f = l.set y (f r) := by
  refine List.ext_getElem? fun k => ?_
  rw [List.getElem?_modify, List.getElem?_set]
  by_cases e : y = k
  · subst e; rw [if_pos rfl, if_pos (lt_of_at h), h]; simp
  · simp [e]
/-! ### Package grid's -/
def writeE (g : Grid) (x y : Int) (s : List UInt8) (look : Style) : Grid × Int :=
  if checkG g ≠ 0 then (.none, checkG g) else if x < 0 ∨ g.w ≤ x ∨ y < 0 ∨ g.h ≤ y ∨ checkStyle look = false then (.none, 4) else (writeG g x.toNat y.toNat s look, 0)
theorem set_midS {pre seg post : List Cell} {x : Nat} (hx : x < seg.length) (r : Int) (s : Style) {n : Nat} (hn : n = pre.length) : ((pre ++ seg ++ post).map encCell).set (n + x) (.agg [.int .i32 r, .int .i64 s.fore, .int .i64 s.back, .int .i64 s.bits]) = (pre ++ seg.set x ⟨r, s⟩ ++ post).map encCell := set_mid hx ⟨r, s⟩ hn
def Grid.writeR (g : Grid) (X y : Nat) (s : List UInt8) (look : Style) : Grid := writeG g X y s look
theorem gwrite_ok (hT : Tabs W) (g : Grid) (hg : g.ok) (x0 y0 : Int) (s : List UInt8) (look : Style) : Pure Tryd.prog W 31 [encGrid g, .int .i64 x0, .int .i64 y0, .str s, encStyle look] (.tup [encGrid (writeE g x0 y0 s look).1, .int .i64 (writeE g x0 y0 s look).2]) := by
  refine Pure.of (acalls_of_vc (drawOk W) Tryd.func31 rfl (by decide) (by decide) rfl ?_)
  (refine g0_ ?_; repeat ((first | refine n1_ fun b_ => ?_ | refine n2_ fun b_ => ?_); refine g0_ ?_))
  refine (check_ok W g hg).use ?_; (refine g0_ ?_; repeat ((first | refine n1_ fun b_ => ?_ | refine n2_ fun b_ => ?_); refine g0_ ?_))
  refine brec ?_; intro c_ h1; (try rw [h1]); cases c_ <;> replace h1 := nm_ h1
  · obtain ⟨w, h, f⟩ := fit_of (g := g) (by simpa using h1)
    obtain ⟨gw, gh, cs⟩ := g
    obtain rfl : gw = w := f.ew
    obtain rfl : gh = h := f.eh
    have hE : writeE ⟨w, h, cs⟩ x0 y0 s look = if x0 < 0 ∨ (w : Int) ≤ x0 ∨ y0 < 0 ∨ (h : Int) ≤ y0 ∨ checkStyle look = false then (.none, 4) else (writeG ⟨w, h, cs⟩ x0.toNat y0.toNat s look, 0) := by rw [writeE, if_neg (by simpa using h1)]
    (refine g0_ ?_; repeat ((first | refine n1_ fun b_ => ?_ | refine n2_ fun b_ => ?_); refine g0_ ?_))
    refine brec ?_; intro c_ h2; (try rw [h2]); cases c_ <;> replace h2 := nm_ h2
    · (refine g0_ ?_; repeat ((first | refine n1_ fun b_ => ?_ | refine n2_ fun b_ => ?_); refine g0_ ?_))
      refine (styleCheck_ok W look).use ?_; (refine g0_ ?_; repeat ((first | refine n1_ fun b_ => ?_ | refine n2_ fun b_ => ?_); refine g0_ ?_))
      refine brec ?_; intro c_ h3; (try rw [h3]); cases c_ <;> replace h3 := nm_ h3
      · obtain ⟨X, rfl⟩ := Int.eq_ofNat_of_zero_le (show 0 ≤ x0 by omega)
        obtain ⟨y, rfl⟩ := Int.eq_ofNat_of_zero_le (show 0 ≤ y0 by omega)
        rw [if_neg (by rintro (h | h | h | h | h) <;> first | omega | (rw [h] at h3; cases h3)), Int.toNat_natCast, Int.toNat_natCast] at hE
        rw [hE]
        have hsm := f.small
        have hw2 := f.w2
        have hh2 := f.h2
        have hlen : cs.length = w * h := f.len
        have hne : cs ≠ [] := by rintro rfl; have := f.w1; have := f.h1; have : 1 * 1 ≤ w * h := Nat.mul_le_mul f.w1 f.h1; simp at hlen; omega
        have hL := f.row
        have hLl := f.rlen
        have hLf := f.flat
        obtain ⟨row, hr⟩ : ∃ row, (Grid.rows ⟨w, h, cs⟩)[y]? = some row := ⟨(Grid.rows ⟨w, h, cs⟩)[y]'(by omega), List.getElem?_eq_getElem _⟩
        have hrl := hL row (List.mem_of_getElem? hr)
        have hflat := flat_at hr
        have hfin : (Grid.writeR ⟨w, h, cs⟩ X y s look).cs = _ := (congrArg List.flatten (modify_set hr fun row => mendL (writeRs w look X (runes s) row))).trans (flat_set hr _)
        have hpre := take_flat_len hL (show y ≤ (Grid.rows ⟨w, h, cs⟩).length by omega)
        rw [show writeG ⟨w, h, cs⟩ X y s look = ⟨w, h, (Grid.writeR ⟨w, h, cs⟩ X y s look).cs⟩ from rfl]
        generalize (List.take y (Grid.rows ⟨w, h, cs⟩)).flatten = pre at *
        generalize (List.drop (y + 1) (Grid.rows ⟨w, h, cs⟩)).flatten = post at *
        have hcs0 : cs = pre ++ row ++ post := by rw [← hflat]; exact hLf.symm
        have hyw : (y + 1) * w ≤ h * w := Nat.mul_le_mul_right w (by omega)
        rw [Nat.mul_comm h w] at hyw
        (refine g0_ ?_; repeat ((first | refine n1_ fun b_ => ?_ | refine n2_ fun b_ => ?_); refine g0_ ?_))
        rename_i b1 b2
        obtain ⟨b3, rfl⟩ : ∃ b3, b3 = b_ := ⟨_, rfl⟩
        refine ACalls.giveE (copy_ok W w h cs hne (by omega)) ?_
        rintro bc -
        rw [hlen]
        (refine g0_ ?_; repeat ((first | refine n1_ fun b_ => ?_ | refine n2_ fun b_ => ?_); refine g0_ ?_))
        refine (rowOwn_ok W bc (w * h) w y h hyw (by omega) (by omega) (by omega)).use ?_; (refine g0_ ?_; repeat ((first | refine n1_ fun b_ => ?_ | refine n2_ fun b_ => ?_); refine g0_ ?_))
        refine' loopI (α := (List UInt8) × Nat × (List Cell) × (List Cell)) (fun (r, x, seg, cs') => [(3, .str r), (1, .int .i64 x)]) [(5, _), (9, _), (10, _), (13, _)] (fun (r, x, seg, cs') => [⟨b1, .row 3 [.agg [.int .i64 w, .int .i64 h, .rsl bc 4 0 (w * h)]] 0⟩, ⟨b3, .row 3 [.agg [.int .i64 0, .int .i64 0, .nils]] 0⟩, ⟨b2, .row 3 [encStyle look] 0⟩, ⟨bc, .row 4 (cs'.map encCell) 0⟩]) (fun (r, x, seg, cs') => x ≤ w ∧ seg.length = w ∧ cs' = pre ++ seg ++ post ∧ writeRs w look x (runes r) seg = writeRs w look X (runes s) row) (fun (r, x, seg, cs') => r.length) (s, X, row, cs) ?_ ?_
        · exact ⟨by omega, hrl, hcs0, rfl⟩
        rintro ⟨r, x, seg, cs'⟩ ⟨hxw, hsl, rfl, hwr⟩
        (refine g0_ ?_; repeat ((first | refine n1_ fun b_ => ?_ | refine n2_ fun b_ => ?_); refine g0_ ?_))
        refine brec ?_; intro c_ h4; (try rw [h4]); cases c_ <;> replace h4 := nm_ h4
        · subst h4
          rw [runes_nil, writeRs] at hwr
          have hm := mend_ok W bc pre seg post (by omega)
          rw [hpre, hsl] at hm
          (refine g0_ ?_; repeat ((first | refine n1_ fun b_ => ?_ | refine n2_ fun b_ => ?_); refine g0_ ?_))
          refine ACalls.lend1 hm (by repeat (first | exact .here _ _ _ | apply Look.there)) ?_
          rintro _ -
          (refine g0_ ?_; repeat ((first | refine n1_ fun b_ => ?_ | refine n2_ fun b_ => ?_); refine g0_ ?_))
          have hcs : pre ++ mendL seg ++ post = (Grid.writeR ⟨w, h, cs⟩ X y s look).cs := by rw [hfin, hwr]
          rw [hcs] 
          have hlc : (Grid.writeR ⟨w, h, cs⟩ X y s look).cs.length = w * h := by
            have h8 := congrArg List.length hcs0
            rw [← hcs, ← hlen]
            simp only [List.length_append, mendL_len] at h8 ⊢
            omega
          exact frz_tup2 (frz_grid (by repeat (first | exact .here _ _ _ | apply Look.there)) hlc.symm) (.refl _)
        · have hd := dec_le r
          have hp := dec_pos r h4
          have hr0 : 0 < r.length := List.length_pos_iff.2 h4
          have hn2 := nextL_of h4
          rw [runes_cons h4, writeRs] at hwr
          (refine g0_ ?_; repeat ((first | refine n1_ fun b_ => ?_ | refine n2_ fun b_ => ?_); refine g0_ ?_))
          refine (next_ok W hT r).use ?_; (refine g0_ ?_; repeat ((first | refine n1_ fun b_ => ?_ | refine n2_ fun b_ => ?_); refine g0_ ?_))
          rw [hn2]
          generalize dec r = d at *
          have hwl := widthL_le d.1
          (refine g0_ ?_; repeat ((first | refine n1_ fun b_ => ?_ | refine n2_ fun b_ => ?_); refine g0_ ?_))
          refine (width_ok W _).use ?_; (refine g0_ ?_; repeat ((first | refine n1_ fun b_ => ?_ | refine n2_ fun b_ => ?_); refine g0_ ?_))
          refine brec ?_; intro c_ h5; (try rw [h5]); cases c_ <;> replace h5 := nm_ h5
          · rw [if_neg (by omega)] at hwr
            (refine g0_ ?_; repeat ((first | refine n1_ fun b_ => ?_ | refine n2_ fun b_ => ?_); refine g0_ ?_))
            refine brec ?_; intro c_ h6; (try rw [h6]); cases c_ <;> replace h6 := nm_ h6
            · rw [if_neg (by omega)] at hwr
              have hgd : ∃ c, seg[x]? = some c := ⟨seg[x]'(by omega), List.getElem?_eq_getElem _⟩
              obtain ⟨c0, hc0⟩ := hgd
              have hc1 : (pre ++ seg ++ post)[y * w + x]? = some c0 := at_mid hc0 hpre.symm
              (refine g0_ ?_; repeat ((first | refine n1_ fun b_ => ?_ | refine n2_ fun b_ => ?_); refine g0_ ?_))
              rw [set_midS (by omega) _ _ hpre.symm]
              refine brec ?_; intro c_ h7; (try rw [h7]); cases c_ <;> replace h7 := nm_ h7
              · rw [if_neg (by omega)] at hwr
                (refine g0_ ?_; repeat ((first | refine n1_ fun b_ => ?_ | refine n2_ fun b_ => ?_); refine g0_ ?_))
                refine nx_ (r.drop d.2, x + widthL d.1, seg.set x ⟨d.1, look⟩, pre ++ seg.set x ⟨d.1, look⟩ ++ post) ?_ ?_
                · exact ⟨show x + widthL d.1 ≤ w by omega, by simpa using hsl, rfl, hwr⟩
                · ((try dsimp only); (try simp only [List.length_drop, List.length_take, List.length_append, List.length_cons, List.length_nil, List.length_map] at *); omega)
              · rw [if_pos (by omega)] at hwr
                have hgd : ∃ c, (seg.set x ⟨d.1, look⟩)[x + 1]? = some c := ⟨(seg.set x ⟨d.1, look⟩)[x + 1]'(by simp; omega), List.getElem?_eq_getElem _⟩
                obtain ⟨c2, hc2⟩ := hgd
                have hc3 : (pre ++ seg.set x ⟨d.1, look⟩ ++ post)[y * w + (x + 1)]? = some c2 := at_mid hc2 hpre.symm
                (refine g0_ ?_; repeat ((first | refine n1_ fun b_ => ?_ | refine n2_ fun b_ => ?_); refine g0_ ?_))
                dsimp only [ofV1]
                rw [set_midS (by simp; omega) _ _ hpre.symm]
                (refine g0_ ?_; repeat ((first | refine n1_ fun b_ => ?_ | refine n2_ fun b_ => ?_); refine g0_ ?_))
                refine nx_ (r.drop d.2, x + widthL d.1, (seg.set x ⟨d.1, look⟩).set (x + 1) ⟨0, look⟩, pre ++ (seg.set x ⟨d.1, look⟩).set (x + 1) ⟨0, look⟩ ++ post) ?_ ?_
                · exact ⟨show x + widthL d.1 ≤ w by omega, by simpa using hsl, rfl, hwr⟩
                · ((try dsimp only); (try simp only [List.length_drop, List.length_take, List.length_append, List.length_cons, List.length_nil, List.length_map] at *); omega)
            · rw [if_pos (by omega)] at hwr
              have hm := mend_ok W bc pre seg post (by omega)
              rw [hpre, hsl] at hm
              (refine g0_ ?_; repeat ((first | refine n1_ fun b_ => ?_ | refine n2_ fun b_ => ?_); refine g0_ ?_))
              refine ACalls.lend1 hm (by repeat (first | exact .here _ _ _ | apply Look.there)) ?_
              rintro _ -
              (refine g0_ ?_; repeat ((first | refine n1_ fun b_ => ?_ | refine n2_ fun b_ => ?_); refine g0_ ?_))
              have hcs : pre ++ mendL seg ++ post = (Grid.writeR ⟨w, h, cs⟩ X y s look).cs := by rw [hfin, hwr]
              rw [hcs] 
              have hlc : (Grid.writeR ⟨w, h, cs⟩ X y s look).cs.length = w * h := by
                have h8 := congrArg List.length hcs0
                rw [← hcs, ← hlen]
                simp only [List.length_append, mendL_len] at h8 ⊢
                omega
              exact frz_tup2 (frz_grid (by repeat (first | exact .here _ _ _ | apply Look.there)) hlc.symm) (.refl _)
          · rw [if_pos (by omega)] at hwr
            (refine g0_ ?_; repeat ((first | refine n1_ fun b_ => ?_ | refine n2_ fun b_ => ?_); refine g0_ ?_))
            refine nx_ (r.drop d.2, x, seg, pre ++ seg ++ post) ?_ ?_
            · exact ⟨hxw, hsl, rfl, hwr⟩
            · ((try dsimp only); (try simp only [List.length_drop, List.length_take, List.length_append, List.length_cons, List.length_nil, List.length_map] at *); omega)
      · rw [if_pos (.inr (.inr (.inr (.inr (by simpa using h3)))))] at hE
        (refine g0_ ?_; repeat ((first | refine n1_ fun b_ => ?_ | refine n2_ fun b_ => ?_); refine g0_ ?_))
        rw [hE]
        exact frz_tup2 frz_none (.refl _)
    · rw [if_pos (by omega)] at hE
      (refine g0_ ?_; repeat ((first | refine n1_ fun b_ => ?_ | refine n2_ fun b_ => ?_); refine g0_ ?_))
      rw [hE]
      exact frz_tup2 frz_none (.refl _)
  · have hE : writeE g x0 y0 s look = (.none, checkG g) := by rw [writeE, if_pos h1]
    (refine g0_ ?_; repeat ((first | refine n1_ fun b_ => ?_ | refine n2_ fun b_ => ?_); refine g0_ ?_))
    rw [hE]
    exact frz_tup2 frz_none (.refl _)
end Go.Eng.YtjkdkofpabocmaaDoor
end

/- Grids: their lines. -/
section
namespace Go.Eng.YtjkdkofpabocmaaDoor
open Go Go.Eng Go.Proofs
variable (W : World)
set_option linter.unusedSimpArgs false
set_option maxRecDepth 100000
set_option linter.unusedVariables false
set_option maxHeartbeats 4000000
def lineFrom : List Cell → List UInt8
  | [] => []
  | c :: r => if c.r = 0 then lineFrom r else Lib.encodeRune c.r ++ lineFrom r
def lineL (row : List Cell) : List UInt8 := Lib.trimRightB (lineFrom row) 32
theorem trimRight_ok (s : List UInt8) (hs : s.length ≤ 9223372036854775807) : Pure Tryd.prog W 95 [.str s, .str [32]] (.str (Lib.trimRightB s 32)) :=
  Pure.of_below Tryd.func95 rfl (by decide) rfl rfl fun w _ _ => (Tryd.strings_TrimRight_one ⟨s.toArray⟩ 32 (by decide) w (by simpa [ByteArray.size] using hs)).mono fun _ _ h => ⟨h.1, h.2 ▸ RowKit.Below.refl _ _⟩
theorem lineFrom_len : ∀ row : List Cell, (lineFrom row).length ≤ 4 * row.length
  | [] => by simp [lineFrom]
  | c :: r => by
    have := lineFrom_len r
    have := enc_le c.r
    rw [lineFrom]
    split <;> simp <;> omega
theorem line_ok (row : List Cell) (hl : row.length ≤ 100000) (hok : ∀ c ∈ row, i32ok c.r) : Pure Tryd.prog W 71 [.sl 4 (row.map encCell)] (.str (lineL row)) := by
  have hlf := lineFrom_len row
  have hlen : (row.map encCell).length = row.length := List.length_map ..
  refine Pure.of (acalls_of_vc (drawOk W) Tryd.func71 rfl (by decide) (by decide) rfl ?_)
  (refine g0_ ?_; repeat ((first | refine n1_ fun b_ => ?_ | refine n2_ fun b_ => ?_ | refine em_ fun x_ hx_ => ?_); refine g0_ ?_))
  obtain ⟨b1, rfl⟩ : ∃ b1, b1 = b_ := ⟨_, rfl⟩
  refine' loopI (α := Nat × Nat × (List UInt8)) (fun (i, c, a) => [(8, .int .i64 i)]) [(3, _), (6, _), (7, _)] (fun (i, c, a) => bldS b1 c a) (fun (i, c, a) => i ≤ row.length ∧ a ++ lineFrom (row.drop i) = lineFrom row) (fun (i, c, a) => row.length - i) (0, 0, []) ?_ ?_
  · exact ⟨Nat.zero_le _, rfl⟩
  rintro ⟨i, c, a⟩ ⟨hi, hn⟩
  have hal : a.length ≤ (lineFrom row).length := by rw [← hn]; simp
  (refine g0_ ?_; repeat ((first | refine n1_ fun b_ => ?_ | refine n2_ fun b_ => ?_ | refine em_ fun x_ hx_ => ?_); refine g0_ ?_))
  refine brec ?_; intro c_ h; (try rw [h]); cases c_ <;> replace h := nm_ h
  · rw [List.drop_of_length_le (by omega), lineFrom, List.append_nil] at hn
    (refine g0_ ?_; repeat ((first | refine n1_ fun b_ => ?_ | refine n2_ fun b_ => ?_ | refine em_ fun x_ hx_ => ?_); refine g0_ ?_))
    refine ACalls.lend (string_ok W b1 c a (by omega)) (r := []) (by simp) ?_
    rintro _ -
    rw [hn]
    (refine g0_ ?_; repeat ((first | refine n1_ fun b_ => ?_ | refine n2_ fun b_ => ?_ | refine em_ fun x_ hx_ => ?_); refine g0_ ?_))
    refine (trimRight_ok W (lineFrom row) (by omega)).use ?_; (refine g0_ ?_; repeat ((first | refine n1_ fun b_ => ?_ | refine n2_ fun b_ => ?_ | refine em_ fun x_ hx_ => ?_); refine g0_ ?_))
    exact .refl _
  · obtain ⟨d, hd⟩ : ∃ d, row[i]? = some d := ⟨row[i]'(by omega), List.getElem?_eq_getElem _⟩
    have hdk := hok d (List.mem_of_getElem? hd)
    unfold i32ok at hdk
    rw [drop_cons_of hd, lineFrom] at hn
    (refine g0_ ?_; repeat ((first | refine n1_ fun b_ => ?_ | refine n2_ fun b_ => ?_ | refine em_ fun x_ hx_ => ?_); refine g0_ ?_))
    refine brec ?_; intro c_ h2; (try rw [h2]); cases c_ <;> replace h2 := nm_ h2
    · rw [if_pos h2] at hn
      (refine g0_ ?_; repeat ((first | refine n1_ fun b_ => ?_ | refine n2_ fun b_ => ?_ | refine em_ fun x_ hx_ => ?_); refine g0_ ?_))
      refine nx_ (i + 1, c, a) ?_ ?_
      · exact ⟨by omega, hn⟩
      · ((try dsimp only); (try simp only [List.length_drop, List.length_take, List.length_append, List.length_cons, List.length_nil, List.length_map] at *); omega)
    · rw [if_neg h2] at hn
      (refine g0_ ?_; repeat ((first | refine n1_ fun b_ => ?_ | refine n2_ fun b_ => ?_ | refine em_ fun x_ hx_ => ?_); refine g0_ ?_))
      refine ACalls.lend (writeRune_ok W b1 c a d.r hdk (by omega)) (r := [_]) (List.perm_append_singleton _ _).symm ?_
      rintro c' -
      (refine g0_ ?_; repeat ((first | refine n1_ fun b_ => ?_ | refine n2_ fun b_ => ?_ | refine em_ fun x_ hx_ => ?_); refine g0_ ?_))
      refine nx_ (i + 1, c', a ++ Lib.encodeRune d.r) ?_ ?_
      · exact ⟨by omega, by rw [← hn, List.append_assoc]⟩
      · ((try dsimp only); (try simp only [List.length_drop, List.length_take, List.length_append, List.length_cons, List.length_nil, List.length_map] at *); omega)
def encStrs (l : List (List UInt8)) : PV := .sl 1 (l.map PV.str)
theorem equal_strs (a b : List (List UInt8)) (ha : (a.length : Int) ≤ 9223372036854775807) :
    Pure Tryd.prog W 35 [.sl 1 (a.map PV.str), .sl 1 (b.map PV.str)] (.bool (decide (a = b))) := by
  refine Pure.of (acalls_of_vc (drawOk W) Tryd.func35 rfl (by decide) (by decide) rfl ?_)
  (refine g0_ ?_; repeat ((first | refine n1_ fun b_ => ?_ | refine n2_ fun b_ => ?_ | refine em_ fun x_ hx_ => ?_); refine g0_ ?_))
  refine brec ?_; intro c_ hc; (try rw [hc]); cases c_ <;> replace hc := nm_ hc
  · have hlen : a.length = b.length := by simp at hc; omega
    (refine g0_ ?_; repeat ((first | refine n1_ fun b_ => ?_ | refine n2_ fun b_ => ?_ | refine em_ fun x_ hx_ => ?_); refine g0_ ?_))
    refine' loopI (α := Nat) (fun i => [(13, .int .i64 i)]) [(0, _), (1, _), (12, _)] (fun i => []) (fun i => i ≤ a.length ∧ a.take i = b.take i) (fun i => a.length - i) 0 ?_ ?_
    · exact ⟨Nat.zero_le _, by simp⟩
    rintro i ⟨hi, hw⟩
    (refine g0_ ?_; repeat ((first | refine n1_ fun b_ => ?_ | refine n2_ fun b_ => ?_ | refine em_ fun x_ hx_ => ?_); refine g0_ ?_))
    refine brec ?_; intro c_ h1; (try rw [h1]); cases c_ <;> replace h1 := nm_ h1
    · (refine g0_ ?_; repeat ((first | refine n1_ fun b_ => ?_ | refine n2_ fun b_ => ?_ | refine em_ fun x_ hx_ => ?_); refine g0_ ?_))
      have : i = a.length := by simp at h1; omega
      subst this
      rw [List.take_length, hlen, List.take_length] at hw
      rw [hw]
      simp
      exact .refl _
    · have hlt : i < a.length := by simp at h1; omega
      (refine g0_ ?_; repeat ((first | refine n1_ fun b_ => ?_ | refine n2_ fun b_ => ?_ | refine em_ fun x_ hx_ => ?_); refine g0_ ?_))
      refine head_ ?_; (refine g0_ ?_; repeat ((first | refine n1_ fun b_ => ?_ | refine n2_ fun b_ => ?_ | refine em_ fun x_ hx_ => ?_); refine g0_ ?_))
      rename_i x hx
      refine brec ?_; intro c_ h2; (try rw [h2]); cases c_ <;> replace h2 := nm_ h2
      · (refine g0_ ?_; repeat ((first | refine n1_ fun b_ => ?_ | refine n2_ fun b_ => ?_ | refine em_ fun x_ hx_ => ?_); refine g0_ ?_))
        refine nx_ (i + 1) ?_ ?_
        · exact ⟨hlt, by rw [take_snoc_of hx, take_snoc_of hx_, hw, h2]⟩
        · omega
      · (refine g0_ ?_; repeat ((first | refine n1_ fun b_ => ?_ | refine n2_ fun b_ => ?_ | refine em_ fun x_ hx_ => ?_); refine g0_ ?_))
        have : a ≠ b := by rintro rfl; simp_all
        simp [this]
        exact .refl _
  · have hne : a ≠ b := by
      rintro rfl
      exact hc rfl
    (refine g0_ ?_; repeat ((first | refine n1_ fun b_ => ?_ | refine n2_ fun b_ => ?_ | refine em_ fun x_ hx_ => ?_); refine g0_ ?_))
    simp [hne]
    exact .refl _
def linesL (g : Grid) : List (List UInt8) := g.rows.map lineL
def linesE (g : Grid) : List (List UInt8) × Int := if checkG g ≠ 0 then ([], checkG g) else (linesL g, 0)
theorem rows_mem {g : Grid} {w h : Nat} (f : g.fit w h) {r : List Cell} (hr : r ∈ g.rows) {c : Cell} (hc : c ∈ r) : c ∈ g.cs := by
  rw [← f.flat]; exact List.mem_flatten.2 ⟨r, hr, hc⟩
theorem lines_ok (g : Grid) (hg : g.ok) : Pure Tryd.prog W 34 [encGrid g] (.tup [encStrs (linesE g).1, .int .i64 (linesE g).2]) := by
  refine Pure.of (acalls_of_vc (drawOk W) Tryd.func34 rfl (by decide) (by decide) rfl ?_)
  (refine g0_ ?_; repeat ((first | refine n1_ fun b_ => ?_ | refine n2_ fun b_ => ?_ | refine em_ fun x_ hx_ => ?_); refine g0_ ?_))
  refine (check_ok W g hg).use ?_; (refine g0_ ?_; repeat ((first | refine n1_ fun b_ => ?_ | refine n2_ fun b_ => ?_ | refine em_ fun x_ hx_ => ?_); refine g0_ ?_))
  refine brec ?_; intro c_ h1; (try rw [h1]); cases c_ <;> replace h1 := nm_ h1
  · have hE : linesE g = (linesL g, 0) := by rw [linesE, if_neg (by simpa using h1)]
    obtain ⟨w, h, f⟩ := fit_of (g := g) (by simpa using h1)
    rw [hE]
    have hw2 := f.w2
    have hh2 := f.h2
    have hgw := f.ew
    have hgh := f.eh
    have hrow := f.row
    have hrl := f.rlen
    have hsm := f.small
    have hcl := f.len
    have hok : ∀ r ∈ g.rows, ∀ c ∈ r, i32ok c.r := fun r hr c hc => (hg.2.2.1 c (rows_mem f hr hc)).1
    (refine g0_ ?_; repeat ((first | refine n1_ fun b_ => ?_ | refine n2_ fun b_ => ?_ | refine em_ fun x_ hx_ => ?_); refine g0_ ?_))
    rw [hgw, hgh]
    refine' loopI (α := Nat × Nat × (List PV)) (fun (i, b, o) => [(5, accV b 1 o), (14, .int .i64 i)]) [(1, _), (13, _)] (fun (i, b, o) => accM b 1 o ++ [⟨b_, .row 3 [.agg [.int .i64 w, .int .i64 h, .sl 4 (g.cs.map encCell)]] 0⟩]) (fun (i, b, o) => i ≤ h ∧ o = (g.rows.take i).map (fun r => .str (lineL r))) (fun (i, b, o) => h - i) (0, 0, []) ?_ ?_
    · exact ⟨Nat.zero_le _, rfl⟩
    rintro ⟨i, b, o⟩ ⟨hi, ho⟩
    rcases o with _ | ⟨p, o⟩
    · (refine g0_ ?_; repeat ((first | refine n1_ fun b_ => ?_ | refine n2_ fun b_ => ?_ | refine em_ fun x_ hx_ => ?_); refine g0_ ?_))
      refine brec ?_; intro c_ h2; (try rw [h2]); cases c_ <;> replace h2 := nm_ h2
      · have : i = h := by omega
        subst this
        rw [List.take_of_length_le (by omega)] at ho
        (refine g0_ ?_; repeat ((first | refine n1_ fun b_ => ?_ | refine n2_ fun b_ => ?_ | refine em_ fun x_ hx_ => ?_); refine g0_ ?_))
        refine frz_tup2 ?_ (.refl _)
        have e : encStrs (linesL g) = .sl 1 ([]) := by rw [ho, encStrs, linesL, List.map_map]; rfl
        show Frz _ _ (encStrs (linesL g))
        rw [e]
        exact frz_of_acc (b := b) (l := []) fun h => by first | exact absurd rfl h | exact ⟨_, .here _ _ _⟩
      · obtain ⟨r, hr⟩ : ∃ r, g.rows[i]? = some r := ⟨g.rows[i]'(by omega), List.getElem?_eq_getElem _⟩
        have hr2 := hr
        rw [f.rows, rowsOf_get w h g.cs i (by omega)] at hr2
        have hr3 := Option.some.inj hr2
        have hol := congrArg List.length ho
        simp only [List.length_map, List.length_take, List.length_cons, List.length_nil] at hol
        have hyw : (i + 1) * w ≤ h * w := Nat.mul_le_mul_right w (by omega)
        rw [Nat.mul_comm h w, ← f.len] at hyw
        (refine g0_ ?_; repeat ((first | refine n1_ fun b_ => ?_ | refine n2_ fun b_ => ?_ | refine em_ fun x_ hx_ => ?_); refine g0_ ?_))
        refine (row_ok W w i h g.cs hyw (by omega) (by omega) (by omega)).use ?_; (refine g0_ ?_; repeat ((first | refine n1_ fun b_ => ?_ | refine n2_ fun b_ => ?_ | refine em_ fun x_ hx_ => ?_); refine g0_ ?_))
        rw [hr3]
        refine (line_ok W r (by rw [hrow r (List.mem_of_getElem? hr)]; omega) (hok r (List.mem_of_getElem? hr))).use ?_; (refine g0_ ?_; repeat ((first | refine n1_ fun b_ => ?_ | refine n2_ fun b_ => ?_ | refine em_ fun x_ hx_ => ?_); refine g0_ ?_))
        refine .inl ?_
        (refine g0_ ?_; repeat ((first | refine n1_ fun b_ => ?_ | refine n2_ fun b_ => ?_ | refine em_ fun x_ hx_ => ?_); refine g0_ ?_))
        refine nx_ (i + 1, b_, [] ++ [.str (lineL r)]) ?_ ?_
        · exact ⟨by omega, by rw [take_snoc_of hr, List.map_append, ← ho]; rfl⟩
        · ((try dsimp only); (try simp only [List.length_drop, List.length_take, List.length_append, List.length_cons, List.length_nil, List.length_map] at *); omega)
    · (refine g0_ ?_; repeat ((first | refine n1_ fun b_ => ?_ | refine n2_ fun b_ => ?_ | refine em_ fun x_ hx_ => ?_); refine g0_ ?_))
      refine brec ?_; intro c_ h2; (try rw [h2]); cases c_ <;> replace h2 := nm_ h2
      · have : i = h := by omega
        subst this
        rw [List.take_of_length_le (by omega)] at ho
        (refine g0_ ?_; repeat ((first | refine n1_ fun b_ => ?_ | refine n2_ fun b_ => ?_ | refine em_ fun x_ hx_ => ?_); refine g0_ ?_))
        refine frz_tup2 ?_ (.refl _)
        have e : encStrs (linesL g) = .sl 1 ((p :: o)) := by rw [ho, encStrs, linesL, List.map_map]; rfl
        show Frz _ _ (encStrs (linesL g))
        rw [e]
        exact frz_of_acc (b := b) (l := (p :: o)) fun h => by first | exact absurd rfl h | exact ⟨_, .here _ _ _⟩
      · obtain ⟨r, hr⟩ : ∃ r, g.rows[i]? = some r := ⟨g.rows[i]'(by omega), List.getElem?_eq_getElem _⟩
        have hr2 := hr
        rw [f.rows, rowsOf_get w h g.cs i (by omega)] at hr2
        have hr3 := Option.some.inj hr2
        have hol := congrArg List.length ho
        simp only [List.length_map, List.length_take, List.length_cons, List.length_nil] at hol
        have hyw : (i + 1) * w ≤ h * w := Nat.mul_le_mul_right w (by omega)
        rw [Nat.mul_comm h w, ← f.len] at hyw
        (refine g0_ ?_; repeat ((first | refine n1_ fun b_ => ?_ | refine n2_ fun b_ => ?_ | refine em_ fun x_ hx_ => ?_); refine g0_ ?_))
        refine (row_ok W w i h g.cs hyw (by omega) (by omega) (by omega)).use ?_; (refine g0_ ?_; repeat ((first | refine n1_ fun b_ => ?_ | refine n2_ fun b_ => ?_ | refine em_ fun x_ hx_ => ?_); refine g0_ ?_))
        rw [hr3]
        refine (line_ok W r (by rw [hrow r (List.mem_of_getElem? hr)]; omega) (hok r (List.mem_of_getElem? hr))).use ?_; (refine g0_ ?_; repeat ((first | refine n1_ fun b_ => ?_ | refine n2_ fun b_ => ?_ | refine em_ fun x_ hx_ => ?_); refine g0_ ?_))
        refine .inl ?_
        (refine g0_ ?_; repeat ((first | refine n1_ fun b_ => ?_ | refine n2_ fun b_ => ?_ | refine em_ fun x_ hx_ => ?_); refine g0_ ?_))
        refine nx_ (i + 1, b_, (p :: o) ++ [.str (lineL r)]) ?_ ?_
        · exact ⟨by omega, by rw [take_snoc_of hr, List.map_append, ← ho]; rfl⟩
        · ((try dsimp only); (try simp only [List.length_drop, List.length_take, List.length_append, List.length_cons, List.length_nil, List.length_map] at *); omega)
  · have hE : linesE g = ([], checkG g) := by rw [linesE, if_pos h1]
    rw [hE]
    (refine g0_ ?_; repeat ((first | refine n1_ fun b_ => ?_ | refine n2_ fun b_ => ?_ | refine em_ fun x_ hx_ => ?_); refine g0_ ?_))
    exact frz_tup2 (.nils _) (.refl _)
end Go.Eng.YtjkdkofpabocmaaDoor
end

/- Grids laid upon others: package grid's. -/
section
namespace Go.Eng.YtjkdkofpabocmaaDoor
open Go Go.Eng Go.Proofs
variable (W : World)
set_option linter.unusedSimpArgs false
set_option maxRecDepth 100000
set_option linter.unusedVariables false
set_option maxHeartbeats 4000000
theorem layQ_len (A : List (List Cell)) (n w : Nat) (x y : Int) (v : Nat) (row : List Cell) : (layQ A n w x y v row).length = row.length := by
  unfold layQ
  split
  · rw [mendL_len]; simp [layRow]
  · rfl
def layE (g on : Grid) (x y : Int) : Grid × Int := if checkG g ≠ 0 then (.none, checkG g) else if checkG on ≠ 0 then (.none, checkG on) else (layG g on x y, 0)
theorem clamp_clamp (x : Int) : clampL (clampL x) = clampL x := by unfold clampL; omega
theorem clamp_small (n : Nat) (h : n ≤ 1000) : clampL (n : Int) = n := by unfold clampL; omega
theorem layRow_cut {row a : List Cell} {w X A x' : Nat} {cx : Int} (hrow : row.length = w) (hX : X + A ≤ w) (hx : (X : Int) - cx = x') (span : ∀ k, k < w → (inB cx (cx + a.length) k = true ↔ X ≤ k ∧ k < X + A)) (hA : 0 < A) :
    A ≤ (a.drop x').length ∧ layRow a cx row = row.take X ++ (a.drop x').take A ++ row.drop (X + A) := by
  have h1 := (span (X + A - 1) (by omega)).2 (by omega)
  unfold inB at h1
  simp only [Bool.and_eq_true, decide_eq_true_eq] at h1
  have hle : A ≤ (a.drop x').length := by rw [List.length_drop]; omega
  refine ⟨hle, ?_⟩
  rw [List.length_drop] at hle
  refine List.ext_getElem? fun k => ?_
  rw [layRow, List.getElem?_mapIdx]
  by_cases hk : k < w
  · have hkr : row[k]? = some row[k] := List.getElem?_eq_getElem _
    rw [hkr, Option.map_some, layP]
    have hsp := span k hk
    by_cases hin : X ≤ k ∧ k < X + A
    · rw [if_pos (hsp.2 hin), List.append_assoc, List.getElem?_append_right (by simp; omega), List.getElem?_append_left (by simp; omega), List.getElem?_take, if_pos (by simp; omega), List.getElem?_drop]
      have e1 : ((k : Int) - cx).toNat = x' + (k - (row.take X).length) := by simp; omega
      have e2 : x' + (k - (row.take X).length) < a.length := by simp; omega
      rw [e1, List.getD_eq_getElem?_getD, List.getElem?_eq_getElem e2]; rfl
    · rw [if_neg (fun h => hin (hsp.1 h))]
      by_cases hk2 : k < X
      · rw [List.append_assoc, List.getElem?_append_left (by simp; omega), List.getElem?_take, if_pos hk2, hkr]
      · rw [List.getElem?_append_right (by simp; omega), List.getElem?_drop, ← hkr]
        congr 1
        simp
        omega
  · rw [List.getElem?_eq_none (by omega), List.getElem?_eq_none (by simp; omega)]; rfl
theorem lay_copy {pre row post a : List Cell} {w X A x' : Nat} {cx : Int} (hrow : row.length = w) (hX : X + A ≤ w) (hx : (X : Int) - cx = x') (span : ∀ k, k < w → (inB cx (cx + a.length) k = true ↔ X ≤ k ∧ k < X + A)) (hA : 0 < A) :
    (pre ++ row ++ post).take (pre.length + X) ++ (a.drop x').take A ++ (pre ++ row ++ post).drop (pre.length + X + min A (a.drop x').length) = pre ++ layRow a cx row ++ post := by
  obtain ⟨h1, h2⟩ := layRow_cut hrow hX hx span hA
  rw [h2, Nat.min_eq_left h1, Nat.add_assoc, List.append_assoc pre row post, List.take_length_add_append, List.drop_length_add_append, List.take_append_of_le_length (by omega), List.drop_append_of_le_length (by omega)]
  simp
theorem lay_ok (g on : Grid) (hg : g.ok) (ho : on.ok) (x y : Int) : Pure Tryd.prog W 29 [encGrid g, encGrid on, .int .i64 x, .int .i64 y] (.tup [encGrid (layE g on x y).1, .int .i64 (layE g on x y).2]) := by
  refine Pure.of (acalls_of_vc (drawOk W) Tryd.func29 rfl (by decide) (by decide) rfl ?_)
  (refine g0_ ?_; repeat ((first | refine n1_ fun b_ => ?_ | refine n2_ fun b_ => ?_ | refine Nat1.mk fun q_ hq_ => ?_); refine g0_ ?_))
  refine (check_ok W g hg).use ?_; (refine g0_ ?_; repeat ((first | refine n1_ fun b_ => ?_ | refine n2_ fun b_ => ?_ | refine Nat1.mk fun q_ hq_ => ?_); refine g0_ ?_))
  refine brec ?_; intro c_ h1; (try rw [h1]); cases c_ <;> replace h1 := nm_ h1
  · (refine g0_ ?_; repeat ((first | refine n1_ fun b_ => ?_ | refine n2_ fun b_ => ?_ | refine Nat1.mk fun q_ hq_ => ?_); refine g0_ ?_))
    refine (check_ok W on ho).use ?_; (refine g0_ ?_; repeat ((first | refine n1_ fun b_ => ?_ | refine n2_ fun b_ => ?_ | refine Nat1.mk fun q_ hq_ => ?_); refine g0_ ?_))
    refine brec ?_; intro c_ h2; (try rw [h2]); cases c_ <;> replace h2 := nm_ h2
    · have hE : layE g on x y = (layG g on x y, 0) := by rw [layE, if_neg (by simpa using h1), if_neg (by simpa using h2)]
      obtain ⟨gw, gh, f⟩ := fit_of (g := g) (by simpa using h1)
      obtain ⟨w, h, k⟩ := fit_of (g := on) (by simpa using h2)
      obtain ⟨g1, g2, gs⟩ := g
      obtain ⟨o1, o2, cs⟩ := on
      obtain rfl : g1 = gw := f.ew
      obtain rfl : g2 = gh := f.eh
      obtain rfl : o1 = w := k.ew
      obtain rfl : o2 = h := k.eh
      have hsm := k.small
      have hlen : cs.length = w * h := k.len
      have hglen : gs.length = gw * gh := f.len
      have hne : cs ≠ [] := by rintro rfl; have : 1 * 1 ≤ w * h := Nat.mul_le_mul k.w1 k.h1; simp at hlen; omega
      have hw2 := k.w2
      have hh2 := k.h2
      have hgw2 := f.w2
      have hgh2 := f.h2
      have hgsm := f.small
      have hins := inside_of ⟨clampL x, clampL y, gw, gh⟩ w h
      (refine g0_ ?_; repeat ((first | refine n1_ fun b_ => ?_ | refine n2_ fun b_ => ?_ | refine Nat1.mk fun q_ hq_ => ?_); refine g0_ ?_))
      rename_i b1 b2
      obtain ⟨b3, rfl⟩ : ∃ b3, b3 = b_ := ⟨_, rfl⟩
      refine ACalls.giveE (copy_ok W w h cs hne (by omega)) ?_
      rintro bc -
      rw [hlen]
      (refine g0_ ?_; repeat ((first | refine n1_ fun b_ => ?_ | refine n2_ fun b_ => ?_ | refine Nat1.mk fun q_ hq_ => ?_); refine g0_ ?_))
      refine Draws.late ⟨11, by decide +kernel, ?_⟩; (refine g0_ ?_; repeat ((first | refine n1_ fun b_ => ?_ | refine n2_ fun b_ => ?_ | refine Nat1.mk fun q_ hq_ => ?_); refine g0_ ?_))
      refine ⟨_, (clamp_ok W x).quiet, ?_⟩; (refine g0_ ?_; repeat ((first | refine n1_ fun b_ => ?_ | refine n2_ fun b_ => ?_ | refine Nat1.mk fun q_ hq_ => ?_); refine g0_ ?_))
      refine ⟨_, (clamp_ok W y).quiet, ?_⟩; (refine g0_ ?_; repeat ((first | refine n1_ fun b_ => ?_ | refine n2_ fun b_ => ?_ | refine Nat1.mk fun q_ hq_ => ?_); refine g0_ ?_))
      refine ⟨_, (insideS_ok W w h _ ⟨clampL x, clampL y, gw, gh⟩ (by omega) (by omega)).quiet, ?_⟩; (refine g0_ ?_; repeat ((first | refine n1_ fun b_ => ?_ | refine n2_ fun b_ => ?_ | refine Nat1.mk fun q_ hq_ => ?_); refine g0_ ?_))
      have hx3 : clampL (clampL x) = clampL x := clamp_clamp x
      have hy3 : clampL (clampL y) = clampL y := clamp_clamp y
      have hgw3 : clampL (gw : Int) = gw := clamp_small gw (by omega)
      have hgh3 : clampL (gh : Int) = gh := clamp_small gh (by omega)
      have hxr := clampL_le x
      have hyr := clampL_le y
      have hspx : ∀ k : Nat, k < w → (inB (clampL x) (clampL x + gw) k = true ↔ insX (clampL x) w ≤ k ∧ k < insX (clampL x) w + insA (clampL x) gw w) := by
        have := hins.x
        unfold Rect.x0 Rect.x1 at this
        rw [hx3, hgw3, Int.max_eq_left (by omega)] at this
        exact this
      have hspy : ∀ k : Nat, k < h → (inB (clampL y) (clampL y + gh) k = true ↔ insX (clampL y) h ≤ k ∧ k < insX (clampL y) h + insA (clampL y) gh h) := by
        have := hins.y
        unfold Rect.y0 Rect.y1 at this
        rw [hy3, hgh3, Int.max_eq_left (by omega)] at this
        exact this
      have hxa := hins.xa
      have hyb := hins.yb
      have hmeet : meets (clampL x) gw w = decide (0 < insA (clampL x) gw w) := by
        have := f.w1
        have := k.w1
        unfold meets insA
        rw [hx3, hgw3, Bool.eq_iff_iff]
        simp only [Bool.and_eq_true, decide_eq_true_eq]
        omega
      dsimp only at hxa hyb ⊢
      have hXx : ((insX (clampL x) w : Nat) : Int) = min (max (clampL x) 0) w := by unfold insX; rw [hx3]; omega
      have hYy : ((insX (clampL y) h : Nat) : Int) = min (max (clampL y) 0) h := by unfold insX; rw [hy3]; omega
      clear hins
      generalize insX (clampL x) w = X at *
      generalize insX (clampL y) h = Y at *
      generalize insA (clampL x) gw w = A at *
      generalize insA (clampL y) gh h = B at *
      have hL := k.row
      have hLl := k.rlen
      have hLf := k.flat
      have hGL := f.row
      have hGl := f.rlen
      have hGg : ∀ j, j < gh → (Grid.rows ⟨gw, gh, gs⟩)[j]? = some ((gs.drop (j * gw)).take gw) := fun j hj => by rw [f.rows]; exact rowsOf_get gw gh gs j hj
      rw [layG, show (Grid.mk w h cs).w.toNat = w from Int.toNat_natCast w, show (Grid.mk gw gh gs).w.toNat = gw from Int.toNat_natCast gw] at hE
      generalize (Grid.rows ⟨w, h, cs⟩) = L at *
      generalize (Grid.rows ⟨gw, gh, gs⟩) = G at *
      refine brec ?_; intro c_ h3; (try rw [h3]); cases c_ <;> replace h3 := nm_ h3
      · have hA0 : 0 < A := by omega
        rw [hE, Grid.withRows]
        dsimp only
        have hlq := layQ_len G gw w (clampL x) (clampL y)
        have hQy : ∀ (i : Nat) (d : List Cell), L[i]? = some d → (¬ (Y ≤ i ∧ i < Y + B)) → layQ G gw w (clampL x) (clampL y) i d = d := fun i d hk hn => by
          have := lt_of_at hk
          have h8 := hspy i (by omega)
          rw [layQ, hGl, if_neg]
          rw [Bool.and_eq_true]
          exact fun h => hn (h8.1 h.1)
        generalize hcx : clampL x = cx at *
        generalize hcy : clampL y = cy at *
        have hcxx := clamp_ok W x
        have hcyy := clamp_ok W y
        rw [hcx] at hcxx
        rw [hcy] at hcyy
        (refine g0_ ?_; repeat ((first | refine n1_ fun b_ => ?_ | refine n2_ fun b_ => ?_ | refine Nat1.mk fun q_ hq_ => ?_); refine g0_ ?_))
        rename_i b4
        obtain ⟨b5, rfl⟩ : ∃ b5, b5 = b_ := ⟨_, rfl⟩
        refine' loopI (α := Nat × (List Cell)) (fun (j, cs') => [(14, .int .i64 j)]) [(2, _), (3, _), (4, _), (8, _), (12, _), (13, _)] (fun (j, cs') => [⟨b5, .row 4 [.agg [.int .i64 X, .int .i64 Y, .int .i64 A, .int .i64 B]] 0⟩, ⟨b4, .row 3 [.agg [.int .i64 w, .int .i64 h, .rsl bc 4 0 (w * h)]] 0⟩, ⟨b3, .row 3 [.agg [.int .i64 0, .int .i64 0, .nils]] 0⟩, ⟨b2, .row 3 [encGrid ⟨w, h, cs⟩] 0⟩, ⟨b1, .row 3 [encGrid ⟨gw, gh, gs⟩] 0⟩, ⟨bc, .row 4 (cs'.map encCell) 0⟩]) (fun (j, cs') => Y ≤ j ∧ j ≤ Y + B ∧ cs' = (upto (layQ G gw w cx cy) j L).flatten) (fun (j, cs') => Y + B - j) (Y, cs) ?_ ?_
        · exact ⟨Nat.le_refl _, Nat.le_add_right _ _, by rw [upto_from fun k d hk hn => hQy k d hk (by omega), hLf]⟩
        rintro ⟨j, cs'⟩ ⟨hj1, hj2, rfl⟩
        (refine g0_ ?_; repeat ((first | refine n1_ fun b_ => ?_ | refine n2_ fun b_ => ?_ | refine Nat1.mk fun q_ hq_ => ?_); refine g0_ ?_))
        refine brec ?_; intro c_ h4; (try rw [h4]); cases c_ <;> replace h4 := nm_ h4
        · have hjB : j = Y + B := by omega
          subst hjB
          rw [upto_all fun k d hk hn => hQy k d hk (by omega)]
          have hfl := flat_len w _ (mapIdx_row hlq hL)
          rw [List.length_mapIdx, hLl] at hfl
          (refine g0_ ?_; repeat ((first | refine n1_ fun b_ => ?_ | refine n2_ fun b_ => ?_ | refine Nat1.mk fun q_ hq_ => ?_); refine g0_ ?_))
          exact frz_tup2 (frz_grid (by repeat (first | exact .here _ _ _ | apply Look.there)) (by rw [hfl, Nat.mul_comm])) (.refl _)
        · obtain ⟨row, hr0⟩ : ∃ row, L[j]? = some row := ⟨L[j], List.getElem?_eq_getElem _⟩
          have hr := upto_at (layQ G gw w cx cy) hr0
          have hrl := hL row (List.mem_of_getElem? hr0)
          have hnx := (congrArg List.flatten (upto_set (p := layQ G gw w cx cy) hr0)).trans (flat_set hr _)
          have hup : ∀ q ∈ upto (layQ G gw w cx cy) j L, q.length = w := by
            intro q hq
            obtain ⟨k, hk⟩ := List.getElem?_of_mem hq
            rw [upto_get] at hk
            cases hg : L[k]? with
            | none => rw [hg] at hk; cases hk
            | some d =>
              rw [hg] at hk
              obtain rfl := Option.some.inj hk
              have := hL d (List.mem_of_getElem? hg)
              split
              · rw [hlq]; exact this
              · exact this
          have hpre := take_flat_len hup (y := j) (by rw [upto_len]; omega)
          have hfl := flat_len w _ hup
          rw [upto_len, hLl, flat_at hr] at hfl
          rw [flat_at hr]
          have hin := (hspy j (by omega)).2 (by omega)
          have hin' := hin
          unfold inB at hin'
          simp only [Bool.and_eq_true, decide_eq_true_eq] at hin'
          obtain ⟨j', hj'⟩ := Int.eq_ofNat_of_zero_le (show 0 ≤ (j : Int) - cy by omega)
          have hXin := (hspx X (by omega)).2 (by omega)
          unfold inB at hXin
          simp only [Bool.and_eq_true, decide_eq_true_eq] at hXin
          have ha := hGg j' (by omega)
          have hal := hGL _ (List.mem_of_getElem? ha)
          rw [layQ, hGl, hin, hmeet, if_pos (by simpa using hA0), hj', Int.toNat_natCast, List.getD_eq_getElem?_getD, ha, Option.getD_some] at hnx
          generalize (List.take j (upto (layQ G gw w cx cy) j L)).flatten = pre at *
          generalize (List.drop (j + 1) (upto (layQ G gw w cx cy) j L)).flatten = post at *
          have hyw : (j + 1) * w ≤ h * w := Nat.mul_le_mul_right w (by omega)
          rw [Nat.mul_comm h w] at hyw
          have hyg : (j' + 1) * gw ≤ gh * gw := Nat.mul_le_mul_right gw (by omega)
          rw [Nat.mul_comm gh gw, ← hglen] at hyg
          (refine g0_ ?_; repeat ((first | refine n1_ fun b_ => ?_ | refine n2_ fun b_ => ?_ | refine Nat1.mk fun q_ hq_ => ?_); refine g0_ ?_))
          refine head_ ?_; (refine g0_ ?_; repeat ((first | refine n1_ fun b_ => ?_ | refine n2_ fun b_ => ?_ | refine Nat1.mk fun q_ hq_ => ?_); refine g0_ ?_))
          refine ⟨_, (rowOwn_ok W bc (w * h) w j h hyw (by omega) (by omega) (by omega)).quiet, ?_⟩; (refine g0_ ?_; repeat ((first | refine n1_ fun b_ => ?_ | refine n2_ fun b_ => ?_ | refine Nat1.mk fun q_ hq_ => ?_); refine g0_ ?_))
          refine ⟨_, (hcyy).quiet, ?_⟩; (refine g0_ ?_; repeat ((first | refine n1_ fun b_ => ?_ | refine n2_ fun b_ => ?_ | refine Nat1.mk fun q_ hq_ => ?_); refine g0_ ?_))
          rw [hj']
          refine ⟨_, (row_ok W gw j' gh gs hyg (by omega) (by omega) (by omega)).quiet, ?_⟩; (refine g0_ ?_; repeat ((first | refine n1_ fun b_ => ?_ | refine n2_ fun b_ => ?_ | refine Nat1.mk fun q_ hq_ => ?_); refine g0_ ?_))
          generalize List.take gw (List.drop (j' * gw) gs) = a at *
          refine ⟨_, (hcxx).quiet, ?_⟩; (refine g0_ ?_; repeat ((first | refine n1_ fun b_ => ?_ | refine n2_ fun b_ => ?_ | refine Nat1.mk fun q_ hq_ => ?_); refine g0_ ?_))
          have hq1 := hq_
          obtain ⟨x', rfl⟩ : ∃ x', x' = q_ := ⟨_, rfl⟩
          clear hq_
          have hcp := lay_copy (pre := pre) (post := post) hrl hxa hq1 (by rw [hal]; exact hspx) hA0
          rw [hpre] at hcp
          have hrowE : List.take (j * w + X) (List.map encCell (pre ++ row ++ post)) ++ List.take (X + A - X) (List.map encCell (List.drop x' (List.take (List.map encCell a).length a))) ++ List.drop (j * w + X + min (X + A - X) (List.map encCell (List.drop x' (List.take (List.map encCell a).length a))).length) (List.map encCell (pre ++ row ++ post)) = (pre ++ layRow a cx row ++ post).map encCell := by
            rw [← hcp, Nat.add_sub_cancel_left, show List.take (List.map encCell a).length a = a by rw [List.length_map, List.take_length], List.length_map]
            simp [List.map_take, List.map_drop]
          refine need.mk ⟨by rw [List.length_map, hfl, Nat.mul_comm h w]; rw [Nat.succ_mul] at hyw; omega, cells_all _, by omega⟩ ?_
          dsimp only
          rw [hrowE]
          (refine g0_ ?_; repeat ((first | refine n1_ fun b_ => ?_ | refine n2_ fun b_ => ?_ | refine Nat1.mk fun q_ hq_ => ?_); refine g0_ ?_))
          refine (rowOwn_ok W bc (w * h) w j h hyw (by omega) (by omega) (by omega)).use ?_; (refine g0_ ?_; repeat ((first | refine n1_ fun b_ => ?_ | refine n2_ fun b_ => ?_ | refine Nat1.mk fun q_ hq_ => ?_); refine g0_ ?_))
          have hm := mend_ok W bc pre (layRow a cx row) post (by simp [layRow]; omega)
          rw [hpre, show (layRow a cx row).length = w by simp [layRow, hrl]] at hm
          refine ACalls.lend1 hm (by repeat (first | exact .here _ _ _ | apply Look.there)) ?_
          rintro _ -
          (refine g0_ ?_; repeat ((first | refine n1_ fun b_ => ?_ | refine n2_ fun b_ => ?_ | refine Nat1.mk fun q_ hq_ => ?_); refine g0_ ?_))
          refine nx_ (j + 1, pre ++ mendL (layRow a cx row) ++ post) ?_ ?_
          · exact ⟨by omega, by omega, hnx.symm⟩
          · ((try dsimp only); (try simp only [List.length_drop, List.length_take, List.length_append, List.length_cons, List.length_nil, List.length_map] at *); omega)
      · have hA0 : A = 0 := by omega
        have hid : L.mapIdx (layQ G gw w (clampL x) (clampL y)) = L := by
          refine List.ext_getElem? fun i => ?_
          rw [List.getElem?_mapIdx]
          cases L[i]? with
          | none => rfl
          | some d => simp [layQ, hmeet, hA0]
        rw [hE]
        (refine g0_ ?_; repeat ((first | refine n1_ fun b_ => ?_ | refine n2_ fun b_ => ?_ | refine Nat1.mk fun q_ hq_ => ?_); refine g0_ ?_))
        rw [Grid.withRows, hid]
        exact frz_tup2 (frz_grid (cs := L.flatten) (by rw [hLf]; repeat (first | exact .here _ _ _ | apply Look.there)) (by rw [hLf]; exact hlen.symm)) (.refl _)
    · have hE : layE g on x y = (.none, checkG on) := by rw [layE, if_neg (by simpa using h1), if_pos h2]
      (refine g0_ ?_; repeat ((first | refine n1_ fun b_ => ?_ | refine n2_ fun b_ => ?_ | refine Nat1.mk fun q_ hq_ => ?_); refine g0_ ?_))
      rw [hE]
      exact frz_tup2 frz_none (.refl _)
  · have hE : layE g on x y = (.none, checkG g) := by rw [layE, if_pos h1]
    (refine g0_ ?_; repeat ((first | refine n1_ fun b_ => ?_ | refine n2_ fun b_ => ?_ | refine Nat1.mk fun q_ hq_ => ?_); refine g0_ ?_))
    rw [hE]
    exact frz_tup2 frz_none (.refl _)
end Go.Eng.YtjkdkofpabocmaaDoor
end

/- Grids laid upon others: the document's way. -/
section
namespace Go.Eng.YtjkdkofpabocmaaDoor
open Go Go.Eng Go.Proofs
variable (W : World)
set_option linter.unusedSimpArgs false
set_option maxRecDepth 100000
set_option linter.unusedVariables false
set_option maxHeartbeats 4000000
/-- One row under way. -/
def layX (A : List (List Cell)) (x y : Int) (v : Nat) (u : Nat) (d : Cell) : Cell := if inB y (y + A.length) v then layP (A.getD ((v : Int) - y).toNat []) x u d else d
theorem layX_row (A : List (List Cell)) (x y : Int) (v : Nat) (row : List Cell) : row.mapIdx (layX A x y v) = if inB y (y + A.length) v then layRow (A.getD ((v : Int) - y).toNat []) x row else row := by
  refine List.ext_getElem? fun k => ?_
  rw [List.getElem?_mapIdx]
  cases hy : inB y (y + A.length) v
  · rw [if_neg (by decide)]
    cases row[k]? with
    | none => rfl
    | some d => simp [layX, hy]
  · rw [if_pos rfl, layRow, List.getElem?_mapIdx]
    cases row[k]? with
    | none => rfl
    | some d => simp [layX, hy]
theorem layRow_none {a row : List Cell} {x : Int} {n w : Nat} (ha : a.length = n) (hr : row.length = w) (hm : meets x n w = false) : layRow a x row = row := by
  refine List.ext_getElem? fun k => ?_
  rw [layRow, List.getElem?_mapIdx]
  cases hk : row[k]? with
  | none => rfl
  | some d =>
    have := lt_of_at hk
    rw [Option.map_some, layP, if_neg]
    unfold meets at hm
    unfold inB
    rw [Bool.eq_false_iff] at hm
    simp only [ne_eq, Bool.and_eq_true, decide_eq_true_eq] at hm ⊢
    omega
theorem row_of_in {G : List (List Cell)} {cy : Int} {v gw : Nat} (hG : ∀ r ∈ G, r.length = gw) (h : inB cy (cy + G.length) v = true) : ∃ j r, (v : Int) - cy = (j : Nat) ∧ G[j]? = some r ∧ G.getD ((v : Int) - cy).toNat [] = r ∧ r.length = gw := by
  unfold inB at h
  simp only [Bool.and_eq_true, decide_eq_true_eq] at h
  obtain ⟨j, hj⟩ := Int.eq_ofNat_of_zero_le (show 0 ≤ (v : Int) - cy by omega)
  have hjl : j < G.length := by omega
  have hjr : G[j]? = some G[j] := List.getElem?_eq_getElem _
  exact ⟨j, G[j], hj, hjr, by rw [hj, Int.toNat_natCast, List.getD_eq_getElem?_getD, hjr]; rfl, hG _ (List.getElem_mem _)⟩
/-- Has a place before u been met? -/
def metB (A : List (List Cell)) (n : Nat) (x y : Int) (v u : Nat) : Bool := inB y (y + A.length) v && decide (max x 0 < min (u : Int) (x + n))
end Go.Eng.YtjkdkofpabocmaaDoor
end

/- Grids: the document's new ones. -/
section
namespace Go.Eng.YtjkdkofpabocmaaDoor
open Go Go.Eng Go.Proofs
variable (W : World)
set_option linter.unusedSimpArgs false
set_option maxRecDepth 100000
set_option linter.unusedVariables false
set_option maxHeartbeats 4000000
theorem rep_copy (n k : Nat) (hk : k ≤ n) {cs : List Cell} (hcs : cs = List.replicate k blankC ++ List.replicate (n - k) zeroC) : cs.take k ++ (cs.take k).take (n - k) ++ cs.drop (k + min (n - k) k) = List.replicate (k + min (n - k) k) blankC ++ List.replicate (n - (k + min (n - k) k)) zeroC := by
  subst hcs
  have e1 : (List.replicate k blankC ++ List.replicate (n - k) zeroC).take k = List.replicate k blankC := by rw [List.take_left' (by simp)]
  rw [e1, List.take_replicate, ← List.replicate_append_replicate (n := k) (m := min (n - k) k)]
  congr 1
  rw [List.drop_append, List.drop_of_length_le (by simp), List.nil_append, List.length_replicate, List.drop_replicate]
  congr 1
  omega
end Go.Eng.YtjkdkofpabocmaaDoor
end
