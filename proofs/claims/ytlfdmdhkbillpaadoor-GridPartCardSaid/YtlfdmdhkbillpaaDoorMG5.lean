/- Texts put together: GridX. -/
import Derived.Test.YtlfdmdhkbillpaaDoorMG3
import Derived.Test.YtlfdmdhkbillpaaDoorME5
/- The law GridPart. -/
section
namespace Go.Eng.YtlfdmdhkbillpaaDoor
open Go Go.Eng Go.Proofs
variable (W : World)
set_option linter.unusedSimpArgs false
set_option maxRecDepth 100000
set_option linter.unusedVariables false
set_option maxHeartbeats 4000000
/-- How the law ends: another size. -/
theorem gridPart_ok (hT : Tabs W) (g : Grid) (hg : g.ok) (r : Rect) (hr : r.ok) (w' : Int) (hw : -9223372036854775808 ≤ w' ∧ w' ≤ 9223372036854775807) (h' : Int) (hh : -9223372036854775808 ≤ h' ∧ h' ≤ 9223372036854775807) :
    Pure Tryd.prog W 13 [encGrid g, encRect r, .int .i64 w', .int .i64 h'] (.bool true) := by
  have hgr := gridded_ok W hT
  obtain ⟨rx, ry, rw_, rh⟩ := r
  have hr' := hr
  obtain ⟨hr1, hr2, hr3, hr4⟩ := hr
  unfold i64ok at hr1 hr2 hr3 hr4
  dsimp only at hr1 hr2 hr3 hr4
  by_cases h1 : checkG g = 0
  · obtain ⟨w, h, f⟩ := fit_of h1
    have hgw := f.ew
    have hgh := f.eh
    have hw2 := f.w2
    have hh2 := f.h2
    by_cases h2 : inG g ⟨rx, ry, rw_, rh⟩
    · have hE : partE g ⟨rx, ry, rw_, rh⟩ = (partG g ⟨rx, ry, rw_, rh⟩, 0) := by rw [partE, if_neg (by simpa using h1), if_pos h2]
      obtain ⟨X, Y, A, B, hrE, hX, hY, hA1, hB1⟩ := in_nat f h2
      obtain ⟨rfl, rfl, rfl, rfl⟩ := Rect.mk.inj hrE
      obtain ⟨f', hPr⟩ := part_rows f X Y A B hX hY hA1 hB1
      have hsx := same_refl W (partG g ⟨X, Y, A, B⟩) (by have := partE_ok hg ⟨X, Y, A, B⟩; rwa [hE] at this)
      rw [encRect]
      dsimp only
      refine Pure.of (acalls_of_vc (DG_ok (by decide)) Tryd.func13 rfl (by decide) (by decide) rfl ?_)
      (refine g0_ ?_; repeat ((first | refine n1_ fun b_ => ?_ | refine n2_ fun b_ => ?_ | refine Nat1.mk fun q_ hq_ => ?_ | refine em_ fun x_ hx_ => ?_ | refine Elem1.mk fun e_ he_ => ?_); refine g0_ ?_))
      refine (part_ok W g hg ⟨X, Y, A, B⟩ hr').use ?_
      rw [hE]
      (refine g0_ ?_; repeat ((first | refine n1_ fun b_ => ?_ | refine n2_ fun b_ => ?_ | refine Nat1.mk fun q_ hq_ => ?_ | refine em_ fun x_ hx_ => ?_ | refine Elem1.mk fun e_ he_ => ?_); refine g0_ ?_))
      refine (resize_ok W g hg w' h').use ?_
      (refine g0_ ?_; repeat ((first | refine n1_ fun b_ => ?_ | refine n2_ fun b_ => ?_ | refine Nat1.mk fun q_ hq_ => ?_ | refine em_ fun x_ hx_ => ?_ | refine Elem1.mk fun e_ he_ => ?_); refine g0_ ?_))
      refine (checkGrid_ok W g hg).use ?_; (refine g0_ ?_; repeat ((first | refine n1_ fun b_ => ?_ | refine n2_ fun b_ => ?_ | refine Nat1.mk fun q_ hq_ => ?_ | refine em_ fun x_ hx_ => ?_ | refine Elem1.mk fun e_ he_ => ?_); refine g0_ ?_))
      rw [h1]
      (refine g0_ ?_; repeat ((first | refine n1_ fun b_ => ?_ | refine n2_ fun b_ => ?_ | refine Nat1.mk fun q_ hq_ => ?_ | refine em_ fun x_ hx_ => ?_ | refine Elem1.mk fun e_ he_ => ?_); refine g0_ ?_))
      refine (hgr).use ?_; (refine g0_ ?_; repeat ((first | refine n1_ fun b_ => ?_ | refine n2_ fun b_ => ?_ | refine Nat1.mk fun q_ hq_ => ?_ | refine em_ fun x_ hx_ => ?_ | refine Elem1.mk fun e_ he_ => ?_); refine g0_ ?_))
      (refine g1_ ?_; repeat ((first | refine n1_ fun b_ => ?_ | refine n2_ fun b_ => ?_ | refine Nat1.mk fun q_ hq_ => ?_ | refine em_ fun x_ hx_ => ?_ | refine Elem1.mk fun e_ he_ => ?_); refine g1_ ?_))
      refine DrawsZ.old (head_ ?_)
      (refine g0_ ?_; repeat ((first | refine n1_ fun b_ => ?_ | refine n2_ fun b_ => ?_ | refine Nat1.mk fun q_ hq_ => ?_ | refine em_ fun x_ hx_ => ?_ | refine Elem1.mk fun e_ he_ => ?_); refine g0_ ?_))
      refine ⟨_, rowsP_ok W g f, ?_⟩; (refine g0_ ?_; repeat ((first | refine n1_ fun b_ => ?_ | refine n2_ fun b_ => ?_ | refine Nat1.mk fun q_ hq_ => ?_ | refine em_ fun x_ hx_ => ?_ | refine Elem1.mk fun e_ he_ => ?_); refine g0_ ?_))
      have hrl := f.rlen
      rw [show ((Y : Int) + B) = ((Y + B : Nat) : Int) by push_cast; rfl]
      obtain ⟨L, hLd⟩ : ∃ L, L = (g.rows.take (Y + B)).drop Y := ⟨_, rfl⟩
      have hLl : L.length = B := by rw [hLd, List.length_drop, List.length_take, hrl]; omega
      have hLr : ∀ r ∈ L, r.length = w := fun r hr => f.row r (by rw [hLd] at hr; exact List.mem_of_mem_take (List.mem_of_mem_drop hr))
      have hLe : L = (g.rows.drop Y).take B := by rw [hLd, List.drop_take]; congr 1; omega
      rw [← hLe] at hPr
      have hPl : ∀ q ∈ L.map (partRow X A), q.length = A := fun q hq => by
        obtain ⟨row, hm, rfl⟩ := List.mem_map.1 hq
        rw [partRow, mendL_len, List.length_take, List.length_drop, hLr row hm]; omega
      have hPG : encGrid (partG g ⟨X, Y, A, B⟩) = encGrid ⟨A, L.length, (L.map (partRow X A)).flatten⟩ := by rw [hLl, hLe]; rfl
      have hGo := ACalls.pure (gridOf_ok W (L.map (partRow X A)) hPl (by intro e; have := congrArg List.length e; simp at this; rw [this] at hLl; simp at hLl; omega) hA1 (by rw [List.length_map]; omega) (by omega)) (r := encGrid (partG g ⟨X, Y, A, B⟩)) (fun b _ => by rw [hPG, List.length_map]; exact frz_grid (.here _ _ _) rfl)
      (refine g0_ ?_; repeat ((first | refine n1_ fun b_ => ?_ | refine n2_ fun b_ => ?_ | refine Nat1.mk fun q_ hq_ => ?_ | refine em_ fun x_ hx_ => ?_ | refine Elem1.mk fun e_ he_ => ?_); refine g0_ ?_))
      rw [← hLd]
      rename_i b1 b2 b3
      obtain ⟨b4, rfl⟩ : ∃ b4, b4 = b_ := ⟨_, rfl⟩
      refine' loopI (α := Nat × Nat × (List PV)) (fun (i, b, o) => [(14, accV b 1 o), (127, .int .i64 i)]) [(2, _), (3, _), (4, _), (5, _), (9, _), (10, _), (11, _), (12, _), (125, _), (126, _)] (fun (i, b, o) => accM b 1 o ++ [⟨b4, .row 3 [encGrid (resizeE g w' h').1] 0⟩, ⟨b3, .row 3 [encGrid (partG g ⟨X, Y, A, B⟩)] 0⟩, ⟨b2, .row 4 [.agg [.int .i64 X, .int .i64 Y, .int .i64 A, .int .i64 B]] 0⟩, ⟨b1, .row 3 [encGrid g] 0⟩]) (fun (i, b, o) => i ≤ B ∧ o = (L.take i).map fun r => .sl 4 ((partRow X A r).map encCell)) (fun (i, b, o) => B - i) (0, 0, []) ?_ ?_
      · exact ⟨Nat.zero_le _, rfl⟩
      rintro ⟨i, b, o⟩ ⟨hi, ho⟩
      rcases o with _ | ⟨p, o⟩
      · (refine g0_ ?_; repeat ((first | refine n1_ fun b_ => ?_ | refine n2_ fun b_ => ?_ | refine Nat1.mk fun q_ hq_ => ?_ | refine em_ fun x_ hx_ => ?_ | refine Elem1.mk fun e_ he_ => ?_); refine g0_ ?_))
        refine brec ?_; intro c_ h3; (try rw [h3]); cases c_ <;> replace h3 := nm_ h3
        · rw [List.length_map] at h3
          have : i = B := by omega
          subst this
          rw [List.take_of_length_le (by omega)] at ho
          have hol := congrArg List.length ho
          simp only [List.length_map, List.length_cons, List.length_nil] at hol
          (refine g0_ ?_; repeat ((first | refine n1_ fun b_ => ?_ | refine n2_ fun b_ => ?_ | refine Nat1.mk fun q_ hq_ => ?_ | refine em_ fun x_ hx_ => ?_ | refine Elem1.mk fun e_ he_ => ?_); refine g0_ ?_))
          first
            | (exfalso; omega)
            | (have hfz : Frz (accM b 1 []) (accV b 1 []) (encRows (L.map (partRow X A))) := by
                 have e : encRows (L.map (partRow X A)) = .sl 1 [] := by rw [ho, encRows, List.map_map]; rfl
                 rw [e]
                 exact frz_row (.here _ _ _) _ rfl
               refine freeze_ 14 (encRows (L.map (partRow X A))) _ (accM b 1 []) (show (accM b 1 [] ++ ([⟨b4, .row 3 [encGrid (resizeE g w' h').1] 0⟩, ⟨b3, .row 3 [encGrid (partG g ⟨X, Y, A, i⟩)] 0⟩, ⟨b2, .row 4 [.agg [.int .i64 X, .int .i64 Y, .int .i64 A, .int .i64 i]] 0⟩, ⟨b1, .row 3 [encGrid g] 0⟩] : Mem)).Perm _ from List.perm_append_comm) hfz ?_
               refine head_ ?_
               (refine g0_ ?_; repeat ((first | refine n1_ fun b_ => ?_ | refine n2_ fun b_ => ?_ | refine Nat1.mk fun q_ hq_ => ?_ | refine em_ fun x_ hx_ => ?_ | refine Elem1.mk fun e_ he_ => ?_); refine g0_ ?_))
               refine ⟨_, hGo, ?_⟩; (refine g0_ ?_; repeat ((first | refine n1_ fun b_ => ?_ | refine n2_ fun b_ => ?_ | refine Nat1.mk fun q_ hq_ => ?_ | refine em_ fun x_ hx_ => ?_ | refine Elem1.mk fun e_ he_ => ?_); refine g0_ ?_))
               refine ⟨_, hsx, ?_⟩; (refine g0_ ?_; repeat ((first | refine n1_ fun b_ => ?_ | refine n2_ fun b_ => ?_ | refine Nat1.mk fun q_ hq_ => ?_ | refine em_ fun x_ hx_ => ?_ | refine Elem1.mk fun e_ he_ => ?_); refine g0_ ?_))
               (refine g1_ ?_; repeat ((first | refine n1_ fun b_ => ?_ | refine n2_ fun b_ => ?_ | refine Nat1.mk fun q_ hq_ => ?_ | refine em_ fun x_ hx_ => ?_ | refine Elem1.mk fun e_ he_ => ?_); refine g1_ ?_))
               (refine g0_ ?_; repeat ((first | refine n1_ fun b_ => ?_ | refine n2_ fun b_ => ?_ | refine Nat1.mk fun q_ hq_ => ?_ | refine em_ fun x_ hx_ => ?_ | refine Elem1.mk fun e_ he_ => ?_); refine g0_ ?_))
               refine (size_ok W w' h').use ?_; (refine g0_ ?_; repeat ((first | refine n1_ fun b_ => ?_ | refine n2_ fun b_ => ?_ | refine Nat1.mk fun q_ hq_ => ?_ | refine em_ fun x_ hx_ => ?_ | refine Elem1.mk fun e_ he_ => ?_); refine g0_ ?_))
               by_cases hs : sizeB w' h' = true
               · have hR : resizeE g w' h' = (layG g (newG w' h') 0 0, 0) := by rw [resizeE, if_neg (by simpa using h1), if_pos hs]
                 have hs' := hs
                 unfold sizeB at hs'
                 simp only [Bool.and_eq_true, decide_eq_true_eq] at hs'
                 obtain ⟨a, rfl⟩ := Int.eq_ofNat_of_zero_le (show 0 ≤ w' by omega)
                 obtain ⟨b, rfl⟩ := Int.eq_ofNat_of_zero_le (show 0 ≤ h' by omega)
                 obtain ⟨nw, nh, nf⟩ := fit_of (check_new hs)
                 have hng := newGrid_ok W a b (by omega) (by omega) (by omega) (by omega)
                 have hlg := layGrid_ok W g (newG a b) f nf 0 0
                 have hsx := same_refl W (layG g (newG a b) 0 0) (layG_ok f nf hg (newG_ok hs) 0 0)
                 rw [hs, hR]
                 (refine g0_ ?_; repeat ((first | refine n1_ fun b_ => ?_ | refine n2_ fun b_ => ?_ | refine Nat1.mk fun q_ hq_ => ?_ | refine em_ fun x_ hx_ => ?_ | refine Elem1.mk fun e_ he_ => ?_); refine g0_ ?_))
                 refine DrawsZ.old (head_ ?_)
                 (refine g0_ ?_; repeat ((first | refine n1_ fun b_ => ?_ | refine n2_ fun b_ => ?_ | refine Nat1.mk fun q_ hq_ => ?_ | refine em_ fun x_ hx_ => ?_ | refine Elem1.mk fun e_ he_ => ?_); refine g0_ ?_))
                 refine ⟨_, hng, ?_⟩; (refine g0_ ?_; repeat ((first | refine n1_ fun b_ => ?_ | refine n2_ fun b_ => ?_ | refine Nat1.mk fun q_ hq_ => ?_ | refine em_ fun x_ hx_ => ?_ | refine Elem1.mk fun e_ he_ => ?_); refine g0_ ?_))
                 refine ⟨_, hlg, ?_⟩; (refine g0_ ?_; repeat ((first | refine n1_ fun b_ => ?_ | refine n2_ fun b_ => ?_ | refine Nat1.mk fun q_ hq_ => ?_ | refine em_ fun x_ hx_ => ?_ | refine Elem1.mk fun e_ he_ => ?_); refine g0_ ?_))
                 refine ⟨_, hsx, ?_⟩; (refine g0_ ?_; repeat ((first | refine n1_ fun b_ => ?_ | refine n2_ fun b_ => ?_ | refine Nat1.mk fun q_ hq_ => ?_ | refine em_ fun x_ hx_ => ?_ | refine Elem1.mk fun e_ he_ => ?_); refine g0_ ?_))
                 (refine Frz.of_eq ?_; (conv => lhs; whnf))
                 (try rfl)
               · have hR : resizeE g w' h' = (.none, 3) := by rw [resizeE, if_neg (by simpa using h1), if_neg hs]
                 rw [show sizeB w' h' = false by simpa using hs, hR]
                 (refine g0_ ?_; repeat ((first | refine n1_ fun b_ => ?_ | refine n2_ fun b_ => ?_ | refine Nat1.mk fun q_ hq_ => ?_ | refine em_ fun x_ hx_ => ?_ | refine Elem1.mk fun e_ he_ => ?_); refine g0_ ?_))
                 refine (none_no W).use ?_; (refine g0_ ?_; repeat ((first | refine n1_ fun b_ => ?_ | refine n2_ fun b_ => ?_ | refine Nat1.mk fun q_ hq_ => ?_ | refine em_ fun x_ hx_ => ?_ | refine Elem1.mk fun e_ he_ => ?_); refine g0_ ?_))
                 (refine Frz.of_eq ?_; (conv => lhs; whnf))
                 (try rfl)
               )
        · rw [List.length_map] at h3
          obtain ⟨row, hr⟩ : ∃ r, L[i]? = some r := ⟨L[i]'(by omega), List.getElem?_eq_getElem _⟩
          have hrl2 := hLr row (List.mem_of_getElem? hr)
          have hsl : ((row.drop X).take A).length = A := by rw [List.length_take, List.length_drop]; omega
          have hsg : (row.take (X + A)).drop X = (row.drop X).take A := by rw [List.drop_take]; congr 1; omega
          have hmd := GivesRow.pure W (mendR_ok W ((row.drop X).take A) (by intro e; rw [e] at hsl; simp at hsl; omega) (by omega))
          have hol := congrArg List.length ho
          simp only [List.length_map, List.length_cons, List.length_nil, List.length_take] at hol
          (refine g0_ ?_; repeat ((first | refine n1_ fun b_ => ?_ | refine n2_ fun b_ => ?_ | refine Nat1.mk fun q_ hq_ => ?_ | refine em_ fun x_ hx_ => ?_ | refine Elem1.mk fun e_ he_ => ?_); refine g0_ ?_))
          rw [hsg]
          refine (hmd).use ?_; (refine g0_ ?_; repeat ((first | refine n1_ fun b_ => ?_ | refine n2_ fun b_ => ?_ | refine Nat1.mk fun q_ hq_ => ?_ | refine em_ fun x_ hx_ => ?_ | refine Elem1.mk fun e_ he_ => ?_); refine g0_ ?_))
          refine .inl ?_
          (refine g0_ ?_; repeat ((first | refine n1_ fun b_ => ?_ | refine n2_ fun b_ => ?_ | refine Nat1.mk fun q_ hq_ => ?_ | refine em_ fun x_ hx_ => ?_ | refine Elem1.mk fun e_ he_ => ?_); refine g0_ ?_))
          refine nx_ (i + 1, b_, [] ++ [.sl 4 ((partRow X A row).map encCell)]) ?_ ?_
          · exact ⟨by omega, by rw [take_snoc_of hr, List.map_append, ← ho]; rfl⟩
          · ((try dsimp only); (try simp only [List.length_drop, List.length_take, List.length_append, List.length_cons, List.length_nil, List.length_map] at *); omega)
      · (refine g0_ ?_; repeat ((first | refine n1_ fun b_ => ?_ | refine n2_ fun b_ => ?_ | refine Nat1.mk fun q_ hq_ => ?_ | refine em_ fun x_ hx_ => ?_ | refine Elem1.mk fun e_ he_ => ?_); refine g0_ ?_))
        refine brec ?_; intro c_ h3; (try rw [h3]); cases c_ <;> replace h3 := nm_ h3
        · rw [List.length_map] at h3
          have : i = B := by omega
          subst this
          rw [List.take_of_length_le (by omega)] at ho
          have hol := congrArg List.length ho
          simp only [List.length_map, List.length_cons, List.length_nil] at hol
          (refine g0_ ?_; repeat ((first | refine n1_ fun b_ => ?_ | refine n2_ fun b_ => ?_ | refine Nat1.mk fun q_ hq_ => ?_ | refine em_ fun x_ hx_ => ?_ | refine Elem1.mk fun e_ he_ => ?_); refine g0_ ?_))
          first
            | (exfalso; omega)
            | (have hfz : Frz (accM b 1 (p :: o)) (accV b 1 (p :: o)) (encRows (L.map (partRow X A))) := by
                 have e : encRows (L.map (partRow X A)) = .sl 1 (p :: o) := by rw [ho, encRows, List.map_map]; rfl
                 rw [e]
                 exact frz_row (.here _ _ _) _ rfl
               refine freeze_ 14 (encRows (L.map (partRow X A))) _ (accM b 1 (p :: o)) (show (accM b 1 (p :: o) ++ ([⟨b4, .row 3 [encGrid (resizeE g w' h').1] 0⟩, ⟨b3, .row 3 [encGrid (partG g ⟨X, Y, A, i⟩)] 0⟩, ⟨b2, .row 4 [.agg [.int .i64 X, .int .i64 Y, .int .i64 A, .int .i64 i]] 0⟩, ⟨b1, .row 3 [encGrid g] 0⟩] : Mem)).Perm _ from List.perm_append_comm) hfz ?_
               refine head_ ?_
               (refine g0_ ?_; repeat ((first | refine n1_ fun b_ => ?_ | refine n2_ fun b_ => ?_ | refine Nat1.mk fun q_ hq_ => ?_ | refine em_ fun x_ hx_ => ?_ | refine Elem1.mk fun e_ he_ => ?_); refine g0_ ?_))
               refine ⟨_, hGo, ?_⟩; (refine g0_ ?_; repeat ((first | refine n1_ fun b_ => ?_ | refine n2_ fun b_ => ?_ | refine Nat1.mk fun q_ hq_ => ?_ | refine em_ fun x_ hx_ => ?_ | refine Elem1.mk fun e_ he_ => ?_); refine g0_ ?_))
               refine ⟨_, hsx, ?_⟩; (refine g0_ ?_; repeat ((first | refine n1_ fun b_ => ?_ | refine n2_ fun b_ => ?_ | refine Nat1.mk fun q_ hq_ => ?_ | refine em_ fun x_ hx_ => ?_ | refine Elem1.mk fun e_ he_ => ?_); refine g0_ ?_))
               (refine g1_ ?_; repeat ((first | refine n1_ fun b_ => ?_ | refine n2_ fun b_ => ?_ | refine Nat1.mk fun q_ hq_ => ?_ | refine em_ fun x_ hx_ => ?_ | refine Elem1.mk fun e_ he_ => ?_); refine g1_ ?_))
               (refine g0_ ?_; repeat ((first | refine n1_ fun b_ => ?_ | refine n2_ fun b_ => ?_ | refine Nat1.mk fun q_ hq_ => ?_ | refine em_ fun x_ hx_ => ?_ | refine Elem1.mk fun e_ he_ => ?_); refine g0_ ?_))
               refine (size_ok W w' h').use ?_; (refine g0_ ?_; repeat ((first | refine n1_ fun b_ => ?_ | refine n2_ fun b_ => ?_ | refine Nat1.mk fun q_ hq_ => ?_ | refine em_ fun x_ hx_ => ?_ | refine Elem1.mk fun e_ he_ => ?_); refine g0_ ?_))
               by_cases hs : sizeB w' h' = true
               · have hR : resizeE g w' h' = (layG g (newG w' h') 0 0, 0) := by rw [resizeE, if_neg (by simpa using h1), if_pos hs]
                 have hs' := hs
                 unfold sizeB at hs'
                 simp only [Bool.and_eq_true, decide_eq_true_eq] at hs'
                 obtain ⟨a, rfl⟩ := Int.eq_ofNat_of_zero_le (show 0 ≤ w' by omega)
                 obtain ⟨b, rfl⟩ := Int.eq_ofNat_of_zero_le (show 0 ≤ h' by omega)
                 obtain ⟨nw, nh, nf⟩ := fit_of (check_new hs)
                 have hng := newGrid_ok W a b (by omega) (by omega) (by omega) (by omega)
                 have hlg := layGrid_ok W g (newG a b) f nf 0 0
                 have hsx := same_refl W (layG g (newG a b) 0 0) (layG_ok f nf hg (newG_ok hs) 0 0)
                 rw [hs, hR]
                 (refine g0_ ?_; repeat ((first | refine n1_ fun b_ => ?_ | refine n2_ fun b_ => ?_ | refine Nat1.mk fun q_ hq_ => ?_ | refine em_ fun x_ hx_ => ?_ | refine Elem1.mk fun e_ he_ => ?_); refine g0_ ?_))
                 refine DrawsZ.old (head_ ?_)
                 (refine g0_ ?_; repeat ((first | refine n1_ fun b_ => ?_ | refine n2_ fun b_ => ?_ | refine Nat1.mk fun q_ hq_ => ?_ | refine em_ fun x_ hx_ => ?_ | refine Elem1.mk fun e_ he_ => ?_); refine g0_ ?_))
                 refine ⟨_, hng, ?_⟩; (refine g0_ ?_; repeat ((first | refine n1_ fun b_ => ?_ | refine n2_ fun b_ => ?_ | refine Nat1.mk fun q_ hq_ => ?_ | refine em_ fun x_ hx_ => ?_ | refine Elem1.mk fun e_ he_ => ?_); refine g0_ ?_))
                 refine ⟨_, hlg, ?_⟩; (refine g0_ ?_; repeat ((first | refine n1_ fun b_ => ?_ | refine n2_ fun b_ => ?_ | refine Nat1.mk fun q_ hq_ => ?_ | refine em_ fun x_ hx_ => ?_ | refine Elem1.mk fun e_ he_ => ?_); refine g0_ ?_))
                 refine ⟨_, hsx, ?_⟩; (refine g0_ ?_; repeat ((first | refine n1_ fun b_ => ?_ | refine n2_ fun b_ => ?_ | refine Nat1.mk fun q_ hq_ => ?_ | refine em_ fun x_ hx_ => ?_ | refine Elem1.mk fun e_ he_ => ?_); refine g0_ ?_))
                 (refine Frz.of_eq ?_; (conv => lhs; whnf))
                 (try rfl)
               · have hR : resizeE g w' h' = (.none, 3) := by rw [resizeE, if_neg (by simpa using h1), if_neg hs]
                 rw [show sizeB w' h' = false by simpa using hs, hR]
                 (refine g0_ ?_; repeat ((first | refine n1_ fun b_ => ?_ | refine n2_ fun b_ => ?_ | refine Nat1.mk fun q_ hq_ => ?_ | refine em_ fun x_ hx_ => ?_ | refine Elem1.mk fun e_ he_ => ?_); refine g0_ ?_))
                 refine (none_no W).use ?_; (refine g0_ ?_; repeat ((first | refine n1_ fun b_ => ?_ | refine n2_ fun b_ => ?_ | refine Nat1.mk fun q_ hq_ => ?_ | refine em_ fun x_ hx_ => ?_ | refine Elem1.mk fun e_ he_ => ?_); refine g0_ ?_))
                 (refine Frz.of_eq ?_; (conv => lhs; whnf))
                 (try rfl)
               )
        · rw [List.length_map] at h3
          obtain ⟨row, hr⟩ : ∃ r, L[i]? = some r := ⟨L[i]'(by omega), List.getElem?_eq_getElem _⟩
          have hrl2 := hLr row (List.mem_of_getElem? hr)
          have hsl : ((row.drop X).take A).length = A := by rw [List.length_take, List.length_drop]; omega
          have hsg : (row.take (X + A)).drop X = (row.drop X).take A := by rw [List.drop_take]; congr 1; omega
          have hmd := GivesRow.pure W (mendR_ok W ((row.drop X).take A) (by intro e; rw [e] at hsl; simp at hsl; omega) (by omega))
          have hol := congrArg List.length ho
          simp only [List.length_map, List.length_cons, List.length_nil, List.length_take] at hol
          (refine g0_ ?_; repeat ((first | refine n1_ fun b_ => ?_ | refine n2_ fun b_ => ?_ | refine Nat1.mk fun q_ hq_ => ?_ | refine em_ fun x_ hx_ => ?_ | refine Elem1.mk fun e_ he_ => ?_); refine g0_ ?_))
          rw [hsg]
          refine (hmd).use ?_; (refine g0_ ?_; repeat ((first | refine n1_ fun b_ => ?_ | refine n2_ fun b_ => ?_ | refine Nat1.mk fun q_ hq_ => ?_ | refine em_ fun x_ hx_ => ?_ | refine Elem1.mk fun e_ he_ => ?_); refine g0_ ?_))
          refine .inl ?_
          (refine g0_ ?_; repeat ((first | refine n1_ fun b_ => ?_ | refine n2_ fun b_ => ?_ | refine Nat1.mk fun q_ hq_ => ?_ | refine em_ fun x_ hx_ => ?_ | refine Elem1.mk fun e_ he_ => ?_); refine g0_ ?_))
          refine nx_ (i + 1, b_, (p :: o) ++ [.sl 4 ((partRow X A row).map encCell)]) ?_ ?_
          · exact ⟨by omega, by rw [take_snoc_of hr, List.map_append, ← ho]; rfl⟩
          · ((try dsimp only); (try simp only [List.length_drop, List.length_take, List.length_append, List.length_cons, List.length_nil, List.length_map] at *); omega)
    · have hE : partE g ⟨rx, ry, rw_, rh⟩ = (.none, 4) := by rw [partE, if_neg (by simpa using h1), if_neg h2]
      unfold inG at h2
      dsimp only at h2
      rw [hgw, hgh] at h2
      rw [encRect]
      dsimp only
      refine Pure.of (acalls_of_vc (DG_ok (by decide)) Tryd.func13 rfl (by decide) (by decide) rfl ?_)
      (refine g0_ ?_; repeat ((first | refine n1_ fun b_ => ?_ | refine n2_ fun b_ => ?_ | refine Nat1.mk fun q_ hq_ => ?_ | refine em_ fun x_ hx_ => ?_ | refine Elem1.mk fun e_ he_ => ?_); refine g0_ ?_))
      refine (part_ok W g hg ⟨rx, ry, rw_, rh⟩ hr').use ?_
      rw [hE]
      (refine g0_ ?_; repeat ((first | refine n1_ fun b_ => ?_ | refine n2_ fun b_ => ?_ | refine Nat1.mk fun q_ hq_ => ?_ | refine em_ fun x_ hx_ => ?_ | refine Elem1.mk fun e_ he_ => ?_); refine g0_ ?_))
      refine (resize_ok W g hg w' h').use ?_
      (refine g0_ ?_; repeat ((first | refine n1_ fun b_ => ?_ | refine n2_ fun b_ => ?_ | refine Nat1.mk fun q_ hq_ => ?_ | refine em_ fun x_ hx_ => ?_ | refine Elem1.mk fun e_ he_ => ?_); refine g0_ ?_))
      refine (checkGrid_ok W g hg).use ?_; (refine g0_ ?_; repeat ((first | refine n1_ fun b_ => ?_ | refine n2_ fun b_ => ?_ | refine Nat1.mk fun q_ hq_ => ?_ | refine em_ fun x_ hx_ => ?_ | refine Elem1.mk fun e_ he_ => ?_); refine g0_ ?_))
      rw [h1]
      (refine g0_ ?_; repeat ((first | refine n1_ fun b_ => ?_ | refine n2_ fun b_ => ?_ | refine Nat1.mk fun q_ hq_ => ?_ | refine em_ fun x_ hx_ => ?_ | refine Elem1.mk fun e_ he_ => ?_); refine g0_ ?_))
      refine (hgr).use ?_; (refine g0_ ?_; repeat ((first | refine n1_ fun b_ => ?_ | refine n2_ fun b_ => ?_ | refine Nat1.mk fun q_ hq_ => ?_ | refine em_ fun x_ hx_ => ?_ | refine Elem1.mk fun e_ he_ => ?_); refine g0_ ?_))
      (refine g1_ ?_; repeat ((first | refine n1_ fun b_ => ?_ | refine n2_ fun b_ => ?_ | refine Nat1.mk fun q_ hq_ => ?_ | refine em_ fun x_ hx_ => ?_ | refine Elem1.mk fun e_ he_ => ?_); refine g1_ ?_))
      by_cases h3 : rx < 0 ∨ ry < 0 ∨ rw_ < 1 ∨ rh < 1 ∨ (w : Int) ≤ rx ∨ (h : Int) ≤ ry
      · (refine g1_ ?_; repeat ((first | refine n1_ fun b_ => ?_ | refine n2_ fun b_ => ?_ | refine Nat1.mk fun q_ hq_ => ?_ | refine em_ fun x_ hx_ => ?_ | refine Elem1.mk fun e_ he_ => ?_); refine g1_ ?_))
        refine (none_no W).use ?_; (refine g0_ ?_; repeat ((first | refine n1_ fun b_ => ?_ | refine n2_ fun b_ => ?_ | refine Nat1.mk fun q_ hq_ => ?_ | refine em_ fun x_ hx_ => ?_ | refine Elem1.mk fun e_ he_ => ?_); refine g0_ ?_))
        (refine g1_ ?_; repeat ((first | refine n1_ fun b_ => ?_ | refine n2_ fun b_ => ?_ | refine Nat1.mk fun q_ hq_ => ?_ | refine em_ fun x_ hx_ => ?_ | refine Elem1.mk fun e_ he_ => ?_); refine g1_ ?_))
        (refine g0_ ?_; repeat ((first | refine n1_ fun b_ => ?_ | refine n2_ fun b_ => ?_ | refine Nat1.mk fun q_ hq_ => ?_ | refine em_ fun x_ hx_ => ?_ | refine Elem1.mk fun e_ he_ => ?_); refine g0_ ?_))
        refine (size_ok W w' h').use ?_; (refine g0_ ?_; repeat ((first | refine n1_ fun b_ => ?_ | refine n2_ fun b_ => ?_ | refine Nat1.mk fun q_ hq_ => ?_ | refine em_ fun x_ hx_ => ?_ | refine Elem1.mk fun e_ he_ => ?_); refine g0_ ?_))
        by_cases hs : sizeB w' h' = true
        · have hR : resizeE g w' h' = (layG g (newG w' h') 0 0, 0) := by rw [resizeE, if_neg (by simpa using h1), if_pos hs]
          have hs' := hs
          unfold sizeB at hs'
          simp only [Bool.and_eq_true, decide_eq_true_eq] at hs'
          obtain ⟨a, rfl⟩ := Int.eq_ofNat_of_zero_le (show 0 ≤ w' by omega)
          obtain ⟨b, rfl⟩ := Int.eq_ofNat_of_zero_le (show 0 ≤ h' by omega)
          obtain ⟨nw, nh, nf⟩ := fit_of (check_new hs)
          have hng := newGrid_ok W a b (by omega) (by omega) (by omega) (by omega)
          have hlg := layGrid_ok W g (newG a b) f nf 0 0
          have hsx := same_refl W (layG g (newG a b) 0 0) (layG_ok f nf hg (newG_ok hs) 0 0)
          rw [hs, hR]
          (refine g0_ ?_; repeat ((first | refine n1_ fun b_ => ?_ | refine n2_ fun b_ => ?_ | refine Nat1.mk fun q_ hq_ => ?_ | refine em_ fun x_ hx_ => ?_ | refine Elem1.mk fun e_ he_ => ?_); refine g0_ ?_))
          refine DrawsZ.old (head_ ?_)
          (refine g0_ ?_; repeat ((first | refine n1_ fun b_ => ?_ | refine n2_ fun b_ => ?_ | refine Nat1.mk fun q_ hq_ => ?_ | refine em_ fun x_ hx_ => ?_ | refine Elem1.mk fun e_ he_ => ?_); refine g0_ ?_))
          refine ⟨_, hng, ?_⟩; (refine g0_ ?_; repeat ((first | refine n1_ fun b_ => ?_ | refine n2_ fun b_ => ?_ | refine Nat1.mk fun q_ hq_ => ?_ | refine em_ fun x_ hx_ => ?_ | refine Elem1.mk fun e_ he_ => ?_); refine g0_ ?_))
          refine ⟨_, hlg, ?_⟩; (refine g0_ ?_; repeat ((first | refine n1_ fun b_ => ?_ | refine n2_ fun b_ => ?_ | refine Nat1.mk fun q_ hq_ => ?_ | refine em_ fun x_ hx_ => ?_ | refine Elem1.mk fun e_ he_ => ?_); refine g0_ ?_))
          refine ⟨_, hsx, ?_⟩; (refine g0_ ?_; repeat ((first | refine n1_ fun b_ => ?_ | refine n2_ fun b_ => ?_ | refine Nat1.mk fun q_ hq_ => ?_ | refine em_ fun x_ hx_ => ?_ | refine Elem1.mk fun e_ he_ => ?_); refine g0_ ?_))
          (refine Frz.of_eq ?_; (conv => lhs; whnf))
          (try rfl)
        · have hR : resizeE g w' h' = (.none, 3) := by rw [resizeE, if_neg (by simpa using h1), if_neg hs]
          rw [show sizeB w' h' = false by simpa using hs, hR]
          (refine g0_ ?_; repeat ((first | refine n1_ fun b_ => ?_ | refine n2_ fun b_ => ?_ | refine Nat1.mk fun q_ hq_ => ?_ | refine em_ fun x_ hx_ => ?_ | refine Elem1.mk fun e_ he_ => ?_); refine g0_ ?_))
          refine (none_no W).use ?_; (refine g0_ ?_; repeat ((first | refine n1_ fun b_ => ?_ | refine n2_ fun b_ => ?_ | refine Nat1.mk fun q_ hq_ => ?_ | refine em_ fun x_ hx_ => ?_ | refine Elem1.mk fun e_ he_ => ?_); refine g0_ ?_))
          (refine Frz.of_eq ?_; (conv => lhs; whnf))
          (try rfl)
      · (refine g1_ ?_; repeat ((first | refine n1_ fun b_ => ?_ | refine n2_ fun b_ => ?_ | refine Nat1.mk fun q_ hq_ => ?_ | refine em_ fun x_ hx_ => ?_ | refine Elem1.mk fun e_ he_ => ?_); refine g1_ ?_))
        refine (none_no W).use ?_; (refine g0_ ?_; repeat ((first | refine n1_ fun b_ => ?_ | refine n2_ fun b_ => ?_ | refine Nat1.mk fun q_ hq_ => ?_ | refine em_ fun x_ hx_ => ?_ | refine Elem1.mk fun e_ he_ => ?_); refine g0_ ?_))
        (refine g1_ ?_; repeat ((first | refine n1_ fun b_ => ?_ | refine n2_ fun b_ => ?_ | refine Nat1.mk fun q_ hq_ => ?_ | refine em_ fun x_ hx_ => ?_ | refine Elem1.mk fun e_ he_ => ?_); refine g1_ ?_))
        (refine g0_ ?_; repeat ((first | refine n1_ fun b_ => ?_ | refine n2_ fun b_ => ?_ | refine Nat1.mk fun q_ hq_ => ?_ | refine em_ fun x_ hx_ => ?_ | refine Elem1.mk fun e_ he_ => ?_); refine g0_ ?_))
        refine (size_ok W w' h').use ?_; (refine g0_ ?_; repeat ((first | refine n1_ fun b_ => ?_ | refine n2_ fun b_ => ?_ | refine Nat1.mk fun q_ hq_ => ?_ | refine em_ fun x_ hx_ => ?_ | refine Elem1.mk fun e_ he_ => ?_); refine g0_ ?_))
        by_cases hs : sizeB w' h' = true
        · have hR : resizeE g w' h' = (layG g (newG w' h') 0 0, 0) := by rw [resizeE, if_neg (by simpa using h1), if_pos hs]
          have hs' := hs
          unfold sizeB at hs'
          simp only [Bool.and_eq_true, decide_eq_true_eq] at hs'
          obtain ⟨a, rfl⟩ := Int.eq_ofNat_of_zero_le (show 0 ≤ w' by omega)
          obtain ⟨b, rfl⟩ := Int.eq_ofNat_of_zero_le (show 0 ≤ h' by omega)
          obtain ⟨nw, nh, nf⟩ := fit_of (check_new hs)
          have hng := newGrid_ok W a b (by omega) (by omega) (by omega) (by omega)
          have hlg := layGrid_ok W g (newG a b) f nf 0 0
          have hsx := same_refl W (layG g (newG a b) 0 0) (layG_ok f nf hg (newG_ok hs) 0 0)
          rw [hs, hR]
          (refine g0_ ?_; repeat ((first | refine n1_ fun b_ => ?_ | refine n2_ fun b_ => ?_ | refine Nat1.mk fun q_ hq_ => ?_ | refine em_ fun x_ hx_ => ?_ | refine Elem1.mk fun e_ he_ => ?_); refine g0_ ?_))
          refine DrawsZ.old (head_ ?_)
          (refine g0_ ?_; repeat ((first | refine n1_ fun b_ => ?_ | refine n2_ fun b_ => ?_ | refine Nat1.mk fun q_ hq_ => ?_ | refine em_ fun x_ hx_ => ?_ | refine Elem1.mk fun e_ he_ => ?_); refine g0_ ?_))
          refine ⟨_, hng, ?_⟩; (refine g0_ ?_; repeat ((first | refine n1_ fun b_ => ?_ | refine n2_ fun b_ => ?_ | refine Nat1.mk fun q_ hq_ => ?_ | refine em_ fun x_ hx_ => ?_ | refine Elem1.mk fun e_ he_ => ?_); refine g0_ ?_))
          refine ⟨_, hlg, ?_⟩; (refine g0_ ?_; repeat ((first | refine n1_ fun b_ => ?_ | refine n2_ fun b_ => ?_ | refine Nat1.mk fun q_ hq_ => ?_ | refine em_ fun x_ hx_ => ?_ | refine Elem1.mk fun e_ he_ => ?_); refine g0_ ?_))
          refine ⟨_, hsx, ?_⟩; (refine g0_ ?_; repeat ((first | refine n1_ fun b_ => ?_ | refine n2_ fun b_ => ?_ | refine Nat1.mk fun q_ hq_ => ?_ | refine em_ fun x_ hx_ => ?_ | refine Elem1.mk fun e_ he_ => ?_); refine g0_ ?_))
          (refine Frz.of_eq ?_; (conv => lhs; whnf))
          (try rfl)
        · have hR : resizeE g w' h' = (.none, 3) := by rw [resizeE, if_neg (by simpa using h1), if_neg hs]
          rw [show sizeB w' h' = false by simpa using hs, hR]
          (refine g0_ ?_; repeat ((first | refine n1_ fun b_ => ?_ | refine n2_ fun b_ => ?_ | refine Nat1.mk fun q_ hq_ => ?_ | refine em_ fun x_ hx_ => ?_ | refine Elem1.mk fun e_ he_ => ?_); refine g0_ ?_))
          refine (none_no W).use ?_; (refine g0_ ?_; repeat ((first | refine n1_ fun b_ => ?_ | refine n2_ fun b_ => ?_ | refine Nat1.mk fun q_ hq_ => ?_ | refine em_ fun x_ hx_ => ?_ | refine Elem1.mk fun e_ he_ => ?_); refine g0_ ?_))
          (refine Frz.of_eq ?_; (conv => lhs; whnf))
          (try rfl)
  · have hE : partE g ⟨rx, ry, rw_, rh⟩ = (.none, checkG g) := by rw [partE, if_pos h1]
    have hR : resizeE g w' h' = (.none, checkG g) := by rw [resizeE, if_pos h1]
    rw [encRect]
    dsimp only
    refine Pure.of (acalls_of_vc (DG_ok (by decide)) Tryd.func13 rfl (by decide) (by decide) rfl ?_)
    (refine g0_ ?_; repeat ((first | refine n1_ fun b_ => ?_ | refine n2_ fun b_ => ?_ | refine Nat1.mk fun q_ hq_ => ?_ | refine em_ fun x_ hx_ => ?_ | refine Elem1.mk fun e_ he_ => ?_); refine g0_ ?_))
    refine (part_ok W g hg ⟨rx, ry, rw_, rh⟩ hr').use ?_
    rw [hE]
    (refine g0_ ?_; repeat ((first | refine n1_ fun b_ => ?_ | refine n2_ fun b_ => ?_ | refine Nat1.mk fun q_ hq_ => ?_ | refine em_ fun x_ hx_ => ?_ | refine Elem1.mk fun e_ he_ => ?_); refine g0_ ?_))
    refine (resize_ok W g hg w' h').use ?_
    (refine g0_ ?_; repeat ((first | refine n1_ fun b_ => ?_ | refine n2_ fun b_ => ?_ | refine Nat1.mk fun q_ hq_ => ?_ | refine em_ fun x_ hx_ => ?_ | refine Elem1.mk fun e_ he_ => ?_); refine g0_ ?_))
    refine (checkGrid_ok W g hg).use ?_; (refine g0_ ?_; repeat ((first | refine n1_ fun b_ => ?_ | refine n2_ fun b_ => ?_ | refine Nat1.mk fun q_ hq_ => ?_ | refine em_ fun x_ hx_ => ?_ | refine Elem1.mk fun e_ he_ => ?_); refine g0_ ?_))
    rw [hR]
    refine (hgr).use ?_; (refine g0_ ?_; repeat ((first | refine n1_ fun b_ => ?_ | refine n2_ fun b_ => ?_ | refine Nat1.mk fun q_ hq_ => ?_ | refine em_ fun x_ hx_ => ?_ | refine Elem1.mk fun e_ he_ => ?_); refine g0_ ?_))
    (refine g1_ ?_; repeat ((first | refine n1_ fun b_ => ?_ | refine n2_ fun b_ => ?_ | refine Nat1.mk fun q_ hq_ => ?_ | refine em_ fun x_ hx_ => ?_ | refine Elem1.mk fun e_ he_ => ?_); refine g1_ ?_))
    refine (hgr).use ?_; (refine g0_ ?_; repeat ((first | refine n1_ fun b_ => ?_ | refine n2_ fun b_ => ?_ | refine Nat1.mk fun q_ hq_ => ?_ | refine em_ fun x_ hx_ => ?_ | refine Elem1.mk fun e_ he_ => ?_); refine g0_ ?_))
    (refine g1_ ?_; repeat ((first | refine n1_ fun b_ => ?_ | refine n2_ fun b_ => ?_ | refine Nat1.mk fun q_ hq_ => ?_ | refine em_ fun x_ hx_ => ?_ | refine Elem1.mk fun e_ he_ => ?_); refine g1_ ?_))
    refine (none_no W).use ?_; (refine g0_ ?_; repeat ((first | refine n1_ fun b_ => ?_ | refine n2_ fun b_ => ?_ | refine Nat1.mk fun q_ hq_ => ?_ | refine em_ fun x_ hx_ => ?_ | refine Elem1.mk fun e_ he_ => ?_); refine g0_ ?_))
    refine (none_no W).use ?_; (refine g0_ ?_; repeat ((first | refine n1_ fun b_ => ?_ | refine n2_ fun b_ => ?_ | refine Nat1.mk fun q_ hq_ => ?_ | refine em_ fun x_ hx_ => ?_ | refine Elem1.mk fun e_ he_ => ?_); refine g0_ ?_))
    (refine Frz.of_eq ?_; (conv => lhs; whnf))
    (try rfl)
end Go.Eng.YtlfdmdhkbillpaaDoor
end
