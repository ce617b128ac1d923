/- Texts put together: Spl17, Spl18, Spl19. -/
import Derived.Test.YtkbfojigbbokcaaMSB
import Derived.Test.YtkbfojigbbokcaaMSD
/- Splits: a copy of the call's own (b_ x_ q_ e_). -/
section
namespace Go.Eng.Ytkbfojigbbokcaa
open Go Go.Eng Go.Proofs
variable (W : World)
set_option linter.unusedSimpArgs false
set_option maxRecDepth 100000
set_option linter.unusedVariables false
set_option maxHeartbeats 4000000
def splsV (l : List Spl) : List PV := l.map encSpl
theorem spls_all (l : List Spl) : (splsV l).all cellsB = true := by
  rw [List.all_eq_true]
  intro v hv
  obtain ⟨⟨w, p, s, ks⟩, -, rfl⟩ := List.mem_map.1 hv
  rw [encSpl_mk]
  simp [cellsB, PV.flat, cellB]
theorem ownSplit_ok (t : Spl) : t.ok → Pure Try.prog W 13 [encSpl t] (encSpl t) := by
  induction t using spl_induct with
  | h w p s ks ih =>
    intro ht
    obtain ⟨o1, o2, o3, o4, hks⟩ := spl_ok.1 ht
    have hkl : (ks.map encSpl).length = ks.length := List.length_map _
    rw [encSpl_mk]
    refine Pure.of (acalls_of_vc (drawOk W) Try.func13 rfl (by decide) (by decide) rfl ?_)
    (refine g0_ ?_; repeat ((first | refine n1_ fun b_ => ?_ | refine n2_ fun b_ => ?_ | refine Nat1.mk fun q_ hq_ => ?_ | refine em_ fun x_ hx_ => ?_ | refine Elem1.mk fun e_ he_ => ?_); refine g0_ ?_))
    rename_i bT
    revert b_
    intro bR
    refine' loopI (α := Nat × Nat × (List Spl)) (fun (i, b', l) => [(11, .int .i64 i)]) [(1, _), (2, _), (9, _), (10, _)] (fun (i, b', l) => ⟨bR, .row 4 [.agg [.int .i64 0, .int .i64 0, .int .i64 0, .nils]] 0⟩ :: ⟨bT, .row 4 [.agg [.int .i64 w, .int .i64 p, .int .i64 s, accV b' 4 (splsV l)]] 0⟩ :: accM b' 4 (splsV l)) (fun (i, b', l) => i ≤ ks.length ∧ l = ks.take i) (fun (i, b', l) => ks.length - i) (0, 0, []) ?_ ?_
    · exact ⟨Nat.zero_le _, rfl⟩
    rintro ⟨i, b', l⟩ ⟨hi, hl⟩
    rcases l with _ | ⟨l0, l⟩
    · (refine g0_ ?_; repeat ((first | refine n1_ fun b_ => ?_ | refine n2_ fun b_ => ?_ | refine Nat1.mk fun q_ hq_ => ?_ | refine em_ fun x_ hx_ => ?_ | refine Elem1.mk fun e_ he_ => ?_); refine g0_ ?_))
      refine brec ?_; intro c_ hlt; (try rw [hlt]); cases c_ <;> replace hlt := nm_ hlt
      · have : i = ks.length := by omega
        subst this
        rw [List.take_length] at hl
        (refine g0_ ?_; repeat ((first | refine n1_ fun b_ => ?_ | refine n2_ fun b_ => ?_ | refine Nat1.mk fun q_ hq_ => ?_ | refine em_ fun x_ hx_ => ?_ | refine Elem1.mk fun e_ he_ => ?_); refine g0_ ?_))
        rw [← hl]
        refine .agg _ _ rfl fun j hj => ?_
        match j, hj with
        | 0, _ => exact .refl _
        | 1, _ => exact .refl _
        | 2, _ => exact .refl _
        | 3, _ => exact .nils 4
      · have hil : i < ks.length := by omega
        have hee := congrArg List.length hl
        simp only [List.length_cons, List.length_nil, List.length_take] at hee
        (refine g0_ ?_; repeat ((first | refine n1_ fun b_ => ?_ | refine n2_ fun b_ => ?_ | refine Nat1.mk fun q_ hq_ => ?_ | refine em_ fun x_ hx_ => ?_ | refine Elem1.mk fun e_ he_ => ?_); refine g0_ ?_))
        have hcl := ih x_ (List.mem_of_getElem? hx_) (hks _ (List.mem_of_getElem? hx_))
        have hnx : ks.take (i + 1) = [] ++ [x_] := by rw [take_snoc_of hx_, ← hl]
        obtain ⟨w2, p2, s2, ks2⟩ := x_
        have e2 := encSpl_mk w2 p2 s2 ks2
        rw [e2] at hcl ⊢
        (refine g0_ ?_; repeat ((first | refine n1_ fun b_ => ?_ | refine n2_ fun b_ => ?_ | refine Nat1.mk fun q_ hq_ => ?_ | refine em_ fun x_ hx_ => ?_ | refine Elem1.mk fun e_ he_ => ?_); refine g0_ ?_))
        refine head_ ?_; (refine g0_ ?_; repeat ((first | refine n1_ fun b_ => ?_ | refine n2_ fun b_ => ?_ | refine Nat1.mk fun q_ hq_ => ?_ | refine em_ fun x_ hx_ => ?_ | refine Elem1.mk fun e_ he_ => ?_); refine g0_ ?_))
        refine ⟨_, (hcl).quiet, ?_⟩; (refine g0_ ?_; repeat ((first | refine n1_ fun b_ => ?_ | refine n2_ fun b_ => ?_ | refine Nat1.mk fun q_ hq_ => ?_ | refine em_ fun x_ hx_ => ?_ | refine Elem1.mk fun e_ he_ => ?_); refine g0_ ?_))
        rw [← e2]
        try rw [show ∀ v : PV, (List.map encSpl l).length + 1 + [v].length = (List.map encSpl (l ++ [.mk w2 p2 s2 ks2])).length + 1 from fun v => by simp]
        try rw [show (encSpl l0 :: List.map encSpl l) ++ [encSpl (.mk w2 p2 s2 ks2)] = splsV (l0 :: l ++ [.mk w2 p2 s2 ks2]) from by simp [splsV]]
        refine nx_ (i + 1, b_, [] ++ [.mk w2 p2 s2 ks2]) ?_ ?_
        · exact ⟨hil, hnx.symm⟩
        · ((try dsimp only); (try simp only [List.length_drop, List.length_take, List.length_append, List.length_cons, List.length_nil, List.length_map] at *); omega)
    · (refine g0_ ?_; repeat ((first | refine n1_ fun b_ => ?_ | refine n2_ fun b_ => ?_ | refine Nat1.mk fun q_ hq_ => ?_ | refine em_ fun x_ hx_ => ?_ | refine Elem1.mk fun e_ he_ => ?_); refine g0_ ?_))
      refine brec ?_; intro c_ hlt; (try rw [hlt]); cases c_ <;> replace hlt := nm_ hlt
      · have : i = ks.length := by omega
        subst this
        rw [List.take_length] at hl
        (refine g0_ ?_; repeat ((first | refine n1_ fun b_ => ?_ | refine n2_ fun b_ => ?_ | refine Nat1.mk fun q_ hq_ => ?_ | refine em_ fun x_ hx_ => ?_ | refine Elem1.mk fun e_ he_ => ?_); refine g0_ ?_))
        rw [← hl]
        refine .agg _ _ rfl fun j hj => ?_
        match j, hj with
        | 0, _ => exact .refl _
        | 1, _ => exact .refl _
        | 2, _ => exact .refl _
        | 3, _ => exact frz_row (l := splsV (l0 :: l)) (.there _ _ _ _ _ (.there _ _ _ _ _ (.here _ _ _))) _ rfl
      · have hil : i < ks.length := by omega
        have hee := congrArg List.length hl
        simp only [List.length_cons, List.length_nil, List.length_take] at hee
        (refine g0_ ?_; repeat ((first | refine n1_ fun b_ => ?_ | refine n2_ fun b_ => ?_ | refine Nat1.mk fun q_ hq_ => ?_ | refine em_ fun x_ hx_ => ?_ | refine Elem1.mk fun e_ he_ => ?_); refine g0_ ?_))
        have hcl := ih x_ (List.mem_of_getElem? hx_) (hks _ (List.mem_of_getElem? hx_))
        have hnx : ks.take (i + 1) = (l0 :: l) ++ [x_] := by rw [take_snoc_of hx_, ← hl]
        obtain ⟨w2, p2, s2, ks2⟩ := x_
        have e2 := encSpl_mk w2 p2 s2 ks2
        rw [e2] at hcl ⊢
        (refine g0_ ?_; repeat ((first | refine n1_ fun b_ => ?_ | refine n2_ fun b_ => ?_ | refine Nat1.mk fun q_ hq_ => ?_ | refine em_ fun x_ hx_ => ?_ | refine Elem1.mk fun e_ he_ => ?_); refine g0_ ?_))
        refine head_ ?_; (refine g0_ ?_; repeat ((first | refine n1_ fun b_ => ?_ | refine n2_ fun b_ => ?_ | refine Nat1.mk fun q_ hq_ => ?_ | refine em_ fun x_ hx_ => ?_ | refine Elem1.mk fun e_ he_ => ?_); refine g0_ ?_))
        refine ⟨_, (hcl).quiet, ?_⟩; (refine g0_ ?_; repeat ((first | refine n1_ fun b_ => ?_ | refine n2_ fun b_ => ?_ | refine Nat1.mk fun q_ hq_ => ?_ | refine em_ fun x_ hx_ => ?_ | refine Elem1.mk fun e_ he_ => ?_); refine g0_ ?_))
        rw [← e2]
        try rw [show ∀ v : PV, (List.map encSpl l).length + 1 + [v].length = (List.map encSpl (l ++ [.mk w2 p2 s2 ks2])).length + 1 from fun v => by simp]
        try rw [show (encSpl l0 :: List.map encSpl l) ++ [encSpl (.mk w2 p2 s2 ks2)] = splsV (l0 :: l ++ [.mk w2 p2 s2 ks2]) from by simp [splsV]]
        refine nx_ (i + 1, b_, (l0 :: l) ++ [.mk w2 p2 s2 ks2]) ?_ ?_
        · exact ⟨hil, hnx.symm⟩
        · ((try dsimp only); (try simp only [List.length_drop, List.length_take, List.length_append, List.length_cons, List.length_nil, List.length_map] at *); omega)
end Go.Eng.Ytkbfojigbbokcaa
end

/- Splits: least cells, as told and as the document has them (b_ x_ q_ e_). -/
section
namespace Go.Eng.Ytkbfojigbbokcaa
open Go Go.Eng Go.Proofs
variable (W : World)
set_option linter.unusedSimpArgs false
set_option maxRecDepth 100000
set_option linter.unusedVariables false
set_option maxHeartbeats 4000000
def leastR (t : Spl) : Int × Int × Int := if (visS t 0 (0, [])).1 ≠ 0 then (0, 0, (visS t 0 (0, [])).1) else ((leastT t).1, (leastT t).2, 0)
theorem leastR_ok (t : Spl) (ht : t.ok) : Pure Try.prog W 14 [encSpl t] (.tup [.int .i64 (leastR t).1, .int .i64 (leastR t).2.1, .int .i64 (leastR t).2.2]) := by
  have hc := checkS_ok W t ht
  have hr := @vis_right t
  have hls := fun h0 => least_ok W t 0 (hr h0).1 (hr h0).2.2.1
  unfold leastR
  generalize visS t 0 (0, []) = st at *
  generalize leastT t = ab at *
  obtain ⟨w', p, s, ks⟩ := t
  rw [encSpl_mk] at hc hls ⊢
  by_cases h0 : st.1 = 0
  · rw [if_neg (by simpa using h0)]
    have hls := hls h0
    refine Pure.of (acalls_of_vc (drawOk W) Try.func14 rfl (by decide) (by decide) rfl ?_)
    (refine g0_ ?_; repeat ((first | refine n1_ fun b_ => ?_ | refine n2_ fun b_ => ?_ | refine Nat1.mk fun q_ hq_ => ?_ | refine em_ fun x_ hx_ => ?_ | refine Elem1.mk fun e_ he_ => ?_); refine g0_ ?_))
    refine (hc).use ?_; (refine g0_ ?_; repeat ((first | refine n1_ fun b_ => ?_ | refine n2_ fun b_ => ?_ | refine Nat1.mk fun q_ hq_ => ?_ | refine em_ fun x_ hx_ => ?_ | refine Elem1.mk fun e_ he_ => ?_); refine g0_ ?_))
    (refine g1_ ?_; repeat ((first | refine n1_ fun b_ => ?_ | refine n2_ fun b_ => ?_ | refine Nat1.mk fun q_ hq_ => ?_ | refine em_ fun x_ hx_ => ?_ | refine Elem1.mk fun e_ he_ => ?_); refine g1_ ?_))
    refine (hls).use ?_; (refine g0_ ?_; repeat ((first | refine n1_ fun b_ => ?_ | refine n2_ fun b_ => ?_ | refine Nat1.mk fun q_ hq_ => ?_ | refine em_ fun x_ hx_ => ?_ | refine Elem1.mk fun e_ he_ => ?_); refine g0_ ?_))
    exact .refl _
  · rw [if_pos h0]
    refine Pure.of (acalls_of_vc (drawOk W) Try.func14 rfl (by decide) (by decide) rfl ?_)
    (refine g0_ ?_; repeat ((first | refine n1_ fun b_ => ?_ | refine n2_ fun b_ => ?_ | refine Nat1.mk fun q_ hq_ => ?_ | refine em_ fun x_ hx_ => ?_ | refine Elem1.mk fun e_ he_ => ?_); refine g0_ ?_))
    refine (hc).use ?_; (refine g0_ ?_; repeat ((first | refine n1_ fun b_ => ?_ | refine n2_ fun b_ => ?_ | refine Nat1.mk fun q_ hq_ => ?_ | refine em_ fun x_ hx_ => ?_ | refine Elem1.mk fun e_ he_ => ?_); refine g0_ ?_))
    (refine g1_ ?_; repeat ((first | refine n1_ fun b_ => ?_ | refine n2_ fun b_ => ?_ | refine Nat1.mk fun q_ hq_ => ?_ | refine em_ fun x_ hx_ => ?_ | refine Elem1.mk fun e_ he_ => ?_); refine g1_ ?_))
    exact .refl _
def acrossF (w : Int) (c : Int) (l : List Spl) : Int := l.foldl (fun a k => max a (acrossT w (leastT k))) c
theorem step_across (w : Int) (acc : Int × Int) (i : Nat) (ab : Int × Int) (hw : w = 1 ∨ w = 2) : acrossT w (stepW w acc i ab) = max (acrossT w acc) (acrossT w ab) := by
  unfold acrossT stepW
  rcases hw with rfl | rfl
  · simp
  · simp
theorem leastTs_across {w : Int} (hw : w = 1 ∨ w = 2) : ∀ (l : List Spl) (i : Nat) (acc : Int × Int), acrossT w (leastTs w l i acc) = acrossF w (acrossT w acc) l
  | [], i, acc => by rw [leastTs]; rfl
  | k :: l, i, acc => by rw [leastTs, leastTs_across hw l, step_across w acc i _ hw]; rfl
theorem least_two {w p s : Int} {ks : List Spl} (hw : w = 1 ∨ w = 2) (hne : ks ≠ []) : leastT (.mk w p s ks) = if w = 2 then (acrossF w 0 ks, sumL (ks.map (needK w)) + (ks.length - 1)) else (sumL (ks.map (needK w)) + (ks.length - 1), acrossF w 0 ks) := by
  have h1 := (least_sum (p := p) (s := s) hw hne).1
  have h2 := leastTs_across hw ks 0 (0, 0)
  rw [show acrossT w (0, 0) = 0 by unfold acrossT; split <;> rfl] at h2
  have h3 : acrossT w (leastT (.mk w p s ks)) = acrossF w 0 ks := by rw [leastT_mk, if_neg (by omega)]; exact h2
  unfold alongT at h1
  unfold acrossT at h3
  split <;> rename_i h
  · rw [if_pos h] at h1 h3
    exact Prod.ext h3 h1
  · rw [if_neg h] at h1 h3
    exact Prod.ext h1 h3
theorem needs_nonneg {w : Int} : ∀ {l : List Spl}, (∀ k ∈ l, 1 ≤ needK w k) → 0 ≤ sumL (l.map (needK w))
  | [], _ => by simp [sumL]
  | k :: l, h => by
    have h1 := h k (by simp)
    have h2 := needs_nonneg (l := l) fun x hx => h x (List.mem_cons_of_mem _ hx)
    simp only [sumL, List.map_cons, List.foldr_cons] at *
    omega
theorem leastOf_ok (t : Spl) : ∀ way, t.right way → (panesT t).length ≤ 12 → Pure Try.prog W 17 [encSpl t] (.tup [.int .i64 (leastT t).1, .int .i64 (leastT t).2]) := by
  induction t using spl_induct with
  | h w p s ks ih =>
    intro way hr hn
    have hlb := least_B _ way hr
    have hkl : (ks.map encSpl).length = ks.length := List.length_map _
    rw [right_mk] at hr
    rw [panesT_mk] at hn hlb
    rcases hr.2 with ⟨h0, hk, -⟩ | ⟨hw, -, hk2, -, hkr⟩
    · subst h0 hk
      rw [leastT_mk, encSpl_mk]
      refine Pure.of (acalls_of_vc (drawOk W) Try.func17 rfl (by decide) (by decide) rfl ?_)
      (refine g0_ ?_; repeat ((first | refine n1_ fun b_ => ?_ | refine n2_ fun b_ => ?_ | refine Nat1.mk fun q_ hq_ => ?_ | refine em_ fun x_ hx_ => ?_ | refine Elem1.mk fun e_ he_ => ?_); refine g0_ ?_))
      exact .refl _
    · have hw0 : ¬ w = 0 := by omega
      have hne : ks ≠ [] := by rintro rfl; simp at hk2
      rw [least_two hw hne] at hlb ⊢
      rw [if_neg hw0] at hn hlb
      rw [encSpl_mk]
      have hkp := kids_panes hkr
      generalize hA : sumL (ks.map (needK w)) + ((ks.length : Int) - 1) = A at *
      generalize hC : acrossF w 0 ks = C at *
      rcases hw with rfl | rfl
      · rw [if_neg (by decide)] at hlb ⊢
        refine Pure.of (acalls_of_vc (drawOk W) Try.func17 rfl (by decide) (by decide) rfl ?_)
        (refine g0_ ?_; repeat ((first | refine n1_ fun b_ => ?_ | refine n2_ fun b_ => ?_ | refine Nat1.mk fun q_ hq_ => ?_ | refine em_ fun x_ hx_ => ?_ | refine Elem1.mk fun e_ he_ => ?_); refine g0_ ?_))
        revert b_
        intro bX
        (refine g1_ ?_; repeat ((first | refine n1_ fun b_ => ?_ | refine n2_ fun b_ => ?_ | refine Nat1.mk fun q_ hq_ => ?_ | refine em_ fun x_ hx_ => ?_ | refine Elem1.mk fun e_ he_ => ?_); refine g1_ ?_))
        refine' loopI (α := Nat × Int × Int) (fun (i, a, c) => [(20, .int .i64 i), (4, .int .i64 a), (5, .int .i64 c)]) [(1, _), (18, _), (19, _)] (fun (i, a, c) => [⟨bX, .row 4 [.agg [.int .i64 1, .int .i64 p, .int .i64 s, .sl 4 (ks.map encSpl)]] 0⟩]) (fun (i, a, c) => i ≤ ks.length ∧ a + sumL ((ks.drop i).map (needK 1)) = A ∧ acrossF 1 c (ks.drop i) = C ∧ 0 ≤ a) (fun (i, a, c) => ks.length - i) (0, ((ks.map encSpl).length : Int) - 1, 0) ?_ ?_
        · exact ⟨Nat.zero_le _, by rw [hkl]; simp only [List.drop_zero]; omega, hC, by rw [hkl]; omega⟩
        rintro ⟨i, a, c⟩ ⟨hi, ha, hc, ha0⟩
        (refine g0_ ?_; repeat ((first | refine n1_ fun b_ => ?_ | refine n2_ fun b_ => ?_ | refine Nat1.mk fun q_ hq_ => ?_ | refine em_ fun x_ hx_ => ?_ | refine Elem1.mk fun e_ he_ => ?_); refine g0_ ?_))
        refine brec ?_; intro c_ hlt; (try rw [hlt]); cases c_ <;> replace hlt := nm_ hlt
        · have : i = ks.length := by omega
          subst this
          rw [List.drop_length] at ha hc
          simp only [acrossF, List.foldl_nil, List.map_nil, sumL, List.foldr_nil] at ha hc
          have ha' : a = A := by omega
          subst ha' hc
          (refine g0_ ?_; repeat ((first | refine n1_ fun b_ => ?_ | refine n2_ fun b_ => ?_ | refine Nat1.mk fun q_ hq_ => ?_ | refine em_ fun x_ hx_ => ?_ | refine Elem1.mk fun e_ he_ => ?_); refine g0_ ?_))
          exact .refl _
        · have hil : i < ks.length := by omega
          (refine g0_ ?_; repeat ((first | refine n1_ fun b_ => ?_ | refine n2_ fun b_ => ?_ | refine Nat1.mk fun q_ hq_ => ?_ | refine em_ fun x_ hx_ => ?_ | refine Elem1.mk fun e_ he_ => ?_); refine g0_ ?_))
          have hm := List.mem_of_getElem? hx_
          have hkp2 := kid_panes hm
          have hcl := ih x_ hm 1 (hkr _ hm) (by omega)
          have hkb := least_B x_ 1 (hkr _ hm)
          have hkb2 := need_bd (w := 1) (hkr _ hm) (Nat.le_trans hkp2 hn)
          have hdk : ks.drop i = x_ :: ks.drop (i + 1) := by rw [List.drop_eq_getElem_cons hil, (List.getElem?_eq_some_iff.1 hx_).2]
          have hrest := needs_nonneg (w := 1) (l := ks.drop (i + 1)) fun k hk => (need_bd (hkr k (List.mem_of_mem_drop hk)) (Nat.le_trans (kid_panes (List.mem_of_mem_drop hk)) hn)).1
          rw [hdk] at ha hc
          have en : needK 1 x_ = (leastT x_).1 := rfl
          have em : acrossT 1 (leastT x_) = (leastT x_).2 := rfl
          rw [acrossF, List.foldl_cons, em] at hc
          rw [List.map_cons, sumL, List.foldr_cons, en] at ha
          rw [en] at hkb2
          change a + ((leastT x_).1 + sumL ((ks.drop (i + 1)).map (needK 1))) = A at ha
          change acrossF 1 (max c (leastT x_).2) (ks.drop (i + 1)) = C at hc
          clear en em
          generalize leastT x_ = ab at *
          obtain ⟨w2, p2, s2, ks2⟩ := x_
          rw [encSpl_mk] at hcl ⊢
          (refine g0_ ?_; repeat ((first | refine n1_ fun b_ => ?_ | refine n2_ fun b_ => ?_ | refine Nat1.mk fun q_ hq_ => ?_ | refine em_ fun x_ hx_ => ?_ | refine Elem1.mk fun e_ he_ => ?_); refine g0_ ?_))
          refine (hcl).use ?_; (refine g0_ ?_; repeat ((first | refine n1_ fun b_ => ?_ | refine n2_ fun b_ => ?_ | refine Nat1.mk fun q_ hq_ => ?_ | refine em_ fun x_ hx_ => ?_ | refine Elem1.mk fun e_ he_ => ?_); refine g0_ ?_))
          (refine g1_ ?_; repeat ((first | refine n1_ fun b_ => ?_ | refine n2_ fun b_ => ?_ | refine Nat1.mk fun q_ hq_ => ?_ | refine em_ fun x_ hx_ => ?_ | refine Elem1.mk fun e_ he_ => ?_); refine g1_ ?_))
          refine nx_ (i + 1, a + ab.1, max c ab.2) ?_ ?_
          · exact ⟨hil, by omega, hc, by omega⟩
          · ((try dsimp only); (try simp only [List.length_drop, List.length_take, List.length_append, List.length_cons, List.length_nil, List.length_map] at *); omega)
      · rw [if_pos rfl] at hlb ⊢
        refine Pure.of (acalls_of_vc (drawOk W) Try.func17 rfl (by decide) (by decide) rfl ?_)
        (refine g0_ ?_; repeat ((first | refine n1_ fun b_ => ?_ | refine n2_ fun b_ => ?_ | refine Nat1.mk fun q_ hq_ => ?_ | refine em_ fun x_ hx_ => ?_ | refine Elem1.mk fun e_ he_ => ?_); refine g0_ ?_))
        revert b_
        intro bX
        (refine g1_ ?_; repeat ((first | refine n1_ fun b_ => ?_ | refine n2_ fun b_ => ?_ | refine Nat1.mk fun q_ hq_ => ?_ | refine em_ fun x_ hx_ => ?_ | refine Elem1.mk fun e_ he_ => ?_); refine g1_ ?_))
        refine' loopI (α := Nat × Int × Int) (fun (i, a, c) => [(20, .int .i64 i), (4, .int .i64 a), (5, .int .i64 c)]) [(1, _), (18, _), (19, _)] (fun (i, a, c) => [⟨bX, .row 4 [.agg [.int .i64 2, .int .i64 p, .int .i64 s, .sl 4 (ks.map encSpl)]] 0⟩]) (fun (i, a, c) => i ≤ ks.length ∧ a + sumL ((ks.drop i).map (needK 2)) = A ∧ acrossF 2 c (ks.drop i) = C ∧ 0 ≤ a) (fun (i, a, c) => ks.length - i) (0, ((ks.map encSpl).length : Int) - 1, 0) ?_ ?_
        · exact ⟨Nat.zero_le _, by rw [hkl]; simp only [List.drop_zero]; omega, hC, by rw [hkl]; omega⟩
        rintro ⟨i, a, c⟩ ⟨hi, ha, hc, ha0⟩
        (refine g0_ ?_; repeat ((first | refine n1_ fun b_ => ?_ | refine n2_ fun b_ => ?_ | refine Nat1.mk fun q_ hq_ => ?_ | refine em_ fun x_ hx_ => ?_ | refine Elem1.mk fun e_ he_ => ?_); refine g0_ ?_))
        refine brec ?_; intro c_ hlt; (try rw [hlt]); cases c_ <;> replace hlt := nm_ hlt
        · have : i = ks.length := by omega
          subst this
          rw [List.drop_length] at ha hc
          simp only [acrossF, List.foldl_nil, List.map_nil, sumL, List.foldr_nil] at ha hc
          have ha' : a = A := by omega
          subst ha' hc
          (refine g0_ ?_; repeat ((first | refine n1_ fun b_ => ?_ | refine n2_ fun b_ => ?_ | refine Nat1.mk fun q_ hq_ => ?_ | refine em_ fun x_ hx_ => ?_ | refine Elem1.mk fun e_ he_ => ?_); refine g0_ ?_))
          exact .refl _
        · have hil : i < ks.length := by omega
          (refine g0_ ?_; repeat ((first | refine n1_ fun b_ => ?_ | refine n2_ fun b_ => ?_ | refine Nat1.mk fun q_ hq_ => ?_ | refine em_ fun x_ hx_ => ?_ | refine Elem1.mk fun e_ he_ => ?_); refine g0_ ?_))
          have hm := List.mem_of_getElem? hx_
          have hkp2 := kid_panes hm
          have hcl := ih x_ hm 2 (hkr _ hm) (by omega)
          have hkb := least_B x_ 2 (hkr _ hm)
          have hkb2 := need_bd (w := 2) (hkr _ hm) (Nat.le_trans hkp2 hn)
          have hdk : ks.drop i = x_ :: ks.drop (i + 1) := by rw [List.drop_eq_getElem_cons hil, (List.getElem?_eq_some_iff.1 hx_).2]
          have hrest := needs_nonneg (w := 2) (l := ks.drop (i + 1)) fun k hk => (need_bd (hkr k (List.mem_of_mem_drop hk)) (Nat.le_trans (kid_panes (List.mem_of_mem_drop hk)) hn)).1
          rw [hdk] at ha hc
          have en : needK 2 x_ = (leastT x_).2 := rfl
          have em : acrossT 2 (leastT x_) = (leastT x_).1 := rfl
          rw [acrossF, List.foldl_cons, em] at hc
          rw [List.map_cons, sumL, List.foldr_cons, en] at ha
          rw [en] at hkb2
          change a + ((leastT x_).2 + sumL ((ks.drop (i + 1)).map (needK 2))) = A at ha
          change acrossF 2 (max c (leastT x_).1) (ks.drop (i + 1)) = C at hc
          clear en em
          generalize leastT x_ = ab at *
          obtain ⟨w2, p2, s2, ks2⟩ := x_
          rw [encSpl_mk] at hcl ⊢
          (refine g0_ ?_; repeat ((first | refine n1_ fun b_ => ?_ | refine n2_ fun b_ => ?_ | refine Nat1.mk fun q_ hq_ => ?_ | refine em_ fun x_ hx_ => ?_ | refine Elem1.mk fun e_ he_ => ?_); refine g0_ ?_))
          refine (hcl).use ?_; (refine g0_ ?_; repeat ((first | refine n1_ fun b_ => ?_ | refine n2_ fun b_ => ?_ | refine Nat1.mk fun q_ hq_ => ?_ | refine em_ fun x_ hx_ => ?_ | refine Elem1.mk fun e_ he_ => ?_); refine g0_ ?_))
          (refine g1_ ?_; repeat ((first | refine n1_ fun b_ => ?_ | refine n2_ fun b_ => ?_ | refine Nat1.mk fun q_ hq_ => ?_ | refine em_ fun x_ hx_ => ?_ | refine Elem1.mk fun e_ he_ => ?_); refine g1_ ?_))
          refine nx_ (i + 1, a + ab.2, max c ab.1) ?_ ?_
          · exact ⟨hil, by omega, hc, by omega⟩
          · ((try dsimp only); (try simp only [List.length_drop, List.length_take, List.length_append, List.length_cons, List.length_nil, List.length_map] at *); omega)
end Go.Eng.Ytkbfojigbbokcaa
end

/- Splits: the document's LayOut (b_ x_ q_ e_). -/
section
namespace Go.Eng.Ytkbfojigbbokcaa
open Go Go.Eng Go.Proofs
variable (W : World)
set_option linter.unusedSimpArgs false
set_option maxRecDepth 100000
set_option linter.unusedVariables false
set_option maxHeartbeats 4000000
theorem layOut_ok (t : Spl) : ∀ way, t.right way → (panesT t).length ≤ 12 → ∀ x y wd hg : Int, (leastT t).1 ≤ wd → (leastT t).2 ≤ hg → 0 ≤ x → 0 ≤ y → x + wd ≤ 300 → y + hg ≤ 300 →
    Pure Try.prog W 21 [encSpl t, .agg [.int .i64 x, .int .i64 y, .int .i64 wd, .int .i64 hg]] (.sl 5 (plcsV (layT t x y wd hg))) := by
  induction t using spl_induct with
  | h w p s ks ih =>
    intro way hr hn x y wd hg hlw hlh hx hy hxw hyh
    have hkl : (ks.map encSpl).length = ks.length := List.length_map _
    have hr0 := hr
    rw [right_mk] at hr
    have hll := layT_len (.mk w p s ks) way hr0 x y wd hg
    have hlb := least_B (.mk w p s ks) way hr0
    have hlt0 := leastOf_ok W _ way hr0 hn
    rw [panesT_mk] at hn hll
    rw [layT_mk] at hll ⊢
    rcases hr.2 with ⟨h0, hk, -⟩ | ⟨hw, -, hk2, -, hkr⟩
    · subst h0 hk
      rw [encSpl_mk]
      refine Pure.of (acalls_of_vc (drawOk W) Try.func21 rfl (by decide) (by decide) rfl ?_)
      (refine g0_ ?_; repeat ((first | refine n1_ fun b_ => ?_ | refine n2_ fun b_ => ?_ | refine Nat1.mk fun q_ hq_ => ?_ | refine em_ fun x_ hx_ => ?_ | refine Elem1.mk fun e_ he_ => ?_); refine g0_ ?_))
      refine .inl ?_
      (refine g0_ ?_; repeat ((first | refine n1_ fun b_ => ?_ | refine n2_ fun b_ => ?_ | refine Nat1.mk fun q_ hq_ => ?_ | refine em_ fun x_ hx_ => ?_ | refine Elem1.mk fun e_ he_ => ?_); refine g0_ ?_))
      exact .refl _
    · have hw0 : ¬ w = 0 := by omega
      rw [if_neg hw0] at hn ⊢
      rw [if_neg hw0, if_neg hw0] at hll
      have hkp := kids_panes hkr
      have hne : ks ≠ [] := by rintro rfl; simp at hk2
      obtain ⟨hs1, hs2⟩ := least_sum (p := p) (s := s) hw hne
      generalize hall : (if w = 2 then hg else wd) = all at *
      have hal : alongT w (leastT (.mk w p s ks)) ≤ all := by unfold alongT; rw [← hall]; split <;> assumption
      have hab : all ≤ 300 ∧ 1 ≤ all := by rw [← hall]; split <;> omega
      have hrs : all - alongT w (leastT (.mk w p s ks)) = restS w ks all := by unfold restS; omega
      have hrest : 0 ≤ restS w ks all := by omega
      obtain ⟨he1, he2⟩ := shares_enough hrest hne fun k hk => (size_bd (hkr k hk)).1
      have hsz : 1 ≤ sizesS ks := by
        have := (sumL_bd (a := 1) (b := 9999) (l := ks.map Spl.size) fun v hv => by
          obtain ⟨k, hk, rfl⟩ := List.mem_map.1 hv
          exact size_bd (hkr k hk)).1
        rw [List.length_map] at this
        unfold sizesS; omega
      have hszd : sharesT w ks all = sharesGo w (restS w ks all) (sizesS ks) ks 0 0 := rfl
      have hnl := enough_len he1
      have hrb : restS w ks all ≤ 300 := by unfold alongT at hrs; split at hrs <;> omega
      rw [encSpl_mk] at hlt0 ⊢
      generalize hns : sharesT w ks all = ns at *
      generalize hR : layTs w wd hg ks ns x y = R at *
      generalize hrr : restS w ks all = rs at *
      generalize hss : sizesS ks = sm at *
      generalize hlt9 : leastT (.mk w p s ks) = L at *
      rcases hw with rfl | rfl
      · rw [if_neg (by decide)] at hall
        subst hall
        unfold alongT at hrs
        rw [if_neg (by decide)] at hrs
        refine Pure.of (acalls_of_vc (drawOk W) Try.func21 rfl (by decide) (by decide) rfl ?_)
        (refine g0_ ?_; repeat ((first | refine n1_ fun b_ => ?_ | refine n2_ fun b_ => ?_ | refine Nat1.mk fun q_ hq_ => ?_ | refine em_ fun x_ hx_ => ?_ | refine Elem1.mk fun e_ he_ => ?_); refine g0_ ?_))
        rename_i bT
        revert b_
        intro bR
        (refine g1_ ?_; repeat ((first | refine n1_ fun b_ => ?_ | refine n2_ fun b_ => ?_ | refine Nat1.mk fun q_ hq_ => ?_ | refine em_ fun x_ hx_ => ?_ | refine Elem1.mk fun e_ he_ => ?_); refine g1_ ?_))
        refine head_ ?_; (refine g0_ ?_; repeat ((first | refine n1_ fun b_ => ?_ | refine n2_ fun b_ => ?_ | refine Nat1.mk fun q_ hq_ => ?_ | refine em_ fun x_ hx_ => ?_ | refine Elem1.mk fun e_ he_ => ?_); refine g0_ ?_))
        (refine g1_ ?_; repeat ((first | refine n1_ fun b_ => ?_ | refine n2_ fun b_ => ?_ | refine Nat1.mk fun q_ hq_ => ?_ | refine em_ fun x_ hx_ => ?_ | refine Elem1.mk fun e_ he_ => ?_); refine g1_ ?_))
        refine (hlt0).use ?_; (refine g0_ ?_; repeat ((first | refine n1_ fun b_ => ?_ | refine n2_ fun b_ => ?_ | refine Nat1.mk fun q_ hq_ => ?_ | refine em_ fun x_ hx_ => ?_ | refine Elem1.mk fun e_ he_ => ?_); refine g0_ ?_))
        (refine g1_ ?_; repeat ((first | refine n1_ fun b_ => ?_ | refine n2_ fun b_ => ?_ | refine Nat1.mk fun q_ hq_ => ?_ | refine em_ fun x_ hx_ => ?_ | refine Elem1.mk fun e_ he_ => ?_); refine g1_ ?_))
        rw [hrs]
        refine' loopI (α := Nat × Int) (fun (i, q) => [(49, .int .i64 i), (5, .int .i64 q)]) [(2, _), (3, _), (6, _), (47, _), (48, _)] (fun (i, q) => [⟨bT, .row 4 [.agg [.int .i64 1, .int .i64 p, .int .i64 s, .sl 4 (ks.map encSpl)]] 0⟩, ⟨bR, .row 4 [.agg [.int .i64 x, .int .i64 y, .int .i64 wd, .int .i64 hg]] 0⟩]) (fun (i, q) => i ≤ ks.length ∧ q + sumL ((ks.drop i).map Spl.size) = sm ∧ 0 ≤ q ∧ q ≤ 9999 * i) (fun (i, q) => ks.length - i) (0, 0) ?_ ?_
        · exact ⟨Nat.zero_le _, by rw [← hss]; simp [sizesS], by omega, by omega⟩
        rintro ⟨i, q⟩ ⟨hi, hq, hq0, hq1⟩
        (refine g0_ ?_; repeat ((first | refine n1_ fun b_ => ?_ | refine n2_ fun b_ => ?_ | refine Nat1.mk fun q_ hq_ => ?_ | refine em_ fun x_ hx_ => ?_ | refine Elem1.mk fun e_ he_ => ?_); refine g0_ ?_))
        refine brec ?_; intro c_ hlt; (try rw [hlt]); cases c_ <;> replace hlt := nm_ hlt
        · have : i = ks.length := by omega
          subst this
          rw [List.drop_length] at hq
          simp only [sumL, List.map_nil, List.foldr_nil] at hq
          have hq' : q = sm := by omega
          subst hq'
          (refine g0_ ?_; repeat ((first | refine n1_ fun b_ => ?_ | refine n2_ fun b_ => ?_ | refine Nat1.mk fun q_ hq_ => ?_ | refine em_ fun x_ hx_ => ?_ | refine Elem1.mk fun e_ he_ => ?_); refine g0_ ?_))
          refine' loopI (α := Nat × Nat × (List Plc) × Int × Int) (fun (i, b', o, bef, at_) => [(61, .int .i64 i), (11, accV b' 5 (plcsV o)), (12, .int .i64 bef), (13, .int .i64 at_)]) [(2, _), (3, _), (5, _), (6, _), (59, _), (60, _)] (fun (i, b', o, bef, at_) => ⟨bT, .row 4 [.agg [.int .i64 1, .int .i64 p, .int .i64 s, .sl 4 (ks.map encSpl)]] 0⟩ :: ⟨bR, .row 4 [.agg [.int .i64 x, .int .i64 y, .int .i64 wd, .int .i64 hg]] 0⟩ :: accM b' 5 (plcsV o)) (fun (i, b', o, bef, at_) => i ≤ ks.length ∧ o ++ layTs 1 wd hg (ks.drop i) (ns.drop i) (x + at_) y = R ∧ enough 1 (ks.drop i) (ns.drop i) ∧ ns.drop i = sharesGo 1 rs q (ks.drop i) bef ((rs * bef).tdiv q) ∧ (0 ≤ bef ∧ bef ≤ 9999 * i) ∧ 0 ≤ at_ ∧ at_ + sumL (ns.drop i) + ((ks.length : Int) - i) ≤ wd + 1) (fun (i, b', o, bef, at_) => ks.length - i) (0, 0, [], 0, 0) ?_ ?_
          · exact ⟨Nat.zero_le _, by rw [Int.add_zero]; exact hR, he1, by rw [Int.mul_zero, Int.zero_tdiv]; exact hszd, by omega, by omega, by simp only [List.drop_zero]; omega⟩
          clear hi hq hq0 hq1 hlt
          rintro ⟨i, b', o, bef, at_⟩ ⟨hi, ho, hen, hgo, hbf, hat, hxs⟩
          rcases o with _ | ⟨o0, o⟩
          · have hol := congrArg List.length ho
            simp only [List.length_append, List.length_cons, List.length_nil] at hol
            (refine g0_ ?_; repeat ((first | refine n1_ fun b_ => ?_ | refine n2_ fun b_ => ?_ | refine Nat1.mk fun q_ hq_ => ?_ | refine em_ fun x_ hx_ => ?_ | refine Elem1.mk fun e_ he_ => ?_); refine g0_ ?_))
            refine brec ?_; intro c_ hlt; (try rw [hlt]); cases c_ <;> replace hlt := nm_ hlt
            · have : i = ks.length := by omega
              subst this
              rw [List.drop_length, layTs, List.append_nil] at ho
              subst ho
              (refine g0_ ?_; repeat ((first | refine n1_ fun b_ => ?_ | refine n2_ fun b_ => ?_ | refine Nat1.mk fun q_ hq_ => ?_ | refine em_ fun x_ hx_ => ?_ | refine Elem1.mk fun e_ he_ => ?_); refine g0_ ?_))
              exact .nils 5
            · have hil : i < ks.length := by omega
              (refine g0_ ?_; repeat ((first | refine n1_ fun b_ => ?_ | refine n2_ fun b_ => ?_ | refine Nat1.mk fun q_ hq_ => ?_ | refine em_ fun x_ hx_ => ?_ | refine Elem1.mk fun e_ he_ => ?_); refine g0_ ?_))
              have hm := List.mem_of_getElem? hx_
              have hkp2 := kid_panes hm
              have hkb := least_B x_ 1 (hkr _ hm)
              have hsb := size_bd (hkr _ hm)
              have hdk : ks.drop i = x_ :: ks.drop (i + 1) := by rw [List.drop_eq_getElem_cons hil, (List.getElem?_eq_some_iff.1 hx_).2]
              rw [hdk] at ho hen hgo
              obtain ⟨n, r, hdn, hnb, hen2⟩ := hen
              have hdr : ns.drop (i + 1) = r := by
                have := congrArg List.tail hdn
                rwa [List.tail_drop] at this
              have hes := enough_sum hen2 fun k hk => (need_bd (hkr k (List.mem_of_mem_drop hk)) (Nat.le_trans (kid_panes (List.mem_of_mem_drop hk)) hn)).1
              rw [List.length_drop] at hes
              rw [hdn] at ho hxs hgo
              rw [sharesGo] at hgo
              obtain ⟨hne, hgr⟩ := List.cons.inj hgo
              rw [← hdr] at hgr
              simp only [sumL, List.foldr_cons] at hxs hes
              have hn0 : 1 ≤ n := by exact Int.le_trans (need_bd (hkr _ hm) (Nat.le_trans hkp2 hn)).1 hnb
              have hn3 : n ≤ 310 := by omega
              have hx3 : x + at_ ≤ 310 := by omega
              have hlo := leastOf_ok W x_ 1 (hkr _ hm) (by omega)
              have hs1k := hs2 x_ hm
              have en : needK 1 x_ = (leastT x_).1 := rfl
              rw [en] at hne hnb
              clear en
              have hcl := ih x_ hm 1 (hkr _ hm) (by omega) (x + at_) y n hg hnb (Int.le_trans hs1k hlh) (by omega) (by omega) (by omega) (by omega)
              have hln := layT_len x_ 1 (hkr _ hm) (x + at_) y n hg
              rw [layTs, if_pos rfl, List.headD_cons, List.tail_cons] at ho
              generalize hqq : layT x_ (x + at_) y n hg = Q at *
              have hq1 := right_panes _ _ (hkr _ hm)
              rw [← hln] at hq1
              obtain ⟨q0, Q, rfl⟩ : ∃ a l, Q = a :: l := List.exists_cons_of_length_pos (by omega)
              rw [show plcsV (q0 :: Q) = encPlc q0 :: plcsV Q from rfl] at hcl
              simp only [List.length_cons] at hln hq1
              have hql : (plcsV Q).length = Q.length := List.length_map _
              have hp1 := mul_bd (a := rs) (A := 300) (b := bef + x_.size) (B := 130000) ⟨by omega, hrb⟩ ⟨by omega, by omega⟩
              have hp2 := mul_bd (a := rs) (A := 300) (b := bef) (B := 130000) ⟨by omega, hrb⟩ ⟨by omega, by omega⟩
              have hd1 := tdiv_bd (s := q) hp1
              have hd2 := tdiv_bd (s := q) hp2
              generalize leastT x_ = ab at *
              obtain ⟨w2, p2, s2, ks2⟩ := x_
              simp only [Spl.size] at hsb hne hgr hp1 hd1
              have hne2 : n = ab.1 + ((rs * (bef + s2)).tdiv q - (rs * bef).tdiv q) := by omega
              clear hne
              subst hne2
              rw [encSpl_mk] at hcl hlo ⊢
              (refine g0_ ?_; repeat ((first | refine n1_ fun b_ => ?_ | refine n2_ fun b_ => ?_ | refine Nat1.mk fun q_ hq_ => ?_ | refine em_ fun x_ hx_ => ?_ | refine Elem1.mk fun e_ he_ => ?_); refine g0_ ?_))
              refine (hlo).use ?_; (refine g0_ ?_; repeat ((first | refine n1_ fun b_ => ?_ | refine n2_ fun b_ => ?_ | refine Nat1.mk fun q_ hq_ => ?_ | refine em_ fun x_ hx_ => ?_ | refine Elem1.mk fun e_ he_ => ?_); refine g0_ ?_))
              (refine g1_ ?_; repeat ((first | refine n1_ fun b_ => ?_ | refine n2_ fun b_ => ?_ | refine Nat1.mk fun q_ hq_ => ?_ | refine em_ fun x_ hx_ => ?_ | refine Elem1.mk fun e_ he_ => ?_); refine g1_ ?_))
              refine head_ ?_; (refine g0_ ?_; repeat ((first | refine n1_ fun b_ => ?_ | refine n2_ fun b_ => ?_ | refine Nat1.mk fun q_ hq_ => ?_ | refine em_ fun x_ hx_ => ?_ | refine Elem1.mk fun e_ he_ => ?_); refine g0_ ?_))
              (refine g1_ ?_; repeat ((first | refine n1_ fun b_ => ?_ | refine n2_ fun b_ => ?_ | refine Nat1.mk fun q_ hq_ => ?_ | refine em_ fun x_ hx_ => ?_ | refine Elem1.mk fun e_ he_ => ?_); refine g1_ ?_))
              refine (hcl).use ?_; (refine g0_ ?_; repeat ((first | refine n1_ fun b_ => ?_ | refine n2_ fun b_ => ?_ | refine Nat1.mk fun q_ hq_ => ?_ | refine em_ fun x_ hx_ => ?_ | refine Elem1.mk fun e_ he_ => ?_); refine g0_ ?_))
              refine need.mk (plcs_all (q0 :: Q)) ?_
              (refine g0_ ?_; repeat ((first | refine n1_ fun b_ => ?_ | refine n2_ fun b_ => ?_ | refine Nat1.mk fun q_ hq_ => ?_ | refine em_ fun x_ hx_ => ?_ | refine Elem1.mk fun e_ he_ => ?_); refine g0_ ?_))
              try rw [show (List.map encPlc o).length + 1 + (encPlc q0 :: plcsV Q).length = (List.map encPlc (o ++ q0 :: Q)).length + 1 from by simp [plcsV]; omega]
              try rw [show (encPlc o0 :: List.map encPlc o) ++ (encPlc q0 :: plcsV Q) = plcsV (o0 :: o ++ q0 :: Q) from by simp [plcsV]]
              refine nx_ (i + 1, b_, [] ++ q0 :: Q, bef + s2, at_ + (ab.1 + ((rs * (bef + s2)).tdiv q - (rs * bef).tdiv q) + 1)) ?_ ?_
              · exact ⟨hil, by rw [hdr, List.append_assoc, ← Int.add_assoc]; exact ho, by rw [hdr]; exact hen2, hgr, by push_cast; omega, by omega, by rw [hdr]; simp only [sumL]; push_cast; omega⟩
              · ((try dsimp only); (try simp only [List.length_drop, List.length_take, List.length_append, List.length_cons, List.length_nil, List.length_map] at *); omega)
          · have hol := congrArg List.length ho
            simp only [List.length_append, List.length_cons, List.length_nil] at hol
            (refine g0_ ?_; repeat ((first | refine n1_ fun b_ => ?_ | refine n2_ fun b_ => ?_ | refine Nat1.mk fun q_ hq_ => ?_ | refine em_ fun x_ hx_ => ?_ | refine Elem1.mk fun e_ he_ => ?_); refine g0_ ?_))
            refine brec ?_; intro c_ hlt; (try rw [hlt]); cases c_ <;> replace hlt := nm_ hlt
            · have : i = ks.length := by omega
              subst this
              rw [List.drop_length, layTs, List.append_nil] at ho
              subst ho
              (refine g0_ ?_; repeat ((first | refine n1_ fun b_ => ?_ | refine n2_ fun b_ => ?_ | refine Nat1.mk fun q_ hq_ => ?_ | refine em_ fun x_ hx_ => ?_ | refine Elem1.mk fun e_ he_ => ?_); refine g0_ ?_))
              exact frz_row (l := plcsV (o0 :: o)) (.there _ _ _ _ _ (.there _ _ _ _ _ (.here _ _ _))) _ rfl
            · have hil : i < ks.length := by omega
              (refine g0_ ?_; repeat ((first | refine n1_ fun b_ => ?_ | refine n2_ fun b_ => ?_ | refine Nat1.mk fun q_ hq_ => ?_ | refine em_ fun x_ hx_ => ?_ | refine Elem1.mk fun e_ he_ => ?_); refine g0_ ?_))
              have hm := List.mem_of_getElem? hx_
              have hkp2 := kid_panes hm
              have hkb := least_B x_ 1 (hkr _ hm)
              have hsb := size_bd (hkr _ hm)
              have hdk : ks.drop i = x_ :: ks.drop (i + 1) := by rw [List.drop_eq_getElem_cons hil, (List.getElem?_eq_some_iff.1 hx_).2]
              rw [hdk] at ho hen hgo
              obtain ⟨n, r, hdn, hnb, hen2⟩ := hen
              have hdr : ns.drop (i + 1) = r := by
                have := congrArg List.tail hdn
                rwa [List.tail_drop] at this
              have hes := enough_sum hen2 fun k hk => (need_bd (hkr k (List.mem_of_mem_drop hk)) (Nat.le_trans (kid_panes (List.mem_of_mem_drop hk)) hn)).1
              rw [List.length_drop] at hes
              rw [hdn] at ho hxs hgo
              rw [sharesGo] at hgo
              obtain ⟨hne, hgr⟩ := List.cons.inj hgo
              rw [← hdr] at hgr
              simp only [sumL, List.foldr_cons] at hxs hes
              have hn0 : 1 ≤ n := by exact Int.le_trans (need_bd (hkr _ hm) (Nat.le_trans hkp2 hn)).1 hnb
              have hn3 : n ≤ 310 := by omega
              have hx3 : x + at_ ≤ 310 := by omega
              have hlo := leastOf_ok W x_ 1 (hkr _ hm) (by omega)
              have hs1k := hs2 x_ hm
              have en : needK 1 x_ = (leastT x_).1 := rfl
              rw [en] at hne hnb
              clear en
              have hcl := ih x_ hm 1 (hkr _ hm) (by omega) (x + at_) y n hg hnb (Int.le_trans hs1k hlh) (by omega) (by omega) (by omega) (by omega)
              have hln := layT_len x_ 1 (hkr _ hm) (x + at_) y n hg
              rw [layTs, if_pos rfl, List.headD_cons, List.tail_cons] at ho
              generalize hqq : layT x_ (x + at_) y n hg = Q at *
              have hq1 := right_panes _ _ (hkr _ hm)
              rw [← hln] at hq1
              obtain ⟨q0, Q, rfl⟩ : ∃ a l, Q = a :: l := List.exists_cons_of_length_pos (by omega)
              rw [show plcsV (q0 :: Q) = encPlc q0 :: plcsV Q from rfl] at hcl
              simp only [List.length_cons] at hln hq1
              have hql : (plcsV Q).length = Q.length := List.length_map _
              have hp1 := mul_bd (a := rs) (A := 300) (b := bef + x_.size) (B := 130000) ⟨by omega, hrb⟩ ⟨by omega, by omega⟩
              have hp2 := mul_bd (a := rs) (A := 300) (b := bef) (B := 130000) ⟨by omega, hrb⟩ ⟨by omega, by omega⟩
              have hd1 := tdiv_bd (s := q) hp1
              have hd2 := tdiv_bd (s := q) hp2
              generalize leastT x_ = ab at *
              obtain ⟨w2, p2, s2, ks2⟩ := x_
              simp only [Spl.size] at hsb hne hgr hp1 hd1
              have hne2 : n = ab.1 + ((rs * (bef + s2)).tdiv q - (rs * bef).tdiv q) := by omega
              clear hne
              subst hne2
              rw [encSpl_mk] at hcl hlo ⊢
              (refine g0_ ?_; repeat ((first | refine n1_ fun b_ => ?_ | refine n2_ fun b_ => ?_ | refine Nat1.mk fun q_ hq_ => ?_ | refine em_ fun x_ hx_ => ?_ | refine Elem1.mk fun e_ he_ => ?_); refine g0_ ?_))
              refine (hlo).use ?_; (refine g0_ ?_; repeat ((first | refine n1_ fun b_ => ?_ | refine n2_ fun b_ => ?_ | refine Nat1.mk fun q_ hq_ => ?_ | refine em_ fun x_ hx_ => ?_ | refine Elem1.mk fun e_ he_ => ?_); refine g0_ ?_))
              (refine g1_ ?_; repeat ((first | refine n1_ fun b_ => ?_ | refine n2_ fun b_ => ?_ | refine Nat1.mk fun q_ hq_ => ?_ | refine em_ fun x_ hx_ => ?_ | refine Elem1.mk fun e_ he_ => ?_); refine g1_ ?_))
              refine head_ ?_; (refine g0_ ?_; repeat ((first | refine n1_ fun b_ => ?_ | refine n2_ fun b_ => ?_ | refine Nat1.mk fun q_ hq_ => ?_ | refine em_ fun x_ hx_ => ?_ | refine Elem1.mk fun e_ he_ => ?_); refine g0_ ?_))
              (refine g1_ ?_; repeat ((first | refine n1_ fun b_ => ?_ | refine n2_ fun b_ => ?_ | refine Nat1.mk fun q_ hq_ => ?_ | refine em_ fun x_ hx_ => ?_ | refine Elem1.mk fun e_ he_ => ?_); refine g1_ ?_))
              refine (hcl).use ?_; (refine g0_ ?_; repeat ((first | refine n1_ fun b_ => ?_ | refine n2_ fun b_ => ?_ | refine Nat1.mk fun q_ hq_ => ?_ | refine em_ fun x_ hx_ => ?_ | refine Elem1.mk fun e_ he_ => ?_); refine g0_ ?_))
              refine need.mk (plcs_all (q0 :: Q)) ?_
              (refine g0_ ?_; repeat ((first | refine n1_ fun b_ => ?_ | refine n2_ fun b_ => ?_ | refine Nat1.mk fun q_ hq_ => ?_ | refine em_ fun x_ hx_ => ?_ | refine Elem1.mk fun e_ he_ => ?_); refine g0_ ?_))
              try rw [show (List.map encPlc o).length + 1 + (encPlc q0 :: plcsV Q).length = (List.map encPlc (o ++ q0 :: Q)).length + 1 from by simp [plcsV]; omega]
              try rw [show (encPlc o0 :: List.map encPlc o) ++ (encPlc q0 :: plcsV Q) = plcsV (o0 :: o ++ q0 :: Q) from by simp [plcsV]]
              refine nx_ (i + 1, b_, (o0 :: o) ++ q0 :: Q, bef + s2, at_ + (ab.1 + ((rs * (bef + s2)).tdiv q - (rs * bef).tdiv q) + 1)) ?_ ?_
              · exact ⟨hil, by rw [hdr, List.append_assoc, ← Int.add_assoc]; exact ho, by rw [hdr]; exact hen2, hgr, by push_cast; omega, by omega, by rw [hdr]; simp only [sumL]; push_cast; omega⟩
              · ((try dsimp only); (try simp only [List.length_drop, List.length_take, List.length_append, List.length_cons, List.length_nil, List.length_map] at *); omega)
        · have hil : i < ks.length := by omega
          (refine g0_ ?_; repeat ((first | refine n1_ fun b_ => ?_ | refine n2_ fun b_ => ?_ | refine Nat1.mk fun q_ hq_ => ?_ | refine em_ fun x_ hx_ => ?_ | refine Elem1.mk fun e_ he_ => ?_); refine g0_ ?_))
          have hm := List.mem_of_getElem? hx_
          have hsb := size_bd (hkr _ hm)
          have hdk : ks.drop i = x_ :: ks.drop (i + 1) := by rw [List.drop_eq_getElem_cons hil, (List.getElem?_eq_some_iff.1 hx_).2]
          rw [hdk, List.map_cons, sumL, List.foldr_cons] at hq
          change q + (x_.size + sumL ((ks.drop (i + 1)).map Spl.size)) = sm at hq
          obtain ⟨w2, p2, s2, ks2⟩ := x_
          simp only [Spl.size] at hsb hq
          rw [encSpl_mk]
          (refine g0_ ?_; repeat ((first | refine n1_ fun b_ => ?_ | refine n2_ fun b_ => ?_ | refine Nat1.mk fun q_ hq_ => ?_ | refine em_ fun x_ hx_ => ?_ | refine Elem1.mk fun e_ he_ => ?_); refine g0_ ?_))
          refine nx_ (i + 1, q + s2) ?_ ?_
          · exact ⟨hil, by omega, by omega, by push_cast; omega⟩
          · ((try dsimp only); (try simp only [List.length_drop, List.length_take, List.length_append, List.length_cons, List.length_nil, List.length_map] at *); omega)
      · rw [if_pos rfl] at hall
        subst hall
        unfold alongT at hrs
        rw [if_pos rfl] at hrs
        refine Pure.of (acalls_of_vc (drawOk W) Try.func21 rfl (by decide) (by decide) rfl ?_)
        (refine g0_ ?_; repeat ((first | refine n1_ fun b_ => ?_ | refine n2_ fun b_ => ?_ | refine Nat1.mk fun q_ hq_ => ?_ | refine em_ fun x_ hx_ => ?_ | refine Elem1.mk fun e_ he_ => ?_); refine g0_ ?_))
        rename_i bT
        revert b_
        intro bR
        (refine g1_ ?_; repeat ((first | refine n1_ fun b_ => ?_ | refine n2_ fun b_ => ?_ | refine Nat1.mk fun q_ hq_ => ?_ | refine em_ fun x_ hx_ => ?_ | refine Elem1.mk fun e_ he_ => ?_); refine g1_ ?_))
        refine head_ ?_; (refine g0_ ?_; repeat ((first | refine n1_ fun b_ => ?_ | refine n2_ fun b_ => ?_ | refine Nat1.mk fun q_ hq_ => ?_ | refine em_ fun x_ hx_ => ?_ | refine Elem1.mk fun e_ he_ => ?_); refine g0_ ?_))
        (refine g1_ ?_; repeat ((first | refine n1_ fun b_ => ?_ | refine n2_ fun b_ => ?_ | refine Nat1.mk fun q_ hq_ => ?_ | refine em_ fun x_ hx_ => ?_ | refine Elem1.mk fun e_ he_ => ?_); refine g1_ ?_))
        refine (hlt0).use ?_; (refine g0_ ?_; repeat ((first | refine n1_ fun b_ => ?_ | refine n2_ fun b_ => ?_ | refine Nat1.mk fun q_ hq_ => ?_ | refine em_ fun x_ hx_ => ?_ | refine Elem1.mk fun e_ he_ => ?_); refine g0_ ?_))
        (refine g1_ ?_; repeat ((first | refine n1_ fun b_ => ?_ | refine n2_ fun b_ => ?_ | refine Nat1.mk fun q_ hq_ => ?_ | refine em_ fun x_ hx_ => ?_ | refine Elem1.mk fun e_ he_ => ?_); refine g1_ ?_))
        rw [hrs]
        refine' loopI (α := Nat × Int) (fun (i, q) => [(49, .int .i64 i), (5, .int .i64 q)]) [(2, _), (3, _), (6, _), (47, _), (48, _)] (fun (i, q) => [⟨bT, .row 4 [.agg [.int .i64 2, .int .i64 p, .int .i64 s, .sl 4 (ks.map encSpl)]] 0⟩, ⟨bR, .row 4 [.agg [.int .i64 x, .int .i64 y, .int .i64 wd, .int .i64 hg]] 0⟩]) (fun (i, q) => i ≤ ks.length ∧ q + sumL ((ks.drop i).map Spl.size) = sm ∧ 0 ≤ q ∧ q ≤ 9999 * i) (fun (i, q) => ks.length - i) (0, 0) ?_ ?_
        · exact ⟨Nat.zero_le _, by rw [← hss]; simp [sizesS], by omega, by omega⟩
        rintro ⟨i, q⟩ ⟨hi, hq, hq0, hq1⟩
        (refine g0_ ?_; repeat ((first | refine n1_ fun b_ => ?_ | refine n2_ fun b_ => ?_ | refine Nat1.mk fun q_ hq_ => ?_ | refine em_ fun x_ hx_ => ?_ | refine Elem1.mk fun e_ he_ => ?_); refine g0_ ?_))
        refine brec ?_; intro c_ hlt; (try rw [hlt]); cases c_ <;> replace hlt := nm_ hlt
        · have : i = ks.length := by omega
          subst this
          rw [List.drop_length] at hq
          simp only [sumL, List.map_nil, List.foldr_nil] at hq
          have hq' : q = sm := by omega
          subst hq'
          (refine g0_ ?_; repeat ((first | refine n1_ fun b_ => ?_ | refine n2_ fun b_ => ?_ | refine Nat1.mk fun q_ hq_ => ?_ | refine em_ fun x_ hx_ => ?_ | refine Elem1.mk fun e_ he_ => ?_); refine g0_ ?_))
          refine' loopI (α := Nat × Nat × (List Plc) × Int × Int) (fun (i, b', o, bef, at_) => [(61, .int .i64 i), (11, accV b' 5 (plcsV o)), (12, .int .i64 bef), (13, .int .i64 at_)]) [(2, _), (3, _), (5, _), (6, _), (59, _), (60, _)] (fun (i, b', o, bef, at_) => ⟨bT, .row 4 [.agg [.int .i64 2, .int .i64 p, .int .i64 s, .sl 4 (ks.map encSpl)]] 0⟩ :: ⟨bR, .row 4 [.agg [.int .i64 x, .int .i64 y, .int .i64 wd, .int .i64 hg]] 0⟩ :: accM b' 5 (plcsV o)) (fun (i, b', o, bef, at_) => i ≤ ks.length ∧ o ++ layTs 2 wd hg (ks.drop i) (ns.drop i) x (y + at_) = R ∧ enough 2 (ks.drop i) (ns.drop i) ∧ ns.drop i = sharesGo 2 rs q (ks.drop i) bef ((rs * bef).tdiv q) ∧ (0 ≤ bef ∧ bef ≤ 9999 * i) ∧ 0 ≤ at_ ∧ at_ + sumL (ns.drop i) + ((ks.length : Int) - i) ≤ hg + 1) (fun (i, b', o, bef, at_) => ks.length - i) (0, 0, [], 0, 0) ?_ ?_
          · exact ⟨Nat.zero_le _, by rw [Int.add_zero]; exact hR, he1, by rw [Int.mul_zero, Int.zero_tdiv]; exact hszd, by omega, by omega, by simp only [List.drop_zero]; omega⟩
          clear hi hq hq0 hq1 hlt
          rintro ⟨i, b', o, bef, at_⟩ ⟨hi, ho, hen, hgo, hbf, hat, hxs⟩
          rcases o with _ | ⟨o0, o⟩
          · have hol := congrArg List.length ho
            simp only [List.length_append, List.length_cons, List.length_nil] at hol
            (refine g0_ ?_; repeat ((first | refine n1_ fun b_ => ?_ | refine n2_ fun b_ => ?_ | refine Nat1.mk fun q_ hq_ => ?_ | refine em_ fun x_ hx_ => ?_ | refine Elem1.mk fun e_ he_ => ?_); refine g0_ ?_))
            refine brec ?_; intro c_ hlt; (try rw [hlt]); cases c_ <;> replace hlt := nm_ hlt
            · have : i = ks.length := by omega
              subst this
              rw [List.drop_length, layTs, List.append_nil] at ho
              subst ho
              (refine g0_ ?_; repeat ((first | refine n1_ fun b_ => ?_ | refine n2_ fun b_ => ?_ | refine Nat1.mk fun q_ hq_ => ?_ | refine em_ fun x_ hx_ => ?_ | refine Elem1.mk fun e_ he_ => ?_); refine g0_ ?_))
              exact .nils 5
            · have hil : i < ks.length := by omega
              (refine g0_ ?_; repeat ((first | refine n1_ fun b_ => ?_ | refine n2_ fun b_ => ?_ | refine Nat1.mk fun q_ hq_ => ?_ | refine em_ fun x_ hx_ => ?_ | refine Elem1.mk fun e_ he_ => ?_); refine g0_ ?_))
              have hm := List.mem_of_getElem? hx_
              have hkp2 := kid_panes hm
              have hkb := least_B x_ 2 (hkr _ hm)
              have hsb := size_bd (hkr _ hm)
              have hdk : ks.drop i = x_ :: ks.drop (i + 1) := by rw [List.drop_eq_getElem_cons hil, (List.getElem?_eq_some_iff.1 hx_).2]
              rw [hdk] at ho hen hgo
              obtain ⟨n, r, hdn, hnb, hen2⟩ := hen
              have hdr : ns.drop (i + 1) = r := by
                have := congrArg List.tail hdn
                rwa [List.tail_drop] at this
              have hes := enough_sum hen2 fun k hk => (need_bd (hkr k (List.mem_of_mem_drop hk)) (Nat.le_trans (kid_panes (List.mem_of_mem_drop hk)) hn)).1
              rw [List.length_drop] at hes
              rw [hdn] at ho hxs hgo
              rw [sharesGo] at hgo
              obtain ⟨hne, hgr⟩ := List.cons.inj hgo
              rw [← hdr] at hgr
              simp only [sumL, List.foldr_cons] at hxs hes
              have hn0 : 1 ≤ n := by exact Int.le_trans (need_bd (hkr _ hm) (Nat.le_trans hkp2 hn)).1 hnb
              have hn3 : n ≤ 310 := by omega
              have hx3 : y + at_ ≤ 310 := by omega
              have hlo := leastOf_ok W x_ 2 (hkr _ hm) (by omega)
              have hs1k := hs2 x_ hm
              have en : needK 2 x_ = (leastT x_).2 := rfl
              rw [en] at hne hnb
              clear en
              have hcl := ih x_ hm 2 (hkr _ hm) (by omega) x (y + at_) wd n (Int.le_trans hs1k hlw) hnb (by omega) (by omega) (by omega) (by omega)
              have hln := layT_len x_ 2 (hkr _ hm) x (y + at_) wd n
              rw [layTs, if_neg (by decide), List.headD_cons, List.tail_cons] at ho
              generalize hqq : layT x_ x (y + at_) wd n = Q at *
              have hq1 := right_panes _ _ (hkr _ hm)
              rw [← hln] at hq1
              obtain ⟨q0, Q, rfl⟩ : ∃ a l, Q = a :: l := List.exists_cons_of_length_pos (by omega)
              rw [show plcsV (q0 :: Q) = encPlc q0 :: plcsV Q from rfl] at hcl
              simp only [List.length_cons] at hln hq1
              have hql : (plcsV Q).length = Q.length := List.length_map _
              have hp1 := mul_bd (a := rs) (A := 300) (b := bef + x_.size) (B := 130000) ⟨by omega, hrb⟩ ⟨by omega, by omega⟩
              have hp2 := mul_bd (a := rs) (A := 300) (b := bef) (B := 130000) ⟨by omega, hrb⟩ ⟨by omega, by omega⟩
              have hd1 := tdiv_bd (s := q) hp1
              have hd2 := tdiv_bd (s := q) hp2
              generalize leastT x_ = ab at *
              obtain ⟨w2, p2, s2, ks2⟩ := x_
              simp only [Spl.size] at hsb hne hgr hp1 hd1
              have hne2 : n = ab.2 + ((rs * (bef + s2)).tdiv q - (rs * bef).tdiv q) := by omega
              clear hne
              subst hne2
              rw [encSpl_mk] at hcl hlo ⊢
              (refine g0_ ?_; repeat ((first | refine n1_ fun b_ => ?_ | refine n2_ fun b_ => ?_ | refine Nat1.mk fun q_ hq_ => ?_ | refine em_ fun x_ hx_ => ?_ | refine Elem1.mk fun e_ he_ => ?_); refine g0_ ?_))
              refine (hlo).use ?_; (refine g0_ ?_; repeat ((first | refine n1_ fun b_ => ?_ | refine n2_ fun b_ => ?_ | refine Nat1.mk fun q_ hq_ => ?_ | refine em_ fun x_ hx_ => ?_ | refine Elem1.mk fun e_ he_ => ?_); refine g0_ ?_))
              (refine g1_ ?_; repeat ((first | refine n1_ fun b_ => ?_ | refine n2_ fun b_ => ?_ | refine Nat1.mk fun q_ hq_ => ?_ | refine em_ fun x_ hx_ => ?_ | refine Elem1.mk fun e_ he_ => ?_); refine g1_ ?_))
              refine head_ ?_; (refine g0_ ?_; repeat ((first | refine n1_ fun b_ => ?_ | refine n2_ fun b_ => ?_ | refine Nat1.mk fun q_ hq_ => ?_ | refine em_ fun x_ hx_ => ?_ | refine Elem1.mk fun e_ he_ => ?_); refine g0_ ?_))
              (refine g1_ ?_; repeat ((first | refine n1_ fun b_ => ?_ | refine n2_ fun b_ => ?_ | refine Nat1.mk fun q_ hq_ => ?_ | refine em_ fun x_ hx_ => ?_ | refine Elem1.mk fun e_ he_ => ?_); refine g1_ ?_))
              refine (hcl).use ?_; (refine g0_ ?_; repeat ((first | refine n1_ fun b_ => ?_ | refine n2_ fun b_ => ?_ | refine Nat1.mk fun q_ hq_ => ?_ | refine em_ fun x_ hx_ => ?_ | refine Elem1.mk fun e_ he_ => ?_); refine g0_ ?_))
              refine need.mk (plcs_all (q0 :: Q)) ?_
              (refine g0_ ?_; repeat ((first | refine n1_ fun b_ => ?_ | refine n2_ fun b_ => ?_ | refine Nat1.mk fun q_ hq_ => ?_ | refine em_ fun x_ hx_ => ?_ | refine Elem1.mk fun e_ he_ => ?_); refine g0_ ?_))
              try rw [show (List.map encPlc o).length + 1 + (encPlc q0 :: plcsV Q).length = (List.map encPlc (o ++ q0 :: Q)).length + 1 from by simp [plcsV]; omega]
              try rw [show (encPlc o0 :: List.map encPlc o) ++ (encPlc q0 :: plcsV Q) = plcsV (o0 :: o ++ q0 :: Q) from by simp [plcsV]]
              refine nx_ (i + 1, b_, [] ++ q0 :: Q, bef + s2, at_ + (ab.2 + ((rs * (bef + s2)).tdiv q - (rs * bef).tdiv q) + 1)) ?_ ?_
              · exact ⟨hil, by rw [hdr, List.append_assoc, ← Int.add_assoc]; exact ho, by rw [hdr]; exact hen2, hgr, by push_cast; omega, by omega, by rw [hdr]; simp only [sumL]; push_cast; omega⟩
              · ((try dsimp only); (try simp only [List.length_drop, List.length_take, List.length_append, List.length_cons, List.length_nil, List.length_map] at *); omega)
          · have hol := congrArg List.length ho
            simp only [List.length_append, List.length_cons, List.length_nil] at hol
            (refine g0_ ?_; repeat ((first | refine n1_ fun b_ => ?_ | refine n2_ fun b_ => ?_ | refine Nat1.mk fun q_ hq_ => ?_ | refine em_ fun x_ hx_ => ?_ | refine Elem1.mk fun e_ he_ => ?_); refine g0_ ?_))
            refine brec ?_; intro c_ hlt; (try rw [hlt]); cases c_ <;> replace hlt := nm_ hlt
            · have : i = ks.length := by omega
              subst this
              rw [List.drop_length, layTs, List.append_nil] at ho
              subst ho
              (refine g0_ ?_; repeat ((first | refine n1_ fun b_ => ?_ | refine n2_ fun b_ => ?_ | refine Nat1.mk fun q_ hq_ => ?_ | refine em_ fun x_ hx_ => ?_ | refine Elem1.mk fun e_ he_ => ?_); refine g0_ ?_))
              exact frz_row (l := plcsV (o0 :: o)) (.there _ _ _ _ _ (.there _ _ _ _ _ (.here _ _ _))) _ rfl
            · have hil : i < ks.length := by omega
              (refine g0_ ?_; repeat ((first | refine n1_ fun b_ => ?_ | refine n2_ fun b_ => ?_ | refine Nat1.mk fun q_ hq_ => ?_ | refine em_ fun x_ hx_ => ?_ | refine Elem1.mk fun e_ he_ => ?_); refine g0_ ?_))
              have hm := List.mem_of_getElem? hx_
              have hkp2 := kid_panes hm
              have hkb := least_B x_ 2 (hkr _ hm)
              have hsb := size_bd (hkr _ hm)
              have hdk : ks.drop i = x_ :: ks.drop (i + 1) := by rw [List.drop_eq_getElem_cons hil, (List.getElem?_eq_some_iff.1 hx_).2]
              rw [hdk] at ho hen hgo
              obtain ⟨n, r, hdn, hnb, hen2⟩ := hen
              have hdr : ns.drop (i + 1) = r := by
                have := congrArg List.tail hdn
                rwa [List.tail_drop] at this
              have hes := enough_sum hen2 fun k hk => (need_bd (hkr k (List.mem_of_mem_drop hk)) (Nat.le_trans (kid_panes (List.mem_of_mem_drop hk)) hn)).1
              rw [List.length_drop] at hes
              rw [hdn] at ho hxs hgo
              rw [sharesGo] at hgo
              obtain ⟨hne, hgr⟩ := List.cons.inj hgo
              rw [← hdr] at hgr
              simp only [sumL, List.foldr_cons] at hxs hes
              have hn0 : 1 ≤ n := by exact Int.le_trans (need_bd (hkr _ hm) (Nat.le_trans hkp2 hn)).1 hnb
              have hn3 : n ≤ 310 := by omega
              have hx3 : y + at_ ≤ 310 := by omega
              have hlo := leastOf_ok W x_ 2 (hkr _ hm) (by omega)
              have hs1k := hs2 x_ hm
              have en : needK 2 x_ = (leastT x_).2 := rfl
              rw [en] at hne hnb
              clear en
              have hcl := ih x_ hm 2 (hkr _ hm) (by omega) x (y + at_) wd n (Int.le_trans hs1k hlw) hnb (by omega) (by omega) (by omega) (by omega)
              have hln := layT_len x_ 2 (hkr _ hm) x (y + at_) wd n
              rw [layTs, if_neg (by decide), List.headD_cons, List.tail_cons] at ho
              generalize hqq : layT x_ x (y + at_) wd n = Q at *
              have hq1 := right_panes _ _ (hkr _ hm)
              rw [← hln] at hq1
              obtain ⟨q0, Q, rfl⟩ : ∃ a l, Q = a :: l := List.exists_cons_of_length_pos (by omega)
              rw [show plcsV (q0 :: Q) = encPlc q0 :: plcsV Q from rfl] at hcl
              simp only [List.length_cons] at hln hq1
              have hql : (plcsV Q).length = Q.length := List.length_map _
              have hp1 := mul_bd (a := rs) (A := 300) (b := bef + x_.size) (B := 130000) ⟨by omega, hrb⟩ ⟨by omega, by omega⟩
              have hp2 := mul_bd (a := rs) (A := 300) (b := bef) (B := 130000) ⟨by omega, hrb⟩ ⟨by omega, by omega⟩
              have hd1 := tdiv_bd (s := q) hp1
              have hd2 := tdiv_bd (s := q) hp2
              generalize leastT x_ = ab at *
              obtain ⟨w2, p2, s2, ks2⟩ := x_
              simp only [Spl.size] at hsb hne hgr hp1 hd1
              have hne2 : n = ab.2 + ((rs * (bef + s2)).tdiv q - (rs * bef).tdiv q) := by omega
              clear hne
              subst hne2
              rw [encSpl_mk] at hcl hlo ⊢
              (refine g0_ ?_; repeat ((first | refine n1_ fun b_ => ?_ | refine n2_ fun b_ => ?_ | refine Nat1.mk fun q_ hq_ => ?_ | refine em_ fun x_ hx_ => ?_ | refine Elem1.mk fun e_ he_ => ?_); refine g0_ ?_))
              refine (hlo).use ?_; (refine g0_ ?_; repeat ((first | refine n1_ fun b_ => ?_ | refine n2_ fun b_ => ?_ | refine Nat1.mk fun q_ hq_ => ?_ | refine em_ fun x_ hx_ => ?_ | refine Elem1.mk fun e_ he_ => ?_); refine g0_ ?_))
              (refine g1_ ?_; repeat ((first | refine n1_ fun b_ => ?_ | refine n2_ fun b_ => ?_ | refine Nat1.mk fun q_ hq_ => ?_ | refine em_ fun x_ hx_ => ?_ | refine Elem1.mk fun e_ he_ => ?_); refine g1_ ?_))
              refine head_ ?_; (refine g0_ ?_; repeat ((first | refine n1_ fun b_ => ?_ | refine n2_ fun b_ => ?_ | refine Nat1.mk fun q_ hq_ => ?_ | refine em_ fun x_ hx_ => ?_ | refine Elem1.mk fun e_ he_ => ?_); refine g0_ ?_))
              (refine g1_ ?_; repeat ((first | refine n1_ fun b_ => ?_ | refine n2_ fun b_ => ?_ | refine Nat1.mk fun q_ hq_ => ?_ | refine em_ fun x_ hx_ => ?_ | refine Elem1.mk fun e_ he_ => ?_); refine g1_ ?_))
              refine (hcl).use ?_; (refine g0_ ?_; repeat ((first | refine n1_ fun b_ => ?_ | refine n2_ fun b_ => ?_ | refine Nat1.mk fun q_ hq_ => ?_ | refine em_ fun x_ hx_ => ?_ | refine Elem1.mk fun e_ he_ => ?_); refine g0_ ?_))
              refine need.mk (plcs_all (q0 :: Q)) ?_
              (refine g0_ ?_; repeat ((first | refine n1_ fun b_ => ?_ | refine n2_ fun b_ => ?_ | refine Nat1.mk fun q_ hq_ => ?_ | refine em_ fun x_ hx_ => ?_ | refine Elem1.mk fun e_ he_ => ?_); refine g0_ ?_))
              try rw [show (List.map encPlc o).length + 1 + (encPlc q0 :: plcsV Q).length = (List.map encPlc (o ++ q0 :: Q)).length + 1 from by simp [plcsV]; omega]
              try rw [show (encPlc o0 :: List.map encPlc o) ++ (encPlc q0 :: plcsV Q) = plcsV (o0 :: o ++ q0 :: Q) from by simp [plcsV]]
              refine nx_ (i + 1, b_, (o0 :: o) ++ q0 :: Q, bef + s2, at_ + (ab.2 + ((rs * (bef + s2)).tdiv q - (rs * bef).tdiv q) + 1)) ?_ ?_
              · exact ⟨hil, by rw [hdr, List.append_assoc, ← Int.add_assoc]; exact ho, by rw [hdr]; exact hen2, hgr, by push_cast; omega, by omega, by rw [hdr]; simp only [sumL]; push_cast; omega⟩
              · ((try dsimp only); (try simp only [List.length_drop, List.length_take, List.length_append, List.length_cons, List.length_nil, List.length_map] at *); omega)
        · have hil : i < ks.length := by omega
          (refine g0_ ?_; repeat ((first | refine n1_ fun b_ => ?_ | refine n2_ fun b_ => ?_ | refine Nat1.mk fun q_ hq_ => ?_ | refine em_ fun x_ hx_ => ?_ | refine Elem1.mk fun e_ he_ => ?_); refine g0_ ?_))
          have hm := List.mem_of_getElem? hx_
          have hsb := size_bd (hkr _ hm)
          have hdk : ks.drop i = x_ :: ks.drop (i + 1) := by rw [List.drop_eq_getElem_cons hil, (List.getElem?_eq_some_iff.1 hx_).2]
          rw [hdk, List.map_cons, sumL, List.foldr_cons] at hq
          change q + (x_.size + sumL ((ks.drop (i + 1)).map Spl.size)) = sm at hq
          obtain ⟨w2, p2, s2, ks2⟩ := x_
          simp only [Spl.size] at hsb hq
          rw [encSpl_mk]
          (refine g0_ ?_; repeat ((first | refine n1_ fun b_ => ?_ | refine n2_ fun b_ => ?_ | refine Nat1.mk fun q_ hq_ => ?_ | refine em_ fun x_ hx_ => ?_ | refine Elem1.mk fun e_ he_ => ?_); refine g0_ ?_))
          refine nx_ (i + 1, q + s2) ?_ ?_
          · exact ⟨hil, by omega, by omega, by push_cast; omega⟩
          · ((try dsimp only); (try simp only [List.length_drop, List.length_take, List.length_append, List.length_cons, List.length_nil, List.length_map] at *); omega)
end Go.Eng.Ytkbfojigbbokcaa
end
