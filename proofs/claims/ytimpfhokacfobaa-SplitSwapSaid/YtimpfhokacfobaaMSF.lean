/- Texts put together: Spl17. -/
import Derived.Test.YtimpfhokacfobaaMSB
/- Splits: a copy of the call's own (b_ x_ q_ e_). -/
section
namespace Go.Eng.Ytimpfhokacfobaa
open Go Go.Eng Go.Proofs
variable (W : World)
set_option linter.unusedSimpArgs false
set_option maxRecDepth 100000
set_option linter.unusedVariables false
set_option maxHeartbeats 4000000
def splsV (l : List Spl) : List PV := l.map encSpl
theorem spls_all (l : List Spl) : (splsV l).all cellsB = true := by
  rw [List.all_eq_true]
  intro v hv
  obtain ⟨⟨w, p, s, ks⟩, -, rfl⟩ := List.mem_map.1 hv
  rw [encSpl_mk]
  simp [cellsB, PV.flat, cellB]
theorem ownSplit_ok (t : Spl) : t.ok → Pure Try.prog W 4 [encSpl t] (encSpl t) := by
  induction t using spl_induct with
  | h w p s ks ih =>
    intro ht
    obtain ⟨o1, o2, o3, o4, hks⟩ := spl_ok.1 ht
    have hkl : (ks.map encSpl).length = ks.length := List.length_map _
    rw [encSpl_mk]
    refine Pure.of (acalls_of_vc (drawOk W) Try.func4 rfl (by decide) (by decide) rfl ?_)
    (refine g0_ ?_; repeat ((first | refine n1_ fun b_ => ?_ | refine n2_ fun b_ => ?_ | refine Nat1.mk fun q_ hq_ => ?_ | refine em_ fun x_ hx_ => ?_ | refine Elem1.mk fun e_ he_ => ?_); refine g0_ ?_))
    rename_i bT
    revert b_
    intro bR
    refine' loopI (α := Nat × Nat × (List Spl)) (fun (i, b', l) => [(11, .int .i64 i)]) [(1, _), (2, _), (9, _), (10, _)] (fun (i, b', l) => ⟨bR, .row 4 [.agg [.int .i64 0, .int .i64 0, .int .i64 0, .nils]] 0⟩ :: ⟨bT, .row 4 [.agg [.int .i64 w, .int .i64 p, .int .i64 s, accV b' 4 (splsV l)]] 0⟩ :: accM b' 4 (splsV l)) (fun (i, b', l) => i ≤ ks.length ∧ l = ks.take i) (fun (i, b', l) => ks.length - i) (0, 0, []) ?_ ?_
    · exact ⟨Nat.zero_le _, rfl⟩
    rintro ⟨i, b', l⟩ ⟨hi, hl⟩
    rcases l with _ | ⟨l0, l⟩
    · (refine g0_ ?_; repeat ((first | refine n1_ fun b_ => ?_ | refine n2_ fun b_ => ?_ | refine Nat1.mk fun q_ hq_ => ?_ | refine em_ fun x_ hx_ => ?_ | refine Elem1.mk fun e_ he_ => ?_); refine g0_ ?_))
      refine brec ?_; intro c_ hlt; (try rw [hlt]); cases c_ <;> replace hlt := nm_ hlt
      · have : i = ks.length := by omega
        subst this
        rw [List.take_length] at hl
        (refine g0_ ?_; repeat ((first | refine n1_ fun b_ => ?_ | refine n2_ fun b_ => ?_ | refine Nat1.mk fun q_ hq_ => ?_ | refine em_ fun x_ hx_ => ?_ | refine Elem1.mk fun e_ he_ => ?_); refine g0_ ?_))
        rw [← hl]
        refine .agg _ _ rfl fun j hj => ?_
        match j, hj with
        | 0, _ => exact .refl _
        | 1, _ => exact .refl _
        | 2, _ => exact .refl _
        | 3, _ => exact .nils 4
      · have hil : i < ks.length := by omega
        have hee := congrArg List.length hl
        simp only [List.length_cons, List.length_nil, List.length_take] at hee
        (refine g0_ ?_; repeat ((first | refine n1_ fun b_ => ?_ | refine n2_ fun b_ => ?_ | refine Nat1.mk fun q_ hq_ => ?_ | refine em_ fun x_ hx_ => ?_ | refine Elem1.mk fun e_ he_ => ?_); refine g0_ ?_))
        have hcl := ih x_ (List.mem_of_getElem? hx_) (hks _ (List.mem_of_getElem? hx_))
        have hnx : ks.take (i + 1) = [] ++ [x_] := by rw [take_snoc_of hx_, ← hl]
        obtain ⟨w2, p2, s2, ks2⟩ := x_
        have e2 := encSpl_mk w2 p2 s2 ks2
        rw [e2] at hcl ⊢
        (refine g0_ ?_; repeat ((first | refine n1_ fun b_ => ?_ | refine n2_ fun b_ => ?_ | refine Nat1.mk fun q_ hq_ => ?_ | refine em_ fun x_ hx_ => ?_ | refine Elem1.mk fun e_ he_ => ?_); refine g0_ ?_))
        refine head_ ?_; (refine g0_ ?_; repeat ((first | refine n1_ fun b_ => ?_ | refine n2_ fun b_ => ?_ | refine Nat1.mk fun q_ hq_ => ?_ | refine em_ fun x_ hx_ => ?_ | refine Elem1.mk fun e_ he_ => ?_); refine g0_ ?_))
        refine ⟨_, (hcl).quiet, ?_⟩; (refine g0_ ?_; repeat ((first | refine n1_ fun b_ => ?_ | refine n2_ fun b_ => ?_ | refine Nat1.mk fun q_ hq_ => ?_ | refine em_ fun x_ hx_ => ?_ | refine Elem1.mk fun e_ he_ => ?_); refine g0_ ?_))
        rw [← e2]
        try rw [show ∀ v : PV, (List.map encSpl l).length + 1 + [v].length = (List.map encSpl (l ++ [.mk w2 p2 s2 ks2])).length + 1 from fun v => by simp]
        try rw [show (encSpl l0 :: List.map encSpl l) ++ [encSpl (.mk w2 p2 s2 ks2)] = splsV (l0 :: l ++ [.mk w2 p2 s2 ks2]) from by simp [splsV]]
        refine nx_ (i + 1, b_, [] ++ [.mk w2 p2 s2 ks2]) ?_ ?_
        · exact ⟨hil, hnx.symm⟩
        · ((try dsimp only); (try simp only [List.length_drop, List.length_take, List.length_append, List.length_cons, List.length_nil, List.length_map] at *); omega)
    · (refine g0_ ?_; repeat ((first | refine n1_ fun b_ => ?_ | refine n2_ fun b_ => ?_ | refine Nat1.mk fun q_ hq_ => ?_ | refine em_ fun x_ hx_ => ?_ | refine Elem1.mk fun e_ he_ => ?_); refine g0_ ?_))
      refine brec ?_; intro c_ hlt; (try rw [hlt]); cases c_ <;> replace hlt := nm_ hlt
      · have : i = ks.length := by omega
        subst this
        rw [List.take_length] at hl
        (refine g0_ ?_; repeat ((first | refine n1_ fun b_ => ?_ | refine n2_ fun b_ => ?_ | refine Nat1.mk fun q_ hq_ => ?_ | refine em_ fun x_ hx_ => ?_ | refine Elem1.mk fun e_ he_ => ?_); refine g0_ ?_))
        rw [← hl]
        refine .agg _ _ rfl fun j hj => ?_
        match j, hj with
        | 0, _ => exact .refl _
        | 1, _ => exact .refl _
        | 2, _ => exact .refl _
        | 3, _ => exact frz_row (l := splsV (l0 :: l)) (.there _ _ _ _ _ (.there _ _ _ _ _ (.here _ _ _))) _ rfl
      · have hil : i < ks.length := by omega
        have hee := congrArg List.length hl
        simp only [List.length_cons, List.length_nil, List.length_take] at hee
        (refine g0_ ?_; repeat ((first | refine n1_ fun b_ => ?_ | refine n2_ fun b_ => ?_ | refine Nat1.mk fun q_ hq_ => ?_ | refine em_ fun x_ hx_ => ?_ | refine Elem1.mk fun e_ he_ => ?_); refine g0_ ?_))
        have hcl := ih x_ (List.mem_of_getElem? hx_) (hks _ (List.mem_of_getElem? hx_))
        have hnx : ks.take (i + 1) = (l0 :: l) ++ [x_] := by rw [take_snoc_of hx_, ← hl]
        obtain ⟨w2, p2, s2, ks2⟩ := x_
        have e2 := encSpl_mk w2 p2 s2 ks2
        rw [e2] at hcl ⊢
        (refine g0_ ?_; repeat ((first | refine n1_ fun b_ => ?_ | refine n2_ fun b_ => ?_ | refine Nat1.mk fun q_ hq_ => ?_ | refine em_ fun x_ hx_ => ?_ | refine Elem1.mk fun e_ he_ => ?_); refine g0_ ?_))
        refine head_ ?_; (refine g0_ ?_; repeat ((first | refine n1_ fun b_ => ?_ | refine n2_ fun b_ => ?_ | refine Nat1.mk fun q_ hq_ => ?_ | refine em_ fun x_ hx_ => ?_ | refine Elem1.mk fun e_ he_ => ?_); refine g0_ ?_))
        refine ⟨_, (hcl).quiet, ?_⟩; (refine g0_ ?_; repeat ((first | refine n1_ fun b_ => ?_ | refine n2_ fun b_ => ?_ | refine Nat1.mk fun q_ hq_ => ?_ | refine em_ fun x_ hx_ => ?_ | refine Elem1.mk fun e_ he_ => ?_); refine g0_ ?_))
        rw [← e2]
        try rw [show ∀ v : PV, (List.map encSpl l).length + 1 + [v].length = (List.map encSpl (l ++ [.mk w2 p2 s2 ks2])).length + 1 from fun v => by simp]
        try rw [show (encSpl l0 :: List.map encSpl l) ++ [encSpl (.mk w2 p2 s2 ks2)] = splsV (l0 :: l ++ [.mk w2 p2 s2 ks2]) from by simp [splsV]]
        refine nx_ (i + 1, b_, (l0 :: l) ++ [.mk w2 p2 s2 ks2]) ?_ ?_
        · exact ⟨hil, hnx.symm⟩
        · ((try dsimp only); (try simp only [List.length_drop, List.length_take, List.length_append, List.length_cons, List.length_nil, List.length_map] at *); omega)
end Go.Eng.Ytimpfhokacfobaa
end
