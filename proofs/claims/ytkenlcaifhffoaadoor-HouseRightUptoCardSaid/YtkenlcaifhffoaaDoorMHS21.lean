/- Texts put together: Hs19, Hs20. -/
import Derived.Test.YtkenlcaifhffoaaDoorMHS20
import Derived.Test.YtkenlcaifhffoaaDoorMHS4
import Derived.Test.YtkenlcaifhffoaaDoorMHS19
import Derived.Test.YtkenlcaifhffoaaDoorMHS6
/- Houses: viewers that go: slices.DeleteFunc (b_ x_ q_ e_). -/
section
namespace Go.Eng.YtkenlcaifhffoaaDoor
open Go Go.Eng Go.Proofs
variable (W : World)
set_option linter.unusedSimpArgs false
set_option maxRecDepth 100000
set_option linter.unusedVariables false
set_option maxHeartbeats 8000000
def stayV (s : Int) (l : List Vw) : List Vw := l.filter fun v => decide (v.s ≠ s)
theorem stay_all {s : Int} {l : List Vw} (h : s ∉ l.map Vw.s) : stayV s l = l := by
  refine List.filter_eq_self.2 fun v hv => ?_
  have : v.s ≠ s := fun e => h (List.mem_map.2 ⟨v, hv, e⟩)
  simpa using this
theorem stay_first {s : Int} {l : List Vw} (h : s ∈ l.map Vw.s) : stayV s (l.take (List.idxOf s (l.map Vw.s) + 1)) = l.take (List.idxOf s (l.map Vw.s)) := by
  induction l with
  | nil => cases h
  | cons v l ih =>
    rw [List.map_cons]
    by_cases hv : v.s = s
    · rw [hv, List.idxOf_cons_self]
      simp [stayV, hv]
    · rw [show List.idxOf s (v.s :: l.map Vw.s) = List.idxOf s (l.map Vw.s) + 1 by rw [List.idxOf_cons, show (v.s == s) = false from by simpa using hv]; rfl]
      have h2 : s ∈ l.map Vw.s := by
        rw [List.map_cons] at h
        rcases List.mem_cons.1 h with h | h
        · exact absurd h.symm hv
        · exact h
      rw [List.take_succ_cons, List.take_succ_cons, stayV, List.filter_cons, if_pos (by simpa using hv)]
      exact congrArg _ (ih h2)
theorem delVw_ok (bo b3 : Nat) (s : Int) (l : List Vw) (hl : l.length ≤ 4) :
    ACalls Tryd.prog W 78 [.rsl bo 3 0 l.length, .fn 79 [.bref b3 0]] [⟨bo, .row 3 (l.map encVw) 0⟩, ⟨b3, .row 1 [.int .i64 s] 0⟩]
      (Gives (fun r : List PV => .rsl bo 3 0 (stayV s l).length) (fun r => [⟨bo, .row 3 ((stayV s l).map encVw ++ r) 0⟩, ⟨b3, .row 1 [.int .i64 s] 0⟩]) (fun _ => True)) := by
  have hix := idxVw_ok W l s (by omega)
  have hlm : (l.map encVw).length = l.length := List.length_map _
  refine acalls_of_vc (DL_ok (by decide)) Tryd.func78 rfl (by decide) (by decide) rfl ?_
  refine g0_ ?_
  refine hix.borrow (args' := [.sl 3 (l.map encVw), .fn 79 [.ip (.int .i64 s) 0]]) rfl rfl (fun j hj => ?_) ?_
  · match j, hj with
    | 0, _ => exact frz_row lk_ _ (by simp)
    | 1, _ => exact .fn _ _ _ rfl fun j hj => (by match j, hj with | 0, _ => exact .bref _ _ _ _ _ _ lk_)
  by_cases hm : s ∈ l.map Vw.s
  · rw [if_pos hm]
    obtain ⟨p0, hp0⟩ : ∃ p0, p0 = List.idxOf s (l.map Vw.s) := ⟨_, rfl⟩
    have hpl : p0 < l.length := by
      have := List.idxOf_lt_length_of_mem hm
      rw [List.length_map] at this
      omega
    obtain ⟨x0, hx0⟩ : ∃ x0, l[p0]? = some x0 := ⟨_, List.getElem?_eq_getElem hpl⟩
    have hst := stay_first hm
    rw [← hp0] at hst ⊢
    refine g0_ ?_
    refine g1_ ?_
    refine' loopI (α := Nat × Nat × (List Vw)) (fun (i, j, V) => [(5, .int .i64 i), (6, .int .i64 j)]) [(0, _), (1, _)] (fun (i, j, V) => ⟨bo, .row 3 (V.map encVw) 0⟩ :: ⟨b3, .row 1 [.int .i64 s] 0⟩ :: []) (fun (i, j, V) => j ≤ l.length ∧ i < j ∧ V.length = l.length ∧ V.take i = stayV s (l.take j) ∧ V.drop j = l.drop j) (fun (i, j, V) => l.length - j) (p0, p0 + 1, l) ?_ ?_
    · exact ⟨hpl, Nat.lt_succ_self _, rfl, hst.symm, rfl⟩
    rintro ⟨i, j, V⟩ ⟨hj, hij, hVl, hV, hVd⟩
    have hVm : (V.map encVw).length = V.length := List.length_map _
    by_cases hje : j = l.length
    · subst hje
      rw [List.take_length] at hV
      have hsl : (stayV s l).length = i := by rw [← hV, List.length_take]; omega
      rw [hsl]
      refine g0_ ?_
      refine g1_ ?_
      refine ⟨List.replicate (l.length - i) (Go.Eng.zeroV Tryd.prog 84) ++ List.drop (0 + i + (l.length - i)) (List.map encVw V), trivial, rfl, ?_⟩
      rw [Nat.zero_add, ← List.map_take, hV, List.append_assoc]
      exact wkMem.rfl'
    · have hjl : j < l.length := by omega
      refine g0_ ?_
      (refine g1_ ?_; repeat ((first | refine n1_ fun b_ => ?_ | refine em_ fun x_ hx_ => ?_); refine g1_ ?_))
      rw [Nat.zero_add] at hx_
      obtain ⟨v, rfl⟩ : ∃ z, z = x_ := ⟨_, rfl⟩
      have hx := hx_
      clear hx_
      have hlx : l[j]? = some v := by
        have := congrArg (fun q : List Vw => q[0]?) hVd
        (try dsimp only at this)
        rw [List.getElem?_drop, List.getElem?_drop, Nat.add_zero] at this
        rw [← this]; exact hx
      have hd1 : V.drop (j + 1) = l.drop (j + 1) := by
        have := congrArg (List.drop 1) hVd
        rwa [List.drop_drop, List.drop_drop] at this
      refine (idxVw_okE W v s).borrow (args' := [encVw v, .ip (.int .i64 s) 0]) rfl rfl (fun j hj => ?_) ?_
      · match j, hj with
        | 0, _ => exact .refl _
        | 1, _ => exact .bref _ _ _ _ _ _ lk_
      by_cases hxs : v.s = s
      · rw [decide_eq_true hxs]
        refine g0_ ?_
        refine g1_ ?_
        refine nx_ (i, j + 1, V) ?_ ?_
        · exact ⟨hjl, by omega, hVl, by rw [hV, take_snoc_of hlx, stayV, stayV, List.filter_append]; simp [hxs], hd1⟩
        · ((try dsimp only); (try simp only [List.length_drop, List.length_take, List.length_append, List.length_cons, List.length_nil, List.length_map] at *); omega)
      · rw [decide_eq_false hxs]
        (refine g0_ ?_; repeat (refine em_ fun x_ hx_ => ?_; refine g0_ ?_))
        refine g1_ ?_
        rw [show (PV.agg [.int .i64 v.s, .int .i64 v.w, .int .i64 v.h]) = encVw v from rfl, Nat.zero_add i, ← List.map_set]
        refine nx_ (i + 1, j + 1, V.set i v) ?_ ?_
        · have hsi : (V.set i v)[i]? = some v := by rw [List.getElem?_set, if_pos rfl, if_pos (by omega)]
          refine ⟨hjl, by omega, by rw [List.length_set]; exact hVl, ?_, ?_⟩
          · rw [take_snoc_of hsi, List.take_set, List.set_eq_of_length_le (by rw [List.length_take]; omega), hV, take_snoc_of hlx, stayV, stayV, List.filter_append]
            simp [hxs]
          · rw [List.drop_set_of_lt (by omega)]
            exact hd1
        · ((try dsimp only); (try simp only [List.length_drop, List.length_take, List.length_append, List.length_cons, List.length_nil, List.length_map] at *); omega)
  · rw [if_neg hm]
    have hst : stayV s l = l := stay_all hm
    rw [hst]
    refine g0_ ?_
    refine g1_ ?_
    exact ⟨[], trivial, rfl, by (show wkMem _ [⟨bo, .row 3 (List.map encVw l ++ []) 0⟩, ⟨b3, _⟩]); rw [List.append_nil]; exact wkMem.rfl'⟩
end Go.Eng.YtkenlcaifhffoaaDoor
end

/- Houses: a session goes: house.gone (b_ x_ q_ e_). -/
section
namespace Go.Eng.YtkenlcaifhffoaaDoor
open Go Go.Eng Go.Proofs
variable (W : World)
set_option linter.unusedSimpArgs false
set_option maxRecDepth 100000
set_option linter.unusedVariables false
set_option maxHeartbeats 8000000
def decV (s : Int) (v : Vw) : Vw := if s < v.s then ⟨v.s - 1, v.w, v.h⟩ else v
def goneV (s : Int) (l : List Vw) : List Vw := (stayV s l).map (decV s)
theorem delVw_nil (b3 : Nat) (s : Int) :
    ACalls Tryd.prog W 78 [.nils, .fn 79 [.bref b3 0]] [⟨b3, .row 1 [.int .i64 s] 0⟩]
      (Gives (fun _ : Unit => .nils) (fun _ => [⟨b3, .row 1 [.int .i64 s] 0⟩]) (fun _ => True)) := by
  have hix := idxVw_ok W [] s (by decide)
  rw [if_neg (by simp)] at hix
  refine acalls_of_vc (DL_ok (by decide)) Tryd.func78 rfl (by decide) (by decide) rfl ?_
  refine g0_ ?_
  refine hix.borrow (args' := [.sl 3 [], .fn 79 [.ip (.int .i64 s) 0]]) rfl rfl (fun j hj => ?_) ?_
  · match j, hj with
    | 0, _ => exact .nils 3
    | 1, _ => exact .fn _ _ _ rfl fun j hj => (by match j, hj with | 0, _ => exact .bref _ _ _ _ _ _ lk_)
  refine g0_ ?_
  refine g1_ ?_
  exact ⟨(), trivial, rfl, wkMem.rfl'⟩
def vjV (s : Int) (st : List Vw) (j : Nat) : List Vw := (st.take j).map (decV s) ++ st.drop j
theorem vj_at {s : Int} {st : List Vw} {j : Nat} {v : Vw} (h : st[j]? = some v) : (vjV s st j)[j]? = some v := by
  have hj := lt_of_at h
  rw [vjV, List.getElem?_append_right (by rw [List.length_map, List.length_take]; omega), List.length_map, List.length_take, Nat.min_eq_left (by omega), Nat.sub_self, List.getElem?_drop, Nat.add_zero]
  exact h
theorem vj_len (s : Int) (st : List Vw) (j : Nat) : (vjV s st j).length = st.length := by
  rw [vjV, List.length_append, List.length_map, List.length_take, List.length_drop]; omega
theorem vj_next {s : Int} {st : List Vw} {j : Nat} {v : Vw} (h : st[j]? = some v) : (vjV s st j).set j (decV s v) = vjV s st (j + 1) := by
  have hj := lt_of_at h
  have hl : ((st.take j).map (decV s)).length = j := by rw [List.length_map, List.length_take]; omega
  rw [vjV, vjV, drop_cons_of h, take_snoc_of h, List.map_append, List.set_append_right _ _ (by omega), hl, Nat.sub_self]
  simp
theorem goneH_ok (b bs bo i : Nat) (R : List PV) (l : List Vw) (next : Int) (hc : R.all cellsB = true) (hi : i < R.length) (hR : R.length ≤ 4) (hl : l.length ≤ 4) (hvo : ∀ v ∈ l, v.ok) :
    ACalls Tryd.prog W 37 [.bref b 0, .int .i64 i] [⟨b, .row 3 [.agg [.rsl bs 4 0 R.length, .rsl bo 3 0 l.length, .int .i64 next]] 0⟩, ⟨bs, .row 4 R 0⟩, ⟨bo, .row 3 (l.map encVw) 0⟩]
      (Gives (fun _ : List PV => .tup []) (fun r => [⟨b, .row 3 [.agg [.rsl bs 4 0 (R.length - 1), .rsl bo 3 0 (goneV i l).length, .int .i64 next]] 0⟩, ⟨bs, .row 4 (R.take i ++ R.drop (i + 1) ++ [zSnD]) 0⟩, ⟨bo, .row 3 ((goneV i l).map encVw ++ r) 0⟩]) (fun _ => True)) := by
  have hds := delSnD_ok W bs i (i + 1) rfl R hc hi
  rw [show ((i + 1 : Nat) : Int) = (i : Int) + 1 from rfl] at hds
  refine acalls_of_vc (DL_ok (by decide)) Tryd.func37 rfl (by decide) (by decide) rfl ?_
  (refine g0_ ?_; repeat (refine n1_ fun b_ => ?_; refine g0_ ?_))
  obtain ⟨b3, rfl⟩ : ∃ z, z = b_ := ⟨_, rfl⟩
  refine Draws10.chain ⟨12, [.new, .new, .new, .new, .new, .new, .new, .new, .turn, .skip, .skip, .skip], [(8, [.again, .keep, .keep, .keep, .keep, .keep, .keep, .keep, .keep, .new, .new, .turn]), (11, [.keep, .keep, .keep, .keep, .keep, .keep, .keep, .keep, .keep, .keep, .keep, .keep])], by decide +kernel, ?_⟩; refine g0_ ?_
  refine ACalls.lend1 hds lk_ ?_
  rintro _ -
  refine g0_ ?_
  obtain ⟨st, hst⟩ : ∃ st, st = stayV i l := ⟨_, rfl⟩
  have hdv := delVw_ok W bo b3 i l hl
  rw [← hst] at hdv
  have hsl : st.length ≤ 4 := by
    rw [hst]
    exact Nat.le_trans (List.length_filter_le _ _) hl
  refine ACalls.lend hdv (lookH2 lk_ lk_) ?_
  rintro r -
  refine g0_ ?_
  refine' loopI (α := Nat) (fun j => [(30, .int .i64 j)]) [(0, _), (3, _), (29, _)] (fun j => ⟨b, .row 3 [.agg [.rsl bs 4 0 (R.length - 1), .rsl bo 3 0 st.length, .int .i64 next]] 0⟩ :: ⟨bs, .row 4 (R.take i ++ R.drop (i + 1) ++ [zSnD]) 0⟩ :: ⟨b3, .row 1 [.int .i64 i] 0⟩ :: ⟨bo, .row 3 ((vjV i st j).map encVw ++ r) 0⟩ :: []) (fun j => j ≤ st.length) (fun j => st.length - j) 0 ?_ ?_
  · exact Nat.zero_le _
  rintro j hj
  by_cases hje : j = st.length
  · subst hje
    have hgv : vjV i st st.length = goneV i l := by rw [vjV, List.take_length, List.drop_length, List.append_nil, goneV, hst]
    have hgl : (goneV i l).length = st.length := by rw [goneV, List.length_map, hst]
    rw [hgv, hgl]
    refine g0_ ?_
    refine g1_ ?_
    exact ⟨r, trivial, rfl, wk_⟩
  · have hjl : j < st.length := by omega
    obtain ⟨v, hv⟩ : ∃ v, st[j]? = some v := ⟨_, List.getElem?_eq_getElem hjl⟩
    have hva := vj_at (s := i) hv
    obtain ⟨hvq1, hvq2⟩ := (hvo v (List.mem_filter.1 (show v ∈ stayV i l by rw [hst] at hv; exact List.mem_of_getElem? hv)).1).1
    have hvn := vj_next (s := i) hv
    have hvl := vj_len i st j
    obtain ⟨Q, hQ⟩ : ∃ Q, Q = (vjV i st j).map encVw ++ r := ⟨_, rfl⟩
    have hQl : j < Q.length := by rw [hQ, List.length_append, List.length_map]; omega
    have hb : Q[0 + j]? = some (.agg [.int .i64 v.s, .int .i64 v.w, .int .i64 v.h]) := by
      rw [hQ, Nat.zero_add, List.getElem?_append_left (by rw [List.length_map]; omega), List.getElem?_map, hva]
      rfl
    rw [← hQ]
    by_cases hlt : (i : Int) < v.s
    · have hset : Q.set (0 + j) (.agg [.int .i64 (v.s - 1), .int .i64 v.w, .int .i64 v.h]) = (vjV i st (j + 1)).map encVw ++ r := by
        rw [hQ, Nat.zero_add, List.set_append_left _ _ (by rw [List.length_map]; omega), ← hvn, List.map_set, decV, if_pos hlt]
        rfl
      refine g0_ ?_
      refine g1_ ?_
      refine headL_ (head_ ?_); (refine g0_ ?_; repeat (refine Elem1.mk fun e_ he_ => ?_; refine g0_ ?_))
      (repeat ((first | obtain rfl := Option.some.inj (hb.symm.trans he_) | obtain rfl := Option.some.inj ((set_at hb _).symm.trans he_)); clear he_; refine g0_ ?_))
      (refine g1_ ?_; repeat (refine Elem1.mk fun e_ he_ => ?_; refine g1_ ?_))
      (repeat ((first | obtain rfl := Option.some.inj (hb.symm.trans he_) | obtain rfl := Option.some.inj ((set_at hb _).symm.trans he_)); clear he_; (refine g0_ ?_; repeat (refine Elem1.mk fun e_ he_ => ?_; refine g0_ ?_))))
      refine g1_ ?_
      (repeat ((first | obtain rfl := Option.some.inj (hb.symm.trans he_) | obtain rfl := Option.some.inj ((set_at hb _).symm.trans he_)); clear he_; refine g0_ ?_))
      rw [hset]
      refine nx_ (j + 1) ?_ ?_
      · exact hjl
      · ((try dsimp only); (try simp only [List.length_drop, List.length_take, List.length_append, List.length_cons, List.length_nil, List.length_map] at *); omega)
    · have hsame : vjV i st (j + 1) = vjV i st j := by rw [← hvn, decV, if_neg hlt, set_self hva]
      refine g0_ ?_
      refine g1_ ?_
      refine headL_ (head_ ?_); (refine g0_ ?_; repeat (refine Elem1.mk fun e_ he_ => ?_; refine g0_ ?_))
      (repeat ((first | obtain rfl := Option.some.inj (hb.symm.trans he_) | obtain rfl := Option.some.inj ((set_at hb _).symm.trans he_)); clear he_; refine g0_ ?_))
      refine g1_ ?_
      rw [hQ, ← hsame]
      refine nx_ (j + 1) ?_ ?_
      · exact hjl
      · ((try dsimp only); (try simp only [List.length_drop, List.length_take, List.length_append, List.length_cons, List.length_nil, List.length_map] at *); omega)
theorem goneH_nil (b bs i : Nat) (R : List PV) (next : Int) (hc : R.all cellsB = true) (hi : i < R.length) (hR : R.length ≤ 4) :
    ACalls Tryd.prog W 37 [.bref b 0, .int .i64 i] [⟨b, .row 3 [.agg [.rsl bs 4 0 R.length, .nils, .int .i64 next]] 0⟩, ⟨bs, .row 4 R 0⟩]
      (Gives (fun _ : Unit => .tup []) (fun _ => [⟨b, .row 3 [.agg [.rsl bs 4 0 (R.length - 1), .nils, .int .i64 next]] 0⟩, ⟨bs, .row 4 (R.take i ++ R.drop (i + 1) ++ [zSnD]) 0⟩]) (fun _ => True)) := by
  have hds := delSnD_ok W bs i (i + 1) rfl R hc hi
  rw [show ((i + 1 : Nat) : Int) = (i : Int) + 1 from rfl] at hds
  refine acalls_of_vc (DL_ok (by decide)) Tryd.func37 rfl (by decide) (by decide) rfl ?_
  (refine g0_ ?_; repeat (refine n1_ fun b_ => ?_; refine g0_ ?_))
  obtain ⟨b3, rfl⟩ : ∃ z, z = b_ := ⟨_, rfl⟩
  refine Draws10.chain ⟨12, [.new, .new, .new, .new, .new, .new, .new, .new, .turn, .skip, .skip, .skip], [(8, [.again, .keep, .keep, .keep, .keep, .keep, .keep, .keep, .keep, .new, .new, .turn]), (11, [.keep, .keep, .keep, .keep, .keep, .keep, .keep, .keep, .keep, .keep, .keep, .keep])], by decide +kernel, ?_⟩; refine g0_ ?_
  refine ACalls.lend1 hds lk_ ?_
  rintro _ -
  refine g0_ ?_
  refine ACalls.sameN (delVw_nil W b3 i) (lookH1 lk_) ?_
  refine g0_ ?_
  refine' loopI (α := Nat) (fun j => [(30, .int .i64 j)]) [(0, _), (3, _), (29, _)] (fun j => ⟨b, .row 3 [.agg [.rsl bs 4 0 (R.length - 1), .nils, .int .i64 next]] 0⟩ :: ⟨bs, .row 4 (R.take i ++ R.drop (i + 1) ++ [zSnD]) 0⟩ :: ⟨b3, .row 1 [.int .i64 i] 0⟩ :: []) (fun j => j = 0) (fun j => 0) 0 ?_ ?_
  · rfl
  rintro j rfl
  refine g0_ ?_
  refine g1_ ?_
  exact ⟨(), trivial, rfl, wk_⟩
end Go.Eng.YtkenlcaifhffoaaDoor
end
