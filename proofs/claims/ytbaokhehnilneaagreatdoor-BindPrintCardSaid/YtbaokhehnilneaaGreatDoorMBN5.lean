/- Texts put together: BndT. -/
import Derived.Test.YtbaokhehnilneaaGreatDoorMBN4
import Derived.Test.YtbaokhehnilneaaGreatDoorMKY8
/- The check of a table by the reference; the laws BindWords, BindStruck (b_ x_ q_ e_). -/
section
namespace Go.Eng.YtbaokhehnilneaaGreatDoor
open Go Go.Eng Go.Proofs Go.Maps
variable (W : World)
set_option linter.unusedSimpArgs false
set_option maxRecDepth 100000
set_option linter.unusedVariables false
set_option maxHeartbeats 8000000
theorem bcheckR_ok (hN : Nums W) (hM : MaxJ W) (t : BTab) (hok : t.ok) : Pure Tryz.prog W 5 [encTab t] (.int .i64 (checkT t)) := by
  obtain ⟨pre, L⟩ := t
  obtain ⟨hp, hL, hlen⟩ := hok
  dsimp only at *
  have hc : Pure Tryz.prog W 11 [.agg [.int .i64 pre.kind, .int .i32 pre.r, .int .i64 pre.n, .int .i64 pre.held]] (.bool (decide (isKey pre))) := isKeyR_ok W hN pre hp
  have hlm : (L.map encBnd).length = L.length := List.length_map _
  unfold encTab
  dsimp only at *
  by_cases h1 : isKey pre
  · rw [decide_eq_true h1] at hc
    by_cases h2 : 20 < L.length
    · have e : checkT ⟨pre, L⟩ = 2 := by unfold checkT; rw [if_neg (by simpa using h1), if_pos h2]
      rw [e]
      refine Pure.of (acalls_of_vc (drawOk W) Tryz.func5 rfl (by decide) (by decide) rfl ?_)
      (refine g0_ ?_; repeat ((first | refine n1_ fun b_ => ?_ | refine n2_ fun b_ => ?_ | refine Nat1.mk fun q_ hq_ => ?_ | refine em_ fun x_ hx_ => ?_ | refine Elem1.mk fun e_ he_ => ?_); refine g0_ ?_))
      refine (hc).use ?_; (refine g0_ ?_; repeat ((first | refine n1_ fun b_ => ?_ | refine n2_ fun b_ => ?_ | refine Nat1.mk fun q_ hq_ => ?_ | refine em_ fun x_ hx_ => ?_ | refine Elem1.mk fun e_ he_ => ?_); refine g0_ ?_))
      (refine g1_ ?_; repeat ((first | refine n1_ fun b_ => ?_ | refine n2_ fun b_ => ?_ | refine Nat1.mk fun q_ hq_ => ?_ | refine em_ fun x_ hx_ => ?_ | refine Elem1.mk fun e_ he_ => ?_); refine g1_ ?_))
      exact .refl _
    · have e : checkT ⟨pre, L⟩ = checkB [] L := by unfold checkT; rw [if_neg (by simpa using h1), if_neg h2]
      rw [e]
      generalize hR : checkB [] L = R
      refine Pure.of (acalls_of_vc (drawOk W) Tryz.func5 rfl (by decide) (by decide) rfl ?_)
      (refine g0_ ?_; repeat ((first | refine n1_ fun b_ => ?_ | refine n2_ fun b_ => ?_ | refine Nat1.mk fun q_ hq_ => ?_ | refine em_ fun x_ hx_ => ?_ | refine Elem1.mk fun e_ he_ => ?_); refine g0_ ?_))
      refine (hc).use ?_; (refine g0_ ?_; repeat ((first | refine n1_ fun b_ => ?_ | refine n2_ fun b_ => ?_ | refine Nat1.mk fun q_ hq_ => ?_ | refine em_ fun x_ hx_ => ?_ | refine Elem1.mk fun e_ he_ => ?_); refine g0_ ?_))
      (refine g1_ ?_; repeat ((first | refine n1_ fun b_ => ?_ | refine n2_ fun b_ => ?_ | refine Nat1.mk fun q_ hq_ => ?_ | refine em_ fun x_ hx_ => ?_ | refine Elem1.mk fun e_ he_ => ?_); refine g1_ ?_))
      obtain ⟨bt, rfl⟩ : ∃ b1, b1 = b_ := ⟨_, rfl⟩
      refine' loopI (α := Nat) (fun i => [(20, .int .i64 i)]) [(1, _), (18, _), (19, _)] (fun i => [⟨bt, .row 5 [.agg [.int .i64 pre.kind, .int .i32 pre.r, .int .i64 pre.n, .int .i64 pre.held, .sl 5 (L.map encBnd)]] 0⟩]) (fun i => i ≤ L.length ∧ checkB (keysB (L.take i)) (L.drop i) = R) (fun i => L.length - i) 0 ?_ ?_
      · exact ⟨Nat.zero_le _, hR⟩
      rintro i ⟨hi, hr⟩
      by_cases h3 : i = L.length
      · subst h3
        rw [List.drop_length] at hr
        have : R = 0 := hr.symm
        subst this
        (refine g0_ ?_; repeat ((first | refine n1_ fun b_ => ?_ | refine n2_ fun b_ => ?_ | refine Nat1.mk fun q_ hq_ => ?_ | refine em_ fun x_ hx_ => ?_ | refine Elem1.mk fun e_ he_ => ?_); refine g0_ ?_))
        (refine g1_ ?_; repeat ((first | refine n1_ fun b_ => ?_ | refine n2_ fun b_ => ?_ | refine Nat1.mk fun q_ hq_ => ?_ | refine em_ fun x_ hx_ => ?_ | refine Elem1.mk fun e_ he_ => ?_); refine g1_ ?_))
        exact .refl _
      · obtain ⟨b, hb⟩ : ∃ b, L[i]? = some b := ⟨L[i]'(by omega), List.getElem?_eq_getElem _⟩
        have hbm := hL b (List.mem_of_getElem? hb)
        have hcb : Pure Tryz.prog W 11 [.agg [.int .i64 b.k.kind, .int .i32 b.k.r, .int .i64 b.k.n, .int .i64 b.k.held]] (.bool (decide (isKey b.k))) := isKeyR_ok W hN b.k hbm.1
        have hw := bwordsOf_ok W hM b.cmd hbm.2
        rw [drop_cons_of hb, checkB] at hr
        by_cases h4 : isKey b.k
        · rw [decide_eq_true h4] at hcb
          rw [if_neg (by simpa using h4)] at hr
          (refine g0_ ?_; repeat ((first | refine n1_ fun b_ => ?_ | refine n2_ fun b_ => ?_ | refine Nat1.mk fun q_ hq_ => ?_ | refine em_ fun x_ hx_ => ?_ | refine Elem1.mk fun e_ he_ => ?_); refine g0_ ?_))
          (refine g1_ ?_; repeat ((first | refine n1_ fun b_ => ?_ | refine n2_ fun b_ => ?_ | refine Nat1.mk fun q_ hq_ => ?_ | refine em_ fun x_ hx_ => ?_ | refine Elem1.mk fun e_ he_ => ?_); refine g1_ ?_))
          refine (hcb).use ?_; (refine g0_ ?_; repeat ((first | refine n1_ fun b_ => ?_ | refine n2_ fun b_ => ?_ | refine Nat1.mk fun q_ hq_ => ?_ | refine em_ fun x_ hx_ => ?_ | refine Elem1.mk fun e_ he_ => ?_); refine g0_ ?_))
          (refine g1_ ?_; repeat ((first | refine n1_ fun b_ => ?_ | refine n2_ fun b_ => ?_ | refine Nat1.mk fun q_ hq_ => ?_ | refine em_ fun x_ hx_ => ?_ | refine Elem1.mk fun e_ he_ => ?_); refine g1_ ?_))
          have hlt : (List.map encBnd (List.take i L)).length = i := by rw [List.length_map, List.length_take]; omega
          obtain ⟨bb, rfl⟩ : ∃ b1, b1 = b_ := ⟨_, rfl⟩
          refine' loopI (α := Nat) (fun j => [(34, .int .i64 j)]) [(1, _), (4, _), (18, _), (19, _), (20, _), (32, _), (33, _)] (fun j => [⟨bb, .row 5 [encBnd b] 0⟩, ⟨bt, .row 5 [.agg [.int .i64 pre.kind, .int .i32 pre.r, .int .i64 pre.n, .int .i64 pre.held, .sl 5 (L.map encBnd)]] 0⟩]) (fun j => j ≤ i ∧ ¬ b.k ∈ keysB (L.take j)) (fun j => i - j) 0 ?_ ?_
          · exact ⟨Nat.zero_le _, by simp [keysB]⟩
          rintro j ⟨hj, hnj⟩
          by_cases h5 : j = i
          · subst h5
            rw [if_neg hnj, ← keysB_snoc hb] at hr
            generalize wordsB b.cmd = wr at *
            obtain ⟨wl, we⟩ := wr
            dsimp only at hw hr
            by_cases h6 : we = 0
            · subst h6
              rw [if_neg (by simp)] at hr
              (refine g0_ ?_; repeat ((first | refine n1_ fun b_ => ?_ | refine n2_ fun b_ => ?_ | refine Nat1.mk fun q_ hq_ => ?_ | refine em_ fun x_ hx_ => ?_ | refine Elem1.mk fun e_ he_ => ?_); refine g0_ ?_))
              (refine g1_ ?_; repeat ((first | refine n1_ fun b_ => ?_ | refine n2_ fun b_ => ?_ | refine Nat1.mk fun q_ hq_ => ?_ | refine em_ fun x_ hx_ => ?_ | refine Elem1.mk fun e_ he_ => ?_); refine g1_ ?_))
              refine (hw).use ?_; (refine g0_ ?_; repeat ((first | refine n1_ fun b_ => ?_ | refine n2_ fun b_ => ?_ | refine Nat1.mk fun q_ hq_ => ?_ | refine em_ fun x_ hx_ => ?_ | refine Elem1.mk fun e_ he_ => ?_); refine g0_ ?_))
              (refine g1_ ?_; repeat ((first | refine n1_ fun b_ => ?_ | refine n2_ fun b_ => ?_ | refine Nat1.mk fun q_ hq_ => ?_ | refine em_ fun x_ hx_ => ?_ | refine Elem1.mk fun e_ he_ => ?_); refine g1_ ?_))
              refine nx_ (j + 1) ?_ ?_
              · exact ⟨by omega, hr⟩
              · ((try dsimp only); (try simp only [List.length_drop, List.length_take, List.length_append, List.length_cons, List.length_nil, List.length_map] at *); omega)
            · rw [if_pos h6] at hr
              subst hr
              (refine g0_ ?_; repeat ((first | refine n1_ fun b_ => ?_ | refine n2_ fun b_ => ?_ | refine Nat1.mk fun q_ hq_ => ?_ | refine em_ fun x_ hx_ => ?_ | refine Elem1.mk fun e_ he_ => ?_); refine g0_ ?_))
              (refine g1_ ?_; repeat ((first | refine n1_ fun b_ => ?_ | refine n2_ fun b_ => ?_ | refine Nat1.mk fun q_ hq_ => ?_ | refine em_ fun x_ hx_ => ?_ | refine Elem1.mk fun e_ he_ => ?_); refine g1_ ?_))
              refine (hw).use ?_; (refine g0_ ?_; repeat ((first | refine n1_ fun b_ => ?_ | refine n2_ fun b_ => ?_ | refine Nat1.mk fun q_ hq_ => ?_ | refine em_ fun x_ hx_ => ?_ | refine Elem1.mk fun e_ he_ => ?_); refine g0_ ?_))
              (refine g1_ ?_; repeat ((first | refine n1_ fun b_ => ?_ | refine n2_ fun b_ => ?_ | refine Nat1.mk fun q_ hq_ => ?_ | refine em_ fun x_ hx_ => ?_ | refine Elem1.mk fun e_ he_ => ?_); refine g1_ ?_))
              exact .refl _
          · obtain ⟨o, ho⟩ : ∃ o, L[j]? = some o := ⟨L[j]'(by omega), List.getElem?_eq_getElem _⟩
            have hot : (List.take i L)[j]? = some o := by rw [List.getElem?_take_of_lt (by omega)]; exact ho
            have hoo := (hL o (List.mem_of_getElem? ho)).1
            have hE := eql_key o.k b.k hoo hbm.1
            have hs := keysB_snoc ho
            by_cases h6 : o.k = b.k
            · rw [decide_eq_true h6] at hE
              have hin : b.k ∈ keysB (L.take i) := List.mem_map.2 ⟨o, List.mem_of_getElem? hot, h6⟩
              rw [if_pos hin] at hr
              subst hr
              (refine g0_ ?_; repeat ((first | refine n1_ fun b_ => ?_ | refine n2_ fun b_ => ?_ | refine Nat1.mk fun q_ hq_ => ?_ | refine em_ fun x_ hx_ => ?_ | refine Elem1.mk fun e_ he_ => ?_); refine g0_ ?_))
              (refine g1_ ?_; repeat ((first | refine n1_ fun b_ => ?_ | refine n2_ fun b_ => ?_ | refine Nat1.mk fun q_ hq_ => ?_ | refine em_ fun x_ hx_ => ?_ | refine Elem1.mk fun e_ he_ => ?_); refine g1_ ?_))
              refine ⟨_, hE _ _, ?_⟩
              (refine g1_ ?_; repeat ((first | refine n1_ fun b_ => ?_ | refine n2_ fun b_ => ?_ | refine Nat1.mk fun q_ hq_ => ?_ | refine em_ fun x_ hx_ => ?_ | refine Elem1.mk fun e_ he_ => ?_); refine g1_ ?_))
              exact .refl _
            · rw [decide_eq_false h6] at hE
              (refine g0_ ?_; repeat ((first | refine n1_ fun b_ => ?_ | refine n2_ fun b_ => ?_ | refine Nat1.mk fun q_ hq_ => ?_ | refine em_ fun x_ hx_ => ?_ | refine Elem1.mk fun e_ he_ => ?_); refine g0_ ?_))
              (refine g1_ ?_; repeat ((first | refine n1_ fun b_ => ?_ | refine n2_ fun b_ => ?_ | refine Nat1.mk fun q_ hq_ => ?_ | refine em_ fun x_ hx_ => ?_ | refine Elem1.mk fun e_ he_ => ?_); refine g1_ ?_))
              refine ⟨_, hE _ _, ?_⟩
              (refine g1_ ?_; repeat ((first | refine n1_ fun b_ => ?_ | refine n2_ fun b_ => ?_ | refine Nat1.mk fun q_ hq_ => ?_ | refine em_ fun x_ hx_ => ?_ | refine Elem1.mk fun e_ he_ => ?_); refine g1_ ?_))
              refine nx_ (j + 1) ?_ ?_
              · refine ⟨by omega, ?_⟩
                rw [hs]
                intro hin
                rcases List.mem_append.1 hin with hin | hin
                · exact hnj hin
                · exact h6 (List.mem_singleton.1 hin).symm
              · ((try dsimp only); (try simp only [List.length_drop, List.length_take, List.length_append, List.length_cons, List.length_nil, List.length_map] at *); omega)
        · rw [decide_eq_false h4] at hcb
          rw [if_pos h4] at hr
          subst hr
          (refine g0_ ?_; repeat ((first | refine n1_ fun b_ => ?_ | refine n2_ fun b_ => ?_ | refine Nat1.mk fun q_ hq_ => ?_ | refine em_ fun x_ hx_ => ?_ | refine Elem1.mk fun e_ he_ => ?_); refine g0_ ?_))
          (refine g1_ ?_; repeat ((first | refine n1_ fun b_ => ?_ | refine n2_ fun b_ => ?_ | refine Nat1.mk fun q_ hq_ => ?_ | refine em_ fun x_ hx_ => ?_ | refine Elem1.mk fun e_ he_ => ?_); refine g1_ ?_))
          refine (hcb).use ?_; (refine g0_ ?_; repeat ((first | refine n1_ fun b_ => ?_ | refine n2_ fun b_ => ?_ | refine Nat1.mk fun q_ hq_ => ?_ | refine em_ fun x_ hx_ => ?_ | refine Elem1.mk fun e_ he_ => ?_); refine g0_ ?_))
          (refine g1_ ?_; repeat ((first | refine n1_ fun b_ => ?_ | refine n2_ fun b_ => ?_ | refine Nat1.mk fun q_ hq_ => ?_ | refine em_ fun x_ hx_ => ?_ | refine Elem1.mk fun e_ he_ => ?_); refine g1_ ?_))
          exact .refl _
  · rw [decide_eq_false h1] at hc
    have e : checkT ⟨pre, L⟩ = 5 := by unfold checkT; rw [if_pos h1]
    rw [e]
    refine Pure.of (acalls_of_vc (drawOk W) Tryz.func5 rfl (by decide) (by decide) rfl ?_)
    (refine g0_ ?_; repeat ((first | refine n1_ fun b_ => ?_ | refine n2_ fun b_ => ?_ | refine Nat1.mk fun q_ hq_ => ?_ | refine em_ fun x_ hx_ => ?_ | refine Elem1.mk fun e_ he_ => ?_); refine g0_ ?_))
    refine (hc).use ?_; (refine g0_ ?_; repeat ((first | refine n1_ fun b_ => ?_ | refine n2_ fun b_ => ?_ | refine Nat1.mk fun q_ hq_ => ?_ | refine em_ fun x_ hx_ => ?_ | refine Elem1.mk fun e_ he_ => ?_); refine g0_ ?_))
    (refine g1_ ?_; repeat ((first | refine n1_ fun b_ => ?_ | refine n2_ fun b_ => ?_ | refine Nat1.mk fun q_ hq_ => ?_ | refine em_ fun x_ hx_ => ?_ | refine Elem1.mk fun e_ he_ => ?_); refine g1_ ?_))
    exact .refl _
end Go.Eng.YtbaokhehnilneaaGreatDoor
end
